import Derived.Test.YtmeemajlcnpkeaaRef22d
/- The document's Find. -/
namespace Go.Proofs.Ytmeemajlcnpkeaa
open Go.RowKit
def InvF (ps : List (Nat × Nat)) (k : Nat) (f : Nat × Nat) : Prop := f ∈ ps ∧ ∀ y ∈ ps.take k, ptle f y
theorem take_mem {ps : List (Nat × Nat)} {k : Nat} (hk : k < ps.length) {y : Nat × Nat} (h : y ∈ ps.take (k + 1)) : y ∈ ps.take k ∨ y = ps[k] := by
  rw [take_one ps k hk, List.mem_append, List.mem_singleton] at h; exact h
theorem InvF.yes {ps : List (Nat × Nat)} {k : Nat} {f : Nat × Nat} (h : InvF ps k f) (hk : k < ps.length) (hc : aheadB ps[k] f = true) : InvF ps (k + 1) ps[k] :=
  ⟨List.getElem_mem hk, fun y hy => by
    rcases take_mem hk hy with h1 | h1
    · exact ptle_trans (ahead_true hc) (h.2 y h1)
    · rw [h1]; exact ptle_refl _⟩
theorem InvF.no {ps : List (Nat × Nat)} {k : Nat} {f : Nat × Nat} (h : InvF ps k f) (hk : k < ps.length) (hc : aheadB ps[k] f = false) : InvF ps (k + 1) f :=
  ⟨h.1, fun y hy => by
    rcases take_mem hk hy with h1 | h1
    · exact h.2 y h1
    · rw [h1]; exact ahead_false hc⟩
def InvB (ps : List (Nat × Nat)) (n k : Nat) (bst : Int) : Prop :=
  (bst = -1 ∧ ∀ y ∈ ps.take k, y.1 < n) ∨ ∃ b : Nat, bst = b ∧ ∃ hb : b < ps.length, n ≤ ps[b].1 ∧ ∀ y ∈ ps.take k, n ≤ y.1 → ptle ps[b] y
theorem InvB.lt {ps : List (Nat × Nat)} {n k : Nat} {bst : Int} (h : InvB ps n k bst) (hk : k < ps.length) (hx : ps[k].1 < n) : InvB ps n (k + 1) bst := by
  rcases h with ⟨e, h⟩ | ⟨b, e, hb, h1, h2⟩
  · refine .inl ⟨e, fun y hy => ?_⟩
    rcases take_mem hk hy with h3 | h3
    · exact h y h3
    · rw [h3]; exact hx
  · refine .inr ⟨b, e, hb, h1, fun y hy hn => ?_⟩
    rcases take_mem hk hy with h3 | h3
    · exact h2 y h3 hn
    · rw [h3] at hn; omega
theorem InvB.neg {ps : List (Nat × Nat)} {n k : Nat} (h : InvB ps n k (-1)) (hk : k < ps.length) (hx : n ≤ ps[k].1) : InvB ps n (k + 1) k := by
  rcases h with ⟨_, h⟩ | ⟨b, e, _⟩
  · refine .inr ⟨k, rfl, hk, hx, fun y hy hn => ?_⟩
    rcases take_mem hk hy with h3 | h3
    · have := h y h3; omega
    · rw [h3]; exact ptle_refl _
  · omega
theorem InvB.yes {ps : List (Nat × Nat)} {n k b : Nat} (h : InvB ps n k b) (hk : k < ps.length) (hb : b < ps.length) (hx : n ≤ ps[k].1) (hc : aheadB ps[k] ps[b] = true) : InvB ps n (k + 1) k := by
  rcases h with ⟨e, _⟩ | ⟨b', e, hb', h1, h2⟩
  · omega
  · obtain rfl : b' = b := by omega
    refine .inr ⟨k, rfl, hk, hx, fun y hy hn => ?_⟩
    rcases take_mem hk hy with h3 | h3
    · exact ptle_trans (ahead_true hc) (h2 y h3 hn)
    · rw [h3]; exact ptle_refl _
theorem InvB.no {ps : List (Nat × Nat)} {n k b : Nat} (h : InvB ps n k b) (hk : k < ps.length) (hb : b < ps.length) (hc : aheadB ps[k] ps[b] = false) : InvB ps n (k + 1) b := by
  rcases h with ⟨e, _⟩ | ⟨b', e, hb', h1, h2⟩
  · omega
  · obtain rfl : b' = b := by omega
    refine .inr ⟨b', rfl, hb', h1, fun y hy hn => ?_⟩
    rcases take_mem hk hy with h3 | h3
    · exact h2 y h3 hn
    · rw [h3]; exact ahead_false hc
/-- what the loop has found at its end -/
theorem inv_end {ps qs : List (Nat × Nat)} {n : Nat} {f : Nat × Nat} {bst : Int} (hp : qs.Perm ps) (hs : qs.Pairwise ptle) (hf : InvF ps ps.length f) (hb : InvB ps n ps.length bst) :
    (bst = -1 ∧ own qs n = f.2) ∨ ∃ b : Nat, bst = b ∧ ∃ hb : b < ps.length, own qs n = ps[b].2 := by
  obtain ⟨f1, f2⟩ := hf
  rw [List.take_length] at f2
  rcases hb with ⟨e, h⟩ | ⟨b, e, hb, h1, h2⟩
  · rw [List.take_length] at h
    exact .inl ⟨e, own_first qs n hs f (hp.mem_iff.2 f1) (fun y hy => h y (hp.mem_iff.1 hy)) (fun y hy => f2 y (hp.mem_iff.1 hy))⟩
  · rw [List.take_length] at h2
    exact .inr ⟨b, e, hb, own_least qs n hs ps[b] (hp.mem_iff.2 (List.getElem_mem hb)) h1 (fun y hy hn => h2 y (hp.mem_iff.1 hy) hn)⟩
set_option maxRecDepth 100000 in
set_option maxHeartbeats 1000000 in
theorem rfind_none (n : Nat) (a : Option Addr) (c : Nat) (w : World) :
    Calls Try.prog 16 #[.slice a 0 c, .int .u64 n] w fun e w' => e = .returned (.tuple #[.int .i64 0, .bool false]) ∧ w' = w := by
  go_enter Try.func16, Try.ntmps16
  go_wp2_with (fail)
  go_ret2
  exact ⟨rfl, rfl⟩
end Go.Proofs.Ytmeemajlcnpkeaa
