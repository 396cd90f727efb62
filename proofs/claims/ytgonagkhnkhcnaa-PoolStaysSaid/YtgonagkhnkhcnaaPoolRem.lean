import Derived.Test.YtgonagkhnkhcnaaPoolAdd
/- (*Pool).Remove. -/
namespace Go.Proofs.Ytgonagkhnkhcnaa
set_option maxRecDepth 100000
open Go.RowKit
def remE (L : List Bk) (i : Int) : Int := if i ∈ ids L then 0 else 7
theorem out_none {L : List Bk} {i : Int} (h : i ∉ ids L) : out L i = L := by
  unfold out
  rw [List.filter_eq_self]
  intro b hb
  have : b.id ≠ i := fun e => h (ids_mem.2 ⟨b, hb, e⟩)
  simpa using this
set_option maxHeartbeats 4000000 in
theorem rem_any (B P M : Nat) (L : List Bk) (ps : List (Nat × Nat)) (i : Int) (w : World) (h : PoolAt B P M L ps w) (hi : (Lit.int .i64 i).wf = true) :
    Calls Try.prog 11 #[.pointer (some ⟨P, 0, none⟩), .int .i64 i] w fun e w' => e = .returned (.int .i64 (remE L i)) ∧ (∃ ps', PoolAt B P M (out L i) ps' w') ∧ Below B w w' ∧ (∀ k, k < w.heap.size → k ≠ P → k ≠ M → w'.heap[k]? = w.heap[k]?) := by
  have hBw : B ≤ w.heap.size := by
    obtain ⟨R, u, h1, _⟩ := h.ring
    have := heap_lt h1
    have := h.bP
    omega
  have HBW := Lib.hid hBw
  have HH := Lib.hid h
  have HI := Lib.hid hi
  have hsf := fun (b : Nat) (W : World) (c : Addr) (m : Mode) => store_float W c b m
  have d0 := h.cells
  have l0 := h.pm.look i hi
  obtain ⟨⟨gi, gs, gf⟩, hg⟩ : ∃ b, b = got L i := ⟨_, rfl⟩
  rw [show (get L i).getD ⟨0, ⟨#[]⟩, 0⟩ = got L i from rfl, ← hg] at l0
  unfold bkv at l0
  simp only at l0
  by_cases hm : i ∈ ids L
  · have his : (get L i).isSome = true := by rw [get_some, decide_eq_true hm]
    rw [his] at l0
    have e1 : Hid (remE L i = 0) := show _ = _ by unfold remE; rw [if_pos hm]
    obtain ⟨W2, hW2⟩ : ∃ W2, W2 = w.alloc (.cells #[.int .i64 gi, .string gs, .float .f64 gf] 32) := ⟨_, rfl⟩
    have hb2 : Below w.heap.size w W2 := by rw [hW2]; exact (Below.refl _ w).alloc (Nat.le_refl _) _
    have h2 := h.below hb2
    have d2 := h2.cells
    obtain ⟨R, u, hr1, hr2⟩ := h.ring
    have hPl := heap_lt hr1
    have hPM : P ≠ M := fun e => by
      obtain ⟨es, clock, h1⟩ := h.pm.obj
      rw [← e, hr1] at h1
      cases h1
    obtain ⟨w4, q1, q2, q3⟩ := h2.pm.drop i hm hi 0
    have hb04 : ∀ k, k < w.heap.size → k ≠ M → w4.heap[k]? = w.heap[k]? := fun k hk hne => by
      rw [q3.block k (Nat.lt_of_lt_of_le hk hb2.size) (fun e => hne (by injection e)), hb2.block k hk]
    have hp4 : w4.heap[P]? = some (.cells #[.map (some M), fnv R] 53 (0, 0)) := by rw [hb04 P hPl hPM]; exact hr1
    have hbB4 : Below B w w4 := (hb2.mono hBw).grown q3 (Nat.le_trans hBw hb2.size) (fun q hq => by injection hq with hq; rw [← hq]; exact h.bM)
    have T := Lib.hid (turn_any B P M (fnv R) (out L i) w4 hp4 q2 (h.good.out i) h.bP h.bM)
    have HB04 := Lib.hid hb04
    have HBB4 := Lib.hid hbB4
    have HSZ4 : Hid (w.heap.size ≤ w4.heap.size) := show w.heap.size ≤ w4.heap.size from Nat.le_trans hb2.size (grown_size q3)
    rw [hW2] at d2 q1
    clear h h2 hb2 hW2 hr1 hr2 hPl hPM q2 q3 hb04 hp4 hbB4 hBw hi hg hm his
    go_enter Try.func11, Try.ntmps11
    go_wp2_with (go_at_call 20; refine T.out.mono ?_; rintro e w5 ⟨rfl, t1, t2, t3⟩)
    go_ret
    exact ⟨by rw [e1.out]; rfl, t1, HBB4.out.trans t2, fun k hk h1 h2 => by rw [t3 k (Nat.lt_of_lt_of_le hk HSZ4.out) h1]; exact HB04.out k hk h2⟩
  · have his : (get L i).isSome = false := by rw [get_some, decide_eq_false hm]
    rw [his] at l0
    have e1 : Hid (remE L i = 7) := show _ = _ by unfold remE; rw [if_neg hm]
    have e2 : Hid (out L i = L) := out_none hm
    clear h hBw hi hg hm his
    go_enter Try.func11, Try.ntmps11
    go_wp2_with (fail)
    go_ret
    have hb02 : Below w.heap.size w (w.alloc (.cells #[.int .i64 gi, .string gs, .float .f64 gf] 32)) := (Below.refl _ w).alloc (Nat.le_refl _) _
    exact ⟨by rw [e1.out]; rfl, ⟨ps, by rw [e2.out]; exact HH.out.below hb02⟩, hb02.mono HBW.out, fun k hk _ _ => hb02.block k hk⟩
end Go.Proofs.Ytgonagkhnkhcnaa
