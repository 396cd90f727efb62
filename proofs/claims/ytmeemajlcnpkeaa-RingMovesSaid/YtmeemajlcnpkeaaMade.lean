import Derived.Test.YtmeemajlcnpkeaaRingNew
import Derived.Test.YtmeemajlcnpkeaaPlace
/- What the statements of layer 22 call: few, made, awake, the ring's points. -/
namespace Go.Proofs.Ytmeemajlcnpkeaa
open Go.RowKit
def fewB (bs : List Bk) : Bool := decide (bs.length ≤ 81) && bs.all (fun b => decide (b.addr.size ≤ 300))
set_option maxRecDepth 100000 in
set_option maxHeartbeats 2000000 in
theorem few_any (bs : List Bk) (a : Option Addr) (cap : Nat) (w : World) (hin : BkIn w a bs) (hok : BkOk bs) :
    Calls Try.prog 9 #[.slice a bs.length cap] w fun e w' => e = .returned (.bool (fewB bs)) ∧ w' = w := by
  have HI := Lib.hid hin
  have HO := Lib.hid hok
  clear hin hok
  go_enter Try.func9, Try.ntmps9
  go_wp2_with (fail)
  go_loop [3] (fun i => ∃ k : Nat, k ≤ bs.length ∧ i = .int .i64 k ∧ k ≤ 81 ∧ Hid ((bs.take k).all (fun b => decide (b.addr.size ≤ 300)) = true)) (fun i => bs.length - (intOf i).toNat)
  case atStart => exact ⟨0, by omega, rfl, by omega, rfl⟩
  case round =>
    obtain ⟨k, hk, rfl, hk81, hall⟩ := hrel
    by_cases hlt : k < bs.length
    · obtain ⟨x, rfl, c0, c1, c2⟩ := HI.out k hlt
      have hsz := (HO.out bs[k] (List.getElem_mem hlt)).2.1
      obtain ⟨ad, had⟩ : ∃ ad, ad = bs[k].addr := ⟨_, rfl⟩
      rw [← had] at c1 hsz
      have HAD := Lib.hid had
      clear c0 c2 had
      by_cases h3 : ad.size ≤ 300
      · have h3' : ¬ (300 : Int) < (ad.size : Int) := by omega
        by_cases h4 : k ≤ 80
        · have h4' : ¬ (80 : Int) < (k : Int) := by omega
          have A2 : Hid ((bs.take (k + 1)).all (fun b => decide (b.addr.size ≤ 300)) = true) := show _ = true by
            rw [take_one bs k hlt, List.all_append, hall.out, Bool.true_and, List.all_cons, List.all_nil, Bool.and_true, ← HAD.out]; exact decide_eq_true h3
          go_wp2_with (fail)
          exact ⟨⟨k + 1, by omega, by go_num, by omega, A2⟩, by simp [intOf] <;> omega⟩
        · have h4' : (80 : Int) < (k : Int) := by omega
          have e0 : Hid (fewB bs = false) := show fewB bs = false by
            unfold fewB; rw [decide_eq_false (by omega)]; rfl
          go_wp2_with (fail)
          go_ret
          exact ⟨by rw [e0.out]; rfl, rfl⟩
      · have h3' : (300 : Int) < (ad.size : Int) := by omega
        have e0 : Hid (fewB bs = false) := show fewB bs = false by
          unfold fewB
          rw [Bool.and_eq_false_iff]
          right
          rw [List.all_eq_false]
          exact ⟨bs[k], List.getElem_mem hlt, by rw [← HAD.out]; simpa using h3⟩
        go_wp2_with (fail)
        go_ret
        exact ⟨by rw [e0.out]; rfl, rfl⟩
    · obtain rfl : k = bs.length := by omega
      have e0 : Hid (fewB bs = true) := show fewB bs = true by
        have h := hall.out
        rw [List.take_length] at h
        unfold fewB; rw [decide_eq_true hk81, h]; rfl
      go_wp2_with (fail)
      go_ret
      exact ⟨by rw [e0.out]; rfl, rfl⟩
def madePost (bs : List Bk) (w : World) (e : Ending) (w' : World) : Prop :=
  Below w.heap.size w w' ∧ (newE bs ≠ 0 → e = .returned (.pointer none)) ∧
  (newE bs = 0 → ∃ R v ps, e = .returned (.pointer (some ⟨R, 0, none⟩)) ∧ RingAt w.heap.size R v ps w' ∧ ps.Perm (gath bs bs.length) ∧ ps.Pairwise ptle)
set_option maxRecDepth 100000 in
set_option maxHeartbeats 2000000 in
theorem made_any (bs : List Bk) (a : Option Addr) (cap : Nat) (w : World) (hl : bs.length ≤ 100) (hin : BkIn w a bs) (hok : BkOk bs) :
    Calls Try.prog 20 #[.slice a bs.length cap] w fun e w' => madePost bs w e w' := by
  have C := Lib.hid (newA bs a cap w hl hin hok)
  clear hin hok
  by_cases h : newE bs = 0
  · go_enter Try.func20, Try.ntmps20
    go_wp2_with (go_at_call 12; refine C.out.mono ?_; rintro e w1 ⟨hb, _, h0⟩; obtain ⟨R, v, ps, rfl, h1, h2, h3⟩ := h0 h)
    go_ret
    exact ⟨hb, fun h' => absurd h h', fun _ => ⟨R, v, ps, rfl, h1, h2, h3⟩⟩
  · have hne : (newE bs != 0) = true := by rw [bne_iff_ne]; exact h
    go_enter Try.func20, Try.ntmps20
    go_wp2_with (go_at_call 12; refine C.out.mono ?_; rintro e w1 ⟨hb, h0, _⟩; obtain rfl := h0 h)
    go_ret
    exact ⟨hb, fun _ => rfl, fun h' => absurd h' h⟩
end Go.Proofs.Ytmeemajlcnpkeaa
