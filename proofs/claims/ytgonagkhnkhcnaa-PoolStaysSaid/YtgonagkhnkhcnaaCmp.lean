import Derived.Test.YtgonagkhnkhcnaaRingSt
import Derived.Sort.Grow
/- The comparison of two points. -/
namespace Go.Proofs.Ytgonagkhnkhcnaa
set_option maxRecDepth 100000
open Go.RowKit
def cmpI (x y : Int) : Int := if x < y then -1 else if y < x then 1 else 0
set_option maxRecDepth 100000 in
theorem isnan_u64 (x : Int) (w : World) : Calls Try.prog 59 #[.int .u64 x] w fun e w' => e = .returned (.bool false) ∧ w' = w := by
  go_enter Try.func59, Try.ntmps59
  go_wp2
  go_ret
  exact ⟨rfl, rfl⟩
set_option maxRecDepth 100000 in
set_option maxHeartbeats 1000000 in
theorem compare_u64 (x y : Int) (w : World) : Calls Try.prog 40 #[.int .u64 x, .int .u64 y] w fun e w' => e = .returned (.int .i64 (cmpI x y)) ∧ w' = w := by
  have C1 := Lib.hid (fun z W => isnan_u64 z W)
  obtain ⟨r, hr⟩ : ∃ r, r = cmpI x y := ⟨_, rfl⟩
  rw [← hr]
  by_cases h1 : x < y
  · have h2 : r = -1 := by rw [hr]; unfold cmpI; rw [if_pos h1]
    clear hr
    subst h2
    go_enter Try.func40, Try.ntmps40
    go_wp2_with (go_at_call 59; refine (C1.out _ _).mono ?_; rintro e w1 ⟨rfl, rfl⟩)
    go_ret
    exact ⟨rfl, rfl⟩
  · by_cases h3 : y < x
    · have h2 : r = 1 := by rw [hr]; unfold cmpI; rw [if_neg h1, if_pos h3]
      clear hr
      subst h2
      go_enter Try.func40, Try.ntmps40
      go_wp2_with (go_at_call 59; refine (C1.out _ _).mono ?_; rintro e w1 ⟨rfl, rfl⟩)
      go_ret
      exact ⟨rfl, rfl⟩
    · have h2 : r = 0 := by rw [hr]; unfold cmpI; rw [if_neg h1, if_neg h3]
      clear hr
      subst h2
      go_enter Try.func40, Try.ntmps40
      go_wp2_with (go_at_call 59; refine (C1.out _ _).mono ?_; rintro e w1 ⟨rfl, rfl⟩)
      go_ret
      exact ⟨rfl, rfl⟩
set_option maxRecDepth 100000 in
theorem isnan_i64 (x : Int) (w : World) : Calls Try.prog 34 #[.int .i64 x] w fun e w' => e = .returned (.bool false) ∧ w' = w := by
  go_enter Try.func34, Try.ntmps34
  go_wp2
  go_ret
  exact ⟨rfl, rfl⟩
set_option maxRecDepth 100000 in
set_option maxHeartbeats 1000000 in
theorem compare_i64 (x y : Int) (w : World) : Calls Try.prog 25 #[.int .i64 x, .int .i64 y] w fun e w' => e = .returned (.int .i64 (cmpI x y)) ∧ w' = w := by
  have C1 := Lib.hid (fun z W => isnan_i64 z W)
  obtain ⟨r, hr⟩ : ∃ r, r = cmpI x y := ⟨_, rfl⟩
  rw [← hr]
  by_cases h1 : x < y
  · have h2 : r = -1 := by rw [hr]; unfold cmpI; rw [if_pos h1]
    clear hr
    subst h2
    go_enter Try.func25, Try.ntmps25
    go_wp2_with (go_at_call 34; refine (C1.out _ _).mono ?_; rintro e w1 ⟨rfl, rfl⟩)
    go_ret
    exact ⟨rfl, rfl⟩
  · by_cases h3 : y < x
    · have h2 : r = 1 := by rw [hr]; unfold cmpI; rw [if_neg h1, if_pos h3]
      clear hr
      subst h2
      go_enter Try.func25, Try.ntmps25
      go_wp2_with (go_at_call 34; refine (C1.out _ _).mono ?_; rintro e w1 ⟨rfl, rfl⟩)
      go_ret
      exact ⟨rfl, rfl⟩
    · have h2 : r = 0 := by rw [hr]; unfold cmpI; rw [if_neg h1, if_neg h3]
      clear hr
      subst h2
      go_enter Try.func25, Try.ntmps25
      go_wp2_with (go_at_call 34; refine (C1.out _ _).mono ?_; rintro e w1 ⟨rfl, rfl⟩)
      go_ret
      exact ⟨rfl, rfl⟩
def orI (x y : Int) : Int := if x = 0 then y else x
theorem loads2 (w : World) (g : Nat) (x y : Int) (hg : w.heap[g]? = some (.cells #[.int .i64 x, .int .i64 y] 3 (0, 0))) : w.cell? ⟨g, 0, none⟩ = some (.int .i64 x) ∧ w.cell? ⟨g, 1, none⟩ = some (.int .i64 y) := by
  exact ⟨by rw [Lib.cell_of_heap hg]; rfl, by rw [Lib.cell_of_heap hg]; rfl⟩
set_option maxRecDepth 100000 in
set_option maxHeartbeats 1000000 in
theorem or_any (x y : Int) (g c : Nat) (w : World) (hg : w.heap[g]? = some (.cells #[.int .i64 x, .int .i64 y] 3 (0, 0))) :
    Calls Try.prog 39 #[.slice (some ⟨g, 0, none⟩) 2 c] w fun e w' => e = .returned (.int .i64 (orI x y)) ∧ w' = w := by
  obtain ⟨h0, h1⟩ := loads2 w g x y hg
  obtain ⟨r, hr⟩ : ∃ r, r = orI x y := ⟨_, rfl⟩
  rw [← hr]
  clear hg
  cases hx : (x != 0) with
  | true =>
    have hx0 : ¬ x = 0 := by intro h; rw [h] at hx; cases hx
    have h2 : r = x := by rw [hr]; unfold orI; rw [if_neg hx0]
    clear hr hx0
    subst h2
    go_enter Try.func39, Try.ntmps39
    go_wp2_with (fail)
    refine wp_loop_rounds 3 ?_
    rw [rounds_succ]
    go_wp2_with (fail)
    go_ret
    exact ⟨rfl, rfl⟩
  | false =>
    have hx0 : x = 0 := bne_eq_false_iff_eq.1 hx
    have h2 : r = y := by rw [hr]; unfold orI; rw [if_pos hx0]
    clear hr hx0
    subst h2
    cases hy : (r != 0) with
    | true =>
      go_enter Try.func39, Try.ntmps39
      go_wp2_with (fail)
      refine wp_loop_rounds 3 ?_
      rw [rounds_succ]
      go_wp2_with (fail)
      rw [rounds_succ]
      go_wp2_with (fail)
      go_ret
      exact ⟨rfl, rfl⟩
    | false =>
      obtain rfl : r = 0 := bne_eq_false_iff_eq.1 hy
      go_enter Try.func39, Try.ntmps39
      go_wp2_with (fail)
      refine wp_loop_rounds 3 ?_
      rw [rounds_succ]
      go_wp2_with (fail)
      rw [rounds_succ]
      go_wp2_with (fail)
      rw [rounds_succ]
      go_wp2_with (fail)
      go_ret
      exact ⟨rfl, rfl⟩

end Go.Proofs.Ytgonagkhnkhcnaa
