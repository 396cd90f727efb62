import Derived.Test.YtgonagkhnkhcnaaShare
/- The walk of weight.Share of an empty list. -/
namespace Go.Proofs.Ytgonagkhnkhcnaa
set_option maxRecDepth 100000
open Go.RowKit
set_option maxRecDepth 100000 in
set_option maxHeartbeats 4000000 in
theorem share_none0 (x : Nat) (w : World) (hx : x < W64) (hm : FM.may x = false) :
    Calls Try.prog 27 #[.float .f64 x, .slice none 0 0] w fun e w' => e = .returned (.tuple #[.float .f64 (shareV x []), .int .i64 (shareE x [])]) ∧ Below w.heap.size w w' := by
  obtain ⟨i0, hi, hz0, hz1, hz2⟩ := info_parts25
  have HI := Lib.hid (And.intro hi (And.intro hz0 (And.intro hz1 hz2)))
  have hV : shareV x [] = 0 := by unfold shareV; split <;> rfl
  rw [hV]
  clear hi hz0 hz1 hz2 hV
  have hE : shareE x [] = 1 := by unfold shareE allMay; simp [hm]
  rw [hE]
  have K : Hid (∀ W, Calls Try.prog 30 #[.float .f64 x] W fun e w' => e = .returned (.int .i64 1) ∧ w' = W) := fun W => check_no x W hx hm
  clear hE hm hx
  go_enter Try.func27, Try.ntmps27
  go_wp2_with (at_builtin; refine wpList_append_grows _ rfl (.tmp 14) (.tmp 16) 60 rfl 30 i0 (.float .f64 0) 1 8 Try.underlying60 HI.out.1 HI.out.2.1 HI.out.2.2.1 HI.out.2.2.2 rfl (by decide) none 0 0 (floats []) rfl ?c1 ?c2 ?c3 ⟨w.heap.size, 0, none⟩ 1 1 [.float .f64 x] rfl rfl ?c4 ?c5 ?c6 ?c7 ?c8 ?_; rotate_left 8; intro v' w1 hown hgr; (rw [floats_app, World.size_alloc] at hown); have HO : Hid (Owned (w.heap.size + 1) v' [x] w1) := hown; obtain ⟨g1, c1, hv, hcells⟩ := HO.out.shape (by simp); subst hv; have hcell1 := hcells 0 (by simp); have HG := Lib.hid hgr; clear hown hgr hcells)
  case c2 => rfl
  case c3 => intro b hb; cases hb
  case c4 =>
    intro j u hu
    cases j with
    | zero => simp only [List.getElem?_cons_zero, Option.some.injEq] at hu; subst hu; rw [add_plain]; simp
    | succ j => simp at hu
  case c5 => intro u hu; rw [List.mem_singleton] at hu; subst hu; rfl
  case c6 => decide
  case c7 => decide
  case c8 => decide
  have hbel : Below w.heap.size w w1 := bgr (bal (Below.refl _ _)) HG.out
  simp only [List.getElem_cons_zero] at hcell1
  go_wp2_with (fail)
  refine wp_loop_rounds 1 ?_
  rw [rounds_succ]
  go_wp2_with (go_at_call 30; refine (K.out _).mono ?_; rintro e w2 ⟨rfl, rfl⟩)
  go_ret2
  exact ⟨rfl, hbel⟩
set_option maxRecDepth 100000 in
set_option maxHeartbeats 4000000 in
theorem share_none1 (x : Nat) (w : World) (hx : x < W64) (hm : FM.may x = true) :
    Calls Try.prog 27 #[.float .f64 x, .slice none 0 0] w fun e w' => e = .returned (.tuple #[.float .f64 (shareV x []), .int .i64 (shareE x [])]) ∧ Below w.heap.size w w' := by
  obtain ⟨i0, hi, hz0, hz1, hz2⟩ := info_parts25
  have HI := Lib.hid (And.intro hi (And.intro hz0 (And.intro hz1 hz2)))
  have hV : shareV x [] = 0 := by unfold shareV; split <;> rfl
  rw [hV]
  clear hi hz0 hz1 hz2 hV
  have hE : shareE x [] = 7 := by unfold shareE allMay; simp [hm, sumP]
  rw [hE]
  have K : Hid (∀ W, Calls Try.prog 30 #[.float .f64 x] W fun e w' => e = .returned (.int .i64 0) ∧ w' = W) := fun W => check_ok x W hx hm
  obtain ⟨p, hp⟩ : ∃ p, p = FM.points x := ⟨_, rfl⟩
  have P : Hid (∀ W, Calls Try.prog 35 #[.float .f64 x] W fun e w' => e = .returned (.int .i64 p) ∧ w' = W) := fun W => by rw [hp]; exact points_any x W hx
  have hp2 : (p : Int) ≤ 256 := by have := FM.points_le x; omega
  clear hE hm hx hp
  go_enter Try.func27, Try.ntmps27
  go_wp2_with (at_builtin; refine wpList_append_grows _ rfl (.tmp 14) (.tmp 16) 60 rfl 30 i0 (.float .f64 0) 1 8 Try.underlying60 HI.out.1 HI.out.2.1 HI.out.2.2.1 HI.out.2.2.2 rfl (by decide) none 0 0 (floats []) rfl ?c1 ?c2 ?c3 ⟨w.heap.size, 0, none⟩ 1 1 [.float .f64 x] rfl rfl ?c4 ?c5 ?c6 ?c7 ?c8 ?_; rotate_left 8; intro v' w1 hown hgr; (rw [floats_app, World.size_alloc] at hown); have HO : Hid (Owned (w.heap.size + 1) v' [x] w1) := hown; obtain ⟨g1, c1, hv, hcells⟩ := HO.out.shape (by simp); subst hv; have hcell1 := hcells 0 (by simp); have HG := Lib.hid hgr; clear hown hgr hcells)
  case c2 => rfl
  case c3 => intro b hb; cases hb
  case c4 =>
    intro j u hu
    cases j with
    | zero => simp only [List.getElem?_cons_zero, Option.some.injEq] at hu; subst hu; rw [add_plain]; simp
    | succ j => simp at hu
  case c5 => intro u hu; rw [List.mem_singleton] at hu; subst hu; rfl
  case c6 => decide
  case c7 => decide
  case c8 => decide
  have hbel : Below w.heap.size w w1 := bgr (bal (Below.refl _ _)) HG.out
  simp only [List.getElem_cons_zero] at hcell1
  go_wp2_with (fail)
  refine wp_loop_rounds 2 ?_
  rw [rounds_succ]
  go_wp2_with (first | (go_at_call 30; refine (K.out _).mono ?_; rintro e w2 ⟨rfl, rfl⟩) | (go_at_call 35; refine (P.out _).mono ?_; rintro e w2 ⟨rfl, rfl⟩))
  rw [rounds_succ]
  go_wp2_with (first | (go_at_call 30; refine (K.out _).mono ?_; rintro e w2 ⟨rfl, rfl⟩) | (go_at_call 35; refine (P.out _).mono ?_; rintro e w2 ⟨rfl, rfl⟩))
  go_ret2
  exact ⟨rfl, ‹_›⟩
theorem share_none (x : Nat) (w : World) (hx : x < W64) :
    Calls Try.prog 27 #[.float .f64 x, .slice none 0 0] w fun e w' => e = .returned (.tuple #[.float .f64 (shareV x []), .int .i64 (shareE x [])]) ∧ Below w.heap.size w w' := by
  cases hm : FM.may x
  · exact share_none0 x w hx hm
  · exact share_none1 x w hx hm

end Go.Proofs.Ytgonagkhnkhcnaa
