import Derived.Test.YtmijfhfjhbckdaaAct
import Derived.Laws.CopyOwn
/- forms: the closures by kinds. -/
namespace Go.Proofs.Ytmijfhfjhbckdaa
set_option maxRecDepth 100000
open Go.RowKit
theorem packet_any (V : World) : Calls Try.prog 61 #[] V fun e w' => e = .returned (.agg #[.func (.func 68) #[] #[], .func (.func 69) #[] #[], .func (.func 70) #[] #[]]) ∧ Below V.heap.size V w' := by
  go_enter Try.func61, Try.ntmps61
  go_wp2
  exact bodyPost_ret (results_cell_row Try.results61 _ _ V.heap.size 83 _ (0, 0) _ rfl (alloc_new _ _) Try.underlying83 rfl (by kernel_rfl)) rfl ⟨rfl, (Below.refl _ _).alloc (Nat.le_refl _) _⟩
theorem add_any (V : World) : Calls Try.prog 62 #[] V fun e w' => e = .returned (.agg #[.func (.func 71) #[] #[], .func (.func 73) #[] #[], .func (.func 75) #[] #[]]) ∧ Below V.heap.size V w' := by
  go_enter Try.func62, Try.ntmps62
  go_wp2
  exact bodyPost_ret (results_cell_row Try.results62 _ _ V.heap.size 83 _ (0, 0) _ rfl (alloc_new _ _) Try.underlying83 rfl (by kernel_rfl)) rfl ⟨rfl, (Below.refl _ _).alloc (Nat.le_refl _) _⟩
theorem number_any (V : World) : Calls Try.prog 63 #[] V fun e w' => e = .returned (.agg #[.func (.func 76) #[] #[], .func (.func 77) #[] #[], .func (.func 78) #[] #[]]) ∧ Below V.heap.size V w' := by
  go_enter Try.func63, Try.ntmps63
  go_wp2
  exact bodyPost_ret (results_cell_row Try.results63 _ _ V.heap.size 83 _ (0, 0) _ rfl (alloc_new _ _) Try.underlying83 rfl (by kernel_rfl)) rfl ⟨rfl, (Below.refl _ _).alloc (Nat.le_refl _) _⟩
def formsC : Array Value := #[.func (.func 68) #[] #[], .func (.func 69) #[] #[], .func (.func 70) #[] #[], .func (.func 71) #[] #[], .func (.func 73) #[] #[], .func (.func 75) #[] #[], .func (.func 76) #[] #[], .func (.func 77) #[] #[], .func (.func 78) #[] #[], .func (.func 76) #[] #[], .func (.func 77) #[] #[], .func (.func 78) #[] #[], .func (.func 55) #[] #[], .func (.func 56) #[] #[], .func (.func 57) #[] #[], .func (.func 76) #[] #[], .func (.func 77) #[] #[], .func (.func 78) #[] #[], .func (.func 76) #[] #[], .func (.func 77) #[] #[], .func (.func 78) #[] #[], .func (.func 76) #[] #[], .func (.func 77) #[] #[], .func (.func 78) #[] #[], .func (.func 52) #[] #[], .func (.func 53) #[] #[], .func (.func 54) #[] #[], .func (.func 68) #[] #[], .func (.func 69) #[] #[], .func (.func 70) #[] #[], .func (.func 58) #[] #[], .func (.func 59) #[] #[], .func (.func 60) #[] #[]]
structure FS (R1 R2 R3 : Nat) (v0 V : World) : Prop where
  h1 : V.heap[R1]? = some (.cells #[.func (.func 52) #[] #[], .func (.func 53) #[] #[], .func (.func 54) #[] #[]] 83 (0, 0))
  h2 : V.heap[R2]? = some (.cells #[.func (.func 55) #[] #[], .func (.func 56) #[] #[], .func (.func 57) #[] #[]] 83 (0, 0))
  h3 : V.heap[R3]? = some (.cells #[.func (.func 58) #[] #[], .func (.func 59) #[] #[], .func (.func 60) #[] #[]] 83 (0, 0))
  bl : Below v0.heap.size v0 V
theorem FS.below {R1 R2 R3 : Nat} {v0 V W : World} (h : FS R1 R2 R3 v0 V) (hb : Below V.heap.size V W) : FS R1 R2 R3 v0 W :=
  ⟨(hb.block _ (heap_lt h.h1)).trans h.h1, (hb.block _ (heap_lt h.h2)).trans h.h2, (hb.block _ (heap_lt h.h3)).trans h.h3, h.bl.trans (hb.mono h.bl.size)⟩
theorem FS.row {R1 R2 R3 R0 : Nat} {v0 V : World} (h : FS R1 R2 R3 v0 V) (hne : R0 ≠ R1 ∧ R0 ≠ R2 ∧ R0 ≠ R3) (hR : v0.heap.size ≤ R0) (cs : Array Value) : FS R1 R2 R3 v0 (V.setRow R0 cs) :=
  ⟨(setRow_other _ _ _ _ (fun e => hne.1 e.symm)).trans h.h1, (setRow_other _ _ _ _ (fun e => hne.2.1 e.symm)).trans h.h2, (setRow_other _ _ _ _ (fun e => hne.2.2 e.symm)).trans h.h3, below_setRow h.bl hR _⟩
set_option maxHeartbeats 2000000 in
theorem forms_any (v0 : World) : Calls Try.prog 31 #[] v0 fun e w' => e = .returned (.agg formsC) ∧ Below v0.heap.size v0 w' := by
  obtain ⟨W, hW⟩ : ∃ W, W = (((v0.alloc (.cells #[.nilFunc, .nilFunc, .nilFunc, .nilFunc, .nilFunc, .nilFunc, .nilFunc, .nilFunc, .nilFunc, .nilFunc, .nilFunc, .nilFunc, .nilFunc, .nilFunc, .nilFunc, .nilFunc, .nilFunc, .nilFunc, .nilFunc, .nilFunc, .nilFunc, .nilFunc, .nilFunc, .nilFunc, .nilFunc, .nilFunc, .nilFunc, .nilFunc, .nilFunc, .nilFunc, .nilFunc, .nilFunc, .nilFunc] 84)).alloc (.cells #[.func (.func 52) #[] #[], .func (.func 53) #[] #[], .func (.func 54) #[] #[]] 83)).alloc (.cells #[.func (.func 55) #[] #[], .func (.func 56) #[] #[], .func (.func 57) #[] #[]] 83)).alloc (.cells #[.func (.func 58) #[] #[], .func (.func 59) #[] #[], .func (.func 60) #[] #[]] 83) := ⟨_, rfl⟩
  obtain ⟨R0, hR0⟩ : ∃ k, k = v0.heap.size := ⟨_, rfl⟩
  obtain ⟨R1, hR1⟩ : ∃ k, k = v0.heap.size + 1 := ⟨_, rfl⟩
  obtain ⟨R2, hR2⟩ : ∃ k, k = v0.heap.size + 1 + 1 := ⟨_, rfl⟩
  obtain ⟨R3, hR3⟩ : ∃ k, k = v0.heap.size + 1 + 1 + 1 := ⟨_, rfl⟩
  have four : ∀ (o1 o2 o3 o4 : Obj), let X := (((v0.alloc o1).alloc o2).alloc o3).alloc o4
      X.heap[R0]? = some o1 ∧ X.heap[R1]? = some o2 ∧ X.heap[R2]? = some o3 ∧ X.heap[R3]? = some o4 ∧ Below v0.heap.size v0 X := by
    intro o1 o2 o3 o4 X
    have f := five v0 o1 o2 o3 o4 o4
    have s1 : X.heap.size = v0.heap.size + 4 := by simp [X]
    have e : ∀ k, k < X.heap.size → (X.alloc o4).heap[k]? = X.heap[k]? := fun k hk => Below.heap_alloc _ _ _ hk
    refine ⟨?_, ?_, ?_, ?_, ?_⟩
    · rw [← e _ (by omega), hR0]; exact f.1
    · rw [← e _ (by omega), hR1]; exact f.2.1
    · rw [← e _ (by omega), hR2]; exact f.2.2.1
    · rw [← e _ (by omega), hR3]; exact f.2.2.2.1
    · exact ((((Below.refl _ _).alloc (Nat.le_refl _) _).alloc (by simp) _).alloc (by simp; omega) _).alloc (by simp; omega) _
  obtain ⟨g0, g1, g2, g3, hb⟩ := four (.cells #[.nilFunc, .nilFunc, .nilFunc, .nilFunc, .nilFunc, .nilFunc, .nilFunc, .nilFunc, .nilFunc, .nilFunc, .nilFunc, .nilFunc, .nilFunc, .nilFunc, .nilFunc, .nilFunc, .nilFunc, .nilFunc, .nilFunc, .nilFunc, .nilFunc, .nilFunc, .nilFunc, .nilFunc, .nilFunc, .nilFunc, .nilFunc, .nilFunc, .nilFunc, .nilFunc, .nilFunc, .nilFunc, .nilFunc] 84) (.cells #[.func (.func 52) #[] #[], .func (.func 53) #[] #[], .func (.func 54) #[] #[]] 83) (.cells #[.func (.func 55) #[] #[], .func (.func 56) #[] #[], .func (.func 57) #[] #[]] 83) (.cells #[.func (.func 58) #[] #[], .func (.func 59) #[] #[], .func (.func 60) #[] #[]] 83)
  rw [← hW] at g0 g1 g2 g3 hb
  have n0 : R0 ≠ R1 ∧ R0 ≠ R2 ∧ R0 ≠ R3 := by omega
  have hR0' : v0.heap.size ≤ R0 := by omega
  have K1 := Lib.hid g1
  have K2 := Lib.hid g2
  have K3 := Lib.hid g3
  have HB := Lib.hid hb
  have PA := Lib.hid packet_any
  have AA := Lib.hid add_any
  have NA := Lib.hid number_any
  clear g1 g2 g3 hb four
  go_enter Try.func31, Try.ntmps31
  go_upto_region 4 with (fail)
  rw [← hW, ← hR3, ← hR2, ← hR1, ← hR0]
  clear hW hR0 hR1 hR2 hR3
  replace g0 : W.drew.heap[R0]? = _ := g0
  refine wp_region_noPanic ?_
  refine wp_region_held_drew (S := FS R1 R2 R3 v0) (by kernel_rfl) ⟨K1.out, K2.out, K3.out, HB.out.drew⟩ (fun hHeld => ?_)
  refine wpAnyH_take (i := 4) (oi := { dst := some 11, op := Op.load 83 (Operand.tmp 2), type := 83, pos := "script.go:96", after := #[], guard := none }) (v := ?_) rfl (by kernel_rfl) (by kernel_rfl) (by kernel_rfl) (fun _ _ _ h => h) (Or.inl ⟨by rfl, ?_⟩) (by assumption) ?_
  rotate_left 1
  · intro w hSw
    have q0 := cellAt (i := 0) (v := .func (.func 55) #[] #[]) hSw.h2 rfl
    have q1 := cellAt (i := 1) (v := .func (.func 56) #[] #[]) hSw.h2 rfl
    have q2 := cellAt (i := 2) (v := .func (.func 57) #[] #[]) hSw.h2 rfl
    go_simp
    first | done | with_reducible rfl
  try simp only [Act.put, List.setIfInBounds_toArray, List.set_cons_zero, List.set_cons_succ]
  refine wpAnyH_take (i := 8) (oi := { dst := some 15, op := Op.load 83 (Operand.tmp 1), type := 83, pos := "script.go:96", after := #[], guard := none }) (v := ?_) rfl (by kernel_rfl) (by kernel_rfl) (by kernel_rfl) (fun _ _ _ h => h) (Or.inl ⟨by rfl, ?_⟩) (by assumption) ?_
  rotate_left 1
  · intro w hSw
    have q0 := cellAt (i := 0) (v := .func (.func 52) #[] #[]) hSw.h1 rfl
    have q1 := cellAt (i := 1) (v := .func (.func 53) #[] #[]) hSw.h1 rfl
    have q2 := cellAt (i := 2) (v := .func (.func 54) #[] #[]) hSw.h1 rfl
    go_simp
    first | done | with_reducible rfl
  try simp only [Act.put, List.setIfInBounds_toArray, List.set_cons_zero, List.set_cons_succ]
  refine wpAnyH_take (i := 10) (oi := { dst := some 17, op := Op.load 83 (Operand.tmp 3), type := 83, pos := "script.go:96", after := #[], guard := none }) (v := ?_) rfl (by kernel_rfl) (by kernel_rfl) (by kernel_rfl) (fun _ _ _ h => h) (Or.inl ⟨by rfl, ?_⟩) (by assumption) ?_
  rotate_left 1
  · intro w hSw
    have q0 := cellAt (i := 0) (v := .func (.func 58) #[] #[]) hSw.h3 rfl
    have q1 := cellAt (i := 1) (v := .func (.func 59) #[] #[]) hSw.h3 rfl
    have q2 := cellAt (i := 2) (v := .func (.func 60) #[] #[]) hSw.h3 rfl
    go_simp
    first | done | with_reducible rfl
  try simp only [Act.put, List.setIfInBounds_toArray, List.set_cons_zero, List.set_cons_succ]
  refine wpAnyH_ready (rs := [0]) (by kernel_rfl) (by simp) ?_
  refine AllReadyH.cons (o := { dst := some 7, op := Op.call { callee := Callee.value (Operand.func 61), args := #[], argTypes := #[] }, type := 83, pos := "script.go:97", after := #[], guard := none }) rfl (fun K hK => ?_) AllReadyH.nil
  go_simp
  (go_at_call 61; (with_reducible refine (PA.out _).mono ?_); rintro e w5 ⟨rfl, hb5⟩)
  replace g0 := (hb5.block _ (heap_lt g0)).trans g0
  go_simp
  refine hK.out _ _ (hHeld.below hb5) (fun hHeld => ?_)
  clear hK K
  try simp only [Act.put, List.setIfInBounds_toArray, List.set_cons_zero, List.set_cons_succ]
  refine wpAnyH_ready (rs := [1]) (by kernel_rfl) (by simp) ?_
  refine AllReadyH.cons (o := { dst := some 8, op := Op.call { callee := Callee.value (Operand.func 62), args := #[], argTypes := #[] }, type := 83, pos := "script.go:97", after := #[{ on := 0, ground := Ground.chain }], guard := none }) rfl (fun K hK => ?_) AllReadyH.nil
  go_simp
  (go_at_call 62; (with_reducible refine (AA.out _).mono ?_); rintro e w5 ⟨rfl, hb5⟩)
  replace g0 := (hb5.block _ (heap_lt g0)).trans g0
  go_simp
  refine hK.out _ _ (hHeld.below hb5) (fun hHeld => ?_)
  clear hK K
  try simp only [Act.put, List.setIfInBounds_toArray, List.set_cons_zero, List.set_cons_succ]
  refine wpAnyH_ready (rs := [2]) (by kernel_rfl) (by simp) ?_
  refine AllReadyH.cons (o := { dst := some 9, op := Op.call { callee := Callee.value (Operand.func 63), args := #[], argTypes := #[] }, type := 83, pos := "script.go:97", after := #[{ on := 1, ground := Ground.chain }], guard := none }) rfl (fun K hK => ?_) AllReadyH.nil
  go_simp
  (go_at_call 63; (with_reducible refine (NA.out _).mono ?_); rintro e w5 ⟨rfl, hb5⟩)
  replace g0 := (hb5.block _ (heap_lt g0)).trans g0
  go_simp
  refine hK.out _ _ (hHeld.below hb5) (fun hHeld => ?_)
  clear hK K
  try simp only [Act.put, List.setIfInBounds_toArray, List.set_cons_zero, List.set_cons_succ]
  refine wpAnyH_ready (rs := [3]) (by kernel_rfl) (by simp) ?_
  refine AllReadyH.cons (o := { dst := some 10, op := Op.call { callee := Callee.value (Operand.func 63), args := #[], argTypes := #[] }, type := 83, pos := "script.go:97", after := #[{ on := 2, ground := Ground.chain }], guard := none }) rfl (fun K hK => ?_) AllReadyH.nil
  go_simp
  (go_at_call 63; (with_reducible refine (NA.out _).mono ?_); rintro e w5 ⟨rfl, hb5⟩)
  replace g0 := (hb5.block _ (heap_lt g0)).trans g0
  go_simp
  refine hK.out _ _ (hHeld.below hb5) (fun hHeld => ?_)
  clear hK K
  try simp only [Act.put, List.setIfInBounds_toArray, List.set_cons_zero, List.set_cons_succ]
  refine wpAnyH_ready (rs := [5]) (by kernel_rfl) (by simp) ?_
  refine AllReadyH.cons (o := { dst := some 12, op := Op.call { callee := Callee.value (Operand.func 63), args := #[], argTypes := #[] }, type := 83, pos := "script.go:97", after := #[{ on := 3, ground := Ground.chain }], guard := none }) rfl (fun K hK => ?_) AllReadyH.nil
  go_simp
  (go_at_call 63; (with_reducible refine (NA.out _).mono ?_); rintro e w5 ⟨rfl, hb5⟩)
  replace g0 := (hb5.block _ (heap_lt g0)).trans g0
  go_simp
  refine hK.out _ _ (hHeld.below hb5) (fun hHeld => ?_)
  clear hK K
  try simp only [Act.put, List.setIfInBounds_toArray, List.set_cons_zero, List.set_cons_succ]
  refine wpAnyH_ready (rs := [6]) (by kernel_rfl) (by simp) ?_
  refine AllReadyH.cons (o := { dst := some 13, op := Op.call { callee := Callee.value (Operand.func 63), args := #[], argTypes := #[] }, type := 83, pos := "script.go:98", after := #[{ on := 5, ground := Ground.chain }], guard := none }) rfl (fun K hK => ?_) AllReadyH.nil
  go_simp
  (go_at_call 63; (with_reducible refine (NA.out _).mono ?_); rintro e w5 ⟨rfl, hb5⟩)
  replace g0 := (hb5.block _ (heap_lt g0)).trans g0
  go_simp
  refine hK.out _ _ (hHeld.below hb5) (fun hHeld => ?_)
  clear hK K
  try simp only [Act.put, List.setIfInBounds_toArray, List.set_cons_zero, List.set_cons_succ]
  refine wpAnyH_ready (rs := [7]) (by kernel_rfl) (by simp) ?_
  refine AllReadyH.cons (o := { dst := some 14, op := Op.call { callee := Callee.value (Operand.func 63), args := #[], argTypes := #[] }, type := 83, pos := "script.go:98", after := #[{ on := 6, ground := Ground.chain }], guard := none }) rfl (fun K hK => ?_) AllReadyH.nil
  go_simp
  (go_at_call 63; (with_reducible refine (NA.out _).mono ?_); rintro e w5 ⟨rfl, hb5⟩)
  replace g0 := (hb5.block _ (heap_lt g0)).trans g0
  go_simp
  refine hK.out _ _ (hHeld.below hb5) (fun hHeld => ?_)
  clear hK K
  try simp only [Act.put, List.setIfInBounds_toArray, List.set_cons_zero, List.set_cons_succ]
  refine wpAnyH_ready (rs := [9]) (by kernel_rfl) (by simp) ?_
  refine AllReadyH.cons (o := { dst := some 16, op := Op.call { callee := Callee.value (Operand.func 61), args := #[], argTypes := #[] }, type := 83, pos := "script.go:98", after := #[{ on := 7, ground := Ground.chain }], guard := none }) rfl (fun K hK => ?_) AllReadyH.nil
  go_simp
  (go_at_call 61; (with_reducible refine (PA.out _).mono ?_); rintro e w5 ⟨rfl, hb5⟩)
  replace g0 := (hb5.block _ (heap_lt g0)).trans g0
  go_simp
  refine hK.out _ _ (hHeld.below hb5) (fun hHeld => ?_)
  clear hK K
  try simp only [Act.put, List.setIfInBounds_toArray, List.set_cons_zero, List.set_cons_succ]
  refine wpAnyH_take (i := 11) (oi := { dst := some 18, op := Op.build 84 #[(0, Operand.tmp 7), (1, Operand.tmp 8), (2, Operand.tmp 9), (3, Operand.tmp 10), (4, Operand.tmp 11), (5, Operand.tmp 12), (6, Operand.tmp 13), (7, Operand.tmp 14), (8, Operand.tmp 15), (9, Operand.tmp 16), (10, Operand.tmp 17)], type := 84, pos := "script.go:96", after := #[{ on := 0, ground := Ground.data }, { on := 1, ground := Ground.data }, { on := 2, ground := Ground.data }, { on := 3, ground := Ground.data }, { on := 4, ground := Ground.data }, { on := 5, ground := Ground.data }, { on := 6, ground := Ground.data }, { on := 7, ground := Ground.data }, { on := 8, ground := Ground.data }, { on := 9, ground := Ground.data }, { on := 10, ground := Ground.data }], guard := none }) (v := ?_) rfl (by kernel_rfl) (by kernel_rfl) (by kernel_rfl) (fun _ _ _ h => h) (Or.inl ⟨by rfl, ?_⟩) (by assumption) ?_
  rotate_left 1
  · intro w hSw
    go_simp
    first | done | with_reducible rfl
  try simp only [Act.put, List.setIfInBounds_toArray, List.set_cons_zero, List.set_cons_succ]
  refine wpAnyH_ready (rs := [12]) (by kernel_rfl) (by simp) ?_
  refine AllReadyH.cons (o := { dst := none, op := Op.store 84 (Operand.tmp 0) (Operand.tmp 18), type := 0, pos := "script.go:96", after := #[{ on := 11, ground := Ground.data }, { on := 9, ground := Ground.chain }, { on := 0, ground := Ground.phase }, { on := 1, ground := Ground.phase }, { on := 2, ground := Ground.phase }, { on := 3, ground := Ground.phase }, { on := 4, ground := Ground.phase }, { on := 5, ground := Ground.phase }, { on := 6, ground := Ground.phase }, { on := 7, ground := Ground.phase }, { on := 8, ground := Ground.phase }, { on := 9, ground := Ground.phase }, { on := 10, ground := Ground.phase }, { on := 11, ground := Ground.phase }], guard := none }) rfl (fun K hK => ?_) AllReadyH.nil
  rw [if_pos (by rfl)]
  refine wp_store_row 84 (.tmp 0) (.tmp 18) rfl R0 formsC rfl rfl 84 _ g0 (by kernel_rfl) rfl (by kernel_rfl) ?_
  refine hK.out _ _ (hHeld.row n0 hR0' _) (fun hHeld => ?_)
  clear hK K
  try simp only [Act.put, List.setIfInBounds_toArray, List.set_cons_zero, List.set_cons_succ]
  refine wpAnyH_done (by kernel_rfl) ?_ _
  refine NoPanic.normal ?_
  obtain ⟨V9, hV9⟩ : ∃ V, V = w5.setRow R0 formsC := ⟨_, rfl⟩
  have g9 : V9.heap[R0]? = some (.cells formsC 84 (0, 0)) := by rw [hV9]; exact setRow_heap _ _ _ _ _ _ g0
  have b9 : Below v0.heap.size v0 V9 := by rw [hV9]; exact hHeld.bl
  rw [← hV9]
  clear hV9 g0
  simp only [Exit.then]
  go_wp2
  exact bodyPost_ret (results_cell_row Try.results31 _ _ R0 84 _ (0, 0) _ rfl g9 Try.underlying84 rfl (by kernel_rfl)) rfl ⟨rfl, b9⟩
end Go.Proofs.Ytmijfhfjhbckdaa
