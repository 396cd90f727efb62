import Derived.Test.YtmijfhfjhbckdaaForms
/- The closure of Entries that reads one act. -/
namespace Go.Proofs.Ytmijfhfjhbckdaa
set_option maxRecDepth 100000
open Go.RowKit
/-- the reader, the act and the rest, as they are captured -/
structure ESt (b A RB : Nat) (w0 : World) (s : ByteArray) (l : List UInt8) (C T : Array Value) (w : World) : Prop where
  rd : Rl b s l w
  hA : w.heap[A]? = some (.cells C 47 (0, 0))
  hR : w.heap[RB]? = some (.cells T 9 (0, 0))
  ne : A ≠ b ∧ RB ≠ b ∧ RB ≠ A
  sv : Save [b, A, RB] w0 w
theorem ESt.below {b A RB : Nat} {w0 w w' : World} {s : ByteArray} {l : List UInt8} {C T : Array Value} (h : ESt b A RB w0 s l C T w) (hb : Below w.heap.size w w') : ESt b A RB w0 s l C T w' :=
  ⟨h.rd.same (hb.block _ h.rd.lt), (hb.block _ (heap_lt h.hA)).trans h.hA, (hb.block _ (heap_lt h.hR)).trans h.hR, h.ne, h.sv.trans (Save.of_below hb)⟩
theorem ESt.act {b A RB : Nat} {w0 w w' : World} {s : ByteArray} {l l' : List UInt8} {C C' T : Array Value} (h : ESt b A RB w0 s l C T w) (ha : ASt b A w s l' C' w') : ESt b A RB w0 s l' C' T w' :=
  ⟨ha.rd, ha.hA, (ha.sv.block _ (heap_lt h.hR) (by simp; exact ⟨h.ne.2.1, h.ne.2.2⟩)).trans h.hR, h.ne, h.sv.trans (ha.sv.mono (by simp))⟩
theorem ESt.but {b A RB : Nat} {w0 w w' : World} {s : ByteArray} {l l' : List UInt8} {C T : Array Value} (h : ESt b A RB w0 s l C T w) (hr : Rl b s l' w') (hb : But b w w') : ESt b A RB w0 s l' C T w' :=
  ⟨hr, (hb.block _ (heap_lt h.hA) h.ne.1).trans h.hA, (hb.block _ (heap_lt h.hR) h.ne.2.1).trans h.hR, h.ne, h.sv.trans (hb.save (by simp))⟩
theorem ESt.no {b A RB : Nat} {w0 w w' : World} {s : ByteArray} {l : List UInt8} {C T : Array Value} (h : ESt b A RB w0 s l C T w) (hs : Save [b, A] w w') : Save [b, A, RB] w0 w' :=
  h.sv.trans (hs.mono (by simp))
def EPost (k b A RB : Nat) (l : List UInt8) (w0 : World) (e : Ending) (w' : World) : Prop :=
  (∃ bd r, getP k l = some (bd, r) ∧ e = .returned (.tuple #[]) ∧ w'.heap[A]? = some (.cells (actC k bd) 47 (0, 0)) ∧ w'.heap[RB]? = some (.cells #[.string (bs r)] 9 (0, 0)) ∧ Save [b, A, RB] w0 w') ∨ (getP k l = none ∧ e = .panicked (stopped 2) ∧ Save [b, A, RB] w0 w')
set_option maxHeartbeats 2000000 in
theorem ent1_0 (b A RB : Nat) (w : World) (s : ByteArray) (l : List UInt8) (hs : s.size ≤ MX) (h : ESt b A RB w s l (actC 0 .non) #[.string ⟨#[]⟩] w) : Calls Try.prog 30 #[.pointer (some ⟨b, 0, none⟩), .pointer (some ⟨A, 0, none⟩), .pointer (some ⟨RB, 0, none⟩)] w (EPost 0 b A RB l w) := by
  have E0 := Lib.hid h
  have FO := Lib.hid forms_any
  have GC : Hid (∀ V, ASt b A V s l (actC 0 .non) V → Calls Try.prog 69 #[.pointer (some ⟨b, 0, none⟩), .pointer (some ⟨A, 0, none⟩)] V (APost 0 b A s l V)) := fun V h => pkt2_any 0 b A V V s l (.inl rfl) hs h
  have EA : ∀ {V : World}, ESt b A RB w s l (actC 0 .non) #[.string ⟨#[]⟩] V → ASt b A V s l (actC 0 .non) V := fun h => ⟨h.rd, h.hA, h.ne.1, Save.refl _ _⟩
  have actC_kind : ∀ bd, (actC 0 bd)[0]? = some (.int .i64 0) := fun bd => by cases bd <;> rfl
  have ix : ∀ V : World, (Instr.index 84 (.agg formsC) (.int .i64 0)).run Try.prog V = .ok (.agg #[.func (.func 68) #[] #[], .func (.func 69) #[] #[], .func (.func 70) #[] #[]]) V := fun V => by rfl
  have fx : ∀ V : World, (Instr.field 83 (.agg #[.func (.func 68) #[] #[], .func (.func 69) #[] #[], .func (.func 70) #[] #[]]) 1).run Try.prog V = .ok (.func (.func 69) #[] #[]) V := fun V => by rfl
  clear h
  go_enter Try.func30, Try.ntmps30
  go_upto_region 0 with (fail)
  refine wp_region_held_drew (S := fun V => V.cell? ⟨A, 0, none⟩ = some (.int .i64 0)) (by kernel_rfl) (cellAt (i := 0) (v := .int .i64 0) E0.out.hA rfl) (fun hHeld => ?_)
  refine wpAnyH_take (i := 1) (oi := { dst := some 5, op := Op.fieldAddr 47 (Operand.tmp 1) 0, type := 0, pos := "script.go:140", after := #[], guard := none }) (v := ?_) rfl (by kernel_rfl) (by kernel_rfl) (by kernel_rfl) (fun _ _ _ h => h) (Or.inl ⟨by rfl, ?_⟩) (by assumption) ?_
  rotate_left 1
  · intro w hSw
    go_simp
    first | done | with_reducible rfl
  try simp only [Act.put, List.setIfInBounds_toArray, List.set_cons_zero, List.set_cons_succ]
  refine wpAnyH_take (i := 2) (oi := { dst := some 6, op := Op.load 3 (Operand.tmp 5), type := 3, pos := "script.go:140", after := #[{ on := 1, ground := Ground.data }], guard := none }) (v := ?_) rfl (by kernel_rfl) (by kernel_rfl) (by kernel_rfl) (fun _ _ _ h => h) (Or.inl ⟨by rfl, ?_⟩) (by assumption) ?_
  rotate_left 1
  · intro w hSw
    go_simp
    first | done | with_reducible rfl
  try simp only [Act.put, List.setIfInBounds_toArray, List.set_cons_zero, List.set_cons_succ]
  refine wpAnyH_take (i := 5) (oi := { dst := some 9, op := Op.move (Operand.tmp 0), type := 68, pos := "script.go:140", after := #[], guard := none }) (v := ?_) rfl (by kernel_rfl) (by kernel_rfl) (by kernel_rfl) (fun _ _ _ h => h) (Or.inl ⟨by rfl, ?_⟩) (by assumption) ?_
  rotate_left 1
  · intro w hSw
    go_simp
    first | done | with_reducible rfl
  try simp only [Act.put, List.setIfInBounds_toArray, List.set_cons_zero, List.set_cons_succ]
  refine wpAnyH_ready (rs := [0]) (by kernel_rfl) (by simp) ?_
  refine AllReadyH.cons (o := { dst := some 4, op := Op.call { callee := Callee.value (Operand.func 31), args := #[], argTypes := #[] }, type := 84, pos := "script.go:140", after := #[], guard := none }) rfl (fun K hK => ?_) AllReadyH.nil
  go_simp
  (go_at_call 31; (with_reducible refine (FO.out _).mono ?_); rintro e w5 ⟨rfl, hb5⟩)
  replace E0 := Lib.hid (E0.out.below (of_drew hb5))
  go_simp
  refine hK.out _ _ (cellAt (i := 0) (v := .int .i64 0) E0.out.hA rfl) (fun hHeld => ?_)
  clear hK K
  try simp only [Act.put, List.setIfInBounds_toArray, List.set_cons_zero, List.set_cons_succ]
  refine wpAnyH_take (i := 3) (oi := { dst := some 7, op := Op.index 84 (Operand.tmp 4) (Operand.tmp 6), type := 83, pos := "script.go:140", after := #[{ on := 0, ground := Ground.data }, { on := 2, ground := Ground.data }], guard := none }) (v := ?_) rfl (by kernel_rfl) (by kernel_rfl) (by kernel_rfl) (fun _ _ _ h => h) (Or.inl ⟨by rfl, ?_⟩) (by assumption) ?_
  rotate_left 1
  · intro w hSw
    go_simp
    first | done | with_reducible rfl
  try simp only [Act.put, List.setIfInBounds_toArray, List.set_cons_zero, List.set_cons_succ]
  refine wpAnyH_take (i := 4) (oi := { dst := some 8, op := Op.field 83 (Operand.tmp 7) 1, type := 80, pos := "script.go:140", after := #[{ on := 3, ground := Ground.data }], guard := none }) (v := ?_) rfl (by kernel_rfl) (by kernel_rfl) (by kernel_rfl) (fun _ _ _ h => h) (Or.inl ⟨by rfl, ?_⟩) (by assumption) ?_
  rotate_left 1
  · intro w hSw
    go_simp
    first | done | with_reducible rfl
  try simp only [Act.put, List.setIfInBounds_toArray, List.set_cons_zero, List.set_cons_succ]
  refine wpAnyH_ready (rs := [6]) (by kernel_rfl) (by simp) ?_
  refine AllReadyH.cons (o := { dst := some 10, op := Op.call { callee := Callee.value (Operand.tmp 8), args := #[Operand.tmp 9, Operand.tmp 1], argTypes := #[68, 86] }, type := 0, pos := "script.go:140", after := #[{ on := 4, ground := Ground.data }, { on := 5, ground := Ground.data }, { on := 0, ground := Ground.chain }], guard := none }) rfl (fun K hK => ?_) AllReadyH.nil
  go_simp
  go_at_call 69
  (with_reducible refine (GC.out _ (EA E0.out)).mono ?_)
  rintro e w6 (⟨bd, r, hg, rfl, ha⟩ | ⟨hg, rfl, ha⟩)
  rotate_left 1
  · exact ⟨rfl, .inr ⟨hg, rfl, E0.out.no ha⟩⟩
  replace E0 := Lib.hid (E0.out.act ha)
  clear ha
  go_simp
  refine hK.out _ _ (cellAt (i := 0) (v := .int .i64 0) E0.out.hA (actC_kind _)) (fun hHeld => ?_)
  clear hK K
  try simp only [Act.put, List.setIfInBounds_toArray, List.set_cons_zero, List.set_cons_succ]
  refine wpAnyH_done (by kernel_rfl) ?_ _
  simp only [Exit.then]
  obtain ⟨rs, hrs⟩ : ∃ x, x = bs r := ⟨_, rfl⟩
  have U : Hid (Calls Try.prog 26 #[.pointer (some ⟨b, 0, none⟩)] w6 fun e w' => e = .returned (.string rs) ∧ Rl b s [] w' ∧ But b w6 w') := by
    show Calls _ _ _ _ _; rw [hrs]; exact rest_l b s r w6 E0.out.rd hs
  have HG := Lib.hid hg
  have HRS := Lib.hid hrs
  clear hg hrs GC FO EA hHeld hb5
  go_wp2_with (fail)
  (with_reducible refine U.out.mono ?_)
  clear U
  rintro e w7 ⟨rfl, hr7, hb7⟩
  have E7 := Lib.hid (E0.out.but hr7 hb7)
  clear hr7 hb7 E0
  have k0 := cellAt (i := 0) (v := .string ⟨#[]⟩) E7.out.hR rfl
  have f0 := Lib.frozen_of_heap E7.out.hR 0
  go_wp2_with (fail)
  go_end0
  have q := E7.out.ne.2.2
  refine .inl ⟨bd, r, HG.out, rfl, ?_, ?_, E7.out.sv.set (.inl (by simp)) _⟩
  · rw [heap_off A RB (fun e => q e.symm)]; exact E7.out.hA
  · rw [← HRS.out]; exact heap_set E7.out.hR (i := 0) (by simp) _
set_option maxHeartbeats 2000000 in
theorem ent1_1 (b A RB : Nat) (w : World) (s : ByteArray) (l : List UInt8) (hs : s.size ≤ MX) (h : ESt b A RB w s l (actC 1 .non) #[.string ⟨#[]⟩] w) : Calls Try.prog 30 #[.pointer (some ⟨b, 0, none⟩), .pointer (some ⟨A, 0, none⟩), .pointer (some ⟨RB, 0, none⟩)] w (EPost 1 b A RB l w) := by
  have E0 := Lib.hid h
  have FO := Lib.hid forms_any
  have GC : Hid (∀ V, ASt b A V s l (actC 1 .non) V → Calls Try.prog 73 #[.pointer (some ⟨b, 0, none⟩), .pointer (some ⟨A, 0, none⟩)] V (APost 1 b A s l V)) := fun V h => add2_any b A V V s l hs h
  have EA : ∀ {V : World}, ESt b A RB w s l (actC 1 .non) #[.string ⟨#[]⟩] V → ASt b A V s l (actC 1 .non) V := fun h => ⟨h.rd, h.hA, h.ne.1, Save.refl _ _⟩
  have actC_kind : ∀ bd, (actC 1 bd)[0]? = some (.int .i64 1) := fun bd => by cases bd <;> rfl
  have ix : ∀ V : World, (Instr.index 84 (.agg formsC) (.int .i64 1)).run Try.prog V = .ok (.agg #[.func (.func 71) #[] #[], .func (.func 73) #[] #[], .func (.func 75) #[] #[]]) V := fun V => by rfl
  have fx : ∀ V : World, (Instr.field 83 (.agg #[.func (.func 71) #[] #[], .func (.func 73) #[] #[], .func (.func 75) #[] #[]]) 1).run Try.prog V = .ok (.func (.func 73) #[] #[]) V := fun V => by rfl
  clear h
  go_enter Try.func30, Try.ntmps30
  go_upto_region 0 with (fail)
  refine wp_region_held_drew (S := fun V => V.cell? ⟨A, 0, none⟩ = some (.int .i64 1)) (by kernel_rfl) (cellAt (i := 0) (v := .int .i64 1) E0.out.hA rfl) (fun hHeld => ?_)
  refine wpAnyH_take (i := 1) (oi := { dst := some 5, op := Op.fieldAddr 47 (Operand.tmp 1) 0, type := 0, pos := "script.go:140", after := #[], guard := none }) (v := ?_) rfl (by kernel_rfl) (by kernel_rfl) (by kernel_rfl) (fun _ _ _ h => h) (Or.inl ⟨by rfl, ?_⟩) (by assumption) ?_
  rotate_left 1
  · intro w hSw
    go_simp
    first | done | with_reducible rfl
  try simp only [Act.put, List.setIfInBounds_toArray, List.set_cons_zero, List.set_cons_succ]
  refine wpAnyH_take (i := 2) (oi := { dst := some 6, op := Op.load 3 (Operand.tmp 5), type := 3, pos := "script.go:140", after := #[{ on := 1, ground := Ground.data }], guard := none }) (v := ?_) rfl (by kernel_rfl) (by kernel_rfl) (by kernel_rfl) (fun _ _ _ h => h) (Or.inl ⟨by rfl, ?_⟩) (by assumption) ?_
  rotate_left 1
  · intro w hSw
    go_simp
    first | done | with_reducible rfl
  try simp only [Act.put, List.setIfInBounds_toArray, List.set_cons_zero, List.set_cons_succ]
  refine wpAnyH_take (i := 5) (oi := { dst := some 9, op := Op.move (Operand.tmp 0), type := 68, pos := "script.go:140", after := #[], guard := none }) (v := ?_) rfl (by kernel_rfl) (by kernel_rfl) (by kernel_rfl) (fun _ _ _ h => h) (Or.inl ⟨by rfl, ?_⟩) (by assumption) ?_
  rotate_left 1
  · intro w hSw
    go_simp
    first | done | with_reducible rfl
  try simp only [Act.put, List.setIfInBounds_toArray, List.set_cons_zero, List.set_cons_succ]
  refine wpAnyH_ready (rs := [0]) (by kernel_rfl) (by simp) ?_
  refine AllReadyH.cons (o := { dst := some 4, op := Op.call { callee := Callee.value (Operand.func 31), args := #[], argTypes := #[] }, type := 84, pos := "script.go:140", after := #[], guard := none }) rfl (fun K hK => ?_) AllReadyH.nil
  go_simp
  (go_at_call 31; (with_reducible refine (FO.out _).mono ?_); rintro e w5 ⟨rfl, hb5⟩)
  replace E0 := Lib.hid (E0.out.below (of_drew hb5))
  go_simp
  refine hK.out _ _ (cellAt (i := 0) (v := .int .i64 1) E0.out.hA rfl) (fun hHeld => ?_)
  clear hK K
  try simp only [Act.put, List.setIfInBounds_toArray, List.set_cons_zero, List.set_cons_succ]
  refine wpAnyH_take (i := 3) (oi := { dst := some 7, op := Op.index 84 (Operand.tmp 4) (Operand.tmp 6), type := 83, pos := "script.go:140", after := #[{ on := 0, ground := Ground.data }, { on := 2, ground := Ground.data }], guard := none }) (v := ?_) rfl (by kernel_rfl) (by kernel_rfl) (by kernel_rfl) (fun _ _ _ h => h) (Or.inl ⟨by rfl, ?_⟩) (by assumption) ?_
  rotate_left 1
  · intro w hSw
    go_simp
    first | done | with_reducible rfl
  try simp only [Act.put, List.setIfInBounds_toArray, List.set_cons_zero, List.set_cons_succ]
  refine wpAnyH_take (i := 4) (oi := { dst := some 8, op := Op.field 83 (Operand.tmp 7) 1, type := 80, pos := "script.go:140", after := #[{ on := 3, ground := Ground.data }], guard := none }) (v := ?_) rfl (by kernel_rfl) (by kernel_rfl) (by kernel_rfl) (fun _ _ _ h => h) (Or.inl ⟨by rfl, ?_⟩) (by assumption) ?_
  rotate_left 1
  · intro w hSw
    go_simp
    first | done | with_reducible rfl
  try simp only [Act.put, List.setIfInBounds_toArray, List.set_cons_zero, List.set_cons_succ]
  refine wpAnyH_ready (rs := [6]) (by kernel_rfl) (by simp) ?_
  refine AllReadyH.cons (o := { dst := some 10, op := Op.call { callee := Callee.value (Operand.tmp 8), args := #[Operand.tmp 9, Operand.tmp 1], argTypes := #[68, 86] }, type := 0, pos := "script.go:140", after := #[{ on := 4, ground := Ground.data }, { on := 5, ground := Ground.data }, { on := 0, ground := Ground.chain }], guard := none }) rfl (fun K hK => ?_) AllReadyH.nil
  go_simp
  go_at_call 73
  (with_reducible refine (GC.out _ (EA E0.out)).mono ?_)
  rintro e w6 (⟨bd, r, hg, rfl, ha⟩ | ⟨hg, rfl, ha⟩)
  rotate_left 1
  · exact ⟨rfl, .inr ⟨hg, rfl, E0.out.no ha⟩⟩
  replace E0 := Lib.hid (E0.out.act ha)
  clear ha
  go_simp
  refine hK.out _ _ (cellAt (i := 0) (v := .int .i64 1) E0.out.hA (actC_kind _)) (fun hHeld => ?_)
  clear hK K
  try simp only [Act.put, List.setIfInBounds_toArray, List.set_cons_zero, List.set_cons_succ]
  refine wpAnyH_done (by kernel_rfl) ?_ _
  simp only [Exit.then]
  obtain ⟨rs, hrs⟩ : ∃ x, x = bs r := ⟨_, rfl⟩
  have U : Hid (Calls Try.prog 26 #[.pointer (some ⟨b, 0, none⟩)] w6 fun e w' => e = .returned (.string rs) ∧ Rl b s [] w' ∧ But b w6 w') := by
    show Calls _ _ _ _ _; rw [hrs]; exact rest_l b s r w6 E0.out.rd hs
  have HG := Lib.hid hg
  have HRS := Lib.hid hrs
  clear hg hrs GC FO EA hHeld hb5
  go_wp2_with (fail)
  (with_reducible refine U.out.mono ?_)
  clear U
  rintro e w7 ⟨rfl, hr7, hb7⟩
  have E7 := Lib.hid (E0.out.but hr7 hb7)
  clear hr7 hb7 E0
  have k0 := cellAt (i := 0) (v := .string ⟨#[]⟩) E7.out.hR rfl
  have f0 := Lib.frozen_of_heap E7.out.hR 0
  go_wp2_with (fail)
  go_end0
  have q := E7.out.ne.2.2
  refine .inl ⟨bd, r, HG.out, rfl, ?_, ?_, E7.out.sv.set (.inl (by simp)) _⟩
  · rw [heap_off A RB (fun e => q e.symm)]; exact E7.out.hA
  · rw [← HRS.out]; exact heap_set E7.out.hR (i := 0) (by simp) _
set_option maxHeartbeats 2000000 in
theorem ent1_2 (b A RB : Nat) (w : World) (s : ByteArray) (l : List UInt8) (hs : s.size ≤ MX) (h : ESt b A RB w s l (actC 2 .non) #[.string ⟨#[]⟩] w) : Calls Try.prog 30 #[.pointer (some ⟨b, 0, none⟩), .pointer (some ⟨A, 0, none⟩), .pointer (some ⟨RB, 0, none⟩)] w (EPost 2 b A RB l w) := by
  have E0 := Lib.hid h
  have FO := Lib.hid forms_any
  have GC : Hid (∀ V, ASt b A V s l (actC 2 .non) V → Calls Try.prog 77 #[.pointer (some ⟨b, 0, none⟩), .pointer (some ⟨A, 0, none⟩)] V (APost 2 b A s l V)) := fun V h => num2_any 2 b A V V s l (by simp) hs h
  have EA : ∀ {V : World}, ESt b A RB w s l (actC 2 .non) #[.string ⟨#[]⟩] V → ASt b A V s l (actC 2 .non) V := fun h => ⟨h.rd, h.hA, h.ne.1, Save.refl _ _⟩
  have actC_kind : ∀ bd, (actC 2 bd)[0]? = some (.int .i64 2) := fun bd => by cases bd <;> rfl
  have ix : ∀ V : World, (Instr.index 84 (.agg formsC) (.int .i64 2)).run Try.prog V = .ok (.agg #[.func (.func 76) #[] #[], .func (.func 77) #[] #[], .func (.func 78) #[] #[]]) V := fun V => by rfl
  have fx : ∀ V : World, (Instr.field 83 (.agg #[.func (.func 76) #[] #[], .func (.func 77) #[] #[], .func (.func 78) #[] #[]]) 1).run Try.prog V = .ok (.func (.func 77) #[] #[]) V := fun V => by rfl
  clear h
  go_enter Try.func30, Try.ntmps30
  go_upto_region 0 with (fail)
  refine wp_region_held_drew (S := fun V => V.cell? ⟨A, 0, none⟩ = some (.int .i64 2)) (by kernel_rfl) (cellAt (i := 0) (v := .int .i64 2) E0.out.hA rfl) (fun hHeld => ?_)
  refine wpAnyH_take (i := 1) (oi := { dst := some 5, op := Op.fieldAddr 47 (Operand.tmp 1) 0, type := 0, pos := "script.go:140", after := #[], guard := none }) (v := ?_) rfl (by kernel_rfl) (by kernel_rfl) (by kernel_rfl) (fun _ _ _ h => h) (Or.inl ⟨by rfl, ?_⟩) (by assumption) ?_
  rotate_left 1
  · intro w hSw
    go_simp
    first | done | with_reducible rfl
  try simp only [Act.put, List.setIfInBounds_toArray, List.set_cons_zero, List.set_cons_succ]
  refine wpAnyH_take (i := 2) (oi := { dst := some 6, op := Op.load 3 (Operand.tmp 5), type := 3, pos := "script.go:140", after := #[{ on := 1, ground := Ground.data }], guard := none }) (v := ?_) rfl (by kernel_rfl) (by kernel_rfl) (by kernel_rfl) (fun _ _ _ h => h) (Or.inl ⟨by rfl, ?_⟩) (by assumption) ?_
  rotate_left 1
  · intro w hSw
    go_simp
    first | done | with_reducible rfl
  try simp only [Act.put, List.setIfInBounds_toArray, List.set_cons_zero, List.set_cons_succ]
  refine wpAnyH_take (i := 5) (oi := { dst := some 9, op := Op.move (Operand.tmp 0), type := 68, pos := "script.go:140", after := #[], guard := none }) (v := ?_) rfl (by kernel_rfl) (by kernel_rfl) (by kernel_rfl) (fun _ _ _ h => h) (Or.inl ⟨by rfl, ?_⟩) (by assumption) ?_
  rotate_left 1
  · intro w hSw
    go_simp
    first | done | with_reducible rfl
  try simp only [Act.put, List.setIfInBounds_toArray, List.set_cons_zero, List.set_cons_succ]
  refine wpAnyH_ready (rs := [0]) (by kernel_rfl) (by simp) ?_
  refine AllReadyH.cons (o := { dst := some 4, op := Op.call { callee := Callee.value (Operand.func 31), args := #[], argTypes := #[] }, type := 84, pos := "script.go:140", after := #[], guard := none }) rfl (fun K hK => ?_) AllReadyH.nil
  go_simp
  (go_at_call 31; (with_reducible refine (FO.out _).mono ?_); rintro e w5 ⟨rfl, hb5⟩)
  replace E0 := Lib.hid (E0.out.below (of_drew hb5))
  go_simp
  refine hK.out _ _ (cellAt (i := 0) (v := .int .i64 2) E0.out.hA rfl) (fun hHeld => ?_)
  clear hK K
  try simp only [Act.put, List.setIfInBounds_toArray, List.set_cons_zero, List.set_cons_succ]
  refine wpAnyH_take (i := 3) (oi := { dst := some 7, op := Op.index 84 (Operand.tmp 4) (Operand.tmp 6), type := 83, pos := "script.go:140", after := #[{ on := 0, ground := Ground.data }, { on := 2, ground := Ground.data }], guard := none }) (v := ?_) rfl (by kernel_rfl) (by kernel_rfl) (by kernel_rfl) (fun _ _ _ h => h) (Or.inl ⟨by rfl, ?_⟩) (by assumption) ?_
  rotate_left 1
  · intro w hSw
    go_simp
    first | done | with_reducible rfl
  try simp only [Act.put, List.setIfInBounds_toArray, List.set_cons_zero, List.set_cons_succ]
  refine wpAnyH_take (i := 4) (oi := { dst := some 8, op := Op.field 83 (Operand.tmp 7) 1, type := 80, pos := "script.go:140", after := #[{ on := 3, ground := Ground.data }], guard := none }) (v := ?_) rfl (by kernel_rfl) (by kernel_rfl) (by kernel_rfl) (fun _ _ _ h => h) (Or.inl ⟨by rfl, ?_⟩) (by assumption) ?_
  rotate_left 1
  · intro w hSw
    go_simp
    first | done | with_reducible rfl
  try simp only [Act.put, List.setIfInBounds_toArray, List.set_cons_zero, List.set_cons_succ]
  refine wpAnyH_ready (rs := [6]) (by kernel_rfl) (by simp) ?_
  refine AllReadyH.cons (o := { dst := some 10, op := Op.call { callee := Callee.value (Operand.tmp 8), args := #[Operand.tmp 9, Operand.tmp 1], argTypes := #[68, 86] }, type := 0, pos := "script.go:140", after := #[{ on := 4, ground := Ground.data }, { on := 5, ground := Ground.data }, { on := 0, ground := Ground.chain }], guard := none }) rfl (fun K hK => ?_) AllReadyH.nil
  go_simp
  go_at_call 77
  (with_reducible refine (GC.out _ (EA E0.out)).mono ?_)
  rintro e w6 (⟨bd, r, hg, rfl, ha⟩ | ⟨hg, rfl, ha⟩)
  rotate_left 1
  · exact ⟨rfl, .inr ⟨hg, rfl, E0.out.no ha⟩⟩
  replace E0 := Lib.hid (E0.out.act ha)
  clear ha
  go_simp
  refine hK.out _ _ (cellAt (i := 0) (v := .int .i64 2) E0.out.hA (actC_kind _)) (fun hHeld => ?_)
  clear hK K
  try simp only [Act.put, List.setIfInBounds_toArray, List.set_cons_zero, List.set_cons_succ]
  refine wpAnyH_done (by kernel_rfl) ?_ _
  simp only [Exit.then]
  obtain ⟨rs, hrs⟩ : ∃ x, x = bs r := ⟨_, rfl⟩
  have U : Hid (Calls Try.prog 26 #[.pointer (some ⟨b, 0, none⟩)] w6 fun e w' => e = .returned (.string rs) ∧ Rl b s [] w' ∧ But b w6 w') := by
    show Calls _ _ _ _ _; rw [hrs]; exact rest_l b s r w6 E0.out.rd hs
  have HG := Lib.hid hg
  have HRS := Lib.hid hrs
  clear hg hrs GC FO EA hHeld hb5
  go_wp2_with (fail)
  (with_reducible refine U.out.mono ?_)
  clear U
  rintro e w7 ⟨rfl, hr7, hb7⟩
  have E7 := Lib.hid (E0.out.but hr7 hb7)
  clear hr7 hb7 E0
  have k0 := cellAt (i := 0) (v := .string ⟨#[]⟩) E7.out.hR rfl
  have f0 := Lib.frozen_of_heap E7.out.hR 0
  go_wp2_with (fail)
  go_end0
  have q := E7.out.ne.2.2
  refine .inl ⟨bd, r, HG.out, rfl, ?_, ?_, E7.out.sv.set (.inl (by simp)) _⟩
  · rw [heap_off A RB (fun e => q e.symm)]; exact E7.out.hA
  · rw [← HRS.out]; exact heap_set E7.out.hR (i := 0) (by simp) _
set_option maxHeartbeats 2000000 in
theorem ent1_3 (b A RB : Nat) (w : World) (s : ByteArray) (l : List UInt8) (hs : s.size ≤ MX) (h : ESt b A RB w s l (actC 3 .non) #[.string ⟨#[]⟩] w) : Calls Try.prog 30 #[.pointer (some ⟨b, 0, none⟩), .pointer (some ⟨A, 0, none⟩), .pointer (some ⟨RB, 0, none⟩)] w (EPost 3 b A RB l w) := by
  have E0 := Lib.hid h
  have FO := Lib.hid forms_any
  have GC : Hid (∀ V, ASt b A V s l (actC 3 .non) V → Calls Try.prog 77 #[.pointer (some ⟨b, 0, none⟩), .pointer (some ⟨A, 0, none⟩)] V (APost 3 b A s l V)) := fun V h => num2_any 3 b A V V s l (by simp) hs h
  have EA : ∀ {V : World}, ESt b A RB w s l (actC 3 .non) #[.string ⟨#[]⟩] V → ASt b A V s l (actC 3 .non) V := fun h => ⟨h.rd, h.hA, h.ne.1, Save.refl _ _⟩
  have actC_kind : ∀ bd, (actC 3 bd)[0]? = some (.int .i64 3) := fun bd => by cases bd <;> rfl
  have ix : ∀ V : World, (Instr.index 84 (.agg formsC) (.int .i64 3)).run Try.prog V = .ok (.agg #[.func (.func 76) #[] #[], .func (.func 77) #[] #[], .func (.func 78) #[] #[]]) V := fun V => by rfl
  have fx : ∀ V : World, (Instr.field 83 (.agg #[.func (.func 76) #[] #[], .func (.func 77) #[] #[], .func (.func 78) #[] #[]]) 1).run Try.prog V = .ok (.func (.func 77) #[] #[]) V := fun V => by rfl
  clear h
  go_enter Try.func30, Try.ntmps30
  go_upto_region 0 with (fail)
  refine wp_region_held_drew (S := fun V => V.cell? ⟨A, 0, none⟩ = some (.int .i64 3)) (by kernel_rfl) (cellAt (i := 0) (v := .int .i64 3) E0.out.hA rfl) (fun hHeld => ?_)
  refine wpAnyH_take (i := 1) (oi := { dst := some 5, op := Op.fieldAddr 47 (Operand.tmp 1) 0, type := 0, pos := "script.go:140", after := #[], guard := none }) (v := ?_) rfl (by kernel_rfl) (by kernel_rfl) (by kernel_rfl) (fun _ _ _ h => h) (Or.inl ⟨by rfl, ?_⟩) (by assumption) ?_
  rotate_left 1
  · intro w hSw
    go_simp
    first | done | with_reducible rfl
  try simp only [Act.put, List.setIfInBounds_toArray, List.set_cons_zero, List.set_cons_succ]
  refine wpAnyH_take (i := 2) (oi := { dst := some 6, op := Op.load 3 (Operand.tmp 5), type := 3, pos := "script.go:140", after := #[{ on := 1, ground := Ground.data }], guard := none }) (v := ?_) rfl (by kernel_rfl) (by kernel_rfl) (by kernel_rfl) (fun _ _ _ h => h) (Or.inl ⟨by rfl, ?_⟩) (by assumption) ?_
  rotate_left 1
  · intro w hSw
    go_simp
    first | done | with_reducible rfl
  try simp only [Act.put, List.setIfInBounds_toArray, List.set_cons_zero, List.set_cons_succ]
  refine wpAnyH_take (i := 5) (oi := { dst := some 9, op := Op.move (Operand.tmp 0), type := 68, pos := "script.go:140", after := #[], guard := none }) (v := ?_) rfl (by kernel_rfl) (by kernel_rfl) (by kernel_rfl) (fun _ _ _ h => h) (Or.inl ⟨by rfl, ?_⟩) (by assumption) ?_
  rotate_left 1
  · intro w hSw
    go_simp
    first | done | with_reducible rfl
  try simp only [Act.put, List.setIfInBounds_toArray, List.set_cons_zero, List.set_cons_succ]
  refine wpAnyH_ready (rs := [0]) (by kernel_rfl) (by simp) ?_
  refine AllReadyH.cons (o := { dst := some 4, op := Op.call { callee := Callee.value (Operand.func 31), args := #[], argTypes := #[] }, type := 84, pos := "script.go:140", after := #[], guard := none }) rfl (fun K hK => ?_) AllReadyH.nil
  go_simp
  (go_at_call 31; (with_reducible refine (FO.out _).mono ?_); rintro e w5 ⟨rfl, hb5⟩)
  replace E0 := Lib.hid (E0.out.below (of_drew hb5))
  go_simp
  refine hK.out _ _ (cellAt (i := 0) (v := .int .i64 3) E0.out.hA rfl) (fun hHeld => ?_)
  clear hK K
  try simp only [Act.put, List.setIfInBounds_toArray, List.set_cons_zero, List.set_cons_succ]
  refine wpAnyH_take (i := 3) (oi := { dst := some 7, op := Op.index 84 (Operand.tmp 4) (Operand.tmp 6), type := 83, pos := "script.go:140", after := #[{ on := 0, ground := Ground.data }, { on := 2, ground := Ground.data }], guard := none }) (v := ?_) rfl (by kernel_rfl) (by kernel_rfl) (by kernel_rfl) (fun _ _ _ h => h) (Or.inl ⟨by rfl, ?_⟩) (by assumption) ?_
  rotate_left 1
  · intro w hSw
    go_simp
    first | done | with_reducible rfl
  try simp only [Act.put, List.setIfInBounds_toArray, List.set_cons_zero, List.set_cons_succ]
  refine wpAnyH_take (i := 4) (oi := { dst := some 8, op := Op.field 83 (Operand.tmp 7) 1, type := 80, pos := "script.go:140", after := #[{ on := 3, ground := Ground.data }], guard := none }) (v := ?_) rfl (by kernel_rfl) (by kernel_rfl) (by kernel_rfl) (fun _ _ _ h => h) (Or.inl ⟨by rfl, ?_⟩) (by assumption) ?_
  rotate_left 1
  · intro w hSw
    go_simp
    first | done | with_reducible rfl
  try simp only [Act.put, List.setIfInBounds_toArray, List.set_cons_zero, List.set_cons_succ]
  refine wpAnyH_ready (rs := [6]) (by kernel_rfl) (by simp) ?_
  refine AllReadyH.cons (o := { dst := some 10, op := Op.call { callee := Callee.value (Operand.tmp 8), args := #[Operand.tmp 9, Operand.tmp 1], argTypes := #[68, 86] }, type := 0, pos := "script.go:140", after := #[{ on := 4, ground := Ground.data }, { on := 5, ground := Ground.data }, { on := 0, ground := Ground.chain }], guard := none }) rfl (fun K hK => ?_) AllReadyH.nil
  go_simp
  go_at_call 77
  (with_reducible refine (GC.out _ (EA E0.out)).mono ?_)
  rintro e w6 (⟨bd, r, hg, rfl, ha⟩ | ⟨hg, rfl, ha⟩)
  rotate_left 1
  · exact ⟨rfl, .inr ⟨hg, rfl, E0.out.no ha⟩⟩
  replace E0 := Lib.hid (E0.out.act ha)
  clear ha
  go_simp
  refine hK.out _ _ (cellAt (i := 0) (v := .int .i64 3) E0.out.hA (actC_kind _)) (fun hHeld => ?_)
  clear hK K
  try simp only [Act.put, List.setIfInBounds_toArray, List.set_cons_zero, List.set_cons_succ]
  refine wpAnyH_done (by kernel_rfl) ?_ _
  simp only [Exit.then]
  obtain ⟨rs, hrs⟩ : ∃ x, x = bs r := ⟨_, rfl⟩
  have U : Hid (Calls Try.prog 26 #[.pointer (some ⟨b, 0, none⟩)] w6 fun e w' => e = .returned (.string rs) ∧ Rl b s [] w' ∧ But b w6 w') := by
    show Calls _ _ _ _ _; rw [hrs]; exact rest_l b s r w6 E0.out.rd hs
  have HG := Lib.hid hg
  have HRS := Lib.hid hrs
  clear hg hrs GC FO EA hHeld hb5
  go_wp2_with (fail)
  (with_reducible refine U.out.mono ?_)
  clear U
  rintro e w7 ⟨rfl, hr7, hb7⟩
  have E7 := Lib.hid (E0.out.but hr7 hb7)
  clear hr7 hb7 E0
  have k0 := cellAt (i := 0) (v := .string ⟨#[]⟩) E7.out.hR rfl
  have f0 := Lib.frozen_of_heap E7.out.hR 0
  go_wp2_with (fail)
  go_end0
  have q := E7.out.ne.2.2
  refine .inl ⟨bd, r, HG.out, rfl, ?_, ?_, E7.out.sv.set (.inl (by simp)) _⟩
  · rw [heap_off A RB (fun e => q e.symm)]; exact E7.out.hA
  · rw [← HRS.out]; exact heap_set E7.out.hR (i := 0) (by simp) _
set_option maxHeartbeats 2000000 in
theorem ent1_4 (b A RB : Nat) (w : World) (s : ByteArray) (l : List UInt8) (hs : s.size ≤ MX) (h : ESt b A RB w s l (actC 4 .non) #[.string ⟨#[]⟩] w) : Calls Try.prog 30 #[.pointer (some ⟨b, 0, none⟩), .pointer (some ⟨A, 0, none⟩), .pointer (some ⟨RB, 0, none⟩)] w (EPost 4 b A RB l w) := by
  have E0 := Lib.hid h
  have FO := Lib.hid forms_any
  have GC : Hid (∀ V, ASt b A V s l (actC 4 .non) V → Calls Try.prog 56 #[.pointer (some ⟨b, 0, none⟩), .pointer (some ⟨A, 0, none⟩)] V (APost 4 b A s l V)) := fun V h => tun2_any b A V V s l hs h
  have EA : ∀ {V : World}, ESt b A RB w s l (actC 4 .non) #[.string ⟨#[]⟩] V → ASt b A V s l (actC 4 .non) V := fun h => ⟨h.rd, h.hA, h.ne.1, Save.refl _ _⟩
  have actC_kind : ∀ bd, (actC 4 bd)[0]? = some (.int .i64 4) := fun bd => by cases bd <;> rfl
  have ix : ∀ V : World, (Instr.index 84 (.agg formsC) (.int .i64 4)).run Try.prog V = .ok (.agg #[.func (.func 55) #[] #[], .func (.func 56) #[] #[], .func (.func 57) #[] #[]]) V := fun V => by rfl
  have fx : ∀ V : World, (Instr.field 83 (.agg #[.func (.func 55) #[] #[], .func (.func 56) #[] #[], .func (.func 57) #[] #[]]) 1).run Try.prog V = .ok (.func (.func 56) #[] #[]) V := fun V => by rfl
  clear h
  go_enter Try.func30, Try.ntmps30
  go_upto_region 0 with (fail)
  refine wp_region_held_drew (S := fun V => V.cell? ⟨A, 0, none⟩ = some (.int .i64 4)) (by kernel_rfl) (cellAt (i := 0) (v := .int .i64 4) E0.out.hA rfl) (fun hHeld => ?_)
  refine wpAnyH_take (i := 1) (oi := { dst := some 5, op := Op.fieldAddr 47 (Operand.tmp 1) 0, type := 0, pos := "script.go:140", after := #[], guard := none }) (v := ?_) rfl (by kernel_rfl) (by kernel_rfl) (by kernel_rfl) (fun _ _ _ h => h) (Or.inl ⟨by rfl, ?_⟩) (by assumption) ?_
  rotate_left 1
  · intro w hSw
    go_simp
    first | done | with_reducible rfl
  try simp only [Act.put, List.setIfInBounds_toArray, List.set_cons_zero, List.set_cons_succ]
  refine wpAnyH_take (i := 2) (oi := { dst := some 6, op := Op.load 3 (Operand.tmp 5), type := 3, pos := "script.go:140", after := #[{ on := 1, ground := Ground.data }], guard := none }) (v := ?_) rfl (by kernel_rfl) (by kernel_rfl) (by kernel_rfl) (fun _ _ _ h => h) (Or.inl ⟨by rfl, ?_⟩) (by assumption) ?_
  rotate_left 1
  · intro w hSw
    go_simp
    first | done | with_reducible rfl
  try simp only [Act.put, List.setIfInBounds_toArray, List.set_cons_zero, List.set_cons_succ]
  refine wpAnyH_take (i := 5) (oi := { dst := some 9, op := Op.move (Operand.tmp 0), type := 68, pos := "script.go:140", after := #[], guard := none }) (v := ?_) rfl (by kernel_rfl) (by kernel_rfl) (by kernel_rfl) (fun _ _ _ h => h) (Or.inl ⟨by rfl, ?_⟩) (by assumption) ?_
  rotate_left 1
  · intro w hSw
    go_simp
    first | done | with_reducible rfl
  try simp only [Act.put, List.setIfInBounds_toArray, List.set_cons_zero, List.set_cons_succ]
  refine wpAnyH_ready (rs := [0]) (by kernel_rfl) (by simp) ?_
  refine AllReadyH.cons (o := { dst := some 4, op := Op.call { callee := Callee.value (Operand.func 31), args := #[], argTypes := #[] }, type := 84, pos := "script.go:140", after := #[], guard := none }) rfl (fun K hK => ?_) AllReadyH.nil
  go_simp
  (go_at_call 31; (with_reducible refine (FO.out _).mono ?_); rintro e w5 ⟨rfl, hb5⟩)
  replace E0 := Lib.hid (E0.out.below (of_drew hb5))
  go_simp
  refine hK.out _ _ (cellAt (i := 0) (v := .int .i64 4) E0.out.hA rfl) (fun hHeld => ?_)
  clear hK K
  try simp only [Act.put, List.setIfInBounds_toArray, List.set_cons_zero, List.set_cons_succ]
  refine wpAnyH_take (i := 3) (oi := { dst := some 7, op := Op.index 84 (Operand.tmp 4) (Operand.tmp 6), type := 83, pos := "script.go:140", after := #[{ on := 0, ground := Ground.data }, { on := 2, ground := Ground.data }], guard := none }) (v := ?_) rfl (by kernel_rfl) (by kernel_rfl) (by kernel_rfl) (fun _ _ _ h => h) (Or.inl ⟨by rfl, ?_⟩) (by assumption) ?_
  rotate_left 1
  · intro w hSw
    go_simp
    first | done | with_reducible rfl
  try simp only [Act.put, List.setIfInBounds_toArray, List.set_cons_zero, List.set_cons_succ]
  refine wpAnyH_take (i := 4) (oi := { dst := some 8, op := Op.field 83 (Operand.tmp 7) 1, type := 80, pos := "script.go:140", after := #[{ on := 3, ground := Ground.data }], guard := none }) (v := ?_) rfl (by kernel_rfl) (by kernel_rfl) (by kernel_rfl) (fun _ _ _ h => h) (Or.inl ⟨by rfl, ?_⟩) (by assumption) ?_
  rotate_left 1
  · intro w hSw
    go_simp
    first | done | with_reducible rfl
  try simp only [Act.put, List.setIfInBounds_toArray, List.set_cons_zero, List.set_cons_succ]
  refine wpAnyH_ready (rs := [6]) (by kernel_rfl) (by simp) ?_
  refine AllReadyH.cons (o := { dst := some 10, op := Op.call { callee := Callee.value (Operand.tmp 8), args := #[Operand.tmp 9, Operand.tmp 1], argTypes := #[68, 86] }, type := 0, pos := "script.go:140", after := #[{ on := 4, ground := Ground.data }, { on := 5, ground := Ground.data }, { on := 0, ground := Ground.chain }], guard := none }) rfl (fun K hK => ?_) AllReadyH.nil
  go_simp
  go_at_call 56
  (with_reducible refine (GC.out _ (EA E0.out)).mono ?_)
  rintro e w6 (⟨bd, r, hg, rfl, ha⟩ | ⟨hg, rfl, ha⟩)
  rotate_left 1
  · exact ⟨rfl, .inr ⟨hg, rfl, E0.out.no ha⟩⟩
  replace E0 := Lib.hid (E0.out.act ha)
  clear ha
  go_simp
  refine hK.out _ _ (cellAt (i := 0) (v := .int .i64 4) E0.out.hA (actC_kind _)) (fun hHeld => ?_)
  clear hK K
  try simp only [Act.put, List.setIfInBounds_toArray, List.set_cons_zero, List.set_cons_succ]
  refine wpAnyH_done (by kernel_rfl) ?_ _
  simp only [Exit.then]
  obtain ⟨rs, hrs⟩ : ∃ x, x = bs r := ⟨_, rfl⟩
  have U : Hid (Calls Try.prog 26 #[.pointer (some ⟨b, 0, none⟩)] w6 fun e w' => e = .returned (.string rs) ∧ Rl b s [] w' ∧ But b w6 w') := by
    show Calls _ _ _ _ _; rw [hrs]; exact rest_l b s r w6 E0.out.rd hs
  have HG := Lib.hid hg
  have HRS := Lib.hid hrs
  clear hg hrs GC FO EA hHeld hb5
  go_wp2_with (fail)
  (with_reducible refine U.out.mono ?_)
  clear U
  rintro e w7 ⟨rfl, hr7, hb7⟩
  have E7 := Lib.hid (E0.out.but hr7 hb7)
  clear hr7 hb7 E0
  have k0 := cellAt (i := 0) (v := .string ⟨#[]⟩) E7.out.hR rfl
  have f0 := Lib.frozen_of_heap E7.out.hR 0
  go_wp2_with (fail)
  go_end0
  have q := E7.out.ne.2.2
  refine .inl ⟨bd, r, HG.out, rfl, ?_, ?_, E7.out.sv.set (.inl (by simp)) _⟩
  · rw [heap_off A RB (fun e => q e.symm)]; exact E7.out.hA
  · rw [← HRS.out]; exact heap_set E7.out.hR (i := 0) (by simp) _
set_option maxHeartbeats 2000000 in
theorem ent1_5 (b A RB : Nat) (w : World) (s : ByteArray) (l : List UInt8) (hs : s.size ≤ MX) (h : ESt b A RB w s l (actC 5 .non) #[.string ⟨#[]⟩] w) : Calls Try.prog 30 #[.pointer (some ⟨b, 0, none⟩), .pointer (some ⟨A, 0, none⟩), .pointer (some ⟨RB, 0, none⟩)] w (EPost 5 b A RB l w) := by
  have E0 := Lib.hid h
  have FO := Lib.hid forms_any
  have GC : Hid (∀ V, ASt b A V s l (actC 5 .non) V → Calls Try.prog 77 #[.pointer (some ⟨b, 0, none⟩), .pointer (some ⟨A, 0, none⟩)] V (APost 5 b A s l V)) := fun V h => num2_any 5 b A V V s l (by simp) hs h
  have EA : ∀ {V : World}, ESt b A RB w s l (actC 5 .non) #[.string ⟨#[]⟩] V → ASt b A V s l (actC 5 .non) V := fun h => ⟨h.rd, h.hA, h.ne.1, Save.refl _ _⟩
  have actC_kind : ∀ bd, (actC 5 bd)[0]? = some (.int .i64 5) := fun bd => by cases bd <;> rfl
  have ix : ∀ V : World, (Instr.index 84 (.agg formsC) (.int .i64 5)).run Try.prog V = .ok (.agg #[.func (.func 76) #[] #[], .func (.func 77) #[] #[], .func (.func 78) #[] #[]]) V := fun V => by rfl
  have fx : ∀ V : World, (Instr.field 83 (.agg #[.func (.func 76) #[] #[], .func (.func 77) #[] #[], .func (.func 78) #[] #[]]) 1).run Try.prog V = .ok (.func (.func 77) #[] #[]) V := fun V => by rfl
  clear h
  go_enter Try.func30, Try.ntmps30
  go_upto_region 0 with (fail)
  refine wp_region_held_drew (S := fun V => V.cell? ⟨A, 0, none⟩ = some (.int .i64 5)) (by kernel_rfl) (cellAt (i := 0) (v := .int .i64 5) E0.out.hA rfl) (fun hHeld => ?_)
  refine wpAnyH_take (i := 1) (oi := { dst := some 5, op := Op.fieldAddr 47 (Operand.tmp 1) 0, type := 0, pos := "script.go:140", after := #[], guard := none }) (v := ?_) rfl (by kernel_rfl) (by kernel_rfl) (by kernel_rfl) (fun _ _ _ h => h) (Or.inl ⟨by rfl, ?_⟩) (by assumption) ?_
  rotate_left 1
  · intro w hSw
    go_simp
    first | done | with_reducible rfl
  try simp only [Act.put, List.setIfInBounds_toArray, List.set_cons_zero, List.set_cons_succ]
  refine wpAnyH_take (i := 2) (oi := { dst := some 6, op := Op.load 3 (Operand.tmp 5), type := 3, pos := "script.go:140", after := #[{ on := 1, ground := Ground.data }], guard := none }) (v := ?_) rfl (by kernel_rfl) (by kernel_rfl) (by kernel_rfl) (fun _ _ _ h => h) (Or.inl ⟨by rfl, ?_⟩) (by assumption) ?_
  rotate_left 1
  · intro w hSw
    go_simp
    first | done | with_reducible rfl
  try simp only [Act.put, List.setIfInBounds_toArray, List.set_cons_zero, List.set_cons_succ]
  refine wpAnyH_take (i := 5) (oi := { dst := some 9, op := Op.move (Operand.tmp 0), type := 68, pos := "script.go:140", after := #[], guard := none }) (v := ?_) rfl (by kernel_rfl) (by kernel_rfl) (by kernel_rfl) (fun _ _ _ h => h) (Or.inl ⟨by rfl, ?_⟩) (by assumption) ?_
  rotate_left 1
  · intro w hSw
    go_simp
    first | done | with_reducible rfl
  try simp only [Act.put, List.setIfInBounds_toArray, List.set_cons_zero, List.set_cons_succ]
  refine wpAnyH_ready (rs := [0]) (by kernel_rfl) (by simp) ?_
  refine AllReadyH.cons (o := { dst := some 4, op := Op.call { callee := Callee.value (Operand.func 31), args := #[], argTypes := #[] }, type := 84, pos := "script.go:140", after := #[], guard := none }) rfl (fun K hK => ?_) AllReadyH.nil
  go_simp
  (go_at_call 31; (with_reducible refine (FO.out _).mono ?_); rintro e w5 ⟨rfl, hb5⟩)
  replace E0 := Lib.hid (E0.out.below (of_drew hb5))
  go_simp
  refine hK.out _ _ (cellAt (i := 0) (v := .int .i64 5) E0.out.hA rfl) (fun hHeld => ?_)
  clear hK K
  try simp only [Act.put, List.setIfInBounds_toArray, List.set_cons_zero, List.set_cons_succ]
  refine wpAnyH_take (i := 3) (oi := { dst := some 7, op := Op.index 84 (Operand.tmp 4) (Operand.tmp 6), type := 83, pos := "script.go:140", after := #[{ on := 0, ground := Ground.data }, { on := 2, ground := Ground.data }], guard := none }) (v := ?_) rfl (by kernel_rfl) (by kernel_rfl) (by kernel_rfl) (fun _ _ _ h => h) (Or.inl ⟨by rfl, ?_⟩) (by assumption) ?_
  rotate_left 1
  · intro w hSw
    go_simp
    first | done | with_reducible rfl
  try simp only [Act.put, List.setIfInBounds_toArray, List.set_cons_zero, List.set_cons_succ]
  refine wpAnyH_take (i := 4) (oi := { dst := some 8, op := Op.field 83 (Operand.tmp 7) 1, type := 80, pos := "script.go:140", after := #[{ on := 3, ground := Ground.data }], guard := none }) (v := ?_) rfl (by kernel_rfl) (by kernel_rfl) (by kernel_rfl) (fun _ _ _ h => h) (Or.inl ⟨by rfl, ?_⟩) (by assumption) ?_
  rotate_left 1
  · intro w hSw
    go_simp
    first | done | with_reducible rfl
  try simp only [Act.put, List.setIfInBounds_toArray, List.set_cons_zero, List.set_cons_succ]
  refine wpAnyH_ready (rs := [6]) (by kernel_rfl) (by simp) ?_
  refine AllReadyH.cons (o := { dst := some 10, op := Op.call { callee := Callee.value (Operand.tmp 8), args := #[Operand.tmp 9, Operand.tmp 1], argTypes := #[68, 86] }, type := 0, pos := "script.go:140", after := #[{ on := 4, ground := Ground.data }, { on := 5, ground := Ground.data }, { on := 0, ground := Ground.chain }], guard := none }) rfl (fun K hK => ?_) AllReadyH.nil
  go_simp
  go_at_call 77
  (with_reducible refine (GC.out _ (EA E0.out)).mono ?_)
  rintro e w6 (⟨bd, r, hg, rfl, ha⟩ | ⟨hg, rfl, ha⟩)
  rotate_left 1
  · exact ⟨rfl, .inr ⟨hg, rfl, E0.out.no ha⟩⟩
  replace E0 := Lib.hid (E0.out.act ha)
  clear ha
  go_simp
  refine hK.out _ _ (cellAt (i := 0) (v := .int .i64 5) E0.out.hA (actC_kind _)) (fun hHeld => ?_)
  clear hK K
  try simp only [Act.put, List.setIfInBounds_toArray, List.set_cons_zero, List.set_cons_succ]
  refine wpAnyH_done (by kernel_rfl) ?_ _
  simp only [Exit.then]
  obtain ⟨rs, hrs⟩ : ∃ x, x = bs r := ⟨_, rfl⟩
  have U : Hid (Calls Try.prog 26 #[.pointer (some ⟨b, 0, none⟩)] w6 fun e w' => e = .returned (.string rs) ∧ Rl b s [] w' ∧ But b w6 w') := by
    show Calls _ _ _ _ _; rw [hrs]; exact rest_l b s r w6 E0.out.rd hs
  have HG := Lib.hid hg
  have HRS := Lib.hid hrs
  clear hg hrs GC FO EA hHeld hb5
  go_wp2_with (fail)
  (with_reducible refine U.out.mono ?_)
  clear U
  rintro e w7 ⟨rfl, hr7, hb7⟩
  have E7 := Lib.hid (E0.out.but hr7 hb7)
  clear hr7 hb7 E0
  have k0 := cellAt (i := 0) (v := .string ⟨#[]⟩) E7.out.hR rfl
  have f0 := Lib.frozen_of_heap E7.out.hR 0
  go_wp2_with (fail)
  go_end0
  have q := E7.out.ne.2.2
  refine .inl ⟨bd, r, HG.out, rfl, ?_, ?_, E7.out.sv.set (.inl (by simp)) _⟩
  · rw [heap_off A RB (fun e => q e.symm)]; exact E7.out.hA
  · rw [← HRS.out]; exact heap_set E7.out.hR (i := 0) (by simp) _
set_option maxHeartbeats 2000000 in
theorem ent1_6 (b A RB : Nat) (w : World) (s : ByteArray) (l : List UInt8) (hs : s.size ≤ MX) (h : ESt b A RB w s l (actC 6 .non) #[.string ⟨#[]⟩] w) : Calls Try.prog 30 #[.pointer (some ⟨b, 0, none⟩), .pointer (some ⟨A, 0, none⟩), .pointer (some ⟨RB, 0, none⟩)] w (EPost 6 b A RB l w) := by
  have E0 := Lib.hid h
  have FO := Lib.hid forms_any
  have GC : Hid (∀ V, ASt b A V s l (actC 6 .non) V → Calls Try.prog 77 #[.pointer (some ⟨b, 0, none⟩), .pointer (some ⟨A, 0, none⟩)] V (APost 6 b A s l V)) := fun V h => num2_any 6 b A V V s l (by simp) hs h
  have EA : ∀ {V : World}, ESt b A RB w s l (actC 6 .non) #[.string ⟨#[]⟩] V → ASt b A V s l (actC 6 .non) V := fun h => ⟨h.rd, h.hA, h.ne.1, Save.refl _ _⟩
  have actC_kind : ∀ bd, (actC 6 bd)[0]? = some (.int .i64 6) := fun bd => by cases bd <;> rfl
  have ix : ∀ V : World, (Instr.index 84 (.agg formsC) (.int .i64 6)).run Try.prog V = .ok (.agg #[.func (.func 76) #[] #[], .func (.func 77) #[] #[], .func (.func 78) #[] #[]]) V := fun V => by rfl
  have fx : ∀ V : World, (Instr.field 83 (.agg #[.func (.func 76) #[] #[], .func (.func 77) #[] #[], .func (.func 78) #[] #[]]) 1).run Try.prog V = .ok (.func (.func 77) #[] #[]) V := fun V => by rfl
  clear h
  go_enter Try.func30, Try.ntmps30
  go_upto_region 0 with (fail)
  refine wp_region_held_drew (S := fun V => V.cell? ⟨A, 0, none⟩ = some (.int .i64 6)) (by kernel_rfl) (cellAt (i := 0) (v := .int .i64 6) E0.out.hA rfl) (fun hHeld => ?_)
  refine wpAnyH_take (i := 1) (oi := { dst := some 5, op := Op.fieldAddr 47 (Operand.tmp 1) 0, type := 0, pos := "script.go:140", after := #[], guard := none }) (v := ?_) rfl (by kernel_rfl) (by kernel_rfl) (by kernel_rfl) (fun _ _ _ h => h) (Or.inl ⟨by rfl, ?_⟩) (by assumption) ?_
  rotate_left 1
  · intro w hSw
    go_simp
    first | done | with_reducible rfl
  try simp only [Act.put, List.setIfInBounds_toArray, List.set_cons_zero, List.set_cons_succ]
  refine wpAnyH_take (i := 2) (oi := { dst := some 6, op := Op.load 3 (Operand.tmp 5), type := 3, pos := "script.go:140", after := #[{ on := 1, ground := Ground.data }], guard := none }) (v := ?_) rfl (by kernel_rfl) (by kernel_rfl) (by kernel_rfl) (fun _ _ _ h => h) (Or.inl ⟨by rfl, ?_⟩) (by assumption) ?_
  rotate_left 1
  · intro w hSw
    go_simp
    first | done | with_reducible rfl
  try simp only [Act.put, List.setIfInBounds_toArray, List.set_cons_zero, List.set_cons_succ]
  refine wpAnyH_take (i := 5) (oi := { dst := some 9, op := Op.move (Operand.tmp 0), type := 68, pos := "script.go:140", after := #[], guard := none }) (v := ?_) rfl (by kernel_rfl) (by kernel_rfl) (by kernel_rfl) (fun _ _ _ h => h) (Or.inl ⟨by rfl, ?_⟩) (by assumption) ?_
  rotate_left 1
  · intro w hSw
    go_simp
    first | done | with_reducible rfl
  try simp only [Act.put, List.setIfInBounds_toArray, List.set_cons_zero, List.set_cons_succ]
  refine wpAnyH_ready (rs := [0]) (by kernel_rfl) (by simp) ?_
  refine AllReadyH.cons (o := { dst := some 4, op := Op.call { callee := Callee.value (Operand.func 31), args := #[], argTypes := #[] }, type := 84, pos := "script.go:140", after := #[], guard := none }) rfl (fun K hK => ?_) AllReadyH.nil
  go_simp
  (go_at_call 31; (with_reducible refine (FO.out _).mono ?_); rintro e w5 ⟨rfl, hb5⟩)
  replace E0 := Lib.hid (E0.out.below (of_drew hb5))
  go_simp
  refine hK.out _ _ (cellAt (i := 0) (v := .int .i64 6) E0.out.hA rfl) (fun hHeld => ?_)
  clear hK K
  try simp only [Act.put, List.setIfInBounds_toArray, List.set_cons_zero, List.set_cons_succ]
  refine wpAnyH_take (i := 3) (oi := { dst := some 7, op := Op.index 84 (Operand.tmp 4) (Operand.tmp 6), type := 83, pos := "script.go:140", after := #[{ on := 0, ground := Ground.data }, { on := 2, ground := Ground.data }], guard := none }) (v := ?_) rfl (by kernel_rfl) (by kernel_rfl) (by kernel_rfl) (fun _ _ _ h => h) (Or.inl ⟨by rfl, ?_⟩) (by assumption) ?_
  rotate_left 1
  · intro w hSw
    go_simp
    first | done | with_reducible rfl
  try simp only [Act.put, List.setIfInBounds_toArray, List.set_cons_zero, List.set_cons_succ]
  refine wpAnyH_take (i := 4) (oi := { dst := some 8, op := Op.field 83 (Operand.tmp 7) 1, type := 80, pos := "script.go:140", after := #[{ on := 3, ground := Ground.data }], guard := none }) (v := ?_) rfl (by kernel_rfl) (by kernel_rfl) (by kernel_rfl) (fun _ _ _ h => h) (Or.inl ⟨by rfl, ?_⟩) (by assumption) ?_
  rotate_left 1
  · intro w hSw
    go_simp
    first | done | with_reducible rfl
  try simp only [Act.put, List.setIfInBounds_toArray, List.set_cons_zero, List.set_cons_succ]
  refine wpAnyH_ready (rs := [6]) (by kernel_rfl) (by simp) ?_
  refine AllReadyH.cons (o := { dst := some 10, op := Op.call { callee := Callee.value (Operand.tmp 8), args := #[Operand.tmp 9, Operand.tmp 1], argTypes := #[68, 86] }, type := 0, pos := "script.go:140", after := #[{ on := 4, ground := Ground.data }, { on := 5, ground := Ground.data }, { on := 0, ground := Ground.chain }], guard := none }) rfl (fun K hK => ?_) AllReadyH.nil
  go_simp
  go_at_call 77
  (with_reducible refine (GC.out _ (EA E0.out)).mono ?_)
  rintro e w6 (⟨bd, r, hg, rfl, ha⟩ | ⟨hg, rfl, ha⟩)
  rotate_left 1
  · exact ⟨rfl, .inr ⟨hg, rfl, E0.out.no ha⟩⟩
  replace E0 := Lib.hid (E0.out.act ha)
  clear ha
  go_simp
  refine hK.out _ _ (cellAt (i := 0) (v := .int .i64 6) E0.out.hA (actC_kind _)) (fun hHeld => ?_)
  clear hK K
  try simp only [Act.put, List.setIfInBounds_toArray, List.set_cons_zero, List.set_cons_succ]
  refine wpAnyH_done (by kernel_rfl) ?_ _
  simp only [Exit.then]
  obtain ⟨rs, hrs⟩ : ∃ x, x = bs r := ⟨_, rfl⟩
  have U : Hid (Calls Try.prog 26 #[.pointer (some ⟨b, 0, none⟩)] w6 fun e w' => e = .returned (.string rs) ∧ Rl b s [] w' ∧ But b w6 w') := by
    show Calls _ _ _ _ _; rw [hrs]; exact rest_l b s r w6 E0.out.rd hs
  have HG := Lib.hid hg
  have HRS := Lib.hid hrs
  clear hg hrs GC FO EA hHeld hb5
  go_wp2_with (fail)
  (with_reducible refine U.out.mono ?_)
  clear U
  rintro e w7 ⟨rfl, hr7, hb7⟩
  have E7 := Lib.hid (E0.out.but hr7 hb7)
  clear hr7 hb7 E0
  have k0 := cellAt (i := 0) (v := .string ⟨#[]⟩) E7.out.hR rfl
  have f0 := Lib.frozen_of_heap E7.out.hR 0
  go_wp2_with (fail)
  go_end0
  have q := E7.out.ne.2.2
  refine .inl ⟨bd, r, HG.out, rfl, ?_, ?_, E7.out.sv.set (.inl (by simp)) _⟩
  · rw [heap_off A RB (fun e => q e.symm)]; exact E7.out.hA
  · rw [← HRS.out]; exact heap_set E7.out.hR (i := 0) (by simp) _
set_option maxHeartbeats 2000000 in
theorem ent1_7 (b A RB : Nat) (w : World) (s : ByteArray) (l : List UInt8) (hs : s.size ≤ MX) (h : ESt b A RB w s l (actC 7 .non) #[.string ⟨#[]⟩] w) : Calls Try.prog 30 #[.pointer (some ⟨b, 0, none⟩), .pointer (some ⟨A, 0, none⟩), .pointer (some ⟨RB, 0, none⟩)] w (EPost 7 b A RB l w) := by
  have E0 := Lib.hid h
  have FO := Lib.hid forms_any
  have GC : Hid (∀ V, ASt b A V s l (actC 7 .non) V → Calls Try.prog 77 #[.pointer (some ⟨b, 0, none⟩), .pointer (some ⟨A, 0, none⟩)] V (APost 7 b A s l V)) := fun V h => num2_any 7 b A V V s l (by simp) hs h
  have EA : ∀ {V : World}, ESt b A RB w s l (actC 7 .non) #[.string ⟨#[]⟩] V → ASt b A V s l (actC 7 .non) V := fun h => ⟨h.rd, h.hA, h.ne.1, Save.refl _ _⟩
  have actC_kind : ∀ bd, (actC 7 bd)[0]? = some (.int .i64 7) := fun bd => by cases bd <;> rfl
  have ix : ∀ V : World, (Instr.index 84 (.agg formsC) (.int .i64 7)).run Try.prog V = .ok (.agg #[.func (.func 76) #[] #[], .func (.func 77) #[] #[], .func (.func 78) #[] #[]]) V := fun V => by rfl
  have fx : ∀ V : World, (Instr.field 83 (.agg #[.func (.func 76) #[] #[], .func (.func 77) #[] #[], .func (.func 78) #[] #[]]) 1).run Try.prog V = .ok (.func (.func 77) #[] #[]) V := fun V => by rfl
  clear h
  go_enter Try.func30, Try.ntmps30
  go_upto_region 0 with (fail)
  refine wp_region_held_drew (S := fun V => V.cell? ⟨A, 0, none⟩ = some (.int .i64 7)) (by kernel_rfl) (cellAt (i := 0) (v := .int .i64 7) E0.out.hA rfl) (fun hHeld => ?_)
  refine wpAnyH_take (i := 1) (oi := { dst := some 5, op := Op.fieldAddr 47 (Operand.tmp 1) 0, type := 0, pos := "script.go:140", after := #[], guard := none }) (v := ?_) rfl (by kernel_rfl) (by kernel_rfl) (by kernel_rfl) (fun _ _ _ h => h) (Or.inl ⟨by rfl, ?_⟩) (by assumption) ?_
  rotate_left 1
  · intro w hSw
    go_simp
    first | done | with_reducible rfl
  try simp only [Act.put, List.setIfInBounds_toArray, List.set_cons_zero, List.set_cons_succ]
  refine wpAnyH_take (i := 2) (oi := { dst := some 6, op := Op.load 3 (Operand.tmp 5), type := 3, pos := "script.go:140", after := #[{ on := 1, ground := Ground.data }], guard := none }) (v := ?_) rfl (by kernel_rfl) (by kernel_rfl) (by kernel_rfl) (fun _ _ _ h => h) (Or.inl ⟨by rfl, ?_⟩) (by assumption) ?_
  rotate_left 1
  · intro w hSw
    go_simp
    first | done | with_reducible rfl
  try simp only [Act.put, List.setIfInBounds_toArray, List.set_cons_zero, List.set_cons_succ]
  refine wpAnyH_take (i := 5) (oi := { dst := some 9, op := Op.move (Operand.tmp 0), type := 68, pos := "script.go:140", after := #[], guard := none }) (v := ?_) rfl (by kernel_rfl) (by kernel_rfl) (by kernel_rfl) (fun _ _ _ h => h) (Or.inl ⟨by rfl, ?_⟩) (by assumption) ?_
  rotate_left 1
  · intro w hSw
    go_simp
    first | done | with_reducible rfl
  try simp only [Act.put, List.setIfInBounds_toArray, List.set_cons_zero, List.set_cons_succ]
  refine wpAnyH_ready (rs := [0]) (by kernel_rfl) (by simp) ?_
  refine AllReadyH.cons (o := { dst := some 4, op := Op.call { callee := Callee.value (Operand.func 31), args := #[], argTypes := #[] }, type := 84, pos := "script.go:140", after := #[], guard := none }) rfl (fun K hK => ?_) AllReadyH.nil
  go_simp
  (go_at_call 31; (with_reducible refine (FO.out _).mono ?_); rintro e w5 ⟨rfl, hb5⟩)
  replace E0 := Lib.hid (E0.out.below (of_drew hb5))
  go_simp
  refine hK.out _ _ (cellAt (i := 0) (v := .int .i64 7) E0.out.hA rfl) (fun hHeld => ?_)
  clear hK K
  try simp only [Act.put, List.setIfInBounds_toArray, List.set_cons_zero, List.set_cons_succ]
  refine wpAnyH_take (i := 3) (oi := { dst := some 7, op := Op.index 84 (Operand.tmp 4) (Operand.tmp 6), type := 83, pos := "script.go:140", after := #[{ on := 0, ground := Ground.data }, { on := 2, ground := Ground.data }], guard := none }) (v := ?_) rfl (by kernel_rfl) (by kernel_rfl) (by kernel_rfl) (fun _ _ _ h => h) (Or.inl ⟨by rfl, ?_⟩) (by assumption) ?_
  rotate_left 1
  · intro w hSw
    go_simp
    first | done | with_reducible rfl
  try simp only [Act.put, List.setIfInBounds_toArray, List.set_cons_zero, List.set_cons_succ]
  refine wpAnyH_take (i := 4) (oi := { dst := some 8, op := Op.field 83 (Operand.tmp 7) 1, type := 80, pos := "script.go:140", after := #[{ on := 3, ground := Ground.data }], guard := none }) (v := ?_) rfl (by kernel_rfl) (by kernel_rfl) (by kernel_rfl) (fun _ _ _ h => h) (Or.inl ⟨by rfl, ?_⟩) (by assumption) ?_
  rotate_left 1
  · intro w hSw
    go_simp
    first | done | with_reducible rfl
  try simp only [Act.put, List.setIfInBounds_toArray, List.set_cons_zero, List.set_cons_succ]
  refine wpAnyH_ready (rs := [6]) (by kernel_rfl) (by simp) ?_
  refine AllReadyH.cons (o := { dst := some 10, op := Op.call { callee := Callee.value (Operand.tmp 8), args := #[Operand.tmp 9, Operand.tmp 1], argTypes := #[68, 86] }, type := 0, pos := "script.go:140", after := #[{ on := 4, ground := Ground.data }, { on := 5, ground := Ground.data }, { on := 0, ground := Ground.chain }], guard := none }) rfl (fun K hK => ?_) AllReadyH.nil
  go_simp
  go_at_call 77
  (with_reducible refine (GC.out _ (EA E0.out)).mono ?_)
  rintro e w6 (⟨bd, r, hg, rfl, ha⟩ | ⟨hg, rfl, ha⟩)
  rotate_left 1
  · exact ⟨rfl, .inr ⟨hg, rfl, E0.out.no ha⟩⟩
  replace E0 := Lib.hid (E0.out.act ha)
  clear ha
  go_simp
  refine hK.out _ _ (cellAt (i := 0) (v := .int .i64 7) E0.out.hA (actC_kind _)) (fun hHeld => ?_)
  clear hK K
  try simp only [Act.put, List.setIfInBounds_toArray, List.set_cons_zero, List.set_cons_succ]
  refine wpAnyH_done (by kernel_rfl) ?_ _
  simp only [Exit.then]
  obtain ⟨rs, hrs⟩ : ∃ x, x = bs r := ⟨_, rfl⟩
  have U : Hid (Calls Try.prog 26 #[.pointer (some ⟨b, 0, none⟩)] w6 fun e w' => e = .returned (.string rs) ∧ Rl b s [] w' ∧ But b w6 w') := by
    show Calls _ _ _ _ _; rw [hrs]; exact rest_l b s r w6 E0.out.rd hs
  have HG := Lib.hid hg
  have HRS := Lib.hid hrs
  clear hg hrs GC FO EA hHeld hb5
  go_wp2_with (fail)
  (with_reducible refine U.out.mono ?_)
  clear U
  rintro e w7 ⟨rfl, hr7, hb7⟩
  have E7 := Lib.hid (E0.out.but hr7 hb7)
  clear hr7 hb7 E0
  have k0 := cellAt (i := 0) (v := .string ⟨#[]⟩) E7.out.hR rfl
  have f0 := Lib.frozen_of_heap E7.out.hR 0
  go_wp2_with (fail)
  go_end0
  have q := E7.out.ne.2.2
  refine .inl ⟨bd, r, HG.out, rfl, ?_, ?_, E7.out.sv.set (.inl (by simp)) _⟩
  · rw [heap_off A RB (fun e => q e.symm)]; exact E7.out.hA
  · rw [← HRS.out]; exact heap_set E7.out.hR (i := 0) (by simp) _
set_option maxHeartbeats 2000000 in
theorem ent1_8 (b A RB : Nat) (w : World) (s : ByteArray) (l : List UInt8) (hs : s.size ≤ MX) (h : ESt b A RB w s l (actC 8 .non) #[.string ⟨#[]⟩] w) : Calls Try.prog 30 #[.pointer (some ⟨b, 0, none⟩), .pointer (some ⟨A, 0, none⟩), .pointer (some ⟨RB, 0, none⟩)] w (EPost 8 b A RB l w) := by
  have E0 := Lib.hid h
  have FO := Lib.hid forms_any
  have GC : Hid (∀ V, ASt b A V s l (actC 8 .non) V → Calls Try.prog 53 #[.pointer (some ⟨b, 0, none⟩), .pointer (some ⟨A, 0, none⟩)] V (APost 8 b A s l V)) := fun V h => mov2_any b A V V s l hs h
  have EA : ∀ {V : World}, ESt b A RB w s l (actC 8 .non) #[.string ⟨#[]⟩] V → ASt b A V s l (actC 8 .non) V := fun h => ⟨h.rd, h.hA, h.ne.1, Save.refl _ _⟩
  have actC_kind : ∀ bd, (actC 8 bd)[0]? = some (.int .i64 8) := fun bd => by cases bd <;> rfl
  have ix : ∀ V : World, (Instr.index 84 (.agg formsC) (.int .i64 8)).run Try.prog V = .ok (.agg #[.func (.func 52) #[] #[], .func (.func 53) #[] #[], .func (.func 54) #[] #[]]) V := fun V => by rfl
  have fx : ∀ V : World, (Instr.field 83 (.agg #[.func (.func 52) #[] #[], .func (.func 53) #[] #[], .func (.func 54) #[] #[]]) 1).run Try.prog V = .ok (.func (.func 53) #[] #[]) V := fun V => by rfl
  clear h
  go_enter Try.func30, Try.ntmps30
  go_upto_region 0 with (fail)
  refine wp_region_held_drew (S := fun V => V.cell? ⟨A, 0, none⟩ = some (.int .i64 8)) (by kernel_rfl) (cellAt (i := 0) (v := .int .i64 8) E0.out.hA rfl) (fun hHeld => ?_)
  refine wpAnyH_take (i := 1) (oi := { dst := some 5, op := Op.fieldAddr 47 (Operand.tmp 1) 0, type := 0, pos := "script.go:140", after := #[], guard := none }) (v := ?_) rfl (by kernel_rfl) (by kernel_rfl) (by kernel_rfl) (fun _ _ _ h => h) (Or.inl ⟨by rfl, ?_⟩) (by assumption) ?_
  rotate_left 1
  · intro w hSw
    go_simp
    first | done | with_reducible rfl
  try simp only [Act.put, List.setIfInBounds_toArray, List.set_cons_zero, List.set_cons_succ]
  refine wpAnyH_take (i := 2) (oi := { dst := some 6, op := Op.load 3 (Operand.tmp 5), type := 3, pos := "script.go:140", after := #[{ on := 1, ground := Ground.data }], guard := none }) (v := ?_) rfl (by kernel_rfl) (by kernel_rfl) (by kernel_rfl) (fun _ _ _ h => h) (Or.inl ⟨by rfl, ?_⟩) (by assumption) ?_
  rotate_left 1
  · intro w hSw
    go_simp
    first | done | with_reducible rfl
  try simp only [Act.put, List.setIfInBounds_toArray, List.set_cons_zero, List.set_cons_succ]
  refine wpAnyH_take (i := 5) (oi := { dst := some 9, op := Op.move (Operand.tmp 0), type := 68, pos := "script.go:140", after := #[], guard := none }) (v := ?_) rfl (by kernel_rfl) (by kernel_rfl) (by kernel_rfl) (fun _ _ _ h => h) (Or.inl ⟨by rfl, ?_⟩) (by assumption) ?_
  rotate_left 1
  · intro w hSw
    go_simp
    first | done | with_reducible rfl
  try simp only [Act.put, List.setIfInBounds_toArray, List.set_cons_zero, List.set_cons_succ]
  refine wpAnyH_ready (rs := [0]) (by kernel_rfl) (by simp) ?_
  refine AllReadyH.cons (o := { dst := some 4, op := Op.call { callee := Callee.value (Operand.func 31), args := #[], argTypes := #[] }, type := 84, pos := "script.go:140", after := #[], guard := none }) rfl (fun K hK => ?_) AllReadyH.nil
  go_simp
  (go_at_call 31; (with_reducible refine (FO.out _).mono ?_); rintro e w5 ⟨rfl, hb5⟩)
  replace E0 := Lib.hid (E0.out.below (of_drew hb5))
  go_simp
  refine hK.out _ _ (cellAt (i := 0) (v := .int .i64 8) E0.out.hA rfl) (fun hHeld => ?_)
  clear hK K
  try simp only [Act.put, List.setIfInBounds_toArray, List.set_cons_zero, List.set_cons_succ]
  refine wpAnyH_take (i := 3) (oi := { dst := some 7, op := Op.index 84 (Operand.tmp 4) (Operand.tmp 6), type := 83, pos := "script.go:140", after := #[{ on := 0, ground := Ground.data }, { on := 2, ground := Ground.data }], guard := none }) (v := ?_) rfl (by kernel_rfl) (by kernel_rfl) (by kernel_rfl) (fun _ _ _ h => h) (Or.inl ⟨by rfl, ?_⟩) (by assumption) ?_
  rotate_left 1
  · intro w hSw
    go_simp
    first | done | with_reducible rfl
  try simp only [Act.put, List.setIfInBounds_toArray, List.set_cons_zero, List.set_cons_succ]
  refine wpAnyH_take (i := 4) (oi := { dst := some 8, op := Op.field 83 (Operand.tmp 7) 1, type := 80, pos := "script.go:140", after := #[{ on := 3, ground := Ground.data }], guard := none }) (v := ?_) rfl (by kernel_rfl) (by kernel_rfl) (by kernel_rfl) (fun _ _ _ h => h) (Or.inl ⟨by rfl, ?_⟩) (by assumption) ?_
  rotate_left 1
  · intro w hSw
    go_simp
    first | done | with_reducible rfl
  try simp only [Act.put, List.setIfInBounds_toArray, List.set_cons_zero, List.set_cons_succ]
  refine wpAnyH_ready (rs := [6]) (by kernel_rfl) (by simp) ?_
  refine AllReadyH.cons (o := { dst := some 10, op := Op.call { callee := Callee.value (Operand.tmp 8), args := #[Operand.tmp 9, Operand.tmp 1], argTypes := #[68, 86] }, type := 0, pos := "script.go:140", after := #[{ on := 4, ground := Ground.data }, { on := 5, ground := Ground.data }, { on := 0, ground := Ground.chain }], guard := none }) rfl (fun K hK => ?_) AllReadyH.nil
  go_simp
  go_at_call 53
  (with_reducible refine (GC.out _ (EA E0.out)).mono ?_)
  rintro e w6 (⟨bd, r, hg, rfl, ha⟩ | ⟨hg, rfl, ha⟩)
  rotate_left 1
  · exact ⟨rfl, .inr ⟨hg, rfl, E0.out.no ha⟩⟩
  replace E0 := Lib.hid (E0.out.act ha)
  clear ha
  go_simp
  refine hK.out _ _ (cellAt (i := 0) (v := .int .i64 8) E0.out.hA (actC_kind _)) (fun hHeld => ?_)
  clear hK K
  try simp only [Act.put, List.setIfInBounds_toArray, List.set_cons_zero, List.set_cons_succ]
  refine wpAnyH_done (by kernel_rfl) ?_ _
  simp only [Exit.then]
  obtain ⟨rs, hrs⟩ : ∃ x, x = bs r := ⟨_, rfl⟩
  have U : Hid (Calls Try.prog 26 #[.pointer (some ⟨b, 0, none⟩)] w6 fun e w' => e = .returned (.string rs) ∧ Rl b s [] w' ∧ But b w6 w') := by
    show Calls _ _ _ _ _; rw [hrs]; exact rest_l b s r w6 E0.out.rd hs
  have HG := Lib.hid hg
  have HRS := Lib.hid hrs
  clear hg hrs GC FO EA hHeld hb5
  go_wp2_with (fail)
  (with_reducible refine U.out.mono ?_)
  clear U
  rintro e w7 ⟨rfl, hr7, hb7⟩
  have E7 := Lib.hid (E0.out.but hr7 hb7)
  clear hr7 hb7 E0
  have k0 := cellAt (i := 0) (v := .string ⟨#[]⟩) E7.out.hR rfl
  have f0 := Lib.frozen_of_heap E7.out.hR 0
  go_wp2_with (fail)
  go_end0
  have q := E7.out.ne.2.2
  refine .inl ⟨bd, r, HG.out, rfl, ?_, ?_, E7.out.sv.set (.inl (by simp)) _⟩
  · rw [heap_off A RB (fun e => q e.symm)]; exact E7.out.hA
  · rw [← HRS.out]; exact heap_set E7.out.hR (i := 0) (by simp) _
set_option maxHeartbeats 2000000 in
theorem ent1_9 (b A RB : Nat) (w : World) (s : ByteArray) (l : List UInt8) (hs : s.size ≤ MX) (h : ESt b A RB w s l (actC 9 .non) #[.string ⟨#[]⟩] w) : Calls Try.prog 30 #[.pointer (some ⟨b, 0, none⟩), .pointer (some ⟨A, 0, none⟩), .pointer (some ⟨RB, 0, none⟩)] w (EPost 9 b A RB l w) := by
  have E0 := Lib.hid h
  have FO := Lib.hid forms_any
  have GC : Hid (∀ V, ASt b A V s l (actC 9 .non) V → Calls Try.prog 69 #[.pointer (some ⟨b, 0, none⟩), .pointer (some ⟨A, 0, none⟩)] V (APost 9 b A s l V)) := fun V h => pkt2_any 9 b A V V s l (.inr rfl) hs h
  have EA : ∀ {V : World}, ESt b A RB w s l (actC 9 .non) #[.string ⟨#[]⟩] V → ASt b A V s l (actC 9 .non) V := fun h => ⟨h.rd, h.hA, h.ne.1, Save.refl _ _⟩
  have actC_kind : ∀ bd, (actC 9 bd)[0]? = some (.int .i64 9) := fun bd => by cases bd <;> rfl
  have ix : ∀ V : World, (Instr.index 84 (.agg formsC) (.int .i64 9)).run Try.prog V = .ok (.agg #[.func (.func 68) #[] #[], .func (.func 69) #[] #[], .func (.func 70) #[] #[]]) V := fun V => by rfl
  have fx : ∀ V : World, (Instr.field 83 (.agg #[.func (.func 68) #[] #[], .func (.func 69) #[] #[], .func (.func 70) #[] #[]]) 1).run Try.prog V = .ok (.func (.func 69) #[] #[]) V := fun V => by rfl
  clear h
  go_enter Try.func30, Try.ntmps30
  go_upto_region 0 with (fail)
  refine wp_region_held_drew (S := fun V => V.cell? ⟨A, 0, none⟩ = some (.int .i64 9)) (by kernel_rfl) (cellAt (i := 0) (v := .int .i64 9) E0.out.hA rfl) (fun hHeld => ?_)
  refine wpAnyH_take (i := 1) (oi := { dst := some 5, op := Op.fieldAddr 47 (Operand.tmp 1) 0, type := 0, pos := "script.go:140", after := #[], guard := none }) (v := ?_) rfl (by kernel_rfl) (by kernel_rfl) (by kernel_rfl) (fun _ _ _ h => h) (Or.inl ⟨by rfl, ?_⟩) (by assumption) ?_
  rotate_left 1
  · intro w hSw
    go_simp
    first | done | with_reducible rfl
  try simp only [Act.put, List.setIfInBounds_toArray, List.set_cons_zero, List.set_cons_succ]
  refine wpAnyH_take (i := 2) (oi := { dst := some 6, op := Op.load 3 (Operand.tmp 5), type := 3, pos := "script.go:140", after := #[{ on := 1, ground := Ground.data }], guard := none }) (v := ?_) rfl (by kernel_rfl) (by kernel_rfl) (by kernel_rfl) (fun _ _ _ h => h) (Or.inl ⟨by rfl, ?_⟩) (by assumption) ?_
  rotate_left 1
  · intro w hSw
    go_simp
    first | done | with_reducible rfl
  try simp only [Act.put, List.setIfInBounds_toArray, List.set_cons_zero, List.set_cons_succ]
  refine wpAnyH_take (i := 5) (oi := { dst := some 9, op := Op.move (Operand.tmp 0), type := 68, pos := "script.go:140", after := #[], guard := none }) (v := ?_) rfl (by kernel_rfl) (by kernel_rfl) (by kernel_rfl) (fun _ _ _ h => h) (Or.inl ⟨by rfl, ?_⟩) (by assumption) ?_
  rotate_left 1
  · intro w hSw
    go_simp
    first | done | with_reducible rfl
  try simp only [Act.put, List.setIfInBounds_toArray, List.set_cons_zero, List.set_cons_succ]
  refine wpAnyH_ready (rs := [0]) (by kernel_rfl) (by simp) ?_
  refine AllReadyH.cons (o := { dst := some 4, op := Op.call { callee := Callee.value (Operand.func 31), args := #[], argTypes := #[] }, type := 84, pos := "script.go:140", after := #[], guard := none }) rfl (fun K hK => ?_) AllReadyH.nil
  go_simp
  (go_at_call 31; (with_reducible refine (FO.out _).mono ?_); rintro e w5 ⟨rfl, hb5⟩)
  replace E0 := Lib.hid (E0.out.below (of_drew hb5))
  go_simp
  refine hK.out _ _ (cellAt (i := 0) (v := .int .i64 9) E0.out.hA rfl) (fun hHeld => ?_)
  clear hK K
  try simp only [Act.put, List.setIfInBounds_toArray, List.set_cons_zero, List.set_cons_succ]
  refine wpAnyH_take (i := 3) (oi := { dst := some 7, op := Op.index 84 (Operand.tmp 4) (Operand.tmp 6), type := 83, pos := "script.go:140", after := #[{ on := 0, ground := Ground.data }, { on := 2, ground := Ground.data }], guard := none }) (v := ?_) rfl (by kernel_rfl) (by kernel_rfl) (by kernel_rfl) (fun _ _ _ h => h) (Or.inl ⟨by rfl, ?_⟩) (by assumption) ?_
  rotate_left 1
  · intro w hSw
    go_simp
    first | done | with_reducible rfl
  try simp only [Act.put, List.setIfInBounds_toArray, List.set_cons_zero, List.set_cons_succ]
  refine wpAnyH_take (i := 4) (oi := { dst := some 8, op := Op.field 83 (Operand.tmp 7) 1, type := 80, pos := "script.go:140", after := #[{ on := 3, ground := Ground.data }], guard := none }) (v := ?_) rfl (by kernel_rfl) (by kernel_rfl) (by kernel_rfl) (fun _ _ _ h => h) (Or.inl ⟨by rfl, ?_⟩) (by assumption) ?_
  rotate_left 1
  · intro w hSw
    go_simp
    first | done | with_reducible rfl
  try simp only [Act.put, List.setIfInBounds_toArray, List.set_cons_zero, List.set_cons_succ]
  refine wpAnyH_ready (rs := [6]) (by kernel_rfl) (by simp) ?_
  refine AllReadyH.cons (o := { dst := some 10, op := Op.call { callee := Callee.value (Operand.tmp 8), args := #[Operand.tmp 9, Operand.tmp 1], argTypes := #[68, 86] }, type := 0, pos := "script.go:140", after := #[{ on := 4, ground := Ground.data }, { on := 5, ground := Ground.data }, { on := 0, ground := Ground.chain }], guard := none }) rfl (fun K hK => ?_) AllReadyH.nil
  go_simp
  go_at_call 69
  (with_reducible refine (GC.out _ (EA E0.out)).mono ?_)
  rintro e w6 (⟨bd, r, hg, rfl, ha⟩ | ⟨hg, rfl, ha⟩)
  rotate_left 1
  · exact ⟨rfl, .inr ⟨hg, rfl, E0.out.no ha⟩⟩
  replace E0 := Lib.hid (E0.out.act ha)
  clear ha
  go_simp
  refine hK.out _ _ (cellAt (i := 0) (v := .int .i64 9) E0.out.hA (actC_kind _)) (fun hHeld => ?_)
  clear hK K
  try simp only [Act.put, List.setIfInBounds_toArray, List.set_cons_zero, List.set_cons_succ]
  refine wpAnyH_done (by kernel_rfl) ?_ _
  simp only [Exit.then]
  obtain ⟨rs, hrs⟩ : ∃ x, x = bs r := ⟨_, rfl⟩
  have U : Hid (Calls Try.prog 26 #[.pointer (some ⟨b, 0, none⟩)] w6 fun e w' => e = .returned (.string rs) ∧ Rl b s [] w' ∧ But b w6 w') := by
    show Calls _ _ _ _ _; rw [hrs]; exact rest_l b s r w6 E0.out.rd hs
  have HG := Lib.hid hg
  have HRS := Lib.hid hrs
  clear hg hrs GC FO EA hHeld hb5
  go_wp2_with (fail)
  (with_reducible refine U.out.mono ?_)
  clear U
  rintro e w7 ⟨rfl, hr7, hb7⟩
  have E7 := Lib.hid (E0.out.but hr7 hb7)
  clear hr7 hb7 E0
  have k0 := cellAt (i := 0) (v := .string ⟨#[]⟩) E7.out.hR rfl
  have f0 := Lib.frozen_of_heap E7.out.hR 0
  go_wp2_with (fail)
  go_end0
  have q := E7.out.ne.2.2
  refine .inl ⟨bd, r, HG.out, rfl, ?_, ?_, E7.out.sv.set (.inl (by simp)) _⟩
  · rw [heap_off A RB (fun e => q e.symm)]; exact E7.out.hA
  · rw [← HRS.out]; exact heap_set E7.out.hR (i := 0) (by simp) _
set_option maxHeartbeats 2000000 in
theorem ent1_10 (b A RB : Nat) (w : World) (s : ByteArray) (l : List UInt8) (hs : s.size ≤ MX) (h : ESt b A RB w s l (actC 10 .non) #[.string ⟨#[]⟩] w) : Calls Try.prog 30 #[.pointer (some ⟨b, 0, none⟩), .pointer (some ⟨A, 0, none⟩), .pointer (some ⟨RB, 0, none⟩)] w (EPost 10 b A RB l w) := by
  have E0 := Lib.hid h
  have FO := Lib.hid forms_any
  have GC : Hid (∀ V, ASt b A V s l (actC 10 .non) V → Calls Try.prog 59 #[.pointer (some ⟨b, 0, none⟩), .pointer (some ⟨A, 0, none⟩)] V (APost 10 b A s l V)) := fun V h => non2_any b A V V s l h
  have EA : ∀ {V : World}, ESt b A RB w s l (actC 10 .non) #[.string ⟨#[]⟩] V → ASt b A V s l (actC 10 .non) V := fun h => ⟨h.rd, h.hA, h.ne.1, Save.refl _ _⟩
  have actC_kind : ∀ bd, (actC 10 bd)[0]? = some (.int .i64 10) := fun bd => by cases bd <;> rfl
  have ix : ∀ V : World, (Instr.index 84 (.agg formsC) (.int .i64 10)).run Try.prog V = .ok (.agg #[.func (.func 58) #[] #[], .func (.func 59) #[] #[], .func (.func 60) #[] #[]]) V := fun V => by rfl
  have fx : ∀ V : World, (Instr.field 83 (.agg #[.func (.func 58) #[] #[], .func (.func 59) #[] #[], .func (.func 60) #[] #[]]) 1).run Try.prog V = .ok (.func (.func 59) #[] #[]) V := fun V => by rfl
  clear h
  go_enter Try.func30, Try.ntmps30
  go_upto_region 0 with (fail)
  refine wp_region_held_drew (S := fun V => V.cell? ⟨A, 0, none⟩ = some (.int .i64 10)) (by kernel_rfl) (cellAt (i := 0) (v := .int .i64 10) E0.out.hA rfl) (fun hHeld => ?_)
  refine wpAnyH_take (i := 1) (oi := { dst := some 5, op := Op.fieldAddr 47 (Operand.tmp 1) 0, type := 0, pos := "script.go:140", after := #[], guard := none }) (v := ?_) rfl (by kernel_rfl) (by kernel_rfl) (by kernel_rfl) (fun _ _ _ h => h) (Or.inl ⟨by rfl, ?_⟩) (by assumption) ?_
  rotate_left 1
  · intro w hSw
    go_simp
    first | done | with_reducible rfl
  try simp only [Act.put, List.setIfInBounds_toArray, List.set_cons_zero, List.set_cons_succ]
  refine wpAnyH_take (i := 2) (oi := { dst := some 6, op := Op.load 3 (Operand.tmp 5), type := 3, pos := "script.go:140", after := #[{ on := 1, ground := Ground.data }], guard := none }) (v := ?_) rfl (by kernel_rfl) (by kernel_rfl) (by kernel_rfl) (fun _ _ _ h => h) (Or.inl ⟨by rfl, ?_⟩) (by assumption) ?_
  rotate_left 1
  · intro w hSw
    go_simp
    first | done | with_reducible rfl
  try simp only [Act.put, List.setIfInBounds_toArray, List.set_cons_zero, List.set_cons_succ]
  refine wpAnyH_take (i := 5) (oi := { dst := some 9, op := Op.move (Operand.tmp 0), type := 68, pos := "script.go:140", after := #[], guard := none }) (v := ?_) rfl (by kernel_rfl) (by kernel_rfl) (by kernel_rfl) (fun _ _ _ h => h) (Or.inl ⟨by rfl, ?_⟩) (by assumption) ?_
  rotate_left 1
  · intro w hSw
    go_simp
    first | done | with_reducible rfl
  try simp only [Act.put, List.setIfInBounds_toArray, List.set_cons_zero, List.set_cons_succ]
  refine wpAnyH_ready (rs := [0]) (by kernel_rfl) (by simp) ?_
  refine AllReadyH.cons (o := { dst := some 4, op := Op.call { callee := Callee.value (Operand.func 31), args := #[], argTypes := #[] }, type := 84, pos := "script.go:140", after := #[], guard := none }) rfl (fun K hK => ?_) AllReadyH.nil
  go_simp
  (go_at_call 31; (with_reducible refine (FO.out _).mono ?_); rintro e w5 ⟨rfl, hb5⟩)
  replace E0 := Lib.hid (E0.out.below (of_drew hb5))
  go_simp
  refine hK.out _ _ (cellAt (i := 0) (v := .int .i64 10) E0.out.hA rfl) (fun hHeld => ?_)
  clear hK K
  try simp only [Act.put, List.setIfInBounds_toArray, List.set_cons_zero, List.set_cons_succ]
  refine wpAnyH_take (i := 3) (oi := { dst := some 7, op := Op.index 84 (Operand.tmp 4) (Operand.tmp 6), type := 83, pos := "script.go:140", after := #[{ on := 0, ground := Ground.data }, { on := 2, ground := Ground.data }], guard := none }) (v := ?_) rfl (by kernel_rfl) (by kernel_rfl) (by kernel_rfl) (fun _ _ _ h => h) (Or.inl ⟨by rfl, ?_⟩) (by assumption) ?_
  rotate_left 1
  · intro w hSw
    go_simp
    first | done | with_reducible rfl
  try simp only [Act.put, List.setIfInBounds_toArray, List.set_cons_zero, List.set_cons_succ]
  refine wpAnyH_take (i := 4) (oi := { dst := some 8, op := Op.field 83 (Operand.tmp 7) 1, type := 80, pos := "script.go:140", after := #[{ on := 3, ground := Ground.data }], guard := none }) (v := ?_) rfl (by kernel_rfl) (by kernel_rfl) (by kernel_rfl) (fun _ _ _ h => h) (Or.inl ⟨by rfl, ?_⟩) (by assumption) ?_
  rotate_left 1
  · intro w hSw
    go_simp
    first | done | with_reducible rfl
  try simp only [Act.put, List.setIfInBounds_toArray, List.set_cons_zero, List.set_cons_succ]
  refine wpAnyH_ready (rs := [6]) (by kernel_rfl) (by simp) ?_
  refine AllReadyH.cons (o := { dst := some 10, op := Op.call { callee := Callee.value (Operand.tmp 8), args := #[Operand.tmp 9, Operand.tmp 1], argTypes := #[68, 86] }, type := 0, pos := "script.go:140", after := #[{ on := 4, ground := Ground.data }, { on := 5, ground := Ground.data }, { on := 0, ground := Ground.chain }], guard := none }) rfl (fun K hK => ?_) AllReadyH.nil
  go_simp
  go_at_call 59
  (with_reducible refine (GC.out _ (EA E0.out)).mono ?_)
  rintro e w6 (⟨bd, r, hg, rfl, ha⟩ | ⟨hg, rfl, ha⟩)
  rotate_left 1
  · exact ⟨rfl, .inr ⟨hg, rfl, E0.out.no ha⟩⟩
  replace E0 := Lib.hid (E0.out.act ha)
  clear ha
  go_simp
  refine hK.out _ _ (cellAt (i := 0) (v := .int .i64 10) E0.out.hA (actC_kind _)) (fun hHeld => ?_)
  clear hK K
  try simp only [Act.put, List.setIfInBounds_toArray, List.set_cons_zero, List.set_cons_succ]
  refine wpAnyH_done (by kernel_rfl) ?_ _
  simp only [Exit.then]
  obtain ⟨rs, hrs⟩ : ∃ x, x = bs r := ⟨_, rfl⟩
  have U : Hid (Calls Try.prog 26 #[.pointer (some ⟨b, 0, none⟩)] w6 fun e w' => e = .returned (.string rs) ∧ Rl b s [] w' ∧ But b w6 w') := by
    show Calls _ _ _ _ _; rw [hrs]; exact rest_l b s r w6 E0.out.rd hs
  have HG := Lib.hid hg
  have HRS := Lib.hid hrs
  clear hg hrs GC FO EA hHeld hb5
  go_wp2_with (fail)
  (with_reducible refine U.out.mono ?_)
  clear U
  rintro e w7 ⟨rfl, hr7, hb7⟩
  have E7 := Lib.hid (E0.out.but hr7 hb7)
  clear hr7 hb7 E0
  have k0 := cellAt (i := 0) (v := .string ⟨#[]⟩) E7.out.hR rfl
  have f0 := Lib.frozen_of_heap E7.out.hR 0
  go_wp2_with (fail)
  go_end0
  have q := E7.out.ne.2.2
  refine .inl ⟨bd, r, HG.out, rfl, ?_, ?_, E7.out.sv.set (.inl (by simp)) _⟩
  · rw [heap_off A RB (fun e => q e.symm)]; exact E7.out.hA
  · rw [← HRS.out]; exact heap_set E7.out.hR (i := 0) (by simp) _
theorem ent1_any (k b A RB : Nat) (hk : k < 11) (w : World) (s : ByteArray) (l : List UInt8) (hs : s.size ≤ MX) (h : ESt b A RB w s l (actC k .non) #[.string ⟨#[]⟩] w) : Calls Try.prog 30 #[.pointer (some ⟨b, 0, none⟩), .pointer (some ⟨A, 0, none⟩), .pointer (some ⟨RB, 0, none⟩)] w (EPost k b A RB l w) := by
  have : k = 0 ∨ k = 1 ∨ k = 2 ∨ k = 3 ∨ k = 4 ∨ k = 5 ∨ k = 6 ∨ k = 7 ∨ k = 8 ∨ k = 9 ∨ k = 10 := by omega
  rcases this with rfl | rfl | rfl | rfl | rfl | rfl | rfl | rfl | rfl | rfl | rfl
  · exact ent1_0 b A RB w s l hs h
  · exact ent1_1 b A RB w s l hs h
  · exact ent1_2 b A RB w s l hs h
  · exact ent1_3 b A RB w s l hs h
  · exact ent1_4 b A RB w s l hs h
  · exact ent1_5 b A RB w s l hs h
  · exact ent1_6 b A RB w s l hs h
  · exact ent1_7 b A RB w s l hs h
  · exact ent1_8 b A RB w s l hs h
  · exact ent1_9 b A RB w s l hs h
  · exact ent1_10 b A RB w s l hs h
end Go.Proofs.Ytmijfhfjhbckdaa
