import Derived.Test.YtmijfhfjhbckdaaPutA
/- Put, by the form of its kind. -/
namespace Go.Proofs.Ytmijfhfjhbckdaa
set_option maxRecDepth 100000
open Go.RowKit
def okNon (_ : Int) : Bool := true
set_option maxHeartbeats 8000000 in
theorem put_add (x0 : Int) (x1 : ByteArray) (x2 : Int) (x3 : ByteArray) (x4 : Nat) (x5 : Int) (x6 : Bool) (x7 : Bool) (x8 : Int) (x9 : Bool) (x10 : Int) (x11 : Int) (x12 : Int) (x13 : Int) (w : World) (hk : 0 ≤ x0 ∧ x0 ≤ 10) (ix : ∀ V : World, (Instr.index 84 (.agg formsC) (.int .i64 x0)).run Try.prog V = .ok (.agg #[.func (.func 71) #[] #[], .func (.func 73) #[] #[], .func (.func 75) #[] #[]]) V) (hs : x3.size ≤ 1000000 ∧ x4 < 18446744073709551616) :
    Calls Try.prog 13 #[.agg #[.int .i64 x0, .string x1, .int .i64 x2, .string x3, .float .f64 x4, .int .i64 x5, .bool x6, .bool x7, .int .u32 x8, .bool x9, .int .i64 x10, .int .i64 x11, .int .i64 x12, .int .i64 x13]] w fun e w' => e = .returned (putR ((zB x1 0 ⟨#[]⟩ x5 x6 x7 x8 x9 x10 x11 x12 x13) && (0 == 0)) (fits x2 && (x3.size == 4)) (be (u64 x0) 1 ++ (be (u64 x2) 2 ++ (x3.data.toList ++ be x4 8)))) ∧ Below w.heap.size w w' := by
  obtain ⟨W0, hW0⟩ : ∃ W, W = w.alloc (.cells #[.int .i64 x0, .string x1, .int .i64 x2, .string x3, .float .f64 x4, .int .i64 x5, .bool x6, .bool x7, .int .u32 x8, .bool x9, .int .i64 x10, .int .i64 x11, .int .i64 x12, .int .i64 x13] 47) := ⟨_, rfl⟩
  obtain ⟨P, hP⟩ : ∃ x, x = w.heap.size := ⟨_, rfl⟩
  have gP : W0.heap[P]? = some (.cells #[.int .i64 x0, .string x1, .int .i64 x2, .string x3, .float .f64 x4, .int .i64 x5, .bool x6, .bool x7, .int .u32 x8, .bool x9, .int .i64 x10, .int .i64 x11, .int .i64 x12, .int .i64 x13] 47 (0, 0)) := by rw [hW0, hP]; exact alloc_new _ _
  have bW : Below w.heap.size w W0 := by rw [hW0]; exact (Below.refl _ _).alloc (Nat.le_refl _) _
  have Q0 : Hid (QS P #[.int .i64 x0, .string x1, .int .i64 x2, .string x3, .float .f64 x4, .int .i64 x5, .bool x6, .bool x7, .int .u32 x8, .bool x9, .int .i64 x10, .int .i64 x11, .int .i64 x12, .int .i64 x13] w W0) := ⟨gP, bW⟩
  have FO := Lib.hid forms_any
  have k0 := cellAt (i := 0) (v := .int .i64 x0) gP rfl
  have d1 : decide (x0 < 0) = false := decide_eq_false (by omega)
  have d2 : decide ((11 : Int) ≤ x0) = false := decide_eq_false (by omega)
  have sf := store_float
  have HPw : Hid (w.heap.size ≤ P) := by show _ ≤ _; omega
  have HX := Lib.hid hs
  clear hs
  clear gP bW hk
  go_enter Try.func13, Try.ntmps13
  go_upto_region 1 with (fail)
  rw [← hW0, ← hP]
  clear hW0 hP
  go_upto_region 3 with (fail)
  refine wp_cut (R := fun a' V => ∃ F, a' = ⟨#[.agg #[.int .i64 x0, .string x1, .int .i64 x2, .string x3, .float .f64 x4, .int .i64 x5, .bool x6, .bool x7, .int .u32 x8, .bool x9, .int .i64 x10, .int .i64 x11, .int .i64 x12, .int .i64 x13], .pointer (some ⟨P, 0, none⟩), .string ⟨#[]⟩, .int .i64 0, .pointer (some ⟨F, 0, none⟩), undef, undef, .pointer (some ⟨P, 0, none⟩), .int .i64 x0, .bool false, .bool false, .pointer (some ⟨P, 0, none⟩), .int .i64 x0, .bool false, .bool false, .agg formsC, .pointer (some ⟨P, 0, none⟩), .int .i64 x0, .agg #[.func (.func 71) #[] #[], .func (.func 73) #[] #[], .func (.func 75) #[] #[]], undef, undef, undef, undef, undef, undef, undef, undef, undef, undef, undef, undef, undef, undef, undef, undef], []⟩ ∧ V.heap[F]? = some (.cells #[.func (.func 71) #[] #[], .func (.func 73) #[] #[], .func (.func 75) #[] #[]] 83 (0, 0)) ∧ QS P #[.int .i64 x0, .string x1, .int .i64 x2, .string x3, .float .f64 x4, .int .i64 x5, .bool x6, .bool x7, .int .u32 x8, .bool x9, .int .i64 x10, .int .i64 x11, .int .i64 x12, .int .i64 x13] w V ∧ P ≠ F ∧ w.heap.size ≤ F) ?_ ?_
  · skip
    refine wp_region_noPanic ?_
    refine wp_region_held_drew (S := QS P #[.int .i64 x0, .string x1, .int .i64 x2, .string x3, .float .f64 x4, .int .i64 x5, .bool x6, .bool x7, .int .u32 x8, .bool x9, .int .i64 x10, .int .i64 x11, .int .i64 x12, .int .i64 x13] w) (by kernel_rfl) Q0.out.drew (fun hHeld => ?_)
    refine wpAnyH_take (i := 1) (oi := { dst := some 16, op := Op.fieldAddr 47 (Operand.tmp 1) 0, type := 0, pos := "script.go:114", after := #[], guard := none }) (v := ?_) rfl (by kernel_rfl) (by kernel_rfl) (by kernel_rfl) (fun _ _ _ h => h) (Or.inl ⟨by rfl, ?_⟩) (by assumption) ?_
    rotate_left 1
    · intro w hSw
      go_simp
      first | done | with_reducible rfl
    try simp only [Act.put, List.setIfInBounds_toArray, List.set_cons_zero, List.set_cons_succ]
    refine wpAnyH_take (i := 2) (oi := { dst := some 17, op := Op.load 3 (Operand.tmp 16), type := 3, pos := "script.go:114", after := #[{ on := 1, ground := Ground.data }], guard := none }) (v := ?_) rfl (by kernel_rfl) (by kernel_rfl) (by kernel_rfl) (fun _ _ _ h => h) (Or.inl ⟨by rfl, ?_⟩) (by assumption) ?_
    rotate_left 1
    · intro w hSw
      have q0 := cellAt (i := 0) (v := .int .i64 x0) hSw.hP rfl
      go_simp
      first | done | with_reducible rfl
    try simp only [Act.put, List.setIfInBounds_toArray, List.set_cons_zero, List.set_cons_succ]
    refine wpAnyH_ready (rs := [0, 4]) (by kernel_rfl) (by simp) ?_
    refine AllReadyH.cons (o := { dst := some 15, op := Op.call { callee := Callee.value (Operand.func 31), args := #[], argTypes := #[] }, type := 84, pos := "script.go:114", after := #[], guard := none }) rfl (fun K hK => ?_) (AllReadyH.cons (o := { dst := some 4, op := Op.alloc 83, type := 0, pos := "script.go:114", after := #[], guard := none }) rfl (fun K hK => ?_) AllReadyH.nil)
    · skip
      go_simp
      (go_at_call 31; (with_reducible refine (FO.out _).mono ?_); rintro e w5 ⟨rfl, hb5⟩)
      go_simp
      refine hK.out _ _ (hHeld.below hb5) (fun hHeld => ?_)
      clear hK K
      try simp only [Act.put, List.setIfInBounds_toArray, List.set_cons_zero, List.set_cons_succ]
      refine wpAnyH_take (i := 3) (oi := { dst := some 18, op := Op.index 84 (Operand.tmp 15) (Operand.tmp 17), type := 83, pos := "script.go:114", after := #[{ on := 0, ground := Ground.data }, { on := 2, ground := Ground.data }], guard := none }) (v := ?_) rfl (by kernel_rfl) (by kernel_rfl) (by kernel_rfl) (fun _ _ _ h => h) (Or.inl ⟨by rfl, ?_⟩) (by assumption) ?_
      rotate_left 1
      · intro w hSw
        go_simp
        first | done | with_reducible rfl
      try simp only [Act.put, List.setIfInBounds_toArray, List.set_cons_zero, List.set_cons_succ]
      refine wpAnyH_ready (rs := [4]) (by kernel_rfl) (by simp) ?_
      refine AllReadyH.cons (o := { dst := some 4, op := Op.alloc 83, type := 0, pos := "script.go:114", after := #[], guard := none }) rfl (fun K hK => ?_) AllReadyH.nil
      go_simp
      have gF := alloc_new w5 (.cells #[.nilFunc, .nilFunc, .nilFunc] 83)
      refine hK.out _ _ (hHeld.alloc _) (fun hHeld => ?_)
      clear hK K
      try simp only [Act.put, List.setIfInBounds_toArray, List.set_cons_zero, List.set_cons_succ]
      refine wpAnyH_ready (rs := [5]) (by kernel_rfl) (by simp) ?_
      refine AllReadyH.cons (o := { dst := none, op := Op.store 83 (Operand.tmp 4) (Operand.tmp 18), type := 0, pos := "script.go:114", after := #[{ on := 4, ground := Ground.data }, { on := 3, ground := Ground.data }, { on := 0, ground := Ground.chain }, { on := 0, ground := Ground.phase }, { on := 1, ground := Ground.phase }, { on := 2, ground := Ground.phase }, { on := 3, ground := Ground.phase }, { on := 4, ground := Ground.phase }], guard := none }) rfl (fun K hK => ?_) AllReadyH.nil
      have NF : P ≠ w5.heap.size := by have := hb5.size; have := Q0.out.lt; have e : W0.drew.heap.size = W0.heap.size := rfl; omega
      have NL : w.heap.size ≤ w5.heap.size := by have := hb5.size; have := Q0.out.le; have e : W0.drew.heap.size = W0.heap.size := rfl; omega
      rw [if_pos (by rfl)]
      refine wp_store_row 83 (.tmp 4) (.tmp 18) rfl _ #[.func (.func 71) #[] #[], .func (.func 73) #[] #[], .func (.func 75) #[] #[]] rfl rfl 83 _ gF (by kernel_rfl) rfl (by kernel_rfl) ?_
      refine hK.out _ _ (hHeld.row NF NL _) (fun hHeld => ?_)
      clear hK K
      try simp only [Act.put, List.setIfInBounds_toArray, List.set_cons_zero, List.set_cons_succ]
      refine wpAnyH_done (by kernel_rfl) ?_ _
      refine NoPanic.normal ?_
      exact ⟨rfl, _, rfl, setRow_heap _ _ _ _ _ _ gF, hHeld, NF, NL⟩
    · skip
      go_simp
      refine hK.out _ _ (hHeld.alloc _) (fun hHeld => ?_)
      clear hK K
      try simp only [Act.put, List.setIfInBounds_toArray, List.set_cons_zero, List.set_cons_succ]
      refine wpAnyH_ready (rs := [0]) (by kernel_rfl) (by simp) ?_
      refine AllReadyH.cons (o := { dst := some 15, op := Op.call { callee := Callee.value (Operand.func 31), args := #[], argTypes := #[] }, type := 84, pos := "script.go:114", after := #[], guard := none }) rfl (fun K hK => ?_) AllReadyH.nil
      go_simp
      (go_at_call 31; (with_reducible refine (FO.out _).mono ?_); rintro e w5 ⟨rfl, hb5⟩)
      have gF : w5.heap[W0.heap.size]? = some (.cells #[.nilFunc, .nilFunc, .nilFunc] 83 (0, 0)) := (hb5.block _ (by simp)).trans (alloc_new W0.drew _)
      go_simp
      refine hK.out _ _ (hHeld.below hb5) (fun hHeld => ?_)
      clear hK K
      try simp only [Act.put, List.setIfInBounds_toArray, List.set_cons_zero, List.set_cons_succ]
      refine wpAnyH_take (i := 3) (oi := { dst := some 18, op := Op.index 84 (Operand.tmp 15) (Operand.tmp 17), type := 83, pos := "script.go:114", after := #[{ on := 0, ground := Ground.data }, { on := 2, ground := Ground.data }], guard := none }) (v := ?_) rfl (by kernel_rfl) (by kernel_rfl) (by kernel_rfl) (fun _ _ _ h => h) (Or.inl ⟨by rfl, ?_⟩) (by assumption) ?_
      rotate_left 1
      · intro w hSw
        go_simp
        first | done | with_reducible rfl
      try simp only [Act.put, List.setIfInBounds_toArray, List.set_cons_zero, List.set_cons_succ]
      refine wpAnyH_ready (rs := [5]) (by kernel_rfl) (by simp) ?_
      refine AllReadyH.cons (o := { dst := none, op := Op.store 83 (Operand.tmp 4) (Operand.tmp 18), type := 0, pos := "script.go:114", after := #[{ on := 4, ground := Ground.data }, { on := 3, ground := Ground.data }, { on := 0, ground := Ground.chain }, { on := 0, ground := Ground.phase }, { on := 1, ground := Ground.phase }, { on := 2, ground := Ground.phase }, { on := 3, ground := Ground.phase }, { on := 4, ground := Ground.phase }], guard := none }) rfl (fun K hK => ?_) AllReadyH.nil
      have NF : P ≠ W0.heap.size := by have := Q0.out.lt; omega
      have NL : w.heap.size ≤ W0.heap.size := Q0.out.le
      rw [if_pos (by rfl)]
      refine wp_store_row 83 (.tmp 4) (.tmp 18) rfl _ #[.func (.func 71) #[] #[], .func (.func 73) #[] #[], .func (.func 75) #[] #[]] rfl rfl 83 _ gF (by kernel_rfl) rfl (by kernel_rfl) ?_
      refine hK.out _ _ (hHeld.row NF NL _) (fun hHeld => ?_)
      clear hK K
      try simp only [Act.put, List.setIfInBounds_toArray, List.set_cons_zero, List.set_cons_succ]
      refine wpAnyH_done (by kernel_rfl) ?_ _
      refine NoPanic.normal ?_
      exact ⟨rfl, _, rfl, setRow_heap _ _ _ _ _ _ gF, hHeld, NF, NL⟩
  rintro a' V ⟨F, rfl, gF, QV, nPF, lF⟩
  clear k0 Q0 FO ix
  have a0 := cellAt (i := 0) (v := .int .i64 x0) QV.hP rfl
  have a1 := cellAt (i := 1) (v := .string x1) QV.hP rfl
  have a2 := cellAt (i := 2) (v := .int .i64 x2) QV.hP rfl
  have a3 := cellAt (i := 3) (v := .string x3) QV.hP rfl
  have a4 := cellAt (i := 4) (v := .float .f64 x4) QV.hP rfl
  have a5 := cellAt (i := 5) (v := .int .i64 x5) QV.hP rfl
  have a6 := cellAt (i := 6) (v := .bool x6) QV.hP rfl
  have a7 := cellAt (i := 7) (v := .bool x7) QV.hP rfl
  have a8 := cellAt (i := 8) (v := .int .u32 x8) QV.hP rfl
  have a9 := cellAt (i := 9) (v := .bool x9) QV.hP rfl
  have a10 := cellAt (i := 10) (v := .int .i64 x10) QV.hP rfl
  have a11 := cellAt (i := 11) (v := .int .i64 x11) QV.hP rfl
  have a12 := cellAt (i := 12) (v := .int .i64 x12) QV.hP rfl
  have a13 := cellAt (i := 13) (v := .int .i64 x13) QV.hP rfl
  obtain ⟨R, hR⟩ : ∃ R, R = V.heap.size := ⟨_, rfl⟩
  obtain ⟨V2, hV2⟩ : ∃ U, U = V.alloc (.cells #[.int .i64 x0, .string x1, .int .i64 x2, .string x3, .float .f64 x4, .int .i64 x5, .bool x6, .bool x7, .int .u32 x8, .bool x9, .int .i64 x10, .int .i64 x11, .int .i64 x12, .int .i64 x13] 47) := ⟨_, rfl⟩
  have gR : V2.heap[R]? = some (.cells #[.int .i64 x0, .string x1, .int .i64 x2, .string x3, .float .f64 x4, .int .i64 x5, .bool x6, .bool x7, .int .u32 x8, .bool x9, .int .i64 x10, .int .i64 x11, .int .i64 x12, .int .i64 x13] 47 (0, 0)) := by rw [hV2, hR]; exact alloc_new _ _
  have QV2 : QS P #[.int .i64 x0, .string x1, .int .i64 x2, .string x3, .float .f64 x4, .int .i64 x5, .bool x6, .bool x7, .int .u32 x8, .bool x9, .int .i64 x10, .int .i64 x11, .int .i64 x12, .int .i64 x13] w V2 := by rw [hV2]; exact QV.alloc _
  have gF2 : V2.heap[F]? = some (.cells #[.func (.func 71) #[] #[], .func (.func 73) #[] #[], .func (.func 75) #[] #[]] 83 (0, 0)) := by rw [hV2, Below.heap_alloc _ _ _ (heap_lt gF)]; exact gF
  have nR : P ≠ R ∧ F ≠ R ∧ w.heap.size ≤ R := by have h1 := QV.lt; have h2 := heap_lt gF; have h3 := QV.le; omega
  have b2 := cellAt (i := 2) (v := .func (.func 75) #[] #[]) gF2 rfl
  have G2 := Lib.hid gR
  have QV2' := Lib.hid QV2
  have GF2 := Lib.hid gF2
  have NR := Lib.hid nR
  have LF := Lib.hid lF
  clear QV QV2 gF gF2 gR nR lF
  simp only [Exit.then]
  go_upto_region 5 with (fail)
  rw [← hV2, ← hR]
  clear hV2 hR a0 a1 a2 a3 a4 a5 a6 a7 a8 a9 a10 a11 a12 a13
  have BR := Lib.hid (bare_add R x0 x1 x2 x3 x4 x5 x6 x7 x8 x9 x10 x11 x12 x13 V2 G2.out)
  go_wp2_with (fail)
  (with_reducible refine BR.out.mono ?_)
  clear BR b2
  rintro e v3 ⟨rfl, gR3, hS3⟩
  have QV3 : QS P #[.int .i64 x0, .string x1, .int .i64 x2, .string x3, .float .f64 x4, .int .i64 x5, .bool x6, .bool x7, .int .u32 x8, .bool x9, .int .i64 x10, .int .i64 x11, .int .i64 x12, .int .i64 x13] w v3 := ⟨(hS3.block _ QV2'.out.lt (by simp; exact NR.out.1)).trans QV2'.out.hP, QV2'.out.bl.trans (hS3.below (by simp; exact NR.out.2.2) QV2'.out.le)⟩
  have gF3 : v3.heap[F]? = some (.cells #[.func (.func 71) #[] #[], .func (.func 73) #[] #[], .func (.func 75) #[] #[]] 83 (0, 0)) := (hS3.block _ (heap_lt GF2.out) (by simp; exact NR.out.2.1)).trans GF2.out
  have a0 := cellAt (i := 0) (v := .int .i64 x0) gR3 rfl
  have a1 := cellAt (i := 1) (v := .string x1) gR3 rfl
  have a2 := cellAt (i := 2) (v := .int .i64 0) gR3 rfl
  have a3 := cellAt (i := 3) (v := .string ⟨#[]⟩) gR3 rfl
  have a4 := cellAt (i := 4) (v := .float .f64 0) gR3 rfl
  have a5 := cellAt (i := 5) (v := .int .i64 x5) gR3 rfl
  have a6 := cellAt (i := 6) (v := .bool x6) gR3 rfl
  have a7 := cellAt (i := 7) (v := .bool x7) gR3 rfl
  have a8 := cellAt (i := 8) (v := .int .u32 x8) gR3 rfl
  have a9 := cellAt (i := 9) (v := .bool x9) gR3 rfl
  have a10 := cellAt (i := 10) (v := .int .i64 x10) gR3 rfl
  have a11 := cellAt (i := 11) (v := .int .i64 x11) gR3 rfl
  have a12 := cellAt (i := 12) (v := .int .i64 x12) gR3 rfl
  have a13 := cellAt (i := 13) (v := .int .i64 x13) gR3 rfl
  have ZA := Lib.hid (zero_any x0 x1 0 ⟨#[]⟩ 0 x5 x6 x7 x8 x9 x10 x11 x12 x13 v3)
  obtain ⟨Z, hZ⟩ : ∃ Z, Z = ((zB x1 0 ⟨#[]⟩ x5 x6 x7 x8 x9 x10 x11 x12 x13) && (0 == 0)) := ⟨_, rfl⟩
  have ZA : Hid (Calls Try.prog 34 #[.agg #[.int .i64 x0, .string x1, .int .i64 0, .string ⟨#[]⟩, .float .f64 0, .int .i64 x5, .bool x6, .bool x7, .int .u32 x8, .bool x9, .int .i64 x10, .int .i64 x11, .int .i64 x12, .int .i64 x13]] v3 fun e w' => e = .returned (.bool Z) ∧ Below v3.heap.size v3 w') := by show Calls _ _ _ _ _; rw [hZ]; exact ZA.out
  have HZ := Lib.hid hZ
  have QV3' := Lib.hid QV3
  have GF3 := Lib.hid gF3
  clear hZ QV3 gF3 gR3 hS3 G2 QV2' GF2
  go_wp2_with (fail)
  (with_reducible refine ZA.out.mono ?_)
  clear ZA a0 a1 a2 a3 a4 a5 a6 a7 a8 a9 a10 a11 a12 a13
  rintro e v4 ⟨rfl, hb4⟩
  have QV4 := Lib.hid (QV3'.out.below hb4)
  have GF4 := Lib.hid ((hb4.block _ (heap_lt GF3.out)).trans GF3.out)
  clear hb4 QV3' GF3
  cases Z with
  | false =>
    go_wp2_with (fail)
    go_ret2
    exact ⟨by rw [← HZ.out]; rfl, QV4.out.bl⟩
  | true =>
    obtain ⟨b, hb⟩ : ∃ b, b = v4.heap.size := ⟨_, rfl⟩
    obtain ⟨V5, hV5⟩ : ∃ U, U = v4.alloc (.cells #[.pointer none, .slice none 0 0] 95) := ⟨_, rfl⟩
    have I5 : IsW b [] V5 := by rw [hV5]; exact IsW.fresh v4 hb.symm
    have AP : ∀ x, x < b → Apart b x V5 := fun x hx => by rw [hV5]; exact fresh_apart v4 hb.symm hx
    have QV5 : QS P #[.int .i64 x0, .string x1, .int .i64 x2, .string x3, .float .f64 x4, .int .i64 x5, .bool x6, .bool x7, .int .u32 x8, .bool x9, .int .i64 x10, .int .i64 x11, .int .i64 x12, .int .i64 x13] w V5 := by rw [hV5]; exact QV4.out.alloc _
    have gF5 : V5.heap[F]? = some (.cells #[.func (.func 71) #[] #[], .func (.func 73) #[] #[], .func (.func 75) #[] #[]] 83 (0, 0)) := by rw [hV5, Below.heap_alloc _ _ _ (heap_lt GF4.out)]; exact GF4.out
    have lb : P < b ∧ F < b ∧ w.heap.size ≤ b := by have h1 := QV4.out.lt; have h2 := heap_lt GF4.out; have h3 := QV4.out.le; omega
    have c0 := cellAt (i := 0) (v := .int .i64 x0) QV5.hP rfl
    have U8 : Hid (Calls Try.prog 35 #[.pointer (some ⟨b, 0, none⟩), .int .i64 x0] V5 fun e w' => e = .returned (.tuple #[]) ∧ IsW b (be (u64 x0) 1) w' ∧ Keeps b V5 w') := w8_z b x0 [] V5 I5 (by simp)
    have AP' := Lib.hid AP
    have Q5 := Lib.hid QV5
    have GF5 := Lib.hid gF5
    have LB := Lib.hid lb
    clear I5 AP QV5 gF5 lb QV4 GF4
    go_upto_region 9 with (fail)
    rw [← hV5, ← hb]
    clear hV5 hb
    go_wp2_with (fail)
    (with_reducible refine U8.out.mono ?_)
    clear U8 c0
    rintro e v6 ⟨rfl, i6, kp6⟩
    have gP6 : v6.heap[P]? = some (.cells #[.int .i64 x0, .string x1, .int .i64 x2, .string x3, .float .f64 x4, .int .i64 x5, .bool x6, .bool x7, .int .u32 x8, .bool x9, .int .i64 x10, .int .i64 x11, .int .i64 x12, .int .i64 x13] 47 (0, 0)) := ((kp6.block P (AP'.out P LB.out.1)).1).trans Q5.out.hP
    have gF6 : v6.heap[F]? = some (.cells #[.func (.func 71) #[] #[], .func (.func 73) #[] #[], .func (.func 75) #[] #[]] 83 (0, 0)) := ((kp6.block F (AP'.out F LB.out.2.1)).1).trans GF5.out
    have a0 := cellAt (i := 0) (v := .int .i64 x0) gP6 rfl
    have a1 := cellAt (i := 1) (v := .string x1) gP6 rfl
    have a2 := cellAt (i := 2) (v := .int .i64 x2) gP6 rfl
    have a3 := cellAt (i := 3) (v := .string x3) gP6 rfl
    have a4 := cellAt (i := 4) (v := .float .f64 x4) gP6 rfl
    have a5 := cellAt (i := 5) (v := .int .i64 x5) gP6 rfl
    have a6 := cellAt (i := 6) (v := .bool x6) gP6 rfl
    have a7 := cellAt (i := 7) (v := .bool x7) gP6 rfl
    have a8 := cellAt (i := 8) (v := .int .u32 x8) gP6 rfl
    have a9 := cellAt (i := 9) (v := .bool x9) gP6 rfl
    have a10 := cellAt (i := 10) (v := .int .i64 x10) gP6 rfl
    have a11 := cellAt (i := 11) (v := .int .i64 x11) gP6 rfl
    have a12 := cellAt (i := 12) (v := .int .i64 x12) gP6 rfl
    have a13 := cellAt (i := 13) (v := .int .i64 x13) gP6 rfl
    have b0 := cellAt (i := 0) (v := .func (.func 71) #[] #[]) gF6 rfl
    obtain ⟨ok, hok⟩ : ∃ ok, ok = (fits x2 && (x3.size == 4)) := ⟨_, rfl⟩
    have PC : Hid (Calls Try.prog 71 #[.pointer (some ⟨b, 0, none⟩), .agg #[.int .i64 x0, .string x1, .int .i64 x2, .string x3, .float .f64 x4, .int .i64 x5, .bool x6, .bool x7, .int .u32 x8, .bool x9, .int .i64 x10, .int .i64 x11, .int .i64 x12, .int .i64 x13]] v6 fun e w' => e = .returned (.bool ok) ∧ IsW b (be (u64 x0) 1 ++ (be (u64 x2) 2 ++ (x3.data.toList ++ be x4 8))) w' ∧ Keeps b v6 w') := by
      show Calls _ _ _ _ _
      rw [hok]
      exact add1_any b x0 x1 x2 x3 x4 x5 x6 x7 x8 x9 x10 x11 x12 x13 (be (u64 x0) 1) v6 i6 (by rw [be_length]; omega) HX.out.1 HX.out.2
    have HOK := Lib.hid hok
    have KP6 := Lib.hid kp6
    clear hok kp6 i6 gP6 gF6
    go_wp2_with (fail)
    (with_reducible refine PC.out.mono ?_)
    clear PC b0 a0 a1 a2 a3 a4 a5 a6 a7 a8 a9 a10 a11 a12 a13
    rintro e v7 ⟨rfl, i7, kp7⟩
    have KP7 := Lib.hid (KP6.out.trans kp7)
    have I7 := Lib.hid i7
    have BB : Hid (∀ U : World, Keeps b V5 U → Below w.heap.size w U) := fun U h => Q5.out.bl.trans (h.below (fun x hx => AP'.out x (by have := LB.out.2.2; omega)))
    clear kp7 i7
    cases ok with
    | false =>
      go_wp2_with (fail)
      go_ret2
      exact ⟨by rw [← HZ.out, ← HOK.out]; rfl, BB.out _ KP7.out⟩
    | true =>
      obtain ⟨res, hres⟩ : ∃ r, r = bs (be (u64 x0) 1 ++ (be (u64 x2) 2 ++ (x3.data.toList ++ be x4 8))) := ⟨_, rfl⟩
      have ST : Hid (Calls Try.prog 36 #[.pointer (some ⟨b, 0, none⟩)] v7 fun e w' => e = .returned (.string res) ∧ Keeps b v7 w') := by show Calls _ _ _ _ _; rw [hres]; exact string_k b _ v7 I7.out
      have HRS := Lib.hid hres
      clear hres
      go_wp2_with (fail)
      (with_reducible refine ST.out.mono ?_)
      clear ST
      rintro e v8 ⟨rfl, kp8⟩
      go_wp2_with (fail)
      go_ret2
      exact ⟨by rw [← HZ.out, ← HOK.out]; unfold putR; simp only [if_true]; rw [← HRS.out]; rfl, BB.out _ (KP7.out.trans kp8)⟩
set_option maxHeartbeats 8000000 in
theorem put_non (x0 : Int) (x1 : ByteArray) (x2 : Int) (x3 : ByteArray) (x4 : Nat) (x5 : Int) (x6 : Bool) (x7 : Bool) (x8 : Int) (x9 : Bool) (x10 : Int) (x11 : Int) (x12 : Int) (x13 : Int) (w : World) (hk : 0 ≤ x0 ∧ x0 ≤ 10) (ix : ∀ V : World, (Instr.index 84 (.agg formsC) (.int .i64 x0)).run Try.prog V = .ok (.agg #[.func (.func 58) #[] #[], .func (.func 59) #[] #[], .func (.func 60) #[] #[]]) V) :
    Calls Try.prog 13 #[.agg #[.int .i64 x0, .string x1, .int .i64 x2, .string x3, .float .f64 x4, .int .i64 x5, .bool x6, .bool x7, .int .u32 x8, .bool x9, .int .i64 x10, .int .i64 x11, .int .i64 x12, .int .i64 x13]] w fun e w' => e = .returned (putR ((zB x1 x2 x3 x5 x6 x7 x8 x9 x10 x11 x12 x13) && (x4 == 0)) (okNon x0) (be (u64 x0) 1 ++ ([] : List UInt8))) ∧ Below w.heap.size w w' := by
  obtain ⟨W0, hW0⟩ : ∃ W, W = w.alloc (.cells #[.int .i64 x0, .string x1, .int .i64 x2, .string x3, .float .f64 x4, .int .i64 x5, .bool x6, .bool x7, .int .u32 x8, .bool x9, .int .i64 x10, .int .i64 x11, .int .i64 x12, .int .i64 x13] 47) := ⟨_, rfl⟩
  obtain ⟨P, hP⟩ : ∃ x, x = w.heap.size := ⟨_, rfl⟩
  have gP : W0.heap[P]? = some (.cells #[.int .i64 x0, .string x1, .int .i64 x2, .string x3, .float .f64 x4, .int .i64 x5, .bool x6, .bool x7, .int .u32 x8, .bool x9, .int .i64 x10, .int .i64 x11, .int .i64 x12, .int .i64 x13] 47 (0, 0)) := by rw [hW0, hP]; exact alloc_new _ _
  have bW : Below w.heap.size w W0 := by rw [hW0]; exact (Below.refl _ _).alloc (Nat.le_refl _) _
  have Q0 : Hid (QS P #[.int .i64 x0, .string x1, .int .i64 x2, .string x3, .float .f64 x4, .int .i64 x5, .bool x6, .bool x7, .int .u32 x8, .bool x9, .int .i64 x10, .int .i64 x11, .int .i64 x12, .int .i64 x13] w W0) := ⟨gP, bW⟩
  have FO := Lib.hid forms_any
  have k0 := cellAt (i := 0) (v := .int .i64 x0) gP rfl
  have d1 : decide (x0 < 0) = false := decide_eq_false (by omega)
  have d2 : decide ((11 : Int) ≤ x0) = false := decide_eq_false (by omega)
  have sf := store_float
  have HPw : Hid (w.heap.size ≤ P) := by show _ ≤ _; omega
  clear gP bW hk
  go_enter Try.func13, Try.ntmps13
  go_upto_region 1 with (fail)
  rw [← hW0, ← hP]
  clear hW0 hP
  go_upto_region 3 with (fail)
  refine wp_cut (R := fun a' V => ∃ F, a' = ⟨#[.agg #[.int .i64 x0, .string x1, .int .i64 x2, .string x3, .float .f64 x4, .int .i64 x5, .bool x6, .bool x7, .int .u32 x8, .bool x9, .int .i64 x10, .int .i64 x11, .int .i64 x12, .int .i64 x13], .pointer (some ⟨P, 0, none⟩), .string ⟨#[]⟩, .int .i64 0, .pointer (some ⟨F, 0, none⟩), undef, undef, .pointer (some ⟨P, 0, none⟩), .int .i64 x0, .bool false, .bool false, .pointer (some ⟨P, 0, none⟩), .int .i64 x0, .bool false, .bool false, .agg formsC, .pointer (some ⟨P, 0, none⟩), .int .i64 x0, .agg #[.func (.func 58) #[] #[], .func (.func 59) #[] #[], .func (.func 60) #[] #[]], undef, undef, undef, undef, undef, undef, undef, undef, undef, undef, undef, undef, undef, undef, undef, undef], []⟩ ∧ V.heap[F]? = some (.cells #[.func (.func 58) #[] #[], .func (.func 59) #[] #[], .func (.func 60) #[] #[]] 83 (0, 0)) ∧ QS P #[.int .i64 x0, .string x1, .int .i64 x2, .string x3, .float .f64 x4, .int .i64 x5, .bool x6, .bool x7, .int .u32 x8, .bool x9, .int .i64 x10, .int .i64 x11, .int .i64 x12, .int .i64 x13] w V ∧ P ≠ F ∧ w.heap.size ≤ F) ?_ ?_
  · skip
    refine wp_region_noPanic ?_
    refine wp_region_held_drew (S := QS P #[.int .i64 x0, .string x1, .int .i64 x2, .string x3, .float .f64 x4, .int .i64 x5, .bool x6, .bool x7, .int .u32 x8, .bool x9, .int .i64 x10, .int .i64 x11, .int .i64 x12, .int .i64 x13] w) (by kernel_rfl) Q0.out.drew (fun hHeld => ?_)
    refine wpAnyH_take (i := 1) (oi := { dst := some 16, op := Op.fieldAddr 47 (Operand.tmp 1) 0, type := 0, pos := "script.go:114", after := #[], guard := none }) (v := ?_) rfl (by kernel_rfl) (by kernel_rfl) (by kernel_rfl) (fun _ _ _ h => h) (Or.inl ⟨by rfl, ?_⟩) (by assumption) ?_
    rotate_left 1
    · intro w hSw
      go_simp
      first | done | with_reducible rfl
    try simp only [Act.put, List.setIfInBounds_toArray, List.set_cons_zero, List.set_cons_succ]
    refine wpAnyH_take (i := 2) (oi := { dst := some 17, op := Op.load 3 (Operand.tmp 16), type := 3, pos := "script.go:114", after := #[{ on := 1, ground := Ground.data }], guard := none }) (v := ?_) rfl (by kernel_rfl) (by kernel_rfl) (by kernel_rfl) (fun _ _ _ h => h) (Or.inl ⟨by rfl, ?_⟩) (by assumption) ?_
    rotate_left 1
    · intro w hSw
      have q0 := cellAt (i := 0) (v := .int .i64 x0) hSw.hP rfl
      go_simp
      first | done | with_reducible rfl
    try simp only [Act.put, List.setIfInBounds_toArray, List.set_cons_zero, List.set_cons_succ]
    refine wpAnyH_ready (rs := [0, 4]) (by kernel_rfl) (by simp) ?_
    refine AllReadyH.cons (o := { dst := some 15, op := Op.call { callee := Callee.value (Operand.func 31), args := #[], argTypes := #[] }, type := 84, pos := "script.go:114", after := #[], guard := none }) rfl (fun K hK => ?_) (AllReadyH.cons (o := { dst := some 4, op := Op.alloc 83, type := 0, pos := "script.go:114", after := #[], guard := none }) rfl (fun K hK => ?_) AllReadyH.nil)
    · skip
      go_simp
      (go_at_call 31; (with_reducible refine (FO.out _).mono ?_); rintro e w5 ⟨rfl, hb5⟩)
      go_simp
      refine hK.out _ _ (hHeld.below hb5) (fun hHeld => ?_)
      clear hK K
      try simp only [Act.put, List.setIfInBounds_toArray, List.set_cons_zero, List.set_cons_succ]
      refine wpAnyH_take (i := 3) (oi := { dst := some 18, op := Op.index 84 (Operand.tmp 15) (Operand.tmp 17), type := 83, pos := "script.go:114", after := #[{ on := 0, ground := Ground.data }, { on := 2, ground := Ground.data }], guard := none }) (v := ?_) rfl (by kernel_rfl) (by kernel_rfl) (by kernel_rfl) (fun _ _ _ h => h) (Or.inl ⟨by rfl, ?_⟩) (by assumption) ?_
      rotate_left 1
      · intro w hSw
        go_simp
        first | done | with_reducible rfl
      try simp only [Act.put, List.setIfInBounds_toArray, List.set_cons_zero, List.set_cons_succ]
      refine wpAnyH_ready (rs := [4]) (by kernel_rfl) (by simp) ?_
      refine AllReadyH.cons (o := { dst := some 4, op := Op.alloc 83, type := 0, pos := "script.go:114", after := #[], guard := none }) rfl (fun K hK => ?_) AllReadyH.nil
      go_simp
      have gF := alloc_new w5 (.cells #[.nilFunc, .nilFunc, .nilFunc] 83)
      refine hK.out _ _ (hHeld.alloc _) (fun hHeld => ?_)
      clear hK K
      try simp only [Act.put, List.setIfInBounds_toArray, List.set_cons_zero, List.set_cons_succ]
      refine wpAnyH_ready (rs := [5]) (by kernel_rfl) (by simp) ?_
      refine AllReadyH.cons (o := { dst := none, op := Op.store 83 (Operand.tmp 4) (Operand.tmp 18), type := 0, pos := "script.go:114", after := #[{ on := 4, ground := Ground.data }, { on := 3, ground := Ground.data }, { on := 0, ground := Ground.chain }, { on := 0, ground := Ground.phase }, { on := 1, ground := Ground.phase }, { on := 2, ground := Ground.phase }, { on := 3, ground := Ground.phase }, { on := 4, ground := Ground.phase }], guard := none }) rfl (fun K hK => ?_) AllReadyH.nil
      have NF : P ≠ w5.heap.size := by have := hb5.size; have := Q0.out.lt; have e : W0.drew.heap.size = W0.heap.size := rfl; omega
      have NL : w.heap.size ≤ w5.heap.size := by have := hb5.size; have := Q0.out.le; have e : W0.drew.heap.size = W0.heap.size := rfl; omega
      rw [if_pos (by rfl)]
      refine wp_store_row 83 (.tmp 4) (.tmp 18) rfl _ #[.func (.func 58) #[] #[], .func (.func 59) #[] #[], .func (.func 60) #[] #[]] rfl rfl 83 _ gF (by kernel_rfl) rfl (by kernel_rfl) ?_
      refine hK.out _ _ (hHeld.row NF NL _) (fun hHeld => ?_)
      clear hK K
      try simp only [Act.put, List.setIfInBounds_toArray, List.set_cons_zero, List.set_cons_succ]
      refine wpAnyH_done (by kernel_rfl) ?_ _
      refine NoPanic.normal ?_
      exact ⟨rfl, _, rfl, setRow_heap _ _ _ _ _ _ gF, hHeld, NF, NL⟩
    · skip
      go_simp
      refine hK.out _ _ (hHeld.alloc _) (fun hHeld => ?_)
      clear hK K
      try simp only [Act.put, List.setIfInBounds_toArray, List.set_cons_zero, List.set_cons_succ]
      refine wpAnyH_ready (rs := [0]) (by kernel_rfl) (by simp) ?_
      refine AllReadyH.cons (o := { dst := some 15, op := Op.call { callee := Callee.value (Operand.func 31), args := #[], argTypes := #[] }, type := 84, pos := "script.go:114", after := #[], guard := none }) rfl (fun K hK => ?_) AllReadyH.nil
      go_simp
      (go_at_call 31; (with_reducible refine (FO.out _).mono ?_); rintro e w5 ⟨rfl, hb5⟩)
      have gF : w5.heap[W0.heap.size]? = some (.cells #[.nilFunc, .nilFunc, .nilFunc] 83 (0, 0)) := (hb5.block _ (by simp)).trans (alloc_new W0.drew _)
      go_simp
      refine hK.out _ _ (hHeld.below hb5) (fun hHeld => ?_)
      clear hK K
      try simp only [Act.put, List.setIfInBounds_toArray, List.set_cons_zero, List.set_cons_succ]
      refine wpAnyH_take (i := 3) (oi := { dst := some 18, op := Op.index 84 (Operand.tmp 15) (Operand.tmp 17), type := 83, pos := "script.go:114", after := #[{ on := 0, ground := Ground.data }, { on := 2, ground := Ground.data }], guard := none }) (v := ?_) rfl (by kernel_rfl) (by kernel_rfl) (by kernel_rfl) (fun _ _ _ h => h) (Or.inl ⟨by rfl, ?_⟩) (by assumption) ?_
      rotate_left 1
      · intro w hSw
        go_simp
        first | done | with_reducible rfl
      try simp only [Act.put, List.setIfInBounds_toArray, List.set_cons_zero, List.set_cons_succ]
      refine wpAnyH_ready (rs := [5]) (by kernel_rfl) (by simp) ?_
      refine AllReadyH.cons (o := { dst := none, op := Op.store 83 (Operand.tmp 4) (Operand.tmp 18), type := 0, pos := "script.go:114", after := #[{ on := 4, ground := Ground.data }, { on := 3, ground := Ground.data }, { on := 0, ground := Ground.chain }, { on := 0, ground := Ground.phase }, { on := 1, ground := Ground.phase }, { on := 2, ground := Ground.phase }, { on := 3, ground := Ground.phase }, { on := 4, ground := Ground.phase }], guard := none }) rfl (fun K hK => ?_) AllReadyH.nil
      have NF : P ≠ W0.heap.size := by have := Q0.out.lt; omega
      have NL : w.heap.size ≤ W0.heap.size := Q0.out.le
      rw [if_pos (by rfl)]
      refine wp_store_row 83 (.tmp 4) (.tmp 18) rfl _ #[.func (.func 58) #[] #[], .func (.func 59) #[] #[], .func (.func 60) #[] #[]] rfl rfl 83 _ gF (by kernel_rfl) rfl (by kernel_rfl) ?_
      refine hK.out _ _ (hHeld.row NF NL _) (fun hHeld => ?_)
      clear hK K
      try simp only [Act.put, List.setIfInBounds_toArray, List.set_cons_zero, List.set_cons_succ]
      refine wpAnyH_done (by kernel_rfl) ?_ _
      refine NoPanic.normal ?_
      exact ⟨rfl, _, rfl, setRow_heap _ _ _ _ _ _ gF, hHeld, NF, NL⟩
  rintro a' V ⟨F, rfl, gF, QV, nPF, lF⟩
  clear k0 Q0 FO ix
  have a0 := cellAt (i := 0) (v := .int .i64 x0) QV.hP rfl
  have a1 := cellAt (i := 1) (v := .string x1) QV.hP rfl
  have a2 := cellAt (i := 2) (v := .int .i64 x2) QV.hP rfl
  have a3 := cellAt (i := 3) (v := .string x3) QV.hP rfl
  have a4 := cellAt (i := 4) (v := .float .f64 x4) QV.hP rfl
  have a5 := cellAt (i := 5) (v := .int .i64 x5) QV.hP rfl
  have a6 := cellAt (i := 6) (v := .bool x6) QV.hP rfl
  have a7 := cellAt (i := 7) (v := .bool x7) QV.hP rfl
  have a8 := cellAt (i := 8) (v := .int .u32 x8) QV.hP rfl
  have a9 := cellAt (i := 9) (v := .bool x9) QV.hP rfl
  have a10 := cellAt (i := 10) (v := .int .i64 x10) QV.hP rfl
  have a11 := cellAt (i := 11) (v := .int .i64 x11) QV.hP rfl
  have a12 := cellAt (i := 12) (v := .int .i64 x12) QV.hP rfl
  have a13 := cellAt (i := 13) (v := .int .i64 x13) QV.hP rfl
  obtain ⟨R, hR⟩ : ∃ R, R = V.heap.size := ⟨_, rfl⟩
  obtain ⟨V2, hV2⟩ : ∃ U, U = V.alloc (.cells #[.int .i64 x0, .string x1, .int .i64 x2, .string x3, .float .f64 x4, .int .i64 x5, .bool x6, .bool x7, .int .u32 x8, .bool x9, .int .i64 x10, .int .i64 x11, .int .i64 x12, .int .i64 x13] 47) := ⟨_, rfl⟩
  have gR : V2.heap[R]? = some (.cells #[.int .i64 x0, .string x1, .int .i64 x2, .string x3, .float .f64 x4, .int .i64 x5, .bool x6, .bool x7, .int .u32 x8, .bool x9, .int .i64 x10, .int .i64 x11, .int .i64 x12, .int .i64 x13] 47 (0, 0)) := by rw [hV2, hR]; exact alloc_new _ _
  have QV2 : QS P #[.int .i64 x0, .string x1, .int .i64 x2, .string x3, .float .f64 x4, .int .i64 x5, .bool x6, .bool x7, .int .u32 x8, .bool x9, .int .i64 x10, .int .i64 x11, .int .i64 x12, .int .i64 x13] w V2 := by rw [hV2]; exact QV.alloc _
  have gF2 : V2.heap[F]? = some (.cells #[.func (.func 58) #[] #[], .func (.func 59) #[] #[], .func (.func 60) #[] #[]] 83 (0, 0)) := by rw [hV2, Below.heap_alloc _ _ _ (heap_lt gF)]; exact gF
  have nR : P ≠ R ∧ F ≠ R ∧ w.heap.size ≤ R := by have h1 := QV.lt; have h2 := heap_lt gF; have h3 := QV.le; omega
  have b2 := cellAt (i := 2) (v := .func (.func 60) #[] #[]) gF2 rfl
  have G2 := Lib.hid gR
  have QV2' := Lib.hid QV2
  have GF2 := Lib.hid gF2
  have NR := Lib.hid nR
  have LF := Lib.hid lF
  clear QV QV2 gF gF2 gR nR lF
  simp only [Exit.then]
  go_upto_region 5 with (fail)
  rw [← hV2, ← hR]
  clear hV2 hR a0 a1 a2 a3 a4 a5 a6 a7 a8 a9 a10 a11 a12 a13
  have BR := Lib.hid (bare_non R V2)
  go_wp2_with (fail)
  (with_reducible refine BR.out.mono ?_)
  clear BR b2
  rintro e v3 ⟨rfl, hv3⟩
  have gR3 : v3.heap[R]? = some (.cells #[.int .i64 x0, .string x1, .int .i64 x2, .string x3, .float .f64 x4, .int .i64 x5, .bool x6, .bool x7, .int .u32 x8, .bool x9, .int .i64 x10, .int .i64 x11, .int .i64 x12, .int .i64 x13] 47 (0, 0)) := by rw [hv3]; exact G2.out
  have hS3 : Save [R] V2 v3 := by rw [hv3]; exact Save.refl _ _
  clear hv3
  have QV3 : QS P #[.int .i64 x0, .string x1, .int .i64 x2, .string x3, .float .f64 x4, .int .i64 x5, .bool x6, .bool x7, .int .u32 x8, .bool x9, .int .i64 x10, .int .i64 x11, .int .i64 x12, .int .i64 x13] w v3 := ⟨(hS3.block _ QV2'.out.lt (by simp; exact NR.out.1)).trans QV2'.out.hP, QV2'.out.bl.trans (hS3.below (by simp; exact NR.out.2.2) QV2'.out.le)⟩
  have gF3 : v3.heap[F]? = some (.cells #[.func (.func 58) #[] #[], .func (.func 59) #[] #[], .func (.func 60) #[] #[]] 83 (0, 0)) := (hS3.block _ (heap_lt GF2.out) (by simp; exact NR.out.2.1)).trans GF2.out
  have a0 := cellAt (i := 0) (v := .int .i64 x0) gR3 rfl
  have a1 := cellAt (i := 1) (v := .string x1) gR3 rfl
  have a2 := cellAt (i := 2) (v := .int .i64 x2) gR3 rfl
  have a3 := cellAt (i := 3) (v := .string x3) gR3 rfl
  have a4 := cellAt (i := 4) (v := .float .f64 x4) gR3 rfl
  have a5 := cellAt (i := 5) (v := .int .i64 x5) gR3 rfl
  have a6 := cellAt (i := 6) (v := .bool x6) gR3 rfl
  have a7 := cellAt (i := 7) (v := .bool x7) gR3 rfl
  have a8 := cellAt (i := 8) (v := .int .u32 x8) gR3 rfl
  have a9 := cellAt (i := 9) (v := .bool x9) gR3 rfl
  have a10 := cellAt (i := 10) (v := .int .i64 x10) gR3 rfl
  have a11 := cellAt (i := 11) (v := .int .i64 x11) gR3 rfl
  have a12 := cellAt (i := 12) (v := .int .i64 x12) gR3 rfl
  have a13 := cellAt (i := 13) (v := .int .i64 x13) gR3 rfl
  have ZA := Lib.hid (zero_any x0 x1 x2 x3 x4 x5 x6 x7 x8 x9 x10 x11 x12 x13 v3)
  obtain ⟨Z, hZ⟩ : ∃ Z, Z = ((zB x1 x2 x3 x5 x6 x7 x8 x9 x10 x11 x12 x13) && (x4 == 0)) := ⟨_, rfl⟩
  have ZA : Hid (Calls Try.prog 34 #[.agg #[.int .i64 x0, .string x1, .int .i64 x2, .string x3, .float .f64 x4, .int .i64 x5, .bool x6, .bool x7, .int .u32 x8, .bool x9, .int .i64 x10, .int .i64 x11, .int .i64 x12, .int .i64 x13]] v3 fun e w' => e = .returned (.bool Z) ∧ Below v3.heap.size v3 w') := by show Calls _ _ _ _ _; rw [hZ]; exact ZA.out
  have HZ := Lib.hid hZ
  have QV3' := Lib.hid QV3
  have GF3 := Lib.hid gF3
  clear hZ QV3 gF3 gR3 hS3 G2 QV2' GF2
  go_wp2_with (fail)
  (with_reducible refine ZA.out.mono ?_)
  clear ZA a0 a1 a2 a3 a4 a5 a6 a7 a8 a9 a10 a11 a12 a13
  rintro e v4 ⟨rfl, hb4⟩
  have QV4 := Lib.hid (QV3'.out.below hb4)
  have GF4 := Lib.hid ((hb4.block _ (heap_lt GF3.out)).trans GF3.out)
  clear hb4 QV3' GF3
  cases Z with
  | false =>
    go_wp2_with (fail)
    go_ret2
    exact ⟨by rw [← HZ.out]; rfl, QV4.out.bl⟩
  | true =>
    obtain ⟨b, hb⟩ : ∃ b, b = v4.heap.size := ⟨_, rfl⟩
    obtain ⟨V5, hV5⟩ : ∃ U, U = v4.alloc (.cells #[.pointer none, .slice none 0 0] 95) := ⟨_, rfl⟩
    have I5 : IsW b [] V5 := by rw [hV5]; exact IsW.fresh v4 hb.symm
    have AP : ∀ x, x < b → Apart b x V5 := fun x hx => by rw [hV5]; exact fresh_apart v4 hb.symm hx
    have QV5 : QS P #[.int .i64 x0, .string x1, .int .i64 x2, .string x3, .float .f64 x4, .int .i64 x5, .bool x6, .bool x7, .int .u32 x8, .bool x9, .int .i64 x10, .int .i64 x11, .int .i64 x12, .int .i64 x13] w V5 := by rw [hV5]; exact QV4.out.alloc _
    have gF5 : V5.heap[F]? = some (.cells #[.func (.func 58) #[] #[], .func (.func 59) #[] #[], .func (.func 60) #[] #[]] 83 (0, 0)) := by rw [hV5, Below.heap_alloc _ _ _ (heap_lt GF4.out)]; exact GF4.out
    have lb : P < b ∧ F < b ∧ w.heap.size ≤ b := by have h1 := QV4.out.lt; have h2 := heap_lt GF4.out; have h3 := QV4.out.le; omega
    have c0 := cellAt (i := 0) (v := .int .i64 x0) QV5.hP rfl
    have U8 : Hid (Calls Try.prog 35 #[.pointer (some ⟨b, 0, none⟩), .int .i64 x0] V5 fun e w' => e = .returned (.tuple #[]) ∧ IsW b (be (u64 x0) 1) w' ∧ Keeps b V5 w') := w8_z b x0 [] V5 I5 (by simp)
    have AP' := Lib.hid AP
    have Q5 := Lib.hid QV5
    have GF5 := Lib.hid gF5
    have LB := Lib.hid lb
    clear I5 AP QV5 gF5 lb QV4 GF4
    go_upto_region 9 with (fail)
    rw [← hV5, ← hb]
    clear hV5 hb
    go_wp2_with (fail)
    (with_reducible refine U8.out.mono ?_)
    clear U8 c0
    rintro e v6 ⟨rfl, i6, kp6⟩
    have gP6 : v6.heap[P]? = some (.cells #[.int .i64 x0, .string x1, .int .i64 x2, .string x3, .float .f64 x4, .int .i64 x5, .bool x6, .bool x7, .int .u32 x8, .bool x9, .int .i64 x10, .int .i64 x11, .int .i64 x12, .int .i64 x13] 47 (0, 0)) := ((kp6.block P (AP'.out P LB.out.1)).1).trans Q5.out.hP
    have gF6 : v6.heap[F]? = some (.cells #[.func (.func 58) #[] #[], .func (.func 59) #[] #[], .func (.func 60) #[] #[]] 83 (0, 0)) := ((kp6.block F (AP'.out F LB.out.2.1)).1).trans GF5.out
    have a0 := cellAt (i := 0) (v := .int .i64 x0) gP6 rfl
    have a1 := cellAt (i := 1) (v := .string x1) gP6 rfl
    have a2 := cellAt (i := 2) (v := .int .i64 x2) gP6 rfl
    have a3 := cellAt (i := 3) (v := .string x3) gP6 rfl
    have a4 := cellAt (i := 4) (v := .float .f64 x4) gP6 rfl
    have a5 := cellAt (i := 5) (v := .int .i64 x5) gP6 rfl
    have a6 := cellAt (i := 6) (v := .bool x6) gP6 rfl
    have a7 := cellAt (i := 7) (v := .bool x7) gP6 rfl
    have a8 := cellAt (i := 8) (v := .int .u32 x8) gP6 rfl
    have a9 := cellAt (i := 9) (v := .bool x9) gP6 rfl
    have a10 := cellAt (i := 10) (v := .int .i64 x10) gP6 rfl
    have a11 := cellAt (i := 11) (v := .int .i64 x11) gP6 rfl
    have a12 := cellAt (i := 12) (v := .int .i64 x12) gP6 rfl
    have a13 := cellAt (i := 13) (v := .int .i64 x13) gP6 rfl
    have b0 := cellAt (i := 0) (v := .func (.func 58) #[] #[]) gF6 rfl
    obtain ⟨ok, hok⟩ : ∃ ok, ok = (okNon x0) := ⟨_, rfl⟩
    have PC : Hid (Calls Try.prog 58 #[.pointer (some ⟨b, 0, none⟩), .agg #[.int .i64 x0, .string x1, .int .i64 x2, .string x3, .float .f64 x4, .int .i64 x5, .bool x6, .bool x7, .int .u32 x8, .bool x9, .int .i64 x10, .int .i64 x11, .int .i64 x12, .int .i64 x13]] v6 fun e w' => e = .returned (.bool ok) ∧ IsW b (be (u64 x0) 1 ++ ([] : List UInt8)) w' ∧ Keeps b v6 w') := by
      show Calls _ _ _ _ _
      rw [hok]
      exact non1_any b x0 x1 x2 x3 x4 x5 x6 x7 x8 x9 x10 x11 x12 x13 (be (u64 x0) 1) v6 i6 (by rw [be_length]; omega) 
    have HOK := Lib.hid hok
    have KP6 := Lib.hid kp6
    clear hok kp6 i6 gP6 gF6
    go_wp2_with (fail)
    (with_reducible refine PC.out.mono ?_)
    clear PC b0 a0 a1 a2 a3 a4 a5 a6 a7 a8 a9 a10 a11 a12 a13
    rintro e v7 ⟨rfl, i7, kp7⟩
    have KP7 := Lib.hid (KP6.out.trans kp7)
    have I7 := Lib.hid i7
    have BB : Hid (∀ U : World, Keeps b V5 U → Below w.heap.size w U) := fun U h => Q5.out.bl.trans (h.below (fun x hx => AP'.out x (by have := LB.out.2.2; omega)))
    clear kp7 i7
    cases ok with
    | false =>
      go_wp2_with (fail)
      go_ret2
      exact ⟨by rw [← HZ.out, ← HOK.out]; rfl, BB.out _ KP7.out⟩
    | true =>
      obtain ⟨res, hres⟩ : ∃ r, r = bs (be (u64 x0) 1 ++ ([] : List UInt8)) := ⟨_, rfl⟩
      have ST : Hid (Calls Try.prog 36 #[.pointer (some ⟨b, 0, none⟩)] v7 fun e w' => e = .returned (.string res) ∧ Keeps b v7 w') := by show Calls _ _ _ _ _; rw [hres]; exact string_k b _ v7 I7.out
      have HRS := Lib.hid hres
      clear hres
      go_wp2_with (fail)
      (with_reducible refine ST.out.mono ?_)
      clear ST
      rintro e v8 ⟨rfl, kp8⟩
      go_wp2_with (fail)
      go_ret2
      exact ⟨by rw [← HZ.out, ← HOK.out]; unfold putR; simp only [if_true]; rw [← HRS.out]; rfl, BB.out _ (KP7.out.trans kp8)⟩
end Go.Proofs.Ytmijfhfjhbckdaa
