import Derived.Test.YtmijfhfjhbckdaaPutP
/- PutConfig. -/
namespace Go.Proofs.Ytmijfhfjhbckdaa
set_option maxRecDepth 100000
open Go.RowKit
def u32 (z : Int) : Nat := (z % 4294967296).toNat
theorem u32_lt (z : Int) : u32 z < 4294967296 := by unfold u32; omega
/-- a configuration's bytes, if all fit -/
def cfgB (y0 : ByteArray) (y1 : Int) (y2 y3 : Bool) (y4 : Nat) (y5 : Bool) (y6 y7 y8 : Int) (z0 z1 z2 : Int) : List UInt8 := (tunB y1 y2 y3 y4 y5 y6 y7) ++ (y0.data.toList ++ (be (u64 y8) 2 ++ (be (u64 z0) 1 ++ (be (u32 z1) 4 ++ be (u64 z2) 1))))
def cfgOk (y0 : ByteArray) (y1 : Int) (y2 y3 : Bool) (y4 : Nat) (y5 : Bool) (y6 y7 y8 : Int) (z0 z1 z2 : Int) : Bool := (byte3 y1 y6 y7 && ((y0.size == 4) && (fits y8 && (byte2 z0 z2 && decide (0 ≤ z1 ∧ z1 ≤ 4294967295)))))
def cfgR (ok : Bool) (l : List UInt8) : Value := if ok then .tuple #[.string (bs l), .int .i64 0] else .tuple #[.string ⟨#[]⟩, .int .i64 1]
set_option maxHeartbeats 8000000 in
theorem putcfg_any (y0 : ByteArray) (y1 : Int) (y2 y3 : Bool) (y4 : Nat) (y5 : Bool) (y6 y7 y8 : Int) (z0 z1 z2 : Int) (w : World) (hs : y0.size ≤ 1000000) (h4 : y4 < 4294967296) (i1 : inI y1) (i6 : inI y6) (i7 : inI y7) (j0 : inI z0) (j2 : inI z2) :
    Calls Try.prog 14 #[.agg #[.string y0, .int .i64 y1, .bool y2, .bool y3, .int .u32 (y4 : Nat), .bool y5, .int .i64 y6, .int .i64 y7, .int .i64 y8], .agg #[.int .i64 z0, .int .i64 z1, .int .i64 z2]] w fun e w' => e = .returned (cfgR (cfgOk y0 y1 y2 y3 y4 y5 y6 y7 y8 z0 z1 z2) (cfgB y0 y1 y2 y3 y4 y5 y6 y7 y8 z0 z1 z2)) ∧ Below w.heap.size w w' := by
  obtain ⟨W0, hW0⟩ : ∃ W, W = (w.alloc (.cells #[.string y0, .int .i64 y1, .bool y2, .bool y3, .int .u32 (y4 : Nat), .bool y5, .int .i64 y6, .int .i64 y7, .int .i64 y8] 27)).alloc (.cells #[.int .i64 z0, .int .i64 z1, .int .i64 z2] 29) := ⟨_, rfl⟩
  obtain ⟨A, hA⟩ : ∃ x, x = w.heap.size := ⟨_, rfl⟩
  obtain ⟨B, hB⟩ : ∃ x, x = w.heap.size + 1 := ⟨_, rfl⟩
  obtain ⟨b, hb⟩ : ∃ x, x = W0.heap.size := ⟨_, rfl⟩
  have hw1 : W0.heap.size = w.heap.size + 2 := by rw [hW0]; simp
  have hw0 : W0.heap.size = b := hb.symm
  obtain ⟨W, hW⟩ : ∃ W, W = W0.alloc (.cells #[.pointer none, .slice none 0 0] 95) := ⟨_, rfl⟩
  have gA : W0.heap[A]? = some (.cells #[.string y0, .int .i64 y1, .bool y2, .bool y3, .int .u32 (y4 : Nat), .bool y5, .int .i64 y6, .int .i64 y7, .int .i64 y8] 27 (0, 0)) := by rw [hW0, hA]; exact heap_alloc2_old _ _ _
  have gB : W0.heap[B]? = some (.cells #[.int .i64 z0, .int .i64 z1, .int .i64 z2] 29 (0, 0)) := by rw [hW0, hB]; exact heap_alloc2_new _ _ _
  have b0 : Below w.heap.size w W0 := by rw [hW0]; exact ((Below.refl _ _).alloc (Nat.le_refl _) _).alloc (by simp) _
  have I0 : IsW b [] W := by rw [hW]; exact IsW.fresh W0 hw0
  have AP : ∀ x, x < b → Apart b x W := fun x hx => by rw [hW]; exact fresh_apart W0 hw0 hx
  have gA' : W.heap[A]? = some (.cells #[.string y0, .int .i64 y1, .bool y2, .bool y3, .int .u32 (y4 : Nat), .bool y5, .int .i64 y6, .int .i64 y7, .int .i64 y8] 27 (0, 0)) := by rw [hW, Below.heap_alloc _ _ _ (heap_lt gA)]; exact gA
  have gB' : W.heap[B]? = some (.cells #[.int .i64 z0, .int .i64 z1, .int .i64 z2] 29 (0, 0)) := by rw [hW, Below.heap_alloc _ _ _ (heap_lt gB)]; exact gB
  have BB : Hid (∀ U : World, Keeps b W U → Below w.heap.size w U) := fun U h => (b0.trans (by rw [hW]; exact (Below.refl _ _).alloc (by rw [hw1]; omega) _)).trans (h.below (fun x hx => AP x (by omega)))
  have P0 : Hid (PSt b A #[.string y0, .int .i64 y1, .bool y2, .bool y3, .int .u32 (y4 : Nat), .bool y5, .int .i64 y6, .int .i64 y7, .int .i64 y8] 27 W [] W) := ⟨I0, gA', AP A (by omega), Keeps.refl _ _⟩
  have Q0 : Hid (PSt b B #[.int .i64 z0, .int .i64 z1, .int .i64 z2] 29 W [] W) := ⟨I0, gB', AP B (by omega), Keeps.refl _ _⟩
  have HS := Lib.hid hs
  have TN : Hid (Calls Try.prog 37 #[.pointer (some ⟨b, 0, none⟩), .agg #[.int .i64 y1, .bool y2, .bool y3, .int .u32 (y4 : Nat), .bool y5, .int .i64 y6, .int .i64 y7]] W fun e w' => e = .returned (.bool (byte3 y1 y6 y7)) ∧ IsW b (tunB y1 y2 y3 y4 y5 y6 y7) w' ∧ Keeps b W w') := ptun_any b y1 y2 y3 y4 y5 y6 y7 [] W I0 (by simp) h4 i1 i6 i7
  obtain ⟨T, hT⟩ : ∃ T, T = byte3 y1 y6 y7 := ⟨_, rfl⟩
  rw [← hT] at TN
  obtain ⟨L4, hL4⟩ : ∃ L, L = (y0.size == 4) := ⟨_, rfl⟩
  have l4 : ((y0.size : Int) != 4) = !L4 := by rw [hL4, Bool.eq_iff_iff]; simp; omega
  obtain ⟨F, hF⟩ : ∃ F, F = fits y8 := ⟨_, rfl⟩
  obtain ⟨BT, hBT⟩ : ∃ BT, BT = byte2 z0 z2 := ⟨_, rfl⟩
  have bt0 := byte2_eq z0 z2 j0 j2
  rw [← hBT] at bt0
  have bt : (bits .andNot .i64 (bits .or .i64 z0 z2) 255 != 0) = !BT := by rw [← bt0]; rfl
  have hu : IntKind.u32.wrap z1 = (u32 z1 : Int) := by rw [IntKind.wrap_u32]; unfold u32; omega
  obtain ⟨uz, huz⟩ : ∃ u, u = u32 z1 := ⟨_, rfl⟩
  rw [← huz] at hu
  have uz9 : Hid (uz < 4294967296) := by show _ < _; rw [huz]; exact u32_lt z1
  have HUZ := Lib.hid huz
  have HT := Lib.hid hT
  have HL4 := Lib.hid hL4
  have HF := Lib.hid hF
  have HBT := Lib.hid hBT
  have a1 := cellAt (i := 1) (v := .int .i64 y1) gA' rfl
  have a2 := cellAt (i := 2) (v := .bool y2) gA' rfl
  have a3 := cellAt (i := 3) (v := .bool y3) gA' rfl
  have a4 := cellAt (i := 4) (v := .int .u32 (y4 : Nat)) gA' rfl
  have a5 := cellAt (i := 5) (v := .bool y5) gA' rfl
  have a6 := cellAt (i := 6) (v := .int .i64 y6) gA' rfl
  have a7 := cellAt (i := 7) (v := .int .i64 y7) gA' rfl
  clear hT hL4 hF hBT bt0 huz hs h4 i1 i6 i7 j0 j2 gA gB b0 I0 AP gA' gB' hw0 hw1
  go_enter Try.func14, Try.ntmps14
  go_upto_region 1 with (fail)
  rw [← hW0]
  clear hW0
  go_upto_region 2 with (fail)
  rw [← hW, ← hb, ← hB, ← hA]
  clear hW hb hB hA
  go_wp2_with (fail)
  (with_reducible refine TN.out.mono ?_)
  clear TN a1 a2 a3 a4 a5 a6 a7
  rintro e w1 ⟨rfl, h1, h2⟩
  have P1 := Lib.hid (P0.out.put h1 h2)
  have Q1 := Lib.hid (Q0.out.put h1 h2)
  clear h1 h2 P0 Q0
  have a0 := cellAt (i := 0) (v := .string y0) P1.out.hX rfl
  have U : Hid (Calls Try.prog 38 #[.pointer (some ⟨b, 0, none⟩), .string y0] w1 fun e w' => e = .returned (.tuple #[]) ∧ IsW b ((tunB y1 y2 y3 y4 y5 y6 y7) ++ y0.data.toList) w' ∧ Keeps b w1 w') := text_k b _ y0 w1 P1.out.wr (by have := HS.out; have e : y0.data.toList.length = y0.size := (by simp); simp only [List.length_append, be_length, tunB_length, e]; omega) (by have := HS.out; omega)
  go_wp2_with (fail)
  (with_reducible refine U.out.mono ?_)
  clear U
  rintro e w2 ⟨rfl, h1, h2⟩
  have P2 := Lib.hid (P1.out.put h1 h2)
  have Q2 := Lib.hid (Q1.out.put h1 h2)
  clear h1 h2 P1 Q1
  have p28 := cellAt (i := 8) (v := .int .i64 y8) P2.out.hX rfl
  have U : Hid (Calls Try.prog 39 #[.pointer (some ⟨b, 0, none⟩), .int .i64 y8] w2 fun e w' => e = .returned (.tuple #[]) ∧ IsW b (((tunB y1 y2 y3 y4 y5 y6 y7) ++ y0.data.toList) ++ be (u64 y8) 2) w' ∧ Keeps b w2 w') := w16_z b y8 _ w2 P2.out.wr (by have := HS.out; have e : y0.data.toList.length = y0.size := (by simp); simp only [List.length_append, be_length, tunB_length, e]; omega)
  go_wp2_with (fail)
  (with_reducible refine U.out.mono ?_)
  clear U
  rintro e w3 ⟨rfl, h1, h2⟩
  have P3 := Lib.hid (P2.out.put h1 h2)
  have Q3 := Lib.hid (Q2.out.put h1 h2)
  clear h1 h2 P2 Q2
  have q30 := cellAt (i := 0) (v := .int .i64 z0) Q3.out.hX rfl
  have U : Hid (Calls Try.prog 35 #[.pointer (some ⟨b, 0, none⟩), .int .i64 z0] w3 fun e w' => e = .returned (.tuple #[]) ∧ IsW b ((((tunB y1 y2 y3 y4 y5 y6 y7) ++ y0.data.toList) ++ be (u64 y8) 2) ++ be (u64 z0) 1) w' ∧ Keeps b w3 w') := w8_z b z0 _ w3 P3.out.wr (by have := HS.out; have e : y0.data.toList.length = y0.size := (by simp); simp only [List.length_append, be_length, tunB_length, e]; omega)
  go_wp2_with (fail)
  (with_reducible refine U.out.mono ?_)
  clear U
  rintro e w4 ⟨rfl, h1, h2⟩
  have P4 := Lib.hid (P3.out.put h1 h2)
  have Q4 := Lib.hid (Q3.out.put h1 h2)
  clear h1 h2 P3 Q3
  have q41 := cellAt (i := 1) (v := .int .i64 z1) Q4.out.hX rfl
  have U : Hid (Calls Try.prog 40 #[.pointer (some ⟨b, 0, none⟩), .int .u32 (uz : Nat)] w4 fun e w' => e = .returned (.tuple #[]) ∧ IsW b (((((tunB y1 y2 y3 y4 y5 y6 y7) ++ y0.data.toList) ++ be (u64 y8) 2) ++ be (u64 z0) 1) ++ be uz 4) w' ∧ Keeps b w4 w') := w32_k b uz _ w4 uz9.out P4.out.wr (by have := HS.out; have e : y0.data.toList.length = y0.size := (by simp); simp only [List.length_append, be_length, tunB_length, e]; omega)
  go_wp2_with (fail)
  (with_reducible refine U.out.mono ?_)
  clear U
  rintro e w5 ⟨rfl, h1, h2⟩
  have P5 := Lib.hid (P4.out.put h1 h2)
  have Q5 := Lib.hid (Q4.out.put h1 h2)
  clear h1 h2 P4 Q4
  have q52 := cellAt (i := 2) (v := .int .i64 z2) Q5.out.hX rfl
  have U : Hid (Calls Try.prog 35 #[.pointer (some ⟨b, 0, none⟩), .int .i64 z2] w5 fun e w' => e = .returned (.tuple #[]) ∧ IsW b ((((((tunB y1 y2 y3 y4 y5 y6 y7) ++ y0.data.toList) ++ be (u64 y8) 2) ++ be (u64 z0) 1) ++ be uz 4) ++ be (u64 z2) 1) w' ∧ Keeps b w5 w') := w8_z b z2 _ w5 P5.out.wr (by have := HS.out; have e : y0.data.toList.length = y0.size := (by simp); simp only [List.length_append, be_length, tunB_length, e]; omega)
  go_wp2_with (fail)
  (with_reducible refine U.out.mono ?_)
  clear U
  rintro e w6 ⟨rfl, h1, h2⟩
  have P6 := Lib.hid (P5.out.put h1 h2)
  have Q6 := Lib.hid (Q5.out.put h1 h2)
  clear h1 h2 P5 Q5
  have p60 := cellAt (i := 0) (v := .string y0) P6.out.hX rfl
  have p68 := cellAt (i := 8) (v := .int .i64 y8) P6.out.hX rfl
  have q60 := cellAt (i := 0) (v := .int .i64 z0) Q6.out.hX rfl
  have q61 := cellAt (i := 1) (v := .int .i64 z1) Q6.out.hX rfl
  have q62 := cellAt (i := 2) (v := .int .i64 z2) Q6.out.hX rfl
  have HE : Hid (((((((tunB y1 y2 y3 y4 y5 y6 y7) ++ y0.data.toList) ++ be (u64 y8) 2) ++ be (u64 z0) 1) ++ be uz 4) ++ be (u64 z2) 1) = cfgB y0 y1 y2 y3 y4 y5 y6 y7 y8 z0 z1 z2) := by
    show _ = _
    unfold cfgB
    rw [HUZ.out]
    simp only [List.append_assoc]
  have bad : cfgOk y0 y1 y2 y3 y4 y5 y6 y7 y8 z0 z1 z2 = (T && (L4 && (F && (BT && decide (0 ≤ z1 ∧ z1 ≤ 4294967295))))) := by
    unfold cfgOk; rw [← HT.out, ← HL4.out, ← HF.out, ← HBT.out]
  have BAD := Lib.hid bad
  have BL := Lib.hid (BB.out _ P6.out.kp)
  clear bad
  cases T with
  | false =>
    go_wp2_with (fail)
    go_ret2
    exact ⟨by rw [BAD.out]; rfl, BL.out⟩
  | true =>
    cases L4 with
    | false =>
      go_wp2_with (fail)
      go_ret2
      exact ⟨by rw [BAD.out]; rfl, BL.out⟩
    | true =>
      obtain ⟨V, hV⟩ : ∃ V, V = w6.alloc (.cells #[.int .i64 y8] 3) := ⟨_, rfl⟩
      have FT : Hid (Calls Try.prog 41 #[.slice (some ⟨w6.heap.size, 0, none⟩) 1 1] V fun e w' => e = .returned (.bool F) ∧ w' = V) := by
        show Calls _ _ _ _ _
        rw [HF.out]
        exact fit_one w6.heap.size y8 V (by rw [hV]; exact cellAt (alloc_new _ _) rfl)
      have bv : Below w6.heap.size w6 V := by rw [hV]; exact (Below.refl _ _).alloc (Nat.le_refl _) _
      have PV := Lib.hid (P6.out.below bv)
      have QV := Lib.hid (Q6.out.below bv)
      have BLV := Lib.hid (BB.out _ PV.out.kp)
      have qv0 := cellAt (i := 0) (v := .int .i64 z0) QV.out.hX rfl
      have qv1 := cellAt (i := 1) (v := .int .i64 z1) QV.out.hX rfl
      have qv2 := cellAt (i := 2) (v := .int .i64 z2) QV.out.hX rfl
      clear bv
      go_wp2_with (fail)
      rw [← hV]
      clear hV
      (with_reducible refine FT.out.mono ?_)
      clear FT
      rintro e v ⟨rfl, hv⟩
      replace hv := hv.symm
      subst hv
      cases F with
      | false =>
        go_wp2_with (fail)
        go_ret2
        exact ⟨by rw [BAD.out]; rfl, BLV.out⟩
      | true =>
        cases BT with
        | false =>
          go_wp2_with (fail)
          go_ret2
          exact ⟨by rw [BAD.out]; rfl, BLV.out⟩
        | true =>
          by_cases hz : z1 < 0
          · have d1 : decide (z1 < 0) = true := decide_eq_true hz
            have HD : Hid (decide (0 ≤ z1 ∧ z1 ≤ 4294967295) = false) := decide_eq_false (by omega)
            go_wp2_with (fail)
            go_ret2
            exact ⟨by rw [BAD.out, HD.out]; rfl, BLV.out⟩
          · have d1 : decide (z1 < 0) = false := decide_eq_false hz
            by_cases hz2 : z1 > 4294967295
            · have d2 : decide (4294967295 < z1) = true := decide_eq_true hz2
              have HD : Hid (decide (0 ≤ z1 ∧ z1 ≤ 4294967295) = false) := decide_eq_false (by omega)
              go_wp2_with (fail)
              go_ret2
              exact ⟨by rw [BAD.out, HD.out]; rfl, BLV.out⟩
            · have d2 : decide (4294967295 < z1) = false := decide_eq_false hz2
              have HD : Hid (decide (0 ≤ z1 ∧ z1 ≤ 4294967295) = true) := decide_eq_true (by omega)
              obtain ⟨res, hres⟩ : ∃ r, r = bs (cfgB y0 y1 y2 y3 y4 y5 y6 y7 y8 z0 z1 z2) := ⟨_, rfl⟩
              have ST : Hid (Calls Try.prog 36 #[.pointer (some ⟨b, 0, none⟩)] V fun e w' => e = .returned (.string res) ∧ Keeps b V w') := by show Calls _ _ _ _ _; rw [hres, ← HE.out]; exact string_k b _ V PV.out.wr
              have HRS := Lib.hid hres
              clear hres
              go_wp2_with (fail)
              (with_reducible refine ST.out.mono ?_)
              clear ST
              rintro e v8 ⟨rfl, kp8⟩
              go_wp2_with (fail)
              go_ret2
              exact ⟨by rw [BAD.out, HD.out]; show _ = Ending.returned (.tuple #[.string (bs (cfgB y0 y1 y2 y3 y4 y5 y6 y7 y8 z0 z1 z2)), .int .i64 0]); rw [← HRS.out]; rfl, BB.out _ (PV.out.kp.trans kp8)⟩
end Go.Proofs.Ytmijfhfjhbckdaa
