import Derived.Test.YtmijfhfjhbckdaaPTun
/- The closures that write what stands behind a kind. -/
namespace Go.Proofs.Ytmijfhfjhbckdaa
set_option maxRecDepth 100000
open Go.RowKit
set_option maxHeartbeats 2000000 in
theorem fit_two (g : Nat) (x y : Int) (w : World) (h : w.cell? ⟨g, 0, none⟩ = some (.int .i64 x)) (h2 : w.cell? ⟨g, 1, none⟩ = some (.int .i64 y)) : Calls Try.prog 41 #[.slice (some ⟨g, 0, none⟩) 2 2] w fun e w' => e = .returned (.bool (fits x && fits y)) ∧ w' = w := by
  go_enter Try.func41, Try.ntmps41
  go_wp2_with (fail)
  go_loop [7] (fun i => ∃ j : Nat, j ≤ 2 ∧ i = .int .i64 j ∧ Hid (1 ≤ j → fits x = true) ∧ Hid (2 ≤ j → fits y = true)) (fun i => 2 - (intOf i).toNat)
  case atStart => exact ⟨0, by omega, rfl, fun h => by omega, fun h => by omega⟩
  case round =>
    obtain ⟨j, hj, rfl, hf, hf2⟩ := hrel
    have hj3 : j = 0 ∨ j = 1 ∨ j = 2 := by omega
    rcases hj3 with rfl | rfl | rfl
    · clear hj hf hf2
      by_cases h0 : x < 0
      · have e0 : decide (x < 0) = true := decide_eq_true h0
        have hf : Hid (fits x = false) := by show _ = _; unfold fits; simp; omega
        go_wp2_with (fail)
        go_ret
        exact ⟨by rw [hf.out]; rfl, rfl⟩
      · have e0 : decide (x < 0) = false := decide_eq_false h0
        by_cases h2 : x > 65535
        · have e1 : decide (65535 < x) = true := decide_eq_true h2
          have hf : Hid (fits x = false) := by show _ = _; unfold fits; simp; omega
          go_wp2_with (fail)
          go_ret
          exact ⟨by rw [hf.out]; rfl, rfl⟩
        · have e1 : decide (65535 < x) = false := decide_eq_false (by omega)
          have hf : fits x = true := by unfold fits; simp; omega
          have HF := Lib.hid hf
          clear hf
          go_wp2_with (fail)
          exact ⟨⟨1, by omega, by go_num, fun _ => HF.out, fun h => by omega⟩, by simp [intOf]⟩
    · have HX : Hid (fits x = true) := hf.out (by omega)
      clear hj hf hf2
      by_cases h0 : y < 0
      · have e0 : decide (y < 0) = true := decide_eq_true h0
        have hf : Hid (fits y = false) := by show _ = _; unfold fits; simp; omega
        go_wp2_with (fail)
        go_ret
        exact ⟨by rw [HX.out, hf.out]; rfl, rfl⟩
      · have e0 : decide (y < 0) = false := decide_eq_false h0
        by_cases h2 : y > 65535
        · have e1 : decide (65535 < y) = true := decide_eq_true h2
          have hf : Hid (fits y = false) := by show _ = _; unfold fits; simp; omega
          go_wp2_with (fail)
          go_ret
          exact ⟨by rw [HX.out, hf.out]; rfl, rfl⟩
        · have e1 : decide (65535 < y) = false := decide_eq_false (by omega)
          have hf : fits y = true := by unfold fits; simp; omega
          have HF := Lib.hid hf
          clear hf
          go_wp2_with (fail)
          exact ⟨⟨2, by omega, by go_num, fun _ => HX.out, fun _ => HF.out⟩, by simp [intOf]⟩
    · have HX : Hid (fits x = true) := hf.out (by omega)
      have HY : Hid (fits y = true) := hf2.out (by omega)
      clear hj hf hf2
      go_wp2_with (fail)
      go_ret
      exact ⟨by rw [HX.out, HY.out]; rfl, rfl⟩
set_option maxHeartbeats 4000000 in
theorem num1_any (b : Nat) (x0 : Int) (x1 : ByteArray) (x2 : Int) (x3 : ByteArray) (x4 : Nat) (x5 : Int) (x6 : Bool) (x7 : Bool) (x8 : Int) (x9 : Bool) (x10 : Int) (x11 : Int) (x12 : Int) (x13 : Int) (l : List UInt8) (w : World) (h : IsW b l w) (hlen : l.length ≤ 800000000) : Calls Try.prog 76 #[.pointer (some ⟨b, 0, none⟩), .agg #[.int .i64 x0, .string x1, .int .i64 x2, .string x3, .float .f64 x4, .int .i64 x5, .bool x6, .bool x7, .int .u32 x8, .bool x9, .int .i64 x10, .int .i64 x11, .int .i64 x12, .int .i64 x13]] w fun e w' => e = .returned (.bool (fits x12)) ∧ IsW b (l ++ be (u64 x12) 2) w' ∧ Keeps b w w' := by
  have S0 := PSt.start h #[.int .i64 x0, .string x1, .int .i64 x2, .string x3, .float .f64 x4, .int .i64 x5, .bool x6, .bool x7, .int .u32 x8, .bool x9, .int .i64 x10, .int .i64 x11, .int .i64 x12, .int .i64 x13] 47
  obtain ⟨X, hX⟩ : ∃ X, X = w.heap.size := ⟨_, rfl⟩
  obtain ⟨W, hW⟩ : ∃ W, W = w.alloc (.cells #[.int .i64 x0, .string x1, .int .i64 x2, .string x3, .float .f64 x4, .int .i64 x5, .bool x6, .bool x7, .int .u32 x8, .bool x9, .int .i64 x10, .int .i64 x11, .int .i64 x12, .int .i64 x13] 47) := ⟨_, rfl⟩
  rw [← hX, ← hW] at S0
  have P0 := Lib.hid S0
  have HL := Lib.hid hlen
  have a012 := cellAt (i := 12) (v := .int .i64 x12) S0.hX rfl
  clear h S0 hlen
  go_enter Try.func76, Try.ntmps76
  go_upto_region 1 with (fail)
  rw [← hW, ← hX]
  clear hW hX
  have U : Hid (Calls Try.prog 39 #[.pointer (some ⟨b, 0, none⟩), .int .i64 x12] W fun e w' => e = .returned (.tuple #[]) ∧ IsW b (l ++ be (u64 x12) 2) w' ∧ Keeps b W w') := w16_z b x12 l W P0.out.wr (by have := HL.out; omega)
  go_wp2_with (fail)
  (with_reducible refine U.out.mono ?_)
  clear U
  rintro e w1 ⟨rfl, h1, h2⟩
  have P1 := Lib.hid (P0.out.put h1 h2)
  clear h1 h2
  have a112 := cellAt (i := 12) (v := .int .i64 x12) P1.out.hX rfl
  obtain ⟨V, hV⟩ : ∃ V, V = w1.alloc (.cells #[.int .i64 x12] 3) := ⟨_, rfl⟩
  have FT : Hid (Calls Try.prog 41 #[.slice (some ⟨w1.heap.size, 0, none⟩) 1 1] V fun e w' => e = .returned (.bool (fits x12)) ∧ w' = V) := fit_one w1.heap.size x12 V (by rw [hV]; exact cellAt (alloc_new _ _) rfl)
  have P9 : Hid (PSt b X #[.int .i64 x0, .string x1, .int .i64 x2, .string x3, .float .f64 x4, .int .i64 x5, .bool x6, .bool x7, .int .u32 x8, .bool x9, .int .i64 x10, .int .i64 x11, .int .i64 x12, .int .i64 x13] 47 w (l ++ be (u64 x12) 2) V) := by show PSt _ _ _ _ _ _ _; rw [hV]; exact P1.out.below ((Below.refl _ _).alloc (Nat.le_refl _) _)
  go_wp2_with (fail)
  rw [← hV]
  clear hV
  (with_reducible refine FT.out.mono ?_)
  clear FT
  rintro e v ⟨rfl, hv⟩
  replace hv := hv.symm
  subst hv
  go_wp2_with (fail)
  go_ret
  have q := P9.out.wr
  try simp only [List.append_assoc] at q
  exact ⟨rfl, q, P9.out.kp⟩
set_option maxHeartbeats 4000000 in
theorem pkt1_any (b : Nat) (x0 : Int) (x1 : ByteArray) (x2 : Int) (x3 : ByteArray) (x4 : Nat) (x5 : Int) (x6 : Bool) (x7 : Bool) (x8 : Int) (x9 : Bool) (x10 : Int) (x11 : Int) (x12 : Int) (x13 : Int) (l : List UInt8) (w : World) (h : IsW b l w) (hlen : l.length ≤ 800000000) (hs : x1.size ≤ 1000000) : Calls Try.prog 68 #[.pointer (some ⟨b, 0, none⟩), .agg #[.int .i64 x0, .string x1, .int .i64 x2, .string x3, .float .f64 x4, .int .i64 x5, .bool x6, .bool x7, .int .u32 x8, .bool x9, .int .i64 x10, .int .i64 x11, .int .i64 x12, .int .i64 x13]] w fun e w' => e = .returned (.bool (fits (x1.size : Int))) ∧ IsW b (l ++ (be (u64 (x1.size : Int)) 2 ++ x1.data.toList)) w' ∧ Keeps b w w' := by
  have S0 := PSt.start h #[.int .i64 x0, .string x1, .int .i64 x2, .string x3, .float .f64 x4, .int .i64 x5, .bool x6, .bool x7, .int .u32 x8, .bool x9, .int .i64 x10, .int .i64 x11, .int .i64 x12, .int .i64 x13] 47
  obtain ⟨X, hX⟩ : ∃ X, X = w.heap.size := ⟨_, rfl⟩
  obtain ⟨W, hW⟩ : ∃ W, W = w.alloc (.cells #[.int .i64 x0, .string x1, .int .i64 x2, .string x3, .float .f64 x4, .int .i64 x5, .bool x6, .bool x7, .int .u32 x8, .bool x9, .int .i64 x10, .int .i64 x11, .int .i64 x12, .int .i64 x13] 47) := ⟨_, rfl⟩
  rw [← hX, ← hW] at S0
  have P0 := Lib.hid S0
  have HL := Lib.hid hlen
  have a01 := cellAt (i := 1) (v := .string x1) S0.hX rfl
  have HS := Lib.hid hs
  clear hs
  clear h S0 hlen
  go_enter Try.func68, Try.ntmps68
  go_upto_region 1 with (fail)
  rw [← hW, ← hX]
  clear hW hX
  have U : Hid (Calls Try.prog 39 #[.pointer (some ⟨b, 0, none⟩), .int .i64 (x1.size : Nat)] W fun e w' => e = .returned (.tuple #[]) ∧ IsW b (l ++ be (u64 (x1.size : Int)) 2) w' ∧ Keeps b W w') := w16_z b (x1.size : Int) l W P0.out.wr (by have := HL.out; omega)
  go_wp2_with (fail)
  (with_reducible refine U.out.mono ?_)
  clear U
  rintro e w1 ⟨rfl, h1, h2⟩
  have P1 := Lib.hid (P0.out.put h1 h2)
  clear h1 h2
  have a11 := cellAt (i := 1) (v := .string x1) P1.out.hX rfl
  have U : Hid (Calls Try.prog 38 #[.pointer (some ⟨b, 0, none⟩), .string x1] w1 fun e w' => e = .returned (.tuple #[]) ∧ IsW b ((l ++ be (u64 (x1.size : Int)) 2) ++ x1.data.toList) w' ∧ Keeps b w1 w') := text_k b _ x1 w1 P1.out.wr (by have := HL.out; simp only [List.length_append, be_length, Array.length_toList]; omega) (by have := HS.out; omega)
  go_wp2_with (fail)
  (with_reducible refine U.out.mono ?_)
  clear U
  rintro e w2 ⟨rfl, h1, h2⟩
  have P2 := Lib.hid (P1.out.put h1 h2)
  clear h1 h2
  have a21 := cellAt (i := 1) (v := .string x1) P2.out.hX rfl
  obtain ⟨V, hV⟩ : ∃ V, V = w2.alloc (.cells #[.int .i64 (x1.size : Nat)] 3) := ⟨_, rfl⟩
  have FT : Hid (Calls Try.prog 41 #[.slice (some ⟨w2.heap.size, 0, none⟩) 1 1] V fun e w' => e = .returned (.bool (fits (x1.size : Int))) ∧ w' = V) := fit_one w2.heap.size (x1.size : Nat) V (by rw [hV]; exact cellAt (alloc_new _ _) rfl)
  have P9 : Hid (PSt b X #[.int .i64 x0, .string x1, .int .i64 x2, .string x3, .float .f64 x4, .int .i64 x5, .bool x6, .bool x7, .int .u32 x8, .bool x9, .int .i64 x10, .int .i64 x11, .int .i64 x12, .int .i64 x13] 47 w ((l ++ be (u64 (x1.size : Int)) 2) ++ x1.data.toList) V) := by show PSt _ _ _ _ _ _ _; rw [hV]; exact P2.out.below ((Below.refl _ _).alloc (Nat.le_refl _) _)
  go_wp2_with (fail)
  rw [← hV]
  clear hV
  (with_reducible refine FT.out.mono ?_)
  clear FT
  rintro e v ⟨rfl, hv⟩
  replace hv := hv.symm
  subst hv
  go_wp2_with (fail)
  go_ret
  have q := P9.out.wr
  try simp only [List.append_assoc] at q
  exact ⟨rfl, q, P9.out.kp⟩
set_option maxHeartbeats 4000000 in
theorem mov1_any (b : Nat) (x0 : Int) (x1 : ByteArray) (x2 : Int) (x3 : ByteArray) (x4 : Nat) (x5 : Int) (x6 : Bool) (x7 : Bool) (x8 : Int) (x9 : Bool) (x10 : Int) (x11 : Int) (x12 : Int) (x13 : Int) (l : List UInt8) (w : World) (h : IsW b l w) (hlen : l.length ≤ 800000000) : Calls Try.prog 52 #[.pointer (some ⟨b, 0, none⟩), .agg #[.int .i64 x0, .string x1, .int .i64 x2, .string x3, .float .f64 x4, .int .i64 x5, .bool x6, .bool x7, .int .u32 x8, .bool x9, .int .i64 x10, .int .i64 x11, .int .i64 x12, .int .i64 x13]] w fun e w' => e = .returned (.bool (fits x12 && fits x13)) ∧ IsW b (l ++ (be (u64 x12) 2 ++ be (u64 x13) 2)) w' ∧ Keeps b w w' := by
  have S0 := PSt.start h #[.int .i64 x0, .string x1, .int .i64 x2, .string x3, .float .f64 x4, .int .i64 x5, .bool x6, .bool x7, .int .u32 x8, .bool x9, .int .i64 x10, .int .i64 x11, .int .i64 x12, .int .i64 x13] 47
  obtain ⟨X, hX⟩ : ∃ X, X = w.heap.size := ⟨_, rfl⟩
  obtain ⟨W, hW⟩ : ∃ W, W = w.alloc (.cells #[.int .i64 x0, .string x1, .int .i64 x2, .string x3, .float .f64 x4, .int .i64 x5, .bool x6, .bool x7, .int .u32 x8, .bool x9, .int .i64 x10, .int .i64 x11, .int .i64 x12, .int .i64 x13] 47) := ⟨_, rfl⟩
  rw [← hX, ← hW] at S0
  have P0 := Lib.hid S0
  have HL := Lib.hid hlen
  have a012 := cellAt (i := 12) (v := .int .i64 x12) S0.hX rfl
  clear h S0 hlen
  go_enter Try.func52, Try.ntmps52
  go_upto_region 1 with (fail)
  rw [← hW, ← hX]
  clear hW hX
  have U : Hid (Calls Try.prog 39 #[.pointer (some ⟨b, 0, none⟩), .int .i64 x12] W fun e w' => e = .returned (.tuple #[]) ∧ IsW b (l ++ be (u64 x12) 2) w' ∧ Keeps b W w') := w16_z b x12 l W P0.out.wr (by have := HL.out; omega)
  go_wp2_with (fail)
  (with_reducible refine U.out.mono ?_)
  clear U
  rintro e w1 ⟨rfl, h1, h2⟩
  have P1 := Lib.hid (P0.out.put h1 h2)
  clear h1 h2
  have a113 := cellAt (i := 13) (v := .int .i64 x13) P1.out.hX rfl
  have U : Hid (Calls Try.prog 39 #[.pointer (some ⟨b, 0, none⟩), .int .i64 x13] w1 fun e w' => e = .returned (.tuple #[]) ∧ IsW b ((l ++ be (u64 x12) 2) ++ be (u64 x13) 2) w' ∧ Keeps b w1 w') := w16_z b x13 _ w1 P1.out.wr (by have := HL.out; simp only [List.length_append, be_length, Array.length_toList]; omega)
  go_wp2_with (fail)
  (with_reducible refine U.out.mono ?_)
  clear U
  rintro e w2 ⟨rfl, h1, h2⟩
  have P2 := Lib.hid (P1.out.put h1 h2)
  clear h1 h2
  have a212 := cellAt (i := 12) (v := .int .i64 x12) P2.out.hX rfl
  have a213 := cellAt (i := 13) (v := .int .i64 x13) P2.out.hX rfl
  obtain ⟨V, hV⟩ : ∃ V, V = w2.alloc (.cells #[.int .i64 x12, .int .i64 x13] 3) := ⟨_, rfl⟩
  have FT : Hid (Calls Try.prog 41 #[.slice (some ⟨w2.heap.size, 0, none⟩) 2 2] V fun e w' => e = .returned (.bool (fits x12 && fits x13)) ∧ w' = V) := fit_two w2.heap.size x12 x13 V (by rw [hV]; exact cellAt (alloc_new _ _) rfl) (by rw [hV]; exact cellAt (alloc_new _ _) rfl)
  have P9 : Hid (PSt b X #[.int .i64 x0, .string x1, .int .i64 x2, .string x3, .float .f64 x4, .int .i64 x5, .bool x6, .bool x7, .int .u32 x8, .bool x9, .int .i64 x10, .int .i64 x11, .int .i64 x12, .int .i64 x13] 47 w ((l ++ be (u64 x12) 2) ++ be (u64 x13) 2) V) := by show PSt _ _ _ _ _ _ _; rw [hV]; exact P2.out.below ((Below.refl _ _).alloc (Nat.le_refl _) _)
  go_wp2_with (fail)
  rw [← hV]
  clear hV
  (with_reducible refine FT.out.mono ?_)
  clear FT
  rintro e v ⟨rfl, hv⟩
  replace hv := hv.symm
  subst hv
  go_wp2_with (fail)
  go_ret
  have q := P9.out.wr
  try simp only [List.append_assoc] at q
  exact ⟨rfl, q, P9.out.kp⟩
set_option maxHeartbeats 4000000 in
theorem mod1_any (b : Nat) (x0 : Int) (x1 : ByteArray) (x2 : Int) (x3 : ByteArray) (x4 : Nat) (x5 : Int) (x6 : Bool) (x7 : Bool) (x8 : Nat) (x9 : Bool) (x10 : Int) (x11 : Int) (x12 : Int) (x13 : Int) (l : List UInt8) (w : World) (h : IsW b l w) (hlen : l.length ≤ 800000000) (h8 : x8 < 4294967296) (i5 : inI x5) (i10 : inI x10) (i11 : inI x11) : Calls Try.prog 55 #[.pointer (some ⟨b, 0, none⟩), .agg #[.int .i64 x0, .string x1, .int .i64 x2, .string x3, .float .f64 x4, .int .i64 x5, .bool x6, .bool x7, .int .u32 (x8 : Nat), .bool x9, .int .i64 x10, .int .i64 x11, .int .i64 x12, .int .i64 x13]] w fun e w' => e = .returned (.bool (byte3 x5 x10 x11)) ∧ IsW b (l ++ tunB x5 x6 x7 x8 x9 x10 x11) w' ∧ Keeps b w w' := by
  have S0 := PSt.start h #[.int .i64 x0, .string x1, .int .i64 x2, .string x3, .float .f64 x4, .int .i64 x5, .bool x6, .bool x7, .int .u32 (x8 : Nat), .bool x9, .int .i64 x10, .int .i64 x11, .int .i64 x12, .int .i64 x13] 47
  obtain ⟨X, hX⟩ : ∃ X, X = w.heap.size := ⟨_, rfl⟩
  obtain ⟨W, hW⟩ : ∃ W, W = w.alloc (.cells #[.int .i64 x0, .string x1, .int .i64 x2, .string x3, .float .f64 x4, .int .i64 x5, .bool x6, .bool x7, .int .u32 (x8 : Nat), .bool x9, .int .i64 x10, .int .i64 x11, .int .i64 x12, .int .i64 x13] 47) := ⟨_, rfl⟩
  rw [← hX, ← hW] at S0
  have P0 := Lib.hid S0
  have HL := Lib.hid hlen
  have a05 := cellAt (i := 5) (v := (.int .i64 x5)) S0.hX rfl
  have a06 := cellAt (i := 6) (v := (.bool x6)) S0.hX rfl
  have a07 := cellAt (i := 7) (v := (.bool x7)) S0.hX rfl
  have a08 := cellAt (i := 8) (v := (.int .u32 (x8 : Nat))) S0.hX rfl
  have a09 := cellAt (i := 9) (v := (.bool x9)) S0.hX rfl
  have a010 := cellAt (i := 10) (v := (.int .i64 x10)) S0.hX rfl
  have a011 := cellAt (i := 11) (v := (.int .i64 x11)) S0.hX rfl
  have TN : Hid (Calls Try.prog 37 #[.pointer (some ⟨b, 0, none⟩), .agg #[.int .i64 x5, .bool x6, .bool x7, .int .u32 (x8 : Nat), .bool x9, .int .i64 x10, .int .i64 x11]] W fun e w' => e = .returned (.bool (byte3 x5 x10 x11)) ∧ IsW b (l ++ tunB x5 x6 x7 x8 x9 x10 x11) w' ∧ Keeps b W w') := ptun_any b x5 x6 x7 x8 x9 x10 x11 l W S0.wr (by omega) h8 i5 i10 i11
  clear h8 i5 i10 i11
  clear h S0 hlen
  go_enter Try.func55, Try.ntmps55
  go_upto_region 1 with (fail)
  rw [← hW, ← hX]
  clear hW hX
  go_wp2_with (fail)
  (with_reducible refine TN.out.mono ?_)
  clear TN
  rintro e w1 ⟨rfl, h1, h2⟩
  have P1 := Lib.hid (P0.out.put h1 h2)
  clear h1 h2
  go_wp2_with (fail)
  go_ret
  exact ⟨rfl, P1.out.wr, P1.out.kp⟩
set_option maxHeartbeats 4000000 in
theorem non1_any (b : Nat) (x0 : Int) (x1 : ByteArray) (x2 : Int) (x3 : ByteArray) (x4 : Nat) (x5 : Int) (x6 : Bool) (x7 : Bool) (x8 : Int) (x9 : Bool) (x10 : Int) (x11 : Int) (x12 : Int) (x13 : Int) (l : List UInt8) (w : World) (h : IsW b l w) (hlen : l.length ≤ 800000000) : Calls Try.prog 58 #[.pointer (some ⟨b, 0, none⟩), .agg #[.int .i64 x0, .string x1, .int .i64 x2, .string x3, .float .f64 x4, .int .i64 x5, .bool x6, .bool x7, .int .u32 x8, .bool x9, .int .i64 x10, .int .i64 x11, .int .i64 x12, .int .i64 x13]] w fun e w' => e = .returned (.bool true) ∧ IsW b (l ++ ([] : List UInt8)) w' ∧ Keeps b w w' := by
  have S0 := PSt.start h #[.int .i64 x0, .string x1, .int .i64 x2, .string x3, .float .f64 x4, .int .i64 x5, .bool x6, .bool x7, .int .u32 x8, .bool x9, .int .i64 x10, .int .i64 x11, .int .i64 x12, .int .i64 x13] 47
  obtain ⟨X, hX⟩ : ∃ X, X = w.heap.size := ⟨_, rfl⟩
  obtain ⟨W, hW⟩ : ∃ W, W = w.alloc (.cells #[.int .i64 x0, .string x1, .int .i64 x2, .string x3, .float .f64 x4, .int .i64 x5, .bool x6, .bool x7, .int .u32 x8, .bool x9, .int .i64 x10, .int .i64 x11, .int .i64 x12, .int .i64 x13] 47) := ⟨_, rfl⟩
  rw [← hX, ← hW] at S0
  have P0 := Lib.hid S0
  have HL := Lib.hid hlen
  clear h S0 hlen
  go_enter Try.func58, Try.ntmps58
  go_upto_region 1 with (fail)
  rw [← hW, ← hX]
  clear hW hX
  go_wp2_with (fail)
  go_ret
  exact ⟨rfl, by rw [List.append_nil]; exact P0.out.wr, P0.out.kp⟩
set_option maxHeartbeats 4000000 in
theorem add1_any (b : Nat) (x0 : Int) (x1 : ByteArray) (x2 : Int) (x3 : ByteArray) (x4 : Nat) (x5 : Int) (x6 : Bool) (x7 : Bool) (x8 : Int) (x9 : Bool) (x10 : Int) (x11 : Int) (x12 : Int) (x13 : Int) (l : List UInt8) (w : World) (h : IsW b l w) (hlen : l.length ≤ 800000000) (hs : x3.size ≤ 1000000) (h4 : x4 < 18446744073709551616) : Calls Try.prog 71 #[.pointer (some ⟨b, 0, none⟩), .agg #[.int .i64 x0, .string x1, .int .i64 x2, .string x3, .float .f64 x4, .int .i64 x5, .bool x6, .bool x7, .int .u32 x8, .bool x9, .int .i64 x10, .int .i64 x11, .int .i64 x12, .int .i64 x13]] w fun e w' => e = .returned (.bool (fits x2 && (x3.size == 4))) ∧ IsW b (l ++ (be (u64 x2) 2 ++ (x3.data.toList ++ be x4 8))) w' ∧ Keeps b w w' := by
  obtain ⟨W0, hW0⟩ : ∃ W, W = w.alloc (.cells #[.int .i64 x0, .string x1, .int .i64 x2, .string x3, .float .f64 x4, .int .i64 x5, .bool x6, .bool x7, .int .u32 x8, .bool x9, .int .i64 x10, .int .i64 x11, .int .i64 x12, .int .i64 x13] 47) := ⟨_, rfl⟩
  have b0 : Below w.heap.size w W0 := by rw [hW0]; exact (Below.refl _ _).alloc (Nat.le_refl _) _
  have hw0 : W0.heap.size = w.heap.size + 1 := by rw [hW0]; simp
  have S0 := PSt.start (h.keep b0) #[.int .i64 x2, .string x3, .float .f64 x4] 45
  have K0 := Lib.hid (Keeps.of_below b0 h.lt)
  have gA : W0.heap[w.heap.size]? = some (.cells #[.int .i64 x0, .string x1, .int .i64 x2, .string x3, .float .f64 x4, .int .i64 x5, .bool x6, .bool x7, .int .u32 x8, .bool x9, .int .i64 x10, .int .i64 x11, .int .i64 x12, .int .i64 x13] 47 (0, 0)) := by rw [hW0]; exact alloc_new _ _
  obtain ⟨A, hA⟩ : ∃ X, X = w.heap.size := ⟨_, rfl⟩
  obtain ⟨X, hX⟩ : ∃ X, X = W0.heap.size := ⟨_, rfl⟩
  obtain ⟨W, hW⟩ : ∃ W, W = W0.alloc (.cells #[.int .i64 x2, .string x3, .float .f64 x4] 45) := ⟨_, rfl⟩
  rw [← hX, ← hW] at S0
  rw [← hA] at gA
  have P0 := Lib.hid S0
  have HL := Lib.hid hlen
  have HS := Lib.hid hs
  have H4 := Lib.hid h4
  have sf := store_float
  have br := bits_run
  have c2 := cellAt (i := 2) (v := .int .i64 x2) gA rfl
  have c3 := cellAt (i := 3) (v := .string x3) gA rfl
  have c4 := cellAt (i := 4) (v := .float .f64 x4) gA rfl
  have a00 := cellAt (i := 0) (v := .int .i64 x2) S0.hX rfl
  have HX := Lib.hid hX
  have hX2 : X = w.heap.size + 1 := by rw [hX, hw0]
  have HX2 := Lib.hid hX2
  clear h S0 hlen hs h4 gA b0 hX hX2 hw0
  go_enter Try.func71, Try.ntmps71
  go_upto_region 1 with (fail)
  rw [← hW0, ← hA]
  clear hW0 hA
  go_upto_region 2 with (fail)
  rw [← HX.out, ← hW]
  clear hW HX HX2
  have U : Hid (Calls Try.prog 39 #[.pointer (some ⟨b, 0, none⟩), .int .i64 x2] W fun e w' => e = .returned (.tuple #[]) ∧ IsW b (l ++ be (u64 x2) 2) w' ∧ Keeps b W w') := w16_z b x2 l W P0.out.wr (by have := HL.out; omega)
  go_wp2_with (fail)
  (with_reducible refine U.out.mono ?_)
  clear U
  rintro e w1 ⟨rfl, h1, h2⟩
  have P1 := Lib.hid (P0.out.put h1 h2)
  clear h1 h2
  have a11 := cellAt (i := 1) (v := .string x3) P1.out.hX rfl
  have U : Hid (Calls Try.prog 38 #[.pointer (some ⟨b, 0, none⟩), .string x3] w1 fun e w' => e = .returned (.tuple #[]) ∧ IsW b ((l ++ be (u64 x2) 2) ++ x3.data.toList) w' ∧ Keeps b w1 w') := text_k b _ x3 w1 P1.out.wr (by have := HL.out; simp only [List.length_append, be_length, Array.length_toList]; omega) (by have := HS.out; omega)
  go_wp2_with (fail)
  (with_reducible refine U.out.mono ?_)
  clear U
  rintro e w2 ⟨rfl, h1, h2⟩
  have P2 := Lib.hid (P1.out.put h1 h2)
  clear h1 h2
  have a22 := cellAt (i := 2) (v := .float .f64 x4) P2.out.hX rfl
  have U : Hid (Calls Try.prog 72 #[.pointer (some ⟨b, 0, none⟩), .int .u64 (x4 : Nat)] w2 fun e w' => e = .returned (.tuple #[]) ∧ IsW b (((l ++ be (u64 x2) 2) ++ x3.data.toList) ++ be x4 8) w' ∧ Keeps b w2 w') := w64_k b x4 _ w2 H4.out P2.out.wr (by have := HL.out; have := HS.out; have e : x3.data.toList.length = x3.size := (by simp); simp only [List.length_append, be_length, e]; omega)
  go_wp2_with (fail)
  (with_reducible refine U.out.mono ?_)
  clear U
  rintro e w3 ⟨rfl, h1, h2⟩
  have P3 := Lib.hid (P2.out.put h1 h2)
  clear h1 h2
  have a30 := cellAt (i := 0) (v := .int .i64 x2) P3.out.hX rfl
  have a31 := cellAt (i := 1) (v := .string x3) P3.out.hX rfl
  obtain ⟨V, hV⟩ : ∃ V, V = w3.alloc (.cells #[.int .i64 x2] 3) := ⟨_, rfl⟩
  have FT : Hid (Calls Try.prog 41 #[.slice (some ⟨w3.heap.size, 0, none⟩) 1 1] V fun e w' => e = .returned (.bool (fits x2)) ∧ w' = V) := fit_one w3.heap.size x2 V (by rw [hV]; exact cellAt (alloc_new _ _) rfl)
  have P9 : Hid (PSt b X #[.int .i64 x2, .string x3, .float .f64 x4] 45 W0 (((l ++ be (u64 x2) 2) ++ x3.data.toList) ++ be x4 8) V) := by show PSt _ _ _ _ _ _ _; rw [hV]; exact P3.out.below ((Below.refl _ _).alloc (Nat.le_refl _) _)
  have a91 := cellAt (i := 1) (v := .string x3) P9.out.hX rfl
  obtain ⟨F, hF⟩ : ∃ F, F = fits x2 := ⟨_, rfl⟩
  rw [← hF] at FT
  have HF := Lib.hid hF
  clear hF
  obtain ⟨G, hG⟩ : ∃ G, G = (x3.size == 4) := ⟨_, rfl⟩
  have g4 : ((x3.size : Int) == 4) = G := by rw [hG, Bool.eq_iff_iff]; simp; omega
  have HG := Lib.hid hG
  clear hG
  go_wp2_with (fail)
  rw [← hV]
  clear hV
  (with_reducible refine FT.out.mono ?_)
  clear FT
  rintro e v ⟨rfl, hv⟩
  replace hv := hv.symm
  subst hv
  have q := P9.out.wr
  simp only [List.append_assoc] at q
  have Q := Lib.hid q
  clear q
  cases F with
  | true =>
    go_wp2_with (fail)
    go_ret
    exact ⟨by rw [← HF.out, ← HG.out]; rfl, Q.out, K0.out.trans P9.out.kp⟩
  | false =>
    go_wp2_with (fail)
    go_ret
    exact ⟨by rw [← HF.out, ← HG.out]; rfl, Q.out, K0.out.trans P9.out.kp⟩
end Go.Proofs.Ytmijfhfjhbckdaa
