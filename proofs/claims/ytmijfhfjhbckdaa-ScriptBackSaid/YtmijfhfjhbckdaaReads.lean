import Derived.Test.YtmijfhfjhbckdaaAwake
/- ScriptReads, walked. -/
namespace Go.Proofs.Ytmijfhfjhbckdaa
set_option maxRecDepth 100000
open Go.RowKit
theorem cfg_both (s : ByteArray) (hs : s.size ≤ MX) : ∃ (y0 : ByteArray) (y1 : Int) (y2 y3 : Bool) (y4 : Int) (y5 : Bool) (y6 y7 y8 : Int) (z0 z1 z2 : Int) (R : ByteArray) (c : Int), ∀ w, (Calls Try.prog 7 #[.string s] w fun e w' => e = .returned (.tuple #[.agg #[.string y0, .int .i64 y1, .bool y2, .bool y3, .int .u32 y4, .bool y5, .int .i64 y6, .int .i64 y7, .int .i64 y8], .agg #[.int .i64 z0, .int .i64 z1, .int .i64 z2], .string R, .int .i64 c]) ∧ Below w.heap.size w w') ∧
    (Calls Try.prog 8 #[.string s] w fun e w' => e = .returned (.tuple #[.agg #[.string y0, .int .i64 y1, .bool y2, .bool y3, .int .u32 y4, .bool y5, .int .i64 y6, .int .i64 y7, .int .i64 y8], .agg #[.int .i64 z0, .int .i64 z1, .int .i64 z2], .string R, .int .i64 c]) ∧ Below w.heap.size w w') := by
  by_cases h : s.data.toList.length < 20
  · refine ⟨⟨#[]⟩, 0, false, false, 0, false, 0, 0, 0, 0, 0, 0, ⟨#[]⟩, 2, fun w => ⟨(config_any s w hs).mono ?_, (rconfig_any s w hs).mono ?_⟩⟩
    · rintro e w' ⟨hb, ⟨_, rfl⟩ | ⟨h2, _⟩⟩
      · exact ⟨rfl, hb⟩
      · omega
    · rintro e w' ⟨hb, ⟨_, rfl⟩ | ⟨h2, _⟩⟩
      · exact ⟨rfl, hb⟩
      · omega
  · obtain ⟨q, hq⟩ : ∃ q, q = cfgP s.data.toList := ⟨_, rfl⟩
    refine ⟨bs q.self, (q.tun.mode : Nat), q.tun.bits % 2 == 1, q.tun.bits / 2 % 2 == 1, (q.tun.value : Nat), q.tun.bits / 4 % 2 == 1, (q.tun.ttl : Nat), (q.tun.tos : Nat), (q.mtu : Nat), (q.ents : Nat), (q.byts : Nat), (q.life : Nat), bs (s.data.toList.drop 20), 0, fun w => ⟨(config_any s w hs).mono ?_, (rconfig_any s w hs).mono ?_⟩⟩
    · rintro e w' ⟨hb, ⟨h2, _⟩ | ⟨_, rfl⟩⟩
      · omega
      · exact ⟨by rw [← hq]; rfl, hb⟩
    · rintro e w' ⟨hb, ⟨h2, _⟩ | ⟨_, rfl⟩⟩
      · omega
      · exact ⟨by rw [← hq]; rfl, hb⟩
theorem eqr27 (y0 : ByteArray) (y1 : Int) (y2 y3 : Bool) (y4 : Int) (y5 : Bool) (y6 y7 y8 : Int) (W : World) : (binOp .eql 27 (.agg #[.string y0, .int .i64 y1, .bool y2, .bool y3, .int .u32 y4, .bool y5, .int .i64 y6, .int .i64 y7, .int .i64 y8]) (.agg #[.string y0, .int .i64 y1, .bool y2, .bool y3, .int .u32 y4, .bool y5, .int .i64 y6, .int .i64 y7, .int .i64 y8])).run Try.prog W = .ok (.bool true) W := by
  rw [eql27 y0 y1 y2 y3 y4 y5 y6 y7 y8 y0 y1 y2 y3 y4 y5 y6 y7 y8 W]; simp
theorem eqr29 (z0 z1 z2 : Int) (W : World) : (binOp .eql 29 (.agg #[.int .i64 z0, .int .i64 z1, .int .i64 z2]) (.agg #[.int .i64 z0, .int .i64 z1, .int .i64 z2])).run Try.prog W = .ok (.bool true) W := by
  rw [eql29 z0 z1 z2 z0 z1 z2 W]; simp
/-- a configuration and a store, laid in two blocks -/
structure Two (A B : Nat) (C S : Array Value) (w V : World) : Prop where
  hA : V.heap[A]? = some (.cells C 27 (0, 0))
  hB : V.heap[B]? = some (.cells S 29 (0, 0))
  bl : Below w.heap.size w V
theorem Two.below {A B : Nat} {C S : Array Value} {w V W : World} (h : Two A B C S w V) (hb : Below V.heap.size V W) : Two A B C S w W := ⟨(hb.block _ (heap_lt h.hA)).trans h.hA, (hb.block _ (heap_lt h.hB)).trans h.hB, h.bl.trans (hb.mono h.bl.size)⟩
theorem Two.lay {C S : Array Value} {w V : World} (h : Below w.heap.size w V) : Two V.heap.size (V.heap.size + 1) C S w ((V.alloc (.cells C 27)).alloc (.cells S 29)) := ⟨heap_alloc2_old _ _ _, heap_alloc2_new _ _ _, (h.alloc h.size _).alloc (by have := h.size; simp; omega) _⟩
set_option maxHeartbeats 8000000 in
theorem reads_walk (s : ByteArray) (w : World) (hs : s.size ≤ MX) : Calls Try.prog 3 #[.string s] w fun e w' => e = .returned (.bool true) ∧ Below w.heap.size w w' := by
  have AW := Lib.hid awake_any
  by_cases h7 : s.size ≤ 70000
  · obtain ⟨y0, y1, y2, y3, y4, y5, y6, y7, y8, z0, z1, z2, R, c, hcf⟩ := cfg_both s hs
    have CF := Lib.hid hcf
    have EN := Lib.hid (fun w => entries_any s w (by omega))
    have RE := Lib.hid (fun w => rentries_any s w (by omega))
    obtain ⟨F, hF⟩ : ∃ F, F = entP s.data.toList.length s.data.toList := ⟨_, rfl⟩
    rw [← hF] at EN RE
    have hFl : F.length ≤ 1000000 := by
      rw [hF]
      have : ∀ n (l : List UInt8), (entP n l).length ≤ n + 1 := by
        intro n
        induction n with
        | zero => intro l; simp [entP]
        | succ n ih =>
          intro l
          cases l with
          | nil => simp [entP]
          | cons k l =>
            rw [entP]
            by_cases hk : 11 ≤ k.toNat
            · rw [if_pos hk, List.length_cons]; have := ih l; omega
            · rw [if_neg hk]
              cases getP k.toNat l with
              | none => simp
              | some br => simp only [List.length_cons]; have := ih br.2; omega
      have h1 := this s.data.toList.length s.data.toList
      have h2 : s.data.toList.length = s.size := by simp
      omega
    have FL := Lib.hid hFl
    have e27 := fun W => eqr27 y0 y1 y2 y3 y4 y5 y6 y7 y8 W
    have e29 := fun W => eqr29 z0 z1 z2 W
    have g27 := guard27
    have g29 := guard29
    have h7' : ¬ (s.size : Int) > 70000 := by omega
    have h7d : decide ((70000 : Int) < (s.size : Int)) = false := decide_eq_false (by omega)
    have h7n : decide (70000 < s.size) = false := decide_eq_false (by omega)
    clear hcf hF hFl hs
    go_enter Try.func3, Try.ntmps3
    go_wp2_with (go_at_call 6; (with_reducible refine (AW.out _).mono ?_); rintro e w1 ⟨rfl, hb1⟩)
    (with_reducible refine (CF.out _).1.mono ?_)
    rintro e w2 ⟨rfl, hb2⟩
    have T2 := Lib.hid (Two.lay (C := #[.string y0, .int .i64 y1, .bool y2, .bool y3, .int .u32 y4, .bool y5, .int .i64 y6, .int .i64 y7, .int .i64 y8]) (S := #[.int .i64 z0, .int .i64 z1, .int .i64 z2]) (hb1.trans (hb2.mono hb1.size)))
    obtain ⟨A, hA⟩ : ∃ A, A = w2.heap.size := ⟨_, rfl⟩
    obtain ⟨B, hB⟩ : ∃ B, B = w2.heap.size + 1 := ⟨_, rfl⟩
    obtain ⟨W2, hW2⟩ : ∃ V, V = (w2.alloc (.cells #[.string y0, .int .i64 y1, .bool y2, .bool y3, .int .u32 y4, .bool y5, .int .i64 y6, .int .i64 y7, .int .i64 y8] 27)).alloc (.cells #[.int .i64 z0, .int .i64 z1, .int .i64 z2] 29) := ⟨_, rfl⟩
    rw [← hB, ← hA, ← hW2] at T2
    go_upto_region 6 with (fail)
    rw [← hW2, ← hB, ← hA]
    clear hW2 hB hA hb1 hb2
    go_wp2_with (fail)
    (with_reducible refine (CF.out _).2.mono ?_)
    rintro e w3 ⟨rfl, hb3⟩
    have T3 := Lib.hid (T2.out.below hb3)
    have U3 := Lib.hid (Two.lay (C := #[.string y0, .int .i64 y1, .bool y2, .bool y3, .int .u32 y4, .bool y5, .int .i64 y6, .int .i64 y7, .int .i64 y8]) (S := #[.int .i64 z0, .int .i64 z1, .int .i64 z2]) T3.out.bl)
    obtain ⟨G, hG⟩ : ∃ A, A = w3.heap.size := ⟨_, rfl⟩
    obtain ⟨H, hH⟩ : ∃ B, B = w3.heap.size + 1 := ⟨_, rfl⟩
    obtain ⟨W3, hW3⟩ : ∃ V, V = (w3.alloc (.cells #[.string y0, .int .i64 y1, .bool y2, .bool y3, .int .u32 y4, .bool y5, .int .i64 y6, .int .i64 y7, .int .i64 y8] 27)).alloc (.cells #[.int .i64 z0, .int .i64 z1, .int .i64 z2] 29) := ⟨_, rfl⟩
    have T4 : Hid (Two A B #[.string y0, .int .i64 y1, .bool y2, .bool y3, .int .u32 y4, .bool y5, .int .i64 y6, .int .i64 y7, .int .i64 y8] #[.int .i64 z0, .int .i64 z1, .int .i64 z2] w W3) := by show Two _ _ _ _ _ _; rw [hW3]; exact T3.out.below (((Below.refl _ _).alloc (Nat.le_refl _) _).alloc (by simp) _)
    rw [← hH, ← hG, ← hW3] at U3
    go_upto_region 7 with (fail)
    rw [← hW3, ← hH, ← hG]
    clear hW3 hH hG hb3 T2 T3
    go_wp2_with (fail)
    (with_reducible refine (EN.out _).mono ?_)
    rintro e w4 ⟨v4, rfl, st4⟩
    go_wp2_with (fail)
    (with_reducible refine (RE.out _).mono ?_)
    rintro e w5 ⟨v5, rfl, st5⟩
    have CM := Lib.hid (cmp_any v4 v5 F w5 (st4.lies.below st5.bel) st5.lies FL.out)
    go_wp2_with (fail)
    (with_reducible refine CM.out.mono ?_)
    rintro e w6 ⟨rfl, hb6⟩
    have T6 : Two A B #[.string y0, .int .i64 y1, .bool y2, .bool y3, .int .u32 y4, .bool y5, .int .i64 y6, .int .i64 y7, .int .i64 y8] #[.int .i64 z0, .int .i64 z1, .int .i64 z2] w w6 := ((T4.out.below st4.bel).below st5.bel).below hb6
    have U6 : Two G H #[.string y0, .int .i64 y1, .bool y2, .bool y3, .int .u32 y4, .bool y5, .int .i64 y6, .int .i64 y7, .int .i64 y8] #[.int .i64 z0, .int .i64 z1, .int .i64 z2] w w6 := ((U3.out.below st4.bel).below st5.bel).below hb6
    have a0 := cellAt (i := 0) (v := .string y0) T6.hA rfl
    have a1 := cellAt (i := 1) (v := .int .i64 y1) T6.hA rfl
    have a2 := cellAt (i := 2) (v := .bool y2) T6.hA rfl
    have a3 := cellAt (i := 3) (v := .bool y3) T6.hA rfl
    have a4 := cellAt (i := 4) (v := .int .u32 y4) T6.hA rfl
    have a5 := cellAt (i := 5) (v := .bool y5) T6.hA rfl
    have a6 := cellAt (i := 6) (v := .int .i64 y6) T6.hA rfl
    have a7 := cellAt (i := 7) (v := .int .i64 y7) T6.hA rfl
    have a8 := cellAt (i := 8) (v := .int .i64 y8) T6.hA rfl
    have b0 := cellAt (i := 0) (v := .int .i64 z0) T6.hB rfl
    have b1 := cellAt (i := 1) (v := .int .i64 z1) T6.hB rfl
    have b2 := cellAt (i := 2) (v := .int .i64 z2) T6.hB rfl
    have g0 := cellAt (i := 0) (v := .string y0) U6.hA rfl
    have g1 := cellAt (i := 1) (v := .int .i64 y1) U6.hA rfl
    have g2 := cellAt (i := 2) (v := .bool y2) U6.hA rfl
    have g3 := cellAt (i := 3) (v := .bool y3) U6.hA rfl
    have g4 := cellAt (i := 4) (v := .int .u32 y4) U6.hA rfl
    have g5 := cellAt (i := 5) (v := .bool y5) U6.hA rfl
    have g6 := cellAt (i := 6) (v := .int .i64 y6) U6.hA rfl
    have g7 := cellAt (i := 7) (v := .int .i64 y7) U6.hA rfl
    have g8 := cellAt (i := 8) (v := .int .i64 y8) U6.hA rfl
    have h0 := cellAt (i := 0) (v := .int .i64 z0) U6.hB rfl
    have h1 := cellAt (i := 1) (v := .int .i64 z1) U6.hB rfl
    have h2 := cellAt (i := 2) (v := .int .i64 z2) U6.hB rfl
    have BL := Lib.hid T6.bl
    clear T6 U6 hb6 st4 st5 T4 U3 EN RE CF AW CM
    go_wp2_with (fail)
    go_ret
    exact ⟨rfl, BL.out⟩
  · have h7' : (s.size : Int) > 70000 := by omega
    have h7d : decide ((70000 : Int) < (s.size : Int)) = true := decide_eq_true (by omega)
    have h7n : decide (70000 < s.size) = true := decide_eq_true (by omega)
    go_enter Try.func3, Try.ntmps3
    go_wp2_with (go_at_call 6; (with_reducible refine (AW.out _).mono ?_); rintro e w1 ⟨rfl, hb1⟩)
    go_ret
    exact ⟨rfl, hb1⟩
theorem reads_law (w : World) (s : ByteArray) (hs : s.size ≤ maxLen) : Calls Try.prog 3 #[.string s] w fun e w' => e = .returned (.bool true) ∧ Below w.heap.size w w' := reads_walk s w (Nat.le_trans hs (by unfold maxLen MX; omega))
end Go.Proofs.Ytmijfhfjhbckdaa
