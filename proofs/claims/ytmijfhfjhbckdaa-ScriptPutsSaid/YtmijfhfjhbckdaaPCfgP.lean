import Derived.Test.YtmijfhfjhbckdaaPCfg
/- A configuration that was put is read as it was. -/
namespace Go.Proofs.Ytmijfhfjhbckdaa
set_option maxRecDepth 100000
open Go.RowKit
theorem cfgR_ok {ok : Bool} {l : List UInt8} : (∃ S, cfgR ok l = .tuple #[.string S, .int .i64 0]) → ok = true := by
  rintro ⟨S, h⟩
  cases ok
  · simp [cfgR] at h
  · rfl
theorem byte2_nat {a b : Int} (h : byte2 a b = true) : (∃ n : Nat, a = n ∧ n < 256 ∧ u64 a = n) ∧ (∃ n : Nat, b = n ∧ n < 256 ∧ u64 b = n) := by
  unfold byte2 at h
  have h := of_decide_eq_true h
  exact ⟨⟨a.toNat, by omega, by omega, by unfold u64; omega⟩, ⟨b.toNat, by omega, by omega, by unfold u64; omega⟩⟩
theorem cfg_back (y0 : ByteArray) (y1 : Int) (y2 y3 : Bool) (y4 : Nat) (y5 : Bool) (y6 y7 y8 : Int) (z0 z1 z2 : Int) (h4 : y4 < 4294967296) (h : cfgOk y0 y1 y2 y3 y4 y5 y6 y7 y8 z0 z1 z2 = true) (more : List UInt8) :
    20 ≤ (cfgB y0 y1 y2 y3 y4 y5 y6 y7 y8 z0 z1 z2 ++ more).length ∧ cfgC (cfgP (cfgB y0 y1 y2 y3 y4 y5 y6 y7 y8 z0 z1 z2 ++ more)) = #[.string y0, .int .i64 y1, .bool y2, .bool y3, .int .u32 (y4 : Nat), .bool y5, .int .i64 y6, .int .i64 y7, .int .i64 y8] ∧
    stoC (cfgP (cfgB y0 y1 y2 y3 y4 y5 y6 y7 y8 z0 z1 z2 ++ more)) = #[.int .i64 z0, .int .i64 z1, .int .i64 z2] ∧ (cfgB y0 y1 y2 y3 y4 y5 y6 y7 y8 z0 z1 z2 ++ more).drop 20 = more := by
  unfold cfgOk at h
  simp only [Bool.and_eq_true, beq_iff_eq] at h
  obtain ⟨h1, h2, h3, h5, h6⟩ := h
  have h6 := of_decide_eq_true h6
  obtain ⟨⟨M, rfl, hM, hMu⟩, ⟨T, rfl, hT, hTu⟩, ⟨Z, rfl, hZ, hZu⟩⟩ := byte3_nat h1
  obtain ⟨N, rfl, hN, hNu⟩ := fits_nat h3
  obtain ⟨⟨E0, rfl, hE, hEu⟩, ⟨L0, rfl, hL, hLu⟩⟩ := byte2_nat h5
  have hu : u32 z1 = z1.toNat := by unfold u32; omega
  have hz1 : (z1.toNat : Int) = z1 := by omega
  have ha : y0.data.toList.length = 4 := by have : y0.data.toList.length = y0.size := by simp
                                            rw [this]; exact h2
  have e : cfgB y0 (M : Int) y2 y3 y4 y5 (T : Int) (Z : Int) (N : Int) (E0 : Int) z1 (L0 : Int) ++ more = tunB (M : Int) y2 y3 y4 y5 (T : Int) (Z : Int) ++ (y0.data.toList ++ (be N 2 ++ (be E0 1 ++ (be z1.toNat 4 ++ (be L0 1 ++ more))))) := by
    unfold cfgB
    rw [hNu, hEu, hLu, hu]
    simp only [List.append_assoc]
  have htp := tunP_put (B1 := y2) (B2 := y3) (va := y4) (B4 := y5) hMu hTu hZu hM hT hZ h4 (y0.data.toList ++ (be N 2 ++ (be E0 1 ++ (be z1.toNat 4 ++ (be L0 1 ++ more)))))
  rw [e]
  generalize hX : tunB (M : Int) y2 y3 y4 y5 (T : Int) (Z : Int) ++ (y0.data.toList ++ (be N 2 ++ (be E0 1 ++ (be z1.toNat 4 ++ (be L0 1 ++ more))))) = X at *
  have d8 : X.drop 8 = y0.data.toList ++ (be N 2 ++ (be E0 1 ++ (be z1.toNat 4 ++ (be L0 1 ++ more)))) := by rw [← hX]; exact drop_app (tunB_length _ _ _ _ _ _ _) _
  have d12 : X.drop 12 = be N 2 ++ (be E0 1 ++ (be z1.toNat 4 ++ (be L0 1 ++ more))) := by rw [show X.drop 12 = (X.drop 8).drop 4 by rw [List.drop_drop], d8]; exact drop_app ha _
  have d14 : X.drop 14 = be E0 1 ++ (be z1.toNat 4 ++ (be L0 1 ++ more)) := by rw [show X.drop 14 = (X.drop 12).drop 2 by rw [List.drop_drop], d12]; exact drop_app (be_length _ _) _
  have d15 : X.drop 15 = be z1.toNat 4 ++ (be L0 1 ++ more) := by rw [show X.drop 15 = (X.drop 14).drop 1 by rw [List.drop_drop], d14]; exact drop_app (be_length _ _) _
  have d19 : X.drop 19 = be L0 1 ++ more := by rw [show X.drop 19 = (X.drop 15).drop 4 by rw [List.drop_drop], d15]; exact drop_app (be_length _ _) _
  have d20 : X.drop 20 = more := by rw [show X.drop 20 = (X.drop 19).drop 1 by rw [List.drop_drop], d19]; exact drop_app (be_length _ _) _
  have hl : 20 ≤ X.length := by rw [← hX]; simp only [List.length_append, tunB_length, be_length, ha]; omega
  obtain ⟨b1, b2, b4⟩ := tbits_bits y2 y3 y5
  have hcp : cfgP X = ⟨y0.data.toList, ⟨M, tbits y2 y3 y5, y4, T, Z⟩, N, E0, z1.toNat, L0⟩ := by
    unfold cfgP
    rw [d8, d12, d14, d15, d19, htp, take_app ha, take_app (be_length _ _), take_app (be_length _ _), take_app (be_length _ _), take_app (be_length _ _), bv_be' (by omega), bv_be' (by omega), bv_be' (by omega), bv_be' (by omega)]
  refine ⟨hl, ?_, ?_, d20⟩
  · rw [hcp]
    unfold cfgC
    simp only [b1, b2, b4, bs_of]
  · rw [hcp]
    unfold stoC
    simp only [hz1]
end Go.Proofs.Ytmijfhfjhbckdaa
