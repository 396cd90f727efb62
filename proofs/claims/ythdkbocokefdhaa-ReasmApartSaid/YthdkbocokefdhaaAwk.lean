import Derived.Test.YthdkbocokefdhaaAwp
import Derived.Test.YthdkbocokefdhaaCu
import Derived.Test.YthdkbocokefdhaaObs
import Derived.Test.YthdkbocokefdhaaAdd
/- awake. -/
namespace Go.Proofs.Ythdkbocokefdhaa
set_option maxRecDepth 100000
open Go.RowKit
theorem cell_lt {w : World} {a : Addr} {v : Value} (h : w.cell? a = some v) : a.block < w.heap.size := by
  unfold World.cell? at h
  cases hb : w.heap[a.block]? with
  | none => simp [hb] at h
  | some o => exact heap_lt hb
theorem new_roomy (w : World) : Calls Try.prog 11 #[.agg #[.int .i64 64, .int .i64 1048576, .int .i64 64]] w fun e w' => ∃ Tb M, e = .returned (.tuple #[.pointer (some ⟨Tb, 0, none⟩), .int .i64 0]) ∧ Tab (fun k => k < w.heap.size) Tb M ast (fun _ => 0) (fun _ => undef) [] w' ∧ Below w.heap.size w w' :=
  (new_any (fun k => k < w.heap.size) 64 1048576 64 w (fun k hk => hk)).mono (by
    rintro e w' ⟨hb, ⟨ho, _⟩ | ⟨_, Tb, M, he, hT⟩⟩
    · exact absurd ho (by decide)
    · exact ⟨Tb, M, he, hT _ _, hb⟩)
theorem add_at (F : Nat → Prop) (Tb M : Nat) (loc : Ky → Nat) (row : Ky → Value) (L L' : List En) (X : List UInt8) (r : List UInt8) (c : Nat) (w : World) (h : Tab F Tb M ast loc row L w) (hg : GoodT ast L) (hX : X.length ≤ 1000000) (h1 : (addT ast L X).1 = (r, c)) (h2 : (addT ast L X).2 = L') :
    Calls Try.prog 15 #[.pointer (some ⟨Tb, 0, none⟩), .string (bs X)] w fun e w' => e = .returned (.tuple #[.string (bs r), .int .i64 (c : Nat)]) ∧ (∃ loc row, Tab F Tb M ast loc row L' w') ∧ Kp F w w' :=
  (add_go F Tb M ast loc row L (bs X) w h hg ⟨by decide, by decide⟩ (by rw [bs_size]; omega)).mono (by
    rintro e w' ⟨he, hT, hk⟩
    rw [bs_list] at he hT
    rw [h1] at he
    rw [h2] at hT
    exact ⟨he, hT, hk⟩)
set_option maxHeartbeats 8000000 in
theorem awake_any (w : World) : Calls Try.prog 9 #[] w fun e w' => e = .returned (.bool true) ∧ Below w.heap.size w w' := by
  obtain ⟨P, hP⟩ : ∃ P, P = bs apl := ⟨_, rfl⟩
  obtain ⟨X0, hX0⟩ : ∃ P, P = bs ax0 := ⟨_, rfl⟩
  obtain ⟨X1, hX1⟩ : ∃ P, P = bs ax1 := ⟨_, rfl⟩
  have C0 : Hid (∀ V, Calls Try.prog 22 #[.agg #[.int .i64 0, .int .i64 0, .int .i64 0, .int .i64 0, .int .i64 0, .bool false, .bool false, .string ⟨#[97, 98, 99, 100]⟩, .string ⟨#[101, 102, 103, 104]⟩, .string ⟨#[]⟩], .string ⟨#[48, 49, 50, 51, 52, 53, 54, 55, 56, 57, 97, 98, 99, 100, 101, 102]⟩] V fun e w' => e = .returned (.tuple #[.string P, .int .i64 0]) ∧ Below V.heap.size V w') := Lib.hid (fun V => by
    have h1 := rput_any (ah 0 false) apay V ⟨by decide, by decide, by decide⟩ (by decide)
    rw [apl_ok] at h1
    rw [hP]; exact h1)
  have C1 : Hid (∀ V, Calls Try.prog 27 #[.string P, .int .i64 28] V fun e w' => ∃ v, e = .returned (.tuple #[v, .int .i64 0]) ∧ SRow V.heap.size v [X0, X1] w' ∧ Below V.heap.size V w') := Lib.hid (fun V => by
    rw [hP, hX0, hX1]
    exact cut2_any (bs apl) 0 0 0 0 [97, 98, 99, 100] [101, 102, 103, 104] apay ax0 ax1 V apl_get (by decide) (by rw [bs_size]; exact apl_len) ax0_ok ax1_ok ⟨by decide, by decide⟩)
  have C2 := Lib.hid (fun V => roomy_any V)
  have C3 := Lib.hid (fun V => new_roomy V)
  have HX0 := Lib.hid hX0
  have HX1 := Lib.hid hX1
  have HP := Lib.hid hP
  clear hP hX0 hX1
  go_enter Try.func9, Try.ntmps9
  go_upto_region 3 with (first | (go_at_call 22; (with_reducible refine (C0.out _).mono ?_); rintro e w1 ⟨rfl, hb1⟩) | (go_at_call 27; (with_reducible refine (C1.out _).mono ?_); rintro e w2 ⟨v, rfl, hrow, hb2⟩))
  obtain ⟨g, cap, rfl, hg0⟩ := hrow.at 0 (by show 0 < 2; omega)
  obtain ⟨g', cap', hv, hg1⟩ := hrow.at 1 (by show 1 < 2; omega)
  obtain rfl : g' = g := by injection hv with hv; injection hv with hv; injection hv with hv; exact hv.symm
  have HB2 : Hid (Below w.heap.size w w2) := Lib.hid (hb1.trans (hb2.mono hb1.size))
  have HG : Hid (w2.cell? ⟨g', 0, none⟩ = some (.string X0) ∧ w2.cell? ⟨g', 1, none⟩ = some (.string X1)) := Lib.hid ⟨hg0, hg1⟩
  clear hb1 hb2 hrow hg0 hg1 hv
  go_upto_region 4 with (first | (go_at_call 24; (with_reducible refine (C2.out _).mono ?_); rintro e w3 ⟨rfl, hb3⟩) | (go_at_call 11; (with_reducible refine (C3.out _).mono ?_); rintro e w4 ⟨Tb, M, rfl, hT, hb4⟩))
  have hlt3 : g' < w3.heap.size := Nat.lt_of_lt_of_le (cell_lt HG.out.1) hb3.size
  have HB4 : Hid (Below w.heap.size w w4) := Lib.hid ((HB2.out.trans (hb3.mono HB2.out.size)).trans (hb4.mono (HB2.out.trans (hb3.mono HB2.out.size)).size))
  obtain ⟨F, hF⟩ : ∃ F : Nat → Prop, F = fun k => k < w3.heap.size := ⟨_, rfl⟩
  rw [← hF] at hT
  have HFW : Hid (∀ k, k < w.heap.size → F k) := Lib.hid (by rw [hF]; intro k hk; exact Nat.lt_of_lt_of_le hk (HB2.out.trans (hb3.mono HB2.out.size)).size)
  have HFG : Hid (F g') := Lib.hid (by rw [hF]; exact hlt3)
  have HG4 : Hid (w4.cell? ⟨g', 0, none⟩ = some (.string X0) ∧ w4.cell? ⟨g', 1, none⟩ = some (.string X1)) := Lib.hid
    ⟨(hb4.cell (p := ⟨g', 0, none⟩) hlt3).trans ((hb3.cell (p := ⟨g', 0, none⟩) (cell_lt HG.out.1)).trans HG.out.1), (hb4.cell (p := ⟨g', 1, none⟩) hlt3).trans ((hb3.cell (p := ⟨g', 1, none⟩) (cell_lt HG.out.2)).trans HG.out.2)⟩
  obtain ⟨L1, hL1⟩ : ∃ L, L = (addT ast [] ax1).2 := ⟨_, rfl⟩
  obtain ⟨L2, hL2⟩ : ∃ L, L = (addT ast L1 ax0).2 := ⟨_, rfl⟩
  obtain ⟨L3, hL3⟩ : ∃ L, L = (addT ast L2 ax0).2 := ⟨_, rfl⟩
  have g1 : GoodT ast L1 := by rw [hL1]; exact addT_good (GoodT.nil _)
  have g2 : GoodT ast L2 := by rw [hL2]; exact addT_good g1
  have A1 : Hid (Calls Try.prog 15 #[.pointer (some ⟨Tb, 0, none⟩), .string X1] w4 fun e w' => e = .returned (.tuple #[.string ⟨#[]⟩, .int .i64 10]) ∧ (∃ loc row, Tab F Tb M ast loc row L1 w') ∧ Kp F w4 w') := Lib.hid (by
    rw [HX1.out]; exact add_at F Tb M _ _ [] L1 ax1 [] 10 w4 hT (GoodT.nil _) (by rw [ax1_len]; decide) add1 hL1.symm)
  have A2 : Hid (∀ V loc row, Tab F Tb M ast loc row L1 V → Calls Try.prog 15 #[.pointer (some ⟨Tb, 0, none⟩), .string X0] V fun e w' => e = .returned (.tuple #[.string P, .int .i64 0]) ∧ (∃ loc row, Tab F Tb M ast loc row L2 w') ∧ Kp F V w') := Lib.hid (fun V loc row h => by
    rw [HX0.out, HP.out]; exact add_at F Tb M loc row L1 L2 ax0 apl 0 V h g1 (by rw [ax0_len]; decide) (by rw [hL1]; exact add2) hL2.symm)
  have A3 : Hid (∀ V loc row, Tab F Tb M ast loc row L2 V → Calls Try.prog 15 #[.pointer (some ⟨Tb, 0, none⟩), .string X0] V fun e w' => e = .returned (.tuple #[.string ⟨#[]⟩, .int .i64 12]) ∧ (∃ loc row, Tab F Tb M ast loc row L3 w') ∧ Kp F V w') := Lib.hid (fun V loc row h => by
    rw [HX0.out]; exact add_at F Tb M loc row L2 L3 ax0 [] 12 V h g2 (by rw [ax0_len]; decide) (by rw [hL2, hL1]; exact add3) hL3.symm)
  clear hb3 hb4 hlt3 hT hF hL1 hL2 hL3 g1 g2
  have k1 := HG4.out.2
  have hPP : (P.data.toList == P.data.toList) = true := beq_self_eq_true _
  go_upto_region 7 with (go_at_call 15; (with_reducible refine (A1.out).mono ?_); rintro e w5 ⟨rfl, ⟨loc1, row1, hT1⟩, hk1⟩)
  have k0 : w5.cell? ⟨g', 0, none⟩ = some (.string X0) := by
    have := HG4.out.1
    unfold World.cell? at this ⊢
    rw [hk1.block _ HFG.out]; exact this
  have H1 := Lib.hid hT1
  have K1 := Lib.hid hk1
  clear hT1 hk1 k1
  go_upto_region 8 with (go_at_call 15; (with_reducible refine (A2.out _ _ _ H1.out).mono ?_); rintro e w6 ⟨rfl, ⟨loc2, row2, hT2⟩, hk2⟩)
  have k0b : w6.cell? ⟨g', 0, none⟩ = some (.string X0) := by
    have := k0
    unfold World.cell? at this ⊢
    rw [hk2.block _ HFG.out]; exact this
  have H2 := Lib.hid hT2
  have K2 := Lib.hid hk2
  clear hT2 hk2 k0
  go_upto_region 9 with (go_at_call 15; (with_reducible refine (A3.out _ _ _ H2.out).mono ?_); rintro e w7 ⟨rfl, ⟨loc3, row3, hT3⟩, hk3⟩)
  have HEND : Hid (Below w.heap.size w w7) := Lib.hid (HB4.out.trans (((K1.out.trans K2.out).trans hk3).below HFW.out))
  clear hT3 hk3 k0b
  go_wp2_with (fail)
  go_ret
  exact ⟨rfl, HEND.out⟩
end Go.Proofs.Ythdkbocokefdhaa
