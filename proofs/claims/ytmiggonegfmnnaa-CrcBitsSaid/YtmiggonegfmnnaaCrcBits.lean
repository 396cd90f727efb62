/- The law CrcBits returns true for every input. -/
import Derived.Test.YtmiggonegfmnnaaRows
import Derived.WalkKit
import Derived.ProofKit
import Derived.OpenShut
import Derived.ShutString
import Derived.Test.YtmiggonegfmnnaaBytes
namespace Go.Proofs.Ytmiggonegfmnnaa.crcBits
open Go.ChangeShapes Go.WideShapes Go.ChangeAt Go.RowKit
open Go.ChangeMaps (open_string shut_string)
set_option linter.unusedVariables false      -- a walk need not use every 'w<i>' (that an integer argument fits its kind)

theorem own : ownKnob Try.prog.godebug = none := by kernel_rfl

set_option maxRecDepth 100000 in
set_option maxHeartbeats 4000000 in
theorem walkIn (a0 : ByteArray) (p q r : Nat) (h0 : a0.size ≤ 500) (hA : p < 8 * a0.size) (hB : q < 8 * a0.size) (hC : r < 8 * a0.size) (w : World) :
    Calls Try.prog 4 #[.string a0, .int .i64 p, .int .i64 q, .int .i64 r] w fun e w' => e = .returned (.bool true) ∧ Below w.heap.size w w' := by
  have hlen : a0.data.toList.length = a0.size := by simp
  have hA' : (p : Int) < 8 * (a0.size : Int) := by omega
  have hB' : (q : Int) < 8 * (a0.size : Int) := by omega
  have hC' : (r : Int) < 8 * (a0.size : Int) := by omega
  by_cases hqp : q = p
  · subst hqp
    by_cases hrp : r = q
    · subst hrp
      go_enter Try.func4, Try.ntmps4
      go_wp2_with (go_at_call 7; refine (awake_any _).mono ?_; rintro e w2 ⟨rfl, hb1⟩; obtain ⟨W1, cap, hconv, hbv0, hrow0⟩ := conv_any w2 a0)
      obtain ⟨i1, j1, b1, c1, V1, hc1, hf1, ep1, eq1, ei1, ej1, el1, ex1, HV1, hrow1, hbe1⟩ := flip_facts hrow0 a0.size (by first | exact hlen | (simp only [Crc.flip_length]; exact hlen)) r (by omega)
      have hbv1 := hbe1 w2 (Nat.le_refl _) hbv0
      clear hbe1
      go_region
      all_goals rw [HV1.out]
      clear hc1 hf1 ep1 eq1 ei1 ej1 el1 ex1
      have hback := back_any hrow1 a0.size cap (by first | exact hlen | (simp only [Crc.flip_length]; exact hlen))
      have hne : Crc.sum (Crc.flip a0.data.toList r) ≠ Crc.sum a0.data.toList := Crc.flips1 _ r (by rw [hlen]; first | exact hC | omega)
      obtain ⟨y, hy⟩ : ∃ y : BitVec 32, y = Crc.sum (Crc.flip a0.data.toList r) := ⟨_, rfl⟩
      obtain ⟨z, hz⟩ : ∃ z : BitVec 32, z = Crc.sum a0.data.toList := ⟨_, rfl⟩
      have C1 : ∀ W b c, W.cell? ⟨b, 0, none⟩ = some (.string ⟨((Crc.flip a0.data.toList r)).toArray⟩) → Calls Try.prog 8 #[.slice (some ⟨b, 0, none⟩) 1 c] W fun e w' => e = .returned (.int .u32 y.toNat) ∧ Below W.heap.size W w' :=
        fun W b c h => by rw [hy]; exact sum_one _ b c W h (by show (List.toArray _).size ≤ _; rw [List.size_toArray]; simp only [Crc.flip_length]; omega)
      have C2 : ∀ W b c, W.cell? ⟨b, 0, none⟩ = some (.string a0) → Calls Try.prog 8 #[.slice (some ⟨b, 0, none⟩) 1 c] W fun e w' => e = .returned (.int .u32 z.toNat) ∧ Below W.heap.size W w' :=
        fun W b c h => by rw [hz]; exact sum_one a0 b c W h (by omega)
      have hyz : ((y.toNat : Int) != (z.toNat : Int)) = true := by
        rw [bne_iff_ne]; intro h; apply hne; rw [← hy, ← hz]; exact BitVec.eq_of_toNat_eq (by omega)
      obtain ⟨t, ht⟩ : ∃ t : ByteArray, t = ⟨((Crc.flip a0.data.toList r)).toArray⟩ := ⟨_, rfl⟩
      rw [← ht] at hback C1
      replace C1 := Lib.hid C1
      replace C2 := Lib.hid C2
      clear hy hz ht hne
      go_wp2_with (first | (go_at_call 8; (with_reducible refine (C1.out _ _ _ ?_).mono ?_); (focus (simp; done)); rintro e x1 ⟨rfl, hx1⟩) | (go_at_call 8; (with_reducible refine (C2.out _ _ _ ?_).mono ?_); (focus (simp; done)); rintro e x2 ⟨rfl, hx2⟩))
      go_ret
      refine ⟨rfl, ?_⟩
      have hlast := btr hb1 hbv1
      repeat (first | assumption | apply bal | refine btr ?_ (by assumption))
    · have hrp' : ((r : Int) != (q : Int)) = true := by rw [bne_iff_ne]; omega
      go_enter Try.func4, Try.ntmps4
      go_wp2_with (go_at_call 7; refine (awake_any _).mono ?_; rintro e w2 ⟨rfl, hb1⟩; obtain ⟨W1, cap, hconv, hbv0, hrow0⟩ := conv_any w2 a0)
      obtain ⟨i1, j1, b1, c1, V1, hc1, hf1, ep1, eq1, ei1, ej1, el1, ex1, HV1, hrow1, hbe1⟩ := flip_facts hrow0 a0.size (by first | exact hlen | (simp only [Crc.flip_length]; exact hlen)) q (by omega)
      have hbv1 := hbe1 w2 (Nat.le_refl _) hbv0
      clear hbe1
      go_region
      all_goals rw [HV1.out]
      clear hc1 hf1 ep1 eq1 ei1 ej1 el1 ex1
      go_wp2_with (fail)
      obtain ⟨i2, j2, b2, c2, V2, hc2, hf2, ep2, eq2, ei2, ej2, el2, ex2, HV2, hrow2, hbe2⟩ := flip_facts hrow1 a0.size (by first | exact hlen | (simp only [Crc.flip_length]; exact hlen)) r (by omega)
      have hbv2 := hbe2 w2 (Nat.le_refl _) hbv1
      clear hbe2
      go_region
      all_goals rw [HV2.out]
      clear hc2 hf2 ep2 eq2 ei2 ej2 el2 ex2
      have hback := back_any hrow2 a0.size cap (by first | exact hlen | (simp only [Crc.flip_length]; exact hlen))
      have hne : Crc.sum (Crc.flip (Crc.flip a0.data.toList q) r) ≠ Crc.sum a0.data.toList := Crc.flips2 _ q r (by rw [hlen]; first | exact hB | omega) (by rw [hlen]; first | exact hC | omega) (by rw [hlen]; omega) hrp
      obtain ⟨y, hy⟩ : ∃ y : BitVec 32, y = Crc.sum (Crc.flip (Crc.flip a0.data.toList q) r) := ⟨_, rfl⟩
      obtain ⟨z, hz⟩ : ∃ z : BitVec 32, z = Crc.sum a0.data.toList := ⟨_, rfl⟩
      have C1 : ∀ W b c, W.cell? ⟨b, 0, none⟩ = some (.string ⟨((Crc.flip (Crc.flip a0.data.toList q) r)).toArray⟩) → Calls Try.prog 8 #[.slice (some ⟨b, 0, none⟩) 1 c] W fun e w' => e = .returned (.int .u32 y.toNat) ∧ Below W.heap.size W w' :=
        fun W b c h => by rw [hy]; exact sum_one _ b c W h (by show (List.toArray _).size ≤ _; rw [List.size_toArray]; simp only [Crc.flip_length]; omega)
      have C2 : ∀ W b c, W.cell? ⟨b, 0, none⟩ = some (.string a0) → Calls Try.prog 8 #[.slice (some ⟨b, 0, none⟩) 1 c] W fun e w' => e = .returned (.int .u32 z.toNat) ∧ Below W.heap.size W w' :=
        fun W b c h => by rw [hz]; exact sum_one a0 b c W h (by omega)
      have hyz : ((y.toNat : Int) != (z.toNat : Int)) = true := by
        rw [bne_iff_ne]; intro h; apply hne; rw [← hy, ← hz]; exact BitVec.eq_of_toNat_eq (by omega)
      obtain ⟨t, ht⟩ : ∃ t : ByteArray, t = ⟨((Crc.flip (Crc.flip a0.data.toList q) r)).toArray⟩ := ⟨_, rfl⟩
      rw [← ht] at hback C1
      replace C1 := Lib.hid C1
      replace C2 := Lib.hid C2
      clear hy hz ht hne
      go_wp2_with (first | (go_at_call 8; (with_reducible refine (C1.out _ _ _ ?_).mono ?_); (focus (simp; done)); rintro e x1 ⟨rfl, hx1⟩) | (go_at_call 8; (with_reducible refine (C2.out _ _ _ ?_).mono ?_); (focus (simp; done)); rintro e x2 ⟨rfl, hx2⟩))
      go_ret
      refine ⟨rfl, ?_⟩
      have hlast := btr hb1 hbv2
      repeat (first | assumption | apply bal | refine btr ?_ (by assumption))
  · have hqp' : ((q : Int) != (p : Int)) = true := by rw [bne_iff_ne]; omega
    by_cases hrp : r = p
    · subst hrp
      go_enter Try.func4, Try.ntmps4
      go_wp2_with (go_at_call 7; refine (awake_any _).mono ?_; rintro e w2 ⟨rfl, hb1⟩; obtain ⟨W1, cap, hconv, hbv0, hrow0⟩ := conv_any w2 a0)
      obtain ⟨i1, j1, b1, c1, V1, hc1, hf1, ep1, eq1, ei1, ej1, el1, ex1, HV1, hrow1, hbe1⟩ := flip_facts hrow0 a0.size (by first | exact hlen | (simp only [Crc.flip_length]; exact hlen)) r (by omega)
      have hbv1 := hbe1 w2 (Nat.le_refl _) hbv0
      clear hbe1
      go_region
      all_goals rw [HV1.out]
      clear hc1 hf1 ep1 eq1 ei1 ej1 el1 ex1
      go_wp2_with (fail)
      obtain ⟨i2, j2, b2, c2, V2, hc2, hf2, ep2, eq2, ei2, ej2, el2, ex2, HV2, hrow2, hbe2⟩ := flip_facts hrow1 a0.size (by first | exact hlen | (simp only [Crc.flip_length]; exact hlen)) q (by omega)
      have hbv2 := hbe2 w2 (Nat.le_refl _) hbv1
      clear hbe2
      go_region
      all_goals rw [HV2.out]
      clear hc2 hf2 ep2 eq2 ei2 ej2 el2 ex2
      have hback := back_any hrow2 a0.size cap (by first | exact hlen | (simp only [Crc.flip_length]; exact hlen))
      have hne : Crc.sum (Crc.flip (Crc.flip a0.data.toList r) q) ≠ Crc.sum a0.data.toList := Crc.flips2 _ r q (by rw [hlen]; first | exact hC | omega) (by rw [hlen]; first | exact hB | omega) (by rw [hlen]; omega) hqp
      obtain ⟨y, hy⟩ : ∃ y : BitVec 32, y = Crc.sum (Crc.flip (Crc.flip a0.data.toList r) q) := ⟨_, rfl⟩
      obtain ⟨z, hz⟩ : ∃ z : BitVec 32, z = Crc.sum a0.data.toList := ⟨_, rfl⟩
      have C1 : ∀ W b c, W.cell? ⟨b, 0, none⟩ = some (.string ⟨((Crc.flip (Crc.flip a0.data.toList r) q)).toArray⟩) → Calls Try.prog 8 #[.slice (some ⟨b, 0, none⟩) 1 c] W fun e w' => e = .returned (.int .u32 y.toNat) ∧ Below W.heap.size W w' :=
        fun W b c h => by rw [hy]; exact sum_one _ b c W h (by show (List.toArray _).size ≤ _; rw [List.size_toArray]; simp only [Crc.flip_length]; omega)
      have C2 : ∀ W b c, W.cell? ⟨b, 0, none⟩ = some (.string a0) → Calls Try.prog 8 #[.slice (some ⟨b, 0, none⟩) 1 c] W fun e w' => e = .returned (.int .u32 z.toNat) ∧ Below W.heap.size W w' :=
        fun W b c h => by rw [hz]; exact sum_one a0 b c W h (by omega)
      have hyz : ((y.toNat : Int) != (z.toNat : Int)) = true := by
        rw [bne_iff_ne]; intro h; apply hne; rw [← hy, ← hz]; exact BitVec.eq_of_toNat_eq (by omega)
      obtain ⟨t, ht⟩ : ∃ t : ByteArray, t = ⟨((Crc.flip (Crc.flip a0.data.toList r) q)).toArray⟩ := ⟨_, rfl⟩
      rw [← ht] at hback C1
      replace C1 := Lib.hid C1
      replace C2 := Lib.hid C2
      clear hy hz ht hne
      go_wp2_with (first | (go_at_call 8; (with_reducible refine (C1.out _ _ _ ?_).mono ?_); (focus (simp; done)); rintro e x1 ⟨rfl, hx1⟩) | (go_at_call 8; (with_reducible refine (C2.out _ _ _ ?_).mono ?_); (focus (simp; done)); rintro e x2 ⟨rfl, hx2⟩))
      go_ret
      refine ⟨rfl, ?_⟩
      have hlast := btr hb1 hbv2
      repeat (first | assumption | apply bal | refine btr ?_ (by assumption))
    · have hrp' : ((r : Int) != (p : Int)) = true := by rw [bne_iff_ne]; omega
      by_cases hrq : r = q
      · subst hrq
        go_enter Try.func4, Try.ntmps4
        go_wp2_with (go_at_call 7; refine (awake_any _).mono ?_; rintro e w2 ⟨rfl, hb1⟩; obtain ⟨W1, cap, hconv, hbv0, hrow0⟩ := conv_any w2 a0)
        obtain ⟨i1, j1, b1, c1, V1, hc1, hf1, ep1, eq1, ei1, ej1, el1, ex1, HV1, hrow1, hbe1⟩ := flip_facts hrow0 a0.size (by first | exact hlen | (simp only [Crc.flip_length]; exact hlen)) p (by omega)
        have hbv1 := hbe1 w2 (Nat.le_refl _) hbv0
        clear hbe1
        go_region
        all_goals rw [HV1.out]
        clear hc1 hf1 ep1 eq1 ei1 ej1 el1 ex1
        go_wp2_with (fail)
        obtain ⟨i2, j2, b2, c2, V2, hc2, hf2, ep2, eq2, ei2, ej2, el2, ex2, HV2, hrow2, hbe2⟩ := flip_facts hrow1 a0.size (by first | exact hlen | (simp only [Crc.flip_length]; exact hlen)) r (by omega)
        have hbv2 := hbe2 w2 (Nat.le_refl _) hbv1
        clear hbe2
        go_region
        all_goals rw [HV2.out]
        clear hc2 hf2 ep2 eq2 ei2 ej2 el2 ex2
        have hback := back_any hrow2 a0.size cap (by first | exact hlen | (simp only [Crc.flip_length]; exact hlen))
        have hne : Crc.sum (Crc.flip (Crc.flip a0.data.toList p) r) ≠ Crc.sum a0.data.toList := Crc.flips2 _ p r (by rw [hlen]; first | exact hA | omega) (by rw [hlen]; first | exact hC | omega) (by rw [hlen]; omega) hqp
        obtain ⟨y, hy⟩ : ∃ y : BitVec 32, y = Crc.sum (Crc.flip (Crc.flip a0.data.toList p) r) := ⟨_, rfl⟩
        obtain ⟨z, hz⟩ : ∃ z : BitVec 32, z = Crc.sum a0.data.toList := ⟨_, rfl⟩
        have C1 : ∀ W b c, W.cell? ⟨b, 0, none⟩ = some (.string ⟨((Crc.flip (Crc.flip a0.data.toList p) r)).toArray⟩) → Calls Try.prog 8 #[.slice (some ⟨b, 0, none⟩) 1 c] W fun e w' => e = .returned (.int .u32 y.toNat) ∧ Below W.heap.size W w' :=
          fun W b c h => by rw [hy]; exact sum_one _ b c W h (by show (List.toArray _).size ≤ _; rw [List.size_toArray]; simp only [Crc.flip_length]; omega)
        have C2 : ∀ W b c, W.cell? ⟨b, 0, none⟩ = some (.string a0) → Calls Try.prog 8 #[.slice (some ⟨b, 0, none⟩) 1 c] W fun e w' => e = .returned (.int .u32 z.toNat) ∧ Below W.heap.size W w' :=
          fun W b c h => by rw [hz]; exact sum_one a0 b c W h (by omega)
        have hyz : ((y.toNat : Int) != (z.toNat : Int)) = true := by
          rw [bne_iff_ne]; intro h; apply hne; rw [← hy, ← hz]; exact BitVec.eq_of_toNat_eq (by omega)
        obtain ⟨t, ht⟩ : ∃ t : ByteArray, t = ⟨((Crc.flip (Crc.flip a0.data.toList p) r)).toArray⟩ := ⟨_, rfl⟩
        rw [← ht] at hback C1
        replace C1 := Lib.hid C1
        replace C2 := Lib.hid C2
        clear hy hz ht hne
        go_wp2_with (first | (go_at_call 8; (with_reducible refine (C1.out _ _ _ ?_).mono ?_); (focus (simp; done)); rintro e x1 ⟨rfl, hx1⟩) | (go_at_call 8; (with_reducible refine (C2.out _ _ _ ?_).mono ?_); (focus (simp; done)); rintro e x2 ⟨rfl, hx2⟩))
        go_ret
        refine ⟨rfl, ?_⟩
        have hlast := btr hb1 hbv2
        repeat (first | assumption | apply bal | refine btr ?_ (by assumption))
      · have hrq' : ((r : Int) != (q : Int)) = true := by rw [bne_iff_ne]; omega
        go_enter Try.func4, Try.ntmps4
        go_wp2_with (go_at_call 7; refine (awake_any _).mono ?_; rintro e w2 ⟨rfl, hb1⟩; obtain ⟨W1, cap, hconv, hbv0, hrow0⟩ := conv_any w2 a0)
        obtain ⟨i1, j1, b1, c1, V1, hc1, hf1, ep1, eq1, ei1, ej1, el1, ex1, HV1, hrow1, hbe1⟩ := flip_facts hrow0 a0.size (by first | exact hlen | (simp only [Crc.flip_length]; exact hlen)) p (by omega)
        have hbv1 := hbe1 w2 (Nat.le_refl _) hbv0
        clear hbe1
        go_region
        all_goals rw [HV1.out]
        clear hc1 hf1 ep1 eq1 ei1 ej1 el1 ex1
        go_wp2_with (fail)
        obtain ⟨i2, j2, b2, c2, V2, hc2, hf2, ep2, eq2, ei2, ej2, el2, ex2, HV2, hrow2, hbe2⟩ := flip_facts hrow1 a0.size (by first | exact hlen | (simp only [Crc.flip_length]; exact hlen)) q (by omega)
        have hbv2 := hbe2 w2 (Nat.le_refl _) hbv1
        clear hbe2
        go_region
        all_goals rw [HV2.out]
        clear hc2 hf2 ep2 eq2 ei2 ej2 el2 ex2
        go_wp2_with (fail)
        obtain ⟨i3, j3, b3, c3, V3, hc3, hf3, ep3, eq3, ei3, ej3, el3, ex3, HV3, hrow3, hbe3⟩ := flip_facts hrow2 a0.size (by first | exact hlen | (simp only [Crc.flip_length]; exact hlen)) r (by omega)
        have hbv3 := hbe3 w2 (Nat.le_refl _) hbv2
        clear hbe3
        go_region
        all_goals rw [HV3.out]
        clear hc3 hf3 ep3 eq3 ei3 ej3 el3 ex3
        have hback := back_any hrow3 a0.size cap (by first | exact hlen | (simp only [Crc.flip_length]; exact hlen))
        have hne : Crc.sum (Crc.flip (Crc.flip (Crc.flip a0.data.toList p) q) r) ≠ Crc.sum a0.data.toList := Crc.flips3 _ p q r (by rw [hlen]; first | exact hA | omega) (by rw [hlen]; first | exact hB | omega) (by rw [hlen]; first | exact hC | omega)
        obtain ⟨y, hy⟩ : ∃ y : BitVec 32, y = Crc.sum (Crc.flip (Crc.flip (Crc.flip a0.data.toList p) q) r) := ⟨_, rfl⟩
        obtain ⟨z, hz⟩ : ∃ z : BitVec 32, z = Crc.sum a0.data.toList := ⟨_, rfl⟩
        have C1 : ∀ W b c, W.cell? ⟨b, 0, none⟩ = some (.string ⟨((Crc.flip (Crc.flip (Crc.flip a0.data.toList p) q) r)).toArray⟩) → Calls Try.prog 8 #[.slice (some ⟨b, 0, none⟩) 1 c] W fun e w' => e = .returned (.int .u32 y.toNat) ∧ Below W.heap.size W w' :=
          fun W b c h => by rw [hy]; exact sum_one _ b c W h (by show (List.toArray _).size ≤ _; rw [List.size_toArray]; simp only [Crc.flip_length]; omega)
        have C2 : ∀ W b c, W.cell? ⟨b, 0, none⟩ = some (.string a0) → Calls Try.prog 8 #[.slice (some ⟨b, 0, none⟩) 1 c] W fun e w' => e = .returned (.int .u32 z.toNat) ∧ Below W.heap.size W w' :=
          fun W b c h => by rw [hz]; exact sum_one a0 b c W h (by omega)
        have hyz : ((y.toNat : Int) != (z.toNat : Int)) = true := by
          rw [bne_iff_ne]; intro h; apply hne; rw [← hy, ← hz]; exact BitVec.eq_of_toNat_eq (by omega)
        obtain ⟨t, ht⟩ : ∃ t : ByteArray, t = ⟨((Crc.flip (Crc.flip (Crc.flip a0.data.toList p) q) r)).toArray⟩ := ⟨_, rfl⟩
        rw [← ht] at hback C1
        replace C1 := Lib.hid C1
        replace C2 := Lib.hid C2
        clear hy hz ht hne
        go_wp2_with (first | (go_at_call 8; (with_reducible refine (C1.out _ _ _ ?_).mono ?_); (focus (simp; done)); rintro e x1 ⟨rfl, hx1⟩) | (go_at_call 8; (with_reducible refine (C2.out _ _ _ ?_).mono ?_); (focus (simp; done)); rintro e x2 ⟨rfl, hx2⟩))
        go_ret
        refine ⟨rfl, ?_⟩
        have hlast := btr hb1 hbv3
        repeat (first | assumption | apply bal | refine btr ?_ (by assumption))
set_option maxRecDepth 100000 in
set_option maxHeartbeats 1600000 in
theorem walk (a0 : ByteArray) (a1 : Int) (a2 : Int) (a3 : Int) (w0 : a0.size ≤ maxLen) (w1 : (Lit.int .i64 a1).wf = true) (w2 : (Lit.int .i64 a2).wf = true) (w3 : (Lit.int .i64 a3).wf = true) (w : World) :
    Calls Try.prog 4 #[.string a0, .int .i64 a1, .int .i64 a2, .int .i64 a3] w fun e w' => e = .returned (.bool true) ∧ Below w.heap.size w w' := by
  unfold maxLen at w0
  by_cases h0 : a0.size ≤ 500
  · by_cases hA : 0 ≤ a1
    · by_cases hB : 0 ≤ a2
      · by_cases hC : 0 ≤ a3
        · by_cases hA2 : a1 < 8 * (a0.size : Int)
          · by_cases hB2 : a2 < 8 * (a0.size : Int)
            · by_cases hC2 : a3 < 8 * (a0.size : Int)
              · obtain ⟨p, rfl⟩ : ∃ p : Nat, a1 = p := ⟨a1.toNat, by omega⟩
                obtain ⟨q, rfl⟩ : ∃ q : Nat, a2 = q := ⟨a2.toNat, by omega⟩
                obtain ⟨r, rfl⟩ : ∃ r : Nat, a3 = r := ⟨a3.toNat, by omega⟩
                exact walkIn a0 p q r h0 (by omega) (by omega) (by omega) w
              · go_enter Try.func4, Try.ntmps4
                go_wp2_with (go_at_call 7; refine (awake_any _).mono ?_; rintro e w1 ⟨rfl, hb⟩)
                go_ret
                exact ⟨rfl, hb⟩
            · go_enter Try.func4, Try.ntmps4
              go_wp2_with (go_at_call 7; refine (awake_any _).mono ?_; rintro e w1 ⟨rfl, hb⟩)
              go_ret
              exact ⟨rfl, hb⟩
          · go_enter Try.func4, Try.ntmps4
            go_wp2_with (go_at_call 7; refine (awake_any _).mono ?_; rintro e w1 ⟨rfl, hb⟩)
            go_ret
            exact ⟨rfl, hb⟩
        · go_enter Try.func4, Try.ntmps4
          go_wp2_with (go_at_call 7; refine (awake_any _).mono ?_; rintro e w1 ⟨rfl, hb⟩)
          go_ret
          exact ⟨rfl, hb⟩
      · go_enter Try.func4, Try.ntmps4
        go_wp2_with (go_at_call 7; refine (awake_any _).mono ?_; rintro e w1 ⟨rfl, hb⟩)
        go_ret
        exact ⟨rfl, hb⟩
    · go_enter Try.func4, Try.ntmps4
      go_wp2_with (go_at_call 7; refine (awake_any _).mono ?_; rintro e w1 ⟨rfl, hb⟩)
      go_ret
      exact ⟨rfl, hb⟩
  · go_enter Try.func4, Try.ntmps4
    go_wp2_with (go_at_call 7; refine (awake_any _).mono ?_; rintro e w1 ⟨rfl, hb⟩)
    go_ret
    exact ⟨rfl, hb⟩

/-! ### THE ROW's STEP: WRITTEN OUT: LEAVE IT -/
set_option maxRecDepth 100000 in
theorem lifted (os : Os) (started : os.Started) (H : Type) (enc : TypeId × Value → H) :
    ReturnsInHanded {} Try.checked os 4 .any (Rows.crcBitsSpec.pre6 enc Try.prog Try.f4 Rows.crcBitsRow.domain false) (Rows.crcBitsSpec.post enc Try.prog Try.f4 false true false false) := by
  refine returnsInHanded_of_change (C := Try.checked) own started (by kernel_rfl) Try.func4
    (ChangeSpec.witness6 (enc := enc) (C := Try.checked) false ⟨#[], #[.string ByteArray.empty, .int .i64 0, .int .i64 0, .int .i64 0], []⟩ 8 (by kernel_rfl) (by kernel_rfl) (by kernel_rfl) (by kernel_rfl)) ?_
  intro W base args ds gs before hval0 hW hcnd _
  have hval : ∀ (j : Nat) t v, Try.f4.params[j]? = some t → args[j]? = some v → Value.okWide Try.prog W .any base t v := hval0
  have hW' := hW
  obtain ⟨p, q, hA0, hV, rfl, hfz, hnd⟩ := hW
  have hA : DataW.TrodAll enc Try.prog W 0 (fun _ => true) true Try.f4.params.toList args.toList ds p := hA0
  rw [Try.params4] at hA hval
  obtain ⟨v0, vs0, d0, ds0, p0, q0, hargs, rfl, rfl, h0, r0⟩ := trodAll_cons hA
  obtain ⟨v1, vs1, d1, ds1, p1, q1, rfl, rfl, rfl, h1, r1⟩ := trodAll_cons r0
  obtain ⟨v2, vs2, d2, ds2, p2, q2, rfl, rfl, rfl, h2, r2⟩ := trodAll_cons r1
  obtain ⟨v3, vs3, d3, ds3, p3, q3, rfl, rfl, rfl, h3, r3⟩ := trodAll_cons r2
  obtain ⟨rfl, rfl, rfl⟩ := trodAll_nil r3
  obtain rfl : args = #[v0, v1, v2, v3] := by cases args; simp_all
  obtain ⟨rfl, rfl⟩ := trodVars_none hV
  obtain ⟨a0, rfl, rfl, rfl, w0⟩ := open_string Try.underlying9 (hval 0 9 v0 rfl rfl) h0
  obtain ⟨a1, rfl, rfl, rfl, w1⟩ := open_int Try.underlying3 (hval 1 3 v1 rfl rfl) h1
  obtain ⟨a2, rfl, rfl, rfl, w2⟩ := open_int Try.underlying3 (hval 2 3 v2 rfl rfl) h2
  obtain ⟨a3, rfl, rfl, rfl, w3⟩ := open_int Try.underlying3 (hval 3 3 v3 rfl rfl) h3
  clear hA0 hval0
  simp only [List.append_nil] at hW'
  refine (walk a0 a1 a2 a3 w0 w1 w2 w3 W).mono fun e W' ⟨he, bel⟩ => ?_
  subst he
  exact ⟨_, rfl, _, _, _, [], [], [], hW', trodAll_mk1 (shut_bool Try.underlying4 _), (trodAll_cons_mk (shut_string Try.underlying9 w0) (trodAll_cons_mk (shut_int Try.underlying3 w1) (trodAll_cons_mk (shut_int Try.underlying3 w2) (trodAll_cons_mk (shut_int Try.underlying3 w3) trodAll_mk0)))), rfl, bel.frame _, fun h => by cases h⟩

theorem over : Rows.crcBitsRow.holds Try.pinned (OpenSpec.ofChange Rows.crcBitsSpec) :=
  OpenClaim.holds_of_wide 4 Try.f4 rfl rfl rfl rfl rfl rfl rfl ⟨rfl, rfl, rfl, rfl, rfl⟩ rfl rfl rfl rfl rfl (by kernel_rfl) Try.func4 (by kernel_rfl)
    (of_decide_eq_true (by kernel_rfl)) (by unfold Func.isWrapper; first | (rw [if_pos (by decide +kernel)]; kernel_rfl) | (rw [if_neg (by decide +kernel)]; exact ⟨rfl, rfl⟩))
    (fun os started H enc _ => lifted os started H enc)

/-- ████ THE STATEMENT ████ -/
theorem proved : Rows.CrcBitsSaid :=
  over
#print axioms proved
end Go.Proofs.Ytmiggonegfmnnaa.crcBits
