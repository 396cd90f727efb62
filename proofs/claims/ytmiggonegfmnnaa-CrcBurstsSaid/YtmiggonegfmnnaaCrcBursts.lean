/- The law CrcBursts returns true for every input. -/
import Derived.Test.YtmiggonegfmnnaaRows
import Derived.WalkKit
import Derived.ProofKit
import Derived.OpenShut
import Derived.ShutString
import Derived.Test.YtmiggonegfmnnaaBytes
namespace Go.Proofs.Ytmiggonegfmnnaa.crcBursts
open Go.ChangeShapes Go.WideShapes Go.ChangeAt Go.RowKit
open Go.ChangeMaps (open_string shut_string)
set_option linter.unusedVariables false      -- a walk need not use every 'w<i>' (that an integer argument fits its kind)

theorem own : ownKnob Try.prog.godebug = none := by kernel_rfl

theorem bit_at (v : BitVec 32) (k : Nat) : bits .and .u32 ((v.toNat : Int) / 2 ^ k) 1 = if v.getLsbD k then 1 else 0 := by
  have h2 : ((v.toNat : Int) / 2 ^ k) = ((v >>> k).toNat : Int) := by
    rw [BitVec.toNat_ushiftRight, Nat.shiftRight_eq_div_pow]
    norm_cast
  rw [h2]
  refine (and_u32 (v >>> k) 1#32).trans ?_
  rw [BitVec.toNat_and]
  show (((v >>> k).toNat &&& 1 : Nat) : Int) = _
  rw [Nat.and_one_is_mod, BitVec.getLsbD, BitVec.toNat_ushiftRight, Nat.shiftRight_eq_div_pow, Nat.testBit_eq_decide_div_mod_eq]
  rcases Nat.mod_two_eq_zero_or_one (v.toNat / 2 ^ k) with h | h <;> simp [h]
set_option maxRecDepth 100000 in
set_option maxHeartbeats 4000000 in
theorem walkIn (a0 : ByteArray) (p : Nat) (v : BitVec 32) (h0 : a0.size ≤ 500) (hv : ((v.toNat : Int) == 0) = false) (hA : p < 8 * a0.size) (w : World) :
    Calls Try.prog 3 #[.string a0, .int .i64 p, .int .u32 v.toNat] w fun e w' => e = .returned (.bool true) ∧ Below w.heap.size w w' := by
  have hlen : a0.data.toList.length = a0.size := by simp
  have hA' : (p : Int) < 8 * (a0.size : Int) := by omega
  go_enter Try.func3, Try.ntmps3
  go_wp2_with (go_at_call 7; refine (awake_any _).mono ?_; rintro e w2 ⟨rfl, hb1⟩; obtain ⟨W1, cap, hconv, hbv0, hrow0⟩ := conv_any w2 a0)
  go_loopw [8] (fun i wr => ∃ (k : Nat) (l : List UInt8), k ≤ 32 ∧ i = .int .i64 k ∧ BRow wr w2.heap.size l ∧ Crc.Burst a0.data.toList l p k v ∧ Below w2.heap.size w2 wr) (fun i _ => 32 - (intOf i).toNat)
  case atStart => exact ⟨0, a0.data.toList, by omega, rfl, hrow0, Crc.burst_start _ _ _, hbv0⟩
  case round =>
    obtain ⟨k, l, hk, rfl, hrow, hbu, hbv⟩ := hrel
    have HBu := Lib.hid hbu
    clear hbu hconv hrow0 hbv0
    by_cases hlt : k < 32
    · by_cases hbit : v.getLsbD k = true
      · have eb : (bits .and .u32 ((v.toNat : Int) / 2 ^ k) 1 == 0) = false := by rw [bit_at, hbit]; rfl
        by_cases hin : p + k < 8 * a0.size
        · have hin' : ((p : Int) + (k : Int)) < 8 * (a0.size : Int) := by omega
          obtain ⟨i1, j1, b1, c1, V1, hc1, hf1, ep1, eq1, ei1, ej1, el1, ex1, HV1, hrow1, hbe1⟩ := flip_facts hrow a0.size (HBu.out.1.trans hlen) (p + k) hin
          have hbv1 := hbe1 w2 (Nat.le_refl _) hbv
          rw [Int.natCast_add] at ep1 eq1
          clear hbe1
          have HB := Lib.hid hbit
          clear hbit
          go_wp2_with (fail)
          go_region
          all_goals rw [HV1.out]
          clear hc1 hf1 ep1 eq1 ei1 ej1 el1 ex1
          go_wp2
          go_roundw
          case rel => exact ⟨k + 1, _, by omega, by go_num, hrow1, Crc.burst_flip HBu.out hlt HB.out (by rw [hlen]; exact hin), hbv1⟩
          case measure => simp [intOf]; omega
        · have hin' : ¬ ((p : Int) + (k : Int)) < 8 * (a0.size : Int) := by omega
          clear hbit
          go_wp2
          go_ret
          exact ⟨rfl, btr hb1 hbv⟩
      · have eb : (bits .and .u32 ((v.toNat : Int) / 2 ^ k) 1 == 0) = true := by rw [bit_at]; simp [hbit]
        have HB := Lib.hid hbit
        clear hbit
        go_wp2
        go_roundw
        case rel => exact ⟨k + 1, l, by omega, by go_num, hrow, Crc.burst_skip HBu.out hlt (by simpa using HB.out), hbv⟩
        case measure => simp [intOf]; omega
    · obtain rfl : k = 32 := by omega
      have hback := back_any hrow a0.size cap (HBu.out.1.trans hlen)
      have hne : Crc.sum l ≠ Crc.sum a0.data.toList := Crc.burst_end HBu.out (by rintro rfl; simp at hv)
      have hll : l.length = a0.size := HBu.out.1.trans hlen
      obtain ⟨y, hy⟩ : ∃ y : BitVec 32, y = Crc.sum l := ⟨_, rfl⟩
      obtain ⟨z, hz⟩ : ∃ z : BitVec 32, z = Crc.sum a0.data.toList := ⟨_, rfl⟩
      have C1 : ∀ W b c, W.cell? ⟨b, 0, none⟩ = some (.string ⟨l.toArray⟩) → Calls Try.prog 8 #[.slice (some ⟨b, 0, none⟩) 1 c] W fun e w' => e = .returned (.int .u32 y.toNat) ∧ Below W.heap.size W w' :=
        fun W b c h => by rw [hy]; exact sum_one _ b c W h (by show (List.toArray _).size ≤ _; rw [List.size_toArray]; omega)
      have C2 : ∀ W b c, W.cell? ⟨b, 0, none⟩ = some (.string a0) → Calls Try.prog 8 #[.slice (some ⟨b, 0, none⟩) 1 c] W fun e w' => e = .returned (.int .u32 z.toNat) ∧ Below W.heap.size W w' :=
        fun W b c h => by rw [hz]; exact sum_one a0 b c W h (by omega)
      have hyz : ((y.toNat : Int) != (z.toNat : Int)) = true := by
        rw [bne_iff_ne]; intro h; apply hne; rw [← hy, ← hz]; exact BitVec.eq_of_toNat_eq (by omega)
      obtain ⟨t, ht⟩ : ∃ t : ByteArray, t = ⟨l.toArray⟩ := ⟨_, rfl⟩
      rw [← ht] at hback C1
      replace C1 := Lib.hid C1
      replace C2 := Lib.hid C2
      clear hy hz ht hne hll
      go_wp2_with (first | (go_at_call 8; (with_reducible refine (C1.out _ _ _ ?_).mono ?_); (focus (simp; done)); rintro e x1 ⟨rfl, hx1⟩) | (go_at_call 8; (with_reducible refine (C2.out _ _ _ ?_).mono ?_); (focus (simp; done)); rintro e x2 ⟨rfl, hx2⟩))
      go_ret
      refine ⟨rfl, ?_⟩
      have hlast := btr hb1 hbv
      repeat (first | assumption | apply bal | refine btr ?_ (by assumption))
set_option maxRecDepth 100000 in
set_option maxHeartbeats 1600000 in
theorem walk (a0 : ByteArray) (a1 : Int) (a2 : Int) (w0 : a0.size ≤ maxLen) (w1 : (Lit.int .i64 a1).wf = true) (w2 : (Lit.int .u32 a2).wf = true) (w : World) :
    Calls Try.prog 3 #[.string a0, .int .i64 a1, .int .u32 a2] w fun e w' => e = .returned (.bool true) ∧ Below w.heap.size w w' := by
  unfold maxLen at w0
  obtain ⟨v, rfl⟩ : ∃ x : BitVec 32, a2 = x.toNat := u32_bv w2
  by_cases h0 : a0.size ≤ 500
  · cases hv : ((v.toNat : Int) == 0) with
    | true =>
      go_enter Try.func3, Try.ntmps3
      go_wp2_with (go_at_call 7; refine (awake_any _).mono ?_; rintro e w1 ⟨rfl, hb⟩)
      go_ret
      exact ⟨rfl, hb⟩
    | false =>
      by_cases hA : 0 ≤ a1
      · by_cases hA2 : a1 < 8 * (a0.size : Int)
        · obtain ⟨p, rfl⟩ : ∃ p : Nat, a1 = p := ⟨a1.toNat, by omega⟩
          exact walkIn a0 p v h0 hv (by omega) w
        · go_enter Try.func3, Try.ntmps3
          go_wp2_with (go_at_call 7; refine (awake_any _).mono ?_; rintro e w1 ⟨rfl, hb⟩)
          go_ret
          exact ⟨rfl, hb⟩
      · go_enter Try.func3, Try.ntmps3
        go_wp2_with (go_at_call 7; refine (awake_any _).mono ?_; rintro e w1 ⟨rfl, hb⟩)
        go_ret
        exact ⟨rfl, hb⟩
  · go_enter Try.func3, Try.ntmps3
    go_wp2_with (go_at_call 7; refine (awake_any _).mono ?_; rintro e w1 ⟨rfl, hb⟩)
    go_ret
    exact ⟨rfl, hb⟩

/-! ### THE ROW's STEP: WRITTEN OUT: LEAVE IT -/
set_option maxRecDepth 100000 in
theorem lifted (os : Os) (started : os.Started) (H : Type) (enc : TypeId × Value → H) :
    ReturnsInHanded {} Try.checked os 3 .any (Rows.crcBurstsSpec.pre6 enc Try.prog Try.f3 Rows.crcBurstsRow.domain false) (Rows.crcBurstsSpec.post enc Try.prog Try.f3 false true false false) := by
  refine returnsInHanded_of_change (C := Try.checked) own started (by kernel_rfl) Try.func3
    (ChangeSpec.witness6 (enc := enc) (C := Try.checked) false ⟨#[], #[.string ByteArray.empty, .int .i64 0, .int .u32 0], []⟩ 8 (by kernel_rfl) (by kernel_rfl) (by kernel_rfl) (by kernel_rfl)) ?_
  intro W base args ds gs before hval0 hW hcnd _
  have hval : ∀ (j : Nat) t v, Try.f3.params[j]? = some t → args[j]? = some v → Value.okWide Try.prog W .any base t v := hval0
  have hW' := hW
  obtain ⟨p, q, hA0, hV, rfl, hfz, hnd⟩ := hW
  have hA : DataW.TrodAll enc Try.prog W 0 (fun _ => true) true Try.f3.params.toList args.toList ds p := hA0
  rw [Try.params3] at hA hval
  obtain ⟨v0, vs0, d0, ds0, p0, q0, hargs, rfl, rfl, h0, r0⟩ := trodAll_cons hA
  obtain ⟨v1, vs1, d1, ds1, p1, q1, rfl, rfl, rfl, h1, r1⟩ := trodAll_cons r0
  obtain ⟨v2, vs2, d2, ds2, p2, q2, rfl, rfl, rfl, h2, r2⟩ := trodAll_cons r1
  obtain ⟨rfl, rfl, rfl⟩ := trodAll_nil r2
  obtain rfl : args = #[v0, v1, v2] := by cases args; simp_all
  obtain ⟨rfl, rfl⟩ := trodVars_none hV
  obtain ⟨a0, rfl, rfl, rfl, w0⟩ := open_string Try.underlying9 (hval 0 9 v0 rfl rfl) h0
  obtain ⟨a1, rfl, rfl, rfl, w1⟩ := open_int Try.underlying3 (hval 1 3 v1 rfl rfl) h1
  obtain ⟨a2, rfl, rfl, rfl, w2⟩ := open_int Try.underlying22 (hval 2 22 v2 rfl rfl) h2
  clear hA0 hval0
  simp only [List.append_nil] at hW'
  refine (walk a0 a1 a2 w0 w1 w2 W).mono fun e W' ⟨he, bel⟩ => ?_
  subst he
  exact ⟨_, rfl, _, _, _, [], [], [], hW', trodAll_mk1 (shut_bool Try.underlying4 _), (trodAll_cons_mk (shut_string Try.underlying9 w0) (trodAll_cons_mk (shut_int Try.underlying3 w1) (trodAll_cons_mk (shut_int Try.underlying22 w2) trodAll_mk0))), rfl, bel.frame _, fun h => by cases h⟩

theorem over : Rows.crcBurstsRow.holds Try.pinned (OpenSpec.ofChange Rows.crcBurstsSpec) :=
  OpenClaim.holds_of_wide 3 Try.f3 rfl rfl rfl rfl rfl rfl rfl ⟨rfl, rfl, rfl, rfl, rfl⟩ rfl rfl rfl rfl rfl (by kernel_rfl) Try.func3 (by kernel_rfl)
    (of_decide_eq_true (by kernel_rfl)) (by unfold Func.isWrapper; first | (rw [if_pos (by decide +kernel)]; kernel_rfl) | (rw [if_neg (by decide +kernel)]; exact ⟨rfl, rfl⟩))
    (fun os started H enc _ => lifted os started H enc)

/-- ████ THE STATEMENT ████ -/
theorem proved : Rows.CrcBurstsSaid :=
  over
#print axioms proved
end Go.Proofs.Ytmiggonegfmnnaa.crcBursts
