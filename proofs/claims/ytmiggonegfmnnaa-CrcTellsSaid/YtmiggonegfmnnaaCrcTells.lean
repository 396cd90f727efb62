/- The law CrcTells returns true for every input. -/
import Derived.Test.YtmiggonegfmnnaaRows
import Derived.WalkKit
import Derived.ProofKit
import Derived.OpenShut
import Derived.ShutString
import Derived.Test.YtmiggonegfmnnaaWalkC
namespace Go.Proofs.Ytmiggonegfmnnaa.crcTells
open Go.ChangeShapes Go.WideShapes Go.ChangeAt Go.RowKit
open Go.ChangeMaps (open_string shut_string)
set_option linter.unusedVariables false      -- a walk need not use every 'w<i>' (that an integer argument fits its kind)

theorem own : ownKnob Try.prog.godebug = none := by kernel_rfl

set_option maxRecDepth 100000 in
set_option maxHeartbeats 1600000 in
theorem walk (a0 : ByteArray) (a1 : ByteArray) (a2 : Int) (w0 : a0.size ≤ maxLen) (w1 : a1.size ≤ maxLen) (w2 : (Lit.int .u32 a2).wf = true) (w : World) :
    Calls Try.prog 5 #[.string a0, .string a1, .int .u32 a2] w fun e w' => e = .returned (.bool true) ∧ Below w.heap.size w w' := by
  unfold maxLen at w0 w1
  obtain ⟨x, rfl⟩ : ∃ x : BitVec 32, a2 = x.toNat := u32_bv w2
  by_cases h0 : a0.size ≤ 2000
  · by_cases h1 : a1.size ≤ 2000
    · obtain ⟨r0, hr0⟩ : ∃ r, r = Crc.sum a0.data.toList := ⟨_, rfl⟩
      obtain ⟨r, hr⟩ : ∃ r, r = Crc.sum (a0.data.toList ++ a1.data.toList) := ⟨_, rfl⟩
      obtain ⟨u, hu⟩ : ∃ u, u = Crc.upd x a1.data.toList := ⟨_, rfl⟩
      have happ : (a0 ++ a1).data.toList = a0.data.toList ++ a1.data.toList := by simp [ByteArray.data_append]
      have hsz : (a0 ++ a1).size ≤ 9223372036854775807 := by rw [ByteArray.size_append]; omega
      have C2 : ∀ W b c, W.cell? ⟨b, 0, none⟩ = some (.string a0) → W.cell? ⟨b, 1, none⟩ = some (.string a1) → Calls Try.prog 8 #[.slice (some ⟨b, 0, none⟩) 2 c] W fun e w' => e = .returned (.int .u32 r.toNat) ∧ Below W.heap.size W w' :=
        fun W b c h h' => by rw [hr]; exact sum_two a0 a1 b c W h h' (by omega) (by omega)
      have C9 : ∀ W, Calls Try.prog 9 #[.string (a0 ++ a1)] W fun e w' => e = .returned (.int .u32 r.toNat) ∧ w' = W :=
        fun W => by rw [hr, ← happ]; exact refsum_any (a0 ++ a1) W hsz
      have C10 : ∀ W, Calls Try.prog 10 #[.int .u32 x.toNat, .string a1] W fun e w' => e = .returned (.int .u32 u.toNat) ∧ Below W.heap.size W w' :=
        fun W => by rw [hu]; exact update_any x a1 W (by omega)
      have C11 : ∀ W, Calls Try.prog 11 #[.int .u32 x.toNat, .string a1] W fun e w' => e = .returned (.int .u32 u.toNat) ∧ w' = W :=
        fun W => by rw [hu]; exact refupd_any x a1 W (by omega)
      have C1 : ∀ W b c, W.cell? ⟨b, 0, none⟩ = some (.string a0) → Calls Try.prog 8 #[.slice (some ⟨b, 0, none⟩) 1 c] W fun e w' => e = .returned (.int .u32 r0.toNat) ∧ Below W.heap.size W w' :=
        fun W b c h => by rw [hr0]; exact sum_one a0 b c W h (by omega)
      have C12 : ∀ W, Calls Try.prog 10 #[.int .u32 r0.toNat, .string a1] W fun e w' => e = .returned (.int .u32 r.toNat) ∧ Below W.heap.size W w' :=
        fun W => by rw [hr, hr0, Crc.sum_append]; exact update_any _ a1 W (by omega)
      have C13 : ∀ W b c, W.cell? ⟨b, 0, none⟩ = some (.string (a0 ++ a1)) → Calls Try.prog 8 #[.slice (some ⟨b, 0, none⟩) 1 c] W fun e w' => e = .returned (.int .u32 r.toNat) ∧ Below W.heap.size W w' :=
        fun W b c h => by rw [hr, ← happ]; exact sum_one _ b c W h hsz
      replace C2 := Lib.hid C2
      replace C9 := Lib.hid C9
      replace C10 := Lib.hid C10
      replace C11 := Lib.hid C11
      replace C1 := Lib.hid C1
      replace C12 := Lib.hid C12
      replace C13 := Lib.hid C13
      clear hr hr0 hu happ hsz
      go_enter Try.func5, Try.ntmps5
      go_wp2_with (first | (go_at_call 7; refine (awake_any _).mono ?_; rintro e w1 ⟨rfl, hb1⟩) | (go_at_call 8; (with_reducible refine (C2.out _ _ _ ?_ ?_).mono ?_); (focus (simp; done)); (focus (simp; done)); rintro e w2 ⟨rfl, hb2⟩) | (go_at_call 9; (with_reducible refine (C9.out _).mono ?_); rintro e w3 ⟨rfl, rfl⟩) | (go_at_call 8; (with_reducible refine (sum_nil _).mono ?_); rintro e w4 ⟨rfl, hb4⟩) | (go_at_call 10; (with_reducible refine (C10.out _).mono ?_); rintro e w5 ⟨rfl, hb5⟩) | (go_at_call 11; (with_reducible refine (C11.out _).mono ?_); rintro e w6 ⟨rfl, rfl⟩) | (go_at_call 8; (with_reducible refine (C1.out _ _ _ ?_).mono ?_); (focus (simp; done)); rintro e w7 ⟨rfl, hb7⟩) | (go_at_call 10; (with_reducible refine (C12.out _).mono ?_); rintro e w8 ⟨rfl, hb8⟩) | (go_at_call 8; (with_reducible refine (C13.out _ _ _ ?_).mono ?_); (focus (simp; done)); rintro e w9 ⟨rfl, hb9⟩))
      go_ret
      refine ⟨rfl, ?_⟩
      repeat (first | exact Below.refl _ _ | apply bal | refine btr ?_ (by assumption))
    · go_enter Try.func5, Try.ntmps5
      go_wp2_with (go_at_call 7; refine (awake_any _).mono ?_; rintro e w1 ⟨rfl, hb⟩)
      go_ret
      exact ⟨rfl, hb⟩
  · go_enter Try.func5, Try.ntmps5
    go_wp2_with (go_at_call 7; refine (awake_any _).mono ?_; rintro e w1 ⟨rfl, hb⟩)
    go_ret
    exact ⟨rfl, hb⟩

/-! ### THE ROW's STEP: WRITTEN OUT: LEAVE IT -/
set_option maxRecDepth 100000 in
theorem lifted (os : Os) (started : os.Started) (H : Type) (enc : TypeId × Value → H) :
    ReturnsInHanded {} Try.checked os 5 .any (Rows.crcTellsSpec.pre6 enc Try.prog Try.f5 Rows.crcTellsRow.domain false) (Rows.crcTellsSpec.post enc Try.prog Try.f5 false true false false) := by
  refine returnsInHanded_of_change (C := Try.checked) own started (by kernel_rfl) Try.func5
    (ChangeSpec.witness6 (enc := enc) (C := Try.checked) false ⟨#[], #[.string ByteArray.empty, .string ByteArray.empty, .int .u32 0], []⟩ 8 (by kernel_rfl) (by kernel_rfl) (by kernel_rfl) (by kernel_rfl)) ?_
  intro W base args ds gs before hval0 hW hcnd _
  have hval : ∀ (j : Nat) t v, Try.f5.params[j]? = some t → args[j]? = some v → Value.okWide Try.prog W .any base t v := hval0
  have hW' := hW
  obtain ⟨p, q, hA0, hV, rfl, hfz, hnd⟩ := hW
  have hA : DataW.TrodAll enc Try.prog W 0 (fun _ => true) true Try.f5.params.toList args.toList ds p := hA0
  rw [Try.params5] at hA hval
  obtain ⟨v0, vs0, d0, ds0, p0, q0, hargs, rfl, rfl, h0, r0⟩ := trodAll_cons hA
  obtain ⟨v1, vs1, d1, ds1, p1, q1, rfl, rfl, rfl, h1, r1⟩ := trodAll_cons r0
  obtain ⟨v2, vs2, d2, ds2, p2, q2, rfl, rfl, rfl, h2, r2⟩ := trodAll_cons r1
  obtain ⟨rfl, rfl, rfl⟩ := trodAll_nil r2
  obtain rfl : args = #[v0, v1, v2] := by cases args; simp_all
  obtain ⟨rfl, rfl⟩ := trodVars_none hV
  obtain ⟨a0, rfl, rfl, rfl, w0⟩ := open_string Try.underlying9 (hval 0 9 v0 rfl rfl) h0
  obtain ⟨a1, rfl, rfl, rfl, w1⟩ := open_string Try.underlying9 (hval 1 9 v1 rfl rfl) h1
  obtain ⟨a2, rfl, rfl, rfl, w2⟩ := open_int Try.underlying22 (hval 2 22 v2 rfl rfl) h2
  clear hA0 hval0
  simp only [List.append_nil] at hW'
  refine (walk a0 a1 a2 w0 w1 w2 W).mono fun e W' ⟨he, bel⟩ => ?_
  subst he
  exact ⟨_, rfl, _, _, _, [], [], [], hW', trodAll_mk1 (shut_bool Try.underlying4 _), (trodAll_cons_mk (shut_string Try.underlying9 w0) (trodAll_cons_mk (shut_string Try.underlying9 w1) (trodAll_cons_mk (shut_int Try.underlying22 w2) trodAll_mk0))), rfl, bel.frame _, fun h => by cases h⟩

theorem over : Rows.crcTellsRow.holds Try.pinned (OpenSpec.ofChange Rows.crcTellsSpec) :=
  OpenClaim.holds_of_wide 5 Try.f5 rfl rfl rfl rfl rfl rfl rfl ⟨rfl, rfl, rfl, rfl, rfl⟩ rfl rfl rfl rfl rfl (by kernel_rfl) Try.func5 (by kernel_rfl)
    (of_decide_eq_true (by kernel_rfl)) (by unfold Func.isWrapper; first | (rw [if_pos (by decide +kernel)]; kernel_rfl) | (rw [if_neg (by decide +kernel)]; exact ⟨rfl, rfl⟩))
    (fun os started H enc _ => lifted os started H enc)

/-- ████ THE STATEMENT ████ -/
theorem proved : Rows.CrcTellsSaid :=
  over
#print axioms proved
end Go.Proofs.Ytmiggonegfmnnaa.crcTells
