/- The law CrcJoins returns true for every input. -/
import Derived.Test.YtmiggonegfmnnaaRows
import Derived.WalkKit
import Derived.ProofKit
import Derived.OpenShut
import Derived.ShutString
import Derived.ChangeOld
import Derived.Below
import Derived.Test.YtmiggonegfmnnaaWalkC
namespace Go.Proofs.Ytmiggonegfmnnaa.crcJoins
open Go.ChangeShapes Go.WideShapes Go.ChangeAt Go.RowKit
open Go.ChangeMaps (open_string shut_string)
set_option linter.unusedVariables false

theorem own : ownKnob Try.prog.godebug = none := by kernel_rfl
theorem laidOut : laidOutB Try.prog = true := by kernel_rfl

/-- WHAT THE WALK IS TOLD OF A SLICE OF INTEGERS THAT CAME IN: it is nil; or it leads to a row of 'cap' cells, the numbers 'zs' (the first 'len' are its elements, the rest its spare room), each fitting its kind. -/
def IsRow (k : IntKind) (w : World) (a : Option Addr) (len cap : Nat) (zs : List Int) : Prop :=
  (a = none ∧ len = 0 ∧ cap = 0 ∧ zs = []) ∨
  ∃ x, a = some x ∧ len ≤ cap ∧ cap ≤ maxLen ∧ zs.length = cap ∧ (∀ i, i < zs.length → w.cell? (x.add i) = some (.int k (zs.getD i 0))) ∧ ∀ n ∈ zs, (Lit.int k n).wf = true

theorem row_cell {k : IntKind} {w : World} {a : Option Addr} {len cap : Nat} {zs : List Int} (h : IsRow k w a len cap zs) (hz : 0 < len) :
    ∃ x, a = some x ∧ ∀ i, i < len → w.cell? (x.add i) = some (.int k (zs.getD i 0)) ∧ (Lit.int k (zs.getD i 0)).wf = true := by
  rcases h with ⟨_, h, _⟩ | ⟨x, rfl, h1, h2, h3, h4, h5⟩
  · omega
  · refine ⟨x, rfl, fun i hi => ⟨h4 i (by omega), ?_⟩⟩
    refine h5 _ ?_
    rw [List.getD_eq_getElem?_getD, List.getElem?_eq_getElem (by omega), Option.getD_some]
    exact List.getElem_mem _
theorem u8_range {a : Int} (h : (Lit.int .u8 a).wf = true) : 0 ≤ a ∧ a ≤ 255 := by
  have hmin : IntKind.u8.min = 0 := rfl
  have hmax : IntKind.u8.max = 255 := rfl
  simp only [Lit.wf, Bool.and_eq_true, decide_eq_true_eq] at h
  omega
set_option maxRecDepth 100000 in
set_option maxHeartbeats 1600000 in
theorem walk (a0 : ByteArray) (a1 : Option Addr) (len1 cap1 : Nat) (z1 : List Int) (w : World) (w0 : a0.size ≤ maxLen) (w1 : IsRow .u8 w a1 len1 cap1 z1) :
    Calls Try.prog 6 #[.string a0, .slice a1 len1 cap1] w fun e w' => e = .returned (.bool true) ∧ Below w.heap.size w w' := by
  unfold maxLen at w0
  by_cases h0 : a0.size ≤ 3000
  · by_cases h1 : len1 ≤ 100
    · have W1 := Lib.hid w1
      clear w1
      go_enter Try.func6, Try.ntmps6
      go_wp2_with (first | (go_at_call 7; refine (awake_any _).mono ?_; rintro e w2 ⟨rfl, hb1⟩) | (go_at_call 8; (with_reducible refine (sum_nil _).mono ?_); rintro e w4 ⟨rfl, hb4⟩))
      go_loopw [5, 6, 7] (fun n r i wr => ∃ (k : Nat) (rs : ByteArray) (pre : List UInt8) (x : BitVec 32), k ≤ len1 ∧ i = .int .i64 k ∧ r = .string rs ∧ a0.data.toList = pre ++ rs.data.toList ∧ x = Crc.sum pre ∧ n = .int .u32 x.toNat ∧ Below w.heap.size w wr) (fun _ _ i _ => len1 - (intOf i).toNat)
      case atStart => exact ⟨0, a0, [], 0#32, by omega, rfl, rfl, rfl, rfl, rfl, btr hb1 hb4⟩
      case round =>
        obtain ⟨k, rs, pre, x, hk, rfl, rfl, hs, hx, rfl, hb⟩ := hrel
        have hrs : rs.size ≤ 3000 := by
          have := congrArg List.length hs
          simp at this; omega
        have HS := Lib.hid hs
        have HX := Lib.hid hx
        clear hs hx
        by_cases hlt : k < len1
        · obtain ⟨p, rfl, hp⟩ := row_cell W1.out (by omega)
          obtain ⟨hc0, hwf⟩ := hp k hlt
          have hc : wr.cell? (p.add k) = some (.int .u8 (z1.getD k 0)) := (hb.cell (World.block_lt_of_cell? w _ hc0)).trans hc0
          obtain ⟨c, hcz⟩ : ∃ c, c = z1.getD k 0 := ⟨_, rfl⟩
          obtain ⟨hc1, hc2⟩ := u8_range hwf
          rw [← hcz] at hc hc1 hc2
          clear hc0 hwf hp hcz
          by_cases hmin : c < rs.size
          · have hex : (rs.extract 0 c.toNat).size ≤ 9223372036854775807 := by rw [ByteArray.size_extract]; omega
            have HP : Hid (rs.data.toList = (rs.extract 0 c.toNat).data.toList ++ (rs.extract c.toNat rs.size).data.toList) := show _ = _ by
              simp only [ByteArray.data_extract, Array.toList_extract, List.extract_eq_take_drop]
              rw [List.take_of_length_le (l := List.drop c.toNat rs.data.toList) (by simp)]
              simp
            go_wp2_with (go_at_call 10; refine (update_any _ _ _ hex).mono ?_; rintro e w5 ⟨rfl, hb5⟩)
            go_roundw
            case rel => exact ⟨k + 1, _, pre ++ (rs.extract 0 c.toNat).data.toList, _, by omega, by go_num, rfl, by rw [HS.out, List.append_assoc, ← HP.out], by rw [Crc.sum_append, ← HX.out]; congr 1; simp, rfl, btr hb hb5⟩
            case measure => simp [intOf]; omega
          · have hex : rs.size ≤ 9223372036854775807 := by omega
            go_wp2_with (go_at_call 10; refine (update_any _ _ _ hex).mono ?_; rintro e w5 ⟨rfl, hb5⟩)
            go_roundw
            case rel => exact ⟨k + 1, _, pre ++ rs.data.toList, _, by omega, by go_num, rfl, by rw [HS.out]; simp, by rw [Crc.sum_append, ← HX.out], rfl, btr hb hb5⟩
            case measure => simp [intOf]; omega
        · obtain ⟨r, hr⟩ : ∃ r, r = Crc.sum a0.data.toList := ⟨_, rfl⟩
          have C10 : ∀ W, Calls Try.prog 10 #[.int .u32 x.toNat, .string rs] W fun e w' => e = .returned (.int .u32 r.toNat) ∧ Below W.heap.size W w' :=
            fun W => by rw [hr, HS.out, Crc.sum_append, HX.out]; exact update_any _ rs W (by omega)
          have C1 : ∀ W b c, W.cell? ⟨b, 0, none⟩ = some (.string a0) → Calls Try.prog 8 #[.slice (some ⟨b, 0, none⟩) 1 c] W fun e w' => e = .returned (.int .u32 r.toNat) ∧ Below W.heap.size W w' :=
            fun W b c h => by rw [hr]; exact sum_one a0 b c W h (by omega)
          have C2 : ∀ W, Calls Try.prog 10 #[.int .u32 r.toNat, .string ⟨#[]⟩] W fun e w' => e = .returned (.int .u32 r.toNat) ∧ Below W.heap.size W w' :=
            fun W => by have h := update_any r ⟨#[]⟩ W (by decide); rw [show (⟨#[]⟩ : ByteArray).data.toList = [] from rfl, Crc.upd_nil] at h; exact h
          replace C10 := Lib.hid C10
          replace C1 := Lib.hid C1
          replace C2 := Lib.hid C2
          clear hr HS HX
          go_wp2_with (first | (go_at_call 10; (with_reducible refine (C10.out _).mono ?_); rintro e w5 ⟨rfl, hb5⟩) | (go_at_call 8; (with_reducible refine (C1.out _ _ _ ?_).mono ?_); (focus (simp; done)); rintro e w7 ⟨rfl, hb7⟩) | (go_at_call 10; (with_reducible refine (C2.out _).mono ?_); rintro e w8 ⟨rfl, hb8⟩))
          go_ret
          refine ⟨rfl, ?_⟩
          repeat (first | exact Below.refl _ _ | assumption | apply bal | refine btr ?_ (by assumption))
    · go_enter Try.func6, Try.ntmps6
      go_wp2_with (go_at_call 7; refine (awake_any _).mono ?_; rintro e w1 ⟨rfl, hb⟩)
      go_ret
      exact ⟨rfl, hb⟩
  · go_enter Try.func6, Try.ntmps6
    go_wp2_with (go_at_call 7; refine (awake_any _).mono ?_; rintro e w1 ⟨rfl, hb⟩)
    go_ret
    exact ⟨rfl, hb⟩

/-! ### THE ROW's STEP: WRITTEN OUT: LEAVE IT -/
set_option maxRecDepth 100000 in
theorem lifted (os : Os) (started : os.Started) (H : Type) (enc : TypeId × Value → H) :
    ReturnsInHanded {} Try.checked os 6 .any (Rows.crcJoinsSpec.pre6 enc Try.prog Try.f6 Rows.crcJoinsRow.domain false) (Rows.crcJoinsSpec.post enc Try.prog Try.f6 false true false false) := by
  refine returnsInHanded_of_change (C := Try.checked) own started (by kernel_rfl) Try.func6
    (ChangeSpec.witness6 (enc := enc) (C := Try.checked) false ⟨#[], #[.string ByteArray.empty, .slice none 0 0], []⟩ 8 (by kernel_rfl) (by kernel_rfl) (by kernel_rfl) (by kernel_rfl)) ?_
  intro W base args ds gs before hval0 hW hcnd _
  have hval : ∀ (j : Nat) t v, Try.f6.params[j]? = some t → args[j]? = some v → Value.okWide Try.prog W .any base t v := hval0
  have hW' := hW
  obtain ⟨p, q, hA0, hV, rfl, hfz, hnd⟩ := hW
  have hA : DataW.TrodAll enc Try.prog W 0 (fun _ => true) true Try.f6.params.toList args.toList ds p := hA0
  rw [Try.params6] at hA hval
  obtain ⟨v0, vs0, d0, ds0, p0, q0, hargs, rfl, rfl, h0, r0⟩ := trodAll_cons hA
  obtain ⟨v1, vs1, d1, ds1, p1, q1, rfl, rfl, rfl, h1, r1⟩ := trodAll_cons r0
  obtain ⟨rfl, rfl, rfl⟩ := trodAll_nil r1
  obtain rfl : args = #[v0, v1] := by cases args; simp_all
  obtain ⟨rfl, rfl⟩ := trodVars_none hV
  obtain ⟨a0, rfl, rfl, rfl, w0⟩ := open_string Try.underlying9 (hval 0 9 v0 rfl rfl) h0
  obtain ⟨a1, len1, cap1, rfl⟩ := okWide_slice Try.underlying24 (hval 1 24 v1 rfl rfl)
  have k1 := h1
  have lt1 : ∀ x ∈ p1, x.block < W.heap.size := by obtain ⟨m, hm⟩ := k1; exact DataW.trod_lt m _ _ _ hm
  obtain ⟨z1, w1⟩ : ∃ zs, IsRow .u8 W a1 len1 cap1 zs := by
    obtain ⟨fuel, hf⟩ := h1
    rcases open_ints Try.underlying24 Try.underlying5 (by kernel_rfl) hf with ⟨hcs, _⟩ | ⟨x, l, c, zs, hcs, _, hl, hm, hz, _, hcell, hwz⟩
    · simp [Value.cells] at hcs
      obtain ⟨rfl, rfl, rfl⟩ := hcs
      exact ⟨[], .inl ⟨rfl, rfl, rfl, rfl⟩⟩
    · simp [Value.cells] at hcs
      obtain ⟨rfl, rfl, rfl⟩ := hcs
      exact ⟨zs, .inr ⟨_, rfl, hl, hm, by simpa using hz, hcell, hwz⟩⟩
  clear hA0 hval0
  refine (walk a0 a1 len1 cap1 z1 W w0 w1).mono fun e W' ⟨he, bel⟩ => ?_
  subst he
  exact ⟨_, rfl, _, _, _, [], _, [], hW', trodAll_mk1 (shut_bool Try.underlying4 _), (trodAll_cons_mk (shut_string Try.underlying9 w0) (trodAll_cons_mk (Below.trod laidOut (by kernel_rfl) (of_decide_eq_true (by kernel_rfl)) k1 bel lt1) trodAll_mk0)), rfl, bel.frame _, fun h => by cases h⟩

theorem over : Rows.crcJoinsRow.holds Try.pinned (OpenSpec.ofChange Rows.crcJoinsSpec) :=
  OpenClaim.holds_of_wide 6 Try.f6 rfl rfl rfl rfl rfl rfl rfl ⟨rfl, rfl, rfl, rfl, rfl⟩ rfl rfl rfl rfl rfl (by kernel_rfl) Try.func6 (by kernel_rfl)
    (of_decide_eq_true (by kernel_rfl)) (by unfold Func.isWrapper; first | (rw [if_pos (by decide +kernel)]; kernel_rfl) | (rw [if_neg (by decide +kernel)]; exact ⟨rfl, rfl⟩))
    (fun os started H enc _ => lifted os started H enc)

/-- ████ THE STATEMENT ████ -/
theorem proved : Rows.CrcJoinsSaid := over
#print axioms proved
end Go.Proofs.Ytmiggonegfmnnaa.crcJoins
