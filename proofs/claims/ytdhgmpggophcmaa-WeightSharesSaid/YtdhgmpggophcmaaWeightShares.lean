/- The law WeightShares returns true for every input. -/
import Derived.Test.YtdhgmpggophcmaaRows
import Derived.WalkKit
import Derived.ProofKit
import Derived.OpenShut
import Derived.ShutString
import Derived.ChangeOld
import Derived.Below
import Derived.Test.YtdhgmpggophcmaaSumOk
namespace Go.Proofs.Ytdhgmpggophcmaa.weightShares
open Go.ChangeShapes Go.WideShapes Go.ChangeAt Go.RowKit
open Go.ChangeMaps (open_string shut_string)
set_option linter.unusedVariables false

theorem own : ownKnob Try.prog.godebug = none := by kernel_rfl
theorem laidOut : laidOutB Try.prog = true := by kernel_rfl

/-- WHAT THE WALK IS TOLD OF A SLICE OF INTEGERS THAT CAME IN: it is nil; or it leads to a row of 'cap' cells, the numbers 'zs' (the first 'len' are its elements, the rest its spare room), each fitting its kind. -/
def IsRow (k : IntKind) (w : World) (a : Option Addr) (len cap : Nat) (zs : List Int) : Prop :=
  (a = none ∧ len = 0 ∧ cap = 0 ∧ zs = []) ∨
  ∃ x, a = some x ∧ len ≤ cap ∧ cap ≤ maxLen ∧ zs.length = cap ∧ (∀ i, i < zs.length → w.cell? (x.add i) = some (.int k (zs.getD i 0))) ∧ ∀ n ∈ zs, (Lit.int k n).wf = true

theorem u64_nat {a : Int} (h : (Lit.int .u64 a).wf = true) : ∃ b : Nat, a = b ∧ b < W64 := by
  have hmin : IntKind.u64.min = 0 := rfl
  have hmax : IntKind.u64.max = 18446744073709551615 := rfl
  simp only [Lit.wf, Bool.and_eq_true, decide_eq_true_eq] at h
  exact ⟨a.toNat, by omega, by unfold W64; omega⟩
/-- the numbers of a slice that came in -/
theorem row_nats {w : World} {a : Option Addr} {len cap : Nat} {zs : List Int} (h : IsRow .u64 w a len cap zs) :
    ∃ ns : List Nat, ns.length = len ∧ (∀ y ∈ ns, y < W64) ∧ ∀ k (hk : k < ns.length), ∃ x, a = some x ∧ w.cell? (x.add k) = some (.int .u64 ns[k]) := by
  rcases h with ⟨rfl, rfl, rfl, rfl⟩ | ⟨x, rfl, h1, h2, h3, h4, h5⟩
  · exact ⟨[], rfl, fun y hy => by simp at hy, fun k hk => by simp at hk⟩
  · refine ⟨(zs.take len).map Int.toNat, by simp; omega, ?_, ?_⟩
    · intro y hy
      rw [List.mem_map] at hy
      obtain ⟨z, hz, rfl⟩ := hy
      obtain ⟨b, hb, hb2⟩ := u64_nat (h5 z (List.mem_of_mem_take hz))
      rw [hb]; exact hb2
    · intro k hk
      have hk' : k < len := by simp at hk; omega
      refine ⟨x, rfl, ?_⟩
      have hz : k < zs.length := by omega
      rw [h4 k hz]
      have e1 : zs.getD k 0 = zs[k] := by rw [List.getD_eq_getElem?_getD, List.getElem?_eq_getElem hz, Option.getD_some]
      obtain ⟨b, hb, _⟩ := u64_nat (h5 zs[k] (List.getElem_mem hz))
      have e2 : (((zs.take len).map Int.toNat)[k] : Nat) = b := by simp [hb]
      rw [e1, e2, hb]
theorem own_base {w : World} {base : Nat} {e : TypeId} {size n : Nat} {v : Value} {xs : List Value} (h : w.ownsRow base e size v n xs) (k : Nat) (hk : v.ownBlock = some k) : base ≤ k := by
  rcases h.2 with ⟨rfl, _⟩ | ⟨g, cap, cur, rfl, hb, _⟩
  · simp [Value.ownBlock] at hk
  · have : g = k := by simpa [Value.ownBlock] using hk
    omega
theorem own_cap {w : World} {B : Nat} {g c : Nat} {l : List Nat} (h : Owned B (.slice (some ⟨g, 0, none⟩) l.length c) l w) : l.length ≤ c := by
  rcases h.2 with ⟨h1, _⟩ | ⟨g', cap, cur, h1, _, _, h2, _⟩
  · cases h1
  · injection h1 with _ _ h3; omega
theorem nearest_nan (neg : Bool) (mag : Nat) (place : Int) : FM.nan (FM.D.nearest neg mag place) = false := by
  unfold Ieee.Format.nearest
  by_cases h : mag = 0
  · rw [if_pos h]
    obtain ⟨h1, _⟩ := FM.read_word neg 0 (by decide)
    exact decide_eq_false (by rw [h1]; decide)
  · rw [if_neg h]
    simp only
    obtain ⟨x, hx⟩ : ∃ x, x = ((max (place + (mag.log2 : Int) - (FM.D.fractionBits : Int)) FM.D.leastPlace - FM.D.leastPlace).toNat * FM.D.binade + Ieee.Toward.even.cut neg (mag <<< (place - max (place + (mag.log2 : Int) - (FM.D.fractionBits : Int)) FM.D.leastPlace).toNat) (max (place + (mag.log2 : Int) - (FM.D.fractionBits : Int)) FM.D.leastPlace - place).toNat) := ⟨_, rfl⟩
    rw [← hx, FM.infR]
    obtain ⟨h1, _⟩ := FM.read_word neg (min x 9218868437227405312) (by omega)
    exact decide_eq_false (by rw [h1]; omega)
theorem quo_nan (p T : Nat) (hp : p ≤ 4294967296) (hT : T ≤ 4294967296) (h0 : T ≠ 0) : FM.nan (quoW p T) = false := by
  have h := div_some p T hp hT h0
  obtain ⟨a, q, h1, _⟩ := FM.is_nat p hp
  obtain ⟨b, r, h3, h4⟩ := FM.is_nat T hT
  have hb : b ≠ 0 := by
    rintro rfl
    rw [Nat.zero_mul] at h4
    have := Nat.mul_pos (Nat.pos_of_ne_zero h0) (FM.pow_pos 1074)
    omega
  unfold Ieee.Format.div at h
  rw [h1, h3] at h
  unfold Ieee.Datum.quotient at h
  simp only at h
  rw [if_neg hb] at h
  simp only [Option.map_some, Option.some.injEq] at h
  rw [← h]
  exact nearest_nan _ _ _
theorem sum_start' (T : Nat) (ns : List Nat) : SumOk T (sumP (ns.take 0)) 0 0 := by
  have h : sumP (ns.take 0) = 0 := rfl
  rw [h]; exact sum_start T
theorem sumP_take (ns : List Nat) (k : Nat) : sumP (ns.take k) ≤ sumP ns := by
  have : sumP ns = sumP (ns.take k) + sumP (ns.drop k) := by
    conv => lhs; rw [← List.take_append_drop k ns]
    unfold sumP; rw [List.map_append, List.sum_append]
  omega
theorem points_sum (ns : List Nat) (k : Nat) (h : k < ns.length) : FM.points ns[k] ≤ sumP ns := by
  have h1 := sumP_take ns (k + 1)
  rw [take_one ns k h, sumP_snoc] at h1
  omega
theorem share_in (ns : List Nat) (k : Nat) (h : k < ns.length) (ha : allMay ns = true) (h0 : sumP ns ≠ 0) : shareV ns[k] ns = quoW (FM.points ns[k]) (sumP ns) ∧ shareE ns[k] ns = 0 := by
  have hall : allMay (ns ++ [ns[k]]) = true := by rw [allMay_app, ha, allMay_one, all_take ha k h]; rfl
  unfold shareV shareE
  rw [if_pos hall, if_pos hall, if_neg h0, if_neg h0]
  exact ⟨rfl, rfl⟩
set_option maxRecDepth 100000 in
set_option maxHeartbeats 4000000 in
theorem walkA (a : Nat) (ns : List Nat) (a1 : Option Addr) (cap1 : Nat) (w : World) (ha : a < W64) (hns : ∀ y ∈ ns, y < W64) (hlen : ns.length ≤ 100) (hrow : ∀ k (hk : k < ns.length), ∃ x, a1 = some x ∧ w.cell? (x.add k) = some (.int .u64 ns[k])) :
    Calls Try.prog 3 #[.int .u64 a, .slice a1 ns.length cap1] w fun e w' => e = .returned (.bool true) ∧ Below w.heap.size w w' := by
  have A : Hid (∀ W, Calls Try.prog 10 #[] W fun e w' => e = .returned (.bool true) ∧ w' = W) := awake_any
  have HN := Lib.hid hns
  have HR := Lib.hid hrow
  have HF := Lib.hid from_run
  have HB := Lib.hid bits_run
  obtain ⟨i0, hi, hz0, hz1, hz2⟩ := info_parts25
  have HI := Lib.hid (And.intro hi (And.intro hz0 (And.intro hz1 hz2)))
  have r1 := from_run a w
  clear hns hrow hi hz0 hz1 hz2
  go_enter Try.func3, Try.ntmps3
  go_wp2_with (go_at_call 10; refine (A.out _).mono ?_; rintro e w1 ⟨rfl, rfl⟩)
  go_loopw [6, 7] (fun v i wr => ∃ k : Nat, k ≤ ns.length ∧ i = .int .i64 k ∧ Hid (Owned w1.heap.size v (ns.take k) wr) ∧ Below w1.heap.size w1 wr ∧ Hid (k = 0 → v = .slice none 0 0)) (fun _ i _ => ns.length - (intOf i).toNat)
  case atStart => exact ⟨0, by omega, rfl, World.ownsRow_nil _ _ _ _, Below.refl _ _, fun _ => rfl⟩
  case round =>
    obtain ⟨k, hk, rfl, hown, hb, hv0⟩ := hrel
    by_cases hlt : k < ns.length
    · obtain ⟨x, rfl, hc0⟩ := HR.out k hlt
      have hc : wr.cell? (x.add k) = some (.int .u64 ns[k]) := (hb.cell (World.block_lt_of_cell? w1 _ hc0)).trans hc0
      have hfr := HF.out ns[k] wr
      have HT := Lib.hid (take_one ns k hlt)
      have htl : Hid ((ns.take k).length = k) := show _ = _ by rw [List.length_take]; omega
      clear hc0
      obtain ⟨y, hy⟩ : ∃ y, y = ns[k] := ⟨_, rfl⟩
      have HY := Lib.hid hy
      rw [← hy] at hc hfr
      clear hy
      go_wp2_with (at_builtin; refine wpList_append_own _ rfl (.tmp 30) (.tmp 36) 27 rfl w1.heap.size 25 i0 (.float .f64 0) 1 8 Try.underlying27 HI.out.1 HI.out.2.1 HI.out.2.2.1 HI.out.2.2.2 rfl (by decide) _ _ _ rfl (World.ownsRow.alloc hown.out _) ⟨wr.heap.size, 0, none⟩ 1 1 [.float .f64 y] rfl rfl ?c1 ?c2 ?c3 ?c4 ?c5 ?_; rotate_left 5; intro v' w3 hown' hgrow _)
      case roundEnd =>
        refine ⟨⟨k + 1, by omega, by go_num, ?_, ?_, fun h => by omega⟩, by simp [intOf]; omega⟩
        · rw [HT.out, ← HY.out]
          rw [htl.out, floats_app] at hown'
          show w3.ownsRow w1.heap.size 25 1 v' (ns.take k ++ [y]).length _
          rw [List.length_append, htl.out]
          exact hown'
        · exact (bal hb).grown hgrow (bal hb).size (fun q hq => own_base hown.out q hq)
      case c1 =>
        intro j u hu
        cases j with
        | zero => simp only [List.getElem?_cons_zero, Option.some.injEq] at hu; subst hu; rw [add_plain]; simp
        | succ j => simp at hu
      case c2 => intro u hu; rw [List.mem_singleton] at hu; subst hu; rfl
      case c3 => rw [htl.out]; unfold maxLen; omega
      case c4 => rw [htl.out]; omega
      case c5 => rw [World.size_alloc]; have := hb.size; omega
    · obtain rfl : k = ns.length := by omega
      have htk : ns.take ns.length = ns := List.take_length
      rw [htk] at hown
      clear htk
      obtain ⟨se, hse⟩ : ∃ se, se = shareE a ns := ⟨_, rfl⟩
      obtain ⟨sw, hsv⟩ : ∃ sw, sw = shareV a ns := ⟨_, rfl⟩
      obtain ⟨q0, hq0⟩ : ∃ q, q = rs0 a ns := ⟨_, rfl⟩
      obtain ⟨q1, hq1⟩ : ∃ q, q = rs1 a ns := ⟨_, rfl⟩
      have HE := Lib.hid hse
      have HV := Lib.hid hsv
      have HQ0 := Lib.hid hq0
      have HQ1 := Lib.hid hq1
      clear hse hsv hq0 hq1
      rcases Nat.eq_zero_or_pos ns.length with hz | hz
      · have hvn := hv0.out hz
        subst hvn
        obtain rfl : ns = [] := List.eq_nil_of_length_eq_zero hz
        have C1 : Hid (∀ W, Calls Try.prog 12 #[.float .f64 a, .slice none 0 0] W fun e w' => e = .returned (.tuple #[.float .f64 sw, .int .i64 se]) ∧ Below W.heap.size W w') := fun W => by
          rw [HV.out, HE.out]; exact share_none a W ha
        have C2 : Hid (∀ W, Calls Try.prog 13 #[.float .f64 a, .slice none 0 0] W fun e w' => e = .returned (.tuple #[.int .i64 q0, .int .i64 q1, .int .i64 se]) ∧ w' = W) := fun W => by
          rw [HQ0.out, HQ1.out, HE.out]; exact rshare_any a [] none 0 W ha (fun y hy => by simp at hy) (by simp) (fun j h => by simp at h)
        have hsw : sw = 0 := by rw [HV.out]; unfold shareV; split <;> rfl
        have hne : (se == 0) = false := by
          rw [HE.out, beq_eq_false_iff_ne]; unfold shareE; split <;> simp [sumP]
        have hne' : (se != 0) = true := by rw [bne, hne]; rfl
        subst hsw
        have hbz : ∀ W, (callFunc 14 #[.float .f64 0]).run Try.prog W = .ok (.value (.int .u64 0)) W := fun W => HB.out 0 W
        have HBZ := Lib.hid hbz
        clear hbz hv0 hown hz
        go_wp2_with (first | (go_at_call 12; refine (C1.out _).mono ?_; rintro e w4 ⟨rfl, hb4⟩; have hbz := HBZ.out w4) | (go_at_call 13; refine (C2.out _).mono ?_; rintro e w5 ⟨rfl, rfl⟩))
        go_ret
        exact ⟨rfl, btr hb ‹_›⟩
      · obtain ⟨g, c, hv, hcells⟩ := hown.out.shape hz
        subst hv
        have HC := Lib.hid hcells
        obtain ⟨w3, hw3⟩ : ∃ w3 : World, w3 = wr := ⟨_, rfl⟩
        have hwr : Hid (∀ W, Below w3.heap.size w3 W → ∀ j (hj : j < ns.length), W.cell? ⟨g, j, none⟩ = some (.float .f64 ns[j])) := fun W hW j hj => by
          have h0 := HC.out j hj
          rw [← hw3] at h0
          exact (hW.cell (World.block_lt_of_cell? w3 _ h0)).trans h0
        have SH : Hid (∀ x, x < W64 → ∀ W, Below w3.heap.size w3 W → Calls Try.prog 12 #[.float .f64 x, .slice (some ⟨g, 0, none⟩) ns.length c] W fun e w' => e = .returned (.tuple #[.float .f64 (shareV x ns), .int .i64 (shareE x ns)]) ∧ Below w3.heap.size w3 w') := fun x hx W hW => by
          have hc1 : ns.length ≤ c := own_cap hown.out
          refine (share_some x ns g c W hx HN.out (by omega) hc1 (hwr.out W hW)).mono ?_
          rintro e w' ⟨rfl, hb'⟩
          exact ⟨rfl, btr hW hb'⟩
        have C1 : Hid (∀ W, Below w3.heap.size w3 W → Calls Try.prog 12 #[.float .f64 a, .slice (some ⟨g, 0, none⟩) ns.length c] W fun e w' => e = .returned (.tuple #[.float .f64 sw, .int .i64 se]) ∧ Below w3.heap.size w3 w') := fun W hW => by
          rw [HV.out, HE.out]; exact SH.out a ha W hW
        have C2 : Hid (∀ W, Below w3.heap.size w3 W → Calls Try.prog 13 #[.float .f64 a, .slice (some ⟨g, 0, none⟩) ns.length c] W fun e w' => e = .returned (.tuple #[.int .i64 q0, .int .i64 q1, .int .i64 se]) ∧ w' = W) := fun W hW => by
          rw [HQ0.out, HQ1.out, HE.out]; exact rshare_any a ns _ c W ha HN.out (by omega) (fun j h => ⟨g, rfl, hwr.out W hW j h⟩)
        have hb0 : Below w1.heap.size w1 w3 := by rw [hw3]; exact hb
        rw [← hw3]
        have hself := Below.refl w3.heap.size w3
        clear hcells hb hv0 hw3
        by_cases hE0 : se = 0
        · subst hE0
          obtain ⟨T, hT⟩ : ∃ T, T = sumP ns := ⟨_, rfl⟩
          have hall : allMay (ns ++ [a]) = true := by
            cases hh : allMay (ns ++ [a])
            · have := HE.out; unfold shareE at this; rw [hh, if_neg (by decide)] at this; cases this
            · rfl
          have hT0 : sumP ns ≠ 0 := by
            intro h0
            have := HE.out; unfold shareE at this; rw [hall, if_pos rfl, if_pos h0] at this; cases this
          have hTle : sumP ns ≤ 25600 := by have := sumP_le ns; omega
          have hall2 : allMay ns = true := by rw [allMay_app, Bool.and_eq_true] at hall; exact hall.1
          obtain ⟨p, hp⟩ : ∃ p, p = FM.points a := ⟨_, rfl⟩
          have hq0v : q0 = (p : Int) := by rw [HQ0.out, hp]; unfold rs0; rw [if_pos hall, if_neg hT0]
          have hq1v : q1 = (T : Int) := by rw [HQ1.out, hT]; unfold rs1; rw [if_pos hall]
          have hswv : sw = quoW p T := by rw [HV.out, hp, hT]; unfold shareV; rw [if_pos hall, if_neg hT0]
          have hple := FM.points_le a
          have hquo : Hid (∀ W, (binOp .quo 25 (.float .f64 (floatOfInt .f64 (p : Int))) (.float .f64 (floatOfInt .f64 (T : Int)))).run Try.prog W = .ok (.float .f64 sw) W) := fun W => by
            rw [hswv]; exact quo_run p T (by omega) (by omega) (by omega) W
          have hnn : FM.nan sw = false := by
            rw [hswv]; exact quo_nan p T (by omega) (by omega) (by omega)
          have heq : (FloatKind.f64.format.order sw sw != some .eq) = false := by
            have h1 := FM.order_self sw
            rw [hnn] at h1
            show (FM.D.order sw sw != some .eq) = false
            rw [bne, h1]; rfl
          subst hq0v hq1v
          have HALL := Lib.hid hall2
          have HT0 := Lib.hid hT0
          have HTL := Lib.hid hTle
          have HTT := Lib.hid hT
          clear hall hT0 hTle hall2 hp hswv hple hnn hT
          go_wp2_with (first | (go_at_call 12; refine (C1.out _ (by assumption)).mono ?_; rintro e w4 ⟨rfl, hb4⟩; have hq4 := hquo.out w4) | (go_at_call 13; refine (C2.out _ (by assumption)).mono ?_; rintro e w5 ⟨rfl, rfl⟩))
          go_loopw [13, 14] (fun s i W => ∃ (k : Nat) (sn : Nat), k ≤ ns.length ∧ i = .int .i64 k ∧ s = .float .f64 sn ∧ Hid (SumOk T (sumP (ns.take k)) k sn) ∧ Below w3.heap.size w3 W) (fun _ i _ => ns.length - (intOf i).toNat)
          case atStart => exact ⟨0, 0, by omega, rfl, rfl, sum_start' T ns, ‹_›⟩
          case round =>
            obtain ⟨k, sn, hk, rfl, rfl, hsum, hbW⟩ := hrel
            by_cases hlt : k < ns.length
            · have hcell := hwr.out _ hbW k hlt
              have hy := HN.out ns[k] (List.getElem_mem hlt)
              obtain ⟨y, hyy⟩ : ∃ y, y = ns[k] := ⟨_, rfl⟩
              have HY := Lib.hid hyy
              rw [← hyy] at hcell hy
              obtain ⟨e1, e2⟩ := share_in ns k hlt HALL.out HT0.out
              obtain ⟨py, hpy⟩ : ∃ py, py = FM.points y := ⟨_, rfl⟩
              obtain ⟨r, hr1, hr2⟩ := sum_step T (sumP (ns.take k)) k sn py (by rw [HTT.out]; exact HT0.out) (by rw [HTT.out]; have := HTL.out; omega) (by rw [HTT.out, hpy, hyy]; exact points_sum ns k hlt) (by rw [HTT.out]; exact sumP_take ns k) (by omega) hsum.out
              have C3 : Hid (∀ W, Below w3.heap.size w3 W → Calls Try.prog 12 #[.float .f64 y, .slice (some ⟨g, 0, none⟩) ns.length c] W fun e w' => e = .returned (.tuple #[.float .f64 (quoW py T), .int .i64 0]) ∧ Below w3.heap.size w3 w') := fun W hW => by
                have h1 := SH.out y hy W hW
                rw [hyy, e1, e2, ← hyy, ← HTT.out, ← hpy] at h1; exact h1
              have hadd : Hid (∀ W, (binOp .add 25 (.float .f64 sn) (.float .f64 (quoW py T))).run Try.prog W = .ok (.float .f64 r) W) := fun W => run_float_arith W .add 25 .f64 _ _ r hr1
              have HS2 : Hid (SumOk T (sumP (ns.take (k + 1))) (k + 1) r) := show SumOk _ _ _ _ by rw [take_one ns k hlt, sumP_snoc, ← hyy, ← hpy]; exact hr2
              obtain ⟨z, hz9⟩ : ∃ z, z = quoW py T := ⟨_, rfl⟩
              rw [← hz9] at C3 hadd
              clear hy hyy e1 e2 hpy hr1 hr2 hz9
              go_wp2_with (go_at_call 12; refine (C3.out _ hbW).mono ?_; rintro e w6 ⟨rfl, hb6⟩; have ha6 := hadd.out w6)
              go_roundw
              case rel => exact ⟨k + 1, r, by omega, by go_num, rfl, HS2, hb6⟩
              case measure => simp [intOf]; omega
            · obtain rfl : k = ns.length := by omega
              have hfin := sum_end T ns.length sn (by rw [HTT.out]; exact HT0.out) (by omega) (by have h := hsum.out; rw [List.take_length, ← HTT.out] at h; exact h)
              obtain ⟨f1, f2⟩ := hfin
              replace f1 : (FloatKind.f64.format.order sn 4607182409792818153 == some .gt) = true := f1
              replace f2 : (FloatKind.f64.format.order sn 4607182423303617035 == some .lt) = true := f2
              go_wp2
              go_ret
              exact ⟨rfl, btr hb0 hbW⟩
        · have hne : (se == 0) = false := by rw [beq_eq_false_iff_ne]; exact hE0
          have hne' : (se != 0) = true := by rw [bne, hne]; rfl
          have hsw : sw = 0 := by
            rw [HV.out]; unfold shareV
            have h1 := HE.out
            unfold shareE at h1
            split
            · rename_i hh
              rw [if_pos hh] at h1
              split
              · rfl
              · rename_i h2; rw [if_neg h2] at h1; exact absurd h1 hE0
            · rfl
          subst hsw
          have hbz : ∀ W, (callFunc 14 #[.float .f64 0]).run Try.prog W = .ok (.value (.int .u64 0)) W := fun W => HB.out 0 W
          have HBZ := Lib.hid hbz
          clear hbz hE0 hz
          go_wp2_with (first | (go_at_call 12; refine (C1.out _ (by assumption)).mono ?_; rintro e w4 ⟨rfl, hb4⟩; have hbz := HBZ.out w4) | (go_at_call 13; refine (C2.out _ (by assumption)).mono ?_; rintro e w5 ⟨rfl, rfl⟩))
          go_ret
          exact ⟨rfl, btr hb0 ‹_›⟩
theorem walk (a0 : Int) (a1 : Option Addr) (len1 cap1 : Nat) (z1 : List Int) (w : World) (w0 : (Lit.int .u64 a0).wf = true) (w1 : IsRow .u64 w a1 len1 cap1 z1) :
    Calls Try.prog 3 #[.int .u64 a0, .slice a1 len1 cap1] w fun e w' => e = .returned (.bool true) ∧ Below w.heap.size w w' := by
  obtain ⟨a, rfl, ha⟩ := u64_nat w0
  obtain ⟨ns, rfl, h2, h3⟩ := row_nats w1
  by_cases hl : ns.length ≤ 100
  · exact walkA a ns a1 cap1 w ha h2 hl h3
  · have A : Hid (∀ W, Calls Try.prog 10 #[] W fun e w' => e = .returned (.bool true) ∧ w' = W) := awake_any
    clear h2 h3 w0 w1 ha
    go_enter Try.func3, Try.ntmps3
    go_wp2_with (go_at_call 10; refine (A.out _).mono ?_; rintro e w1 ⟨rfl, rfl⟩)
    go_ret
    exact ⟨rfl, Below.refl _ _⟩

/-! ### THE ROW's STEP: WRITTEN OUT: LEAVE IT -/
set_option maxRecDepth 100000 in
theorem lifted (os : Os) (started : os.Started) (H : Type) (enc : TypeId × Value → H) :
    ReturnsInHanded {} Try.checked os 3 .any (Rows.weightSharesSpec.pre6 enc Try.prog Try.f3 Rows.weightSharesRow.domain false) (Rows.weightSharesSpec.post enc Try.prog Try.f3 false true false false) := by
  refine returnsInHanded_of_change (C := Try.checked) own started (by kernel_rfl) Try.func3
    (ChangeSpec.witness6 (enc := enc) (C := Try.checked) false ⟨#[], #[.int .u64 0, .slice none 0 0], []⟩ 8 (by kernel_rfl) (by kernel_rfl) (by kernel_rfl) (by kernel_rfl)) ?_
  intro W base args ds gs before hval0 hW hcnd _
  have hval : ∀ (j : Nat) t v, Try.f3.params[j]? = some t → args[j]? = some v → Value.okWide Try.prog W .any base t v := hval0
  have hW' := hW
  obtain ⟨p, q, hA0, hV, rfl, hfz, hnd⟩ := hW
  have hA : DataW.TrodAll enc Try.prog W 0 (fun _ => true) true Try.f3.params.toList args.toList ds p := hA0
  rw [Try.params3] at hA hval
  obtain ⟨v0, vs0, d0, ds0, p0, q0, hargs, rfl, rfl, h0, r0⟩ := trodAll_cons hA
  obtain ⟨v1, vs1, d1, ds1, p1, q1, rfl, rfl, rfl, h1, r1⟩ := trodAll_cons r0
  obtain ⟨rfl, rfl, rfl⟩ := trodAll_nil r1
  obtain rfl : args = #[v0, v1] := by cases args; simp_all
  obtain ⟨rfl, rfl⟩ := trodVars_none hV
  obtain ⟨a0, rfl, rfl, rfl, w0⟩ := open_int Try.underlying22 (hval 0 22 v0 rfl rfl) h0
  obtain ⟨a1, len1, cap1, rfl⟩ := okWide_slice Try.underlying23 (hval 1 23 v1 rfl rfl)
  have k1 := h1
  have lt1 : ∀ x ∈ p1, x.block < W.heap.size := by obtain ⟨m, hm⟩ := k1; exact DataW.trod_lt m _ _ _ hm
  obtain ⟨z1, w1⟩ : ∃ zs, IsRow .u64 W a1 len1 cap1 zs := by
    obtain ⟨fuel, hf⟩ := h1
    rcases open_ints Try.underlying23 Try.underlying22 (by kernel_rfl) hf with ⟨hcs, _⟩ | ⟨x, l, c, zs, hcs, _, hl, hm, hz, _, hcell, hwz⟩
    · simp [Value.cells] at hcs
      obtain ⟨rfl, rfl, rfl⟩ := hcs
      exact ⟨[], .inl ⟨rfl, rfl, rfl, rfl⟩⟩
    · simp [Value.cells] at hcs
      obtain ⟨rfl, rfl, rfl⟩ := hcs
      exact ⟨zs, .inr ⟨_, rfl, hl, hm, by simpa using hz, hcell, hwz⟩⟩
  clear hA0 hval0
  refine (walk a0 a1 len1 cap1 z1 W w0 w1).mono fun e W' ⟨he, bel⟩ => ?_
  subst he
  exact ⟨_, rfl, _, _, _, [], _, [], hW', trodAll_mk1 (shut_bool Try.underlying4 _), (trodAll_cons_mk (shut_int Try.underlying22 w0) (trodAll_cons_mk (Below.trod laidOut (by kernel_rfl) (of_decide_eq_true (by kernel_rfl)) k1 bel lt1) trodAll_mk0)), rfl, bel.frame _, fun h => by cases h⟩

theorem over : Rows.weightSharesRow.holds Try.pinned (OpenSpec.ofChange Rows.weightSharesSpec) :=
  OpenClaim.holds_of_wide 3 Try.f3 rfl rfl rfl rfl rfl rfl rfl ⟨rfl, rfl, rfl, rfl, rfl⟩ rfl rfl rfl rfl rfl (by kernel_rfl) Try.func3 (by kernel_rfl)
    (of_decide_eq_true (by kernel_rfl)) (by unfold Func.isWrapper; first | (rw [if_pos (by decide +kernel)]; kernel_rfl) | (rw [if_neg (by decide +kernel)]; exact ⟨rfl, rfl⟩))
    (fun os started H enc _ => lifted os started H enc)

/-- ████ THE STATEMENT ████ -/
theorem proved : Rows.WeightSharesSaid := over
#print axioms proved
end Go.Proofs.Ytdhgmpggophcmaa.weightShares
