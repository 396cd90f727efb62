import Derived.Test.YtfagkmmenfeppaaDoorRefB
import Derived.Test.YtfagkmmenfeppaaDoorPut
/- The document's Put. -/
namespace Go.Proofs.YtfagkmmenfeppaaDoor
set_option maxRecDepth 100000
open Go.RowKit
/-- what the document's Put tells besides its number -/
def putB (s : Stm) (sl : Bool) : List UInt8 := if s.check sl = 0 then sealed sl (s.bytes sl ((famN s.fam).getD (0, 0, 0))) else []
theorem check_none {s : Stm} {sl : Bool} (h : famN s.fam = none) : s.check sl = 1 ∧ putB s sl = [] := by
  have hc : s.check sl = 1 := by unfold Stm.check; rw [h]
  refine ⟨hc, ?_⟩
  unfold putB
  rw [hc, if_neg (by decide)]
theorem check_may {s : Stm} {sl : Bool} {f : Fam} (h : famN s.fam = some f) (hm : s.may f = false) : s.check sl = 1 ∧ putB s sl = [] := by
  have hc : s.check sl = 1 := by unfold Stm.check; rw [h]; exact if_pos hm
  refine ⟨hc, ?_⟩
  unfold putB
  rw [hc, if_neg (by decide)]
theorem check_big {s : Stm} {sl : Bool} {f : Fam} (h : famN s.fam = some f) (hm : s.may f = true) (ht : 65535 < (s.tail sl f).length) : s.check sl = 4 ∧ putB s sl = [] := by
  have htl : (s.tail sl f).length = (s.rest f).length + (if sl then 7 else 0) := by
    unfold Stm.tail; rw [List.length_append]; cases sl <;> rfl
  have hc : s.check sl = 4 := by
    unfold Stm.check; rw [h]
    show (if _ then _ else _) = _
    rw [if_neg (by rw [hm]; exact Bool.noConfusion), if_pos (by omega)]
  refine ⟨hc, ?_⟩
  unfold putB
  rw [hc, if_neg (by decide)]
theorem check_yes {s : Stm} {sl : Bool} {f : Fam} (h : famN s.fam = some f) (hm : s.may f = true) (ht : (s.tail sl f).length ≤ 65535) : s.check sl = 0 ∧ putB s sl = sealed sl (s.bytes sl f) := by
  have htl : (s.tail sl f).length = (s.rest f).length + (if sl then 7 else 0) := by
    unfold Stm.tail; rw [List.length_append]; cases sl <;> rfl
  have hc : s.check sl = 0 := by
    unfold Stm.check; rw [h]
    show (if _ then _ else _) = _
    rw [if_neg (by rw [hm]; exact Bool.noConfusion), if_neg (by omega)]
  refine ⟨hc, ?_⟩
  unfold putB
  rw [hc, if_pos rfl, h]; rfl
theorem fam_zero {f : Fam} (h : f ∈ fams) : (f.1 = 0 ↔ f.2.2 = 0) := by
  simp [fams] at h
  rcases h with rfl | rfl | rfl | rfl | rfl <;> decide
set_option maxHeartbeats 8000000 in
theorem rput_any (s : Stm) (sl : Bool) (a : Option Addr) (cap : Nat) (w : World) (hin : FdIn w a s.fs) (ho : s.ok) :
    Calls Tryd.prog 12 #[s.val a cap, .bool sl] w fun e w' => Below w.heap.size w w' ∧ e = .returned (.tuple #[.string (bs (putB s sl)), .int .i64 (s.check sl : Nat)]) := by
  obtain ⟨P, hP⟩ : ∃ P, P = putB s sl := ⟨_, rfl⟩
  obtain ⟨ck, hck⟩ : ∃ c, c = s.check sl := ⟨_, rfl⟩
  rw [← hP, ← hck]
  obtain ⟨loc, fam, src, dst, sp, dp, fs⟩ := s
  obtain ⟨hn, hs, hd, ht⟩ := ho
  simp only at hn hs hd ht hin
  have HP : Hid (∀ l c, Stm.check ⟨loc, fam, src, dst, sp, dp, fs⟩ sl = c ∧ putB ⟨loc, fam, src, dst, sp, dp, fs⟩ sl = l → P = l ∧ ck = c) := fun l c h => ⟨hP.trans h.2, hck.trans h.1⟩
  clear hP hck
  obtain ⟨W, hW⟩ : ∃ W, W = w.alloc (.cells #[.bool loc, .int .i64 fam, .string (bs src), .string (bs dst), .int .i64 sp, .int .i64 dp, .slice a fs.length cap] 24) := ⟨_, rfl⟩
  have hS : W.heap[w.heap.size]? = some (.cells #[.bool loc, .int .i64 fam, .string (bs src), .string (bs dst), .int .i64 sp, .int .i64 dp, .slice a fs.length cap] 24 (0, 0)) := by rw [hW]; exact alloc_new _ _
  have HB : Hid (Below w.heap.size w W) := by show Below _ _ _; rw [hW]; exact (Below.refl _ _).alloc (Nat.le_refl _) _
  have HC : Hid (∀ V, Below W.heap.size W V → V.cell? ⟨w.heap.size, 0, none⟩ = some (.bool loc) ∧ V.cell? ⟨w.heap.size, 1, none⟩ = some (.int .i64 fam) ∧ V.cell? ⟨w.heap.size, 2, none⟩ = some (.string (bs src)) ∧ V.cell? ⟨w.heap.size, 3, none⟩ = some (.string (bs dst)) ∧ V.cell? ⟨w.heap.size, 4, none⟩ = some (.int .i64 sp) ∧ V.cell? ⟨w.heap.size, 5, none⟩ = some (.int .i64 dp) ∧ V.cell? ⟨w.heap.size, 6, none⟩ = some (.slice a fs.length cap) ∧ FdIn V a fs ∧ Below w.heap.size w V) := fun V hV => by
    have h1 := (hV.block _ (heap_lt hS)).trans hS
    have hB := HB.out.trans (hV.mono HB.out.size)
    exact ⟨cellAt h1 rfl, cellAt h1 rfl, cellAt h1 rfl, cellAt h1 rfl, cellAt h1 rfl, cellAt h1 rfl, cellAt h1 rfl, hin.below hB, hB⟩
  obtain ⟨k0, k1, k2, k3, k4, k5, k6, _⟩ := HC.out W (Below.refl _ _)
  have FL : Hid (∀ V, Below W.heap.size W V → Calls Tryd.prog 27 #[.slice a fs.length cap] V fun e w' => Below W.heap.size W w' ∧ ((fs.all fOk = false ∧ e = .returned (.tuple #[.string ⟨#[]⟩, .bool false])) ∨ (fs.all fOk = true ∧ e = .returned (.tuple #[.string (bs (fdB (fs.map natF))), .bool true])))) := fun V hV => (rfields_any fs a cap V (HC.out V hV).2.2.2.2.2.2.2.1 hn ht).mono fun e w' h => ⟨hV.trans (h.1.mono hV.size), h.2⟩
  have FA0 : Hid (∀ V, Calls Tryd.prog 26 #[.int .i64 fam] V fun e w' => e = .returned (.tuple #[.int .i64 ((famT fam).1 : Nat), .int .i64 ((famT fam).2.1 : Nat), .bool (famT fam).2.2]) ∧ w' = V) := fun V => family_any fam V
  have HB0 : Hid (Below W.heap.size W W) := Below.refl _ _
  clear hS hin ht
  simp only [Stm.val]
  go_enter Tryd.func12, Tryd.ntmps12
  go_upto_region 1 with (fail)
  rw [← hW]
  clear hW
  cases hfa : famN fam with
  | none =>
    have FA : Hid (∀ V, Calls Tryd.prog 26 #[.int .i64 fam] V fun e w' => e = .returned (.tuple #[.int .i64 0, .int .i64 0, .bool false]) ∧ w' = V) := by
      have h := FA0.out
      unfold famT at h
      rw [hfa] at h
      exact h
    obtain ⟨rfl, rfl⟩ := HP.out _ _ (check_none (s := ⟨loc, fam, src, dst, sp, dp, fs⟩) hfa)
    clear FA0 hfa
    go_wp2_with (first | (go_at_call 26; (with_reducible refine (FA.out _).mono ?_); rintro e w1 ⟨rfl, rfl⟩) | (go_at_call 27; (with_reducible refine (FL.out _ HB0.out).mono ?_); rintro e w2 ⟨hb2, ⟨_, rfl⟩ | ⟨_, rfl⟩⟩))
    all_goals
      go_ret2
      exact ⟨(HC.out _ hb2).2.2.2.2.2.2.2.2, rfl⟩
  | some f =>
    obtain ⟨fn, fc, z⟩ := f
    have hmem := List.mem_of_find?_eq_some hfa
    have hfn : (fn : Int) = fam := (famN_small hfa).2
    have hfc : fc < 256 := famN_code hfa
    have hz16 : z ≤ 1000 := (famN_small hfa).1
    have hfz : fn = 0 ↔ z = 0 := fam_zero hmem
    have FA : Hid (∀ V, Calls Tryd.prog 26 #[.int .i64 fam] V fun e w' => e = .returned (.tuple #[.int .i64 (fc : Nat), .int .i64 (z : Nat), .bool true]) ∧ w' = V) := by
      have h := FA0.out
      unfold famT at h
      rw [hfa] at h
      exact h
    have HNO : Hid (Stm.may ⟨loc, fam, src, dst, sp, dp, fs⟩ (fn, fc, z) = false → P = [] ∧ ck = 1) := fun h => HP.out _ _ (check_may (s := ⟨loc, fam, src, dst, sp, dp, fs⟩) hfa h)
    have HYES : Hid (Stm.may ⟨loc, fam, src, dst, sp, dp, fs⟩ (fn, fc, z) = true → ∀ T, T = Stm.tail ⟨loc, fam, src, dst, sp, dp, fs⟩ sl (fn, fc, z) → (65535 < T.length → P = [] ∧ ck = 4) ∧ (T.length ≤ 65535 → P = sealed sl (signL ++ be (Stm.cmd ⟨loc, fam, src, dst, sp, dp, fs⟩) 1 ++ be fc 1 ++ be T.length 2 ++ T) ∧ ck = 0)) := fun h T hT => by
      rw [hT]
      exact ⟨fun q => HP.out _ _ (check_big (s := ⟨loc, fam, src, dst, sp, dp, fs⟩) hfa h q), fun q => HP.out _ _ (check_yes (s := ⟨loc, fam, src, dst, sp, dp, fs⟩) hfa h q)⟩
    clear FA0 hfa hmem HP
    have hss : (bs src).size = src.length := bs_size src
    have hds : (bs dst).size = dst.length := bs_size dst
    cases hall : fs.all fOk with
    | false =>
      rw [hall] at FL
      have hm : Stm.may ⟨loc, fam, src, dst, sp, dp, fs⟩ (fn, fc, z) = false := by unfold Stm.may mayB; simp [hall]
      obtain ⟨rfl, rfl⟩ := HNO.out hm
      clear hm hall
      go_wp2_with (first | (go_at_call 26; (with_reducible refine (FA.out _).mono ?_); rintro e w1 ⟨rfl, rfl⟩) | (go_at_call 27; (with_reducible refine (FL.out _ HB0.out).mono ?_); rintro e w2 ⟨hb2, ⟨_, rfl⟩ | ⟨hx, rfl⟩⟩))
      · go_ret2
        exact ⟨(HC.out _ hb2).2.2.2.2.2.2.2.2, rfl⟩
      · cases hx
    | true =>
      have HALL := Lib.hid hall
      have FL2 : Hid (∀ V, Below W.heap.size W V → Calls Tryd.prog 27 #[.slice a fs.length cap] V fun e w' => Below W.heap.size W w' ∧ e = .returned (.tuple #[.string (bs (fdB (fs.map natF))), .bool true])) := fun V hV => (FL.out V hV).mono fun e w' h => by
        refine ⟨h.1, ?_⟩
        rcases h.2 with ⟨q, _⟩ | ⟨_, q⟩
        · rw [hall] at q; cases q
        · exact q
      clear FL hall
      by_cases c1 : src.length = z
      · have e1 : ((src.length : Int) != (z : Int)) = false := by rw [c1]; simp
        have C1 := Lib.hid c1
        by_cases c2 : dst.length = z
        · have e2 : ((dst.length : Int) != (z : Int)) = false := by rw [c2]; simp
          have C2 := Lib.hid c2
          have hcl : loc = true ∧ ¬ fn = 0 ∨ (loc = false ∨ fn = 0) := by
            cases loc
            · exact .inr (.inl rfl)
            · by_cases h : fn = 0
              · exact .inr (.inr h)
              · exact .inl ⟨rfl, h⟩
          rcases hcl with ⟨rfl, hf0⟩ | hcl
          · have e3 : (fam != 0) = true := by rw [bne, beq_eq_false_iff_ne.2 (by omega)]; rfl
            have hm : Stm.may ⟨true, fam, src, dst, sp, dp, fs⟩ (fn, fc, z) = false := by unfold Stm.may mayB; simp [hf0]
            obtain ⟨rfl, rfl⟩ := HNO.out hm
            clear hm c1 c2 hf0 hfz hfn
            go_wp2_with (first | (go_at_call 26; (with_reducible refine (FA.out _).mono ?_); rintro e w1 ⟨rfl, rfl⟩) | (go_at_call 27; (with_reducible refine (FL2.out _ HB0.out).mono ?_); rintro e w2 ⟨hb2, rfl⟩; have HB2 := Lib.hid hb2; obtain ⟨k0, k1, k2, k3, k4, k5, k6, _⟩ := HC.out _ hb2; clear hb2))
            go_ret2
            exact ⟨(HC.out _ HB2.out).2.2.2.2.2.2.2.2, rfl⟩
          · have e3 : loc = true → (fam != 0) = false := fun q => by
              rcases hcl with h | h
              · rw [h] at q; cases q
              · rw [← hfn, h]; rfl
            by_cases hz : z = 0
            · subst hz
              have hf0 : fn = 0 := hfz.2 rfl
              subst hf0
              obtain rfl : fam = 0 := by omega
              clear hfn hfz e1 e2
              have e1 : ((src.length : Int) != 0) = false := by rw [C1.out]; rfl
              have e2 : ((dst.length : Int) != 0) = false := by rw [C2.out]; rfl
              have hmay0 : Stm.may ⟨loc, 0, src, dst, sp, dp, fs⟩ (0, fc, 0) = (decide (0 ≤ sp ∧ sp ≤ 0) && decide (0 ≤ dp ∧ dp ≤ 0)) := by
                unfold Stm.may mayB pOk
                show (decide (0 ≤ sp ∧ sp ≤ 0) && decide (0 ≤ dp ∧ dp ≤ 0) && fs.all fOk && decide (src.length = 0) && decide (dst.length = 0) && (!loc || decide (0 = 0))) = _
                rw [HALL.out, C1.out, C2.out]; simp
              have HM0 := Lib.hid hmay0
              have IN1 : Hid (∀ V, Calls Tryd.prog 28 #[.int .i64 sp, .int .i64 0] V fun e w' => e = .returned (.bool (decide (0 ≤ sp ∧ sp ≤ 0))) ∧ w' = V) := fun V => in_any sp 0 V
              have IN2 : Hid (∀ V, Calls Tryd.prog 28 #[.int .i64 dp, .int .i64 0] V fun e w' => e = .returned (.bool (decide (0 ≤ dp ∧ dp ≤ 0))) ∧ w' = V) := fun V => in_any dp 0 V
              by_cases q1 : 0 ≤ sp ∧ sp ≤ 0
              · obtain rfl : sp = 0 := by omega
                by_cases q2 : 0 ≤ dp ∧ dp ≤ 0
                · obtain rfl : dp = 0 := by omega
                  have HMAY : Hid (Stm.may ⟨loc, 0, src, dst, 0, 0, fs⟩ (0, fc, 0) = true) := by show _ = _; rw [hmay0]; rfl
                  obtain ⟨rl, hrl⟩ : ∃ rl, rl = Stm.rest ⟨loc, 0, src, dst, 0, 0, fs⟩ (0, fc, 0) := ⟨_, rfl⟩
                  obtain ⟨R, hR⟩ : ∃ R, R = bs rl := ⟨_, rfl⟩
                  have hRF : bs (fdB (fs.map natF)) = R := by rw [hR, hrl]; rfl
                  rw [hRF] at FL2
                  have HR := Lib.hid hR
                  have HRL := Lib.hid hrl
                  have hR12 : rl.length ≤ 1000000000000 := by rw [hrl]; have := fdB_lenk HALL.out; show (fdB (fs.map natF)).length ≤ _; omega
                  clear hmay0 HM0 hRF q1 q2 hR hrl e3 c1 c2 hcl
                  cases loc with
                  | true =>
                    go_upto_region 12 with (first | (go_at_call 26; (with_reducible refine (FA.out _).mono ?_); rintro e w1 ⟨rfl, rfl⟩) | (go_at_call 27; (with_reducible refine (FL2.out _ HB0.out).mono ?_); rintro e w2 ⟨hb2, rfl⟩; have HB2 := Lib.hid hb2; obtain ⟨k0, k1, k2, k3, k4, k5, k6, _⟩ := HC.out _ hb2; clear hb2) | (go_at_call 28; (with_reducible refine (IN1.out _).mono ?_); rintro e w3 ⟨rfl, rfl⟩))
                    obtain ⟨KK, hkk⟩ : ∃ c, c = Stm.cmd ⟨true, 0, src, dst, 0, 0, fs⟩ := ⟨_, rfl⟩
                    have HKK : Hid (KK = 32) := by show KK = 32; rw [hkk]; rfl
                    obtain ⟨tl, htl⟩ : ∃ tl, tl = Stm.tail ⟨true, 0, src, dst, 0, 0, fs⟩ sl (0, fc, 0) := ⟨_, rfl⟩
                    have htr : tl = rl ++ (if sl then sealL else []) := by rw [htl, HRL.out]; rfl
                    obtain ⟨HBIG, HSM⟩ := HYES.out HMAY.out tl htl
                    rw [← hkk] at HSM
                    have HBIG := Lib.hid HBIG
                    have HSM := Lib.hid HSM
                    obtain ⟨Tn, hTn⟩ : ∃ n, n = tl.length := ⟨_, rfl⟩
                    obtain ⟨T, hT⟩ : ∃ T, T = bs tl := ⟨_, rfl⟩
                    have hTs : T.size = Tn := by rw [hT, bs_size, hTn]
                    have HTN := Lib.hid hTn
                    have hrl9 : rl.length ≤ Tn := by rw [hTn, htr, List.length_append]; omega
                    have B1 : Hid (∀ V, Calls Tryd.prog 30 #[.int .u64 fc, .int .i64 1] V fun e w' => e = .returned (.string (bs (be fc 1))) ∧ Below V.heap.size V w') := fun V => rbytes_any fc 1 V (by omega) (by omega)
                    have ew : IntKind.u64.wrap (fc : Int) = fc := by rw [IntKind.wrap_u64]; omega
                    cases sl with
                    | false =>
                      have hTR : T = R := by rw [hT, HR.out, htr]; simp
                      subst hTR
                      have HT := Lib.hid hT
                      clear htr htl hT hkk
                      by_cases big : 65535 < Tn
                      · have e9 : decide (65535 < (Tn : Int)) = true := decide_eq_true (by omega)
                        obtain ⟨rfl, rfl⟩ := HBIG.out (by rw [← HTN.out]; exact big)
                        clear big hTn
                        go_wp2_with (fail)
                        go_ret2
                        exact ⟨(HC.out _ HB2.out).2.2.2.2.2.2.2.2, rfl⟩
                      · have e9 : decide (65535 < (Tn : Int)) = false := decide_eq_false (by omega)
                        obtain ⟨hP1, rfl⟩ := HSM.out (by rw [← HTN.out]; omega)
                        have B2 : Hid (∀ V, Calls Tryd.prog 29 #[.int .i64 Tn] V fun e w' => e = .returned (.string (bs (be Tn 2))) ∧ Below V.heap.size V w') := fun V => two_any Tn V (by omega)
                        obtain ⟨bl, hbl⟩ : ∃ bl, bl = signL ++ be KK 1 ++ be fc 1 ++ be tl.length 2 ++ tl := ⟨_, rfl⟩
                        rw [← hbl] at hP1
                        obtain ⟨Z1, hZ1⟩ : ∃ Z : ByteArray, Z = ⟨#[13, 10, 13, 10, 0, 13, 10, 81, 85, 73, 84, 10]⟩ ++ ⟨#[32]⟩ := ⟨_, rfl⟩
                        obtain ⟨Z2, hZ2⟩ : ∃ Z : ByteArray, Z = Z1 ++ bs (be fc 1) := ⟨_, rfl⟩
                        obtain ⟨Z3, hZ3⟩ : ∃ Z : ByteArray, Z = Z2 ++ bs (be Tn 2) := ⟨_, rfl⟩
                        obtain ⟨B, hB⟩ : ∃ Z : ByteArray, Z = Z3 ++ T := ⟨_, rfl⟩
                        have z1 : Z1.size = 13 := by rw [hZ1]; rfl
                        have z2 : Z2.size = 14 := by rw [hZ2, ByteArray.size_append, z1, bs_size, be_length]
                        have z3 : Z3.size = 16 := by rw [hZ3, ByteArray.size_append, z2, bs_size, be_length]
                        have hBl : B = bs bl := by
                          rw [hB, hZ3, hZ2, hZ1, hbl, ← HTN.out, HT.out, HKK.out]
                          show bs signL ++ bs (be 32 1) ++ bs (be fc 1) ++ bs (be Tn 2) ++ bs tl = _
                          simp only [bs_append]
                        have hs1 : ∀ wx, (Op.stringOp .add ⟨#[13, 10, 13, 10, 0, 13, 10, 81, 85, 73, 84, 10]⟩ ⟨#[32]⟩).run Tryd.prog wx = .ok (.string Z1) wx := fun wx => by rw [hZ1]; exact run_string_add_sum wx _ _ (by decide)
                        have hs2 : ∀ wx, (Op.stringOp .add Z1 (bs (be fc 1))).run Tryd.prog wx = .ok (.string Z2) wx := fun wx => by rw [hZ2]; exact run_string_add_sum wx _ _ (by rw [z1, bs_size, be_length]; decide)
                        have hs3 : ∀ wx, (Op.stringOp .add Z2 (bs (be Tn 2))).run Tryd.prog wx = .ok (.string Z3) wx := fun wx => by rw [hZ3]; exact run_string_add_sum wx _ _ (by rw [z2, bs_size, be_length]; decide)
                        have hs4 : ∀ wx, (Op.stringOp .add Z3 T).run Tryd.prog wx = .ok (.string B) wx := fun wx => by rw [hB]; exact run_string_add_sum wx _ _ (by rw [z3, hTs]; omega)
                        clear big hTn hZ1 hZ2 hZ3 hB hbl z1 z2 z3
                        have HBP : Hid (B = bs P) := by show B = bs P; rw [hBl, hP1]; rfl
                        clear hBl hP1
                        go_wp2_with (first | (go_at_call 30; (with_reducible refine (B1.out _).mono ?_); rintro e w5 ⟨rfl, hb5⟩; have HB5 := Lib.hid (HB2.out.trans (hb5.mono HB2.out.size)); clear hb5) | (go_at_call 29; (with_reducible refine (B2.out _).mono ?_); rintro e w6 ⟨rfl, hb6⟩; have HB6 := Lib.hid (HB5.out.trans (hb6.mono HB5.out.size)); clear hb6))
                        go_ret2
                        exact ⟨(HC.out _ HB6.out).2.2.2.2.2.2.2.2, by rw [← HBP.out]; rfl⟩
                    | true =>
                      have hTR : R ++ ⟨#[3]⟩ ++ bs (be 4 2) ++ ⟨#[0, 0, 0, 0]⟩ = T := by
                        rw [hT, HR.out, htr]
                        show bs rl ++ bs [3] ++ bs (be 4 2) ++ bs [0, 0, 0, 0] = _
                        simp only [bs_append]
                        congr 1
                        simp [sealL, be]
                      have hT7 : Tn = rl.length + 7 := by rw [hTn, htr, List.length_append]; rfl
                      have hrn : R.size = rl.length := by rw [HR.out]; exact bs_size rl
                      have HT := Lib.hid hT
                      obtain ⟨U1, hU1⟩ : ∃ Z : ByteArray, Z = R ++ ⟨#[3]⟩ := ⟨_, rfl⟩
                      obtain ⟨U2, hU2⟩ : ∃ Z : ByteArray, Z = U1 ++ bs (be 4 2) := ⟨_, rfl⟩
                      rw [← hU1, ← hU2] at hTR
                      have u1 : U1.size = rl.length + 1 := by rw [hU1, ByteArray.size_append, hrn]; rfl
                      have u2 : U2.size = rl.length + 3 := by rw [hU2, ByteArray.size_append, u1, bs_size, be_length]
                      have ht1 : ∀ wx, (Op.stringOp .add R ⟨#[3]⟩).run Tryd.prog wx = .ok (.string U1) wx := fun wx => by rw [hU1]; exact run_string_add_sum wx _ _ (by rw [hrn]; show rl.length + 1 ≤ _; omega)
                      have ht2 : ∀ wx, (Op.stringOp .add U1 (bs (be 4 2))).run Tryd.prog wx = .ok (.string U2) wx := fun wx => by rw [hU2]; exact run_string_add_sum wx _ _ (by rw [u1, bs_size, be_length]; omega)
                      have ht3 : ∀ wx, (Op.stringOp .add U2 ⟨#[0, 0, 0, 0]⟩).run Tryd.prog wx = .ok (.string T) wx := fun wx => by rw [← hTR]; exact run_string_add_sum wx _ _ (by rw [u2]; show rl.length + 3 + 4 ≤ _; omega)
                      have B4 : Hid (∀ V, Calls Tryd.prog 29 #[.int .i64 4] V fun e w' => e = .returned (.string (bs (be 4 2))) ∧ Below V.heap.size V w') := fun V => two_any 4 V (by omega)
                      have HT12 := Lib.hid hR12
                      clear htr htl hT hkk hTR hU1 hU2 u1 u2 hrn hrl9
                      by_cases big : 65535 < Tn
                      · have e9 : decide (65535 < (Tn : Int)) = true := decide_eq_true (by omega)
                        obtain ⟨rfl, rfl⟩ := HBIG.out (by rw [← HTN.out]; exact big)
                        clear big hTn hT7
                        go_wp2_with (first | (go_at_call 29; (with_reducible refine (B4.out _).mono ?_); rintro e w3 ⟨rfl, hb3⟩; have HB3 := Lib.hid (HB2.out.trans (hb3.mono HB2.out.size)); clear hb3))
                        go_ret2
                        exact ⟨(HC.out _ HB3.out).2.2.2.2.2.2.2.2, rfl⟩
                      · have e9 : decide (65535 < (Tn : Int)) = false := decide_eq_false (by omega)
                        obtain ⟨hP1, rfl⟩ := HSM.out (by rw [← HTN.out]; omega)
                        have B2 : Hid (∀ V, Calls Tryd.prog 29 #[.int .i64 Tn] V fun e w' => e = .returned (.string (bs (be Tn 2))) ∧ Below V.heap.size V w') := fun V => two_any Tn V (by omega)
                        obtain ⟨bl, hbl⟩ : ∃ bl, bl = signL ++ be KK 1 ++ be fc 1 ++ be tl.length 2 ++ tl := ⟨_, rfl⟩
                        rw [← hbl] at hP1
                        obtain ⟨Z1, hZ1⟩ : ∃ Z : ByteArray, Z = ⟨#[13, 10, 13, 10, 0, 13, 10, 81, 85, 73, 84, 10]⟩ ++ ⟨#[32]⟩ := ⟨_, rfl⟩
                        obtain ⟨Z2, hZ2⟩ : ∃ Z : ByteArray, Z = Z1 ++ bs (be fc 1) := ⟨_, rfl⟩
                        obtain ⟨Z3, hZ3⟩ : ∃ Z : ByteArray, Z = Z2 ++ bs (be Tn 2) := ⟨_, rfl⟩
                        obtain ⟨B, hB⟩ : ∃ Z : ByteArray, Z = Z3 ++ T := ⟨_, rfl⟩
                        have z1 : Z1.size = 13 := by rw [hZ1]; rfl
                        have z2 : Z2.size = 14 := by rw [hZ2, ByteArray.size_append, z1, bs_size, be_length]
                        have z3 : Z3.size = 16 := by rw [hZ3, ByteArray.size_append, z2, bs_size, be_length]
                        have hBl : B = bs bl := by
                          rw [hB, hZ3, hZ2, hZ1, hbl, ← HTN.out, HT.out, HKK.out]
                          show bs signL ++ bs (be 32 1) ++ bs (be fc 1) ++ bs (be Tn 2) ++ bs tl = _
                          simp only [bs_append]
                        have hs1 : ∀ wx, (Op.stringOp .add ⟨#[13, 10, 13, 10, 0, 13, 10, 81, 85, 73, 84, 10]⟩ ⟨#[32]⟩).run Tryd.prog wx = .ok (.string Z1) wx := fun wx => by rw [hZ1]; exact run_string_add_sum wx _ _ (by decide)
                        have hs2 : ∀ wx, (Op.stringOp .add Z1 (bs (be fc 1))).run Tryd.prog wx = .ok (.string Z2) wx := fun wx => by rw [hZ2]; exact run_string_add_sum wx _ _ (by rw [z1, bs_size, be_length]; decide)
                        have hs3 : ∀ wx, (Op.stringOp .add Z2 (bs (be Tn 2))).run Tryd.prog wx = .ok (.string Z3) wx := fun wx => by rw [hZ3]; exact run_string_add_sum wx _ _ (by rw [z2, bs_size, be_length]; decide)
                        have hs4 : ∀ wx, (Op.stringOp .add Z3 T).run Tryd.prog wx = .ok (.string B) wx := fun wx => by rw [hB]; exact run_string_add_sum wx _ _ (by rw [z3, hTs]; omega)
                        have hBs : B.size = Tn + 16 := by rw [hB, ByteArray.size_append, z3, hTs]; omega
                        have hbll : bl.length = Tn + 16 := by rw [← bs_size, ← hBl]; exact hBs
                        obtain ⟨cs, hcs⟩ : ∃ c, c = (Crc.sum bl).toNat := ⟨_, rfl⟩
                        have hcl : cs < 4294967296 := by rw [hcs]; exact (Crc.sum bl).isLt
                        have SU : Hid (∀ V, Calls Tryd.prog 31 #[.string B] V fun e w' => e = .returned (.int .u32 cs) ∧ w' = V) := fun V => (CrcW.refsum_any B V (by rw [hBs]; omega)).mono fun e w' h => by
                          rw [hBl, bs_list, ← hcs] at h; exact h
                        have B6 : Hid (∀ V, Calls Tryd.prog 30 #[.int .u64 cs, .int .i64 4] V fun e w' => e = .returned (.string (bs (be cs 4))) ∧ Below V.heap.size V w') := fun V => rbytes_any cs 4 V (by omega) (by omega)
                        have hwc : IntKind.u64.wrap (cs : Int) = cs := by rw [IntKind.wrap_u64]; omega
                        obtain ⟨M, hM⟩ : ∃ M, M = Tn + 12 := ⟨_, rfl⟩
                        have m0 : IntKind.i64.wrap (((Tn + 16 : Nat) : Int) - 4) = (M : Int) := by rw [IntWalk.i64_in _ (by omega)]; omega
                        obtain ⟨Bn, hBn⟩ : ∃ n, n = Tn + 16 := ⟨_, rfl⟩
                        rw [← hBn] at hBs m0
                        have m1 : (0 : Int) ≤ (M : Int) := by omega
                        have m2 : (M : Int) ≤ (Bn : Int) := by omega
                        have m3 : M ≤ Bn := by omega
                        have m4 : (M : Int).toNat = M := by omega
                        have hs5 : ∀ wx, (Op.stringOp .add (B.extract 0 M) (bs (be cs 4))).run Tryd.prog wx = .ok (.string (bs P)) wx := fun wx => by
                          rw [run_string_add_sum wx _ _ (by rw [ByteArray.size_extract, bs_size, be_length]; omega)]
                          have : B.extract 0 M ++ bs (be cs 4) = bs P := by
                            rw [hP1, hBl, bs_extract, bs_append]
                            unfold sealed
                            rw [if_pos rfl, hcs, hbll, List.drop_zero, Nat.sub_zero, hM, show Tn + 16 - 4 = Tn + 12 from by omega]
                          rw [this]
                        have HD7 : Hid (∀ V : World, Below V.heap.size V V.drew) := fun V => (Below.refl _ _).drew
                        clear big hTn hZ1 hZ2 hZ3 hB hbl z1 z2 z3 hT7 hM hBn hcs hbll hcl hBl hP1
                        go_wp2_with (first | (go_at_call 29; (with_reducible refine (B4.out _).mono ?_); rintro e w3 ⟨rfl, hb3⟩; have HB3 := Lib.hid (HB2.out.trans (hb3.mono HB2.out.size)); obtain ⟨k0, k1, k2, k3, k4, k5, k6, _⟩ := HC.out _ HB3.out; clear hb3) | (go_at_call 30; (with_reducible refine (B1.out _).mono ?_); rintro e w5 ⟨rfl, hb5⟩; have HB5 := Lib.hid (HB3.out.trans (hb5.mono HB3.out.size)); clear hb5) | (go_at_call 29; (with_reducible refine (B2.out _).mono ?_); rintro e w6 ⟨rfl, hb6⟩; have HB6 := Lib.hid (HB5.out.trans (hb6.mono HB5.out.size)); clear hb6))
                        go_region_held3 (fun _ => True) (exact trivial) (first | (go_simp; go_at_call 31; (with_reducible refine (SU.out _).mono ?_); rintro e w7 ⟨rfl, rfl⟩) | (go_simp; go_at_call 30; (with_reducible refine (B6.out _).mono ?_); rintro e w8 ⟨rfl, hb8⟩; have HB8 := Lib.hid (HB6.out.trans (((HD7.out _).trans (hb8.mono (HD7.out _).size)).mono HB6.out.size))))
                        simp only [Exit.then]
                        go_wp2_with (fail)
                        go_ret2
                        exact ⟨(HC.out _ HB8.out).2.2.2.2.2.2.2.2, rfl⟩
                  | false =>
                    go_upto_region 12 with (first | (go_at_call 26; (with_reducible refine (FA.out _).mono ?_); rintro e w1 ⟨rfl, rfl⟩) | (go_at_call 27; (with_reducible refine (FL2.out _ HB0.out).mono ?_); rintro e w2 ⟨hb2, rfl⟩; have HB2 := Lib.hid hb2; obtain ⟨k0, k1, k2, k3, k4, k5, k6, _⟩ := HC.out _ hb2; clear hb2) | (go_at_call 28; (with_reducible refine (IN1.out _).mono ?_); rintro e w3 ⟨rfl, rfl⟩) | (go_at_call 28; (with_reducible refine (IN2.out _).mono ?_); rintro e w4 ⟨rfl, rfl⟩))
                    obtain ⟨KK, hkk⟩ : ∃ c, c = Stm.cmd ⟨false, 0, src, dst, 0, 0, fs⟩ := ⟨_, rfl⟩
                    have HKK : Hid (KK = 33) := by show KK = 33; rw [hkk]; rfl
                    obtain ⟨tl, htl⟩ : ∃ tl, tl = Stm.tail ⟨false, 0, src, dst, 0, 0, fs⟩ sl (0, fc, 0) := ⟨_, rfl⟩
                    have htr : tl = rl ++ (if sl then sealL else []) := by rw [htl, HRL.out]; rfl
                    obtain ⟨HBIG, HSM⟩ := HYES.out HMAY.out tl htl
                    rw [← hkk] at HSM
                    have HBIG := Lib.hid HBIG
                    have HSM := Lib.hid HSM
                    obtain ⟨Tn, hTn⟩ : ∃ n, n = tl.length := ⟨_, rfl⟩
                    obtain ⟨T, hT⟩ : ∃ T, T = bs tl := ⟨_, rfl⟩
                    have hTs : T.size = Tn := by rw [hT, bs_size, hTn]
                    have HTN := Lib.hid hTn
                    have hrl9 : rl.length ≤ Tn := by rw [hTn, htr, List.length_append]; omega
                    have B1 : Hid (∀ V, Calls Tryd.prog 30 #[.int .u64 fc, .int .i64 1] V fun e w' => e = .returned (.string (bs (be fc 1))) ∧ Below V.heap.size V w') := fun V => rbytes_any fc 1 V (by omega) (by omega)
                    have ew : IntKind.u64.wrap (fc : Int) = fc := by rw [IntKind.wrap_u64]; omega
                    cases sl with
                    | false =>
                      have hTR : T = R := by rw [hT, HR.out, htr]; simp
                      subst hTR
                      have HT := Lib.hid hT
                      clear htr htl hT hkk
                      by_cases big : 65535 < Tn
                      · have e9 : decide (65535 < (Tn : Int)) = true := decide_eq_true (by omega)
                        obtain ⟨rfl, rfl⟩ := HBIG.out (by rw [← HTN.out]; exact big)
                        clear big hTn
                        go_wp2_with (fail)
                        go_ret2
                        exact ⟨(HC.out _ HB2.out).2.2.2.2.2.2.2.2, rfl⟩
                      · have e9 : decide (65535 < (Tn : Int)) = false := decide_eq_false (by omega)
                        obtain ⟨hP1, rfl⟩ := HSM.out (by rw [← HTN.out]; omega)
                        have B2 : Hid (∀ V, Calls Tryd.prog 29 #[.int .i64 Tn] V fun e w' => e = .returned (.string (bs (be Tn 2))) ∧ Below V.heap.size V w') := fun V => two_any Tn V (by omega)
                        obtain ⟨bl, hbl⟩ : ∃ bl, bl = signL ++ be KK 1 ++ be fc 1 ++ be tl.length 2 ++ tl := ⟨_, rfl⟩
                        rw [← hbl] at hP1
                        obtain ⟨Z1, hZ1⟩ : ∃ Z : ByteArray, Z = ⟨#[13, 10, 13, 10, 0, 13, 10, 81, 85, 73, 84, 10]⟩ ++ ⟨#[33]⟩ := ⟨_, rfl⟩
                        obtain ⟨Z2, hZ2⟩ : ∃ Z : ByteArray, Z = Z1 ++ bs (be fc 1) := ⟨_, rfl⟩
                        obtain ⟨Z3, hZ3⟩ : ∃ Z : ByteArray, Z = Z2 ++ bs (be Tn 2) := ⟨_, rfl⟩
                        obtain ⟨B, hB⟩ : ∃ Z : ByteArray, Z = Z3 ++ T := ⟨_, rfl⟩
                        have z1 : Z1.size = 13 := by rw [hZ1]; rfl
                        have z2 : Z2.size = 14 := by rw [hZ2, ByteArray.size_append, z1, bs_size, be_length]
                        have z3 : Z3.size = 16 := by rw [hZ3, ByteArray.size_append, z2, bs_size, be_length]
                        have hBl : B = bs bl := by
                          rw [hB, hZ3, hZ2, hZ1, hbl, ← HTN.out, HT.out, HKK.out]
                          show bs signL ++ bs (be 33 1) ++ bs (be fc 1) ++ bs (be Tn 2) ++ bs tl = _
                          simp only [bs_append]
                        have hs1 : ∀ wx, (Op.stringOp .add ⟨#[13, 10, 13, 10, 0, 13, 10, 81, 85, 73, 84, 10]⟩ ⟨#[33]⟩).run Tryd.prog wx = .ok (.string Z1) wx := fun wx => by rw [hZ1]; exact run_string_add_sum wx _ _ (by decide)
                        have hs2 : ∀ wx, (Op.stringOp .add Z1 (bs (be fc 1))).run Tryd.prog wx = .ok (.string Z2) wx := fun wx => by rw [hZ2]; exact run_string_add_sum wx _ _ (by rw [z1, bs_size, be_length]; decide)
                        have hs3 : ∀ wx, (Op.stringOp .add Z2 (bs (be Tn 2))).run Tryd.prog wx = .ok (.string Z3) wx := fun wx => by rw [hZ3]; exact run_string_add_sum wx _ _ (by rw [z2, bs_size, be_length]; decide)
                        have hs4 : ∀ wx, (Op.stringOp .add Z3 T).run Tryd.prog wx = .ok (.string B) wx := fun wx => by rw [hB]; exact run_string_add_sum wx _ _ (by rw [z3, hTs]; omega)
                        clear big hTn hZ1 hZ2 hZ3 hB hbl z1 z2 z3
                        have HBP : Hid (B = bs P) := by show B = bs P; rw [hBl, hP1]; rfl
                        clear hBl hP1
                        go_wp2_with (first | (go_at_call 30; (with_reducible refine (B1.out _).mono ?_); rintro e w5 ⟨rfl, hb5⟩; have HB5 := Lib.hid (HB2.out.trans (hb5.mono HB2.out.size)); clear hb5) | (go_at_call 29; (with_reducible refine (B2.out _).mono ?_); rintro e w6 ⟨rfl, hb6⟩; have HB6 := Lib.hid (HB5.out.trans (hb6.mono HB5.out.size)); clear hb6))
                        go_ret2
                        exact ⟨(HC.out _ HB6.out).2.2.2.2.2.2.2.2, by rw [← HBP.out]; rfl⟩
                    | true =>
                      have hTR : R ++ ⟨#[3]⟩ ++ bs (be 4 2) ++ ⟨#[0, 0, 0, 0]⟩ = T := by
                        rw [hT, HR.out, htr]
                        show bs rl ++ bs [3] ++ bs (be 4 2) ++ bs [0, 0, 0, 0] = _
                        simp only [bs_append]
                        congr 1
                        simp [sealL, be]
                      have hT7 : Tn = rl.length + 7 := by rw [hTn, htr, List.length_append]; rfl
                      have hrn : R.size = rl.length := by rw [HR.out]; exact bs_size rl
                      have HT := Lib.hid hT
                      obtain ⟨U1, hU1⟩ : ∃ Z : ByteArray, Z = R ++ ⟨#[3]⟩ := ⟨_, rfl⟩
                      obtain ⟨U2, hU2⟩ : ∃ Z : ByteArray, Z = U1 ++ bs (be 4 2) := ⟨_, rfl⟩
                      rw [← hU1, ← hU2] at hTR
                      have u1 : U1.size = rl.length + 1 := by rw [hU1, ByteArray.size_append, hrn]; rfl
                      have u2 : U2.size = rl.length + 3 := by rw [hU2, ByteArray.size_append, u1, bs_size, be_length]
                      have ht1 : ∀ wx, (Op.stringOp .add R ⟨#[3]⟩).run Tryd.prog wx = .ok (.string U1) wx := fun wx => by rw [hU1]; exact run_string_add_sum wx _ _ (by rw [hrn]; show rl.length + 1 ≤ _; omega)
                      have ht2 : ∀ wx, (Op.stringOp .add U1 (bs (be 4 2))).run Tryd.prog wx = .ok (.string U2) wx := fun wx => by rw [hU2]; exact run_string_add_sum wx _ _ (by rw [u1, bs_size, be_length]; omega)
                      have ht3 : ∀ wx, (Op.stringOp .add U2 ⟨#[0, 0, 0, 0]⟩).run Tryd.prog wx = .ok (.string T) wx := fun wx => by rw [← hTR]; exact run_string_add_sum wx _ _ (by rw [u2]; show rl.length + 3 + 4 ≤ _; omega)
                      have B4 : Hid (∀ V, Calls Tryd.prog 29 #[.int .i64 4] V fun e w' => e = .returned (.string (bs (be 4 2))) ∧ Below V.heap.size V w') := fun V => two_any 4 V (by omega)
                      have HT12 := Lib.hid hR12
                      clear htr htl hT hkk hTR hU1 hU2 u1 u2 hrn hrl9
                      by_cases big : 65535 < Tn
                      · have e9 : decide (65535 < (Tn : Int)) = true := decide_eq_true (by omega)
                        obtain ⟨rfl, rfl⟩ := HBIG.out (by rw [← HTN.out]; exact big)
                        clear big hTn hT7
                        go_wp2_with (first | (go_at_call 29; (with_reducible refine (B4.out _).mono ?_); rintro e w3 ⟨rfl, hb3⟩; have HB3 := Lib.hid (HB2.out.trans (hb3.mono HB2.out.size)); clear hb3))
                        go_ret2
                        exact ⟨(HC.out _ HB3.out).2.2.2.2.2.2.2.2, rfl⟩
                      · have e9 : decide (65535 < (Tn : Int)) = false := decide_eq_false (by omega)
                        obtain ⟨hP1, rfl⟩ := HSM.out (by rw [← HTN.out]; omega)
                        have B2 : Hid (∀ V, Calls Tryd.prog 29 #[.int .i64 Tn] V fun e w' => e = .returned (.string (bs (be Tn 2))) ∧ Below V.heap.size V w') := fun V => two_any Tn V (by omega)
                        obtain ⟨bl, hbl⟩ : ∃ bl, bl = signL ++ be KK 1 ++ be fc 1 ++ be tl.length 2 ++ tl := ⟨_, rfl⟩
                        rw [← hbl] at hP1
                        obtain ⟨Z1, hZ1⟩ : ∃ Z : ByteArray, Z = ⟨#[13, 10, 13, 10, 0, 13, 10, 81, 85, 73, 84, 10]⟩ ++ ⟨#[33]⟩ := ⟨_, rfl⟩
                        obtain ⟨Z2, hZ2⟩ : ∃ Z : ByteArray, Z = Z1 ++ bs (be fc 1) := ⟨_, rfl⟩
                        obtain ⟨Z3, hZ3⟩ : ∃ Z : ByteArray, Z = Z2 ++ bs (be Tn 2) := ⟨_, rfl⟩
                        obtain ⟨B, hB⟩ : ∃ Z : ByteArray, Z = Z3 ++ T := ⟨_, rfl⟩
                        have z1 : Z1.size = 13 := by rw [hZ1]; rfl
                        have z2 : Z2.size = 14 := by rw [hZ2, ByteArray.size_append, z1, bs_size, be_length]
                        have z3 : Z3.size = 16 := by rw [hZ3, ByteArray.size_append, z2, bs_size, be_length]
                        have hBl : B = bs bl := by
                          rw [hB, hZ3, hZ2, hZ1, hbl, ← HTN.out, HT.out, HKK.out]
                          show bs signL ++ bs (be 33 1) ++ bs (be fc 1) ++ bs (be Tn 2) ++ bs tl = _
                          simp only [bs_append]
                        have hs1 : ∀ wx, (Op.stringOp .add ⟨#[13, 10, 13, 10, 0, 13, 10, 81, 85, 73, 84, 10]⟩ ⟨#[33]⟩).run Tryd.prog wx = .ok (.string Z1) wx := fun wx => by rw [hZ1]; exact run_string_add_sum wx _ _ (by decide)
                        have hs2 : ∀ wx, (Op.stringOp .add Z1 (bs (be fc 1))).run Tryd.prog wx = .ok (.string Z2) wx := fun wx => by rw [hZ2]; exact run_string_add_sum wx _ _ (by rw [z1, bs_size, be_length]; decide)
                        have hs3 : ∀ wx, (Op.stringOp .add Z2 (bs (be Tn 2))).run Tryd.prog wx = .ok (.string Z3) wx := fun wx => by rw [hZ3]; exact run_string_add_sum wx _ _ (by rw [z2, bs_size, be_length]; decide)
                        have hs4 : ∀ wx, (Op.stringOp .add Z3 T).run Tryd.prog wx = .ok (.string B) wx := fun wx => by rw [hB]; exact run_string_add_sum wx _ _ (by rw [z3, hTs]; omega)
                        have hBs : B.size = Tn + 16 := by rw [hB, ByteArray.size_append, z3, hTs]; omega
                        have hbll : bl.length = Tn + 16 := by rw [← bs_size, ← hBl]; exact hBs
                        obtain ⟨cs, hcs⟩ : ∃ c, c = (Crc.sum bl).toNat := ⟨_, rfl⟩
                        have hcl : cs < 4294967296 := by rw [hcs]; exact (Crc.sum bl).isLt
                        have SU : Hid (∀ V, Calls Tryd.prog 31 #[.string B] V fun e w' => e = .returned (.int .u32 cs) ∧ w' = V) := fun V => (CrcW.refsum_any B V (by rw [hBs]; omega)).mono fun e w' h => by
                          rw [hBl, bs_list, ← hcs] at h; exact h
                        have B6 : Hid (∀ V, Calls Tryd.prog 30 #[.int .u64 cs, .int .i64 4] V fun e w' => e = .returned (.string (bs (be cs 4))) ∧ Below V.heap.size V w') := fun V => rbytes_any cs 4 V (by omega) (by omega)
                        have hwc : IntKind.u64.wrap (cs : Int) = cs := by rw [IntKind.wrap_u64]; omega
                        obtain ⟨M, hM⟩ : ∃ M, M = Tn + 12 := ⟨_, rfl⟩
                        have m0 : IntKind.i64.wrap (((Tn + 16 : Nat) : Int) - 4) = (M : Int) := by rw [IntWalk.i64_in _ (by omega)]; omega
                        obtain ⟨Bn, hBn⟩ : ∃ n, n = Tn + 16 := ⟨_, rfl⟩
                        rw [← hBn] at hBs m0
                        have m1 : (0 : Int) ≤ (M : Int) := by omega
                        have m2 : (M : Int) ≤ (Bn : Int) := by omega
                        have m3 : M ≤ Bn := by omega
                        have m4 : (M : Int).toNat = M := by omega
                        have hs5 : ∀ wx, (Op.stringOp .add (B.extract 0 M) (bs (be cs 4))).run Tryd.prog wx = .ok (.string (bs P)) wx := fun wx => by
                          rw [run_string_add_sum wx _ _ (by rw [ByteArray.size_extract, bs_size, be_length]; omega)]
                          have : B.extract 0 M ++ bs (be cs 4) = bs P := by
                            rw [hP1, hBl, bs_extract, bs_append]
                            unfold sealed
                            rw [if_pos rfl, hcs, hbll, List.drop_zero, Nat.sub_zero, hM, show Tn + 16 - 4 = Tn + 12 from by omega]
                          rw [this]
                        have HD7 : Hid (∀ V : World, Below V.heap.size V V.drew) := fun V => (Below.refl _ _).drew
                        clear big hTn hZ1 hZ2 hZ3 hB hbl z1 z2 z3 hT7 hM hBn hcs hbll hcl hBl hP1
                        go_wp2_with (first | (go_at_call 29; (with_reducible refine (B4.out _).mono ?_); rintro e w3 ⟨rfl, hb3⟩; have HB3 := Lib.hid (HB2.out.trans (hb3.mono HB2.out.size)); obtain ⟨k0, k1, k2, k3, k4, k5, k6, _⟩ := HC.out _ HB3.out; clear hb3) | (go_at_call 30; (with_reducible refine (B1.out _).mono ?_); rintro e w5 ⟨rfl, hb5⟩; have HB5 := Lib.hid (HB3.out.trans (hb5.mono HB3.out.size)); clear hb5) | (go_at_call 29; (with_reducible refine (B2.out _).mono ?_); rintro e w6 ⟨rfl, hb6⟩; have HB6 := Lib.hid (HB5.out.trans (hb6.mono HB5.out.size)); clear hb6))
                        go_region_held3 (fun _ => True) (exact trivial) (first | (go_simp; go_at_call 31; (with_reducible refine (SU.out _).mono ?_); rintro e w7 ⟨rfl, rfl⟩) | (go_simp; go_at_call 30; (with_reducible refine (B6.out _).mono ?_); rintro e w8 ⟨rfl, hb8⟩; have HB8 := Lib.hid (HB6.out.trans (((HD7.out _).trans (hb8.mono (HD7.out _).size)).mono HB6.out.size))))
                        simp only [Exit.then]
                        go_wp2_with (fail)
                        go_ret2
                        exact ⟨(HC.out _ HB8.out).2.2.2.2.2.2.2.2, rfl⟩
                · have hm : Stm.may ⟨loc, 0, src, dst, 0, dp, fs⟩ (0, fc, 0) = false := by rw [hmay0, decide_eq_false q2, Bool.and_false]
                  obtain ⟨rfl, rfl⟩ := HNO.out hm
                  rw [decide_eq_false q2] at IN2
                  clear hm hmay0 HM0 q1 q2 c1 c2 hcl
                  cases loc with
                  | true =>
                    have e3' := e3 rfl
                    clear e3
                    go_wp2_with (first | (go_at_call 26; (with_reducible refine (FA.out _).mono ?_); rintro e w1 ⟨rfl, rfl⟩) | (go_at_call 27; (with_reducible refine (FL2.out _ HB0.out).mono ?_); rintro e w2 ⟨hb2, rfl⟩; have HB2 := Lib.hid hb2; obtain ⟨k0, k1, k2, k3, k4, k5, k6, _⟩ := HC.out _ hb2; clear hb2) | (go_at_call 28; (with_reducible refine (IN1.out _).mono ?_); rintro e w3 ⟨rfl, rfl⟩) | (go_at_call 28; (with_reducible refine (IN2.out _).mono ?_); rintro e w4 ⟨rfl, rfl⟩))
                    go_ret2
                    exact ⟨(HC.out _ HB2.out).2.2.2.2.2.2.2.2, rfl⟩
                  | false =>
                    clear e3
                    go_wp2_with (first | (go_at_call 26; (with_reducible refine (FA.out _).mono ?_); rintro e w1 ⟨rfl, rfl⟩) | (go_at_call 27; (with_reducible refine (FL2.out _ HB0.out).mono ?_); rintro e w2 ⟨hb2, rfl⟩; have HB2 := Lib.hid hb2; obtain ⟨k0, k1, k2, k3, k4, k5, k6, _⟩ := HC.out _ hb2; clear hb2) | (go_at_call 28; (with_reducible refine (IN1.out _).mono ?_); rintro e w3 ⟨rfl, rfl⟩) | (go_at_call 28; (with_reducible refine (IN2.out _).mono ?_); rintro e w4 ⟨rfl, rfl⟩))
                    go_ret2
                    exact ⟨(HC.out _ HB2.out).2.2.2.2.2.2.2.2, rfl⟩

              · have hm : Stm.may ⟨loc, 0, src, dst, sp, dp, fs⟩ (0, fc, 0) = false := by rw [hmay0, decide_eq_false q1, Bool.false_and]
                obtain ⟨rfl, rfl⟩ := HNO.out hm
                rw [decide_eq_false q1] at IN1
                clear hm hmay0 HM0 q1 c1 c2 hcl
                cases loc with
                | true =>
                  have e3' := e3 rfl
                  clear e3
                  go_wp2_with (first | (go_at_call 26; (with_reducible refine (FA.out _).mono ?_); rintro e w1 ⟨rfl, rfl⟩) | (go_at_call 27; (with_reducible refine (FL2.out _ HB0.out).mono ?_); rintro e w2 ⟨hb2, rfl⟩; have HB2 := Lib.hid hb2; obtain ⟨k0, k1, k2, k3, k4, k5, k6, _⟩ := HC.out _ hb2; clear hb2) | (go_at_call 28; (with_reducible refine (IN1.out _).mono ?_); rintro e w3 ⟨rfl, rfl⟩) | (go_at_call 28; (with_reducible refine (IN2.out _).mono ?_); rintro e w4 ⟨rfl, rfl⟩))
                  go_ret2
                  exact ⟨(HC.out _ HB2.out).2.2.2.2.2.2.2.2, rfl⟩
                | false =>
                  clear e3
                  go_wp2_with (first | (go_at_call 26; (with_reducible refine (FA.out _).mono ?_); rintro e w1 ⟨rfl, rfl⟩) | (go_at_call 27; (with_reducible refine (FL2.out _ HB0.out).mono ?_); rintro e w2 ⟨hb2, rfl⟩; have HB2 := Lib.hid hb2; obtain ⟨k0, k1, k2, k3, k4, k5, k6, _⟩ := HC.out _ hb2; clear hb2) | (go_at_call 28; (with_reducible refine (IN1.out _).mono ?_); rintro e w3 ⟨rfl, rfl⟩) | (go_at_call 28; (with_reducible refine (IN2.out _).mono ?_); rintro e w4 ⟨rfl, rfl⟩))
                  go_ret2
                  exact ⟨(HC.out _ HB2.out).2.2.2.2.2.2.2.2, rfl⟩

            · have hf0 : ¬ fn = 0 := fun q => hz (hfz.1 q)
              obtain rfl : loc = false := hcl.resolve_right hf0
              have ez : ((z : Int) == 0) = false := by rw [beq_eq_false_iff_ne]; omega
              have ezp : decide (0 < (z : Int)) = true := decide_eq_true (by omega)
              have ezp' : decide (0 < z) = true := decide_eq_true (by omega)
              have hzp : 0 < z := by omega
              have hmay0 : Stm.may ⟨false, fam, src, dst, sp, dp, fs⟩ (fn, fc, z) = (decide (0 ≤ sp ∧ sp ≤ 65535) && decide (0 ≤ dp ∧ dp ≤ 65535)) := by
                unfold Stm.may mayB pOk
                have hmo : mostOf (fn, fc, z) = 65535 := if_neg hf0
                rw [hmo]
                show (decide (0 ≤ sp ∧ sp ≤ 65535) && decide (0 ≤ dp ∧ dp ≤ 65535) && fs.all fOk && decide (src.length = z) && decide (dst.length = z) && (!false || decide (fn = 0))) = _
                rw [HALL.out, C1.out, C2.out]; simp
              have IN1 : Hid (∀ V, Calls Tryd.prog 28 #[.int .i64 sp, .int .i64 65535] V fun e w' => e = .returned (.bool (decide (0 ≤ sp ∧ sp ≤ 65535))) ∧ w' = V) := fun V => in_any sp 65535 V
              have IN2 : Hid (∀ V, Calls Tryd.prog 28 #[.int .i64 dp, .int .i64 65535] V fun e w' => e = .returned (.bool (decide (0 ≤ dp ∧ dp ≤ 65535))) ∧ w' = V) := fun V => in_any dp 65535 V
              have HFAM := Lib.hid hfn
              clear hcl e3 hfn hfz hf0 c1 c2 hz
              by_cases q1 : 0 ≤ sp ∧ sp ≤ 65535
              · by_cases q2 : 0 ≤ dp ∧ dp ≤ 65535
                · rw [decide_eq_true q1] at IN1
                  rw [decide_eq_true q2] at IN2
                  obtain ⟨spn, rfl⟩ : ∃ n : Nat, sp = n := ⟨sp.toNat, by omega⟩
                  obtain ⟨dpn, rfl⟩ : ∃ n : Nat, dp = n := ⟨dp.toNat, by omega⟩
                  have HMAY : Hid (Stm.may ⟨false, fam, src, dst, spn, dpn, fs⟩ (fn, fc, z) = true) := by show _ = _; rw [hmay0, decide_eq_true q1, decide_eq_true q2]; rfl
                  obtain ⟨rl, hrl⟩ : ∃ rl, rl = Stm.rest ⟨false, fam, src, dst, spn, dpn, fs⟩ (fn, fc, z) := ⟨_, rfl⟩
                  obtain ⟨R, hR⟩ : ∃ R, R = bs rl := ⟨_, rfl⟩
                  obtain ⟨F, hF⟩ : ∃ F, F = bs (fdB (fs.map natF)) := ⟨_, rfl⟩
                  have hrl2 : rl = src ++ dst ++ be spn 2 ++ be dpn 2 ++ fdB (fs.map natF) := by
                    rw [hrl]
                    show headB z src dst spn dpn ++ fdB (fs.map natF) = _
                    unfold headB
                    rw [if_pos hzp]
                  have hRF : bs src ++ bs dst ++ bs (be spn 2) ++ bs (be dpn 2) ++ F = R := by
                    rw [hR, hrl2, hF]; simp only [bs_append]
                  have hFs : F.size ≤ 65540000000 := by rw [hF, bs_size]; have := fdB_lenk HALL.out; omega
                  have hsz : src.length = z := C1.out
                  have hdz : dst.length = z := C2.out
                  have hR12 : rl.length ≤ 1000000000000 := by
                    rw [hrl2]; have := fdB_lenk HALL.out; simp only [List.length_append, be_length]; omega
                  obtain ⟨Y1, hY1⟩ : ∃ Z : ByteArray, Z = bs src ++ bs dst := ⟨_, rfl⟩
                  obtain ⟨Y2, hY2⟩ : ∃ Z : ByteArray, Z = Y1 ++ bs (be spn 2) := ⟨_, rfl⟩
                  obtain ⟨Y3, hY3⟩ : ∃ Z : ByteArray, Z = Y2 ++ bs (be dpn 2) := ⟨_, rfl⟩
                  rw [← hY1, ← hY2, ← hY3] at hRF
                  have y1 : Y1.size ≤ 2000 := by rw [hY1, ByteArray.size_append, hss, hds]; omega
                  have y2 : Y2.size ≤ 2002 := by rw [hY2, ByteArray.size_append, bs_size, be_length]; omega
                  have y3 : Y3.size ≤ 2004 := by rw [hY3, ByteArray.size_append, bs_size, be_length]; omega
                  have hy1 : ∀ wx, (Op.stringOp .add (bs src) (bs dst)).run Tryd.prog wx = .ok (.string Y1) wx := fun wx => by rw [hY1]; exact run_string_add_sum wx _ _ (by rw [hss, hds]; omega)
                  have hy2 : ∀ wx, (Op.stringOp .add Y1 (bs (be spn 2))).run Tryd.prog wx = .ok (.string Y2) wx := fun wx => by rw [hY2]; exact run_string_add_sum wx _ _ (by rw [bs_size, be_length]; omega)
                  have hy3 : ∀ wx, (Op.stringOp .add Y2 (bs (be dpn 2))).run Tryd.prog wx = .ok (.string Y3) wx := fun wx => by rw [hY3]; exact run_string_add_sum wx _ _ (by rw [bs_size, be_length]; omega)
                  have hy4 : ∀ wx, (Op.stringOp .add Y3 F).run Tryd.prog wx = .ok (.string R) wx := fun wx => by rw [← hRF]; exact run_string_add_sum wx _ _ (by omega)
                  have P1 : Hid (∀ V, Calls Tryd.prog 29 #[.int .i64 spn] V fun e w' => e = .returned (.string (bs (be spn 2))) ∧ Below V.heap.size V w') := fun V => two_any spn V (by omega)
                  have P2 : Hid (∀ V, Calls Tryd.prog 29 #[.int .i64 dpn] V fun e w' => e = .returned (.string (bs (be dpn 2))) ∧ Below V.heap.size V w') := fun V => two_any dpn V (by omega)
                  rw [← hF] at FL2
                  have HR := Lib.hid hR
                  have HRL := Lib.hid hrl
                  have HD7 : Hid (∀ V : World, Below V.heap.size V V.drew) := fun V => (Below.refl _ _).drew
                  clear hmay0 hRF q1 q2 hR hrl hrl2 hF hY1 hY2 hY3 y1 y2 y3 hsz hdz hFs
                  go_upto_region 11 with (first | (go_at_call 26; (with_reducible refine (FA.out _).mono ?_); rintro e w1 ⟨rfl, rfl⟩) | (go_at_call 27; (with_reducible refine (FL2.out _ HB0.out).mono ?_); rintro e w2 ⟨hb2, rfl⟩; have HB2 := Lib.hid hb2; obtain ⟨k0, k1, k2, k3, k4, k5, k6, _⟩ := HC.out _ hb2; clear hb2) | (go_at_call 28; (with_reducible refine (IN1.out _).mono ?_); rintro e w3 ⟨rfl, rfl⟩) | (go_at_call 28; (with_reducible refine (IN2.out _).mono ?_); rintro e w4 ⟨rfl, rfl⟩))
                  go_region_held3 (fun w' => w'.cell? ⟨w.heap.size, 2, none⟩ = some (.string (bs src)) ∧ w'.cell? ⟨w.heap.size, 3, none⟩ = some (.string (bs dst)) ∧ w'.cell? ⟨w.heap.size, 4, none⟩ = some (.int .i64 spn) ∧ w'.cell? ⟨w.heap.size, 5, none⟩ = some (.int .i64 dpn)) (go_keep) (first | (go_simp; go_at_call 29; (with_reducible refine (P1.out _).mono ?_); rintro e w5 ⟨rfl, hb5⟩; have HB5 := Lib.hid (HB2.out.trans (((HD7.out _).trans (hb5.mono (HD7.out _).size)).mono HB2.out.size)); obtain ⟨g0, g1, g2, g3, g4, g5, _⟩ := HC.out _ HB5.out; clear hb5) | (go_simp; go_at_call 29; (with_reducible refine (P2.out _).mono ?_); rintro e w6 ⟨rfl, hb6⟩; have HBX := Lib.hid (HB5.out.trans (hb6.mono HB5.out.size)); obtain ⟨g6, g7, g8, g9, g10, g11, _⟩ := HC.out _ HBX.out; clear hb6))
                  simp only [Exit.then]
                  obtain ⟨k0, k1, k2, k3, k4, k5, k6, _⟩ := HC.out _ HBX.out
                  go_upto_region 12 with (fail)
                  obtain ⟨KK, hkk⟩ : ∃ c, c = Stm.cmd ⟨false, fam, src, dst, spn, dpn, fs⟩ := ⟨_, rfl⟩
                  have HKK : Hid (KK = 33) := by show KK = 33; rw [hkk]; rfl
                  obtain ⟨tl, htl⟩ : ∃ tl, tl = Stm.tail ⟨false, fam, src, dst, spn, dpn, fs⟩ sl (fn, fc, z) := ⟨_, rfl⟩
                  have htr : tl = rl ++ (if sl then sealL else []) := by rw [htl, HRL.out]; rfl
                  obtain ⟨HBIG, HSM⟩ := HYES.out HMAY.out tl htl
                  rw [← hkk] at HSM
                  have HBIG := Lib.hid HBIG
                  have HSM := Lib.hid HSM
                  obtain ⟨Tn, hTn⟩ : ∃ n, n = tl.length := ⟨_, rfl⟩
                  obtain ⟨T, hT⟩ : ∃ T, T = bs tl := ⟨_, rfl⟩
                  have hTs : T.size = Tn := by rw [hT, bs_size, hTn]
                  have HTN := Lib.hid hTn
                  have hrl9 : rl.length ≤ Tn := by rw [hTn, htr, List.length_append]; omega
                  have B1 : Hid (∀ V, Calls Tryd.prog 30 #[.int .u64 fc, .int .i64 1] V fun e w' => e = .returned (.string (bs (be fc 1))) ∧ Below V.heap.size V w') := fun V => rbytes_any fc 1 V (by omega) (by omega)
                  have ew : IntKind.u64.wrap (fc : Int) = fc := by rw [IntKind.wrap_u64]; omega
                  cases sl with
                  | false =>
                    have hTR : T = R := by rw [hT, HR.out, htr]; simp
                    subst hTR
                    have HT := Lib.hid hT
                    clear htr htl hT hkk
                    by_cases big : 65535 < Tn
                    · have e9 : decide (65535 < (Tn : Int)) = true := decide_eq_true (by omega)
                      obtain ⟨rfl, rfl⟩ := HBIG.out (by rw [← HTN.out]; exact big)
                      clear big hTn
                      go_wp2_with (fail)
                      go_ret2
                      exact ⟨(HC.out _ HBX.out).2.2.2.2.2.2.2.2, rfl⟩
                    · have e9 : decide (65535 < (Tn : Int)) = false := decide_eq_false (by omega)
                      obtain ⟨hP1, rfl⟩ := HSM.out (by rw [← HTN.out]; omega)
                      have B2 : Hid (∀ V, Calls Tryd.prog 29 #[.int .i64 Tn] V fun e w' => e = .returned (.string (bs (be Tn 2))) ∧ Below V.heap.size V w') := fun V => two_any Tn V (by omega)
                      obtain ⟨bl, hbl⟩ : ∃ bl, bl = signL ++ be KK 1 ++ be fc 1 ++ be tl.length 2 ++ tl := ⟨_, rfl⟩
                      rw [← hbl] at hP1
                      obtain ⟨Z1, hZ1⟩ : ∃ Z : ByteArray, Z = ⟨#[13, 10, 13, 10, 0, 13, 10, 81, 85, 73, 84, 10]⟩ ++ ⟨#[33]⟩ := ⟨_, rfl⟩
                      obtain ⟨Z2, hZ2⟩ : ∃ Z : ByteArray, Z = Z1 ++ bs (be fc 1) := ⟨_, rfl⟩
                      obtain ⟨Z3, hZ3⟩ : ∃ Z : ByteArray, Z = Z2 ++ bs (be Tn 2) := ⟨_, rfl⟩
                      obtain ⟨B, hB⟩ : ∃ Z : ByteArray, Z = Z3 ++ T := ⟨_, rfl⟩
                      have z1 : Z1.size = 13 := by rw [hZ1]; rfl
                      have z2 : Z2.size = 14 := by rw [hZ2, ByteArray.size_append, z1, bs_size, be_length]
                      have z3 : Z3.size = 16 := by rw [hZ3, ByteArray.size_append, z2, bs_size, be_length]
                      have hBl : B = bs bl := by
                        rw [hB, hZ3, hZ2, hZ1, hbl, ← HTN.out, HT.out, HKK.out]
                        show bs signL ++ bs (be 33 1) ++ bs (be fc 1) ++ bs (be Tn 2) ++ bs tl = _
                        simp only [bs_append]
                      have hs1 : ∀ wx, (Op.stringOp .add ⟨#[13, 10, 13, 10, 0, 13, 10, 81, 85, 73, 84, 10]⟩ ⟨#[33]⟩).run Tryd.prog wx = .ok (.string Z1) wx := fun wx => by rw [hZ1]; exact run_string_add_sum wx _ _ (by decide)
                      have hs2 : ∀ wx, (Op.stringOp .add Z1 (bs (be fc 1))).run Tryd.prog wx = .ok (.string Z2) wx := fun wx => by rw [hZ2]; exact run_string_add_sum wx _ _ (by rw [z1, bs_size, be_length]; decide)
                      have hs3 : ∀ wx, (Op.stringOp .add Z2 (bs (be Tn 2))).run Tryd.prog wx = .ok (.string Z3) wx := fun wx => by rw [hZ3]; exact run_string_add_sum wx _ _ (by rw [z2, bs_size, be_length]; decide)
                      have hs4 : ∀ wx, (Op.stringOp .add Z3 T).run Tryd.prog wx = .ok (.string B) wx := fun wx => by rw [hB]; exact run_string_add_sum wx _ _ (by rw [z3, hTs]; omega)
                      clear big hTn hZ1 hZ2 hZ3 hB hbl z1 z2 z3
                      have HBP : Hid (B = bs P) := by show B = bs P; rw [hBl, hP1]; rfl
                      clear hBl hP1
                      go_wp2_with (first | (go_at_call 30; (with_reducible refine (B1.out _).mono ?_); rintro e w5 ⟨rfl, hb5⟩; have HB5 := Lib.hid (HBX.out.trans (hb5.mono HBX.out.size)); clear hb5) | (go_at_call 29; (with_reducible refine (B2.out _).mono ?_); rintro e w6 ⟨rfl, hb6⟩; have HB6 := Lib.hid (HB5.out.trans (hb6.mono HB5.out.size)); clear hb6))
                      go_ret2
                      exact ⟨(HC.out _ HB6.out).2.2.2.2.2.2.2.2, by rw [← HBP.out]; rfl⟩
                  | true =>
                    have hTR : R ++ ⟨#[3]⟩ ++ bs (be 4 2) ++ ⟨#[0, 0, 0, 0]⟩ = T := by
                      rw [hT, HR.out, htr]
                      show bs rl ++ bs [3] ++ bs (be 4 2) ++ bs [0, 0, 0, 0] = _
                      simp only [bs_append]
                      congr 1
                      simp [sealL, be]
                    have hT7 : Tn = rl.length + 7 := by rw [hTn, htr, List.length_append]; rfl
                    have hrn : R.size = rl.length := by rw [HR.out]; exact bs_size rl
                    have HT := Lib.hid hT
                    obtain ⟨U1, hU1⟩ : ∃ Z : ByteArray, Z = R ++ ⟨#[3]⟩ := ⟨_, rfl⟩
                    obtain ⟨U2, hU2⟩ : ∃ Z : ByteArray, Z = U1 ++ bs (be 4 2) := ⟨_, rfl⟩
                    rw [← hU1, ← hU2] at hTR
                    have u1 : U1.size = rl.length + 1 := by rw [hU1, ByteArray.size_append, hrn]; rfl
                    have u2 : U2.size = rl.length + 3 := by rw [hU2, ByteArray.size_append, u1, bs_size, be_length]
                    have ht1 : ∀ wx, (Op.stringOp .add R ⟨#[3]⟩).run Tryd.prog wx = .ok (.string U1) wx := fun wx => by rw [hU1]; exact run_string_add_sum wx _ _ (by rw [hrn]; show rl.length + 1 ≤ _; omega)
                    have ht2 : ∀ wx, (Op.stringOp .add U1 (bs (be 4 2))).run Tryd.prog wx = .ok (.string U2) wx := fun wx => by rw [hU2]; exact run_string_add_sum wx _ _ (by rw [u1, bs_size, be_length]; omega)
                    have ht3 : ∀ wx, (Op.stringOp .add U2 ⟨#[0, 0, 0, 0]⟩).run Tryd.prog wx = .ok (.string T) wx := fun wx => by rw [← hTR]; exact run_string_add_sum wx _ _ (by rw [u2]; show rl.length + 3 + 4 ≤ _; omega)
                    have B4 : Hid (∀ V, Calls Tryd.prog 29 #[.int .i64 4] V fun e w' => e = .returned (.string (bs (be 4 2))) ∧ Below V.heap.size V w') := fun V => two_any 4 V (by omega)
                    have HT12 := Lib.hid hR12
                    clear htr htl hT hkk hTR hU1 hU2 u1 u2 hrn hrl9
                    by_cases big : 65535 < Tn
                    · have e9 : decide (65535 < (Tn : Int)) = true := decide_eq_true (by omega)
                      obtain ⟨rfl, rfl⟩ := HBIG.out (by rw [← HTN.out]; exact big)
                      clear big hTn hT7
                      go_wp2_with (first | (go_at_call 29; (with_reducible refine (B4.out _).mono ?_); rintro e w3 ⟨rfl, hb3⟩; have HB3 := Lib.hid (HBX.out.trans (hb3.mono HBX.out.size)); clear hb3))
                      go_ret2
                      exact ⟨(HC.out _ HB3.out).2.2.2.2.2.2.2.2, rfl⟩
                    · have e9 : decide (65535 < (Tn : Int)) = false := decide_eq_false (by omega)
                      obtain ⟨hP1, rfl⟩ := HSM.out (by rw [← HTN.out]; omega)
                      have B2 : Hid (∀ V, Calls Tryd.prog 29 #[.int .i64 Tn] V fun e w' => e = .returned (.string (bs (be Tn 2))) ∧ Below V.heap.size V w') := fun V => two_any Tn V (by omega)
                      obtain ⟨bl, hbl⟩ : ∃ bl, bl = signL ++ be KK 1 ++ be fc 1 ++ be tl.length 2 ++ tl := ⟨_, rfl⟩
                      rw [← hbl] at hP1
                      obtain ⟨Z1, hZ1⟩ : ∃ Z : ByteArray, Z = ⟨#[13, 10, 13, 10, 0, 13, 10, 81, 85, 73, 84, 10]⟩ ++ ⟨#[33]⟩ := ⟨_, rfl⟩
                      obtain ⟨Z2, hZ2⟩ : ∃ Z : ByteArray, Z = Z1 ++ bs (be fc 1) := ⟨_, rfl⟩
                      obtain ⟨Z3, hZ3⟩ : ∃ Z : ByteArray, Z = Z2 ++ bs (be Tn 2) := ⟨_, rfl⟩
                      obtain ⟨B, hB⟩ : ∃ Z : ByteArray, Z = Z3 ++ T := ⟨_, rfl⟩
                      have z1 : Z1.size = 13 := by rw [hZ1]; rfl
                      have z2 : Z2.size = 14 := by rw [hZ2, ByteArray.size_append, z1, bs_size, be_length]
                      have z3 : Z3.size = 16 := by rw [hZ3, ByteArray.size_append, z2, bs_size, be_length]
                      have hBl : B = bs bl := by
                        rw [hB, hZ3, hZ2, hZ1, hbl, ← HTN.out, HT.out, HKK.out]
                        show bs signL ++ bs (be 33 1) ++ bs (be fc 1) ++ bs (be Tn 2) ++ bs tl = _
                        simp only [bs_append]
                      have hs1 : ∀ wx, (Op.stringOp .add ⟨#[13, 10, 13, 10, 0, 13, 10, 81, 85, 73, 84, 10]⟩ ⟨#[33]⟩).run Tryd.prog wx = .ok (.string Z1) wx := fun wx => by rw [hZ1]; exact run_string_add_sum wx _ _ (by decide)
                      have hs2 : ∀ wx, (Op.stringOp .add Z1 (bs (be fc 1))).run Tryd.prog wx = .ok (.string Z2) wx := fun wx => by rw [hZ2]; exact run_string_add_sum wx _ _ (by rw [z1, bs_size, be_length]; decide)
                      have hs3 : ∀ wx, (Op.stringOp .add Z2 (bs (be Tn 2))).run Tryd.prog wx = .ok (.string Z3) wx := fun wx => by rw [hZ3]; exact run_string_add_sum wx _ _ (by rw [z2, bs_size, be_length]; decide)
                      have hs4 : ∀ wx, (Op.stringOp .add Z3 T).run Tryd.prog wx = .ok (.string B) wx := fun wx => by rw [hB]; exact run_string_add_sum wx _ _ (by rw [z3, hTs]; omega)
                      have hBs : B.size = Tn + 16 := by rw [hB, ByteArray.size_append, z3, hTs]; omega
                      have hbll : bl.length = Tn + 16 := by rw [← bs_size, ← hBl]; exact hBs
                      obtain ⟨cs, hcs⟩ : ∃ c, c = (Crc.sum bl).toNat := ⟨_, rfl⟩
                      have hcl : cs < 4294967296 := by rw [hcs]; exact (Crc.sum bl).isLt
                      have SU : Hid (∀ V, Calls Tryd.prog 31 #[.string B] V fun e w' => e = .returned (.int .u32 cs) ∧ w' = V) := fun V => (CrcW.refsum_any B V (by rw [hBs]; omega)).mono fun e w' h => by
                        rw [hBl, bs_list, ← hcs] at h; exact h
                      have B6 : Hid (∀ V, Calls Tryd.prog 30 #[.int .u64 cs, .int .i64 4] V fun e w' => e = .returned (.string (bs (be cs 4))) ∧ Below V.heap.size V w') := fun V => rbytes_any cs 4 V (by omega) (by omega)
                      have hwc : IntKind.u64.wrap (cs : Int) = cs := by rw [IntKind.wrap_u64]; omega
                      obtain ⟨M, hM⟩ : ∃ M, M = Tn + 12 := ⟨_, rfl⟩
                      have m0 : IntKind.i64.wrap (((Tn + 16 : Nat) : Int) - 4) = (M : Int) := by rw [IntWalk.i64_in _ (by omega)]; omega
                      obtain ⟨Bn, hBn⟩ : ∃ n, n = Tn + 16 := ⟨_, rfl⟩
                      rw [← hBn] at hBs m0
                      have m1 : (0 : Int) ≤ (M : Int) := by omega
                      have m2 : (M : Int) ≤ (Bn : Int) := by omega
                      have m3 : M ≤ Bn := by omega
                      have m4 : (M : Int).toNat = M := by omega
                      have hs5 : ∀ wx, (Op.stringOp .add (B.extract 0 M) (bs (be cs 4))).run Tryd.prog wx = .ok (.string (bs P)) wx := fun wx => by
                        rw [run_string_add_sum wx _ _ (by rw [ByteArray.size_extract, bs_size, be_length]; omega)]
                        have : B.extract 0 M ++ bs (be cs 4) = bs P := by
                          rw [hP1, hBl, bs_extract, bs_append]
                          unfold sealed
                          rw [if_pos rfl, hcs, hbll, List.drop_zero, Nat.sub_zero, hM, show Tn + 16 - 4 = Tn + 12 from by omega]
                        rw [this]
                      have HD7 : Hid (∀ V : World, Below V.heap.size V V.drew) := fun V => (Below.refl _ _).drew
                      clear big hTn hZ1 hZ2 hZ3 hB hbl z1 z2 z3 hT7 hM hBn hcs hbll hcl hBl hP1
                      go_wp2_with (first | (go_at_call 29; (with_reducible refine (B4.out _).mono ?_); rintro e w3 ⟨rfl, hb3⟩; have HB3 := Lib.hid (HBX.out.trans (hb3.mono HBX.out.size)); obtain ⟨k0, k1, k2, k3, k4, k5, k6, _⟩ := HC.out _ HB3.out; clear hb3) | (go_at_call 30; (with_reducible refine (B1.out _).mono ?_); rintro e w5 ⟨rfl, hb5⟩; have HB5 := Lib.hid (HB3.out.trans (hb5.mono HB3.out.size)); clear hb5) | (go_at_call 29; (with_reducible refine (B2.out _).mono ?_); rintro e w6 ⟨rfl, hb6⟩; have HB6 := Lib.hid (HB5.out.trans (hb6.mono HB5.out.size)); clear hb6))
                      go_region_held3 (fun _ => True) (exact trivial) (first | (go_simp; go_at_call 31; (with_reducible refine (SU.out _).mono ?_); rintro e w7 ⟨rfl, rfl⟩) | (go_simp; go_at_call 30; (with_reducible refine (B6.out _).mono ?_); rintro e w8 ⟨rfl, hb8⟩; have HB8 := Lib.hid (HB6.out.trans (((HD7.out _).trans (hb8.mono (HD7.out _).size)).mono HB6.out.size))))
                      simp only [Exit.then]
                      go_wp2_with (fail)
                      go_ret2
                      exact ⟨(HC.out _ HB8.out).2.2.2.2.2.2.2.2, rfl⟩
                · have hm : Stm.may ⟨false, fam, src, dst, sp, dp, fs⟩ (fn, fc, z) = false := by rw [hmay0, decide_eq_false q2, Bool.and_false]
                  obtain ⟨rfl, rfl⟩ := HNO.out hm
                  rw [decide_eq_false q2] at IN2
                  rw [decide_eq_true q1] at IN1
                  clear q1 hm hmay0 q2
                  go_wp2_with (first | (go_at_call 26; (with_reducible refine (FA.out _).mono ?_); rintro e w1 ⟨rfl, rfl⟩) | (go_at_call 27; (with_reducible refine (FL2.out _ HB0.out).mono ?_); rintro e w2 ⟨hb2, rfl⟩; have HB2 := Lib.hid hb2; obtain ⟨k0, k1, k2, k3, k4, k5, k6, _⟩ := HC.out _ hb2; clear hb2) | (go_at_call 28; (with_reducible refine (IN1.out _).mono ?_); rintro e w3 ⟨rfl, rfl⟩) | (go_at_call 28; (with_reducible refine (IN2.out _).mono ?_); rintro e w4 ⟨rfl, rfl⟩))
                  go_ret2
                  exact ⟨(HC.out _ HB2.out).2.2.2.2.2.2.2.2, rfl⟩

              · have hm : Stm.may ⟨false, fam, src, dst, sp, dp, fs⟩ (fn, fc, z) = false := by rw [hmay0, decide_eq_false q1, Bool.false_and]
                obtain ⟨rfl, rfl⟩ := HNO.out hm
                rw [decide_eq_false q1] at IN1
                clear hm hmay0 q1
                go_wp2_with (first | (go_at_call 26; (with_reducible refine (FA.out _).mono ?_); rintro e w1 ⟨rfl, rfl⟩) | (go_at_call 27; (with_reducible refine (FL2.out _ HB0.out).mono ?_); rintro e w2 ⟨hb2, rfl⟩; have HB2 := Lib.hid hb2; obtain ⟨k0, k1, k2, k3, k4, k5, k6, _⟩ := HC.out _ hb2; clear hb2) | (go_at_call 28; (with_reducible refine (IN1.out _).mono ?_); rintro e w3 ⟨rfl, rfl⟩) | (go_at_call 28; (with_reducible refine (IN2.out _).mono ?_); rintro e w4 ⟨rfl, rfl⟩))
                go_ret2
                exact ⟨(HC.out _ HB2.out).2.2.2.2.2.2.2.2, rfl⟩
        · have e2 : ((dst.length : Int) != (z : Int)) = true := by rw [bne, beq_eq_false_iff_ne.2 (by omega)]; rfl
          have hm : Stm.may ⟨loc, fam, src, dst, sp, dp, fs⟩ (fn, fc, z) = false := by unfold Stm.may mayB; simp [c2]
          obtain ⟨rfl, rfl⟩ := HNO.out hm
          clear hm c1 c2
          go_wp2_with (first | (go_at_call 26; (with_reducible refine (FA.out _).mono ?_); rintro e w1 ⟨rfl, rfl⟩) | (go_at_call 27; (with_reducible refine (FL2.out _ HB0.out).mono ?_); rintro e w2 ⟨hb2, rfl⟩; have HB2 := Lib.hid hb2; obtain ⟨k0, k1, k2, k3, k4, k5, k6, _⟩ := HC.out _ hb2; clear hb2))
          go_ret2
          exact ⟨(HC.out _ HB2.out).2.2.2.2.2.2.2.2, rfl⟩
      · have e1 : ((src.length : Int) != (z : Int)) = true := by rw [bne, beq_eq_false_iff_ne.2 (by omega)]; rfl
        have hm : Stm.may ⟨loc, fam, src, dst, sp, dp, fs⟩ (fn, fc, z) = false := by unfold Stm.may mayB; simp [c1]
        obtain ⟨rfl, rfl⟩ := HNO.out hm
        clear hm c1
        go_wp2_with (first | (go_at_call 26; (with_reducible refine (FA.out _).mono ?_); rintro e w1 ⟨rfl, rfl⟩) | (go_at_call 27; (with_reducible refine (FL2.out _ HB0.out).mono ?_); rintro e w2 ⟨hb2, rfl⟩; have HB2 := Lib.hid hb2; obtain ⟨k0, k1, k2, k3, k4, k5, k6, _⟩ := HC.out _ hb2; clear hb2))
        go_ret2
        exact ⟨(HC.out _ HB2.out).2.2.2.2.2.2.2.2, rfl⟩
end Go.Proofs.YtfagkmmenfeppaaDoor
