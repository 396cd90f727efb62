import Derived.Test.YtmijfhfjhbckdaaReps
/- script.Bytes. -/
namespace Go.Proofs.Ytmijfhfjhbckdaa
set_option maxRecDepth 100000
open Go.RowKit
theorem be_mod (n n' : Nat) : ∀ m, n % 256 ^ m = n' % 256 ^ m → be n m = be n' m
  | 0, _ => rfl
  | m + 1, h => by
    show UInt8.ofNat (n / 256 ^ m % 256) :: be n m = UInt8.ofNat (n' / 256 ^ m % 256) :: be n' m
    have h1 : n / 256 ^ m % 256 = n' / 256 ^ m % 256 := by
      rw [← Nat.mod_mul_right_div_self, ← Nat.mod_mul_right_div_self, ← Nat.pow_succ, h]
    have h2 : n % 256 ^ m = n' % 256 ^ m := by
      have e1 : n % 256 ^ (m + 1) % 256 ^ m = n % 256 ^ m := Nat.mod_mod_of_dvd _ ⟨256, by rw [Nat.pow_succ]⟩
      have e2 : n' % 256 ^ (m + 1) % 256 ^ m = n' % 256 ^ m := Nat.mod_mod_of_dvd _ ⟨256, by rw [Nat.pow_succ]⟩
      rw [← e1, ← e2, h]
    rw [h1, be_mod n n' m h2]
theorem be_u32 (z : Int) : be (u32 z) 4 = be (u64 z) 4 := be_mod _ _ 4 (by unfold u32 u64; omega)
abbrev lo64 (z : Int) : Nat := u64 z
abbrev lo32 (z : Int) : Nat := u32 z
theorem wrap_lo32 (z : Int) : IntKind.u32.wrap z = (lo32 z : Int) := by rw [IntKind.wrap_u32]; show _ = ((u32 z : Nat) : Int); unfold u32; omega
set_option maxHeartbeats 16000000 in
theorem bytes_any (l : List RepL) (a : Option Addr) (cap : Nat) (w : World) (hin : RepIn w a l) (hfew : ∀ r ∈ l, r.few) (hl : l.length ≤ 40) :
    Calls Try.prog 17 #[.slice a l.length cap] w fun e w' => e = .returned (.string (bs (repsB l))) ∧ Below w.heap.size w w' := by
  obtain ⟨b, hb⟩ : ∃ b, b = w.heap.size := ⟨_, rfl⟩
  obtain ⟨W, hW⟩ : ∃ W, W = w.alloc (.cells #[.pointer none, .slice none 0 0] 95) := ⟨_, rfl⟩
  have I0 : IsW b [] W := by rw [hW]; exact IsW.fresh w hb.symm
  have AP : ∀ x, x < b → Apart b x W := fun x hx => by rw [hW]; exact fresh_apart w hb.symm hx
  have bW : Below w.heap.size w W := by rw [hW]; exact (Below.refl _ _).alloc (Nat.le_refl _) _
  have HV : Hid (∀ V, Keeps b W V → Below w.heap.size w V) := fun V h => bW.trans (h.below (fun x hx => AP x (by omega)))
  have HIN : Hid (∀ V, Keeps b W V → RepIn V a l) := fun V h => hin.below (HV.out V h)
  obtain ⟨n, hn⟩ : ∃ n, n = l.length := ⟨_, rfl⟩
  rw [← hn]
  have HN := Lib.hid hn
  have HFEW := Lib.hid hfew
  have I0' := Lib.hid I0
  have hn40 : n ≤ 40 := by omega
  clear hin hfew hn I0 AP bW hl
  go_enter Try.func17, Try.ntmps17
  go_upto_region 2 with (fail)
  rw [← hW, ← hb]
  clear hW hb
  go_wp2_with (fail)
  go_loopw [13] (fun t wr => ∃ j : Nat, j ≤ n ∧ t = .int .i64 j ∧ Hid (IsW b (repsB (l.take j)) wr) ∧ Hid (Keeps b W wr)) (fun t _ => n - (intOf t).toNat)
  case atStart => exact ⟨0, by omega, rfl, I0'.out, Keeps.refl _ _⟩
  case round =>
    obtain ⟨j, hj, rfl, hw, hk⟩ := hrel
    by_cases hlt : j < n
    · have hlt' : (j : Int) < (n : Int) := by omega
      have hjl : j < l.length := by rw [← HN.out]; exact hlt
      obtain ⟨x, hx, at0⟩ := HIN.out _ hk.out j hjl
      have few := HFEW.out l[j] (List.getElem_mem hjl)
      have hsn := repsB_snoc l j hjl
      obtain ⟨r, hr⟩ : ∃ r, r = l[j] := ⟨_, rfl⟩
      rw [← hr] at at0 few hsn
      have htl : (repsB (l.take j)).length ≤ 200000000 := by
        have := repsB_len (l.take j) (fun y hy => HFEW.out y (List.mem_of_mem_take hy))
        rw [List.length_take] at this
        omega
      obtain ⟨acc, hacc⟩ : ∃ z, z = repsB (l.take j) := ⟨_, rfl⟩
      rw [← hacc] at hw htl hsn
      obtain ⟨y, hy⟩ : ∃ y, y = x.add (j * 4) := ⟨_, rfl⟩
      rw [← hy] at at0
      have hy' := hy.symm
      obtain ⟨e, nn, cs, ca, cc, os, oa, oc⟩ := r
      have c0 := at0.c0
      have c1 := at0.c1
      have c2 := at0.c2
      have c3 := at0.c3
      have hcl := at0.cl
      have hol := at0.ol
      simp only at c0 c1 c2 c3 hcl hol
      obtain ⟨mc, hmc⟩ : ∃ m, m = cs.length := ⟨_, rfl⟩
      obtain ⟨mo, hmo⟩ : ∃ m, m = os.length := ⟨_, rfl⟩
      rw [← hmc] at c2 hcl
      rw [← hmo] at c3 hol
      have hmc9 : mc ≤ 600 := by have := few.c; simp only at this; omega
      have hmo9 : mo ≤ 60 := by have := few.o; simp only at this; omega
      rw [hx]
      have P0 := PSt.start hw.out #[.int .i64 e, .int .i64 nn, .slice ca mc cc, .slice oa mo oc] 58
      have KW := Lib.hid hk.out
      have HSN := Lib.hid hsn
      have FEW := Lib.hid few
      have HMC := Lib.hid hmc
      have HMO := Lib.hid hmo
      have HTL := Lib.hid htl
      have CI : Hid (∀ V, Keeps b W V → IntIn V ca cs ∧ StrIn V oa os) := fun V hV => by
        obtain ⟨x', hx', a1⟩ := HIN.out _ hV j hjl
        rw [← hr] at a1
        exact ⟨a1.ci, a1.oi⟩
      obtain ⟨X, hX⟩ : ∃ X, X = wr.heap.size := ⟨_, rfl⟩
      obtain ⟨V, hVV⟩ : ∃ V, V = wr.alloc (.cells #[.int .i64 e, .int .i64 nn, .slice ca mc cc, .slice oa mo oc] 58) := ⟨_, rfl⟩
      rw [← hX, ← hVV] at P0
      have PP : Hid (PSt b X #[.int .i64 e, .int .i64 nn, .slice ca mc cc, .slice oa mo oc] 58 W acc V) := ⟨P0.wr, P0.hX, P0.ap, KW.out.trans P0.kp⟩
      have d0 := cellAt (i := 0) (v := .int .i64 e) P0.hX rfl
      have U1 : Hid (Calls Try.prog 35 #[.pointer (some ⟨b, 0, none⟩), .int .i64 e] V fun e' w' => e' = .returned (.tuple #[]) ∧ IsW b (acc ++ be (lo64 e) 1) w' ∧ Keeps b V w') := w8_z b e acc V P0.wr (by omega)
      clear hw hk hsn few hmc hmo htl at0 hr hacc hy hx P0
      go_upto_region 5 with (fail)
      rw [← hVV, ← hX]
      clear hVV hX
      go_wp2_with (fail)
      (with_reducible refine U1.out.mono ?_)
      clear U1 d0
      rintro e1 w1 ⟨rfl, h1, h2⟩
      have P1 := Lib.hid (PP.out.put h1 h2)
      clear h1 h2 PP
      have d1 := cellAt (i := 1) (v := .int .i64 nn) P1.out.hX rfl
      obtain ⟨un, hun⟩ : ∃ u, u = lo32 nn := ⟨_, rfl⟩
      have hu : IntKind.u32.wrap nn = (un : Int) := by rw [hun]; exact wrap_lo32 nn
      have U2 : Hid (Calls Try.prog 40 #[.pointer (some ⟨b, 0, none⟩), .int .u32 (un : Nat)] w1 fun e' w' => e' = .returned (.tuple #[]) ∧ IsW b (acc ++ be (lo64 e) 1 ++ be un 4) w' ∧ Keeps b w1 w') := w32_k b un _ w1 (by rw [hun]; exact u32_lt nn) P1.out.wr (by have := HTL.out; simp only [List.length_append, be_length]; omega)
      have HUN := Lib.hid hun
      clear hun
      go_wp2_with (fail)
      (with_reducible refine U2.out.mono ?_)
      clear U2 d1
      rintro e1 w2 ⟨rfl, h1, h2⟩
      have P2 := Lib.hid (P1.out.put h1 h2)
      clear h1 h2 P1
      have d2 := cellAt (i := 2) (v := .slice ca mc cc) P2.out.hX rfl
      go_upto_region 8 with (fail)
      have U3 : Hid (Calls Try.prog 39 #[.pointer (some ⟨b, 0, none⟩), .int .i64 (mc : Nat)] w2 fun e' w' => e' = .returned (.tuple #[]) ∧ IsW b (acc ++ be (lo64 e) 1 ++ be un 4 ++ be (lo64 (mc : Int)) 2) w' ∧ Keeps b w2 w') := w16_z b (mc : Int) _ w2 P2.out.wr (by have := HTL.out; simp only [List.length_append, be_length, codB_len, List.length_take]; omega)
      go_wp2_with (fail)
      (with_reducible refine U3.out.mono ?_)
      clear U3 d2
      rintro e1 w3 ⟨rfl, h1, h2⟩
      have P3 := Lib.hid (P2.out.put h1 h2)
      clear h1 h2 P2
      have d2 := cellAt (i := 2) (v := .slice ca mc cc) P3.out.hX rfl
      have hcl1 : (mc : Int) ≤ (cc : Int) := by omega
      have hmc0 : (0 : Int) ≤ (mc : Int) := by omega
      obtain ⟨pre, hpre⟩ : ∃ z, z = acc ++ be (lo64 e) 1 ++ be un 4 ++ be (lo64 (mc : Int)) 2 := ⟨_, rfl⟩
      rw [← hpre] at P3
      have HPRE := Lib.hid hpre
      have hprel : pre.length ≤ 200000010 := by rw [hpre]; have := HTL.out; simp only [List.length_append, be_length]; omega
      have HPL := Lib.hid hprel
      clear hpre hprel
      go_wp2_with (fail)
      clear d2
      go_loopw [35] (fun t wr => ∃ i : Nat, i ≤ mc ∧ t = .int .i64 i ∧ Hid (PSt b X #[.int .i64 e, .int .i64 nn, .slice ca mc cc, .slice oa mo oc] 58 W (pre ++ codB (cs.take i)) wr)) (fun t _ => mc - (intOf t).toNat)
      case atStart => exact ⟨0, by omega, rfl, by show PSt _ _ _ _ _ _ _; rw [List.take_zero]; show PSt b X _ 58 W (pre ++ []) _; rw [List.append_nil]; exact P3.out⟩
      case round =>
        obtain ⟨i, hi, rfl, hp⟩ := hrel
        by_cases hli : i < mc
        · have hli' : (i : Int) < (mc : Int) := by omega
          have hil : i < cs.length := by rw [← HMC.out]; exact hli
          obtain ⟨z, hz, cz⟩ := (CI.out _ hp.out.kp).1 i hil
          obtain ⟨cv, hcv⟩ : ∃ c, c = cs[i] := ⟨_, rfl⟩
          rw [← hcv] at cz
          have hsn := codB_snoc cs i hil
          rw [← hcv] at hsn
          have U : Hid (Calls Try.prog 35 #[.pointer (some ⟨b, 0, none⟩), .int .i64 cv] wr fun e' w' => e' = .returned (.tuple #[]) ∧ IsW b (pre ++ codB (cs.take i) ++ be (lo64 cv) 1) w' ∧ Keeps b wr w') := w8_z b cv _ wr hp.out.wr (by have := HPL.out; simp only [List.length_append, codB_len, List.length_take]; omega)
          have HP := Lib.hid hp.out
          have HS := Lib.hid hsn
          subst hz
          clear hp hcv hsn hil
          go_wp2_with (fail)
          (with_reducible refine U.out.mono ?_)
          clear U
          rintro e1 w4 ⟨rfl, h1, h2⟩
          have P4 := Lib.hid (HP.out.put h1 h2)
          clear h1 h2 HP
          go_wp2_with (fail)
          exact ⟨⟨i + 1, by omega, by go_num, by show PSt _ _ _ _ _ _ _; rw [HS.out, ← List.append_assoc]; exact P4.out⟩, by simp [intOf] <;> omega⟩
        · have hie : mc = i := by omega
          subst hie
          have hp2 : PSt b X #[.int .i64 e, .int .i64 nn, .slice ca mc cc, .slice oa mo oc] 58 W (pre ++ codB cs) wr := by
            have h := hp.out
            rw [HMC.out, List.take_length] at h
            rw [HMC.out]
            exact h
          have e3 := cellAt (i := 3) (v := .slice oa mo oc) hp2.hX rfl
          have P4 := Lib.hid hp2
          have U4 : Hid (Calls Try.prog 39 #[.pointer (some ⟨b, 0, none⟩), .int .i64 (mo : Nat)] wr fun e' w' => e' = .returned (.tuple #[]) ∧ IsW b (pre ++ codB cs ++ be (lo64 (mo : Int)) 2) w' ∧ Keeps b wr w') := w16_z b (mo : Int) _ wr hp2.wr (by have := HPL.out; have := HMC.out; simp only [List.length_append, codB_len]; omega)
          have hol1 : (mo : Int) ≤ (oc : Int) := by omega
          have hmo0 : (0 : Int) ≤ (mo : Int) := by omega
          clear hp hp2 hli
          go_wp2_with (fail)
          (with_reducible refine U4.out.mono ?_)
          clear U4 e3
          rintro e1 w5 ⟨rfl, h1, h2⟩
          have P5 := Lib.hid (P4.out.put h1 h2)
          clear h1 h2 P4
          have e3 := cellAt (i := 3) (v := .slice oa mo oc) P5.out.hX rfl
          obtain ⟨pr2, hpr2⟩ : ∃ z, z = pre ++ codB cs ++ be (lo64 (mo : Int)) 2 := ⟨_, rfl⟩
          rw [← hpr2] at P5
          have HPR2 := Lib.hid hpr2
          have hpl2 : pr2.length ≤ 200001000 := by rw [hpr2]; have := HPL.out; have := HMC.out; simp only [List.length_append, be_length, codB_len]; omega
          have HPL2 := Lib.hid hpl2
          clear hpr2 hpl2
          go_wp2_with (fail)
          clear e3
          go_loopw [53] (fun t wr => ∃ i : Nat, i ≤ mo ∧ t = .int .i64 i ∧ Hid (PSt b X #[.int .i64 e, .int .i64 nn, .slice ca mc cc, .slice oa mo oc] 58 W (pr2 ++ outB (os.take i)) wr)) (fun t _ => mo - (intOf t).toNat)
          case atStart => exact ⟨0, by omega, rfl, by show PSt _ _ _ _ _ _ _; rw [List.take_zero]; show PSt b X _ 58 W (pr2 ++ []) _; rw [List.append_nil]; exact P5.out⟩
          case round =>
            obtain ⟨i, hi, rfl, hp⟩ := hrel
            by_cases hli : i < mo
            · have hli' : (i : Int) < (mo : Int) := by omega
              have hil : i < os.length := by rw [← HMO.out]; exact hli
              obtain ⟨z, hz, cz⟩ := (CI.out _ hp.out.kp).2 i hil
              obtain ⟨q, hq⟩ : ∃ c, c = os[i] := ⟨_, rfl⟩
              have hq7 : q.size ≤ 70000 := by rw [hq]; exact FEW.out.p _ (List.getElem_mem hil)
              rw [← hq] at cz
              have hsn := outB_snoc os i hil
              rw [← hq] at hsn
              have hol2 := outB_len (os.take i)
              rw [List.length_take] at hol2
              obtain ⟨qs, hqs⟩ : ∃ s, s = q.extract 0 (min q.size 65535) := ⟨_, rfl⟩
              have hqz : qs.size = min q.size 65535 := by rw [hqs, ByteArray.size_extract]; omega
              have hql : qs.data.toList = q.data.toList.take 65535 := by
                rw [hqs, extract_bs, List.drop_zero, Nat.sub_zero]
                show q.data.toList.take (min q.size 65535) = _
                have hqq : q.data.toList.length = q.size := by simp
                by_cases h5 : q.size ≤ 65535
                · rw [Nat.min_eq_left h5, List.take_of_length_le (by omega), List.take_of_length_le (by omega)]
                · rw [Nat.min_eq_right (by omega)]
              have U : Hid (∀ V, IsW b (pr2 ++ outB (os.take i)) V → Calls Try.prog 39 #[.pointer (some ⟨b, 0, none⟩), .int .i64 (qs.size : Nat)] V fun e' w' => e' = .returned (.tuple #[]) ∧ IsW b (pr2 ++ outB (os.take i) ++ be (lo64 (qs.size : Int)) 2) w' ∧ Keeps b V w') := fun V h => w16_z b (qs.size : Int) _ V h (by have := HPL2.out; simp only [List.length_append]; omega)
              have U' : Hid (∀ V, IsW b (pr2 ++ outB (os.take i) ++ be (lo64 (qs.size : Int)) 2) V → Calls Try.prog 38 #[.pointer (some ⟨b, 0, none⟩), .string qs] V fun e' w' => e' = .returned (.tuple #[]) ∧ IsW b (pr2 ++ outB (os.take i) ++ be (lo64 (qs.size : Int)) 2 ++ qs.data.toList) w' ∧ Keeps b V w') := fun V h => text_k b _ qs V h (by have := HPL2.out; simp only [List.length_append, be_length]; omega) (by omega)
              have HS : Hid (pr2 ++ outB (os.take (i + 1)) = pr2 ++ outB (os.take i) ++ be (lo64 (qs.size : Int)) 2 ++ qs.data.toList) := by
                show _ = _
                rw [hsn, hql]
                have e : lo64 (qs.size : Int) = min q.size 65535 := by rw [hqz]; exact u64_nat _ (by omega)
                rw [e]
                simp only [List.append_assoc]
              have HP := Lib.hid hp.out
              have hQ : ∀ m : Nat, m = min q.size 65535 → q.extract 0 m = qs := fun m hm => by rw [hqs, hm]
              have hqsz : qs.size ≤ 65535 := by omega
              subst hz
              by_cases h5 : q.size ≤ 65535
              · have hx1 : q.extract 0 q.size = qs := hQ q.size (by omega)
                have hx2 : (q.size : Int) ≤ 65535 := by omega
                clear hp hq hsn hil hol2 hqs hql hQ hqz
                go_wp2_with (fail)
                (with_reducible refine (U.out _ HP.out.wr).mono ?_)
                clear U
                rintro e1 w6 ⟨rfl, h1, h2⟩
                have P6 := Lib.hid (HP.out.put h1 h2)
                clear h1 h2 HP
                go_wp2_with (fail)
                (with_reducible refine (U'.out _ P6.out.wr).mono ?_)
                clear U'
                rintro e1 w7 ⟨rfl, h1, h2⟩
                have P7 := Lib.hid (P6.out.put h1 h2)
                clear h1 h2 P6
                go_wp2_with (fail)
                exact ⟨⟨i + 1, by omega, by go_num, by show PSt _ _ _ _ _ _ _; rw [HS.out]; exact P7.out⟩, by simp [intOf] <;> omega⟩
              · have hx1 : q.extract 0 65535 = qs := hQ 65535 (by omega)
                have hx2 : ¬ (q.size : Int) ≤ 65535 := by omega
                have hx3 : (65535 : Int) ≤ (q.size : Int) := by omega
                have hx4 : 65535 ≤ q.size := by omega
                clear hp hq hsn hil hol2 hqs hql hQ hqz
                go_wp2_with (fail)
                (with_reducible refine (U.out _ HP.out.wr).mono ?_)
                clear U
                rintro e1 w6 ⟨rfl, h1, h2⟩
                have P6 := Lib.hid (HP.out.put h1 h2)
                clear h1 h2 HP
                go_wp2_with (fail)
                (with_reducible refine (U'.out _ P6.out.wr).mono ?_)
                clear U'
                rintro e1 w7 ⟨rfl, h1, h2⟩
                have P7 := Lib.hid (P6.out.put h1 h2)
                clear h1 h2 P6
                go_wp2_with (fail)
                exact ⟨⟨i + 1, by omega, by go_num, by show PSt _ _ _ _ _ _ _; rw [HS.out]; exact P7.out⟩, by simp [intOf] <;> omega⟩
            · have hie : mo = i := by omega
              subst hie
              have hfin : pr2 ++ outB os = repsB (l.take (j + 1)) := by
                rw [HSN.out, HPR2.out, HPRE.out, HUN.out, be_u32]
                unfold repB
                simp only
                have e1 : lo64 (mc : Int) = cs.length := by rw [HMC.out]; exact u64_nat _ (by have := HMC.out; omega)
                have e2 : lo64 (mo : Int) = os.length := by rw [HMO.out]; exact u64_nat _ (by have := HMO.out; omega)
                rw [e1, e2]
                simp only [List.append_assoc]
              have hp2 : PSt b X #[.int .i64 e, .int .i64 nn, .slice ca mc cc, .slice oa mo oc] 58 W (repsB (l.take (j + 1))) wr := by
                have h := hp.out
                rw [HMO.out, List.take_length] at h
                rw [HMO.out, ← hfin]
                exact h
              have P8 := Lib.hid hp2
              clear hp hp2 hfin
              go_wp2_with (fail)
              exact ⟨⟨j + 1, by omega, by go_num, P8.out.wr, P8.out.kp⟩, by simp [intOf] <;> omega⟩
    · obtain rfl : j = n := by omega
      have e : repsB (l.take j) = repsB l := by rw [HN.out, List.take_length]
      obtain ⟨res, hres⟩ : ∃ r, r = bs (repsB l) := ⟨_, rfl⟩
      have ST : Hid (Calls Try.prog 36 #[.pointer (some ⟨b, 0, none⟩)] wr fun e w' => e = .returned (.string res) ∧ Keeps b wr w') := by
        show Calls _ _ _ _ _
        rw [hres, ← e]
        exact string_k b _ wr hw.out
      have HRS := Lib.hid hres
      have KW := Lib.hid hk.out
      clear hres e hw hk
      go_wp2_with (fail)
      (with_reducible refine ST.out.mono ?_)
      clear ST
      rintro e v8 ⟨rfl, kp8⟩
      go_wp2_with (fail)
      go_ret
      exact ⟨by rw [← HRS.out]; rfl, HV.out _ (KW.out.trans kp8)⟩
end Go.Proofs.Ytmijfhfjhbckdaa
