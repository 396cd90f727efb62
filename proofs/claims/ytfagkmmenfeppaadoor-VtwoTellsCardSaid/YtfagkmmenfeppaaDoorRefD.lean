import Derived.Test.YtfagkmmenfeppaaDoorRefA
import Derived.Test.YtfagkmmenfeppaaDoorGet
import Derived.StillTailTactics
/- The document's Early. -/
namespace Go.Proofs.YtfagkmmenfeppaaDoor
set_option maxRecDepth 100000
open Go.RowKit
/-- the first fault that a text has, up to its 14th byte -/
def earlyT : List UInt8 → Nat
  | [] => 0
  | c :: X => if c.toNat / 16 ≠ 2 then 3 else if 2 ≤ c.toNat % 16 then 9 else match X with
    | [] => 0
    | d :: _ => if famOf d = none then 6 else 0
def earlyD : List UInt8 → Nat
  | [] => 0
  | d :: _ => if famOf d = none then 6 else 0
theorem earlyT_cons (c : UInt8) (X : List UInt8) : earlyT (c :: X) = if c.toNat / 16 ≠ 2 then 3 else if 2 ≤ c.toNat % 16 then 9 else earlyD X := by
  cases X <;> rfl
def earlyE (l : List UInt8) : Nat := if l.take (min l.length 12) ≠ signL.take (min l.length 12) then 13 else earlyT (l.drop 12)
theorem sign_at (k : Nat) (h : k < 12) : signL[k]'h = (⟨#[13, 10, 13, 10, 0, 13, 10, 81, 85, 73, 84, 10]⟩ : ByteArray)[k]'h := rfl
theorem take_eq_step {l m : List UInt8} {k : Nat} (h1 : k < l.length) (h2 : k < m.length) (h : l.take k = m.take k) (hk : l[k] = m[k]) : l.take (k + 1) = m.take (k + 1) := by
  rw [List.take_succ_eq_append_getElem h1, List.take_succ_eq_append_getElem h2, h, hk]
theorem take_ne_step {l m : List UInt8} {k j : Nat} (h1 : k < l.length) (h2 : k < m.length) (hkj : k < j) (hk : l[k] ≠ m[k]) : l.take j ≠ m.take j := fun h => hk (by
  have a : (l.take j)[k]? = (m.take j)[k]? := by rw [h]
  rw [List.getElem?_take, List.getElem?_take, if_pos hkj, if_pos hkj, List.getElem?_eq_getElem h1, List.getElem?_eq_getElem h2] at a
  exact Option.some.inj a)
set_option maxHeartbeats 8000000 in
theorem early_any (s : ByteArray) (w : World) (hs : s.size ≤ 9223372036854775807) : Calls Tryd.prog 38 #[.string s] w fun e w' => e = .returned (.int .i64 (earlyE s.data.toList : Nat)) ∧ Below w.heap.size w w' := by
  obtain ⟨r, hr⟩ : ∃ r, r = earlyE s.data.toList := ⟨_, rfl⟩
  rw [← hr]
  have HR := Lib.hid hr
  clear hr
  have hl : s.data.toList.length = s.size := by rw [Array.length_toList]; rfl
  have HL := Lib.hid hl
  clear hl
  go_enter Tryd.func38, Tryd.ntmps38
  go_wp2_with (fail)
  go_loopw [3] (fun n wr => ∃ k : Nat, k ≤ s.size ∧ k ≤ 12 ∧ n = .int .i64 k ∧ Hid (s.data.toList.take k = signL.take k) ∧ Hid (Below w.heap.size w wr)) (fun n _ => s.size - (intOf n).toNat)
  case atStart => exact ⟨0, by omega, by omega, rfl, rfl, Below.refl _ _⟩
  case round =>
    obtain ⟨k, hk, hk12, rfl, hpre, hb⟩ := hrel
    by_cases hlt : k < s.size
    · by_cases h12 : k < 12
      · have e1 : decide ((k : Int) < 12) = true := decide_eq_true (by omega)
        have e1' : decide (k < 12) = true := decide_eq_true (by omega)
        have hsz : (⟨#[13, 10, 13, 10, 0, 13, 10, 81, 85, 73, 84, 10]⟩ : ByteArray).size = 12 := rfl
        have hsk : s.data.toList[k]'(by rw [HL.out]; exact hlt) = s[k] := rfl
        by_cases hq : s[k] = signL[k]'h12
        · have hqv : ((s[k].toNat : Int) != ((⟨#[13, 10, 13, 10, 0, 13, 10, 81, 85, 73, 84, 10]⟩ : ByteArray)[k].toNat : Int)) = false := by
            rw [← sign_at k h12, hq]; simp
          have HQ := Lib.hid (take_eq_step (by rw [HL.out]; exact hlt) h12 hpre.out (hsk.trans hq))
          clear hq hsk
          go_upto_region 4 with (fail)
          go_region_held3 (fun _ => True) (exact trivial) (fail)
          all_goals
            simp only [Exit.then]
            go_wp2_with (fail)
            exact ⟨⟨k + 1, by omega, by omega, by go_num, HQ.out, hb.out.drew⟩, by simp [intOf] <;> omega⟩
        · have hqv : ((s[k].toNat : Int) != ((⟨#[13, 10, 13, 10, 0, 13, 10, 81, 85, 73, 84, 10]⟩ : ByteArray)[k].toNat : Int)) = true := by
            rw [← sign_at k h12, bne, beq_eq_false_iff_ne.2 (fun h => hq (UInt8.toNat_inj.1 (by omega)))]; rfl
          have HQ : Hid (r = 13) := by
            show r = 13
            rw [HR.out]
            unfold earlyE
            exact if_pos (take_ne_step (by rw [HL.out]; exact hlt) h12 (by rw [HL.out]; omega) (fun h => hq (hsk.symm.trans h)))
          clear hq hsk
          go_upto_region 4 with (fail)
          go_region_held3 (fun _ => True) (exact trivial) (fail)
          all_goals
            simp only [Exit.then]
            go_wp2_with (fail)
            go_ret
            exact ⟨by rw [HQ.out]; rfl, hb.out.drew⟩
      · obtain rfl : k = 12 := by omega
        have hpos : earlyE s.data.toList = earlyT (s.data.toList.drop 12) := by
          unfold earlyE
          rw [if_neg (by rw [Nat.min_eq_right (by rw [HL.out]; omega)]; exact fun h => h hpre.out)]
        have HD : Hid (s.data.toList.drop 12 = s[12] :: s.data.toList.drop 13) := by
          show _ = _
          rw [List.drop_eq_getElem_cons (by rw [HL.out]; exact hlt)]; rfl
        have HE := Lib.hid hpos
        clear hpos
        obtain ⟨c, hc⟩ : ∃ c : UInt8, c = s[12] := ⟨_, rfl⟩
        have hc9 := c.toNat_lt
        have g1 : decide ((12 : Int) < (s.size : Int)) = true := decide_eq_true (by omega)
        have g1' : decide (12 < s.size) = true := decide_eq_true hlt
        have hcc : s[12].toNat = c.toNat := by rw [hc]
        rw [← hc] at HD
        obtain ⟨cn, hcn⟩ : ∃ n, n = c.toNat := ⟨_, rfl⟩
        rw [← hcn] at hcc hc9
        have HCN := Lib.hid hcn
        clear hc hcn
        by_cases q1 : cn / 16 = 2
        · have e2 : (((cn : Int) / 16) != 2) = false := by rw [bne, beq_iff_eq.2 (by omega)]; rfl
          by_cases q2 : 2 ≤ cn % 16
          · have e3 : decide (1 < ((cn : Int) % 16)) = true := decide_eq_true (by omega)
            have hE : r = 9 := by rw [HR.out, HE.out, HD.out, earlyT_cons, if_neg (by rw [← HCN.out]; exact fun h => h q1), if_pos (by rw [← HCN.out]; exact q2)]
            have HRE := Lib.hid hE
            clear hE q1 q2
            go_wp2_with (fail)
            go_ret
            exact ⟨by rw [HRE.out]; rfl, hb.out⟩
          · have e3 : decide (1 < ((cn : Int) % 16)) = false := decide_eq_false (by omega)
            have hE : r = earlyD (s.data.toList.drop 13) := by rw [HR.out, HE.out, HD.out, earlyT_cons, if_neg (by rw [← HCN.out]; exact fun h => h q1), if_neg (by rw [← HCN.out]; exact q2)]
            have HRE := Lib.hid hE
            clear hE q1 q2
            by_cases h13 : 13 < s.size
            · have g2 : decide ((13 : Int) < (s.size : Int)) = true := decide_eq_true (by omega)
              have g2' : decide (13 < s.size) = true := decide_eq_true h13
              have hD3 : s.data.toList.drop 13 = s[13] :: s.data.toList.drop 14 := by
                rw [List.drop_eq_getElem_cons (by rw [HL.out]; exact h13)]; rfl
              obtain ⟨d, hd⟩ : ∃ c : UInt8, c = s[13] := ⟨_, rfl⟩
              have hdd : s[13].toNat = d.toNat := by rw [hd]
              rw [← hd] at hD3
              have hd9 := d.toNat_lt
              have HRD : Hid (r = if famOf d = none then 6 else 0) := by show _ = _; rw [HRE.out, hD3]; rfl
              obtain ⟨dn, hdn⟩ : ∃ n, n = d.toNat := ⟨_, rfl⟩
              rw [← hdn] at hdd hd9
              have HDN : Hid (famOf d = none ↔ ¬ (dn = 0 ∨ dn = 17 ∨ dn = 18 ∨ dn = 33 ∨ dn = 34)) := by
                show _ ↔ _
                rw [hdn]
                unfold famOf
                rw [List.find?_eq_none]
                simp [fams]
                omega
              clear hd hdn hD3
              by_cases c0 : dn = 0
              · have x0 : ((dn : Int) != 0) = false := by rw [c0]; rfl
                have hE2 : r = 0 := by rw [HRD.out, if_neg (fun h => HDN.out.1 h (by omega))]
                have HRF := Lib.hid hE2
                clear hE2 c0
                go_wp2_with (fail)
                go_ret
                exact ⟨by rw [HRF.out]; rfl, hb.out⟩
              · have x0 : ((dn : Int) != 0) = true := by rw [bne, beq_eq_false_iff_ne.2 (by omega)]; rfl
                by_cases c1 : dn = 17
                · have x1 : ((dn : Int) != 17) = false := by rw [c1]; rfl
                  have hE2 : r = 0 := by rw [HRD.out, if_neg (fun h => HDN.out.1 h (by omega))]
                  have HRF := Lib.hid hE2
                  clear hE2 c0 c1
                  go_wp2_with (fail)
                  go_ret
                  exact ⟨by rw [HRF.out]; rfl, hb.out⟩
                · have x1 : ((dn : Int) != 17) = true := by rw [bne, beq_eq_false_iff_ne.2 (by omega)]; rfl
                  by_cases c2 : dn = 18
                  · have x2 : ((dn : Int) != 18) = false := by rw [c2]; rfl
                    have hE2 : r = 0 := by rw [HRD.out, if_neg (fun h => HDN.out.1 h (by omega))]
                    have HRF := Lib.hid hE2
                    clear hE2 c0 c1 c2
                    go_wp2_with (fail)
                    go_ret
                    exact ⟨by rw [HRF.out]; rfl, hb.out⟩
                  · have x2 : ((dn : Int) != 18) = true := by rw [bne, beq_eq_false_iff_ne.2 (by omega)]; rfl
                    by_cases c3 : dn = 33
                    · have x3 : ((dn : Int) != 33) = false := by rw [c3]; rfl
                      have hE2 : r = 0 := by rw [HRD.out, if_neg (fun h => HDN.out.1 h (by omega))]
                      have HRF := Lib.hid hE2
                      clear hE2 c0 c1 c2 c3
                      go_wp2_with (fail)
                      go_ret
                      exact ⟨by rw [HRF.out]; rfl, hb.out⟩
                    · have x3 : ((dn : Int) != 33) = true := by rw [bne, beq_eq_false_iff_ne.2 (by omega)]; rfl
                      by_cases c4 : dn = 34
                      · have x4 : ((dn : Int) != 34) = false := by rw [c4]; rfl
                        have hE2 : r = 0 := by rw [HRD.out, if_neg (fun h => HDN.out.1 h (by omega))]
                        have HRF := Lib.hid hE2
                        clear hE2 c0 c1 c2 c3 c4
                        go_wp2_with (fail)
                        go_ret
                        exact ⟨by rw [HRF.out]; rfl, hb.out⟩
                      · have x4 : ((dn : Int) != 34) = true := by rw [bne, beq_eq_false_iff_ne.2 (by omega)]; rfl
                        have hE2 : r = 6 := by rw [HRD.out, if_pos (HDN.out.2 (by omega))]
                        have HRF := Lib.hid hE2
                        clear hE2 c0 c1 c2 c3 c4
                        go_wp2_with (fail)
                        go_ret
                        exact ⟨by rw [HRF.out]; rfl, hb.out⟩
            · have g2 : decide ((13 : Int) < (s.size : Int)) = false := decide_eq_false (by omega)
              have g2' : decide (13 < s.size) = false := decide_eq_false h13
              have hz : earlyD (s.data.toList.drop 13) = 0 := by rw [List.drop_eq_nil_of_le (by rw [HL.out]; omega)]; rfl
              have HZ := Lib.hid hz
              clear hz h13
              go_wp2_with (fail)
              go_ret
              exact ⟨by rw [HRE.out, HZ.out]; rfl, hb.out⟩
        · have e2 : (((cn : Int) / 16) != 2) = true := by rw [bne, beq_eq_false_iff_ne.2 (by omega)]; rfl
          have hE : r = 3 := by rw [HR.out, HE.out, HD.out]; rw [earlyT_cons, if_pos (by rw [← HCN.out]; exact q1)]
          have HRE := Lib.hid hE
          clear hE q1
          go_wp2_with (fail)
          go_ret
          exact ⟨by rw [HRE.out]; rfl, hb.out⟩
    · obtain rfl : k = s.size := by omega
      have hE : r = 0 := by
        rw [HR.out]
        unfold earlyE
        rw [if_neg (by rw [Nat.min_eq_left (by rw [HL.out]; omega), HL.out]; exact fun h => h hpre.out)]
        rw [List.drop_eq_nil_of_le (by rw [HL.out]; omega)]; rfl
      have HRE := Lib.hid hE
      clear hE
      have g1 : decide ((12 : Int) < (s.size : Int)) = false := decide_eq_false (by omega)
      have g1' : decide (12 < s.size) = false := decide_eq_false (by omega)
      have g2 : decide ((13 : Int) < (s.size : Int)) = false := decide_eq_false (by omega)
      have g2' : decide (13 < s.size) = false := decide_eq_false (by omega)
      go_wp2_with (fail)
      go_ret
      exact ⟨by rw [HRE.out]; rfl, hb.out⟩
end Go.Proofs.YtfagkmmenfeppaaDoor
