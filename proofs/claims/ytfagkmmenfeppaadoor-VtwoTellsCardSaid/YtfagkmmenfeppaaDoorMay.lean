import Derived.Test.YtfagkmmenfeppaaDoorRest
/- may: may a header be, but for its length? -/
namespace Go.Proofs.YtfagkmmenfeppaaDoor
set_option maxRecDepth 100000
open Go.RowKit
def pOk (most p : Int) : Bool := decide (0 ≤ p ∧ p ≤ most)
def fOk (x : Fi) : Bool := decide (0 ≤ x.1 ∧ x.1 ≤ 255 ∧ x.1 ≠ 3 ∧ x.2.length ≤ 65535)
def mostOf (f : Fam) : Int := if f.1 = 0 then 0 else 65535
def mayB (loc : Bool) (src dst : List UInt8) (sp dp : Int) (fs : List Fi) (f : Fam) : Bool :=
  pOk (mostOf f) sp && pOk (mostOf f) dp && fs.all fOk && decide (src.length = f.2.2) && decide (dst.length = f.2.2) && (!loc || decide (f.1 = 0))
theorem mayB_p1 {loc : Bool} {src dst : List UInt8} {sp dp : Int} {fs : List Fi} {f : Fam} (h : pOk (mostOf f) sp = false) : mayB loc src dst sp dp fs f = false := by unfold mayB; rw [h]; rfl
theorem mayB_p2 {loc : Bool} {src dst : List UInt8} {sp dp : Int} {fs : List Fi} {f : Fam} (h : pOk (mostOf f) dp = false) : mayB loc src dst sp dp fs f = false := by unfold mayB; rw [h]; simp
theorem mayB_f {loc : Bool} {src dst : List UInt8} {sp dp : Int} {fs : List Fi} {f : Fam} {k : Nat} (hk : k < fs.length) (h : fOk fs[k] = false) : mayB loc src dst sp dp fs f = false := by
  unfold mayB
  have : fs.all fOk = false := by
    rw [List.all_eq_false]
    exact ⟨fs[k], List.getElem_mem _, by simp [h]⟩
  rw [this]; simp
theorem mayB_rest {loc : Bool} {src dst : List UInt8} {sp dp : Int} {fs : List Fi} {f : Fam} (h1 : pOk (mostOf f) sp = true) (h2 : pOk (mostOf f) dp = true) (h3 : fs.all fOk = true) : mayB loc src dst sp dp fs f = (decide (src.length = f.2.2) && decide (dst.length = f.2.2) && (!loc || decide (f.1 = 0))) := by
  unfold mayB; rw [h1, h2, h3]; simp
theorem idx0 (a b : Int) (w : World) : (Instr.index 102 (.agg #[.int .i64 a, .int .i64 b]) (.int .i64 0)).run Tryd.prog w = .ok (.int .i64 a) w := by kernel_rfl
theorem idx1 (a b : Int) (w : World) : (Instr.index 102 (.agg #[.int .i64 a, .int .i64 b]) (.int .i64 1)).run Tryd.prog w = .ok (.int .i64 b) w := by kernel_rfl
set_option maxHeartbeats 8000000 in
theorem may_any (loc : Bool) (fam : Int) (src dst : List UInt8) (sp dp : Int) (a : Option Addr) (cap : Nat) (fs : List Fi) (f : Fam) (w : World) (hin : FdIn w a fs) (hn : fs.length ≤ 1000000) (hsl : src.length ≤ 9223372036854775807) (hdl : dst.length ≤ 9223372036854775807) (htl : ∀ x ∈ fs, x.2.length ≤ 9223372036854775807) :
    Calls Tryd.prog 41 #[.agg #[.bool loc, .int .i64 fam, .string (bs src), .string (bs dst), .int .i64 sp, .int .i64 dp, .slice a fs.length cap], famV f] w fun e w' => e = .returned (.bool (mayB loc src dst sp dp fs f)) ∧ Below w.heap.size w w' := by
  obtain ⟨fn, fc, z⟩ := f
  have HIN := Lib.hid hin
  obtain ⟨r, hr⟩ : ∃ r, r = mayB loc src dst sp dp fs (fn, fc, z) := ⟨_, rfl⟩
  have HR := Lib.hid hr
  rw [← hr]
  obtain ⟨W, hW⟩ : ∃ W, W = (w.alloc (.cells #[.bool loc, .int .i64 fam, .string (bs src), .string (bs dst), .int .i64 sp, .int .i64 dp, .slice a fs.length cap] 24)).alloc (.cells #[.int .i64 fn, .int .i64 fc, .int .i64 z] 48) := ⟨_, rfl⟩
  have hS : W.heap[w.heap.size]? = some (.cells #[.bool loc, .int .i64 fam, .string (bs src), .string (bs dst), .int .i64 sp, .int .i64 dp, .slice a fs.length cap] 24 (0, 0)) := by
    rw [hW, Below.heap_alloc _ _ _ (by simp)]; exact alloc_new _ _
  have hF : W.heap[w.heap.size + 1]? = some (.cells #[.int .i64 fn, .int .i64 fc, .int .i64 z] 48 (0, 0)) := by
    rw [hW]
    have := alloc_new (w.alloc (.cells #[.bool loc, .int .i64 fam, .string (bs src), .string (bs dst), .int .i64 sp, .int .i64 dp, .slice a fs.length cap] 24)) (.cells #[.int .i64 fn, .int .i64 fc, .int .i64 z] 48)
    simpa using this
  have hBW : Hid (Below w.heap.size w W) := by
    show Below _ _ _
    rw [hW]; exact ((Below.refl _ _).alloc (Nat.le_refl _) _).alloc (by simp) _
  have hWs : W.heap.size = w.heap.size + 2 := by rw [hW]; simp
  have HS := Lib.hid hS
  have HF := Lib.hid hF
  have HWs := Lib.hid hWs
  have HTL := Lib.hid htl
  have hss : (bs src).size = src.length := bs_size src
  have hds : (bs dst).size = dst.length := bs_size dst
  obtain ⟨mo, hmo⟩ : ∃ m, m = mostOf (fn, fc, z) := ⟨_, rfl⟩
  have HMO := Lib.hid hmo
  clear hin hr hS hF hWs htl
  simp only [famV]
  go_enter Tryd.func41, Tryd.ntmps41
  go_upto_if 12 with (fail)
  rw [← hW]
  clear hW
  go_cut [5] (fun s5 wx => s5 = .int .i64 mo ∧ wx = W)
  case first =>
    by_cases h0 : fn = 0
    · subst h0
      have h1 : (((0 : Nat) : Int) == 0) = true := rfl
      obtain rfl : mo = 0 := hmo
      go_wp2_with (fail)
      go_meet
      exact ⟨rfl, rfl⟩
    · have h1 : ((fn : Int) == 0) = false := by rw [beq_eq_false_iff_ne]; omega
      obtain rfl : mo = 65535 := by rw [hmo]; exact if_neg h0
      go_wp2_with (fail)
      go_meet
      exact ⟨rfl, rfl⟩
  case rest =>
    obtain ⟨rfl, rfl⟩ := hcut
    have c4 := cellAt (i := 4) (v := .int .i64 sp) HS.out rfl
    have c5 := cellAt (i := 5) (v := .int .i64 dp) HS.out rfl
    clear hmo
    go_wp2_with (fail)
    go_loop [7, 18] (fun _ i => ∃ k : Nat, k ≤ 2 ∧ i = .int .i64 k ∧ Hid (1 ≤ k → pOk (mostOf (fn, fc, z)) sp = true) ∧ Hid (2 ≤ k → pOk (mostOf (fn, fc, z)) dp = true)) (fun _ i => 2 - (intOf i).toNat)
    case atStart => exact ⟨0, by omega, rfl, (fun h => by omega), (fun h => by omega)⟩
    case round =>
      obtain ⟨k, hk, rfl, h1, h2⟩ := hrel
      have hk3 : k = 0 ∨ k = 1 ∨ k = 2 := by omega
      rcases hk3 with rfl | rfl | rfl
      · clear hk
        have hix := fun w => idx0 sp dp w
        by_cases hp : 0 ≤ sp ∧ sp ≤ mo
        · have hp1 : ¬ sp < 0 := by omega
          have hp2 : ¬ sp > mo := by omega
          have hp4 : decide (sp < 0) = false := decide_eq_false (by omega)
          have hp5 : decide (mo < sp) = false := decide_eq_false (by omega)
          go_wp2_with (fail)
          go_round
          case rel => exact ⟨1, by omega, rfl, (fun _ => by show pOk _ _ = _; rw [← HMO.out]; exact decide_eq_true hp), (fun h => by omega)⟩
          case measure => simp [intOf]
        · have hpf : Hid (pOk (mostOf (fn, fc, z)) sp = false) := by show pOk _ _ = _; rw [← HMO.out]; exact decide_eq_false hp
          by_cases h0 : sp < 0
          · have hp4 : decide (sp < 0) = true := decide_eq_true h0
            clear hp
            go_wp2_with (fail)
            go_ret
            exact ⟨by rw [HR.out, mayB_p1 hpf.out]; rfl, hBW.out⟩
          · have hp1 : sp > mo := by omega
            have hp4 : decide (sp < 0) = false := decide_eq_false h0
            have hp5 : decide (mo < sp) = true := decide_eq_true (by omega)
            clear hp
            go_wp2_with (fail)
            go_ret
            exact ⟨by rw [HR.out, mayB_p1 hpf.out]; rfl, hBW.out⟩
      · clear hk
        have hix := fun w => idx1 sp dp w
        by_cases hp : 0 ≤ dp ∧ dp ≤ mo
        · have hp1 : ¬ dp < 0 := by omega
          have hp2 : ¬ dp > mo := by omega
          have hp4 : decide (dp < 0) = false := decide_eq_false (by omega)
          have hp5 : decide (mo < dp) = false := decide_eq_false (by omega)
          go_wp2_with (fail)
          go_round
          case rel => exact ⟨2, by omega, rfl, (fun _ => h1.out (by omega)), (fun _ => by show pOk _ _ = _; rw [← HMO.out]; exact decide_eq_true hp)⟩
          case measure => simp [intOf]
        · have hpf : Hid (pOk (mostOf (fn, fc, z)) dp = false) := by show pOk _ _ = _; rw [← HMO.out]; exact decide_eq_false hp
          by_cases h0 : dp < 0
          · have hp4 : decide (dp < 0) = true := decide_eq_true h0
            clear hp
            go_wp2_with (fail)
            go_ret
            exact ⟨by rw [HR.out, mayB_p2 hpf.out]; rfl, hBW.out⟩
          · have hp1 : dp > mo := by omega
            have hp4 : decide (dp < 0) = false := decide_eq_false h0
            have hp5 : decide (mo < dp) = true := decide_eq_true (by omega)
            clear hp
            go_wp2_with (fail)
            go_ret
            exact ⟨by rw [HR.out, mayB_p2 hpf.out]; rfl, hBW.out⟩
      · have g1 : Hid (pOk (mostOf (fn, fc, z)) sp = true) := h1.out (by omega)
        have g2 : Hid (pOk (mostOf (fn, fc, z)) dp = true) := h2.out (by omega)
        have c6 := cellAt (i := 6) (v := .slice a fs.length cap) HS.out rfl
        have hn9 : fs.length ≤ 9223372036854775807 := by omega
        clear h1 h2 hk
        go_wp2_with (fail)
        go_loopw [9, 32] (fun _ i wr => ∃ k : Nat, k ≤ fs.length ∧ i = .int .i64 k ∧ Hid ((fs.take k).all fOk = true) ∧ Hid (Below wc.heap.size wc wr)) (fun _ i _ => fs.length - (intOf i).toNat)
        case atStart => exact ⟨0, by omega, rfl, by rfl, Below.refl _ _⟩
        case round =>
          obtain ⟨k, hk, rfl, hall, hb⟩ := hrel
          by_cases hlt : k < fs.length
          · obtain ⟨x, rfl, d0, d1⟩ := (HIN.out.below (hBW.out.trans (hb.out.mono (by have := HWs.out; omega)))) k hlt
            obtain ⟨ty, hty⟩ : ∃ t, t = fs[k].1 := ⟨_, rfl⟩
            obtain ⟨tx, htx⟩ : ∃ t, t = fs[k].2 := ⟨_, rfl⟩
            rw [← hty] at d0
            rw [← htx] at d1
            obtain ⟨m, hm⟩ : ∃ m, m = tx.length := ⟨_, rfl⟩
            have hbs : (bs tx).size = m := by rw [bs_size, hm]
            have hm9 : m ≤ 9223372036854775807 := by rw [hm, htx]; exact HTL.out _ (List.getElem_mem _)
            have hfk : Hid (fOk fs[k] = decide (0 ≤ ty ∧ ty ≤ 255 ∧ ty ≠ 3 ∧ m ≤ 65535)) := by show fOk _ = _; unfold fOk; rw [← hty, ← htx, ← hm]
            have hb2 : Hid (Below wc.heap.size wc (wr.alloc (.cells #[.int .i64 ty, .string (bs tx)] 45))) := hb.out.alloc hb.out.size _
            have hbF : Hid (Below w.heap.size w wr) := hBW.out.trans (hb.out.mono (by have := HWs.out; omega))
            clear hty htx hm
            by_cases q1 : ty < 0
            · have e1 : decide (ty < 0) = true := decide_eq_true q1
              have hf : Hid (fOk fs[k] = false) := by show fOk _ = _; rw [hfk.out]; exact decide_eq_false (by omega)
              go_wp2_with (fail)
              go_ret
              exact ⟨by rw [HR.out, mayB_f hlt hf.out]; rfl, hbF.out.alloc hbF.out.size _⟩
            · have e1 : decide (ty < 0) = false := decide_eq_false q1
              by_cases q2 : ty > 255
              · have e2 : decide (255 < ty) = true := decide_eq_true q2
                have hf : Hid (fOk fs[k] = false) := by show fOk _ = _; rw [hfk.out]; exact decide_eq_false (by omega)
                go_wp2_with (fail)
                go_ret
                exact ⟨by rw [HR.out, mayB_f hlt hf.out]; rfl, hbF.out.alloc hbF.out.size _⟩
              · have e2 : decide (255 < ty) = false := decide_eq_false q2
                by_cases q3 : ty = 3
                · have e3 : (ty == 3) = true := beq_iff_eq.2 q3
                  have hf : Hid (fOk fs[k] = false) := by show fOk _ = _; rw [hfk.out]; exact decide_eq_false (by omega)
                  clear q3
                  go_wp2_with (fail)
                  go_ret
                  exact ⟨by rw [HR.out, mayB_f hlt hf.out]; rfl, hbF.out.alloc hbF.out.size _⟩
                · have e3 : (ty == 3) = false := beq_eq_false_iff_ne.2 q3
                  by_cases q4 : 65535 < m
                  · have e4 : decide (65535 < (m : Int)) = true := decide_eq_true (by omega)
                    have e5 : decide (65535 < m) = true := decide_eq_true q4
                    have hf : Hid (fOk fs[k] = false) := by show fOk _ = _; rw [hfk.out]; exact decide_eq_false (by omega)
                    go_wp2_with (fail)
                    go_ret
                    exact ⟨by rw [HR.out, mayB_f hlt hf.out]; rfl, hbF.out.alloc hbF.out.size _⟩
                  · have e4 : decide (65535 < (m : Int)) = false := decide_eq_false (by omega)
                    have e5 : decide (65535 < m) = false := decide_eq_false q4
                    have hall2 : Hid ((fs.take (k + 1)).all fOk = true) := by
                      show List.all _ _ = _
                      rw [List.take_succ_eq_append_getElem hlt, List.all_append, hall.out, Bool.true_and, List.all_cons, hfk.out, List.all_nil, Bool.and_true]
                      exact decide_eq_true (by omega)
                    go_wp2_with (fail)
                    exact ⟨⟨k + 1, by omega, by go_num, hall2.out, hb2.out⟩, by simp [intOf]; omega⟩
          · obtain rfl : k = fs.length := by omega
            rw [List.take_length] at hall
            have hbF : Hid (Below w.heap.size w wr) := hBW.out.trans (hb.out.mono (by have := HWs.out; omega))
            have HRR : Hid (r = (decide (src.length = z) && decide (dst.length = z) && (!loc || decide (fn = 0)))) := by show r = _; rw [HR.out, mayB_rest g1.out g2.out hall.out]
            have S2 := (hb.out.block _ (heap_lt HS.out)).trans HS.out
            have F2 := (hb.out.block _ (heap_lt HF.out)).trans HF.out
            have s0 := cellAt (i := 0) (v := .bool loc) S2 rfl
            have s2 := cellAt (i := 2) (v := .string (bs src)) S2 rfl
            have s3 := cellAt (i := 3) (v := .string (bs dst)) S2 rfl
            have f0 := cellAt (i := 0) (v := .int .i64 fn) F2 rfl
            have f2 := cellAt (i := 2) (v := .int .i64 z) F2 rfl
            clear S2 F2 hall g1 g2
            by_cases q1 : src.length = z
            · have e1 : ((src.length : Int) == z) = true := by rw [beq_iff_eq]; omega
              have e1' : (src.length == z) = true := beq_iff_eq.2 q1
              by_cases q2 : dst.length = z
              · have e2 : ((dst.length : Int) == z) = true := by rw [beq_iff_eq]; omega
                have e2' : (dst.length == z) = true := beq_iff_eq.2 q2
                cases loc with
                | false =>
                  have hr1 : Hid (r = true) := by show r = _; rw [HRR.out, decide_eq_true q1, decide_eq_true q2]; rfl
                  clear q1 q2
                  go_wp2_with (fail)
                  go_ret
                  exact ⟨by rw [hr1.out]; rfl, hbF.out⟩
                | true =>
                  by_cases q3 : fn = 0
                  · have e3 : ((fn : Int) == 0) = true := by rw [beq_iff_eq]; omega
                    have hr1 : Hid (r = true) := by show r = _; rw [HRR.out, decide_eq_true q1, decide_eq_true q2, decide_eq_true q3]; rfl
                    clear q1 q2 q3
                    go_wp2_with (fail)
                    go_ret
                    exact ⟨by rw [hr1.out]; rfl, hbF.out⟩
                  · have e3 : ((fn : Int) == 0) = false := by rw [beq_eq_false_iff_ne]; omega
                    have hr1 : Hid (r = false) := by show r = _; rw [HRR.out, decide_eq_true q1, decide_eq_true q2, decide_eq_false q3]; rfl
                    clear q1 q2 q3
                    go_wp2_with (fail)
                    go_ret
                    exact ⟨by rw [hr1.out]; rfl, hbF.out⟩
              · have e2 : ((dst.length : Int) == z) = false := by rw [beq_eq_false_iff_ne]; omega
                have e2' : (dst.length == z) = false := beq_eq_false_iff_ne.2 q2
                have hr1 : Hid (r = false) := by show r = _; rw [HRR.out, decide_eq_false q2]; simp
                clear q1 q2
                go_wp2_with (fail)
                go_ret
                exact ⟨by rw [hr1.out]; rfl, hbF.out⟩
            · have e1 : ((src.length : Int) == z) = false := by rw [beq_eq_false_iff_ne]; omega
              have e1' : (src.length == z) = false := beq_eq_false_iff_ne.2 q1
              have hr1 : Hid (r = false) := by show r = _; rw [HRR.out, decide_eq_false q1]; simp
              clear q1
              go_wp2_with (fail)
              go_ret
              exact ⟨by rw [hr1.out]; rfl, hbF.out⟩
end Go.Proofs.YtfagkmmenfeppaaDoor
