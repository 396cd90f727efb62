import Derived.Test.YtfagkmmenfeppaaDoorRefG
import Derived.Deep.QuietTactic
import Derived.BigQuiet
/- The document's Get, walked: a part of the cases. -/
namespace Go.Proofs.YtfagkmmenfeppaaDoor
set_option maxRecDepth 100000
open Go.RowKit
set_option maxHeartbeats 16000000 in
theorem rget_b (b : ByteArray) (w : World) (hs : b.size ≤ 1000000) (hsel : ∀ (c d : UInt8) (T : List UInt8) (f : Fam), b.data.toList.drop 12 = c :: d :: T → famOf d = some f → (c.toNat % 16 == 0) = false ∧ decide (0 < f.2.2) = false) : Calls Tryd.prog 14 #[.string b] w (RGetPost b w) := by
  obtain ⟨W, hW⟩ : ∃ W, W = (w.alloc (.cells #[.bool false, .int .i64 0, .string ⟨#[]⟩, .string ⟨#[]⟩, .int .i64 0, .int .i64 0, .slice none 0 0] 24)).alloc (.cells #[.bool false, .int .i64 0, .string ⟨#[]⟩, .string ⟨#[]⟩, .int .i64 0, .int .i64 0, .slice none 0 0] 24) := ⟨_, rfl⟩
  obtain ⟨R, hRR⟩ : ∃ R, R = w.heap.size := ⟨_, rfl⟩
  obtain ⟨N, hNN⟩ : ∃ N, N = w.heap.size + 1 := ⟨_, rfl⟩
  have hWs : W.heap.size = w.heap.size + 2 := by rw [hW]; simp
  have HB : Hid (Below w.heap.size w W) := by show Below _ _ _; rw [hW]; exact ((Below.refl _ _).alloc (Nat.le_refl _) _).alloc (by simp) _
  have hR : W.heap[R]? = some (.cells #[.bool false, .int .i64 0, .string ⟨#[]⟩, .string ⟨#[]⟩, .int .i64 0, .int .i64 0, .slice none 0 0] 24 (0, 0)) := by
    rw [hW, hRR, Below.heap_alloc _ _ _ (by simp)]; exact alloc_new _ _
  have hN : W.heap[N]? = some (.cells #[.bool false, .int .i64 0, .string ⟨#[]⟩, .string ⟨#[]⟩, .int .i64 0, .int .i64 0, .slice none 0 0] 24 (0, 0)) := by
    have h := alloc_new (w.alloc (.cells #[.bool false, .int .i64 0, .string ⟨#[]⟩, .string ⟨#[]⟩, .int .i64 0, .int .i64 0, .slice none 0 0] 24)) (.cells #[.bool false, .int .i64 0, .string ⟨#[]⟩, .string ⟨#[]⟩, .int .i64 0, .int .i64 0, .slice none 0 0] 24)
    rw [hW, hNN]
    simpa using h
  have HKN : Hid (∀ V, Below W.heap.size W V → V.heap[R]? = some (.cells #[.bool false, .int .i64 0, .string ⟨#[]⟩, .string ⟨#[]⟩, .int .i64 0, .int .i64 0, .slice none 0 0] 24 (0, 0)) ∧ V.heap[N]? = some (.cells #[.bool false, .int .i64 0, .string ⟨#[]⟩, .string ⟨#[]⟩, .int .i64 0, .int .i64 0, .slice none 0 0] 24 (0, 0)) ∧ Below w.heap.size w V) := fun V hV => ⟨(hV.block _ (heap_lt hR)).trans hR, (hV.block _ (heap_lt hN)).trans hN, HB.out.trans (hV.mono HB.out.size)⟩
  have HRN : Hid (w.heap.size ≤ R ∧ w.heap.size ≤ N ∧ R ≠ N ∧ R < W.heap.size ∧ N < W.heap.size) := by show _ ∧ _; omega
  have EA : Hid (∀ V, Below W.heap.size W V → Calls Tryd.prog 38 #[.string b] V fun e w' => e = .returned (.int .i64 (earlyE b.data.toList : Nat)) ∧ Below W.heap.size W w') := fun V hV => (early_any b V (by omega)).mono fun e w' h => ⟨h.1, hV.trans (h.2.mono hV.size)⟩
  have HB0 : Hid (Below W.heap.size W W) := Below.refl _ _
  obtain ⟨ea, hea⟩ : ∃ x, x = earlyE b.data.toList := ⟨_, rfl⟩
  rw [← hea] at EA
  obtain ⟨bn, hbn⟩ : ∃ n, n = b.size := ⟨_, rfl⟩
  have hbn2 : b.size = bn := hbn.symm
  have HBL : Hid (b.data.toList.length = bn) := by show _ = _; rw [hbn, Array.length_toList]; rfl
  have HEA := Lib.hid hea
  have HRR := Lib.hid hRR
  have HNN := Lib.hid hNN
  rw [hbn2] at hs
  clear hR hN hWs hea hbn
  go_enter Tryd.func14, Tryd.ntmps14
  go_upto_region 2 with (fail)
  rw [← hW, ← hNN, ← hRR]
  clear hW hRR hNN
  by_cases he : ea = 0
  · subst he
    have HZ : Hid (earlyE b.data.toList = 0) := HEA.out.symm
    by_cases h16 : bn < 16
    · have e2 : decide ((bn : Int) < 16) = true := decide_eq_true (by omega)
      have e2' : decide (bn < 16) = true := decide_eq_true h16
      have HE : Hid (getR b.data.toList = .error 10) := early_short HZ.out (by rw [HBL.out]; exact h16)
      clear h16
      go_wp2_with (first | (go_at_call 38; (with_reducible refine (EA.out _ HB0.out).mono ?_); rintro e w1 ⟨rfl, hb1⟩; obtain ⟨r1, n1, b1⟩ := HKN.out _ hb1; have rf0 := Lib.frozen_of_heap r1 0; have rf1 := Lib.frozen_of_heap r1 1; have rf2 := Lib.frozen_of_heap r1 2; have rf3 := Lib.frozen_of_heap r1 3; have rf4 := Lib.frozen_of_heap r1 4; have rf5 := Lib.frozen_of_heap r1 5; have rf6 := Lib.frozen_of_heap r1 6; have rk0 := cellAt (i := 0) (v := .bool false) r1 rfl; have rk1 := cellAt (i := 1) (v := .int .i64 0) r1 rfl; have rk2 := cellAt (i := 2) (v := .string ⟨#[]⟩) r1 rfl; have rk3 := cellAt (i := 3) (v := .string ⟨#[]⟩) r1 rfl; have rk4 := cellAt (i := 4) (v := .int .i64 0) r1 rfl; have rk5 := cellAt (i := 5) (v := .int .i64 0) r1 rfl; have rk6 := cellAt (i := 6) (v := .slice none 0 0) r1 rfl; have nk0 := cellAt (i := 0) (v := .bool false) n1 rfl; have nk1 := cellAt (i := 1) (v := .int .i64 0) n1 rfl; have nk2 := cellAt (i := 2) (v := .string ⟨#[]⟩) n1 rfl; have nk3 := cellAt (i := 3) (v := .string ⟨#[]⟩) n1 rfl; have nk4 := cellAt (i := 4) (v := .int .i64 0) n1 rfl; have nk5 := cellAt (i := 5) (v := .int .i64 0) n1 rfl; have nk6 := cellAt (i := 6) (v := .slice none 0 0) n1 rfl; have HR1 := Lib.hid r1; have HN1 := Lib.hid n1; have HB1 := Lib.hid b1; have HBW1 := Lib.hid hb1; clear r1 n1 b1 hb1))
      refine bodyPost_ret (rget_end (g := R) rfl rfl rfl rfl (set7 HR1.out)) rfl ⟨below7 HB1.out HRN.out.1, .inl ⟨10, HE.out, rfl⟩⟩
    · have e2 : decide ((bn : Int) < 16) = false := decide_eq_false (by omega)
      have e2' : decide (bn < 16) = false := decide_eq_false h16
      obtain ⟨c, d, x, y, T, f, hl, hc, hf, hE1, hE2⟩ := early_full HZ.out (by rw [HBL.out]; omega)
      obtain ⟨n0, hn0⟩ : ∃ n, n = bv [x, y] := ⟨_, rfl⟩
      have hn9 : n0 < 65536 := by rw [hn0]; exact bv_lt [x, y]
      have hTl : T.length + 16 = bn := by
        have h := congrArg List.length hl
        rw [List.length_drop, HBL.out] at h
        simp only [List.length_cons] at h
        omega
      have hxy : (b.extract 14 16).data.toList = [x, y] := by
        rw [ext_list, show 14 = 12 + 2 from rfl, ← List.drop_drop, hl]; rfl
      have hx9 : (b.extract 14 16).size ≤ 8 := by rw [ByteArray.size_extract]; omega
      have VA : Hid (∀ V, Calls Tryd.prog 39 #[.string (b.extract 14 16)] V fun e w' => e = .returned (.int .u64 n0) ∧ w' = V) := fun V => (rvalue_any (b.extract 14 16) V hx9).mono fun e w' h => by
        rw [hxy, ← hn0] at h; exact h
      have m1 : (16 : Int) ≤ (bn : Int) := by omega
      have m2 : 16 ≤ bn := by omega
      have hw0 : IntKind.i64.wrap (n0 : Int) = n0 := IntWalk.i64_in _ (by omega)
      obtain ⟨n, hnn⟩ : ∃ n, n = 16 + n0 := ⟨_, rfl⟩
      have hw1 : IntKind.i64.wrap (16 + (n0 : Int)) = (n : Int) := by rw [IntWalk.i64_in _ (by omega)]; omega
      have hw2 : (16 : Int) + (n0 : Int) = (n : Int) := by omega
      rw [← hn0] at hE1 hE2
      rw [← hnn] at hE2
      have hn16 : 16 ≤ n := by omega
      have hnT : T.length < n0 ↔ bn < n := by omega
      have HNX := Lib.hid hnn
      have hf9 : f ∈ fams := List.mem_of_find?_eq_some hf
      have H16 := Lib.hid h16
      clear hx9 hn0 hxy hnn h16
      by_cases hlt : bn < n
      · have e3 : decide ((bn : Int) < (n : Int)) = true := decide_eq_true (by omega)
        have e3' : decide (bn < n) = true := decide_eq_true hlt
        have HE : Hid (getR b.data.toList = .error 10) := hE1 (hnT.2 hlt)
        clear hlt hE1 hE2 hl hTl hnT
        go_wp2_with (first | (go_at_call 38; (with_reducible refine (EA.out _ HB0.out).mono ?_); rintro e w1 ⟨rfl, hb1⟩; obtain ⟨r1, n1, b1⟩ := HKN.out _ hb1; have rf0 := Lib.frozen_of_heap r1 0; have rf1 := Lib.frozen_of_heap r1 1; have rf2 := Lib.frozen_of_heap r1 2; have rf3 := Lib.frozen_of_heap r1 3; have rf4 := Lib.frozen_of_heap r1 4; have rf5 := Lib.frozen_of_heap r1 5; have rf6 := Lib.frozen_of_heap r1 6; have rk0 := cellAt (i := 0) (v := .bool false) r1 rfl; have rk1 := cellAt (i := 1) (v := .int .i64 0) r1 rfl; have rk2 := cellAt (i := 2) (v := .string ⟨#[]⟩) r1 rfl; have rk3 := cellAt (i := 3) (v := .string ⟨#[]⟩) r1 rfl; have rk4 := cellAt (i := 4) (v := .int .i64 0) r1 rfl; have rk5 := cellAt (i := 5) (v := .int .i64 0) r1 rfl; have rk6 := cellAt (i := 6) (v := .slice none 0 0) r1 rfl; have nk0 := cellAt (i := 0) (v := .bool false) n1 rfl; have nk1 := cellAt (i := 1) (v := .int .i64 0) n1 rfl; have nk2 := cellAt (i := 2) (v := .string ⟨#[]⟩) n1 rfl; have nk3 := cellAt (i := 3) (v := .string ⟨#[]⟩) n1 rfl; have nk4 := cellAt (i := 4) (v := .int .i64 0) n1 rfl; have nk5 := cellAt (i := 5) (v := .int .i64 0) n1 rfl; have nk6 := cellAt (i := 6) (v := .slice none 0 0) n1 rfl; have HR1 := Lib.hid r1; have HN1 := Lib.hid n1; have HB1 := Lib.hid b1; have HBW1 := Lib.hid hb1; clear r1 n1 b1 hb1) | (go_at_call 39; (with_reducible refine (VA.out _).mono ?_); rintro e w2 ⟨rfl, rfl⟩))
        refine bodyPost_ret (rget_end (g := R) rfl rfl rfl rfl (set7 HR1.out)) rfl ⟨below7 HB1.out HRN.out.1, .inl ⟨10, HE.out, rfl⟩⟩
      · have e3 : decide ((bn : Int) < (n : Int)) = false := decide_eq_false (by omega)
        have e3' : decide (bn < n) = false := decide_eq_false hlt
        have HE2 := Lib.hid (hE2 (by omega))
        have hcc : ∀ h : 12 < b.size, b[12]'h = c := fun h => by
          have q := congrArg (fun l => l[0]?) hl
          simp only [List.getElem?_drop] at q
          have q2 : b.data.toList[12]? = some c := by simpa using q
          rw [List.getElem?_eq_getElem (by rw [HBL.out]; omega)] at q2
          exact Option.some.inj q2
        have hdd : ∀ h : 13 < b.size, b[13]'h = d := fun h => by
          have q := congrArg (fun l => l[1]?) hl
          simp only [List.getElem?_drop] at q
          have q2 : b.data.toList[13]? = some d := by simpa using q
          rw [List.getElem?_eq_getElem (by rw [HBL.out]; omega)] at q2
          exact Option.some.inj q2
        have HL := Lib.hid hl
        have HLT := Lib.hid hlt
        have hbn12 : 12 < b.size := by omega
        have hbn13 : 13 < b.size := by omega
        clear hE1 hE2 hl hnT hlt
        obtain ⟨fn, fc, z⟩ := f
        have hdn : d.toNat = fc := by
          have h := List.find?_some hf
          simp at h
          omega
        have hdx : ∀ h : 13 < b.size, (b[13]'h).toNat = fc := fun h => by rw [hdd h, hdn]
        have hfc : fc < 256 := by rw [← hdn]; exact d.toNat_lt
        obtain ⟨loc, hloc⟩ : ∃ l, l = (c.toNat % 16 == 0) := ⟨_, rfl⟩
        have hlc : (((c.toNat : Int) % 16) == 0) = loc := by rw [hloc]; rcases hc with rfl | rfl <;> rfl
        rw [← hloc] at HE2
        obtain ⟨hsl, hsz⟩ := hsel c d (x :: y :: T) (fn, fc, z) HL.out hf
        have HSZ : Hid (decide (0 < z) = false) := hsz
        obtain rfl : loc = false := hloc.trans hsl
        clear hsl hsz
        have hf5 : fn < 5 := by
          simp [fams] at hf9
          rcases hf9 with ⟨rfl, _⟩ | ⟨rfl, _⟩ | ⟨rfl, _⟩ | ⟨rfl, _⟩ | ⟨rfl, _⟩ <;> decide
        have hz16 : z ≤ 16 := by
          simp [fams] at hf9
          rcases hf9 with ⟨_, _, rfl⟩ | ⟨_, _, rfl⟩ | ⟨_, _, rfl⟩ | ⟨_, _, rfl⟩ | ⟨_, _, rfl⟩ <;> decide
        have FSELF : Hid (∀ V, Calls Tryd.prog 26 #[.int .i64 fn] V fun e w' => e = .returned (.tuple #[.int .i64 fc, .int .i64 z, .bool true]) ∧ w' = V) := fun V => by
          have h := family_any fn V
          rw [fam_self hf9] at h
          exact h
        have FOTH : Hid (∀ k : Nat, k < 5 → k ≠ fn → ∃ c m : Nat, c ≠ fc ∧ ∀ V, Calls Tryd.prog 26 #[.int .i64 k] V fun e w' => e = .returned (.tuple #[.int .i64 c, .int .i64 m, .bool true]) ∧ w' = V) := fun k h1 h2 => by
          obtain ⟨c, m, h3, h4⟩ := fam_other hf9 h1 h2
          refine ⟨c, m, h4, fun V => ?_⟩
          have h := family_any k V
          rw [h3] at h
          exact h
        have HF9 := Lib.hid hf9
        have HLOC := Lib.hid hloc
        clear hdd hdn hf hloc hf9 hc
        go_upto_region 10 with (first | (go_at_call 38; (with_reducible refine (EA.out _ HB0.out).mono ?_); rintro e w1 ⟨rfl, hb1⟩; obtain ⟨r1, n1, b1⟩ := HKN.out _ hb1; have rf0 := Lib.frozen_of_heap r1 0; have rf1 := Lib.frozen_of_heap r1 1; have rf2 := Lib.frozen_of_heap r1 2; have rf3 := Lib.frozen_of_heap r1 3; have rf4 := Lib.frozen_of_heap r1 4; have rf5 := Lib.frozen_of_heap r1 5; have rf6 := Lib.frozen_of_heap r1 6; have rk0 := cellAt (i := 0) (v := .bool false) r1 rfl; have rk1 := cellAt (i := 1) (v := .int .i64 0) r1 rfl; have rk2 := cellAt (i := 2) (v := .string ⟨#[]⟩) r1 rfl; have rk3 := cellAt (i := 3) (v := .string ⟨#[]⟩) r1 rfl; have rk4 := cellAt (i := 4) (v := .int .i64 0) r1 rfl; have rk5 := cellAt (i := 5) (v := .int .i64 0) r1 rfl; have rk6 := cellAt (i := 6) (v := .slice none 0 0) r1 rfl; have nk0 := cellAt (i := 0) (v := .bool false) n1 rfl; have nk1 := cellAt (i := 1) (v := .int .i64 0) n1 rfl; have nk2 := cellAt (i := 2) (v := .string ⟨#[]⟩) n1 rfl; have nk3 := cellAt (i := 3) (v := .string ⟨#[]⟩) n1 rfl; have nk4 := cellAt (i := 4) (v := .int .i64 0) n1 rfl; have nk5 := cellAt (i := 5) (v := .int .i64 0) n1 rfl; have nk6 := cellAt (i := 6) (v := .slice none 0 0) n1 rfl; have HR1 := Lib.hid r1; have HN1 := Lib.hid n1; have HB1 := Lib.hid b1; have HBW1 := Lib.hid hb1; clear r1 n1 b1 hb1) | (go_at_call 39; (with_reducible refine (VA.out _).mono ?_); rintro e w2 ⟨rfl, rfl⟩))
        obtain ⟨W3, hW3⟩ : ∃ V, V = w2.alloc (.cells #[.bool false, .int .i64 0, .string ⟨#[]⟩, .string ⟨#[]⟩, .int .i64 0, .int .i64 0, .slice none 0 0] 24) := ⟨_, rfl⟩
        obtain ⟨S, hSS⟩ : ∃ S, S = w2.heap.size := ⟨_, rfl⟩
        obtain ⟨Bk, hBk⟩ : ∃ B, B = W3.heap.size := ⟨_, rfl⟩
        have ST : Hid (DSt Bk R N S w (.bool false) (.int .i64 0) (.string ⟨#[]⟩) (.string ⟨#[]⟩) (.int .i64 0) (.int .i64 0) (.slice none 0 0) [] W3) := by
          have q := HRN.out
          have q2 := HBW1.out.size
          have q3 : W3.heap.size = w2.heap.size + 1 := by rw [hW3]; simp
          have hal := (Below.refl w2.heap.size w2).alloc (Nat.le_refl _) (.cells #[.bool false, .int .i64 0, .string ⟨#[]⟩, .string ⟨#[]⟩, .int .i64 0, .int .i64 0, .slice none 0 0] 24)
          rw [← hW3] at hal
          refine ⟨by rw [hW3, hSS]; exact alloc_new _ _, (hal.block _ (heap_lt HR1.out)).trans HR1.out, (hal.block _ (heap_lt HN1.out)).trans HN1.out, World.ownsRow_nil _ _ _ _, ?_, ?_, ?_, by rw [hBk]; exact Nat.le_refl _, HB1.out.trans (hal.mono HB1.out.size)⟩
          · rw [hSS]; omega
          · rw [hSS, hBk]; omega
          · rw [hSS]; omega
        go_upto_region 11 with (fail)
        rw [← hW3, ← hSS]
        clear hW3 hSS hBk rf0 rk0 nk0 rf1 rk1 nk1 rf2 rk2 nk2 rf3 rk3 nk3 rf4 rk4 nk4 rf5 rk5 nk5 rf6 rk6 nk6
        go_wp2_with (fail)
        go_loopw [10, 12] (fun t i wr => ∃ k zz ff : Nat, k ≤ 5 ∧ i = .int .i64 k ∧ t = .int .i64 zz ∧ Hid (zz = if fn < k then z else 0) ∧ Hid (ff = if fn < k then fn else 0) ∧ Hid (DSt Bk R N S w (.bool false) (.int .i64 ff) (.string ⟨#[]⟩) (.string ⟨#[]⟩) (.int .i64 0) (.int .i64 0) (.slice none 0 0) [] wr)) (fun _ i _ => 5 - (intOf i).toNat)
        case atStart => exact ⟨0, 0, 0, by omega, rfl, rfl, by show 0 = _; rw [if_neg (by omega)], by show 0 = _; rw [if_neg (by omega)], ST.out⟩
        case round =>
          obtain ⟨k, zz, ff, hk, rfl, rfl, hzz, hff, hst⟩ := hrel
          by_cases hk5 : k < 5
          · have e4 : decide ((k : Int) ≤ 4) = true := decide_eq_true (by omega)
            have e4' : decide (k ≤ 4) = true := decide_eq_true (by omega)
            have kS := hst.out.kS.2.1
            have kF := hst.out.fS 1
            have hwf : IntKind.i64.wrap (fc : Int) = fc := IntWalk.i64_in _ (by omega)
            by_cases hkf : k = fn
            · subst hkf
              have e5 : ((fc : Int) == (fc : Int)) = true := beq_self_eq_true _
              have HN2 := Lib.hid (hst.out.set1 (.int .i64 k))
              go_wp2_with (first | (go_at_call 26; (with_reducible refine (FSELF.out _).mono ?_); rintro e w4 ⟨rfl, rfl⟩))
              exact ⟨⟨k + 1, z, k, by omega, by go_num, rfl, by show z = _; rw [if_pos (by omega)], by show k = _; rw [if_pos (by omega)], HN2.out⟩, by simp [intOf] <;> omega⟩
            · obtain ⟨co, mo, hco, FO⟩ := FOTH.out k hk5 hkf
              have FO := Lib.hid FO
              have e5 : ((co : Int) == (fc : Int)) = false := by rw [beq_eq_false_iff_ne]; omega
              have HZ2 : Hid (zz = if fn < k + 1 then z else 0) := by show zz = _; rw [hzz.out]; congr 1; exact propext (by omega)
              have HF2 : Hid (ff = if fn < k + 1 then fn else 0) := by show ff = _; rw [hff.out]; congr 1; exact propext (by omega)
              clear hkf hco
              go_wp2_with (first | (go_at_call 26; (with_reducible refine (FO.out _).mono ?_); rintro e w4 ⟨rfl, rfl⟩))
              exact ⟨⟨k + 1, zz, ff, by omega, by go_num, rfl, HZ2.out, HF2.out, hst.out⟩, by simp [intOf] <;> omega⟩
          · obtain rfl : k = 5 := by omega
            obtain rfl : z = zz := by rw [hzz.out, if_pos hf5]
            obtain rfl : fn = ff := by rw [hff.out, if_pos hf5]
            clear hk hk5 hzz hff
            have hnb : n ≤ bn := by have := HLT.out; omega
            have HLB : Hid (n ≤ b.data.toList.length) := by show _ ≤ _; rw [HBL.out]; exact hnb
            obtain ⟨q1, q2, q3⟩ := head_at (l := b.data.toList) (z := z) (fn := fn) (fc := fc) false HLB.out hn16
            have HQ1 := Lib.hid q1
            have HQ2 := Lib.hid q2
            have HQ3 := Lib.hid q3
            clear q1 q2 q3

            have hz0 : ¬ 0 < z := of_decide_eq_false HSZ.out
            obtain rfl : z = 0 := by omega
            have g0 : decide ((0 : Int) < 0) = false := rfl
            obtain ⟨sk0, sk1, sk2, sk3, sk4, sk5, sk6⟩ := hst.out.kS
            have sf0 := hst.out.fS 0
            have sf1 := hst.out.fS 1
            have sf2 := hst.out.fS 2
            have sf3 := hst.out.fS 3
            have sf4 := hst.out.fS 4
            have sf5 := hst.out.fS 5
            have sf6 := hst.out.fS 6

            have ST := Lib.hid hst.out
            obtain ⟨hh, hhh⟩ : ∃ h : Hd, h = (fn, [], [], 0, 0) := ⟨_, rfl⟩
            have HFO : Hid (follE (b.data.toList.take n) false (fn, fc, 0) = tailE (b.data.toList.take n) hh ((b.data.toList.take n).drop 16)) := by
              show _ = _
              rw [HQ1.out rfl, hhh]; rfl
            have HSV : Hid (∀ v, streamV false hh v = .agg #[.bool false, .int .i64 fn, .string ⟨#[]⟩, .string ⟨#[]⟩, .int .i64 0, .int .i64 0, v]) := fun v => by rw [hhh]; rfl
            clear hhh hz0

            obtain ⟨F, hF⟩ : ∃ F, F = flE (n - 16) n ((b.data.toList.take n).drop 16) [] 0 0 false := ⟨_, rfl⟩
            have hLl : (b.data.toList.take n).length = n := by rw [List.length_take, HBL.out]; omega
            have hrl : ((b.data.toList.take n).drop 16).length = n - 16 := by rw [List.length_drop, hLl]
            have TA := tail_at (L := b.data.toList.take n) (h := hh) (rest := (b.data.toList.take n).drop 16)
            rw [hrl, hLl, ← hF] at TA
            have HF := Lib.hid hF
            have HTA := Lib.hid TA
            have HERR : Hid (∀ e, F = .error e → e ≠ 2 → getR b.data.toList = .error e) := fun e h1 h2 => by
              rw [HE2.out, HFO.out, HTA.out.1 e h1]
              show Except.error (more e) = _
              unfold more
              rw [if_neg h2]
            clear hF hrl hLl TA
            go_wp2_with (fail)
            go_loopw [11, 16, 17] (fun ta tq tc wr => ∃ (p q sn cnt k : Nat) (fs : List Fd) (v : Value), ta = .int .i64 p ∧ tq = .int .i64 q ∧ tc = .int .i64 cnt ∧ p ≤ n ∧ n - p ≤ k ∧ fs.length ≤ p ∧ cnt ≤ p ∧ q + 4 ≤ n ∧ Hid (0 < q ↔ 0 < cnt) ∧ Hid (0 < q → sn = bv ((b.data.toList.drop q).take 4)) ∧ Hid (F = flE k n ((b.data.toList.take n).drop p) fs q sn (decide (1 < cnt))) ∧ Hid (DSt Bk R N S w (.bool false) (.int .i64 fn) (.string ⟨#[]⟩) (.string ⟨#[]⟩) (.int .i64 0) (.int .i64 0) v fs wr)) (fun ta _ _ _ => n - (intOf ta).toNat)
            case atStart => exact ⟨16, 0, 0, 0, n - 16, [], _, rfl, rfl, rfl, by omega, by omega, by simp, by omega, by omega, by show _ ↔ _; simp, fun h => by omega, HF.out, ST.out⟩
            case round =>
              obtain ⟨p, q, sn, cnt, k, fs, v, rfl, rfl, rfl, hpn, hpk, hfl, hcp, hq4, hqc, hsn, hFF, hst⟩ := hrel
              by_cases hlt : p < n
              · have e1 : decide ((p : Int) < (n : Int)) = true := decide_eq_true (by omega)
                have e1' : decide (p < n) = true := decide_eq_true hlt
                have hpb : p < b.size := by omega
                have hpbn : p < bn := by omega
                have hpl : p < b.data.toList.length := by rw [HBL.out]; omega
                obtain ⟨cb, hcb⟩ : ∃ c, c = (b.data.toList[p]'hpl).toNat := ⟨_, rfl⟩
                have hcb' : ∀ h : p < b.size, (b[p]'h).toNat = cb := fun h => hcb.symm
                have hcb9 : cb < 256 := by rw [hcb]; exact (b.data.toList[p]'hpl).toNat_lt
                obtain ⟨m, hm⟩ : ∃ m, m = bv ((b.data.toList.drop (p + 1)).take 2) := ⟨_, rfl⟩
                have hm9 : m < 65536 := by
                  rw [hm]
                  have h := bv_lt ((b.data.toList.drop (p + 1)).take 2)
                  have h2 : 256 ^ ((b.data.toList.drop (p + 1)).take 2).length ≤ 256 ^ 2 := Nat.pow_le_pow_right (by decide) (by rw [List.length_take]; omega)
                  omega
                obtain ⟨f1, f2, f3, f4, f5⟩ := flE_round fs q sn (decide (1 < cnt)) (l := b.data.toList) (by rw [HBL.out]; exact hnb) hlt hpk cb m hcb hm
                rw [← hFF.out] at f1 f2 f3 f4 f5
                have HF1 := Lib.hid f1
                have HF2 := Lib.hid f2
                have HF3 := Lib.hid f3
                have HF4 := Lib.hid f4
                have HF5 := Lib.hid f5
                have HM := Lib.hid hm
                have HCB := Lib.hid hcb
                have HSS := Lib.hid hst
                obtain ⟨np, hnp⟩ : ∃ k, k = n - p := ⟨_, rfl⟩
                have x1 : (n : Int) - (p : Int) = (np : Int) := by rw [hnp, Int.ofNat_sub (Nat.le_of_lt hlt)]
                have x1w : IntKind.i64.wrap ((n : Int) - (p : Int)) = (np : Int) := by rw [x1]; exact IntWalk.i64_in _ (by omega)
                have x1v : IntKind.i64.wrap (np : Int) = (np : Int) := IntWalk.i64_in _ (by omega)
                rw [← hnp] at hpk
                have HNP := Lib.hid hnp
                clear f1 f2 f3 f4 f5 hcb hm hFF
                by_cases c3 : np < 3
                · have e2 : decide ((np : Int) < 3) = true := decide_eq_true (by omega)
                  have e2' : decide (np < 3) = true := decide_eq_true c3
                  have HE : Hid (getR b.data.toList = .error 4) := HERR.out 4 (HF1.out (by rw [← HNP.out]; exact c3)) (by decide)
                  clear HF1 HF2 HF3 HF4 HF5
                  clear c3 hnp
                  obtain ⟨nk0, nk1, nk2, nk3, nk4, nk5, nk6⟩ := hst.out.kN
                  obtain ⟨rk0, rk1, rk2, rk3, rk4, rk5, rk6⟩ := hst.out.kR
                  have rf0 := hst.out.fR 0
                  have rf1 := hst.out.fR 1
                  have rf2 := hst.out.fR 2
                  have rf3 := hst.out.fR 3
                  have rf4 := hst.out.fR 4
                  have rf5 := hst.out.fR 5
                  have rf6 := hst.out.fR 6
                  go_wp2_with (fail)
                  refine bodyPost_ret (rget_end (g := R) rfl rfl rfl rfl (set7 hst.out.hR)) rfl ⟨below7 hst.out.bel HRN.out.1, .inl ⟨4, HE.out, rfl⟩⟩
                · have e2 : decide ((np : Int) < 3) = false := decide_eq_false (by omega)
                  have e2' : decide (np < 3) = false := decide_eq_false c3
                  have hc3 : ¬ n - p < 3 := by rw [← HNP.out]; exact c3
                  obtain ⟨pa, hpa⟩ : ∃ k, k = p + 1 := ⟨_, rfl⟩
                  obtain ⟨pc, hpc⟩ : ∃ k, k = p + 3 := ⟨_, rfl⟩
                  obtain ⟨nq, hnq⟩ : ∃ k, k = np - 3 := ⟨_, rfl⟩
                  have x2 : (p : Int) + 1 = (pa : Int) := by omega
                  have x2w : IntKind.i64.wrap ((p : Int) + 1) = (pa : Int) := by rw [IntWalk.i64_in _ (by omega)]; omega
                  have x2v : IntKind.i64.wrap (pa : Int) = (pa : Int) := IntWalk.i64_in _ (by omega)
                  have x3 : (p : Int) + 3 = (pc : Int) := by omega
                  have x3w : IntKind.i64.wrap ((p : Int) + 3) = (pc : Int) := by rw [IntWalk.i64_in _ (by omega)]; omega
                  have x3v : IntKind.i64.wrap (pc : Int) = (pc : Int) := IntWalk.i64_in _ (by omega)
                  have x4 : (np : Int) - 3 = (nq : Int) := by omega
                  have x4w : IntKind.i64.wrap ((np : Int) - 3) = (nq : Int) := by rw [IntWalk.i64_in _ (by omega)]; omega
                  have x4v : IntKind.i64.wrap (nq : Int) = (nq : Int) := IntWalk.i64_in _ (by omega)
                  have s1 : (pa : Int) ≤ (pc : Int) := by omega
                  have s1' : pa ≤ pc := by omega
                  have s2 : (pc : Int) ≤ (bn : Int) := by omega
                  have s2' : pc ≤ bn := by omega
                  have hwm : IntKind.i64.wrap (m : Int) = (m : Int) := IntWalk.i64_in _ (by omega)
                  have hext : (b.extract pa pc).data.toList = (b.data.toList.drop (p + 1)).take 2 := by
                    rw [ext_list, hpa, hpc]; congr 1; omega
                  have VM : Hid (∀ V, Calls Tryd.prog 39 #[.string (b.extract pa pc)] V fun e w' => e = .returned (.int .u64 m) ∧ w' = V) := fun V => (rvalue_any (b.extract pa pc) V (by rw [ByteArray.size_extract]; omega)).mono fun e w' h => by
                    rw [hext, ← HM.out] at h; exact h
                  have HPC := Lib.hid hpc
                  have HPA := Lib.hid hpa
                  by_cases cm : nq < m
                  · have e3 : decide ((nq : Int) < (m : Int)) = true := decide_eq_true (by omega)
                    have e3' : decide (nq < m) = true := decide_eq_true cm
                    have HE : Hid (getR b.data.toList = .error 4) := HERR.out 4 (HF2.out hc3 (by rw [← HNP.out, ← hnq]; exact cm)) (by decide)
                    clear HF1 HF2 HF3 HF4 HF5
                    clear cm hnp hpa hpc hnq hext c3 hc3
                    obtain ⟨nk0, nk1, nk2, nk3, nk4, nk5, nk6⟩ := hst.out.kN
                    obtain ⟨rk0, rk1, rk2, rk3, rk4, rk5, rk6⟩ := hst.out.kR
                    have rf0 := hst.out.fR 0
                    have rf1 := hst.out.fR 1
                    have rf2 := hst.out.fR 2
                    have rf3 := hst.out.fR 3
                    have rf4 := hst.out.fR 4
                    have rf5 := hst.out.fR 5
                    have rf6 := hst.out.fR 6
                    go_wp2_with (first | (go_at_call 39; (with_reducible refine (VM.out _).mono ?_); rintro e w5 ⟨rfl, rfl⟩))
                    refine bodyPost_ret (rget_end (g := R) rfl rfl rfl rfl (set7 hst.out.hR)) rfl ⟨below7 hst.out.bel HRN.out.1, .inl ⟨4, HE.out, rfl⟩⟩
                  · have e3 : decide ((nq : Int) < (m : Int)) = false := decide_eq_false (by omega)
                    have e3' : decide (nq < m) = false := decide_eq_false cm
                    have hcm : m ≤ n - p - 3 := by omega
                    by_cases c33 : cb = 3
                    · subst c33
                      by_cases m4 : m = 4
                      · subst m4
                        have e3q : decide ((nq : Int) < 4) = false := decide_eq_false (by omega)
                        have e3q' : decide (nq < 4) = false := decide_eq_false (by omega)
                        obtain ⟨k', hk', hFk⟩ := HF5.out hc3 hcm rfl rfl
                        obtain ⟨pe, hpe⟩ : ∃ k, k = pc + 4 := ⟨_, rfl⟩
                        have x5 : (pc : Int) + 4 = (pe : Int) := by omega
                        have x5w : IntKind.i64.wrap ((pc : Int) + 4) = (pe : Int) := by rw [IntWalk.i64_in _ (by omega)]; omega
                        have x5v : IntKind.i64.wrap (pe : Int) = (pe : Int) := IntWalk.i64_in _ (by omega)
                        have HPE := Lib.hid hpe
                        have HREL : Hid (pe ≤ n ∧ n - pe ≤ k' ∧ fs.length ≤ pe ∧ cnt + 1 ≤ pe ∧ pc + 4 ≤ n ∧ p < pe) := by show _ ∧ _; omega
                        have HFK := Lib.hid hFk
                        clear hcm cm hnp hpa hpc hnq hext c3 hc3 hpe hk' hFk
                        go_wp2_with (first | (go_at_call 39; (with_reducible refine (VM.out _).mono ?_); rintro e w5 ⟨rfl, rfl⟩))
                        refine ⟨⟨pe, pc, bv ((b.data.toList.drop (p + 3)).take 4), cnt + 1, k', fs, v, rfl, rfl, by go_num, HREL.out.1, HREL.out.2.1, HREL.out.2.2.1, HREL.out.2.2.2.1, HREL.out.2.2.2.2.1, ?_, ?_, ?_, HSS.out⟩, ?_⟩
                        · have := HPC.out
                          show _ ↔ _
                          omega
                        · exact fun _ => by rw [HPC.out]
                        · show F = _
                          rw [HFK.out, HPE.out, HPC.out]
                          congr 1
                          have h := hqc.out
                          by_cases z1 : 0 < cnt
                          · rw [decide_eq_true (h.2 z1), Bool.or_true, decide_eq_true (by omega)]
                          · rw [decide_eq_false (fun z => z1 (h.1 z)), decide_eq_false (by omega), decide_eq_false (by omega)]; rfl
                        · have := HREL.out.2.2.2.2.2
                          have := HREL.out.1
                          simp [intOf] <;> omega
                      · have e5 : ((m : Int) != 4) = true := by rw [bne, beq_eq_false_iff_ne.2 (by omega)]; rfl
                        have HE : Hid (getR b.data.toList = .error 4) := HERR.out 4 (HF3.out hc3 hcm rfl m4) (by decide)
                        clear HF1 HF2 HF3 HF4 HF5
                        clear cm hnp hpa hpc hnq hext c3 hc3 hcm m4
                        obtain ⟨nk0, nk1, nk2, nk3, nk4, nk5, nk6⟩ := hst.out.kN
                        obtain ⟨rk0, rk1, rk2, rk3, rk4, rk5, rk6⟩ := hst.out.kR
                        have rf0 := hst.out.fR 0
                        have rf1 := hst.out.fR 1
                        have rf2 := hst.out.fR 2
                        have rf3 := hst.out.fR 3
                        have rf4 := hst.out.fR 4
                        have rf5 := hst.out.fR 5
                        have rf6 := hst.out.fR 6
                        go_wp2_with (first | (go_at_call 39; (with_reducible refine (VM.out _).mono ?_); rintro e w5 ⟨rfl, rfl⟩))
                        refine bodyPost_ret (rget_end (g := R) rfl rfl rfl rfl (set7 hst.out.hR)) rfl ⟨below7 hst.out.bel HRN.out.1, .inl ⟨4, HE.out, rfl⟩⟩
                    · have e4 : ((cb : Int) == 3) = false := by rw [beq_eq_false_iff_ne]; omega
                      obtain ⟨k', hk', hFk⟩ := HF4.out hc3 hcm c33
                      obtain ⟨pe, hpe⟩ : ∃ k, k = pc + m := ⟨_, rfl⟩
                      have x5 : (pc : Int) + (m : Int) = (pe : Int) := by omega
                      have x5w : IntKind.i64.wrap ((pc : Int) + (m : Int)) = (pe : Int) := by rw [IntWalk.i64_in _ (by omega)]; omega
                      have x5v : IntKind.i64.wrap (pe : Int) = (pe : Int) := IntWalk.i64_in _ (by omega)
                      have s3 : (pc : Int) ≤ (pe : Int) := by omega
                      have s3' : pc ≤ pe := by omega
                      have s4 : (pe : Int) ≤ (bn : Int) := by omega
                      have s4' : pe ≤ bn := by omega
                      have hwc : IntKind.i64.wrap (cb : Int) = (cb : Int) := IntWalk.i64_in _ (by omega)
                      obtain ⟨tx, htx⟩ : ∃ t, t = (b.data.toList.drop (p + 3)).take m := ⟨_, rfl⟩
                      have htb : b.extract pc pe = bs tx := by
                        rw [← bs_of (b.extract pc pe), ext_list, htx, hpe, hpc]; congr 2; omega
                      have HTB := Lib.hid htb
                      have HPE := Lib.hid hpe
                      have HREL : Hid (pe ≤ n ∧ n - pe ≤ k' ∧ fs.length + 1 ≤ pe ∧ cnt ≤ pe ∧ p < pe) := by show _ ∧ _; omega
                      rw [← htx] at hFk
                      have HFK := Lib.hid hFk
                      have hlen : Hid (fs.length ≤ 1000000) := by show fs.length ≤ _; omega
                      clear hcm cm hnp hpa hpc hnq hext c3 hc3 hpe hk' hFk htx c33
                      go_wp2_with (first | (go_at_call 39; (with_reducible refine (VM.out _).mono ?_); rintro e w5 ⟨rfl, rfl⟩))
                      have k6 := HSS.out.kS.2.2.2.2.2.2
                      have k6f := HSS.out.fS 6
                      have g3 := (HSS.out.alloc (.cells #[.int .i64 cb, .string (bs tx)] 45)).kS.2.2.2.2.2.2
                      have g4 := (HSS.out.alloc (.cells #[.int .i64 cb, .string (bs tx)] 45)).fS 6
                      go_region_law (first | (refine step_append_at (Operand.tmp 155) (Operand.tmp 169) 22 rfl rfl ?_; refine ex_mono (DSt.append (B := Bk) (R := R) (N := N) (S := S) (w0 := w) (h0 := (.bool false)) (h1 := (.int .i64 fn)) (h2 := (.string ⟨#[]⟩)) (h3 := (.string ⟨#[]⟩)) (h4 := (.int .i64 0)) (h5 := (.int .i64 0)) (v := v) (fs := fs) ?_ _ _ _ (cb, tx) ?_ hlen.out) ?_; (focus (repeat (first | exact HSS.out | refine DSt.drew ?_ | refine DSt.alloc ?_ _))); (focus (first | exact alloc_new _ _ | exact alloc_new_drew _ _)); rintro v3 w3 ⟨hM, g9, c9, rfl⟩; obtain ⟨u3, m0⟩ := hM.c6; have mf := hM.f 6; have HMM := Lib.hid hM; clear hM))
                      all_goals
                        have HS2 := Lib.hid HMM.out.store
                        clear HMM m0 mf g3 g4 k6 k6f
                        simp only [Exit.then]
                        go_wp2_with (fail)
                        refine ⟨⟨pe, q, sn, cnt, k', fs ++ [(cb, tx)], _, rfl, rfl, rfl, HREL.out.1, HREL.out.2.1, by rw [List.length_append]; exact HREL.out.2.2.1, HREL.out.2.2.2.1, hq4, hqc.out, hsn.out, ?_, HS2.out⟩, ?_⟩
                        · show F = _
                          rw [HFK.out, HPE.out, HPC.out]
                        · have := HREL.out.2.2.2.2
                          have := HREL.out.1
                          simp [intOf] <;> omega
              · obtain rfl : n = p := by omega
                have hdrop : (b.data.toList.take n).drop n = [] := List.drop_eq_nil_of_le (by rw [List.length_take]; omega)
                have hFn := hFF.out
                rw [hdrop, flE_nil] at hFn
                have HSS := Lib.hid hst
                obtain ⟨aa, cc, rfl, _⟩ := row_in hst.out.row
                have e1 : decide ((n : Int) < (n : Int)) = false := decide_eq_false (by omega)
                have e1' : decide (n < n) = false := decide_eq_false (by omega)
                clear hdrop hFF hlt
                by_cases c1 : 1 < cnt
                · have e2 : decide (1 < (cnt : Int)) = true := decide_eq_true (by omega)
                  have e2' : decide (1 < cnt) = true := decide_eq_true c1
                  rw [e2'] at hFn
                  have HE : Hid (getR b.data.toList = .error 12) := HERR.out 12 (by rw [hFn]; rfl) (by decide)
                  clear c1 hFn
                  obtain ⟨nk0, nk1, nk2, nk3, nk4, nk5, nk6⟩ := hst.out.kN
                  obtain ⟨rk0, rk1, rk2, rk3, rk4, rk5, rk6⟩ := hst.out.kR
                  have rf0 := hst.out.fR 0
                  have rf1 := hst.out.fR 1
                  have rf2 := hst.out.fR 2
                  have rf3 := hst.out.fR 3
                  have rf4 := hst.out.fR 4
                  have rf5 := hst.out.fR 5
                  have rf6 := hst.out.fR 6
                  go_wp2_with (fail)
                  refine bodyPost_ret (rget_end (g := R) rfl rfl rfl rfl (set7 hst.out.hR)) rfl ⟨below7 hst.out.bel HRN.out.1, .inl ⟨12, HE.out, rfl⟩⟩
                · have e2 : decide (1 < (cnt : Int)) = false := decide_eq_false (by omega)
                  have e2' : decide (1 < cnt) = false := decide_eq_false c1
                  rw [e2'] at hFn
                  have hFo : F = .ok (fs, q, sn) := by rw [hFn]; rfl
                  obtain ⟨T0, T1, T2⟩ := HTA.out.2 fs q sn hFo
                  have hk := hqc.out
                  by_cases c0 : cnt = 0
                  · subst c0
                    obtain rfl : q = 0 := by omega
                    have HE : Hid (getR b.data.toList = .ok (false, hh, fs, 0, n)) := by show _ = _; rw [HE2.out, HFO.out, T0 rfl]
                    clear hFn hFo T0 T1 T2 c1 hk hqc
                    go_wp2_with (fail)
                    go_quiet (fail)
                    have HDD := Lib.hid (hst.out.below (below_dN wr nq))
                    obtain ⟨nk0, nk1, nk2, nk3, nk4, nk5, nk6⟩ := hst.out.kN
                    obtain ⟨rk0, rk1, rk2, rk3, rk4, rk5, rk6⟩ := hst.out.kR
                    have rf0 := hst.out.fR 0
                    have rf1 := hst.out.fR 1
                    have rf2 := hst.out.fR 2
                    have rf3 := hst.out.fR 3
                    have rf4 := hst.out.fR 4
                    have rf5 := hst.out.fR 5
                    have rf6 := hst.out.fR 6
                    obtain ⟨sk0, sk1, sk2, sk3, sk4, sk5, sk6⟩ := hst.out.kS
                    have sf0 := hst.out.fS 0
                    have sf1 := hst.out.fS 1
                    have sf2 := hst.out.fS 2
                    have sf3 := hst.out.fS 3
                    have sf4 := hst.out.fS 4
                    have sf5 := hst.out.fS 5
                    have sf6 := hst.out.fS 6
                    go_wp2_with (fail)
                    refine bodyPost_ret (rget_end (g := R) rfl rfl rfl rfl (set7 HDD.out.hR)) rfl ⟨below7 HDD.out.bel HRN.out.1, .inr ⟨false, hh, fs, 0, n, _, Bk, HE.out, by rw [HSV.out]; rfl, row7 HDD.out.row HDD.out.lt.2.1⟩⟩
                  · obtain rfl : cnt = 1 := by omega
                    have hq0 : 0 < q := by omega
                    obtain ⟨qe, hqe⟩ : ∃ k, k = q + 4 := ⟨_, rfl⟩
                    have hsn2 := hsn.out hq0
                    have y1 : (q : Int) + 4 = (qe : Int) := by omega
                    have y1w : IntKind.i64.wrap ((q : Int) + 4) = (qe : Int) := by rw [y1]; exact IntWalk.i64_in _ (by omega)
                    have y1v : IntKind.i64.wrap (qe : Int) = (qe : Int) := IntWalk.i64_in _ (by omega)
                    have t1 : (q : Int) ≤ (bn : Int) := by omega
                    have t1' : q ≤ bn := by omega
                    have t2 : (qe : Int) ≤ (n : Int) := by omega
                    have t2' : qe ≤ n := by omega
                    have t3 : (n : Int) ≤ (bn : Int) := by omega
                    have t4 : (q : Int) ≤ (qe : Int) := by omega
                    have t4' : q ≤ qe := by omega
                    have t5 : (qe : Int) ≤ (bn : Int) := by omega
                    have t5' : qe ≤ bn := by omega
                    obtain ⟨X1, hX1⟩ : ∃ X : ByteArray, X = b.extract 0 q ++ ⟨#[0, 0, 0, 0]⟩ := ⟨_, rfl⟩
                    obtain ⟨X2, hX2⟩ : ∃ X : ByteArray, X = X1 ++ b.extract qe n := ⟨_, rfl⟩
                    have x1s : X1.size = q + 4 := by rw [hX1, ByteArray.size_append, ByteArray.size_extract]; show min q b.size - 0 + 4 = _; omega
                    have x2s : X2.size ≤ 2000000 := by rw [hX2, ByteArray.size_append, ByteArray.size_extract]; omega
                    have hz1 : ∀ wx, (Op.stringOp .add (b.extract 0 q) ⟨#[0, 0, 0, 0]⟩).run Tryd.prog wx = .ok (.string X1) wx := fun wx => by rw [hX1]; exact run_string_add_sum wx _ _ (by rw [ByteArray.size_extract]; show min q b.size - 0 + 4 ≤ _; omega)
                    have hz2 : ∀ wx, (Op.stringOp .add X1 (b.extract qe n)).run Tryd.prog wx = .ok (.string X2) wx := fun wx => by rw [hX2]; exact run_string_add_sum wx _ _ (by rw [ByteArray.size_extract]; omega)
                    obtain ⟨cs, hcs⟩ : ∃ c, c = (Crc.sum ((b.data.toList.take n).take q ++ [0, 0, 0, 0] ++ (b.data.toList.take n).drop (q + 4))).toNat := ⟨_, rfl⟩
                    have hcs9 : cs < 4294967296 := by rw [hcs]; exact (Crc.sum _).isLt
                    have hX2l : X2.data.toList = (b.data.toList.take n).take q ++ [0, 0, 0, 0] ++ (b.data.toList.take n).drop (q + 4) := by
                      rw [hX2, hX1, hqe]
                      simp only [ByteArray.data_append, Array.toList_append]
                      rw [ext_list, ext_list, List.drop_zero, Nat.sub_zero, List.take_take, Nat.min_eq_left (by omega), List.drop_take]
                    have SU : Hid (∀ V, Calls Tryd.prog 31 #[.string X2] V fun e w' => e = .returned (.int .u32 cs) ∧ w' = V) := fun V => (CrcW.refsum_any X2 V (by omega)).mono fun e w' h => by
                      rw [hX2l, ← hcs] at h; exact h
                    have VQ : Hid (∀ V, Calls Tryd.prog 39 #[.string (b.extract q qe)] V fun e w' => e = .returned (.int .u64 sn) ∧ w' = V) := fun V => (rvalue_any (b.extract q qe) V (by rw [ByteArray.size_extract]; omega)).mono fun e w' h => by
                      rw [ext_list, show qe - q = 4 from by omega, ← hsn2] at h; exact h
                    have hwc : IntKind.u64.wrap (cs : Int) = (cs : Int) := by rw [IntKind.wrap_u64]; omega
                    have HOK : sealOk (b.data.toList.take n) q sn = decide (cs = sn) := by unfold sealOk; rw [hcs]
                    have HDD := Lib.hid hst.out.drew
                    by_cases hcn : cs = sn
                    · have e5 : ((cs : Int) != (sn : Int)) = false := by rw [hcn]; simp
                      have HE : Hid (getR b.data.toList = .ok (false, hh, fs, q, n)) := by show _ = _; rw [HE2.out, HFO.out, T1 hq0 (by rw [HOK]; exact decide_eq_true hcn)]
                      have HDQ : Hid (decide (0 < q) = true) := decide_eq_true hq0
                      clear hFn hFo T0 T1 T2 c1 c0 hk hqc hqe hsn2 hX1 hX2 x1s x2s hcs hX2l HOK hcn hq0
                      go_wp2_with (fail)
                      go_region_held3 (fun _ => True) (exact trivial) (first | (go_simp; go_at_call 31; (with_reducible refine (SU.out _).mono ?_); rintro e w7 ⟨rfl, rfl⟩) | (go_simp; go_at_call 39; (with_reducible refine (VQ.out _).mono ?_); rintro e w8 ⟨rfl, rfl⟩))
                      simp only [Exit.then]
                      obtain ⟨w9, hw9⟩ : ∃ x, x = wr.drew := ⟨_, rfl⟩
                      rw [← hw9]
                      rw [← hw9] at HDD
                      clear hw9
                      obtain ⟨nk0, nk1, nk2, nk3, nk4, nk5, nk6⟩ := HDD.out.kN
                      obtain ⟨rk0, rk1, rk2, rk3, rk4, rk5, rk6⟩ := HDD.out.kR
                      have rf0 := HDD.out.fR 0
                      have rf1 := HDD.out.fR 1
                      have rf2 := HDD.out.fR 2
                      have rf3 := HDD.out.fR 3
                      have rf4 := HDD.out.fR 4
                      have rf5 := HDD.out.fR 5
                      have rf6 := HDD.out.fR 6
                      obtain ⟨sk0, sk1, sk2, sk3, sk4, sk5, sk6⟩ := HDD.out.kS
                      have sf0 := HDD.out.fS 0
                      have sf1 := HDD.out.fS 1
                      have sf2 := HDD.out.fS 2
                      have sf3 := HDD.out.fS 3
                      have sf4 := HDD.out.fS 4
                      have sf5 := HDD.out.fS 5
                      have sf6 := HDD.out.fS 6
                      go_wp2_with (fail)
                      refine bodyPost_ret (rget_end (g := R) rfl rfl rfl rfl (set7 HDD.out.hR)) rfl ⟨below7 HDD.out.bel HRN.out.1, .inr ⟨false, hh, fs, q, n, _, Bk, HE.out, by rw [HSV.out, HDQ.out]; rfl, row7 HDD.out.row HDD.out.lt.2.1⟩⟩
                    · have e5 : ((cs : Int) != (sn : Int)) = true := by rw [bne, beq_eq_false_iff_ne.2 (by omega)]; rfl
                      have HE : Hid (getR b.data.toList = .error 5) := by
                        show _ = _
                        rw [HE2.out, HFO.out, T2 hq0 (by rw [HOK]; exact decide_eq_false hcn)]; rfl
                      clear hFn hFo T0 T1 T2 c1 c0 hk hqc hqe hsn2 hX1 hX2 x1s x2s hcs hX2l HOK hcn hq0
                      go_wp2_with (fail)
                      go_region_held3 (fun _ => True) (exact trivial) (first | (go_simp; go_at_call 31; (with_reducible refine (SU.out _).mono ?_); rintro e w7 ⟨rfl, rfl⟩) | (go_simp; go_at_call 39; (with_reducible refine (VQ.out _).mono ?_); rintro e w8 ⟨rfl, rfl⟩))
                      simp only [Exit.then]
                      obtain ⟨w9, hw9⟩ : ∃ x, x = wr.drew := ⟨_, rfl⟩
                      rw [← hw9]
                      rw [← hw9] at HDD
                      clear hw9
                      obtain ⟨nk0, nk1, nk2, nk3, nk4, nk5, nk6⟩ := HDD.out.kN
                      obtain ⟨rk0, rk1, rk2, rk3, rk4, rk5, rk6⟩ := HDD.out.kR
                      have rf0 := HDD.out.fR 0
                      have rf1 := HDD.out.fR 1
                      have rf2 := HDD.out.fR 2
                      have rf3 := HDD.out.fR 3
                      have rf4 := HDD.out.fR 4
                      have rf5 := HDD.out.fR 5
                      have rf6 := HDD.out.fR 6
                      obtain ⟨sk0, sk1, sk2, sk3, sk4, sk5, sk6⟩ := HDD.out.kS
                      have sf0 := HDD.out.fS 0
                      have sf1 := HDD.out.fS 1
                      have sf2 := HDD.out.fS 2
                      have sf3 := HDD.out.fS 3
                      have sf4 := HDD.out.fS 4
                      have sf5 := HDD.out.fS 5
                      have sf6 := HDD.out.fS 6
                      go_wp2_with (fail)
                      refine bodyPost_ret (rget_end (g := R) rfl rfl rfl rfl (set7 HDD.out.hR)) rfl ⟨below7 HDD.out.bel HRN.out.1, .inl ⟨5, HE.out, rfl⟩⟩
  · have z1 : ((ea : Int) != 0) = true := by rw [bne, beq_eq_false_iff_ne.2 (by omega)]; rfl
    have HE : Hid (getR b.data.toList = .error ea) := by show _ = _; rw [HEA.out]; exact early_err (by rw [← HEA.out]; exact he)
    clear he
    go_wp2_with (first | (go_at_call 38; (with_reducible refine (EA.out _ HB0.out).mono ?_); rintro e w1 ⟨rfl, hb1⟩; obtain ⟨r1, n1, b1⟩ := HKN.out _ hb1; have rf0 := Lib.frozen_of_heap r1 0; have rf1 := Lib.frozen_of_heap r1 1; have rf2 := Lib.frozen_of_heap r1 2; have rf3 := Lib.frozen_of_heap r1 3; have rf4 := Lib.frozen_of_heap r1 4; have rf5 := Lib.frozen_of_heap r1 5; have rf6 := Lib.frozen_of_heap r1 6; have rk0 := cellAt (i := 0) (v := .bool false) r1 rfl; have rk1 := cellAt (i := 1) (v := .int .i64 0) r1 rfl; have rk2 := cellAt (i := 2) (v := .string ⟨#[]⟩) r1 rfl; have rk3 := cellAt (i := 3) (v := .string ⟨#[]⟩) r1 rfl; have rk4 := cellAt (i := 4) (v := .int .i64 0) r1 rfl; have rk5 := cellAt (i := 5) (v := .int .i64 0) r1 rfl; have rk6 := cellAt (i := 6) (v := .slice none 0 0) r1 rfl; have nk0 := cellAt (i := 0) (v := .bool false) n1 rfl; have nk1 := cellAt (i := 1) (v := .int .i64 0) n1 rfl; have nk2 := cellAt (i := 2) (v := .string ⟨#[]⟩) n1 rfl; have nk3 := cellAt (i := 3) (v := .string ⟨#[]⟩) n1 rfl; have nk4 := cellAt (i := 4) (v := .int .i64 0) n1 rfl; have nk5 := cellAt (i := 5) (v := .int .i64 0) n1 rfl; have nk6 := cellAt (i := 6) (v := .slice none 0 0) n1 rfl; have HR1 := Lib.hid r1; have HB1 := Lib.hid b1; clear r1 n1 b1 hb1))
    refine bodyPost_ret (rget_end (g := R) rfl rfl rfl rfl (set7 HR1.out)) rfl ⟨below7 HB1.out HRN.out.1, .inl ⟨ea, HE.out, rfl⟩⟩
end Go.Proofs.YtfagkmmenfeppaaDoor
