import Derived.Test.YtfagkmmenfeppaaDoorGetA
/- Get, whole. -/
namespace Go.Proofs.YtfagkmmenfeppaaDoor
set_option maxRecDepth 100000
open Go.RowKit
def more (c : Nat) : Nat := if c = 2 then 10 else c
/-- what Get answers -/
def getR (l : List UInt8) : Except Nat (Bool × Hd × List Fd × Nat × Nat) :=
  match getE l with
  | .error c => .error (more c)
  | .ok r => .ok r
def streamV (loc : Bool) (h : Hd) (v : Value) : Value := .agg #[.bool loc, .int .i64 h.1, .string (bs h.2.1), .string (bs h.2.2.1), .int .i64 h.2.2.2.1, .int .i64 h.2.2.2.2, v]
def zeroS : Value := .agg #[.bool false, .int .i64 0, .string ⟨#[]⟩, .string ⟨#[]⟩, .int .i64 0, .int .i64 0, .slice none 0 0]
def GetPost (b : ByteArray) (w : World) (e : Ending) (w' : World) : Prop :=
  Below w.heap.size w w' ∧
  ((∃ c : Nat, getR b.data.toList = .error c ∧ e = .returned (.tuple #[zeroS, .bool false, .int .i64 0, .int .i64 c])) ∨
   (∃ (loc : Bool) (h : Hd) (fs : List Fd) (a m : Nat) (v : Value), getR b.data.toList = .ok (loc, h, fs, a, m) ∧ e = .returned (.tuple #[streamV loc h v, .bool (decide (0 < a)), .int .i64 m, .int .i64 0]) ∧ w'.ownsRow w.heap.size 45 2 v fs.length (fflat fs)))
theorem leadE_ne {l : List UInt8} {c : Nat} (h : leadE l = .error c) : c ≠ 0 := by
  rcases l with _ | ⟨x, l⟩
  · injection h; omega
  · rw [leadE] at h
    split at h
    · injection h; omega
    · split at h
      · injection h; omega
      · rcases l with _ | ⟨d, l⟩
        · injection h; omega
        · simp only [leadT] at h
          split at h
          · injection h; omega
          · split at h
            · injection h; omega
            · cases h
theorem getE_ne {l : List UInt8} {c : Nat} (h : getE l = .error c) : c ≠ 0 := by
  rw [getE] at h
  split at h
  · injection h; omega
  · split at h
    · injection h; omega
    · split at h
      · rename_i e he
        injection h with h; subst h; exact leadE_ne he
      · split at h
        · injection h; omega
        · split at h
          · rename_i e he
            injection h with h; subst h; exact follE_ne he
          · cases h
theorem get_end {g : Nat} {a0 a1 a2 a3 a4 a5 a6 x y z : Value} {W : World} {tmps : Array Value} (h2 : tmps.getD 2 undef = .pointer (some ⟨g, 0, none⟩)) (h3 : tmps.getD 3 undef = x) (h4 : tmps.getD 4 undef = y) (h5 : tmps.getD 5 undef = z)
    (h : W.heap[g]? = some (.cells #[a0, a1, a2, a3, a4, a5, a6] 24 (0, 0))) : (results Tryd.f13 tmps).run Tryd.prog W = .ok (.tuple #[.agg #[a0, a1, a2, a3, a4, a5, a6], x, y, z]) W := by
  have c0 : W.cell? ⟨g, 0, none⟩ = some a0 := cellAt h rfl
  have c1 : W.cell? ⟨g, 1, none⟩ = some a1 := cellAt h rfl
  have c2 : W.cell? ⟨g, 2, none⟩ = some a2 := cellAt h rfl
  have c3 : W.cell? ⟨g, 3, none⟩ = some a3 := cellAt h rfl
  have c4 : W.cell? ⟨g, 4, none⟩ = some a4 := cellAt h rfl
  have c5 : W.cell? ⟨g, 5, none⟩ = some a5 := cellAt h rfl
  have c6 : W.cell? ⟨g, 6, none⟩ = some a6 := cellAt h rfl
  simp at h2 h3 h4 h5
  simp [results, Tryd.results13, go_sem, h2, h3, h4, h5, c0, c1, c2, c3, c4, c5, c6]
theorem set7 {w : World} {g : Nat} {a0 a1 a2 a3 a4 a5 a6 b0 b1 b2 b3 b4 b5 b6 : Value} {t : TypeId} (h : w.heap[g]? = some (.cells #[a0, a1, a2, a3, a4, a5, a6] t (0, 0))) :
    (((((((w.setCell ⟨g, 0, none⟩ b0).setCell ⟨g, 1, none⟩ b1).setCell ⟨g, 2, none⟩ b2).setCell ⟨g, 3, none⟩ b3).setCell ⟨g, 4, none⟩ b4).setCell ⟨g, 5, none⟩ b5).setCell ⟨g, 6, none⟩ b6).heap[g]? = some (.cells #[b0, b1, b2, b3, b4, b5, b6] t (0, 0)) := by
  simp [World.setCell, Array.getElem?_modify, h]
theorem below7 {w w2 : World} {g : Nat} {b0 b1 b2 b3 b4 b5 b6 : Value} (h : Below w.heap.size w w2) (hg : w.heap.size ≤ g) :
    Below w.heap.size w (((((((w2.setCell ⟨g, 0, none⟩ b0).setCell ⟨g, 1, none⟩ b1).setCell ⟨g, 2, none⟩ b2).setCell ⟨g, 3, none⟩ b3).setCell ⟨g, 4, none⟩ b4).setCell ⟨g, 5, none⟩ b5).setCell ⟨g, 6, none⟩ b6) :=
  ((((((h.setCell (p := ⟨g, 0, none⟩) hg _).setCell (p := ⟨g, 1, none⟩) hg _).setCell (p := ⟨g, 2, none⟩) hg _).setCell (p := ⟨g, 3, none⟩) hg _).setCell (p := ⟨g, 4, none⟩) hg _).setCell (p := ⟨g, 5, none⟩) hg _).setCell (p := ⟨g, 6, none⟩) hg _
theorem call33 (args : Array Value) (W : World) : (callFunc 33 args).run Tryd.prog W = .ok (.enter 33 args) W := rfl
set_option maxHeartbeats 4000000 in
theorem get_any (b : ByteArray) (w : World) (hf : FamAt w) (hs : b.size ≤ 1000000) :
    Calls Tryd.prog 13 #[.string b] w (GetPost b w) := by
  have hp := hf.pos
  obtain ⟨W, hW⟩ : ∃ W, W = (((w.alloc (.cells #[.string b] 9)).alloc (.cells #[.bool false, .int .i64 0, .string ⟨#[]⟩, .string ⟨#[]⟩, .int .i64 0, .int .i64 0, .slice none 0 0] 24)).alloc (.cells (X0 false) 74)).alloc (.cells #[.int .i64 0] 3) := ⟨_, rfl⟩
  have hsz : W.heap.size = w.heap.size + 4 := by rw [hW]; simp
  have hBW : Below w.heap.size w W := by rw [hW]; exact ((((Below.refl _ _).alloc (Nat.le_refl _) _).alloc (by simp) _).alloc (by simp; omega) _).alloc (by simp; omega) _
  have h0 : W.heap[w.heap.size]? = some (.cells #[.string b] 9 (0, 0)) := by
    rw [hW, Below.heap_alloc _ _ _ (by simp; omega), Below.heap_alloc _ _ _ (by simp; omega), Below.heap_alloc _ _ _ (by simp)]; exact alloc_new _ _
  have h1 : W.heap[w.heap.size + 1]? = some (.cells #[.bool false, .int .i64 0, .string ⟨#[]⟩, .string ⟨#[]⟩, .int .i64 0, .int .i64 0, .slice none 0 0] 24 (0, 0)) := by
    rw [hW, Below.heap_alloc _ _ _ (by simp), Below.heap_alloc _ _ _ (by simp)]
    have := alloc_new (w.alloc (.cells #[.string b] 9)) (.cells #[.bool false, .int .i64 0, .string ⟨#[]⟩, .string ⟨#[]⟩, .int .i64 0, .int .i64 0, .slice none 0 0] 24)
    simpa using this
  have h2 : W.heap[w.heap.size + 2]? = some (.cells (X0 false) 74 (0, 0)) := by
    rw [hW, Below.heap_alloc _ _ _ (by simp)]
    have := alloc_new ((w.alloc (.cells #[.string b] 9)).alloc (.cells #[.bool false, .int .i64 0, .string ⟨#[]⟩, .string ⟨#[]⟩, .int .i64 0, .int .i64 0, .slice none 0 0] 24)) (.cells (X0 false) 74)
    simpa using this
  have h3 : W.heap[w.heap.size + 3]? = some (.cells #[.int .i64 0] 3 (0, 0)) := by
    rw [hW]
    have := alloc_new (((w.alloc (.cells #[.string b] 9)).alloc (.cells #[.bool false, .int .i64 0, .string ⟨#[]⟩, .string ⟨#[]⟩, .int .i64 0, .int .i64 0, .slice none 0 0] 24)).alloc (.cells (X0 false) 74)) (.cells #[.int .i64 0] 3)
    simpa using this
  have R : Reads 33 #[.pointer (some ⟨w.heap.size, 0, none⟩), .pointer (some ⟨w.heap.size + 2, 0, none⟩), .pointer (some ⟨w.heap.size + 3, 0, none⟩)] b W (fun c w' => Save [w.heap.size + 2, w.heap.size + 3] W w' ∧
    (getE b.data.toList = .error c ∨
     (c = 0 ∧ ∃ (loc : Bool) (h : Hd) (fs : List Fd) (a n m : Nat) (v : Value), getE b.data.toList = .ok (loc, h, fs, a, m) ∧
    w'.heap[w.heap.size + 2]? = some (.cells #[.bool loc, .int .i64 h.1, .string (bs h.2.1), .string (bs h.2.2.1), .int .i64 h.2.2.2.1, .int .i64 h.2.2.2.2, v, .int .i64 a, .int .u32 n] 74 (0, 0)) ∧ w'.ownsRow (W.heap.size + 2) 45 2 v fs.length (fflat fs) ∧
    w'.heap[w.heap.size + 3]? = some (.cells #[.int .i64 (m : Int)] 3 (0, 0))))) := by
    obtain ⟨V, hV⟩ : ∃ V, V = (W.alloc (.cells #[.int .i64 0] 27)).alloc (.cells #[.string b, .int .i64 0] 97) := ⟨_, rfl⟩
    have hVs : V.heap.size = W.heap.size + 2 := by rw [hV]; simp
    have hBV : Below W.heap.size W V := by rw [hV]; exact ((Below.refl _ _).alloc (Nat.le_refl _) _).alloc (by simp) _
    have hrd : Rd (W.heap.size + 1) b 0 V := by
      have := alloc_new (W.alloc (.cells #[.int .i64 0] 27)) (.cells #[.string b, .int .i64 0] 97)
      rw [hV]; unfold Rd; simpa using this
    have hcell : V.heap[W.heap.size]? = some (.cells #[.int .i64 0] 27 (0, 0)) := by
      rw [hV, Below.heap_alloc _ _ _ (by simp)]; exact alloc_new _ _
    have st : HSt w.heap.size (w.heap.size + 2) (w.heap.size + 3) (W.heap.size + 1) V b (X0 false) 0 b.data.toList V :=
      ⟨(hBV.block _ (by omega)).trans h0, (hBV.block _ (by omega)).trans h2, (hBV.block _ (by omega)).trans h3, Rl.start hrd, (hf.below hp hBW).below (by omega) hBV, by omega, by omega, by omega, Save.refl _ _⟩
    have C := get1_any w.heap.size (w.heap.size + 2) (w.heap.size + 3) (W.heap.size + 1) b V st hs
    unfold Reads
    rw [← hV]
    refine C.mono ?_
    rintro e w' (⟨c, g1, rfl, g2⟩ | ⟨loc, h, fs, a, n, m, v, g1, rfl, g2, g3, g4, g5⟩)
    · refine ⟨(g2.block _ (by omega) (by simp; omega)).trans hcell, c, .inr rfl, ?_, .inl g1⟩
      exact ⟨g2.os.trans hBV.os, g2.tape.trans hBV.tape, g2.output.trans hBV.output, Nat.le_trans hBV.size g2.size, fun k hk hn => (g2.block k (by omega) (by simp at hn ⊢; omega)).trans (hBV.block k hk)⟩
    · refine ⟨(g2.block _ (by omega) (by simp; omega)).trans hcell, 0, .inl ⟨rfl, rfl⟩, ?_, .inr ⟨rfl, loc, h, fs, a, n, m, v, g1, g3, by rw [← hVs]; exact g4, g5⟩⟩
      exact ⟨g2.os.trans hBV.os, g2.tape.trans hBV.tape, g2.output.trans hBV.output, Nat.le_trans hBV.size g2.size, fun k hk hn => (g2.block k (by omega) (by simp at hn ⊢; omega)).trans (hBV.block k hk)⟩
  have C := Lib.hid (read_any 33 _ b W _ call33 R)
  have HBW := Lib.hid hBW
  have HS := Lib.hid hsz
  have H1 := Lib.hid h1
  have hmf := fun (fn : Fn) (first cap : Array Value) (w : World) => make_run fn first cap w
  clear R hBW h0 h1 h2 h3 hsz hf hp
  simp only [X0] at hW
  go_enter Tryd.func13, Tryd.ntmps13
  go_wp2_with (fail)
  rw [← hW]
  refine C.out.mono ?_
  rintro e w2 ⟨c, w1, rfl, ⟨s1, hq⟩, hbut⟩
  clear hW
  have hsv : Hid (Save [w.heap.size + 2, w.heap.size + 3] W w2) := by
    refine ⟨hbut.os.trans s1.os, hbut.tape.trans s1.tape, hbut.output.trans s1.output, Nat.le_trans s1.size hbut.size, fun k hk hn => ?_⟩
    have := s1.size
    rw [hbut.block k (by omega) (by omega), s1.block k hk hn]
  have hr2 := (hsv.out.block (w.heap.size + 1) (by have := HS.out; omega) (by simp)).trans H1.out
  have HR2 := Lib.hid hr2
  have hbel : Hid (Below w.heap.size w w2) := HBW.out.trans (hsv.out.below (by intro k hk; simp at hk; omega) (by have := HS.out; omega))
  rcases hq with he | ⟨rfl, loc, h, fs, a, n, m, v, g1, g2, g3, g4⟩
  · have hne := getE_ne he
    have HE : Hid (getR b.data.toList = .error (more c)) := by show getR _ = _; rw [getR, he]
    clear hr2 he hbut s1
    have c0 := cellAt (i := 0) (v := .bool false) HR2.out rfl
    have c1 := cellAt (i := 1) (v := .int .i64 0) HR2.out rfl
    have c2 := cellAt (i := 2) (v := .string ⟨#[]⟩) HR2.out rfl
    have c3 := cellAt (i := 3) (v := .string ⟨#[]⟩) HR2.out rfl
    have c4 := cellAt (i := 4) (v := .int .i64 0) HR2.out rfl
    have c5 := cellAt (i := 5) (v := .int .i64 0) HR2.out rfl
    have c6 := cellAt (i := 6) (v := .slice none 0 0) HR2.out rfl
    have f0 := Lib.frozen_of_heap HR2.out 0
    have f1 := Lib.frozen_of_heap HR2.out 1
    have f2 := Lib.frozen_of_heap HR2.out 2
    have f3 := Lib.frozen_of_heap HR2.out 3
    have f4 := Lib.frozen_of_heap HR2.out 4
    have f5 := Lib.frozen_of_heap HR2.out 5
    have f6 := Lib.frozen_of_heap HR2.out 6
    by_cases hc2 : c = 2
    · subst hc2
      have hb1 : (((2 : Nat) : Int) == 2) = true := rfl
      clear hne
      go_wp2_with (fail)
      refine bodyPost_ret (get_end (g := w.heap.size + 1) rfl rfl rfl rfl (set7 HR2.out)) rfl ⟨below7 hbel.out (by omega), .inl ⟨_, HE.out, rfl⟩⟩
    · have hb1 : ((c : Int) == 2) = false := by rw [beq_eq_false_iff_ne]; omega
      have hb2 : ((c : Int) != 0) = true := by rw [bne_iff_ne]; omega
      have hm : Hid (more c = c) := if_neg hc2
      clear hne hc2
      go_wp2_with (fail)
      refine bodyPost_ret (get_end (g := w.heap.size + 1) rfl rfl rfl rfl (set7 HR2.out)) rfl ⟨below7 hbel.out (by omega), .inl ⟨c, by rw [HE.out, hm.out], rfl⟩⟩
  · have HE : Hid (getR b.data.toList = .ok (loc, h, fs, a, m)) := by show getR _ = _; rw [getR, g1]
    have hX2 : Hid (w2.heap[w.heap.size + 2]? = some (.cells #[.bool loc, .int .i64 h.1, .string (bs h.2.1), .string (bs h.2.2.1), .int .i64 h.2.2.2.1, .int .i64 h.2.2.2.2, v, .int .i64 a, .int .u32 n] 74 (0, 0))) := (hbut.block _ (heap_lt g2) (by have := HS.out; omega)).trans g2
    have hZ2 : Hid (w2.heap[w.heap.size + 3]? = some (.cells #[.int .i64 (m : Int)] 3 (0, 0))) := (hbut.block _ (heap_lt g4) (by have := HS.out; omega)).trans g4
    have hrow : Hid (w2.ownsRow (W.heap.size + 2) 45 2 v fs.length (fflat fs)) := row_save g3 (hbut.save (l := [W.heap.size]) (by simp)) (fun k hk => by simp at hk; omega)
    clear hr2 hbut s1 g1 g2 g3 g4
    have c0 := cellAt (i := 0) (v := .bool false) HR2.out rfl
    have c1 := cellAt (i := 1) (v := .int .i64 0) HR2.out rfl
    have c2 := cellAt (i := 2) (v := .string ⟨#[]⟩) HR2.out rfl
    have c3 := cellAt (i := 3) (v := .string ⟨#[]⟩) HR2.out rfl
    have c4 := cellAt (i := 4) (v := .int .i64 0) HR2.out rfl
    have c5 := cellAt (i := 5) (v := .int .i64 0) HR2.out rfl
    have c6 := cellAt (i := 6) (v := .slice none 0 0) HR2.out rfl
    have f0 := Lib.frozen_of_heap HR2.out 0
    have f1 := Lib.frozen_of_heap HR2.out 1
    have f2 := Lib.frozen_of_heap HR2.out 2
    have f3 := Lib.frozen_of_heap HR2.out 3
    have f4 := Lib.frozen_of_heap HR2.out 4
    have f5 := Lib.frozen_of_heap HR2.out 5
    have f6 := Lib.frozen_of_heap HR2.out 6
    obtain ⟨vs, vn, vc, rfl⟩ : ∃ x y z, v = .slice x y z := by
      rcases hrow.out.2 with ⟨h, _⟩ | ⟨g, cap, cur, h, _⟩
      · exact ⟨_, _, _, h⟩
      · exact ⟨_, _, _, h⟩
    have e0 := cellAt (i := 0) (v := .bool loc) hX2.out rfl
    have e1 := cellAt (i := 1) (v := .int .i64 h.1) hX2.out rfl
    have e2 := cellAt (i := 2) (v := .string (bs h.2.1)) hX2.out rfl
    have e3 := cellAt (i := 3) (v := .string (bs h.2.2.1)) hX2.out rfl
    have e4 := cellAt (i := 4) (v := .int .i64 h.2.2.2.1) hX2.out rfl
    have e5 := cellAt (i := 5) (v := .int .i64 h.2.2.2.2) hX2.out rfl
    have e6 := cellAt (i := 6) (v := .slice vs vn vc) hX2.out rfl
    have e7 := cellAt (i := 7) (v := .int .i64 a) hX2.out rfl
    have e8 := cellAt (i := 0) (v := .int .i64 (m : Int)) hZ2.out rfl
    go_wp2_with (fail)
    rw [show w.heap.size + 1 + 1 + 1 = w.heap.size + 3 from rfl, show w.heap.size + 1 + 1 = w.heap.size + 2 from rfl]
    have n1 : ¬ w.heap.size + 2 = w.heap.size + 1 := by omega
    have n2 : ¬ w.heap.size + 3 = w.heap.size + 1 := by omega
    have n3 : ¬ w.heap.size + 1 = w.heap.size + 2 := by omega
    have n4 : ¬ w.heap.size + 1 = w.heap.size + 3 := by omega
    go_region_held3 (fun w' => w'.cell? ⟨w.heap.size + 2, 0, none⟩ = some (.bool loc) ∧ w'.cell? ⟨w.heap.size + 2, 1, none⟩ = some (.int .i64 h.1) ∧ w'.cell? ⟨w.heap.size + 2, 2, none⟩ = some (.string (bs h.2.1)) ∧ w'.cell? ⟨w.heap.size + 2, 3, none⟩ = some (.string (bs h.2.2.1)) ∧ w'.cell? ⟨w.heap.size + 2, 4, none⟩ = some (.int .i64 h.2.2.2.1) ∧ w'.cell? ⟨w.heap.size + 2, 5, none⟩ = some (.int .i64 h.2.2.2.2) ∧ w'.cell? ⟨w.heap.size + 2, 6, none⟩ = some (.slice vs vn vc) ∧ w'.cell? ⟨w.heap.size + 2, 7, none⟩ = some (.int .i64 a) ∧ w'.cell? ⟨w.heap.size + 3, 0, none⟩ = some (.int .i64 (m : Int))) (go_keep) (fail)
    simp only [Exit.then]
    go_wp2_with (fail)
    obtain ⟨W7, hW7⟩ : ∃ x, x = (((((((w2.setCell ⟨w.heap.size + 1, 0, none⟩ (.bool loc)).setCell ⟨w.heap.size + 1, 1, none⟩ (.int .i64 h.1)).setCell ⟨w.heap.size + 1, 2, none⟩ (.string (bs h.2.1))).setCell ⟨w.heap.size + 1, 3, none⟩ (.string (bs h.2.2.1))).setCell ⟨w.heap.size + 1, 4, none⟩ (.int .i64 h.2.2.2.1)).setCell ⟨w.heap.size + 1, 5, none⟩ (.int .i64 h.2.2.2.2)).setCell ⟨w.heap.size + 1, 6, none⟩ (.slice vs vn vc)) := ⟨_, rfl⟩
    have hh7 : W7.heap[w.heap.size + 1]? = some (.cells #[.bool loc, .int .i64 h.1, .string (bs h.2.1), .string (bs h.2.2.1), .int .i64 h.2.2.2.1, .int .i64 h.2.2.2.2, .slice vs vn vc] 24 (0, 0)) := by rw [hW7]; exact set7 HR2.out
    have hb7 : Below w.heap.size w W7 := by rw [hW7]; exact below7 hbel.out (Nat.le_succ _)
    have hs7 : Save [w.heap.size + 1] w2 W7 := by
      rw [hW7]
      exact (((((((Save.refl _ _).set (p := ⟨w.heap.size + 1, 0, none⟩) (.inl (by simp)) _).set (p := ⟨w.heap.size + 1, 1, none⟩) (.inl (by simp)) _).set (p := ⟨w.heap.size + 1, 2, none⟩) (.inl (by simp)) _).set (p := ⟨w.heap.size + 1, 3, none⟩) (.inl (by simp)) _).set (p := ⟨w.heap.size + 1, 4, none⟩) (.inl (by simp)) _).set (p := ⟨w.heap.size + 1, 5, none⟩) (.inl (by simp)) _).set (p := ⟨w.heap.size + 1, 6, none⟩) (.inl (by simp)) _
    have hs := HS.out
    have hr7 : W7.ownsRow w.heap.size 45 2 (.slice vs vn vc) fs.length (fflat fs) := row_mono (row_save hrow.out hs7 (fun k hk => by simp at hk; omega)) (by omega)
    rw [← hW7]
    clear hW7 hs7
    have hh8 : W7.drew.heap[w.heap.size + 1]? = some (.cells #[.bool loc, .int .i64 h.1, .string (bs h.2.1), .string (bs h.2.2.1), .int .i64 h.2.2.2.1, .int .i64 h.2.2.2.2, .slice vs vn vc] 24 (0, 0)) := hh7
    have hr8 : W7.drew.ownsRow w.heap.size 45 2 (.slice vs vn vc) fs.length (fflat fs) := hr7
    have hb8 := hb7.drew
    generalize W7.drew = W8 at *
    refine bodyPost_ret (get_end (g := w.heap.size + 1) rfl rfl rfl rfl hh8) rfl ⟨hb8, .inr ⟨loc, h, fs, a, m, _, HE.out, rfl, hr8⟩⟩
end Go.Proofs.YtfagkmmenfeppaaDoor
