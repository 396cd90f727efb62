import Derived.Test.YthdkbocokefdhaaGet
import Derived.Test.YthdkbocokefdhaaAwp
import Derived.Deep.RegionLawGrows
/- ip4.Get. -/
namespace Go.Proofs.Ythdkbocokefdhaa
set_option maxRecDepth 100000
open Go.RowKit
abbrev zH : H4 := ⟨0, 0, 0, 0, 0, false, false, [], [], []⟩
/-- what Get tells -/
def getR (x : Except Nat (H4 × List UInt8)) : Value := match x with
  | .ok (h, s) => .tuple #[hv h, .string (bs s), .int .i64 0]
  | .error c => .tuple #[hv zH, .string ⟨#[]⟩, .int .i64 (c : Nat)]
theorem set10 {w : World} {g : Nat} {a0 a1 a2 a3 a4 a5 a6 a7 a8 a9 b0 b1 b2 b3 b4 b5 b6 b7 b8 b9 : Value} {t : TypeId} (h : w.heap[g]? = some (.cells #[a0, a1, a2, a3, a4, a5, a6, a7, a8, a9] t (0, 0))) :
    ((((((((((w.setCell ⟨g, 0, none⟩ b0).setCell ⟨g, 1, none⟩ b1).setCell ⟨g, 2, none⟩ b2).setCell ⟨g, 3, none⟩ b3).setCell ⟨g, 4, none⟩ b4).setCell ⟨g, 5, none⟩ b5).setCell ⟨g, 6, none⟩ b6).setCell ⟨g, 7, none⟩ b7).setCell ⟨g, 8, none⟩ b8).setCell ⟨g, 9, none⟩ b9).heap[g]? = some (.cells #[b0, b1, b2, b3, b4, b5, b6, b7, b8, b9] t (0, 0)) := by
  simp [World.setCell, Array.getElem?_modify, h]
theorem below10 {w w2 : World} {B g : Nat} {b0 b1 b2 b3 b4 b5 b6 b7 b8 b9 : Value} (h : Below B w w2) (hg : B ≤ g) :
    Below B w ((((((((((w2.setCell ⟨g, 0, none⟩ b0).setCell ⟨g, 1, none⟩ b1).setCell ⟨g, 2, none⟩ b2).setCell ⟨g, 3, none⟩ b3).setCell ⟨g, 4, none⟩ b4).setCell ⟨g, 5, none⟩ b5).setCell ⟨g, 6, none⟩ b6).setCell ⟨g, 7, none⟩ b7).setCell ⟨g, 8, none⟩ b8).setCell ⟨g, 9, none⟩ b9) :=
  (((((((((h.setCell (p := ⟨g, 0, none⟩) hg _).setCell (p := ⟨g, 1, none⟩) hg _).setCell (p := ⟨g, 2, none⟩) hg _).setCell (p := ⟨g, 3, none⟩) hg _).setCell (p := ⟨g, 4, none⟩) hg _).setCell (p := ⟨g, 5, none⟩) hg _).setCell (p := ⟨g, 6, none⟩) hg _).setCell (p := ⟨g, 7, none⟩) hg _).setCell (p := ⟨g, 8, none⟩) hg _).setCell (p := ⟨g, 9, none⟩) hg _
theorem get_end {g : Nat} {a0 a1 a2 a3 a4 a5 a6 a7 a8 a9 x y : Value} {W : World} {tmps : Array Value} (h2 : tmps.getD 2 undef = .pointer (some ⟨g, 0, none⟩)) (h3 : tmps.getD 3 undef = x) (h4 : tmps.getD 4 undef = y)
    (h : W.heap[g]? = some (.cells #[a0, a1, a2, a3, a4, a5, a6, a7, a8, a9] 43 (0, 0))) :
    (results Try.f29 tmps).run Try.prog W = .ok (.tuple #[.agg #[a0, a1, a2, a3, a4, a5, a6, a7, a8, a9], x, y]) W := by
  have c0 : W.cell? ⟨g, 0, none⟩ = some a0 := cellAt h rfl
  have c1 : W.cell? ⟨g, 1, none⟩ = some a1 := cellAt h rfl
  have c2 : W.cell? ⟨g, 2, none⟩ = some a2 := cellAt h rfl
  have c3 : W.cell? ⟨g, 3, none⟩ = some a3 := cellAt h rfl
  have c4 : W.cell? ⟨g, 4, none⟩ = some a4 := cellAt h rfl
  have c5 : W.cell? ⟨g, 5, none⟩ = some a5 := cellAt h rfl
  have c6 : W.cell? ⟨g, 6, none⟩ = some a6 := cellAt h rfl
  have c7 : W.cell? ⟨g, 7, none⟩ = some a7 := cellAt h rfl
  have c8 : W.cell? ⟨g, 8, none⟩ = some a8 := cellAt h rfl
  have c9 : W.cell? ⟨g, 9, none⟩ = some a9 := cellAt h rfl
  simp at h2 h3 h4
  simp [results, Try.results29, go_sem, h2, h3, h4, c0, c1, c2, c3, c4, c5, c6, c7, c8, c9]
theorem four (w : World) (o1 o2 o3 o4 : Obj) : (((((w.alloc o1).alloc o2).alloc o3).alloc o4).heap[w.heap.size]? = some o1) ∧ (((((w.alloc o1).alloc o2).alloc o3).alloc o4).heap[w.heap.size + 1]? = some o2) ∧ (((((w.alloc o1).alloc o2).alloc o3).alloc o4).heap[w.heap.size + 1 + 1]? = some o3) ∧ (((((w.alloc o1).alloc o2).alloc o3).alloc o4).heap[w.heap.size + 1 + 1 + 1]? = some o4) := by
  have s1 : (w.alloc o1).heap.size = w.heap.size + 1 := by simp
  have s2 : ((w.alloc o1).alloc o2).heap.size = w.heap.size + 1 + 1 := by simp
  have s3 : (((w.alloc o1).alloc o2).alloc o3).heap.size = w.heap.size + 1 + 1 + 1 := by simp
  have n1 := alloc_new w o1
  have n2 := alloc_new (w.alloc o1) o2
  have n3 := alloc_new ((w.alloc o1).alloc o2) o3
  have n4 := alloc_new (((w.alloc o1).alloc o2).alloc o3) o4
  rw [s1] at n2
  rw [s2] at n3
  rw [s3] at n4
  have h : ∀ (V : World) (o : Obj) (k : Nat), k < V.heap.size → (V.alloc o).heap[k]? = V.heap[k]? := fun V o k hk => Below.heap_alloc _ _ _ hk
  refine ⟨?_, ?_, ?_, n4⟩
  · rw [h _ _ _ (by omega), h _ _ _ (by omega), h _ _ _ (by omega)]; exact n1
  · rw [h _ _ _ (by omega), h _ _ _ (by omega)]; exact n2
  · rw [h _ _ _ (by omega)]; exact n3
theorem drew_heap (V : World) : V.drew.heap = V.heap := rfl
theorem call54 (args : Array Value) (W : World) : (callFunc 54 args).run Try.prog W = .ok (.enter 54 args) W := rfl
set_option maxHeartbeats 8000000 in
theorem get_any (s : ByteArray) (w : World) (hs : s.size ≤ 9223372036854775807) : Calls Try.prog 29 #[.string s] w fun e w' => e = .returned (getR (getE s.data.toList)) ∧ Below w.heap.size w w' := by
  obtain ⟨r, hr⟩ : ∃ r, r = getE s.data.toList := ⟨_, rfl⟩
  rw [← hr]
  obtain ⟨W, hW⟩ : ∃ W, W = (((w.alloc (.cells #[.string s] 9)).alloc (.cells #[.int .i64 0, .int .i64 0, .int .i64 0, .int .i64 0, .int .i64 0, .bool false, .bool false, .string ⟨#[]⟩, .string ⟨#[]⟩, .string ⟨#[]⟩] 43)).alloc (.cells #[.int .i64 0, .int .i64 0, .int .i64 0, .int .i64 0, .int .i64 0, .bool false, .bool false, .string ⟨#[]⟩, .string ⟨#[]⟩, .string ⟨#[]⟩] 43)).alloc (.cells #[.string ⟨#[]⟩] 9) := ⟨_, rfl⟩
  have hWs : W.heap.size = w.heap.size + 4 := by rw [hW]; simp
  obtain ⟨P, hP⟩ : ∃ k, k = w.heap.size := ⟨_, rfl⟩
  obtain ⟨R, hR⟩ : ∃ k, k = w.heap.size + 1 := ⟨_, rfl⟩
  obtain ⟨H, hH⟩ : ∃ k, k = w.heap.size + 1 + 1 := ⟨_, rfl⟩
  obtain ⟨Y, hY⟩ : ∃ k, k = w.heap.size + 1 + 1 + 1 := ⟨_, rfl⟩
  have HBW : Hid (Below w.heap.size w W) := by show Below _ _ _; rw [hW]; exact ((((Below.refl _ _).alloc (Nat.le_refl _) _).alloc (by simp) _).alloc (by simp; omega) _).alloc (by simp; omega) _
  obtain ⟨g1, g2, g3, g4⟩ := four w (.cells #[.string s] 9) (.cells #[.int .i64 0, .int .i64 0, .int .i64 0, .int .i64 0, .int .i64 0, .bool false, .bool false, .string ⟨#[]⟩, .string ⟨#[]⟩, .string ⟨#[]⟩] 43) (.cells #[.int .i64 0, .int .i64 0, .int .i64 0, .int .i64 0, .int .i64 0, .bool false, .bool false, .string ⟨#[]⟩, .string ⟨#[]⟩, .string ⟨#[]⟩] 43) (.cells #[.string ⟨#[]⟩] 9)
  rw [← hW] at g1 g2 g3 g4
  rw [← hP] at g1
  rw [← hR] at g2
  rw [← hH] at g3
  rw [← hY] at g4
  have hn : P < W.heap.size ∧ R < W.heap.size ∧ H < W.heap.size ∧ Y < W.heap.size ∧ P ≠ H ∧ P ≠ Y ∧ H ≠ Y ∧ R ≠ P ∧ R ≠ H ∧ R ≠ Y ∧ w.heap.size ≤ P ∧ w.heap.size ≤ R ∧ w.heap.size ≤ H ∧ w.heap.size ≤ Y := by omega
  have RD : Hid (Calls Try.prog 53 #[.string s, .func (.func 54) #[] #[.pointer (some ⟨P, 0, none⟩), .pointer (some ⟨H, 0, none⟩), .pointer (some ⟨Y, 0, none⟩)]] W fun e w' => ∃ c : Nat, e = .returned (.int .i64 c) ∧ Below w.heap.size w w' ∧ w'.heap[R]? = some (.cells #[.int .i64 0, .int .i64 0, .int .i64 0, .int .i64 0, .int .i64 0, .bool false, .bool false, .string ⟨#[]⟩, .string ⟨#[]⟩, .string ⟨#[]⟩] 43 (0, 0)) ∧
      ((c ≠ 0 ∧ r = .error c) ∨ (c = 0 ∧ ∃ h pl, r = .ok (h, pl) ∧ w'.heap[H]? = some (.cells (hc h) 43 (0, 0)) ∧ w'.heap[Y]? = some (.cells #[.string (bs pl)] 9 (0, 0))))) := by
    obtain ⟨W2, hW2⟩ : ∃ V, V = (W.alloc (.cells #[.int .i64 0] 28)).alloc (.cells #[.string s, .int .i64 0] 132) := ⟨_, rfl⟩
    have hb2 : Below W.heap.size W W2 := by rw [hW2]; exact ((Below.refl _ _).alloc (Nat.le_refl _) _).alloc (by simp) _
    have hz : W2.heap[W.heap.size]? = some (.cells #[.int .i64 0] 28 (0, 0)) := by rw [hW2, Below.heap_alloc _ _ _ (by simp)]; exact alloc_new _ _
    have hrd : Rd (W.heap.size + 1) s 0 W2 := by
      have h := alloc_new (W.alloc (.cells #[.int .i64 0] 28)) (.cells #[.string s, .int .i64 0] 132)
      rw [← hW2] at h
      unfold Rd
      simpa using h
    refine (read_any 54 _ s W (fun c w' => Below W.heap.size W W2 ∧ Save [W.heap.size + 1, H, Y] W2 w' ∧ ((c ≠ 0 ∧ r = .error c) ∨ (c = 0 ∧ ∃ h pl, r = .ok (h, pl) ∧ w'.heap[H]? = some (.cells (hc h) 43 (0, 0)) ∧ w'.heap[Y]? = some (.cells #[.string (bs pl)] 9 (0, 0))))) call54 ?_).mono ?_
    · unfold Reads
      rw [← hW2]
      refine (get1_any (W.heap.size + 1) P H Y s W2 hs ?_).mono ?_
      · exact ⟨Rl.start hrd, (hb2.block _ hn.1).trans g1, (hb2.block _ hn.2.2.1).trans g3, (hb2.block _ hn.2.2.2.1).trans g4, by omega, Save.refl _ _⟩
      · rintro e w' (⟨c, h1, rfl, h2⟩ | ⟨h, pl, h1, rfl, h2, h3, h4⟩)
        · exact ⟨(h2.block _ (heap_lt hz) (by simp; omega)).trans hz, c, .inr rfl, hb2, h2, .inl ⟨by have := getE_code h1; omega, by rw [hr]; exact h1⟩⟩
        · exact ⟨(h4.block _ (heap_lt hz) (by simp; omega)).trans hz, 0, .inl ⟨rfl, rfl⟩, hb2, h4, .inr ⟨rfl, h, pl, by rw [hr]; exact h1, h2, h3⟩⟩
    · rintro e w' ⟨c, w0, rfl, ⟨_, hsv, h⟩, hbut⟩
      have hBl : Below w.heap.size W w' := by
        have a := (Save.of_below (l := [W.heap.size + 1, H, Y]) hb2).trans hsv
        have b' := a.below (B := w.heap.size) (by simp; omega) HBW.out.size
        have c' := hbut.below (B := w.heap.size) (by omega) (Nat.le_trans HBW.out.size a.size)
        exact b'.trans c'
      have hkp : ∀ k, k < W.heap.size → k ≠ H → k ≠ Y → w'.heap[k]? = W.heap[k]? := fun k hk h1 h2 => by
        have q1 := hb2.size
        rw [hbut.block k (Nat.lt_of_lt_of_le hk (Nat.le_trans q1 hsv.size)) (by omega), hsv.block k (Nat.lt_of_lt_of_le hk q1) (by simp; omega), hb2.block k hk]
      refine ⟨c, rfl, HBW.out.trans hBl, (hkp _ hn.2.1 (by omega) (by omega)).trans g2, ?_⟩
      rcases h with ⟨h0, h1⟩ | ⟨h0, h, pl, h1, h2, h3⟩
      · exact .inl ⟨h0, h1⟩
      · have hk2 : ∀ k, k < W.heap.size → w'.heap[k]? = w0.heap[k]? := fun k hk => hbut.block k (Nat.lt_of_lt_of_le hk (Nat.le_trans hb2.size hsv.size)) (by omega)
        exact .inr ⟨h0, h, pl, h1, (hk2 _ hn.2.2.1).trans h2, (hk2 _ hn.2.2.2.1).trans h3⟩
  have HN := Lib.hid hn
  have hmf := fun (fn : Fn) (first cap : Array Value) (w : World) => make_run fn first cap w
  have k0 := cellAt (i := 0) (v := .string s) g1 rfl
  have nYR : Y ≠ R := fun e => hn.2.2.2.2.2.2.2.2.2.1 e.symm
  have nRY : R ≠ Y := hn.2.2.2.2.2.2.2.2.2.1
  have nHR : H ≠ R := fun e => hn.2.2.2.2.2.2.2.2.1 e.symm
  have wR : w.heap.size ≤ R := hn.2.2.2.2.2.2.2.2.2.2.2.1
  clear g1 g2 g3 g4 hn hWs hr
  go_enter Try.func29, Try.ntmps29
  go_upto_region 3 with (fail)
  rw [← hW, ← hY, ← hH, ← hR, ← hP]
  clear hW hY hH hR hP HBW
  go_wp2_with (fail)
  (with_reducible refine RD.out.mono ?_)
  clear RD hmf k0
  rintro e w1 ⟨c, rfl, hb1, g1, ⟨hc0, hrc⟩ | ⟨rfl, h, pl, hrc, g2, g3⟩⟩
  · have hci : ((c : Int) != 0) = true := by rw [bne_iff_ne]; omega
    have HRC := Lib.hid hrc
    have k0 := cellAt (i := 0) (v := .int .i64 0) g1 rfl
    have k1 := cellAt (i := 1) (v := .int .i64 0) g1 rfl
    have k2 := cellAt (i := 2) (v := .int .i64 0) g1 rfl
    have k3 := cellAt (i := 3) (v := .int .i64 0) g1 rfl
    have k4 := cellAt (i := 4) (v := .int .i64 0) g1 rfl
    have k5 := cellAt (i := 5) (v := .bool false) g1 rfl
    have k6 := cellAt (i := 6) (v := .bool false) g1 rfl
    have k7 := cellAt (i := 7) (v := .string ⟨#[]⟩) g1 rfl
    have k8 := cellAt (i := 8) (v := .string ⟨#[]⟩) g1 rfl
    have k9 := cellAt (i := 9) (v := .string ⟨#[]⟩) g1 rfl
    have f0 := Lib.frozen_of_heap g1 0
    have f1 := Lib.frozen_of_heap g1 1
    have f2 := Lib.frozen_of_heap g1 2
    have f3 := Lib.frozen_of_heap g1 3
    have f4 := Lib.frozen_of_heap g1 4
    have f5 := Lib.frozen_of_heap g1 5
    have f6 := Lib.frozen_of_heap g1 6
    have f7 := Lib.frozen_of_heap g1 7
    have f8 := Lib.frozen_of_heap g1 8
    have f9 := Lib.frozen_of_heap g1 9
    have K1 := Lib.hid g1
    have HB1 := Lib.hid hb1
    clear hrc g1 hb1 hc0
    go_wp2_with (fail)
    refine bodyPost_ret (get_end (g := R) rfl rfl rfl (set10 K1.out)) rfl ⟨?_, below10 HB1.out wR⟩
    rw [HRC.out]; rfl
  · obtain ⟨tos, id, off, ttl, proto, df, mf, src, dst, opt⟩ := h
    obtain ⟨x, hx⟩ : ∃ x, x = bs pl := ⟨_, rfl⟩
    rw [← hx] at g3
    have HX := Lib.hid hx
    have HRC := Lib.hid hrc
    unfold hc at g2
    simp only at g2
    have k0 := cellAt (i := 0) (v := .int .i64 0) g1 rfl
    have k1 := cellAt (i := 1) (v := .int .i64 0) g1 rfl
    have k2 := cellAt (i := 2) (v := .int .i64 0) g1 rfl
    have k3 := cellAt (i := 3) (v := .int .i64 0) g1 rfl
    have k4 := cellAt (i := 4) (v := .int .i64 0) g1 rfl
    have k5 := cellAt (i := 5) (v := .bool false) g1 rfl
    have k6 := cellAt (i := 6) (v := .bool false) g1 rfl
    have k7 := cellAt (i := 7) (v := .string ⟨#[]⟩) g1 rfl
    have k8 := cellAt (i := 8) (v := .string ⟨#[]⟩) g1 rfl
    have k9 := cellAt (i := 9) (v := .string ⟨#[]⟩) g1 rfl
    have f0 := Lib.frozen_of_heap g1 0
    have f1 := Lib.frozen_of_heap g1 1
    have f2 := Lib.frozen_of_heap g1 2
    have f3 := Lib.frozen_of_heap g1 3
    have f4 := Lib.frozen_of_heap g1 4
    have f5 := Lib.frozen_of_heap g1 5
    have f6 := Lib.frozen_of_heap g1 6
    have f7 := Lib.frozen_of_heap g1 7
    have f8 := Lib.frozen_of_heap g1 8
    have f9 := Lib.frozen_of_heap g1 9
    have c0 := cellAt (i := 0) (v := .int .i64 tos) g2 rfl
    have c1 := cellAt (i := 1) (v := .int .i64 id) g2 rfl
    have c2 := cellAt (i := 2) (v := .int .i64 off) g2 rfl
    have c3 := cellAt (i := 3) (v := .int .i64 ttl) g2 rfl
    have c4 := cellAt (i := 4) (v := .int .i64 proto) g2 rfl
    have c5 := cellAt (i := 5) (v := .bool df) g2 rfl
    have c6 := cellAt (i := 6) (v := .bool mf) g2 rfl
    have c7 := cellAt (i := 7) (v := .string (bs src)) g2 rfl
    have c8 := cellAt (i := 8) (v := .string (bs dst)) g2 rfl
    have c9 := cellAt (i := 9) (v := .string (bs opt)) g2 rfl
    have e0 := cellAt (i := 0) (v := .string x) g3 rfl
    have K1 := Lib.hid g1
    have HB1 := Lib.hid hb1
    clear hrc g1 g2 g3 hb1 hx
    go_upto_region 6 with (fail)
    go_region
    simp only [Exit.then]
    obtain ⟨w9, hw9⟩ : ∃ x, x = ((((((((((w1.setCell ⟨R, 0, none⟩ (.int .i64 tos)).setCell ⟨R, 1, none⟩ (.int .i64 id)).setCell ⟨R, 2, none⟩ (.int .i64 off)).setCell ⟨R, 3, none⟩ (.int .i64 ttl)).setCell ⟨R, 4, none⟩ (.int .i64 proto)).setCell ⟨R, 5, none⟩ (.bool df)).setCell ⟨R, 6, none⟩ (.bool mf)).setCell ⟨R, 7, none⟩ (.string (bs src))).setCell ⟨R, 8, none⟩ (.string (bs dst))).setCell ⟨R, 9, none⟩ (.string (bs opt))).drew := ⟨_, rfl⟩
    rw [← hw9]
    have q1 : w9.heap[R]? = some (.cells #[.int .i64 tos, .int .i64 id, .int .i64 off, .int .i64 ttl, .int .i64 proto, .bool df, .bool mf, .string (bs src), .string (bs dst), .string (bs opt)] 43 (0, 0)) := by
      rw [hw9, drew_heap]; exact set10 K1.out
    have q3 : Below w.heap.size w w9 := by rw [hw9]; exact (below10 HB1.out wR).drew
    have Q1 := Lib.hid q1
    have Q3 := Lib.hid q3
    clear hw9 q1 q3
    go_wp2_with (fail)
    refine bodyPost_ret (get_end (g := R) rfl rfl rfl Q1.out) rfl ⟨?_, Q3.out⟩
    rw [HRC.out, HX.out]; rfl
end Go.Proofs.Ythdkbocokefdhaa
