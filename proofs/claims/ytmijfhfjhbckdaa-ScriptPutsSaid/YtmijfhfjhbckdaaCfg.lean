import Derived.Test.YtmijfhfjhbckdaaCfgA
import Derived.Deep.RegionLawGrows
/- Config. -/
namespace Go.Proofs.Ytmijfhfjhbckdaa
set_option maxRecDepth 100000
open Go.RowKit
def cfgV (c : CfgP) : Value := .agg (cfgC c)
def stoV (c : CfgP) : Value := .agg (stoC c)
def cfgZ : Value := .agg #[.string ⟨#[]⟩, .int .i64 0, .bool false, .bool false, .int .u32 0, .bool false, .int .i64 0, .int .i64 0, .int .i64 0]
def stoZ : Value := .agg #[.int .i64 0, .int .i64 0, .int .i64 0]
def ConfigPost (l : List UInt8) (w : World) (e : Ending) (w' : World) : Prop :=
  Below w.heap.size w w' ∧ ((l.length < 20 ∧ e = .returned (.tuple #[cfgZ, stoZ, .string ⟨#[]⟩, .int .i64 2])) ∨ (20 ≤ l.length ∧ e = .returned (.tuple #[cfgV (cfgP l), stoV (cfgP l), .string (bs (l.drop 20)), .int .i64 0])))
theorem config_end {g k : Nat} {a0 a1 a2 a3 a4 a5 a6 a7 a8 b0 b1 b2 x y : Value} {W : World} {tmps : Array Value} (h2 : tmps.getD 2 undef = .pointer (some ⟨g, 0, none⟩)) (h3 : tmps.getD 3 undef = .pointer (some ⟨k, 0, none⟩)) (h4 : tmps.getD 4 undef = x) (h5 : tmps.getD 5 undef = y)
    (h : W.heap[g]? = some (.cells #[a0, a1, a2, a3, a4, a5, a6, a7, a8] 27 (0, 0))) (h' : W.heap[k]? = some (.cells #[b0, b1, b2] 29 (0, 0))) :
    (results Try.f7 tmps).run Try.prog W = .ok (.tuple #[.agg #[a0, a1, a2, a3, a4, a5, a6, a7, a8], .agg #[b0, b1, b2], x, y]) W := by
  have c0 : W.cell? ⟨g, 0, none⟩ = some a0 := cellAt h rfl
  have c1 : W.cell? ⟨g, 1, none⟩ = some a1 := cellAt h rfl
  have c2 : W.cell? ⟨g, 2, none⟩ = some a2 := cellAt h rfl
  have c3 : W.cell? ⟨g, 3, none⟩ = some a3 := cellAt h rfl
  have c4 : W.cell? ⟨g, 4, none⟩ = some a4 := cellAt h rfl
  have c5 : W.cell? ⟨g, 5, none⟩ = some a5 := cellAt h rfl
  have c6 : W.cell? ⟨g, 6, none⟩ = some a6 := cellAt h rfl
  have c7 : W.cell? ⟨g, 7, none⟩ = some a7 := cellAt h rfl
  have c8 : W.cell? ⟨g, 8, none⟩ = some a8 := cellAt h rfl
  have d0 : W.cell? ⟨k, 0, none⟩ = some b0 := cellAt h' rfl
  have d1 : W.cell? ⟨k, 1, none⟩ = some b1 := cellAt h' rfl
  have d2 : W.cell? ⟨k, 2, none⟩ = some b2 := cellAt h' rfl
  simp at h2 h3 h4 h5
  simp [results, Try.results7, go_sem, h2, h3, h4, h5, c0, c1, c2, c3, c4, c5, c6, c7, c8, d0, d1, d2]
theorem five (w : World) (o1 o2 o3 o4 o5 : Obj) : ((((((w.alloc o1).alloc o2).alloc o3).alloc o4).alloc o5).heap[w.heap.size]? = some o1) ∧ ((((((w.alloc o1).alloc o2).alloc o3).alloc o4).alloc o5).heap[w.heap.size + 1]? = some o2) ∧ ((((((w.alloc o1).alloc o2).alloc o3).alloc o4).alloc o5).heap[w.heap.size + 1 + 1]? = some o3) ∧ ((((((w.alloc o1).alloc o2).alloc o3).alloc o4).alloc o5).heap[w.heap.size + 1 + 1 + 1]? = some o4) ∧ ((((((w.alloc o1).alloc o2).alloc o3).alloc o4).alloc o5).heap[w.heap.size + 1 + 1 + 1 + 1]? = some o5) := by
  have s1 : (w.alloc o1).heap.size = w.heap.size + 1 := by simp
  have s2 : ((w.alloc o1).alloc o2).heap.size = w.heap.size + 1 + 1 := by simp
  have s3 : (((w.alloc o1).alloc o2).alloc o3).heap.size = w.heap.size + 1 + 1 + 1 := by simp
  have s4 : ((((w.alloc o1).alloc o2).alloc o3).alloc o4).heap.size = w.heap.size + 1 + 1 + 1 + 1 := by simp
  have n1 := alloc_new w o1
  have n2 := alloc_new (w.alloc o1) o2
  have n3 := alloc_new ((w.alloc o1).alloc o2) o3
  have n4 := alloc_new (((w.alloc o1).alloc o2).alloc o3) o4
  have n5 := alloc_new ((((w.alloc o1).alloc o2).alloc o3).alloc o4) o5
  rw [s1] at n2
  rw [s2] at n3
  rw [s3] at n4
  rw [s4] at n5
  have h : ∀ (V : World) (o : Obj) (k : Nat), k < V.heap.size → (V.alloc o).heap[k]? = V.heap[k]? := fun V o k hk => Below.heap_alloc _ _ _ hk
  refine ⟨?_, ?_, ?_, ?_, n5⟩
  · rw [h _ _ _ (by omega), h _ _ _ (by omega), h _ _ _ (by omega), h _ _ _ (by omega)]; exact n1
  · rw [h _ _ _ (by omega), h _ _ _ (by omega), h _ _ _ (by omega)]; exact n2
  · rw [h _ _ _ (by omega), h _ _ _ (by omega)]; exact n3
  · rw [h _ _ _ (by omega)]; exact n4
theorem drew_heap (V : World) : V.drew.heap = V.heap := rfl
theorem below9 {w w2 : World} {g : Nat} {b0 b1 b2 b3 b4 b5 b6 b7 b8 : Value} (h : Below w.heap.size w w2) (hg : w.heap.size ≤ g) :
    Below w.heap.size w (((((((((w2.setCell ⟨g, 0, none⟩ b0).setCell ⟨g, 1, none⟩ b1).setCell ⟨g, 2, none⟩ b2).setCell ⟨g, 3, none⟩ b3).setCell ⟨g, 4, none⟩ b4).setCell ⟨g, 5, none⟩ b5).setCell ⟨g, 6, none⟩ b6).setCell ⟨g, 7, none⟩ b7).setCell ⟨g, 8, none⟩ b8) :=
  ((((((((h.setCell (p := ⟨g, 0, none⟩) hg _).setCell (p := ⟨g, 1, none⟩) hg _).setCell (p := ⟨g, 2, none⟩) hg _).setCell (p := ⟨g, 3, none⟩) hg _).setCell (p := ⟨g, 4, none⟩) hg _).setCell (p := ⟨g, 5, none⟩) hg _).setCell (p := ⟨g, 6, none⟩) hg _).setCell (p := ⟨g, 7, none⟩) hg _).setCell (p := ⟨g, 8, none⟩) hg _
theorem below3 {w w2 : World} {g : Nat} {b0 b1 b2 : Value} (h : Below w.heap.size w w2) (hg : w.heap.size ≤ g) : Below w.heap.size w (((w2.setCell ⟨g, 0, none⟩ b0).setCell ⟨g, 1, none⟩ b1).setCell ⟨g, 2, none⟩ b2) :=
  ((h.setCell (p := ⟨g, 0, none⟩) hg _).setCell (p := ⟨g, 1, none⟩) hg _).setCell (p := ⟨g, 2, none⟩) hg _
theorem call20 (args : Array Value) (W : World) : (callFunc 20 args).run Try.prog W = .ok (.enter 20 args) W := rfl
set_option maxHeartbeats 4000000 in
theorem config_any (s : ByteArray) (w : World) (hs : s.size ≤ MX) : Calls Try.prog 7 #[.string s] w (ConfigPost s.data.toList w) := by
  obtain ⟨W, hW⟩ : ∃ W, W = ((((w.alloc (.cells #[.string ⟨#[]⟩, .int .i64 0, .bool false, .bool false, .int .u32 0, .bool false, .int .i64 0, .int .i64 0, .int .i64 0] 27)).alloc (.cells #[.int .i64 0, .int .i64 0, .int .i64 0] 29)).alloc (.cells #[.string ⟨#[]⟩, .int .i64 0, .bool false, .bool false, .int .u32 0, .bool false, .int .i64 0, .int .i64 0, .int .i64 0] 27)).alloc (.cells #[.int .i64 0, .int .i64 0, .int .i64 0] 29)).alloc (.cells #[.string ⟨#[]⟩] 9) := ⟨_, rfl⟩
  have hWs : W.heap.size = w.heap.size + 5 := by rw [hW]; simp
  obtain ⟨R1, hR1⟩ : ∃ k, k = w.heap.size := ⟨_, rfl⟩
  obtain ⟨R2, hR2⟩ : ∃ k, k = w.heap.size + 1 := ⟨_, rfl⟩
  obtain ⟨CB, hCB⟩ : ∃ k, k = w.heap.size + 1 + 1 := ⟨_, rfl⟩
  obtain ⟨SB, hSB⟩ : ∃ k, k = w.heap.size + 1 + 1 + 1 := ⟨_, rfl⟩
  obtain ⟨RB, hRB⟩ : ∃ k, k = w.heap.size + 1 + 1 + 1 + 1 := ⟨_, rfl⟩
  have HBW : Hid (Below w.heap.size w W) := by show Below _ _ _; rw [hW]; exact (((((Below.refl _ _).alloc (Nat.le_refl _) _).alloc (by simp) _).alloc (by simp; omega) _).alloc (by simp; omega) _).alloc (by simp; omega) _
  obtain ⟨g1, g2, g3, g4, g5⟩ := five w (.cells #[.string ⟨#[]⟩, .int .i64 0, .bool false, .bool false, .int .u32 0, .bool false, .int .i64 0, .int .i64 0, .int .i64 0] 27) (.cells #[.int .i64 0, .int .i64 0, .int .i64 0] 29) (.cells #[.string ⟨#[]⟩, .int .i64 0, .bool false, .bool false, .int .u32 0, .bool false, .int .i64 0, .int .i64 0, .int .i64 0] 27) (.cells #[.int .i64 0, .int .i64 0, .int .i64 0] 29) (.cells #[.string ⟨#[]⟩] 9)
  rw [← hW] at g1 g2 g3 g4 g5
  rw [← hR1] at g1
  rw [← hR2] at g2
  rw [← hCB] at g3
  rw [← hSB] at g4
  rw [← hRB] at g5
  have hn : R1 < W.heap.size ∧ R2 < W.heap.size ∧ CB < W.heap.size ∧ SB < W.heap.size ∧ RB < W.heap.size ∧ CB ≠ SB ∧ CB ≠ RB ∧ SB ≠ RB ∧ R1 ≠ CB ∧ R1 ≠ SB ∧ R1 ≠ RB ∧ R2 ≠ CB ∧ R2 ≠ SB ∧ R2 ≠ RB ∧ R1 ≠ R2 ∧ w.heap.size ≤ R1 ∧ w.heap.size ≤ R2 ∧ w.heap.size ≤ CB ∧ w.heap.size ≤ SB ∧ w.heap.size ≤ RB := by omega
  have RD : Hid (Calls Try.prog 19 #[.string s, .func (.func 20) #[] #[.pointer (some ⟨CB, 0, none⟩), .pointer (some ⟨SB, 0, none⟩), .pointer (some ⟨RB, 0, none⟩)]] W fun e w' => ∃ c : Nat, e = .returned (.int .i64 c) ∧ Below w.heap.size w w' ∧ w'.heap[R1]? = some (.cells #[.string ⟨#[]⟩, .int .i64 0, .bool false, .bool false, .int .u32 0, .bool false, .int .i64 0, .int .i64 0, .int .i64 0] 27 (0, 0)) ∧ w'.heap[R2]? = some (.cells #[.int .i64 0, .int .i64 0, .int .i64 0] 29 (0, 0)) ∧
      ((c = 2 ∧ s.data.toList.length < 20) ∨ (c = 0 ∧ 20 ≤ s.data.toList.length ∧ w'.heap[CB]? = some (.cells (cfgC (cfgP s.data.toList)) 27 (0, 0)) ∧ w'.heap[SB]? = some (.cells (stoC (cfgP s.data.toList)) 29 (0, 0)) ∧ w'.heap[RB]? = some (.cells #[.string (bs (s.data.toList.drop 20))] 9 (0, 0))))) := by
    obtain ⟨W2, hW2⟩ : ∃ V, V = (W.alloc (.cells #[.int .i64 0] 30)).alloc (.cells #[.string s, .int .i64 0] 111) := ⟨_, rfl⟩
    have hb2 : Below W.heap.size W W2 := by rw [hW2]; exact ((Below.refl _ _).alloc (Nat.le_refl _) _).alloc (by simp) _
    have hz : W2.heap[W.heap.size]? = some (.cells #[.int .i64 0] 30 (0, 0)) := by rw [hW2, Below.heap_alloc _ _ _ (by simp)]; exact alloc_new _ _
    have hrd : Rd (W.heap.size + 1) s 0 W2 := by
      have h := alloc_new (W.alloc (.cells #[.int .i64 0] 30)) (.cells #[.string s, .int .i64 0] 111)
      rw [← hW2] at h
      unfold Rd
      simpa using h
    refine (read_any 20 _ s W (fun c w' => Below W.heap.size W W2 ∧ ((c = 2 ∧ s.data.toList.length < 20 ∧ Save [W.heap.size + 1, CB, SB, RB] W2 w') ∨ (c = 0 ∧ 20 ≤ s.data.toList.length ∧ CapSt (W.heap.size + 1) CB SB RB W2 (cfgC (cfgP s.data.toList)) (stoC (cfgP s.data.toList)) #[.string (bs (s.data.toList.drop 20))] w'))) call20 ?_).mono ?_
    · unfold Reads
      rw [← hW2]
      refine (cfg1_any (W.heap.size + 1) CB SB RB s s.data.toList W2 (Rl.start hrd) hs ?_).mono ?_
      · exact ⟨(hb2.block _ hn.2.2.1).trans g3, (hb2.block _ hn.2.2.2.1).trans g4, (hb2.block _ hn.2.2.2.2.1).trans g5, by omega, Save.refl _ _⟩
      · rintro e w' (⟨h1, rfl, h2⟩ | ⟨h1, rfl, h2⟩)
        · exact ⟨(h2.sv.block _ (heap_lt hz) (by simp; omega)).trans hz, 0, .inl ⟨rfl, rfl⟩, hb2, .inr ⟨rfl, h1, h2⟩⟩
        · exact ⟨(h2.block _ (heap_lt hz) (by simp; omega)).trans hz, 2, .inr rfl, hb2, .inl ⟨rfl, h1, h2⟩⟩
    · rintro e w' ⟨c, w0, rfl, ⟨_, h⟩, hbut⟩
      have hsv : Save [W.heap.size + 1, CB, SB, RB] W2 w0 := by
        rcases h with ⟨_, _, h⟩ | ⟨_, _, h⟩
        · exact h
        · exact h.sv
      have hBl : Below w.heap.size W w' := by
        have a := (Save.of_below (l := [W.heap.size + 1, CB, SB, RB]) hb2).trans hsv
        have b' := a.below (B := w.heap.size) (by simp; omega) HBW.out.size
        have c' := hbut.below (B := w.heap.size) (by omega) (Nat.le_trans HBW.out.size a.size)
        exact b'.trans c'
      have hkp : ∀ k, k < W.heap.size → k ≠ CB → k ≠ SB → k ≠ RB → w'.heap[k]? = W.heap[k]? := fun k hk h1 h2 h3 => by
        have q1 := hb2.size
        rw [hbut.block k (Nat.lt_of_lt_of_le hk (Nat.le_trans q1 hsv.size)) (by omega), hsv.block k (Nat.lt_of_lt_of_le hk q1) (by simp; omega), hb2.block k hk]
      refine ⟨c, rfl, HBW.out.trans hBl, (hkp _ hn.1 (by omega) (by omega) (by omega)).trans g1, (hkp _ hn.2.1 (by omega) (by omega) (by omega)).trans g2, ?_⟩
      rcases h with ⟨hc, h1, _⟩ | ⟨hc, h1, h2⟩
      · exact .inl ⟨hc, h1⟩
      · have hk2 : ∀ k, k < W.heap.size → w'.heap[k]? = w0.heap[k]? := fun k hk => hbut.block k (Nat.lt_of_lt_of_le hk (Nat.le_trans hb2.size hsv.size)) (by omega)
        exact .inr ⟨hc, h1, (hk2 _ hn.2.2.1).trans h2.hC, (hk2 _ hn.2.2.2.1).trans h2.hS, (hk2 _ hn.2.2.2.2.1).trans h2.hR⟩
  have HN := Lib.hid hn
  have hmf := fun (fn : Fn) (first cap : Array Value) (w : World) => make_run fn first cap w
  have n12 : R1 ≠ R2 := HN.out.2.2.2.2.2.2.2.2.2.2.2.2.2.2.1
  have n21 : R2 ≠ R1 := fun e => n12 e.symm
  have m1 : CB ≠ R1 := by omega
  have m2 : SB ≠ R1 := by omega
  have m3 : RB ≠ R1 := by omega
  have m4 : CB ≠ R2 := by omega
  have m5 : SB ≠ R2 := by omega
  have m6 : RB ≠ R2 := by omega
  clear g1 g2 g3 g4 g5 hn hWs
  go_enter Try.func7, Try.ntmps7
  go_upto_region 4 with (fail)
  rw [← hW, ← hRB, ← hSB, ← hCB, ← hR2, ← hR1]
  clear hW hRB hSB hCB hR2 hR1 HBW
  go_wp2_with (fail)
  (with_reducible refine RD.out.mono ?_)
  clear RD hmf
  rintro e w1 ⟨c, rfl, hb1, g1, g2, ⟨rfl, hl⟩ | ⟨rfl, hl, g3, g4, g5⟩⟩
  · have HL := Lib.hid hl
    have ak0 := cellAt (i := 0) (v := .string ⟨#[]⟩) g1 rfl
    have ak1 := cellAt (i := 1) (v := .int .i64 0) g1 rfl
    have ak2 := cellAt (i := 2) (v := .bool false) g1 rfl
    have ak3 := cellAt (i := 3) (v := .bool false) g1 rfl
    have ak4 := cellAt (i := 4) (v := .int .u32 0) g1 rfl
    have ak5 := cellAt (i := 5) (v := .bool false) g1 rfl
    have ak6 := cellAt (i := 6) (v := .int .i64 0) g1 rfl
    have ak7 := cellAt (i := 7) (v := .int .i64 0) g1 rfl
    have ak8 := cellAt (i := 8) (v := .int .i64 0) g1 rfl
    have af0 := Lib.frozen_of_heap g1 0
    have af1 := Lib.frozen_of_heap g1 1
    have af2 := Lib.frozen_of_heap g1 2
    have af3 := Lib.frozen_of_heap g1 3
    have af4 := Lib.frozen_of_heap g1 4
    have af5 := Lib.frozen_of_heap g1 5
    have af6 := Lib.frozen_of_heap g1 6
    have af7 := Lib.frozen_of_heap g1 7
    have af8 := Lib.frozen_of_heap g1 8
    have bk0 := cellAt (i := 0) (v := .int .i64 0) g2 rfl
    have bk1 := cellAt (i := 1) (v := .int .i64 0) g2 rfl
    have bk2 := cellAt (i := 2) (v := .int .i64 0) g2 rfl
    have bf0 := Lib.frozen_of_heap g2 0
    have bf1 := Lib.frozen_of_heap g2 1
    have bf2 := Lib.frozen_of_heap g2 2
    have K1 := Lib.hid g1
    have K2 := Lib.hid g2
    have HB1 := Lib.hid hb1
    clear hl g1 g2 hb1
    go_wp2_with (fail)
    refine bodyPost_ret (config_end (g := R1) (k := R2) rfl rfl rfl rfl ?_ ?_) rfl ⟨?_, .inl ⟨HL.out, rfl⟩⟩
    · rw [heap_off R1 R2 n12, heap_off R1 R2 n12, heap_off R1 R2 n12]
      exact set9 K1.out
    · refine set3 (a0 := .int .i64 0) (a1 := .int .i64 0) (a2 := .int .i64 0) ?_
      rw [heap_off R2 R1 n21, heap_off R2 R1 n21, heap_off R2 R1 n21, heap_off R2 R1 n21, heap_off R2 R1 n21, heap_off R2 R1 n21, heap_off R2 R1 n21, heap_off R2 R1 n21, heap_off R2 R1 n21]
      exact K2.out
    · exact below3 (below9 HB1.out HN.out.2.2.2.2.2.2.2.2.2.2.2.2.2.2.2.1) HN.out.2.2.2.2.2.2.2.2.2.2.2.2.2.2.2.2.1
  · have HL := Lib.hid hl
    obtain ⟨cf, hcf⟩ : ∃ x, x = cfgP s.data.toList := ⟨_, rfl⟩
    rw [← hcf] at g3 g4
    obtain ⟨rs, hrs⟩ : ∃ x, x = bs (s.data.toList.drop 20) := ⟨_, rfl⟩
    rw [← hrs] at g5
    have HCF := Lib.hid hcf
    have HRS := Lib.hid hrs
    unfold cfgC at g3
    unfold stoC at g4
    have ak0 := cellAt (i := 0) (v := .string ⟨#[]⟩) g1 rfl
    have ak1 := cellAt (i := 1) (v := .int .i64 0) g1 rfl
    have ak2 := cellAt (i := 2) (v := .bool false) g1 rfl
    have ak3 := cellAt (i := 3) (v := .bool false) g1 rfl
    have ak4 := cellAt (i := 4) (v := .int .u32 0) g1 rfl
    have ak5 := cellAt (i := 5) (v := .bool false) g1 rfl
    have ak6 := cellAt (i := 6) (v := .int .i64 0) g1 rfl
    have ak7 := cellAt (i := 7) (v := .int .i64 0) g1 rfl
    have ak8 := cellAt (i := 8) (v := .int .i64 0) g1 rfl
    have af0 := Lib.frozen_of_heap g1 0
    have af1 := Lib.frozen_of_heap g1 1
    have af2 := Lib.frozen_of_heap g1 2
    have af3 := Lib.frozen_of_heap g1 3
    have af4 := Lib.frozen_of_heap g1 4
    have af5 := Lib.frozen_of_heap g1 5
    have af6 := Lib.frozen_of_heap g1 6
    have af7 := Lib.frozen_of_heap g1 7
    have af8 := Lib.frozen_of_heap g1 8
    have bk0 := cellAt (i := 0) (v := .int .i64 0) g2 rfl
    have bk1 := cellAt (i := 1) (v := .int .i64 0) g2 rfl
    have bk2 := cellAt (i := 2) (v := .int .i64 0) g2 rfl
    have bf0 := Lib.frozen_of_heap g2 0
    have bf1 := Lib.frozen_of_heap g2 1
    have bf2 := Lib.frozen_of_heap g2 2
    have c0 := cellAt (i := 0) (v := .string (bs cf.self)) g3 rfl
    have c1 := cellAt (i := 1) (v := .int .i64 (cf.tun.mode : Nat)) g3 rfl
    have c2 := cellAt (i := 2) (v := .bool (cf.tun.bits % 2 == 1)) g3 rfl
    have c3 := cellAt (i := 3) (v := .bool (cf.tun.bits / 2 % 2 == 1)) g3 rfl
    have c4 := cellAt (i := 4) (v := .int .u32 (cf.tun.value : Nat)) g3 rfl
    have c5 := cellAt (i := 5) (v := .bool (cf.tun.bits / 4 % 2 == 1)) g3 rfl
    have c6 := cellAt (i := 6) (v := .int .i64 (cf.tun.ttl : Nat)) g3 rfl
    have c7 := cellAt (i := 7) (v := .int .i64 (cf.tun.tos : Nat)) g3 rfl
    have c8 := cellAt (i := 8) (v := .int .i64 (cf.mtu : Nat)) g3 rfl
    have d0 := cellAt (i := 0) (v := .int .i64 (cf.ents : Nat)) g4 rfl
    have d1 := cellAt (i := 1) (v := .int .i64 (cf.byts : Nat)) g4 rfl
    have d2 := cellAt (i := 2) (v := .int .i64 (cf.life : Nat)) g4 rfl
    have e0 := cellAt (i := 0) (v := .string rs) g5 rfl
    have K1 := Lib.hid g1
    have K2 := Lib.hid g2
    have HB1 := Lib.hid hb1
    clear hl g1 g2 g3 g4 g5 hb1 hcf hrs
    go_upto_region 7 with (fail)
    go_region
    simp only [Exit.then]
    obtain ⟨w9, hw9⟩ : ∃ x, x = ((((((((((((w1.setCell ⟨R1, 0, none⟩ (.string (bs cf.self))).setCell ⟨R1, 1, none⟩ (.int .i64 (cf.tun.mode : Nat))).setCell ⟨R1, 2, none⟩ (.bool (cf.tun.bits % 2 == 1))).setCell ⟨R1, 3, none⟩ (.bool (cf.tun.bits / 2 % 2 == 1))).setCell ⟨R1, 4, none⟩ (.int .u32 (cf.tun.value : Nat))).setCell ⟨R1, 5, none⟩ (.bool (cf.tun.bits / 4 % 2 == 1))).setCell ⟨R1, 6, none⟩ (.int .i64 (cf.tun.ttl : Nat))).setCell ⟨R1, 7, none⟩ (.int .i64 (cf.tun.tos : Nat))).setCell ⟨R1, 8, none⟩ (.int .i64 (cf.mtu : Nat))).setCell ⟨R2, 0, none⟩ (.int .i64 (cf.ents : Nat))).setCell ⟨R2, 1, none⟩ (.int .i64 (cf.byts : Nat))).setCell ⟨R2, 2, none⟩ (.int .i64 (cf.life : Nat))).drew := ⟨_, rfl⟩
    rw [← hw9]
    have q1 : w9.heap[R1]? = some (.cells #[.string (bs cf.self), .int .i64 (cf.tun.mode : Nat), .bool (cf.tun.bits % 2 == 1), .bool (cf.tun.bits / 2 % 2 == 1), .int .u32 (cf.tun.value : Nat), .bool (cf.tun.bits / 4 % 2 == 1), .int .i64 (cf.tun.ttl : Nat), .int .i64 (cf.tun.tos : Nat), .int .i64 (cf.mtu : Nat)] 27 (0, 0)) := by
      rw [hw9, drew_heap]
      rw [heap_off R1 R2 n12, heap_off R1 R2 n12, heap_off R1 R2 n12]
      exact set9 K1.out
    have q2 : w9.heap[R2]? = some (.cells #[.int .i64 (cf.ents : Nat), .int .i64 (cf.byts : Nat), .int .i64 (cf.life : Nat)] 29 (0, 0)) := by
      rw [hw9, drew_heap]
      refine set3 (a0 := .int .i64 0) (a1 := .int .i64 0) (a2 := .int .i64 0) ?_
      rw [heap_off R2 R1 n21, heap_off R2 R1 n21, heap_off R2 R1 n21, heap_off R2 R1 n21, heap_off R2 R1 n21, heap_off R2 R1 n21, heap_off R2 R1 n21, heap_off R2 R1 n21, heap_off R2 R1 n21]
      exact K2.out
    have q3 : Below w.heap.size w w9 := by
      rw [hw9]
      exact (below3 (below9 HB1.out HN.out.2.2.2.2.2.2.2.2.2.2.2.2.2.2.2.1) HN.out.2.2.2.2.2.2.2.2.2.2.2.2.2.2.2.2.1).drew
    have Q1 := Lib.hid q1
    have Q2 := Lib.hid q2
    have Q3 := Lib.hid q3
    clear hw9 q1 q2 q3
    go_wp2_with (fail)
    refine bodyPost_ret (config_end (g := R1) (k := R2) rfl rfl rfl rfl Q1.out Q2.out) rfl ⟨Q3.out, .inr ⟨HL.out, ?_⟩⟩
    rw [← HCF.out, ← HRS.out]; rfl
end Go.Proofs.Ytmijfhfjhbckdaa
