import Derived.Test.YtfagkmmenfeppaaDoorFoll
/- follow. -/
namespace Go.Proofs.YtfagkmmenfeppaaDoor
set_option maxRecDepth 100000
open Go.RowKit
theorem flE_ne : ∀ (k tot : Nat) (l : List UInt8) (fs : List Fd) (a n : Nat) (tw : Bool) (c : Nat), flE k tot l fs a n tw = .error c → c ≠ 0 := by
  intro k
  induction k with
  | zero =>
    intro tot l fs a n tw c h
    rw [flE] at h
    cases tw <;> simp at h
    omega
  | succ k ih =>
    intro tot l fs a n tw c h
    rw [flE] at h
    split at h
    · cases tw <;> simp at h
      omega
    · split at h
      · injection h; omega
      · split at h
        · injection h; omega
        · split at h
          · exact ih _ _ _ _ _ _ _ h
          · split at h
            · injection h; omega
            · exact ih _ _ _ _ _ _ _ h
theorem follE_ne {b : List UInt8} {loc : Bool} {f : Fam} {c : Nat} (h : follE b loc f = .error c) : c ≠ 0 := by
  rw [follE] at h
  split at h
  · rename_i e he
    rw [headE] at he
    split at he
    · split at he
      · injection he; injection h; omega
      · cases he
    · cases he
  · rw [tailE] at h
    split at h
    · rename_i e he
      injection h with h; subst h
      exact flE_ne _ _ _ _ _ _ _ _ he
    · split at h
      · split at h
        · cases h
        · injection h; omega
      · cases h
set_option maxHeartbeats 4000000 in
theorem follow_any (X : Nat) (b : ByteArray) (loc : Bool) (f : Fam) (w : World) (hX : w.heap[X]? = some (.cells (X0 loc) 74 (0, 0))) (hb16 : 16 ≤ b.size) (hs : b.size ≤ 1000000) (hz : f.2.2 ≤ 1000) :
    Calls Tryd.prog 37 #[.pointer (some ⟨X, 0, none⟩), .string b, famV f] w (FolPost X b loc f w) := by
  obtain ⟨fn, fc, fz⟩ := f
  have hXl := heap_lt hX
  obtain ⟨W, hW⟩ : ∃ W, W = ((w.alloc (.cells #[.pointer (some ⟨X, 0, none⟩)] 99)).alloc (.cells #[.string b] 9)).alloc (.cells #[.int .i64 fn, .int .i64 fc, .int .i64 fz] 48) := ⟨_, rfl⟩
  have hsz : W.heap.size = w.heap.size + 3 := by rw [hW]; simp
  have hBW : Below w.heap.size w W := by rw [hW]; exact (((Below.refl _ _).alloc (Nat.le_refl _) _).alloc (by simp) _).alloc (by simp; omega) _
  have h0 : W.heap[w.heap.size]? = some (.cells #[.pointer (some ⟨X, 0, none⟩)] 99 (0, 0)) := by
    rw [hW, Below.heap_alloc _ _ _ (by simp; omega), Below.heap_alloc _ _ _ (by simp)]; exact alloc_new _ _
  have h1 : W.heap[w.heap.size + 1]? = some (.cells #[.string b] 9 (0, 0)) := by
    rw [hW, Below.heap_alloc _ _ _ (by simp)]
    have := alloc_new (w.alloc (.cells #[.pointer (some ⟨X, 0, none⟩)] 99)) (.cells #[.string b] 9)
    simpa using this
  have h2 : W.heap[w.heap.size + 2]? = some (.cells #[.int .i64 fn, .int .i64 fc, .int .i64 fz] 48 (0, 0)) := by
    rw [hW]
    have := alloc_new ((w.alloc (.cells #[.pointer (some ⟨X, 0, none⟩)] 99)).alloc (.cells #[.string b] 9)) (.cells #[.int .i64 fn, .int .i64 fc, .int .i64 fz] 48)
    simpa using this
  have R : Reads 52 #[.pointer (some ⟨w.heap.size + 2, 0, none⟩), .pointer (some ⟨w.heap.size, 0, none⟩), .pointer (some ⟨w.heap.size + 1, 0, none⟩)] b W (fun c w' => Save [X] W w' ∧
    (follE b.data.toList loc (fn, fc, fz) = .error c ∨
     (c = 0 ∧ ∃ (h : Hd) (fs : List Fd) (a n : Nat) (v : Value), follE b.data.toList loc (fn, fc, fz) = .ok (h, fs, a) ∧
    w'.heap[X]? = some (.cells #[.bool loc, .int .i64 h.1, .string (bs h.2.1), .string (bs h.2.2.1), .int .i64 h.2.2.2.1, .int .i64 h.2.2.2.2, v, .int .i64 a, .int .u32 n] 74 (0, 0)) ∧ w'.ownsRow (W.heap.size + 2) 45 2 v fs.length (fflat fs)))) := by
    obtain ⟨V, hV⟩ : ∃ V, V = (W.alloc (.cells #[.int .i64 0] 27)).alloc (.cells #[.string b, .int .i64 0] 97) := ⟨_, rfl⟩
    have hVs : V.heap.size = W.heap.size + 2 := by rw [hV]; simp
    have hBV : Below W.heap.size W V := by rw [hV]; exact ((Below.refl _ _).alloc (Nat.le_refl _) _).alloc (by simp) _
    have hrd : Rd (W.heap.size + 1) b 0 V := by
      have := alloc_new (W.alloc (.cells #[.int .i64 0] 27)) (.cells #[.string b, .int .i64 0] 97)
      rw [hV]; unfold Rd; simpa using this
    have hcell : V.heap[W.heap.size]? = some (.cells #[.int .i64 0] 27 (0, 0)) := by
      rw [hV, Below.heap_alloc _ _ _ (by simp)]; exact alloc_new _ _
    have st : GSt (w.heap.size + 2) w.heap.size (w.heap.size + 1) X (W.heap.size + 1) V b (fn, fc, fz) (X0 loc) b.data.toList V :=
      ⟨(hBV.block _ (by omega)).trans h2, (hBV.block _ (by omega)).trans h0, (hBV.block _ (by omega)).trans h1, (hBV.block X (by omega)).trans ((hBW.block X hXl).trans hX), Rl.start hrd, by omega, by simp; omega, by simp; omega, by simp; omega, Save.refl _ _⟩
    have C := foll1_any (w.heap.size + 2) w.heap.size (w.heap.size + 1) X (W.heap.size + 1) b loc (fn, fc, fz) V st hb16 hs hz
    unfold Reads
    rw [← hV]
    refine C.mono ?_
    rintro e w' (⟨c, g1, rfl, g2⟩ | ⟨h, fs, a, n, v, g1, rfl, g2, g3, g4⟩)
    · refine ⟨(g2.block _ (by omega) (by simp; omega)).trans hcell, c, .inr rfl, ?_, .inl g1⟩
      exact ⟨g2.os.trans hBV.os, g2.tape.trans hBV.tape, g2.output.trans hBV.output, Nat.le_trans hBV.size g2.size, fun k hk hn => (g2.block k (by omega) (by simp at hn ⊢; omega)).trans (hBV.block k hk)⟩
    · refine ⟨(g2.block _ (by omega) (by simp; omega)).trans hcell, 0, .inl ⟨rfl, rfl⟩, ?_, .inr ⟨rfl, h, fs, a, n, v, g1, g3, by rw [← hVs]; exact g4⟩⟩
      exact ⟨g2.os.trans hBV.os, g2.tape.trans hBV.tape, g2.output.trans hBV.output, Nat.le_trans hBV.size g2.size, fun k hk hn => (g2.block k (by omega) (by simp at hn ⊢; omega)).trans (hBV.block k hk)⟩
  have C := Lib.hid (read_any 52 _ b W _ call52 R)
  have HBW := Lib.hid hBW
  have HW := Lib.hid hW
  have HS := Lib.hid hsz
  have hmf := fun (fn : Fn) (first cap : Array Value) (w : World) => make_run fn first cap w
  clear R hX hBW h0 h1 h2 hsz
  simp only [famV]
  go_enter Tryd.func37, Tryd.ntmps37
  go_wp2_with (fail)
  rw [← hW]
  refine C.out.mono ?_
  rintro e w2 ⟨c, w1, rfl, ⟨s1, hq⟩, hbut⟩
  clear hW
  go_wp2_with (fail)
  go_ret
  have hsv : Save [X] w w2 := by
    have hs := HS.out
    refine ⟨hbut.os.trans (s1.os.trans HBW.out.os), hbut.tape.trans (s1.tape.trans HBW.out.tape), hbut.output.trans (s1.output.trans HBW.out.output), Nat.le_trans HBW.out.size (Nat.le_trans s1.size hbut.size), fun k hk hn => ?_⟩
    have := s1.size
    rw [hbut.block k (by omega) (by omega), s1.block k (by omega) hn, HBW.out.block k hk]
  refine ⟨c, rfl, hsv, ?_⟩
  rcases hq with h | ⟨rfl, h, fs, a, n, v, g1, g2, g3⟩
  · exact .inl ⟨follE_ne h, h⟩
  · refine .inr ⟨rfl, h, fs, a, n, v, g1, (hbut.block X (heap_lt g2) (by have := HS.out; omega)).trans g2, row_mono (row_save g3 (hbut.save (l := [W.heap.size]) (by simp)) (fun k hk => by simp at hk; omega)) (by have := HS.out; omega)⟩
end Go.Proofs.YtfagkmmenfeppaaDoor
