import Derived.Test.YtgonagkhnkhcnaaWire
/- Package hash, and the document's hash: the sum of a text, the number of a point. -/
namespace Go.Proofs.Ytgonagkhnkhcnaa
set_option maxRecDepth 100000
open Go.RowKit
theorem xor_u64 (x y : BitVec 64) : bits .xor .u64 (x.toNat : Int) (y.toNat : Int) = ((x ^^^ y).toNat : Int) := by
  unfold bits
  simp only [IntKind.bits, IntKind.wrap_u64]
  rw [BitVec.ofInt_natCast, BitVec.ofInt_natCast, BitVec.ofNat_toNat, BitVec.ofNat_toNat]
  rw [BitVec.setWidth_eq, BitVec.setWidth_eq]
  have := (x ^^^ y).isLt
  show ((x ^^^ y).toNat : Int) % 18446744073709551616 = _
  omega
def fstep (n : Nat) (b : UInt8) : Nat := (n ^^^ b.toNat) * 1099511628211 % 18446744073709551616
def fsum (n : Nat) (l : List UInt8) : Nat := l.foldl fstep n
theorem fstep_lt (n : Nat) (b : UInt8) : fstep n b < 18446744073709551616 := Nat.mod_lt _ (by decide)
theorem fsum_lt (l : List UInt8) : ∀ n, n < 18446744073709551616 → fsum n l < 18446744073709551616 := by
  induction l with
  | nil => intro n h; exact h
  | cons b t ih => intro n _; exact ih _ (fstep_lt n b)
theorem fsum_snoc (n : Nat) (l : List UInt8) (b : UInt8) : fsum n (l ++ [b]) = fstep (fsum n l) b := by unfold fsum; rw [List.foldl_append, List.foldl_cons, List.foldl_nil]
theorem take_snoc (s : ByteArray) (k : Nat) (h : k < s.size) : s.data.toList.take (k + 1) = s.data.toList.take k ++ [s[k]] := by
  rw [List.take_add_one, List.getElem?_eq_getElem (by simpa using h)]; rfl
theorem xor_nat (n : Nat) (b : UInt8) (hn : n < 18446744073709551616) : bits .xor .u64 (n : Int) (b.toNat : Int) = ((n ^^^ b.toNat : Nat) : Int) := by
  have hb : b.toNat < 256 := b.toNat_lt
  have h := xor_u64 (BitVec.ofNat 64 n) (BitVec.ofNat 64 b.toNat)
  rw [BitVec.toNat_xor, BitVec.toNat_ofNat, BitVec.toNat_ofNat, Nat.mod_eq_of_lt (by omega), Nat.mod_eq_of_lt (by omega)] at h
  exact h
set_option maxRecDepth 100000 in
set_option maxHeartbeats 1000000 in
theorem u32_any (B b n : Nat) (l : List UInt8) (w : World) (hn : n < 4294967296) (h : IsWr B b l w) (hlen : l.length ≤ 900000) (hBw : B ≤ w.heap.size) :
    Calls Try.prog 55 #[.pointer (some ⟨b, 0, none⟩), .int .u32 n] w fun e w' => e = .returned (.tuple #[]) ∧ IsWr B b (l ++ be n 4) w' ∧ Below B w w' := by
  have C := Lib.hid (number_any B b n 4 l w (by omega) (by omega) h hlen hBw)
  have hw : (n : Int) % 18446744073709551616 = n := by omega
  clear h hBw
  go_enter Try.func55, Try.ntmps55
  go_wp2_with (go_at_call 69; refine C.out.mono ?_; rintro e w1 ⟨rfl, h1, h2⟩)
  go_end0
  exact ⟨rfl, h1, h2⟩
set_option maxRecDepth 100000 in
set_option maxHeartbeats 1000000 in
theorem string_any (B b : Nat) (l : List UInt8) (w : World) (h : IsWr B b l w) (h0 : l ≠ []) :
    Calls Try.prog 57 #[.pointer (some ⟨b, 0, none⟩)] w fun e w' => e = .returned (.string ⟨l.toArray⟩) ∧ Below B w w' := by
  have C := Lib.hid (str_some B b l w h h0)
  clear h h0
  obtain ⟨s, hs⟩ : ∃ s : ByteArray, s = ⟨l.toArray⟩ := ⟨_, rfl⟩
  rw [← hs] at C ⊢
  clear hs
  go_enter Try.func57, Try.ntmps57
  go_wp2_with (go_at_call 70; refine C.out.mono ?_; rintro e w1 ⟨rfl, h2⟩)
  go_ret
  exact ⟨rfl, h2⟩
set_option maxRecDepth 100000 in
set_option maxHeartbeats 1000000 in
theorem sum_any (s : ByteArray) (g c : Nat) (w : World) (hs : s.size ≤ 1000000) (hc : w.cell? ⟨g, 0, none⟩ = some (.string s)) :
    Calls Try.prog 56 #[.slice (some ⟨g, 0, none⟩) 1 c] w fun e w' => e = .returned (.int .u64 (fsum 14695981039346656037 s.data.toList)) ∧ w' = w := by
  go_enter Try.func56, Try.ntmps56
  go_wp2_with (fail)
  refine wp_loop_rounds 2 ?_
  rw [rounds_succ]
  go_wp2_with (fail)
  go_loop [3, 15] (fun v i => ∃ k : Nat, k ≤ s.size ∧ i = .int .i64 k ∧ v = .int .u64 (fsum 14695981039346656037 (s.data.toList.take k))) (fun _ i => s.size - (intOf i).toNat)
  case atStart => exact ⟨0, by omega, rfl, rfl⟩
  case round =>
    obtain ⟨k, hk, rfl, rfl⟩ := hrel
    by_cases hlt : k < s.size
    · obtain ⟨y, hy⟩ : ∃ y, y = fsum 14695981039346656037 (s.data.toList.take k) := ⟨_, rfl⟩
      have hyl : y < 18446744073709551616 := by rw [hy]; exact fsum_lt _ _ (by omega)
      have Hy := Lib.hid hy
      rw [← hy]
      clear hy
      have e1 : bits .xor .u64 (y : Int) (s[k].toNat : Int) = ((y ^^^ s[k].toNat : Nat) : Int) := xor_nat y s[k] hyl
      have hb : (s[k].toNat : Int) % 18446744073709551616 = s[k].toNat := by have := s[k].toNat_lt; omega
      have hst : Hid (fstep y s[k] = (y ^^^ s[k].toNat) * 1099511628211 % 18446744073709551616) := show _ = _ from rfl
      go_wp2
      go_round
      case rel => exact ⟨k + 1, by omega, by go_num, by rw [take_snoc s k hlt, fsum_snoc, ← Hy.out, hst.out]; congr 1⟩
      case measure => simp [intOf]; omega
    · go_wp2
      rw [rounds_succ]
      go_wp2
      go_ret
      refine ⟨?_, rfl⟩
      rw [List.take_of_length_le (by simp; omega)]
      simp
/-- a point's number -/
def hpt (id k : Nat) : Nat := fsum 14695981039346656037 (be id 4 ++ be k 4)
theorem hpt_lt (id k : Nat) : hpt id k < 18446744073709551616 := fsum_lt _ _ (by omega)
theorem fresh_wr (B : Nat) (w : World) (hB : B ≤ w.heap.size) : IsWr B w.heap.size [] (w.alloc (.cells #[.pointer none, .slice none 0 0] 99)) := by
  refine .inl ⟨hB, .slice none 0 0, ?_, ⟨rfl, .inl ⟨rfl, rfl⟩⟩, by simp [Value.ownBlock]⟩
  show (w.heap.push _)[w.heap.size]? = _; simp
set_option maxRecDepth 100000 in
set_option maxHeartbeats 1000000 in
theorem point_any (id k : Nat) (w : World) (hi : id < 4294967296) (hk : k < 4294967296) :
    Calls Try.prog 36 #[.int .i64 id, .int .i64 k] w fun e w' => e = .returned (.int .u64 (hpt id k)) ∧ Below w.heap.size w w' := by
  have U1 := Lib.hid (u32_any w.heap.size w.heap.size id [] (w.alloc (.cells #[.pointer none, .slice none 0 0] 99)) hi (fresh_wr _ w (Nat.le_refl _)) (by simp) (by rw [World.size_alloc]; omega))
  have H2 : Hid (∀ W, IsWr w.heap.size w.heap.size (be id 4) W → w.heap.size ≤ W.heap.size → Hid (Calls Try.prog 55 #[.pointer (some ⟨w.heap.size, 0, none⟩), .int .u32 k] W fun e w' => e = .returned (.tuple #[]) ∧ IsWr w.heap.size w.heap.size (be id 4 ++ be k 4) w' ∧ Below w.heap.size W w')) := fun W hw hb => u32_any _ _ k _ W hk hw (by rw [be_length]; omega) hb
  obtain ⟨s, hs⟩ : ∃ s : ByteArray, s = ⟨(be id 4 ++ be k 4).toArray⟩ := ⟨_, rfl⟩
  have H3 : Hid (∀ W, IsWr w.heap.size w.heap.size (be id 4 ++ be k 4) W → Hid (Calls Try.prog 57 #[.pointer (some ⟨w.heap.size, 0, none⟩)] W fun e w' => e = .returned (.string s) ∧ Below w.heap.size W w')) := fun W hw => by
    rw [hs]; exact string_any _ _ _ W hw (by intro h; have := congrArg List.length h; rw [List.length_append, be_length] at this; simp at this)
  have H4 : Hid (∀ W : World, Calls Try.prog 56 #[.slice (some ⟨W.heap.size, 0, none⟩) 1 1] (W.alloc (.cells #[.string s] 9)) fun e w' => e = .returned (.int .u64 (hpt id k)) ∧ w' = W.alloc (.cells #[.string s] 9)) := fun W => by
    have e : hpt id k = fsum 14695981039346656037 s.data.toList := by rw [hs]; rfl
    rw [e]
    exact sum_any s _ 1 _ (by rw [hs]; show (be id 4 ++ be k 4).toArray.size ≤ _; simp [be_length]) (by simp)
  obtain ⟨h, hh⟩ : ∃ h, h = hpt id k := ⟨_, rfl⟩
  rw [← hh] at H4 ⊢
  clear hs hh
  have hb0 : Below w.heap.size w (w.alloc (.cells #[.pointer none, .slice none 0 0] 99)) := (Below.refl _ w).alloc (Nat.le_refl _) _
  have HB0 := Lib.hid hb0
  have c1 : (id : Int) % 4294967296 = id := by omega
  have c2 : (k : Int) % 4294967296 = k := by omega
  clear hi hk hb0
  go_enter Try.func36, Try.ntmps36
  go_wp2_with (first | (go_at_call 55; (with_reducible refine U1.out.mono ?_); rintro e w1 ⟨rfl, h1, h2⟩; have hb1 := btr HB0.out h2; have G2 := H2.out _ h1 hb1.size; clear U1) | (go_at_call 55; refine G2.out.mono ?_; rintro e w2 ⟨rfl, h3, h4⟩; have hb2 := btr hb1 h4; have G3 := H3.out _ h3) | (go_at_call 57; refine G3.out.mono ?_; rintro e w3 ⟨rfl, h5⟩; have hb3 := btr hb2 h5) | (go_at_call 56; refine (H4.out _).mono ?_; rintro e w4 ⟨rfl, rfl⟩))
  go_ret
  exact ⟨rfl, hb3.alloc hb3.size _⟩

end Go.Proofs.Ytgonagkhnkhcnaa
