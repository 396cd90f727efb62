import Derived.Test.YthdkbocokefdhaaProg
import Derived.WalkKit
import Derived.WalkSpells
import Derived.WalkLawsBesides
import Derived.Below
import Derived.Outline
import Derived.Deep.DeepFit
import Derived.Deep.QuietTactic
import Derived.BigQuiet
import Derived.Lib.Hide
import Derived.Laws.Externs
import Derived.Lib.Slices
import Derived.Lib.ConvBytes
import Derived.Defers
import Derived.Recover
import Derived.Laws.EntriesVeiled
/- The reader of package wire: a text, and how much of it was read. -/
namespace Go.Proofs.Ythdkbocokefdhaa
set_option maxRecDepth 100000
set_option maxRecDepth 100000
open Go.RowKit
/-- all blocks but b are as they were -/
structure But (b : Nat) (w w' : World) : Prop where
  os : w'.os = w.os
  tape : w'.tape = w.tape
  output : w'.output = w.output
  size : w.heap.size ≤ w'.heap.size
  block : ∀ k, k < w.heap.size → k ≠ b → w'.heap[k]? = w.heap[k]?
theorem But.refl (b : Nat) (w : World) : But b w w := ⟨rfl, rfl, rfl, Nat.le_refl _, fun _ _ _ => rfl⟩
theorem But.trans {b : Nat} {w w1 w2 : World} (h : But b w w1) (k : But b w1 w2) : But b w w2 :=
  ⟨k.os.trans h.os, k.tape.trans h.tape, k.output.trans h.output, Nat.le_trans h.size k.size, fun i hi hn => (k.block i (Nat.lt_of_lt_of_le hi h.size) hn).trans (h.block i hi hn)⟩
theorem But.of_below {b : Nat} {w w' : World} (h : Below w.heap.size w w') : But b w w' := ⟨h.os, h.tape, h.output, h.size, fun k hk _ => h.block k hk⟩
theorem But.below {b B : Nat} {w w' : World} (h : But b w w') (h1 : B ≤ b) (h2 : B ≤ w.heap.size) : Below B w w' := ⟨h.os, h.tape, h.output, h.size, fun k hk => h.block k (by omega) (by omega)⟩
theorem But.drew {b : Nat} {w w' : World} (h : But b w w') : But b w w'.drew := ⟨h.os, h.tape, h.output, h.size, h.block⟩
theorem But.drewN {b : Nat} {w w' : World} (h : But b w w') (n : Nat) : But b w (w'.drewN n) := ⟨h.os, h.tape, h.output, h.size, h.block⟩
theorem But.set {b : Nat} {w w' : World} (h : But b w w') (o : Nat) (v : Value) : But b w (w'.setCell ⟨b, o, none⟩ v) :=
  ⟨h.os, h.tape, h.output, by simpa [World.setCell] using h.size, fun k hk hn => by rw [Below.heap_setCell _ _ _ _ (by simpa using hn)]; exact h.block k hk hn⟩
theorem But.alloc {b : Nat} {w w' : World} (h : But b w w') (o : Obj) : But b w (w'.alloc o) :=
  h.trans (But.of_below ((Below.refl _ _).alloc (Nat.le_refl _) _))
/-- a reader in block b: its text, and how much was read -/
def Rd (b : Nat) (s : ByteArray) (at' : Nat) (w : World) : Prop := w.heap[b]? = some (.cells #[.string s, .int .i64 (at' : Int)] 132 (0, 0))
theorem Rd.drew {b : Nat} {s : ByteArray} {a : Nat} {w : World} (h : Rd b s a w) : Rd b s a w.drew := h
theorem Rd.lt {b : Nat} {s : ByteArray} {a : Nat} {w : World} (h : Rd b s a w) : b < w.heap.size := by
  rcases Nat.lt_or_ge b w.heap.size with h' | h'
  · exact h'
  · unfold Rd at h; simp [Array.getElem?_eq_none h'] at h
theorem Rd.cells {b : Nat} {s : ByteArray} {a : Nat} {w : World} (h : Rd b s a w) : w.cell? ⟨b, 0, none⟩ = some (.string s) ∧ w.cell? ⟨b, 1, none⟩ = some (.int .i64 a) ∧ w.frozen? ⟨b, 1, none⟩ = false :=
  ⟨by rw [Lib.cell_of_heap h]; rfl, by rw [Lib.cell_of_heap h]; rfl, Lib.frozen_of_heap h 1⟩
/-- what a reading is stopped with -/
def stopped (c : Nat) : List PanicEntry := [{ v := .iface 130 (.agg #[.int .i64 c]), recovered := false }]
theorem ret_int {k : IntKind} {a b : Int} (h : a = b) : Ending.returned (.int k a) = .returned (.int k b) := by rw [h]
set_option maxHeartbeats 1000000 in
theorem left_any (b : Nat) (s : ByteArray) (a : Nat) (w : World) (h : Rd b s a w) (ha : a ≤ s.size) (hs : s.size ≤ 9223372036854775807) :
    Calls Try.prog 79 #[.pointer (some ⟨b, 0, none⟩)] w fun e w' => e = .returned (.int .i64 ((s.size - a : Nat) : Int)) ∧ ∃ n, w' = w.drewN n := by
  obtain ⟨c0, c1, _⟩ := h.cells
  go_enter Try.func79, Try.ntmps79
  go_wp2_with (fail)
  go_quiet (fail)
  go_wp2_with (fail)
  go_ret
  exact ⟨ret_int (by omega), _, rfl⟩
theorem need_yes (p : Value) (c : Int) (w : World) : Calls Try.prog 55 #[p, .bool true, .int .i64 c] w fun e w' => e = .returned (.tuple #[]) ∧ w' = w := by
  go_enter Try.func55, Try.ntmps55
  go_wp2_with (fail)
  go_end0
  exact ⟨rfl, rfl⟩
theorem need_no (p : Value) (c : Nat) (w : World) : Calls Try.prog 55 #[p, .bool false, .int .i64 c] w fun e w' => e = .panicked (stopped c) ∧ w' = w := by
  go_enter Try.func55, Try.ntmps55
  go_wp2_with (fail)
  exact ⟨rfl, rfl, rfl⟩
theorem Rd.drewN {b : Nat} {s : ByteArray} {a : Nat} {w : World} (h : Rd b s a w) (n : Nat) : Rd b s a (w.drewN n) := h
theorem Rd.set {b : Nat} {s : ByteArray} {a : Nat} {w : World} (h : Rd b s a w) (n : Nat) : Rd b s n (w.setCell ⟨b, 1, none⟩ (.int .i64 n)) := by
  unfold Rd at h ⊢
  simp [World.setCell, Array.getElem?_modify, h]
set_option maxHeartbeats 2000000 in
theorem take_to (b : Nat) (s : ByteArray) (a n t : Nat) (w : World) (h : Rd b s a w) (ht : t = a + n) (ha : t ≤ s.size) (hs : s.size ≤ 9223372036854775807) :
    Calls Try.prog 59 #[.pointer (some ⟨b, 0, none⟩), .int .i64 n] w fun e w' => e = .returned (.string (s.extract a t)) ∧ Rd b s t w' ∧ But b w w' := by
  obtain ⟨c0, c1, f1⟩ := h.cells
  have L := Lib.hid (left_any b s a w h (by omega) hs)
  have H := Lib.hid h
  have h1 : (n : Int) ≥ 0 := by omega
  have h2 : decide (n ≤ s.size - a) = true := decide_eq_true (by omega)
  have h3 : decide ((n : Int) ≥ 0) = true := decide_eq_true (by omega)
  have hbd : a + n ≤ 9223372036854775807 := by omega
  have HT := Lib.hid ht
  clear h ht
  go_enter Try.func59, Try.ntmps59
  go_wp2_with (first | (go_at_call 79; refine L.out.mono ?_; rintro e w1 ⟨rfl, m, rfl⟩) | (go_at_call 55; refine (need_yes _ _ _).mono ?_; rintro e w1 ⟨rfl, rfl⟩))
  have HM := Lib.hid (H.out.drewN m |>.set t)
  have HB := Lib.hid (((But.refl b w).drewN m).set 1 (.int .i64 (t : Int)))
  have e1 : (a : Int) + n = (t : Int) := by have := HT.out; omega
  rw [e1]
  obtain ⟨w2, hw2⟩ : ∃ w2, w2 = (w.drewN m).setCell ⟨b, 1, none⟩ (.int .i64 (t : Int)) := ⟨_, rfl⟩
  rw [← hw2] at HM HB ⊢
  clear hw2 c0 c1 f1
  obtain ⟨c0, c1, f1⟩ := HM.out.cells
  have h4 : IntKind.i64.wrap ((t : Int) - n) = (a : Int) := by rw [← e1, IntWalk.i64_in _ (by omega)]; omega
  have h5 : (t : Int) ≤ s.size := by omega
  have h6 : (a : Int) ≤ t := by omega
  clear e1
  go_quiet (fail)
  go_wp2_with (fail)
  go_ret
  exact ⟨rfl, HM.out, HB.out.drewN _⟩
theorem take_ok (b : Nat) (s : ByteArray) (a n : Nat) (w : World) (h : Rd b s a w) (ha : a + n ≤ s.size) (hs : s.size ≤ 9223372036854775807) :
    Calls Try.prog 59 #[.pointer (some ⟨b, 0, none⟩), .int .i64 n] w fun e w' => e = .returned (.string (s.extract a (a + n))) ∧ Rd b s (a + n) w' ∧ But b w w' := take_to b s a n (a + n) w h rfl ha hs
set_option maxHeartbeats 2000000 in
theorem take_no (b : Nat) (s : ByteArray) (a : Nat) (n : Int) (w : World) (h : Rd b s a w) (ha : a ≤ s.size) (hn : n < 0 ∨ (s.size - a : Nat) < n) (hs : s.size ≤ 9223372036854775807) :
    Calls Try.prog 59 #[.pointer (some ⟨b, 0, none⟩), .int .i64 n] w fun e w' => e = .panicked (stopped 2) ∧ Rd b s a w' ∧ But b w w' := by
  have H := Lib.hid h
  by_cases h1 : n < 0
  · have h3 : decide (n ≥ 0) = false := decide_eq_false (by omega)
    have h4 : ¬ n ≥ 0 := by omega
    clear h
    go_enter Try.func59, Try.ntmps59
    go_wp2_with (first | (go_at_call 55; refine (need_no _ 2 _).mono ?_; rintro e w1 ⟨rfl, rfl⟩))
    exact ⟨rfl, rfl, H.out, But.refl _ _⟩
  · have L := Lib.hid (left_any b s a w h (by omega) hs)
    have h3 : decide (n ≥ 0) = true := decide_eq_true (by omega)
    have h4 : n ≥ 0 := by omega
    have h5 : decide (n ≤ (s.size - a : Nat)) = false := decide_eq_false (by omega)
    clear h
    go_enter Try.func59, Try.ntmps59
    go_wp2_with (first | (go_at_call 79; refine L.out.mono ?_; rintro e w1 ⟨rfl, m, rfl⟩) | (go_at_call 55; refine (need_no _ 2 _).mono ?_; rintro e w1 ⟨rfl, rfl⟩))
    exact ⟨rfl, rfl, H.out.drewN _, (But.refl _ _).drewN _⟩
end Go.Proofs.Ythdkbocokefdhaa
/- The reader's numbers. -/
namespace Go.Proofs.Ythdkbocokefdhaa
set_option maxRecDepth 100000
set_option maxRecDepth 100000
open Go.RowKit
/-- bytes as a number, the greatest first -/
def bv (l : List UInt8) : Nat := l.foldl (fun n c => n * 256 + c.toNat) 0
theorem bv_snoc (l : List UInt8) (c : UInt8) : bv (l ++ [c]) = bv l * 256 + c.toNat := by unfold bv; rw [List.foldl_append]; rfl
theorem bv_lt (l : List UInt8) : bv l < 256 ^ l.length := by
  have h : ∀ n (m : List UInt8), m.length = n → bv m < 256 ^ n := by
    intro n
    induction n with
    | zero => intro m hm; rw [List.length_eq_zero_iff.1 hm]; decide
    | succ n ih =>
      intro m hm
      have h0 : m ≠ [] := fun e => by rw [e] at hm; simp at hm
      have := ih m.dropLast (by rw [List.length_dropLast]; omega)
      rw [← List.dropLast_concat_getLast h0, bv_snoc, Nat.pow_succ]
      have := (m.getLast h0).toNat_lt
      omega
  exact h _ l rfl
theorem take_snoc (l : List UInt8) (k : Nat) (h : k < l.length) : l.take (k + 1) = l.take k ++ [l[k]] := by
  rw [List.take_succ_eq_append_getElem h]
theorem or_u64 (x y : BitVec 64) : bits .or .u64 (x.toNat : Int) (y.toNat : Int) = ((x ||| y).toNat : Int) := by
  unfold bits
  simp only [IntKind.bits, IntKind.wrap_u64]
  rw [BitVec.ofInt_natCast, BitVec.ofInt_natCast, BitVec.ofNat_toNat, BitVec.ofNat_toNat]
  rw [BitVec.setWidth_eq, BitVec.setWidth_eq]
  have := (x ||| y).isLt
  show ((x ||| y).toNat : Int) % 18446744073709551616 = _
  omega
theorem or_byte (v c : Nat) (hv : v < 72057594037927936) (hc : c < 256) : bits .or .u64 ((v : Int) * 256) (c : Int) = ((v * 256 + c : Nat) : Int) := by
  have e1 : ((v : Int) * 256) = ((BitVec.ofNat 64 (v * 256)).toNat : Int) := by rw [BitVec.toNat_ofNat]; omega
  have e2 : (c : Int) = ((BitVec.ofNat 64 c).toNat : Int) := by rw [BitVec.toNat_ofNat]; omega
  rw [e1, e2, or_u64, BitVec.toNat_or, BitVec.toNat_ofNat, BitVec.toNat_ofNat, Nat.mod_eq_of_lt (by omega), Nat.mod_eq_of_lt (by omega)]
  have := Nat.two_pow_add_eq_or_of_lt (i := 8) (b := c) (by simpa using hc) v
  rw [show v * 256 = 2 ^ 8 * v by omega, ← this]
set_option maxHeartbeats 2000000 in
theorem num_ok (b : Nat) (s : ByteArray) (a n t : Nat) (w : World) (h : Rd b s a w) (ht : t = a + n) (ha : t ≤ s.size) (hn : n ≤ 8) (hs : s.size ≤ 9223372036854775807) :
    Calls Try.prog 78 #[.pointer (some ⟨b, 0, none⟩), .int .i64 n] w fun e w' => e = .returned (.int .u64 (bv (s.extract a t).data.toList : Nat)) ∧ Rd b s t w' ∧ But b w w' := by
  have C := Lib.hid (take_to b s a n t w h ht ha hs)
  obtain ⟨x, hx⟩ : ∃ x, x = s.extract a t := ⟨_, rfl⟩
  have hxs : x.size = n := by rw [hx, ByteArray.size_extract]; omega
  rw [← hx] at C ⊢
  have HX := Lib.hid hxs
  clear hx hxs ht h
  go_enter Try.func78, Try.ntmps78
  go_wp2_with (go_at_call 59; refine C.out.mono ?_)
  rintro e w1 ⟨rfl, h1, hb1⟩
  have hcv := Lib.run_convert_string_bytes (P := Try.prog) w1 9 53 5 x Try.underlying9 Try.underlying53 Try.underlying5
  go_wp2_with (fail)
  have hbig := hb1.size
  have HW1 := Lib.hid h1
  have HB1 := Lib.hid hb1
  have HCe : Hid (∀ j, j < x.size → (Lib.bytesWorld w1 5 x).cell? ⟨w1.heap.size, j, none⟩ = some (.int .u8 (x.data.toList.getD j 0).toNat)) := fun j hj => Lib.bytesWorld_cell w1 5 x j hj
  have HRd : Hid (Rd b s t (Lib.bytesWorld w1 5 x)) := by
    have := h1.lt
    unfold Rd at h1 ⊢
    rw [Lib.bytesWorld_at_old _ _ _ _ this]; exact h1
  have HBt : Hid (But b w (Lib.bytesWorld w1 5 x)) := by
    refine hb1.trans ⟨rfl, rfl, rfl, by rw [Lib.bytesWorld_size]; omega, fun k hk _ => Lib.bytesWorld_at_old _ _ _ _ hk⟩
  obtain ⟨g, hg⟩ : ∃ g, g = w1.heap.size := ⟨_, rfl⟩
  obtain ⟨cp, hcp⟩ : ∃ g, g = grownCap w1 x.size 0 5 := ⟨_, rfl⟩
  rw [← hg] at HCe ⊢
  rw [← hcp]
  generalize Lib.bytesWorld w1 5 x = W at *
  obtain ⟨m, hm⟩ : ∃ m, m = x.size := ⟨_, rfl⟩
  have hm8 : m ≤ 8 := by have := HX.out; omega
  rw [← hm] at HCe ⊢
  have HM := Lib.hid hm
  clear hg hcp hm h1 hb1 hcv hbig
  go_loop [5, 7, 13] (fun o c i => ∃ k : Nat, k ≤ m ∧ i = .int .i64 k ∧ o = .int .u64 ((bv (x.data.toList.take k) : Nat) : Int)) (fun _ _ i => m - (intOf i).toNat)
  case atStart => exact ⟨0, by omega, rfl, rfl⟩
  case round =>
    obtain ⟨k, hk, rfl, rfl⟩ := hrel
    by_cases hlt : k < m
    · have c0 := HCe.out k hlt
      have hl : k < x.data.toList.length := by have := HM.out; simpa using (show k < x.size by omega)
      obtain ⟨v, hv⟩ : ∃ v, v = bv (x.data.toList.take k) := ⟨_, rfl⟩
      obtain ⟨c, hc⟩ : ∃ c, c = (x.data.toList.getD k 0) := ⟨_, rfl⟩
      have hc8 := c.toNat_lt
      have hv8 : v < 72057594037927936 := by
        have h1 := bv_lt (x.data.toList.take k)
        have h2 : (x.data.toList.take k).length ≤ 7 := by rw [List.length_take]; omega
        have h3 : 256 ^ (x.data.toList.take k).length ≤ 256 ^ 7 := Nat.pow_le_pow_right (by omega) h2
        rw [hv]; exact Nat.lt_of_lt_of_le h1 h3
      have HV : Hid (bv (x.data.toList.take (k + 1)) = v * 256 + c.toNat) := by
        show bv _ = _
        rw [take_snoc _ _ hl, bv_snoc, ← hv, hc, List.getD_eq_getElem?_getD, List.getElem?_eq_getElem hl]; rfl
      rw [← hc] at c0
      rw [← hv]
      clear hc hv
      go_wp2_with (fail)
      exact ⟨⟨k + 1, by omega, by go_num, by rw [or_byte v _ hv8 (by omega), HV.out]⟩, by simp [intOf]; omega⟩
    · obtain rfl : k = m := by omega
      have HE : Hid (x.data.toList.take k = x.data.toList) := by
        have := HM.out
        exact List.take_of_length_le (by simp; omega)
      rw [HE.out]
      go_wp2_with (fail)
      go_ret
      exact ⟨rfl, HRd.out, HBt.out⟩
set_option maxHeartbeats 2000000 in
theorem num_no (b : Nat) (s : ByteArray) (a n : Nat) (w : World) (h : Rd b s a w) (ha : a ≤ s.size) (hn : s.size - a < n) (hs : s.size ≤ 9223372036854775807) :
    Calls Try.prog 78 #[.pointer (some ⟨b, 0, none⟩), .int .i64 n] w fun e w' => e = .panicked (stopped 2) ∧ Rd b s a w' ∧ But b w w' := by
  have C := Lib.hid (take_no b s a n w h ha (.inr (by omega)) hs)
  clear h
  go_enter Try.func78, Try.ntmps78
  go_wp2_with (go_at_call 59; refine C.out.mono ?_)
  rintro e w1 ⟨rfl, h1, hb1⟩
  exact ⟨rfl, rfl, h1, hb1⟩
theorem bv_le (s : ByteArray) (a n t : Nat) (ht : t = a + n) (h : t ≤ s.size) : bv (s.extract a t).data.toList < 256 ^ n := by
  have h1 := bv_lt (s.extract a t).data.toList
  have h2 : (s.extract a t).data.toList.length = n := by
    have : (s.extract a t).size = n := by rw [ByteArray.size_extract]; omega
    rw [Array.length_toList]; exact this
  rw [h2] at h1; exact h1
set_option maxHeartbeats 1000000 in
theorem u8_ok (b : Nat) (s : ByteArray) (a t : Nat) (w : World) (h : Rd b s a w) (ht : t = a + 1) (ha : t ≤ s.size) (hs : s.size ≤ 9223372036854775807) :
    Calls Try.prog 56 #[.pointer (some ⟨b, 0, none⟩)] w fun e w' => e = .returned (.int .i64 (bv (s.extract a t).data.toList : Nat)) ∧ Rd b s t w' ∧ But b w w' := by
  have C := Lib.hid (num_ok b s a 1 t w h ht ha (by omega) hs)
  obtain ⟨v, hv⟩ : ∃ v, v = bv (s.extract a t).data.toList := ⟨_, rfl⟩
  have hvl : v < 256 := by rw [hv]; exact bv_le s a 1 t ht ha
  rw [← hv] at C ⊢
  clear h hv ht
  go_enter Try.func56, Try.ntmps56
  go_wp2_with (go_at_call 78; refine C.out.mono ?_; rintro e w1 ⟨rfl, h1, hb1⟩; have H1 := Lib.hid h1; clear h1)
  go_ret
  exact ⟨rfl, H1.out, hb1⟩
set_option maxHeartbeats 1000000 in
theorem u8_no (b : Nat) (s : ByteArray) (a : Nat) (w : World) (h : Rd b s a w) (ha : a ≤ s.size) (hn : s.size - a < 1) (hs : s.size ≤ 9223372036854775807) :
    Calls Try.prog 56 #[.pointer (some ⟨b, 0, none⟩)] w fun e w' => e = .panicked (stopped 2) ∧ Rd b s a w' ∧ But b w w' := by
  have C := Lib.hid (num_no b s a 1 w h ha hn hs)
  clear h
  go_enter Try.func56, Try.ntmps56
  go_wp2_with (go_at_call 78; refine C.out.mono ?_)
  rintro e w1 ⟨rfl, h1, hb1⟩
  exact ⟨rfl, rfl, h1, hb1⟩
set_option maxHeartbeats 1000000 in
theorem u16_ok (b : Nat) (s : ByteArray) (a t : Nat) (w : World) (h : Rd b s a w) (ht : t = a + 2) (ha : t ≤ s.size) (hs : s.size ≤ 9223372036854775807) :
    Calls Try.prog 57 #[.pointer (some ⟨b, 0, none⟩)] w fun e w' => e = .returned (.int .i64 (bv (s.extract a t).data.toList : Nat)) ∧ Rd b s t w' ∧ But b w w' := by
  have C := Lib.hid (num_ok b s a 2 t w h ht ha (by omega) hs)
  obtain ⟨v, hv⟩ : ∃ v, v = bv (s.extract a t).data.toList := ⟨_, rfl⟩
  have hvl : v < 65536 := by rw [hv]; exact bv_le s a 2 t ht ha
  rw [← hv] at C ⊢
  clear h hv ht
  go_enter Try.func57, Try.ntmps57
  go_wp2_with (go_at_call 78; refine C.out.mono ?_; rintro e w1 ⟨rfl, h1, hb1⟩; have H1 := Lib.hid h1; clear h1)
  go_ret
  exact ⟨rfl, H1.out, hb1⟩
set_option maxHeartbeats 1000000 in
theorem u16_no (b : Nat) (s : ByteArray) (a : Nat) (w : World) (h : Rd b s a w) (ha : a ≤ s.size) (hn : s.size - a < 2) (hs : s.size ≤ 9223372036854775807) :
    Calls Try.prog 57 #[.pointer (some ⟨b, 0, none⟩)] w fun e w' => e = .panicked (stopped 2) ∧ Rd b s a w' ∧ But b w w' := by
  have C := Lib.hid (num_no b s a 2 w h ha hn hs)
  clear h
  go_enter Try.func57, Try.ntmps57
  go_wp2_with (go_at_call 78; refine C.out.mono ?_)
  rintro e w1 ⟨rfl, h1, hb1⟩
  exact ⟨rfl, rfl, h1, hb1⟩
set_option maxHeartbeats 1000000 in
theorem rest_any (b : Nat) (s : ByteArray) (a : Nat) (w : World) (h : Rd b s a w) (ha : a ≤ s.size) (hs : s.size ≤ 9223372036854775807) :
    Calls Try.prog 60 #[.pointer (some ⟨b, 0, none⟩)] w fun e w' => e = .returned (.string (s.extract a s.size)) ∧ Rd b s s.size w' ∧ But b w w' := by
  have L := Lib.hid (left_any b s a w h ha hs)
  have C : Hid (∀ m, Calls Try.prog 59 #[.pointer (some ⟨b, 0, none⟩), .int .i64 ((s.size - a : Nat) : Int)] (w.drewN m) fun e w' => e = .returned (.string (s.extract a s.size)) ∧ Rd b s s.size w' ∧ But b (w.drewN m) w') :=
    fun m => take_to b s a (s.size - a) s.size (w.drewN m) h (by omega) (Nat.le_refl _) hs
  clear h
  go_enter Try.func60, Try.ntmps60
  go_wp2_with (first | (go_at_call 79; refine L.out.mono ?_; rintro e w1 ⟨rfl, m, rfl⟩) | (go_at_call 59; refine (C.out _).mono ?_; rintro e w1 ⟨rfl, h1, hb1⟩; have H1 := Lib.hid h1; clear h1))
  go_ret
  exact ⟨rfl, H1.out, ((But.refl b w).drewN m).trans hb1⟩
end Go.Proofs.Ythdkbocokefdhaa
/- wire.Read: a reading, and with what it was stopped. -/
namespace Go.Proofs.Ythdkbocokefdhaa
set_option maxRecDepth 100000
set_option maxRecDepth 100000
open Go.RowKit
set_option maxHeartbeats 1000000 in
theorem catch_idle (p : Addr) (w : World) :
    CallsD Try.prog 77 #[.pointer (some p)] .returning w fun e u' w' => e = .returned (.tuple #[]) ∧ u' = .returning ∧ w' = w := by
  refine callsD_of_wpS Try.func77 rfl fun c₀ cs hu => ?_
  apply wpS_seq
  apply wpS_region
  simp [wpOpsS, go_sem, recoverD, hu, Try.ntmps77, Exit.thenS]
  refine wpS_of_wp ?_
  go_wp2
  cases c₀
  simp_all [bodyPostS, results, Try.results77]
theorem assert_run (v : Value) (w : World) : (Instr.typeAssert (.iface 130 v) 20 130 true).run Try.prog w = .ok (.tuple #[v, .bool true]) w := by
  kernel_rfl
set_option maxHeartbeats 1000000 in
theorem catch_stop (p : Addr) (c : Nat) (c0 : Value) (w : World) (hc : w.cell? p = some c0) (hz : w.frozen? p = false) (hp : p.block < w.heap.size) :
    CallsD Try.prog 77 #[.pointer (some p)] (.panicking (stopped c)) w fun e u' w' => e = .returned (.tuple #[]) ∧ u' = .panicking [{ v := .iface 130 (.agg #[.int .i64 c]), recovered := true }] ∧ w' = (w.alloc (.cells #[.int .i64 c] 130)).setCell p (.int .i64 c) := by
  have hta := fun (v : Value) (w : World) => assert_run v w
  have hz2 : (w.alloc (.cells #[.int .i64 c] 130)).frozen? p = false := by rw [((Below.refl w.heap.size w).alloc (Nat.le_refl _) _).frozen hp]; exact hz
  refine callsD_of_wpS Try.func77 rfl fun c₀ cs hu => ?_
  apply wpS_seq
  apply wpS_region
  simp [wpOpsS, go_sem, recoverD, hu, Try.ntmps77, Exit.thenS, stopped]
  refine wpS_of_wp ?_
  go_wp2
  cases c₀
  simp_all [bodyPostS, results, Try.results77]
theorem make_run (fn : Fn) (first cap : Array Value) (w : World) : (Instr.makeFunc fn first cap).run Try.prog w = .ok (.func fn first cap) w := rfl
theorem cell_one {w : World} {k : Nat} {x : Value} {t : TypeId} (h : w.heap[k]? = some (.cells #[x] t (0, 0))) (v : Value) : (w.setCell ⟨k, 0, none⟩ v).cell? ⟨k, 0, none⟩ = some v := by
  have h2 : (w.setCell ⟨k, 0, none⟩ v).heap[k]? = some (.cells #[v] t (0, 0)) := by simp [World.setCell, Array.getElem?_modify, h]
  rw [Lib.cell_of_heap h2]; rfl
/-- what wire.Read asks of the reading itself -/
def Reads (g : Nat) (cap : Array Value) (s : ByteArray) (w : World) (Q : Nat → World → Prop) : Prop :=
  Calls Try.prog g (#[.pointer (some ⟨w.heap.size + 1, 0, none⟩)] ++ cap) ((w.alloc (.cells #[.int .i64 0] 28)).alloc (.cells #[.string s, .int .i64 0] 132)) fun e w' =>
    w'.heap[w.heap.size]? = some (.cells #[.int .i64 0] 28 (0, 0)) ∧ ∃ c : Nat, (c = 0 ∧ e = .returned (.tuple #[]) ∨ e = .panicked (stopped c)) ∧ Q c w'
set_option maxHeartbeats 2000000 in
theorem read_any (g : Nat) (cap : Array Value) (s : ByteArray) (w : World) (Q : Nat → World → Prop) (hg : ∀ (args : Array Value) (W : World), (callFunc g args).run Try.prog W = .ok (.enter g args) W) (h : Reads g cap s w Q) :
    Calls Try.prog 53 #[.string s, .func (.func g) #[] cap] w fun e w' => ∃ c : Nat, ∃ w0, e = .returned (.int .i64 c) ∧ Q c w0 ∧ But w.heap.size w0 w' := by
  have hmf := fun (fn : Fn) (first cap : Array Value) (w : World) => make_run fn first cap w
  have HH := Lib.hid h
  clear h
  go_enter_defers Try.func53, Try.ntmps53
  go_wp2_with (fail)
  refine HH.out.mono ?_
  rintro e w1 ⟨h1, c, hc, hq⟩
  have hcell : w1.cell? ⟨w.heap.size, 0, none⟩ = some (.int .i64 0) := by rw [Lib.cell_of_heap h1]; rfl
  have hfr : w1.frozen? ⟨w.heap.size, 0, none⟩ = false := Lib.frozen_of_heap h1 0
  have hlt : w.heap.size < w1.heap.size := by
    rcases Nat.lt_or_ge w.heap.size w1.heap.size with h' | h'
    · exact h'
    · simp [Array.getElem?_eq_none h'] at h1
  rcases hc with ⟨rfl, rfl⟩ | rfl
  · go_wp2_with (fail)
    refine leaves_cons (f := 77) (args := #[.pointer (some ⟨w.heap.size, 0, none⟩)]) (by simp) (by simp [go_sem]) ?_
    refine (catch_idle ⟨w.heap.size, 0, none⟩ _).mono ?_
    rintro e u' w'' ⟨rfl, rfl, rfl⟩
    have hcv := cell_one h1 (.int .i64 0)
    simp only [Leaves, settle, results, Try.results53]
    simp [go_sem, hcv]
    exact ⟨0, rfl, w1, hq, (But.refl _ _).set 0 _⟩
  · refine leaves_cons (f := 77) (args := #[.pointer (some ⟨w.heap.size, 0, none⟩)]) (by simp) (by simp [go_sem]) ?_
    refine (catch_stop ⟨w.heap.size, 0, none⟩ c _ _ hcell hfr hlt).mono ?_
    rintro e u' w'' ⟨rfl, rfl, rfl⟩
    have h2 : (w1.alloc (.cells #[.int .i64 c] 130)).heap[w.heap.size]? = some (.cells #[.int .i64 0] 28 (0, 0)) := by rw [Below.heap_alloc _ _ _ hlt]; exact h1
    have hcv := cell_one h2 (.int .i64 c)
    simp [Leaves, settle, results, Try.results53, go_sem, hcv]
    exact ⟨c, rfl, w1, hq, ((But.refl _ _).alloc _).set 0 _⟩
end Go.Proofs.Ythdkbocokefdhaa
/- The reader by what is left. -/
namespace Go.Proofs.Ythdkbocokefdhaa
set_option maxRecDepth 100000
set_option maxRecDepth 100000
open Go.RowKit
/-- bytes as a string -/
def bs (l : List UInt8) : ByteArray := ⟨l.toArray⟩
theorem bs_size (l : List UInt8) : (bs l).size = l.length := by unfold bs; simp [ByteArray.size]
theorem bs_list (l : List UInt8) : (bs l).data.toList = l := rfl
theorem bs_of (s : ByteArray) : bs s.data.toList = s := rfl
theorem bs_inj {a b : List UInt8} (h : bs a = bs b) : a = b := by have := congrArg (fun s => s.data.toList) h; exact this
theorem bs_append (a b : List UInt8) : bs a ++ bs b = bs (a ++ b) := by
  apply ByteArray.ext; unfold bs; simp
theorem bs_extract (l : List UInt8) (a b : Nat) : (bs l).extract a b = bs ((l.drop a).take (b - a)) := by
  apply ByteArray.ext; unfold bs; simp [List.extract_eq_take_drop]
theorem extract_bs (s : ByteArray) (a b : Nat) : s.extract a b = bs ((s.data.toList.drop a).take (b - a)) := by
  rw [← bs_extract, bs_of]
/-- a reader in block b, of s, of which l is left -/
def Rl (b : Nat) (s : ByteArray) (l : List UInt8) (w : World) : Prop := ∃ a, Rd b s a w ∧ a ≤ s.size ∧ s.data.toList.drop a = l
theorem Rl.len {b : Nat} {s : ByteArray} {l : List UInt8} {w : World} (h : Rl b s l w) : l.length ≤ s.size := by
  obtain ⟨a, _, h2, h3⟩ := h
  rw [← h3, List.length_drop]; simp
theorem Rl.place {b : Nat} {s : ByteArray} {l : List UInt8} {w : World} (h : Rl b s l w) : Rd b s (s.size - l.length) w := by
  obtain ⟨a, h1, h2, h3⟩ := h
  have : l.length = s.size - a := by rw [← h3, List.length_drop]; simp
  rw [this, show s.size - (s.size - a) = a by omega]; exact h1
theorem Rl.same {b : Nat} {s : ByteArray} {l : List UInt8} {w w' : World} (h : Rl b s l w) (hh : w'.heap[b]? = w.heap[b]?) : Rl b s l w' := by
  obtain ⟨a, h1, h2, h3⟩ := h
  exact ⟨a, by unfold Rd at h1 ⊢; rw [hh]; exact h1, h2, h3⟩
theorem Rl.lt {b : Nat} {s : ByteArray} {l : List UInt8} {w : World} (h : Rl b s l w) : b < w.heap.size := by
  obtain ⟨a, h1, _⟩ := h; exact h1.lt
theorem Rl.start {b : Nat} {s : ByteArray} {w : World} (h : Rd b s 0 w) : Rl b s s.data.toList w := ⟨0, h, by omega, rfl⟩
theorem Rl.drewN {b : Nat} {s : ByteArray} {l : List UInt8} {w : World} (h : Rl b s l w) (n : Nat) : Rl b s l (w.drewN n) := h
abbrev MX : Nat := 9223372036854775807
theorem left_l (b : Nat) (s : ByteArray) (l : List UInt8) (w : World) (h : Rl b s l w) (hs : s.size ≤ MX) :
    Calls Try.prog 79 #[.pointer (some ⟨b, 0, none⟩)] w fun e w' => e = .returned (.int .i64 (l.length : Int)) ∧ ∃ n, w' = w.drewN n := by
  obtain ⟨a, h1, h2, h3⟩ := h
  have : l.length = s.size - a := by rw [← h3, List.length_drop]; simp
  rw [this]; exact left_any b s a w h1 h2 hs
theorem take_l (b n : Nat) (s : ByteArray) (l : List UInt8) (w : World) (h : Rl b s l w) (hn : n ≤ l.length) (hs : s.size ≤ MX) :
    Calls Try.prog 59 #[.pointer (some ⟨b, 0, none⟩), .int .i64 n] w fun e w' => e = .returned (.string (bs (l.take n))) ∧ Rl b s (l.drop n) w' ∧ But b w w' := by
  obtain ⟨a, h1, h2, h3⟩ := h
  have hl : l.length = s.size - a := by rw [← h3, List.length_drop]; simp
  refine (take_ok b s a n w h1 (by omega) hs).mono ?_
  rintro e w' ⟨rfl, g1, g2⟩
  refine ⟨by rw [extract_bs, h3, show a + n - a = n by omega], ⟨a + n, g1, by omega, by rw [← h3, List.drop_drop]⟩, g2⟩
theorem take_l_no (b : Nat) (n : Int) (s : ByteArray) (l : List UInt8) (w : World) (h : Rl b s l w) (hn : n < 0 ∨ (l.length : Int) < n) (hs : s.size ≤ MX) :
    Calls Try.prog 59 #[.pointer (some ⟨b, 0, none⟩), .int .i64 n] w fun e w' => e = .panicked (stopped 2) ∧ Rl b s l w' ∧ But b w w' := by
  obtain ⟨a, h1, h2, h3⟩ := h
  have hl : l.length = s.size - a := by rw [← h3, List.length_drop]; simp
  refine (take_no b s a n w h1 h2 (by omega) hs).mono ?_
  rintro e w' ⟨rfl, g1, g2⟩
  exact ⟨rfl, ⟨a, g1, h2, h3⟩, g2⟩
theorem u8_l (b : Nat) (s : ByteArray) (l : List UInt8) (w : World) (h : Rl b s l w) (hn : 1 ≤ l.length) (hs : s.size ≤ MX) :
    Calls Try.prog 56 #[.pointer (some ⟨b, 0, none⟩)] w fun e w' => e = .returned (.int .i64 (bv (l.take 1) : Nat)) ∧ Rl b s (l.drop 1) w' ∧ But b w w' := by
  obtain ⟨a, h1, h2, h3⟩ := h
  have hl : l.length = s.size - a := by rw [← h3, List.length_drop]; simp
  refine (u8_ok b s a (a + 1) w h1 rfl (by omega) hs).mono ?_
  rintro e w' ⟨rfl, g1, g2⟩
  refine ⟨by rw [extract_bs, bs_list, h3, show a + 1 - a = 1 by omega], ⟨a + 1, g1, by omega, by rw [← h3, List.drop_drop]⟩, g2⟩
theorem u8_l_no (b : Nat) (s : ByteArray) (l : List UInt8) (w : World) (h : Rl b s l w) (hn : l.length < 1) (hs : s.size ≤ MX) :
    Calls Try.prog 56 #[.pointer (some ⟨b, 0, none⟩)] w fun e w' => e = .panicked (stopped 2) ∧ Rl b s l w' ∧ But b w w' := by
  obtain ⟨a, h1, h2, h3⟩ := h
  have hl : l.length = s.size - a := by rw [← h3, List.length_drop]; simp
  refine (u8_no b s a w h1 h2 (by omega) hs).mono ?_
  rintro e w' ⟨rfl, g1, g2⟩
  exact ⟨rfl, ⟨a, g1, h2, h3⟩, g2⟩
theorem u16_l (b : Nat) (s : ByteArray) (l : List UInt8) (w : World) (h : Rl b s l w) (hn : 2 ≤ l.length) (hs : s.size ≤ MX) :
    Calls Try.prog 57 #[.pointer (some ⟨b, 0, none⟩)] w fun e w' => e = .returned (.int .i64 (bv (l.take 2) : Nat)) ∧ Rl b s (l.drop 2) w' ∧ But b w w' := by
  obtain ⟨a, h1, h2, h3⟩ := h
  have hl : l.length = s.size - a := by rw [← h3, List.length_drop]; simp
  refine (u16_ok b s a (a + 2) w h1 rfl (by omega) hs).mono ?_
  rintro e w' ⟨rfl, g1, g2⟩
  refine ⟨by rw [extract_bs, bs_list, h3, show a + 2 - a = 2 by omega], ⟨a + 2, g1, by omega, by rw [← h3, List.drop_drop]⟩, g2⟩
theorem u16_l_no (b : Nat) (s : ByteArray) (l : List UInt8) (w : World) (h : Rl b s l w) (hn : l.length < 2) (hs : s.size ≤ MX) :
    Calls Try.prog 57 #[.pointer (some ⟨b, 0, none⟩)] w fun e w' => e = .panicked (stopped 2) ∧ Rl b s l w' ∧ But b w w' := by
  obtain ⟨a, h1, h2, h3⟩ := h
  have hl : l.length = s.size - a := by rw [← h3, List.length_drop]; simp
  refine (u16_no b s a w h1 h2 (by omega) hs).mono ?_
  rintro e w' ⟨rfl, g1, g2⟩
  exact ⟨rfl, ⟨a, g1, h2, h3⟩, g2⟩
theorem rest_l (b : Nat) (s : ByteArray) (l : List UInt8) (w : World) (h : Rl b s l w) (hs : s.size ≤ MX) :
    Calls Try.prog 60 #[.pointer (some ⟨b, 0, none⟩)] w fun e w' => e = .returned (.string (bs l)) ∧ Rl b s [] w' ∧ But b w w' := by
  obtain ⟨a, h1, h2, h3⟩ := h
  have hl : l.length = s.size - a := by rw [← h3, List.length_drop]; simp
  refine (rest_any b s a w h1 h2 hs).mono ?_
  rintro e w' ⟨rfl, g1, g2⟩
  refine ⟨by rw [extract_bs, h3, List.take_of_length_le (by omega)], ⟨s.size, g1, by omega, by rw [List.drop_eq_nil_iff]; simp⟩, g2⟩
end Go.Proofs.Ythdkbocokefdhaa
