
import Derived.Test.YthdkbocokefdhaaRead
/- The reader by what is left. -/
namespace Go.Proofs.Ythdkbocokefdhaa
set_option maxRecDepth 100000
set_option maxRecDepth 100000
open Go.RowKit
/-- bytes as a string -/
def bs (l : List UInt8) : ByteArray := ⟨l.toArray⟩
theorem bs_size (l : List UInt8) : (bs l).size = l.length := by unfold bs; simp [ByteArray.size]
theorem bs_list (l : List UInt8) : (bs l).data.toList = l := rfl
theorem bs_of (s : ByteArray) : bs s.data.toList = s := rfl
theorem bs_inj {a b : List UInt8} (h : bs a = bs b) : a = b := by have := congrArg (fun s => s.data.toList) h; exact this
theorem bs_append (a b : List UInt8) : bs a ++ bs b = bs (a ++ b) := by
  apply ByteArray.ext; unfold bs; simp
theorem bs_extract (l : List UInt8) (a b : Nat) : (bs l).extract a b = bs ((l.drop a).take (b - a)) := by
  apply ByteArray.ext; unfold bs; simp [List.extract_eq_take_drop]
theorem extract_bs (s : ByteArray) (a b : Nat) : s.extract a b = bs ((s.data.toList.drop a).take (b - a)) := by
  rw [← bs_extract, bs_of]
/-- a reader in block b, of s, of which l is left -/
def Rl (b : Nat) (s : ByteArray) (l : List UInt8) (w : World) : Prop := ∃ a, Rd b s a w ∧ a ≤ s.size ∧ s.data.toList.drop a = l
theorem Rl.len {b : Nat} {s : ByteArray} {l : List UInt8} {w : World} (h : Rl b s l w) : l.length ≤ s.size := by
  obtain ⟨a, _, h2, h3⟩ := h
  rw [← h3, List.length_drop]; simp
theorem Rl.place {b : Nat} {s : ByteArray} {l : List UInt8} {w : World} (h : Rl b s l w) : Rd b s (s.size - l.length) w := by
  obtain ⟨a, h1, h2, h3⟩ := h
  have : l.length = s.size - a := by rw [← h3, List.length_drop]; simp
  rw [this, show s.size - (s.size - a) = a by omega]; exact h1
theorem Rl.same {b : Nat} {s : ByteArray} {l : List UInt8} {w w' : World} (h : Rl b s l w) (hh : w'.heap[b]? = w.heap[b]?) : Rl b s l w' := by
  obtain ⟨a, h1, h2, h3⟩ := h
  exact ⟨a, by unfold Rd at h1 ⊢; rw [hh]; exact h1, h2, h3⟩
theorem Rl.lt {b : Nat} {s : ByteArray} {l : List UInt8} {w : World} (h : Rl b s l w) : b < w.heap.size := by
  obtain ⟨a, h1, _⟩ := h; exact h1.lt
theorem Rl.start {b : Nat} {s : ByteArray} {w : World} (h : Rd b s 0 w) : Rl b s s.data.toList w := ⟨0, h, by omega, rfl⟩
theorem Rl.drewN {b : Nat} {s : ByteArray} {l : List UInt8} {w : World} (h : Rl b s l w) (n : Nat) : Rl b s l (w.drewN n) := h
abbrev MX : Nat := 9223372036854775807
theorem left_l (b : Nat) (s : ByteArray) (l : List UInt8) (w : World) (h : Rl b s l w) (hs : s.size ≤ MX) :
    Calls Try.prog 79 #[.pointer (some ⟨b, 0, none⟩)] w fun e w' => e = .returned (.int .i64 (l.length : Int)) ∧ ∃ n, w' = w.drewN n := by
  obtain ⟨a, h1, h2, h3⟩ := h
  have : l.length = s.size - a := by rw [← h3, List.length_drop]; simp
  rw [this]; exact left_any b s a w h1 h2 hs
theorem take_l (b n : Nat) (s : ByteArray) (l : List UInt8) (w : World) (h : Rl b s l w) (hn : n ≤ l.length) (hs : s.size ≤ MX) :
    Calls Try.prog 59 #[.pointer (some ⟨b, 0, none⟩), .int .i64 n] w fun e w' => e = .returned (.string (bs (l.take n))) ∧ Rl b s (l.drop n) w' ∧ But b w w' := by
  obtain ⟨a, h1, h2, h3⟩ := h
  have hl : l.length = s.size - a := by rw [← h3, List.length_drop]; simp
  refine (take_ok b s a n w h1 (by omega) hs).mono ?_
  rintro e w' ⟨rfl, g1, g2⟩
  refine ⟨by rw [extract_bs, h3, show a + n - a = n by omega], ⟨a + n, g1, by omega, by rw [← h3, List.drop_drop]⟩, g2⟩
theorem take_l_no (b : Nat) (n : Int) (s : ByteArray) (l : List UInt8) (w : World) (h : Rl b s l w) (hn : n < 0 ∨ (l.length : Int) < n) (hs : s.size ≤ MX) :
    Calls Try.prog 59 #[.pointer (some ⟨b, 0, none⟩), .int .i64 n] w fun e w' => e = .panicked (stopped 2) ∧ Rl b s l w' ∧ But b w w' := by
  obtain ⟨a, h1, h2, h3⟩ := h
  have hl : l.length = s.size - a := by rw [← h3, List.length_drop]; simp
  refine (take_no b s a n w h1 h2 (by omega) hs).mono ?_
  rintro e w' ⟨rfl, g1, g2⟩
  exact ⟨rfl, ⟨a, g1, h2, h3⟩, g2⟩
theorem u8_l (b : Nat) (s : ByteArray) (l : List UInt8) (w : World) (h : Rl b s l w) (hn : 1 ≤ l.length) (hs : s.size ≤ MX) :
    Calls Try.prog 56 #[.pointer (some ⟨b, 0, none⟩)] w fun e w' => e = .returned (.int .i64 (bv (l.take 1) : Nat)) ∧ Rl b s (l.drop 1) w' ∧ But b w w' := by
  obtain ⟨a, h1, h2, h3⟩ := h
  have hl : l.length = s.size - a := by rw [← h3, List.length_drop]; simp
  refine (u8_ok b s a (a + 1) w h1 rfl (by omega) hs).mono ?_
  rintro e w' ⟨rfl, g1, g2⟩
  refine ⟨by rw [extract_bs, bs_list, h3, show a + 1 - a = 1 by omega], ⟨a + 1, g1, by omega, by rw [← h3, List.drop_drop]⟩, g2⟩
theorem u8_l_no (b : Nat) (s : ByteArray) (l : List UInt8) (w : World) (h : Rl b s l w) (hn : l.length < 1) (hs : s.size ≤ MX) :
    Calls Try.prog 56 #[.pointer (some ⟨b, 0, none⟩)] w fun e w' => e = .panicked (stopped 2) ∧ Rl b s l w' ∧ But b w w' := by
  obtain ⟨a, h1, h2, h3⟩ := h
  have hl : l.length = s.size - a := by rw [← h3, List.length_drop]; simp
  refine (u8_no b s a w h1 h2 (by omega) hs).mono ?_
  rintro e w' ⟨rfl, g1, g2⟩
  exact ⟨rfl, ⟨a, g1, h2, h3⟩, g2⟩
theorem u16_l (b : Nat) (s : ByteArray) (l : List UInt8) (w : World) (h : Rl b s l w) (hn : 2 ≤ l.length) (hs : s.size ≤ MX) :
    Calls Try.prog 57 #[.pointer (some ⟨b, 0, none⟩)] w fun e w' => e = .returned (.int .i64 (bv (l.take 2) : Nat)) ∧ Rl b s (l.drop 2) w' ∧ But b w w' := by
  obtain ⟨a, h1, h2, h3⟩ := h
  have hl : l.length = s.size - a := by rw [← h3, List.length_drop]; simp
  refine (u16_ok b s a (a + 2) w h1 rfl (by omega) hs).mono ?_
  rintro e w' ⟨rfl, g1, g2⟩
  refine ⟨by rw [extract_bs, bs_list, h3, show a + 2 - a = 2 by omega], ⟨a + 2, g1, by omega, by rw [← h3, List.drop_drop]⟩, g2⟩
theorem u16_l_no (b : Nat) (s : ByteArray) (l : List UInt8) (w : World) (h : Rl b s l w) (hn : l.length < 2) (hs : s.size ≤ MX) :
    Calls Try.prog 57 #[.pointer (some ⟨b, 0, none⟩)] w fun e w' => e = .panicked (stopped 2) ∧ Rl b s l w' ∧ But b w w' := by
  obtain ⟨a, h1, h2, h3⟩ := h
  have hl : l.length = s.size - a := by rw [← h3, List.length_drop]; simp
  refine (u16_no b s a w h1 h2 (by omega) hs).mono ?_
  rintro e w' ⟨rfl, g1, g2⟩
  exact ⟨rfl, ⟨a, g1, h2, h3⟩, g2⟩
theorem rest_l (b : Nat) (s : ByteArray) (l : List UInt8) (w : World) (h : Rl b s l w) (hs : s.size ≤ MX) :
    Calls Try.prog 60 #[.pointer (some ⟨b, 0, none⟩)] w fun e w' => e = .returned (.string (bs l)) ∧ Rl b s [] w' ∧ But b w w' := by
  obtain ⟨a, h1, h2, h3⟩ := h
  have hl : l.length = s.size - a := by rw [← h3, List.length_drop]; simp
  refine (rest_any b s a w h1 h2 hs).mono ?_
  rintro e w' ⟨rfl, g1, g2⟩
  refine ⟨by rw [extract_bs, h3, List.take_of_length_le (by omega)], ⟨s.size, g1, by omega, by rw [List.drop_eq_nil_iff]; simp⟩, g2⟩
end Go.Proofs.Ythdkbocokefdhaa
