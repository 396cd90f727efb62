import Derived.Test.YthdkbocokefdhaaProg
import Derived.WalkKit
import Derived.WalkSpells
import Derived.WalkLawsBesides
import Derived.Below
import Derived.Outline
import Derived.Deep.DeepFit
import Derived.Deep.QuietTactic
import Derived.BigQuiet
import Derived.Lib.Hide
import Derived.Laws.Externs
import Derived.Lib.Slices
/- The reader of package wire: a text, and how much of it was read. -/
namespace Go.Proofs.Ythdkbocokefdhaa
set_option maxRecDepth 100000
set_option maxRecDepth 100000
open Go.RowKit
/-- all blocks but b are as they were -/
structure But (b : Nat) (w w' : World) : Prop where
  os : w'.os = w.os
  tape : w'.tape = w.tape
  output : w'.output = w.output
  size : w.heap.size ≤ w'.heap.size
  block : ∀ k, k < w.heap.size → k ≠ b → w'.heap[k]? = w.heap[k]?
theorem But.refl (b : Nat) (w : World) : But b w w := ⟨rfl, rfl, rfl, Nat.le_refl _, fun _ _ _ => rfl⟩
theorem But.trans {b : Nat} {w w1 w2 : World} (h : But b w w1) (k : But b w1 w2) : But b w w2 :=
  ⟨k.os.trans h.os, k.tape.trans h.tape, k.output.trans h.output, Nat.le_trans h.size k.size, fun i hi hn => (k.block i (Nat.lt_of_lt_of_le hi h.size) hn).trans (h.block i hi hn)⟩
theorem But.of_below {b : Nat} {w w' : World} (h : Below w.heap.size w w') : But b w w' := ⟨h.os, h.tape, h.output, h.size, fun k hk _ => h.block k hk⟩
theorem But.below {b B : Nat} {w w' : World} (h : But b w w') (h1 : B ≤ b) (h2 : B ≤ w.heap.size) : Below B w w' := ⟨h.os, h.tape, h.output, h.size, fun k hk => h.block k (by omega) (by omega)⟩
theorem But.drew {b : Nat} {w w' : World} (h : But b w w') : But b w w'.drew := ⟨h.os, h.tape, h.output, h.size, h.block⟩
theorem But.drewN {b : Nat} {w w' : World} (h : But b w w') (n : Nat) : But b w (w'.drewN n) := ⟨h.os, h.tape, h.output, h.size, h.block⟩
theorem But.set {b : Nat} {w w' : World} (h : But b w w') (o : Nat) (v : Value) : But b w (w'.setCell ⟨b, o, none⟩ v) :=
  ⟨h.os, h.tape, h.output, by simpa [World.setCell] using h.size, fun k hk hn => by rw [Below.heap_setCell _ _ _ _ (by simpa using hn)]; exact h.block k hk hn⟩
theorem But.alloc {b : Nat} {w w' : World} (h : But b w w') (o : Obj) : But b w (w'.alloc o) :=
  h.trans (But.of_below ((Below.refl _ _).alloc (Nat.le_refl _) _))
/-- a reader in block b: its text, and how much was read -/
def Rd (b : Nat) (s : ByteArray) (at' : Nat) (w : World) : Prop := w.heap[b]? = some (.cells #[.string s, .int .i64 (at' : Int)] 132 (0, 0))
theorem Rd.drew {b : Nat} {s : ByteArray} {a : Nat} {w : World} (h : Rd b s a w) : Rd b s a w.drew := h
theorem Rd.lt {b : Nat} {s : ByteArray} {a : Nat} {w : World} (h : Rd b s a w) : b < w.heap.size := by
  rcases Nat.lt_or_ge b w.heap.size with h' | h'
  · exact h'
  · unfold Rd at h; simp [Array.getElem?_eq_none h'] at h
theorem Rd.cells {b : Nat} {s : ByteArray} {a : Nat} {w : World} (h : Rd b s a w) : w.cell? ⟨b, 0, none⟩ = some (.string s) ∧ w.cell? ⟨b, 1, none⟩ = some (.int .i64 a) ∧ w.frozen? ⟨b, 1, none⟩ = false :=
  ⟨by rw [Lib.cell_of_heap h]; rfl, by rw [Lib.cell_of_heap h]; rfl, Lib.frozen_of_heap h 1⟩
/-- what a reading is stopped with -/
def stopped (c : Nat) : List PanicEntry := [{ v := .iface 130 (.agg #[.int .i64 c]), recovered := false }]
theorem ret_int {k : IntKind} {a b : Int} (h : a = b) : Ending.returned (.int k a) = .returned (.int k b) := by rw [h]
set_option maxHeartbeats 1000000 in
theorem left_any (b : Nat) (s : ByteArray) (a : Nat) (w : World) (h : Rd b s a w) (ha : a ≤ s.size) (hs : s.size ≤ 9223372036854775807) :
    Calls Try.prog 79 #[.pointer (some ⟨b, 0, none⟩)] w fun e w' => e = .returned (.int .i64 ((s.size - a : Nat) : Int)) ∧ ∃ n, w' = w.drewN n := by
  obtain ⟨c0, c1, _⟩ := h.cells
  go_enter Try.func79, Try.ntmps79
  go_wp2_with (fail)
  go_quiet (fail)
  go_wp2_with (fail)
  go_ret
  exact ⟨ret_int (by omega), _, rfl⟩
theorem need_yes (p : Value) (c : Int) (w : World) : Calls Try.prog 55 #[p, .bool true, .int .i64 c] w fun e w' => e = .returned (.tuple #[]) ∧ w' = w := by
  go_enter Try.func55, Try.ntmps55
  go_wp2_with (fail)
  go_end0
  exact ⟨rfl, rfl⟩
theorem need_no (p : Value) (c : Nat) (w : World) : Calls Try.prog 55 #[p, .bool false, .int .i64 c] w fun e w' => e = .panicked (stopped c) ∧ w' = w := by
  go_enter Try.func55, Try.ntmps55
  go_wp2_with (fail)
  exact ⟨rfl, rfl, rfl⟩
theorem Rd.drewN {b : Nat} {s : ByteArray} {a : Nat} {w : World} (h : Rd b s a w) (n : Nat) : Rd b s a (w.drewN n) := h
theorem Rd.set {b : Nat} {s : ByteArray} {a : Nat} {w : World} (h : Rd b s a w) (n : Nat) : Rd b s n (w.setCell ⟨b, 1, none⟩ (.int .i64 n)) := by
  unfold Rd at h ⊢
  simp [World.setCell, Array.getElem?_modify, h]
set_option maxHeartbeats 2000000 in
theorem take_to (b : Nat) (s : ByteArray) (a n t : Nat) (w : World) (h : Rd b s a w) (ht : t = a + n) (ha : t ≤ s.size) (hs : s.size ≤ 9223372036854775807) :
    Calls Try.prog 59 #[.pointer (some ⟨b, 0, none⟩), .int .i64 n] w fun e w' => e = .returned (.string (s.extract a t)) ∧ Rd b s t w' ∧ But b w w' := by
  obtain ⟨c0, c1, f1⟩ := h.cells
  have L := Lib.hid (left_any b s a w h (by omega) hs)
  have H := Lib.hid h
  have h1 : (n : Int) ≥ 0 := by omega
  have h2 : decide (n ≤ s.size - a) = true := decide_eq_true (by omega)
  have h3 : decide ((n : Int) ≥ 0) = true := decide_eq_true (by omega)
  have hbd : a + n ≤ 9223372036854775807 := by omega
  have HT := Lib.hid ht
  clear h ht
  go_enter Try.func59, Try.ntmps59
  go_wp2_with (first | (go_at_call 79; refine L.out.mono ?_; rintro e w1 ⟨rfl, m, rfl⟩) | (go_at_call 55; refine (need_yes _ _ _).mono ?_; rintro e w1 ⟨rfl, rfl⟩))
  have HM := Lib.hid (H.out.drewN m |>.set t)
  have HB := Lib.hid (((But.refl b w).drewN m).set 1 (.int .i64 (t : Int)))
  have e1 : (a : Int) + n = (t : Int) := by have := HT.out; omega
  rw [e1]
  obtain ⟨w2, hw2⟩ : ∃ w2, w2 = (w.drewN m).setCell ⟨b, 1, none⟩ (.int .i64 (t : Int)) := ⟨_, rfl⟩
  rw [← hw2] at HM HB ⊢
  clear hw2 c0 c1 f1
  obtain ⟨c0, c1, f1⟩ := HM.out.cells
  have h4 : IntKind.i64.wrap ((t : Int) - n) = (a : Int) := by rw [← e1, IntWalk.i64_in _ (by omega)]; omega
  have h5 : (t : Int) ≤ s.size := by omega
  have h6 : (a : Int) ≤ t := by omega
  clear e1
  go_quiet (fail)
  go_wp2_with (fail)
  go_ret
  exact ⟨rfl, HM.out, HB.out.drewN _⟩
theorem take_ok (b : Nat) (s : ByteArray) (a n : Nat) (w : World) (h : Rd b s a w) (ha : a + n ≤ s.size) (hs : s.size ≤ 9223372036854775807) :
    Calls Try.prog 59 #[.pointer (some ⟨b, 0, none⟩), .int .i64 n] w fun e w' => e = .returned (.string (s.extract a (a + n))) ∧ Rd b s (a + n) w' ∧ But b w w' := take_to b s a n (a + n) w h rfl ha hs
set_option maxHeartbeats 2000000 in
theorem take_no (b : Nat) (s : ByteArray) (a : Nat) (n : Int) (w : World) (h : Rd b s a w) (ha : a ≤ s.size) (hn : n < 0 ∨ (s.size - a : Nat) < n) (hs : s.size ≤ 9223372036854775807) :
    Calls Try.prog 59 #[.pointer (some ⟨b, 0, none⟩), .int .i64 n] w fun e w' => e = .panicked (stopped 2) ∧ Rd b s a w' ∧ But b w w' := by
  have H := Lib.hid h
  by_cases h1 : n < 0
  · have h3 : decide (n ≥ 0) = false := decide_eq_false (by omega)
    have h4 : ¬ n ≥ 0 := by omega
    clear h
    go_enter Try.func59, Try.ntmps59
    go_wp2_with (first | (go_at_call 55; refine (need_no _ 2 _).mono ?_; rintro e w1 ⟨rfl, rfl⟩))
    exact ⟨rfl, rfl, H.out, But.refl _ _⟩
  · have L := Lib.hid (left_any b s a w h (by omega) hs)
    have h3 : decide (n ≥ 0) = true := decide_eq_true (by omega)
    have h4 : n ≥ 0 := by omega
    have h5 : decide (n ≤ (s.size - a : Nat)) = false := decide_eq_false (by omega)
    clear h
    go_enter Try.func59, Try.ntmps59
    go_wp2_with (first | (go_at_call 79; refine L.out.mono ?_; rintro e w1 ⟨rfl, m, rfl⟩) | (go_at_call 55; refine (need_no _ 2 _).mono ?_; rintro e w1 ⟨rfl, rfl⟩))
    exact ⟨rfl, rfl, H.out.drewN _, (But.refl _ _).drewN _⟩
end Go.Proofs.Ythdkbocokefdhaa
