import Derived.Test.YthdkbocokefdhaaReadL
import Derived.Lib.Builder
import Derived.Lib.Strings
import Derived.Lib.Slices
import Derived.Lib.AppendStr
import Derived.Lib.UnsafeStr
import Derived.StillTailTactics
/- The writer of package wire: a strings.Builder that lies in a struct of the call's own. -/
namespace Go.Proofs.Ythdkbocokefdhaa
set_option maxRecDepth 100000
set_option maxRecDepth 100000
open Go.RowKit
/-- the writer in block b: what 'addr' holds, and the bytes -/
def Wr (B b : Nat) (p : Value) (l : List UInt8) (w : World) : Prop := Lib.BuilderAt 151 5 B b p (Lib.byteCells l) w
/-- fresh, or written -/
def IsWr (B b : Nat) (l : List UInt8) (w : World) : Prop := Wr B b (.pointer none) l w ∨ Wr B b (.pointer (some ⟨b, 0, none⟩)) l w
theorem info74 : ∃ j, Try.prog.info? 115 = some j ∧ j.size = 2 := by
  have h : (Try.prog.info? 115).map (·.size) = some 2 := by kernel_rfl
  exact Option.map_eq_some_iff.1 h
theorem info5 : ∃ i, Try.prog.info? 5 = some i ∧ i.zero = some (.int .u8 0) ∧ i.size = 1 ∧ i.bytes = 1 := by
  have h : (Try.prog.info? 5).map (fun i => (i.zero, i.size, i.bytes)) = some (some (.int .u8 0), 1, 1) := by kernel_rfl
  exact info_parts h
theorem lies76 : liesAt Try.prog Try.prog.depth 151 (2 / Try.prog.cellsOf 151) 0 115 1 = true := by kernel_rfl
set_option maxHeartbeats 1000000 in
set_option maxRecDepth 100000 in
theorem check_used (b : Nat) (w : World) (h0 : w.cell? ⟨b, 0, none⟩ = some (.pointer (some ⟨b, 0, none⟩))) :
    Calls Try.prog 90 #[.pointer (some ⟨b, 0, none⟩)] w fun e w' => e = .returned (.tuple #[]) ∧ w' = w := by
  obtain ⟨j, hj, _⟩ := info74
  go_enter Try.func90, Try.ntmps90
  go_wp2
  rw [Lib.run_neq_ptr_same w _ Try.underlying113 hj]
  go_wp2
  go_end0
  exact ⟨rfl, rfl⟩
set_option maxHeartbeats 1000000 in
set_option maxRecDepth 100000 in
theorem check_fresh (b : Nat) (w : World) (h0 : w.cell? ⟨b, 0, none⟩ = some (.pointer none)) (hsh : w.shape? b = some (151, 2)) (hfz : w.frozen? ⟨b, 0, none⟩ = false) :
    Calls Try.prog 90 #[.pointer (some ⟨b, 0, none⟩)] w fun e w' => e = .returned (.tuple #[]) ∧ w' = w.setCell ⟨b, 0, none⟩ (.pointer (some ⟨b, 0, none⟩)) := by
  obtain ⟨j, hj, hjs⟩ := info74
  go_enter Try.func90, Try.ntmps90
  go_wp2
  rw [Lib.run_to_unsafe w ⟨b, 0, none⟩ Try.underlying113 Try.underlying162 hj (by rw [hjs]; decide) hsh (Nat.zero_lt_succ 1)]
  simp only [Result.andThen]
  rw [Oper.upon_value]
  go_wp2
  rw [run_callFunc_extern Try.func105 (by kernel_rfl) (by kernel_rfl) (by kernel_rfl) (e := Extern.AbiNoEscape.same) (by kernel_rfl)]
  rw [Lib.run_noEscape]
  simp only [Result.andThen]
  rw [Oper.upon_value]
  go_wp2
  rw [Lib.run_from_unsafe w ⟨b, 0, none⟩ Try.underlying162 Try.underlying113 hj hsh lies76]
  simp only [Result.andThen]
  rw [Oper.upon_value]
  go_wp2
  go_end0
  exact ⟨rfl, rfl⟩
theorem check_any (B b : Nat) (l : List UInt8) (w : World) (h : IsWr B b l w) :
    Calls Try.prog 90 #[.pointer (some ⟨b, 0, none⟩)] w fun e w' => e = .returned (.tuple #[]) ∧ Wr B b (.pointer (some ⟨b, 0, none⟩)) l w' ∧ Below B w w' := by
  rcases h with h | h
  · refine (check_fresh b w h.cell0 h.shape h.frozen0).mono ?_
    rintro e w' ⟨rfl, rfl⟩
    exact ⟨rfl, h.used _, (Below.refl B w).setCell (p := ⟨b, 0, none⟩) h.1 _⟩
  · refine (check_used b w h.cell0).mono ?_
    rintro e w' ⟨rfl, rfl⟩
    exact ⟨rfl, h, Below.refl B _⟩
theorem btr {B : Nat} {w w1 w2 : World} (h1 : Below B w w1) (h2 : Below B w1 w2) : Below B w w2 := h1.trans h2
theorem byteCells_app (l m : List UInt8) : Lib.byteCells (l ++ m) = Lib.byteCells l ++ Lib.byteCells m := by unfold Lib.byteCells; rw [List.map_append]
set_option maxHeartbeats 2000000 in
set_option maxRecDepth 100000 in
theorem wbyte_any (B b : Nat) (l : List UInt8) (c : UInt8) (w : World) (h : IsWr B b l w) (hlen : l.length ≤ 1000000) (hBw : B ≤ w.heap.size) :
    Calls Try.prog 108 #[.pointer (some ⟨b, 0, none⟩), .int .u8 c.toNat] w fun e w' => e = .returned .nilIface ∧ Wr B b (.pointer (some ⟨b, 0, none⟩)) (l ++ [c]) w' ∧ Below B w w' := by
  obtain ⟨i0, hi, hz0, hz1, hz2⟩ := info5
  have hll : (Lib.byteCells l).length = l.length := Lib.byteCells_length l
  have C := check_any B b l w h
  obtain ⟨y, hy⟩ : ∃ y : Nat, y = c.toNat := ⟨_, rfl⟩
  rw [← hy]
  have HY := Lib.hid hy
  clear hy
  go_enter Try.func108, Try.ntmps108
  go_wp2_with (go_at_call 90; refine C.mono ?_)
  rintro e w1 ⟨rfl, h1, hb1⟩
  obtain ⟨hB, v, hbk, hown, hne⟩ := h1
  have c0 : w1.cell? ⟨b, 0, none⟩ = some (.pointer (some ⟨b, 0, none⟩)) := by rw [Lib.cell_of_heap hbk]; rfl
  have c1 : w1.cell? ⟨b, 1, none⟩ = some v := by rw [Lib.cell_of_heap hbk]; rfl
  go_wp2_with (at_builtin; refine wpList_append_own _ rfl (.tmp 11) (.tmp 13) 53 rfl B 5 i0 (.int .u8 0) 1 1 Try.underlying53 hi hz0 hz1 hz2 rfl (by decide) _ _ _ rfl (hown.alloc _) ⟨w1.heap.size, 0, none⟩ 1 1 [.int .u8 y] rfl rfl ?c1 ?c2 ?c3 ?c4 ?c5 ?_)
  case c1 =>
    intro j u hj
    match j, hj with
    | 0, hj => simp at hj; subst hj; simp [Addr.add]
  case c2 => intro u hu; simp at hu; subst hu; rfl
  case c3 => rw [hll]; unfold maxLen; omega
  case c4 => rw [hll]; omega
  case c5 => have := hb1.size; simp; omega
  intro v' w2 hown' hgrow _
  have hlt : b < w1.heap.size := by
    rcases Nat.lt_or_ge b w1.heap.size with h' | h'
    · exact h'
    · simp [Array.getElem?_eq_none h'] at hbk
  have hb2 : w2.heap[b]? = some (.cells #[.pointer (some ⟨b, 0, none⟩), v] 151 (0, 0)) := by
    rw [hgrow.block b (by simp; omega) (fun e => hne e.symm), Lib.alloc_old w1 _ b hlt]
    exact hbk
  have d0 : w2.cell? ⟨b, 0, none⟩ = some (.pointer (some ⟨b, 0, none⟩)) := by rw [Lib.cell_of_heap hb2]; rfl
  have d1 : w2.cell? ⟨b, 1, none⟩ = some v := by rw [Lib.cell_of_heap hb2]; rfl
  have f1 : w2.frozen? ⟨b, 1, none⟩ = false := Lib.frozen_of_heap hb2 1
  obtain ⟨g, cap, rfl⟩ : ∃ g cap, v' = .slice (some ⟨g, 0, none⟩) (l.length + 1) cap := by
    rcases hown'.2 with ⟨_, h0⟩ | ⟨g, cap, cur, hv, _⟩
    · omega
    · exact ⟨g, cap, hv⟩
  go_wp2
  go_ret
  refine ⟨rfl, ?_, ?_⟩
  · refine Lib.BuilderAt.put (T := 151) (e := 5) hB hb2 (bs' := Lib.byteCells (l ++ [c])) ?_ (by decide)
    rw [Lib.byteCells_length, List.length_append, byteCells_app]
    rw [show Lib.byteCells [c] = [.int .u8 (y : Int)] by rw [HY.out]; rfl]
    exact hown'
  · exact ((hb1.alloc (by have := hb1.size; omega) _).grown hgrow (by have := hb1.size; simp; omega) (fun k hk => (hown.lt k hk).1)).setCell (p := ⟨b, 1, none⟩) hB _
set_option maxHeartbeats 1000000 in
set_option maxRecDepth 100000 in
theorem str_some (B b : Nat) (l : List UInt8) (w : World) (h : IsWr B b l w) (h0 : l ≠ []) :
    Calls Try.prog 68 #[.pointer (some ⟨b, 0, none⟩)] w fun e w' => e = .returned (.string ⟨l.toArray⟩) ∧ Below B w w' := by
  obtain ⟨p, hB, v, hbk, hown, hne⟩ : ∃ p, Wr B b p l w := by
    rcases h with h | h
    · exact ⟨_, h⟩
    · exact ⟨_, h⟩
  have hl0 : l.length ≠ 0 := by simpa using h0
  rw [Lib.byteCells_length] at hown
  obtain ⟨g, cap, cur, rfl, hbg, hg, hnc, hcm, hcs, htake⟩ : ∃ g cap cur, v = .slice (some ⟨g, 0, none⟩) l.length cap ∧ B ≤ g ∧ w.heap[g]? = some (.cells cur 5 (0, 0)) ∧ l.length ≤ cap ∧ cap ≤ maxLen ∧ cur.size = cap * 1 ∧ cur.toList.take (l.length * 1) = Lib.byteCells l := by
    rcases hown.2 with ⟨_, hz⟩ | ⟨g, cap, cur, hv, r⟩
    · exact absurd hz hl0
    · exact ⟨g, cap, cur, hv, r⟩
  have c1 : w.drew.cell? ⟨b, 1, none⟩ = some (.slice (some ⟨g, 0, none⟩) l.length cap) := by
    have : w.drew.heap[b]? = some (.cells #[p, .slice (some ⟨g, 0, none⟩) l.length cap] 151 (0, 0)) := hbk
    rw [Lib.cell_of_heap this]; rfl
  have hSD : (Builtin.unsafeSliceData_ #[53] 145 #[.slice (some ⟨g, 0, none⟩) l.length cap]).run Try.prog w.drew = .ok (.pointer (some ⟨g, 0, none⟩)) w.drew :=
    Lib.run_unsafeSliceData_row _ _ _ _ _ _ (by omega)
  have hUS : (Builtin.unsafeString_ #[145, 3] 9 #[.pointer (some ⟨g, 0, none⟩), .int .i64 l.length]).run Try.prog w.drew = .ok (.string ⟨l.toArray⟩) (w.drew.freeze ⟨g, 0, none⟩ l.length) := by
    refine Lib.run_unsafeString_row w.drew 145 3 9 5 Try.underlying145 (by kernel_rfl) g cur.size (by have hg' : w.drew.heap[g]? = some (.cells cur 5 (0, 0)) := hg; simp [World.shape?, hg']) l h0 (by omega) (by unfold maxLen at hcm; omega) ?_
    intro j x hx
    have := hown.cells (g := g) rfl j (.int .u8 x.toNat) (by simp [Lib.byteCells, hx])
    exact this
  have HL := Lib.hid h0
  have HT := Lib.hid htake
  clear h0 htake hown h hcs hcm hnc
  go_enter Try.func68, Try.ntmps68
  go_wp2
  go_region
  all_goals (go_wp2; go_ret; exact ⟨rfl, Lib.below_freeze (Below.drew (Below.refl B w)) (p := ⟨g, 0, none⟩) hbg _⟩)
/-- n's last m bytes, the greatest first -/
def be (n : Nat) : Nat → List UInt8
  | 0 => []
  | m + 1 => UInt8.ofNat (n / 256 ^ m % 256) :: be n m
theorem be_length (n m : Nat) : (be n m).length = m := by
  induction m with
  | zero => rfl
  | succ m ih => show (be n m).length + 1 = m + 1; rw [ih]
theorem shr_byte (n k : Nat) (hn : n < 18446744073709551616) (hk : k ≤ 7) : (IntKind.u8.wrap ((n : Int) / 2 ^ (8 * (k : Int)).toNat)) = ((UInt8.ofNat (n / 256 ^ k % 256)).toNat : Int) := by
  have e : (8 * (k : Int)).toNat = 8 * k := by omega
  have e2 : (256 : Nat) ^ k = 2 ^ (8 * k) := by rw [Nat.pow_mul]
  rw [e, e2]
  have e3 : (n : Int) / 2 ^ (8 * k) = ((n / 2 ^ (8 * k) : Nat) : Int) := by push_cast; rfl
  rw [e3]
  obtain ⟨q, hq⟩ : ∃ q, q = n / 2 ^ (8 * k) := ⟨_, rfl⟩
  rw [UInt8.toNat_ofNat', IntKind.wrap_u8]
  omega
set_option maxHeartbeats 2000000 in
set_option maxRecDepth 100000 in
theorem wrnumber_any (B b n m : Nat) (l : List UInt8) (w : World) (hn : n < 18446744073709551616) (hm : m ≤ 8) (h : IsWr B b l w) (hlen : l.length ≤ 900000) (hBw : B ≤ w.heap.size) :
    Calls Try.prog 106 #[.pointer (some ⟨b, 0, none⟩), .int .u64 n, .int .i64 m] w fun e w' => e = .returned (.tuple #[]) ∧ IsWr B b (l ++ be n m) w' ∧ Below B w w' := by
  have HW := Lib.hid h
  have HB := Lib.hid hBw
  clear h hBw
  go_enter Try.func106, Try.ntmps106
  go_wp2_with (fail)
  go_loopw [6] (fun i wr => ∃ k : Nat, k ≤ m ∧ i = .int .i64 ((k : Int) - 1) ∧ Hid (∃ acc, IsWr B b acc wr ∧ acc ++ be n k = l ++ be n m ∧ acc.length + k = l.length + m) ∧ Hid (Below B w wr)) (fun i _ => (intOf i + 1).toNat)
  case atStart => exact ⟨m, by omega, by go_num, ⟨l, HW.out, rfl, rfl⟩, Below.refl _ _⟩
  case round =>
    obtain ⟨k, hk, rfl, hacc, hb⟩ := hrel
    cases k with
    | zero =>
      have h0 : ¬ (0 : Int) ≤ ((0 : Nat) : Int) - 1 := by omega
      go_wp2
      obtain ⟨acc, hw, he, hl⟩ := hacc.out
      go_end0
      refine ⟨rfl, ?_, hb.out⟩
      rw [show acc ++ be n 0 = acc from List.append_nil _] at he
      rw [← he]; exact hw
    | succ j =>
      have h0 : (0 : Int) ≤ ((j + 1 : Nat) : Int) - 1 := by omega
      obtain ⟨acc, hw, he, hl⟩ := hacc.out
      have e1 : (((j + 1 : Nat) : Int) - 1) = (j : Int) := by omega
      have hj : j ≤ 7 := by omega
      have h8 : IntKind.i64.wrap (8 * (j : Int)) = 8 * (j : Int) := by rw [IntKind.wrap_i64]; omega
      have h9 : (0 : Int) ≤ 8 * (j : Int) := by omega
      have h10 : 8 * (j : Int) < 64 := by omega
      rw [e1]
      rw [e1] at h0
      have hw2 : IsWr B b acc wr.drew := hw
      have hb2 : Below B w wr.drew := hb.out.drew
      have HE := Lib.hid he
      have C := fun c (hc : acc.length ≤ 1000000) (hB : B ≤ wr.drew.heap.size) => Lib.hid (wbyte_any B b acc c wr.drew hw2 hc hB)
      have CC := C (UInt8.ofNat (n / 256 ^ j % 256)) (by omega) (by have := hb2.size; have := HB.out; omega)
      have sh := shr_byte n j hn hj
      rw [← sh] at CC
      have HS := Lib.hid sh
      clear C sh he hacc hw
      go_wp2
      go_still_tail 8, (by kernel_rfl)
      change wpList _ _ _ _ _ wr.drew
      generalize wr.drew = w2 at *
      go_wp2_with (go_at_call 108; refine CC.out.mono ?_; rintro e w3 ⟨rfl, hw3, hb3⟩)
      refine ⟨⟨j, by omega, rfl, ⟨acc ++ [UInt8.ofNat (n / 256 ^ j % 256)], .inr hw3, ?_, ?_⟩, btr hb2 hb3⟩, by simp [intOf] <;> omega⟩
      · rw [List.append_assoc]; exact HE.out
      · rw [List.length_append]; simp; omega
end Go.Proofs.Ythdkbocokefdhaa
