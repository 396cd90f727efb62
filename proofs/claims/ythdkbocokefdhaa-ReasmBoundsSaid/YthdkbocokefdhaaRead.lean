import Derived.Test.YthdkbocokefdhaaReaderN
import Derived.Defers
import Derived.Recover
import Derived.Laws.EntriesVeiled
/- wire.Read: a reading, and with what it was stopped. -/
namespace Go.Proofs.Ythdkbocokefdhaa
set_option maxRecDepth 100000
set_option maxRecDepth 100000
open Go.RowKit
set_option maxHeartbeats 1000000 in
theorem catch_idle (p : Addr) (w : World) :
    CallsD Try.prog 77 #[.pointer (some p)] .returning w fun e u' w' => e = .returned (.tuple #[]) ∧ u' = .returning ∧ w' = w := by
  refine callsD_of_wpS Try.func77 rfl fun c₀ cs hu => ?_
  apply wpS_seq
  apply wpS_region
  simp [wpOpsS, go_sem, recoverD, hu, Try.ntmps77, Exit.thenS]
  refine wpS_of_wp ?_
  go_wp2
  cases c₀
  simp_all [bodyPostS, results, Try.results77]
theorem assert_run (v : Value) (w : World) : (Instr.typeAssert (.iface 130 v) 20 130 true).run Try.prog w = .ok (.tuple #[v, .bool true]) w := by
  kernel_rfl
set_option maxHeartbeats 1000000 in
theorem catch_stop (p : Addr) (c : Nat) (c0 : Value) (w : World) (hc : w.cell? p = some c0) (hz : w.frozen? p = false) (hp : p.block < w.heap.size) :
    CallsD Try.prog 77 #[.pointer (some p)] (.panicking (stopped c)) w fun e u' w' => e = .returned (.tuple #[]) ∧ u' = .panicking [{ v := .iface 130 (.agg #[.int .i64 c]), recovered := true }] ∧ w' = (w.alloc (.cells #[.int .i64 c] 130)).setCell p (.int .i64 c) := by
  have hta := fun (v : Value) (w : World) => assert_run v w
  have hz2 : (w.alloc (.cells #[.int .i64 c] 130)).frozen? p = false := by rw [((Below.refl w.heap.size w).alloc (Nat.le_refl _) _).frozen hp]; exact hz
  refine callsD_of_wpS Try.func77 rfl fun c₀ cs hu => ?_
  apply wpS_seq
  apply wpS_region
  simp [wpOpsS, go_sem, recoverD, hu, Try.ntmps77, Exit.thenS, stopped]
  refine wpS_of_wp ?_
  go_wp2
  cases c₀
  simp_all [bodyPostS, results, Try.results77]
theorem make_run (fn : Fn) (first cap : Array Value) (w : World) : (Instr.makeFunc fn first cap).run Try.prog w = .ok (.func fn first cap) w := rfl
theorem cell_one {w : World} {k : Nat} {x : Value} {t : TypeId} (h : w.heap[k]? = some (.cells #[x] t (0, 0))) (v : Value) : (w.setCell ⟨k, 0, none⟩ v).cell? ⟨k, 0, none⟩ = some v := by
  have h2 : (w.setCell ⟨k, 0, none⟩ v).heap[k]? = some (.cells #[v] t (0, 0)) := by simp [World.setCell, Array.getElem?_modify, h]
  rw [Lib.cell_of_heap h2]; rfl
/-- what wire.Read asks of the reading itself -/
def Reads (g : Nat) (cap : Array Value) (s : ByteArray) (w : World) (Q : Nat → World → Prop) : Prop :=
  Calls Try.prog g (#[.pointer (some ⟨w.heap.size + 1, 0, none⟩)] ++ cap) ((w.alloc (.cells #[.int .i64 0] 28)).alloc (.cells #[.string s, .int .i64 0] 132)) fun e w' =>
    w'.heap[w.heap.size]? = some (.cells #[.int .i64 0] 28 (0, 0)) ∧ ∃ c : Nat, (c = 0 ∧ e = .returned (.tuple #[]) ∨ e = .panicked (stopped c)) ∧ Q c w'
set_option maxHeartbeats 2000000 in
theorem read_any (g : Nat) (cap : Array Value) (s : ByteArray) (w : World) (Q : Nat → World → Prop) (hg : ∀ (args : Array Value) (W : World), (callFunc g args).run Try.prog W = .ok (.enter g args) W) (h : Reads g cap s w Q) :
    Calls Try.prog 53 #[.string s, .func (.func g) #[] cap] w fun e w' => ∃ c : Nat, ∃ w0, e = .returned (.int .i64 c) ∧ Q c w0 ∧ But w.heap.size w0 w' := by
  have hmf := fun (fn : Fn) (first cap : Array Value) (w : World) => make_run fn first cap w
  have HH := Lib.hid h
  clear h
  go_enter_defers Try.func53, Try.ntmps53
  go_wp2_with (fail)
  refine HH.out.mono ?_
  rintro e w1 ⟨h1, c, hc, hq⟩
  have hcell : w1.cell? ⟨w.heap.size, 0, none⟩ = some (.int .i64 0) := by rw [Lib.cell_of_heap h1]; rfl
  have hfr : w1.frozen? ⟨w.heap.size, 0, none⟩ = false := Lib.frozen_of_heap h1 0
  have hlt : w.heap.size < w1.heap.size := by
    rcases Nat.lt_or_ge w.heap.size w1.heap.size with h' | h'
    · exact h'
    · simp [Array.getElem?_eq_none h'] at h1
  rcases hc with ⟨rfl, rfl⟩ | rfl
  · go_wp2_with (fail)
    refine leaves_cons (f := 77) (args := #[.pointer (some ⟨w.heap.size, 0, none⟩)]) (by simp) (by simp [go_sem]) ?_
    refine (catch_idle ⟨w.heap.size, 0, none⟩ _).mono ?_
    rintro e u' w'' ⟨rfl, rfl, rfl⟩
    have hcv := cell_one h1 (.int .i64 0)
    simp only [Leaves, settle, results, Try.results53]
    simp [go_sem, hcv]
    exact ⟨0, rfl, w1, hq, (But.refl _ _).set 0 _⟩
  · refine leaves_cons (f := 77) (args := #[.pointer (some ⟨w.heap.size, 0, none⟩)]) (by simp) (by simp [go_sem]) ?_
    refine (catch_stop ⟨w.heap.size, 0, none⟩ c _ _ hcell hfr hlt).mono ?_
    rintro e u' w'' ⟨rfl, rfl, rfl⟩
    have h2 : (w1.alloc (.cells #[.int .i64 c] 130)).heap[w.heap.size]? = some (.cells #[.int .i64 0] 28 (0, 0)) := by rw [Below.heap_alloc _ _ _ hlt]; exact h1
    have hcv := cell_one h2 (.int .i64 c)
    simp [Leaves, settle, results, Try.results53, go_sem, hcv]
    exact ⟨c, rfl, w1, hq, ((But.refl _ _).alloc _).set 0 _⟩
end Go.Proofs.Ythdkbocokefdhaa
