import Derived.Test.YthdkbocokefdhaaStr
/- few. -/
namespace Go.Proofs.Ythdkbocokefdhaa
set_option maxRecDepth 100000
open Go.RowKit
def StrIn (w : World) (a : Option Addr) (l : List ByteArray) : Prop := ∀ j (hj : j < l.length), ∃ x, a = some x ∧ w.cell? (x.add j) = some (.string l[j])
theorem cell_blk {w : World} {a : Addr} {v : Value} (h : w.cell? a = some v) : a.block < w.heap.size := by
  unfold World.cell? at h
  cases hb : w.heap[a.block]? with
  | none => simp [hb] at h
  | some o => exact heap_lt hb
theorem add_blk (a : Addr) (n : Nat) : (a.add n).block = a.block := by unfold Addr.add; split <;> rfl
theorem StrIn.below {w w' : World} {a : Option Addr} {l : List ByteArray} (h : StrIn w a l) (hb : Below w.heap.size w w') : StrIn w' a l := fun j hj => by
  obtain ⟨x, hx, h0⟩ := h j hj
  exact ⟨x, hx, (hb.cell (cell_blk h0)).trans h0⟩
def FewPost (n : Nat) (w : World) (e : Ending) (w' : World) : Prop := ∃ b, e = .returned (.bool b) ∧ (b = true → n ≤ 1000) ∧ w' = w
set_option maxHeartbeats 4000000 in
theorem few_any (a : Option Addr) (l : List ByteArray) (cap : Nat) (w : World) (hin : StrIn w a l) (hsz : ∀ x ∈ l, x.size ≤ 9223372036854775807) (hlen : l.length ≤ 9223372036854775807) : Calls Try.prog 10 #[.slice a l.length cap] w (FewPost l.length w) := by
  have HIN := Lib.hid hin
  have HSZ := Lib.hid hsz
  obtain ⟨n, hn⟩ : ∃ n, n = l.length := ⟨_, rfl⟩
  have HN := Lib.hid hn
  rw [← hn] at hlen ⊢
  clear hin hsz hn
  go_enter Try.func10, Try.ntmps10
  go_wp2_with (fail)
  go_loopw [3, 4] (fun s i wr => ∃ (k : Nat) (z : Int), k ≤ n ∧ k ≤ 82 ∧ i = .int .i64 (k : Int) ∧ s = .int .i64 z ∧ -9223372036854775808 ≤ z ∧ z ≤ 9223372036854775807 ∧ wr = w) (fun _ i _ => n - (intOf i).toNat)
  case atStart => exact ⟨0, 0, by omega, by omega, rfl, rfl, by omega, by omega, rfl⟩
  case round =>
    obtain ⟨k, z, hk, hk8, rfl, rfl, hz1, hz2, rfl⟩ := hrel
    by_cases hlt : k < n
    · obtain ⟨A, hA, hc0⟩ := HIN.out k (by rw [← HN.out]; exact hlt)
      subst hA
      obtain ⟨x, hx⟩ : ∃ x, x = l[k]'(by rw [← HN.out]; exact hlt) := ⟨_, rfl⟩
      rw [← hx] at hc0
      have hxs := HSZ.out x (by rw [hx]; exact List.getElem_mem _)
      clear hx
      obtain ⟨z2, hz2e⟩ : ∃ z2, z2 = IntKind.i64.wrap (z + (x.size : Int)) := ⟨_, rfl⟩
      have hzr : -9223372036854775808 ≤ z2 ∧ z2 ≤ 9223372036854775807 := by rw [hz2e, IntKind.wrap_i64]; omega
      have hz2s := hz2e.symm
      clear hz2e
      by_cases e1 : z2 > 200000
      · have d1 : decide (z2 > 200000) = true := decide_eq_true e1
        go_wp2_with (fail)
        go_ret
        exact ⟨false, rfl, (fun h => (by cases h)), rfl⟩
      · have d1 : decide (z2 > 200000) = false := decide_eq_false e1
        by_cases e2 : k > 80
        · have e2i : (k : Int) > 80 := by omega
          have d2 : decide ((k : Int) > 80) = true := decide_eq_true e2i
          go_wp2_with (fail)
          go_ret
          exact ⟨false, rfl, (fun h => (by cases h)), rfl⟩
        · have e2i : ¬ (k : Int) > 80 := by omega
          have d2 : decide ((k : Int) > 80) = false := decide_eq_false e2i
          have hw1 : IntKind.i64.wrap ((k : Int) + 1) = ((k + 1 : Nat) : Int) := by rw [IntWalk.i64_in _ (by omega)]; rfl
          go_wp2_with (fail)
          exact ⟨⟨k + 1, z2, by omega, by omega, by go_num, rfl, hzr.1, hzr.2, by first | rfl | trivial⟩, by simp [intOf] <;> omega⟩
    · obtain rfl : k = n := by omega
      go_wp2_with (fail)
      go_ret
      exact ⟨true, rfl, fun _ => by have := HN.out; omega, rfl⟩
end Go.Proofs.Ythdkbocokefdhaa
