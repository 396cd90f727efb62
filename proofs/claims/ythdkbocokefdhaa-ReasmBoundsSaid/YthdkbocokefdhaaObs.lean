import Derived.Test.YthdkbocokefdhaaTab
/- Len, Bytes, Open, few, roomy. -/
namespace Go.Proofs.Ythdkbocokefdhaa
set_option maxRecDepth 100000
open Go.RowKit
set_option maxHeartbeats 4000000 in
theorem len_any {F : Nat → Prop} {Tb M : Nat} {st : Sto} {loc : Ky → Nat} {row : Ky → Value} {L : List En} (w : World) (h : Tab F Tb M st loc row L w) : Calls Try.prog 17 #[.pointer (some ⟨Tb, 0, none⟩)] w fun e w' => e = .returned (.int .i64 L.length) ∧ w' = w := by
  have k1 := cellAt (i := 3) (v := .map (some M)) h.tb rfl
  have hl := h.pm.len 3
  rw [List.length_map] at hl
  clear h
  go_enter Try.func17, Try.ntmps17
  go_wp2_with (fail)
  go_ret
  exact ⟨rfl, rfl⟩
set_option maxHeartbeats 4000000 in
theorem bytes_any {F : Nat → Prop} {Tb M : Nat} {st : Sto} {loc : Ky → Nat} {row : Ky → Value} {L : List En} (w : World) (h : Tab F Tb M st loc row L w) : Calls Try.prog 18 #[.pointer (some ⟨Tb, 0, none⟩)] w fun e w' => e = .returned (.int .i64 (btsL L : Nat)) ∧ w' = w := by
  have k1 := cellAt (i := 4) (v := .int .i64 (btsL L : Nat)) h.tb rfl
  clear h
  go_enter Try.func18, Try.ntmps18
  go_wp2_with (fail)
  go_ret
  exact ⟨rfl, rfl⟩
theorem roomy_any (w : World) : Calls Try.prog 24 #[] w fun e w' => e = .returned (.agg #[.int .i64 64, .int .i64 1048576, .int .i64 64]) ∧ Below w.heap.size w w' := by
  go_enter Try.func24, Try.ntmps24
  go_wp2_with (fail)
  have hn := alloc_new w (.cells #[.int .i64 64, .int .i64 1048576, .int .i64 64] 23)
  have c0 : (w.alloc (.cells #[.int .i64 64, .int .i64 1048576, .int .i64 64] 23)).cell? ⟨w.heap.size, 0, none⟩ = some (.int .i64 64) := cellAt hn rfl
  have c1 : (w.alloc (.cells #[.int .i64 64, .int .i64 1048576, .int .i64 64] 23)).cell? ⟨w.heap.size, 1, none⟩ = some (.int .i64 1048576) := cellAt hn rfl
  have c2 : (w.alloc (.cells #[.int .i64 64, .int .i64 1048576, .int .i64 64] 23)).cell? ⟨w.heap.size, 2, none⟩ = some (.int .i64 64) := cellAt hn rfl
  refine bodyPost_ret (v := .agg #[.int .i64 64, .int .i64 1048576, .int .i64 64]) ?_ rfl ⟨rfl, (Below.refl _ _).alloc (Nat.le_refl _) _⟩
  simp [results, Try.results24, go_sem, c0, c1, c2]
def opn (L : List En) : Nat := opnL L
/-- while Open goes round: these have come out, and so many of them are not done -/
theorem open_step (L : List En) (acc : List Ky) (e : En) (he : e ∈ L) (hn : (keysL L).Nodup) (ha : e.k ∉ acc) :
    (L.filter fun x => decide (x.k ∈ e.k :: acc) && !x.done).length = (L.filter fun x => decide (x.k ∈ acc) && !x.done).length + (if e.done then 0 else 1) := by
  induction L with
  | nil => cases he
  | cons a t ih =>
    unfold keysL at hn
    rw [List.map_cons, List.nodup_cons] at hn
    rcases List.mem_cons.1 he with rfl | ht
    · have h1 : ∀ x ∈ t, (decide (x.k ∈ e.k :: acc) && !x.done) = (decide (x.k ∈ acc) && !x.done) := by
        intro x hx
        have : x.k ≠ e.k := fun h => hn.1 (List.mem_map.2 ⟨x, hx, h⟩)
        simp [this]
      rw [List.filter_cons, List.filter_cons, List.filter_congr h1]
      cases hd : e.done
      · simp [ha]
      · simp
    · have h1 := ih ht hn.2
      have h2 : a.k ≠ e.k := fun h => hn.1 (List.mem_map.2 ⟨e, ht, h.symm⟩)
      rw [List.filter_cons, List.filter_cons]
      have h3 : (decide (a.k ∈ e.k :: acc) && !a.done) = (decide (a.k ∈ acc) && !a.done) := by simp [h2]
      rw [h3]
      split
      · rw [List.length_cons, List.length_cons, h1]; omega
      · exact h1
end Go.Proofs.Ythdkbocokefdhaa
