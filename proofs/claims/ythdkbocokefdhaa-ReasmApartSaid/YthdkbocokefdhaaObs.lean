import Derived.Test.YthdkbocokefdhaaTab
/- A new table. -/
namespace Go.Proofs.Ythdkbocokefdhaa
set_option maxRecDepth 100000
open Go.RowKit
def okS (a b c : Int) : Bool := decide ((1 ≤ a ∧ a ≤ 64) ∧ (1 ≤ b ∧ b ≤ 1048576) ∧ (1 ≤ c ∧ c ≤ 64))
def NewPost (F : Nat → Prop) (a b c : Int) (w : World) (e : Ending) (w' : World) : Prop :=
  Below w.heap.size w w' ∧ ((okS a b c = false ∧ e = .returned (.tuple #[.pointer none, .int .i64 1])) ∨
    (okS a b c = true ∧ ∃ Tb M, e = .returned (.tuple #[.pointer (some ⟨Tb, 0, none⟩), .int .i64 0]) ∧ ∀ loc row, Tab F Tb M ⟨a.toNat, b.toNat, c.toNat⟩ loc row [] w'))
theorem tab_new (F : Nat → Prop) (wr : World) (hF : ∀ k, F k → k < wr.heap.size) (a b c : Int) (h : 0 ≤ a ∧ 0 ≤ b ∧ 0 ≤ c) (loc : Ky → Nat) (row : Ky → Value) :
    Tab F (wr.heap.size + 1) wr.heap.size ⟨a.toNat, b.toNat, c.toNat⟩ loc row [] ((wr.alloc (.map #[] 0)).alloc (.cells #[.int .i64 a, .int .i64 b, .int .i64 c, .map (some wr.heap.size), .int .i64 0] 65)) := by
  have hs : (wr.alloc (.map #[] 0)).heap.size = wr.heap.size + 1 := World.size_alloc _ _
  refine ⟨?_, ?_, fun h => by have := hF _ h; omega, fun h => by have := hF _ h; omega, ⟨fun b hb => ?_, fun e he => (by cases he), fun e he => (by cases he), fun e he => (by cases he), fun e he => (by cases he), fun e he => (by cases he), fun e he => (by cases he)⟩⟩
  · rw [← hs, alloc_new]
    show some (Obj.cells #[.int .i64 a, .int .i64 b, .int .i64 c, .map (some wr.heap.size), .int .i64 0] 65 (0, 0)) = some (Obj.cells #[.int .i64 (a.toNat : Nat), .int .i64 (b.toNat : Nat), .int .i64 (c.toNat : Nat), .map (some wr.heap.size), .int .i64 (btsL [] : Nat)] 65 (0, 0))
    rw [Int.toNat_of_nonneg h.1, Int.toNat_of_nonneg h.2.1, Int.toNat_of_nonneg h.2.2]
    rfl
  · exact (PM.made wr).same (Below.heap_alloc _ _ _ (by rw [hs]; omega))
  · rw [World.size_alloc, hs]
    rcases hb with hb | rfl | rfl
    · have := hF _ hb; omega
    · omega
    · omega
set_option maxHeartbeats 4000000 in
theorem new_any (F : Nat → Prop) (a b c : Int) (w : World) (hF : ∀ k, F k → k < w.heap.size) : Calls Try.prog 11 #[.agg #[.int .i64 a, .int .i64 b, .int .i64 c]] w (NewPost F a b c w) := by
  obtain ⟨B, hB⟩ : ∃ B, B = w.heap.size := ⟨_, rfl⟩
  obtain ⟨W, hW⟩ : ∃ W, W = w.alloc (.cells #[.int .i64 a, .int .i64 b, .int .i64 c] 23) := ⟨_, rfl⟩
  have HW : Hid (W.heap[B]? = some (.cells #[.int .i64 a, .int .i64 b, .int .i64 c] 23 (0, 0)) ∧ Below w.heap.size w W) := Lib.hid (by
    rw [hW, hB]; exact ⟨alloc_new _ _, (Below.refl _ _).alloc (Nat.le_refl _) _⟩)
  have k0 := cellAt (i := 0) (v := .int .i64 a) HW.out.1 rfl
  have k1 := cellAt (i := 1) (v := .int .i64 b) HW.out.1 rfl
  have k2 := cellAt (i := 2) (v := .int .i64 c) HW.out.1 rfl
  have HF := Lib.hid hF
  clear hF
  go_enter Try.func11, Try.ntmps11
  go_upto_region 1 with (fail)
  rw [← hW, ← hB]
  clear hW hB
  go_wp2_with (fail)
  go_loopw [16] (fun i wr => ∃ k : Nat, k ≤ 3 ∧ i = .int .i64 (k : Int) ∧ Hid ((1 ≤ k → 1 ≤ a ∧ a ≤ 64) ∧ (2 ≤ k → 1 ≤ b ∧ b ≤ 1048576) ∧ (3 ≤ k → 1 ≤ c ∧ c ≤ 64) ∧ Below W.heap.size W wr)) (fun i _ => 3 - (intOf i).toNat)
  case atStart => exact ⟨0, by omega, rfl, Lib.hid ⟨fun h => absurd h (by omega), fun h => absurd h (by omega), fun h => absurd h (by omega), Below.refl _ _⟩⟩
  case round =>
    obtain ⟨k, hk, rfl, hst⟩ := hrel
    have hbw : Hid (Below w.heap.size w wr) := Lib.hid (HW.out.2.trans (hst.out.2.2.2.mono HW.out.2.size))
    by_cases hk3 : k = 3
    · subst hk3
      have HB : Hid (wr.heap[B]? = some (.cells #[.int .i64 a, .int .i64 b, .int .i64 c] 23 (0, 0))) := Lib.hid ((hst.out.2.2.2.block _ (heap_lt HW.out.1)).trans HW.out.1)
      have j0 := cellAt (i := 0) (v := .int .i64 a) HB.out rfl
      have j1 := cellAt (i := 1) (v := .int .i64 b) HB.out rfl
      have j2 := cellAt (i := 2) (v := .int .i64 c) HB.out rfl
      clear k0 k1 k2
      have HOK : Hid (okS a b c = true) := Lib.hid (decide_eq_true ⟨hst.out.1 (by omega), hst.out.2.1 (by omega), hst.out.2.2.1 (by omega)⟩)
      go_upto_region 7 with (fail)
      have hmm := @run_makeMap Try.prog
      have HT := Lib.hid (tab_new F wr (fun k hk => Nat.lt_of_lt_of_le (HF.out k hk) hbw.out.size) a b c (by have := (of_decide_eq_true HOK.out : (1 ≤ a ∧ a ≤ 64) ∧ (1 ≤ b ∧ b ≤ 1048576) ∧ (1 ≤ c ∧ c ≤ 64)); omega))
      have HB2 := Lib.hid ((hbw.out.alloc hbw.out.size (.map #[] 0)).alloc (by rw [World.size_alloc]; have := hbw.out.size; omega) (.cells #[.int .i64 a, .int .i64 b, .int .i64 c, .map (some wr.heap.size), .int .i64 0] 65))
      go_wp2_with (fail)
      go_ret2
      exact ⟨HB2.out, .inr ⟨HOK.out, wr.heap.size + 1, wr.heap.size, rfl, HT.out⟩⟩
    · have hk4 : k < 3 := by omega
      clear k0 k1 k2
      have hcases : k = 0 ∨ k = 1 ∨ k = 2 := by omega
      rcases hcases with rfl | rfl | rfl
      · have ix : (Instr.index 62 (.agg #[.int .i64 a, .int .i64 64, .int .i64 b, .int .i64 1048576, .int .i64 c, .int .i64 64]) (.int .i64 ((0 : Nat) : Int))).run Try.prog wr = .ok (.agg #[.int .i64 a, .int .i64 64]) wr := by kernel_rfl
        have ix2 : (Instr.index 62 (.agg #[.int .i64 a, .int .i64 64, .int .i64 b, .int .i64 1048576, .int .i64 c, .int .i64 64]) (.int .i64 0)).run Try.prog wr = .ok (.agg #[.int .i64 a, .int .i64 64]) wr := by kernel_rfl
        have HBW := Lib.hid (hbw.out.alloc hbw.out.size (.cells #[.int .i64 a, .int .i64 64] 61))
        by_cases e1 : a < 1
        · have HOK : Hid (okS a b c = false) := Lib.hid (decide_eq_false (by omega))
          go_wp2_with (fail)
          go_ret2
          exact ⟨HBW.out, .inl ⟨HOK.out, rfl⟩⟩
        · have e1b : decide (a < 1) = false := decide_eq_false e1
          by_cases e2 : a > 64
          · have HOK : Hid (okS a b c = false) := Lib.hid (decide_eq_false (by omega))
            have e2b : decide (a > 64) = true := decide_eq_true e2
            go_wp2_with (fail)
            go_ret2
            exact ⟨HBW.out, .inl ⟨HOK.out, rfl⟩⟩
          · have HNX : Hid (1 ≤ a ∧ a ≤ 64) := Lib.hid (by omega)
            have e2b : decide (a > 64) = false := decide_eq_false e2
            have HR : Hid ((1 ≤ 0 + 1 → 1 ≤ a ∧ a ≤ 64) ∧ (2 ≤ 0 + 1 → 1 ≤ b ∧ b ≤ 1048576) ∧ (3 ≤ 0 + 1 → 1 ≤ c ∧ c ≤ 64)) := Lib.hid (by have h1 := hst.out.1; have h2 := hst.out.2.1; have h3 := hst.out.2.2.1; have h4 := HNX.out; omega)
            go_wp2_with (fail)
            exact ⟨⟨0 + 1, by omega, rfl, Lib.hid ⟨HR.out.1, HR.out.2.1, HR.out.2.2, hst.out.2.2.2.alloc hst.out.2.2.2.size _⟩⟩, by simp [intOf]⟩
      · have ix : (Instr.index 62 (.agg #[.int .i64 a, .int .i64 64, .int .i64 b, .int .i64 1048576, .int .i64 c, .int .i64 64]) (.int .i64 ((1 : Nat) : Int))).run Try.prog wr = .ok (.agg #[.int .i64 b, .int .i64 1048576]) wr := by kernel_rfl
        have ix2 : (Instr.index 62 (.agg #[.int .i64 a, .int .i64 64, .int .i64 b, .int .i64 1048576, .int .i64 c, .int .i64 64]) (.int .i64 1)).run Try.prog wr = .ok (.agg #[.int .i64 b, .int .i64 1048576]) wr := by kernel_rfl
        have HBW := Lib.hid (hbw.out.alloc hbw.out.size (.cells #[.int .i64 b, .int .i64 1048576] 61))
        by_cases e1 : b < 1
        · have HOK : Hid (okS a b c = false) := Lib.hid (decide_eq_false (by omega))
          go_wp2_with (fail)
          go_ret2
          exact ⟨HBW.out, .inl ⟨HOK.out, rfl⟩⟩
        · have e1b : decide (b < 1) = false := decide_eq_false e1
          by_cases e2 : b > 1048576
          · have HOK : Hid (okS a b c = false) := Lib.hid (decide_eq_false (by omega))
            have e2b : decide (b > 1048576) = true := decide_eq_true e2
            go_wp2_with (fail)
            go_ret2
            exact ⟨HBW.out, .inl ⟨HOK.out, rfl⟩⟩
          · have HNX : Hid (1 ≤ b ∧ b ≤ 1048576) := Lib.hid (by omega)
            have e2b : decide (b > 1048576) = false := decide_eq_false e2
            have HR : Hid ((1 ≤ 1 + 1 → 1 ≤ a ∧ a ≤ 64) ∧ (2 ≤ 1 + 1 → 1 ≤ b ∧ b ≤ 1048576) ∧ (3 ≤ 1 + 1 → 1 ≤ c ∧ c ≤ 64)) := Lib.hid (by have h1 := hst.out.1; have h2 := hst.out.2.1; have h3 := hst.out.2.2.1; have h4 := HNX.out; omega)
            go_wp2_with (fail)
            exact ⟨⟨1 + 1, by omega, rfl, Lib.hid ⟨HR.out.1, HR.out.2.1, HR.out.2.2, hst.out.2.2.2.alloc hst.out.2.2.2.size _⟩⟩, by simp [intOf]⟩
      · have ix : (Instr.index 62 (.agg #[.int .i64 a, .int .i64 64, .int .i64 b, .int .i64 1048576, .int .i64 c, .int .i64 64]) (.int .i64 ((2 : Nat) : Int))).run Try.prog wr = .ok (.agg #[.int .i64 c, .int .i64 64]) wr := by kernel_rfl
        have ix2 : (Instr.index 62 (.agg #[.int .i64 a, .int .i64 64, .int .i64 b, .int .i64 1048576, .int .i64 c, .int .i64 64]) (.int .i64 2)).run Try.prog wr = .ok (.agg #[.int .i64 c, .int .i64 64]) wr := by kernel_rfl
        have HBW := Lib.hid (hbw.out.alloc hbw.out.size (.cells #[.int .i64 c, .int .i64 64] 61))
        by_cases e1 : c < 1
        · have HOK : Hid (okS a b c = false) := Lib.hid (decide_eq_false (by omega))
          go_wp2_with (fail)
          go_ret2
          exact ⟨HBW.out, .inl ⟨HOK.out, rfl⟩⟩
        · have e1b : decide (c < 1) = false := decide_eq_false e1
          by_cases e2 : c > 64
          · have HOK : Hid (okS a b c = false) := Lib.hid (decide_eq_false (by omega))
            have e2b : decide (c > 64) = true := decide_eq_true e2
            go_wp2_with (fail)
            go_ret2
            exact ⟨HBW.out, .inl ⟨HOK.out, rfl⟩⟩
          · have HNX : Hid (1 ≤ c ∧ c ≤ 64) := Lib.hid (by omega)
            have e2b : decide (c > 64) = false := decide_eq_false e2
            have HR : Hid ((1 ≤ 2 + 1 → 1 ≤ a ∧ a ≤ 64) ∧ (2 ≤ 2 + 1 → 1 ≤ b ∧ b ≤ 1048576) ∧ (3 ≤ 2 + 1 → 1 ≤ c ∧ c ≤ 64)) := Lib.hid (by have h1 := hst.out.1; have h2 := hst.out.2.1; have h3 := hst.out.2.2.1; have h4 := HNX.out; omega)
            go_wp2_with (fail)
            exact ⟨⟨2 + 1, by omega, rfl, Lib.hid ⟨HR.out.1, HR.out.2.1, HR.out.2.2, hst.out.2.2.2.alloc hst.out.2.2.2.size _⟩⟩, by simp [intOf]⟩
end Go.Proofs.Ythdkbocokefdhaa
/- Len, Bytes, Open, few, roomy. -/
namespace Go.Proofs.Ythdkbocokefdhaa
set_option maxRecDepth 100000
open Go.RowKit
set_option maxHeartbeats 4000000 in
theorem len_any {F : Nat → Prop} {Tb M : Nat} {st : Sto} {loc : Ky → Nat} {row : Ky → Value} {L : List En} (w : World) (h : Tab F Tb M st loc row L w) : Calls Try.prog 17 #[.pointer (some ⟨Tb, 0, none⟩)] w fun e w' => e = .returned (.int .i64 L.length) ∧ w' = w := by
  have k1 := cellAt (i := 3) (v := .map (some M)) h.tb rfl
  have hl := h.pm.len 3
  rw [List.length_map] at hl
  clear h
  go_enter Try.func17, Try.ntmps17
  go_wp2_with (fail)
  go_ret
  exact ⟨rfl, rfl⟩
set_option maxHeartbeats 4000000 in
theorem bytes_any {F : Nat → Prop} {Tb M : Nat} {st : Sto} {loc : Ky → Nat} {row : Ky → Value} {L : List En} (w : World) (h : Tab F Tb M st loc row L w) : Calls Try.prog 18 #[.pointer (some ⟨Tb, 0, none⟩)] w fun e w' => e = .returned (.int .i64 (btsL L : Nat)) ∧ w' = w := by
  have k1 := cellAt (i := 4) (v := .int .i64 (btsL L : Nat)) h.tb rfl
  clear h
  go_enter Try.func18, Try.ntmps18
  go_wp2_with (fail)
  go_ret
  exact ⟨rfl, rfl⟩
theorem roomy_any (w : World) : Calls Try.prog 24 #[] w fun e w' => e = .returned (.agg #[.int .i64 64, .int .i64 1048576, .int .i64 64]) ∧ Below w.heap.size w w' := by
  go_enter Try.func24, Try.ntmps24
  go_wp2_with (fail)
  have hn := alloc_new w (.cells #[.int .i64 64, .int .i64 1048576, .int .i64 64] 23)
  have c0 : (w.alloc (.cells #[.int .i64 64, .int .i64 1048576, .int .i64 64] 23)).cell? ⟨w.heap.size, 0, none⟩ = some (.int .i64 64) := cellAt hn rfl
  have c1 : (w.alloc (.cells #[.int .i64 64, .int .i64 1048576, .int .i64 64] 23)).cell? ⟨w.heap.size, 1, none⟩ = some (.int .i64 1048576) := cellAt hn rfl
  have c2 : (w.alloc (.cells #[.int .i64 64, .int .i64 1048576, .int .i64 64] 23)).cell? ⟨w.heap.size, 2, none⟩ = some (.int .i64 64) := cellAt hn rfl
  refine bodyPost_ret (v := .agg #[.int .i64 64, .int .i64 1048576, .int .i64 64]) ?_ rfl ⟨rfl, (Below.refl _ _).alloc (Nat.le_refl _) _⟩
  simp [results, Try.results24, go_sem, c0, c1, c2]
def opn (L : List En) : Nat := opnL L
/-- while Open goes round: these have come out, and so many of them are not done -/
theorem open_step (L : List En) (acc : List Ky) (e : En) (he : e ∈ L) (hn : (keysL L).Nodup) (ha : e.k ∉ acc) :
    (L.filter fun x => decide (x.k ∈ e.k :: acc) && !x.done).length = (L.filter fun x => decide (x.k ∈ acc) && !x.done).length + (if e.done then 0 else 1) := by
  induction L with
  | nil => cases he
  | cons a t ih =>
    unfold keysL at hn
    rw [List.map_cons, List.nodup_cons] at hn
    rcases List.mem_cons.1 he with rfl | ht
    · have h1 : ∀ x ∈ t, (decide (x.k ∈ e.k :: acc) && !x.done) = (decide (x.k ∈ acc) && !x.done) := by
        intro x hx
        have : x.k ≠ e.k := fun h => hn.1 (List.mem_map.2 ⟨x, hx, h⟩)
        simp [this]
      rw [List.filter_cons, List.filter_cons, List.filter_congr h1]
      cases hd : e.done
      · simp [ha]
      · simp
    · have h1 := ih ht hn.2
      have h2 : a.k ≠ e.k := fun h => hn.1 (List.mem_map.2 ⟨e, ht, h.symm⟩)
      rw [List.filter_cons, List.filter_cons]
      have h3 : (decide (a.k ∈ e.k :: acc) && !a.done) = (decide (a.k ∈ acc) && !a.done) := by simp [h2]
      rw [h3]
      split
      · rw [List.length_cons, List.length_cons, h1]; omega
      · exact h1
end Go.Proofs.Ythdkbocokefdhaa
