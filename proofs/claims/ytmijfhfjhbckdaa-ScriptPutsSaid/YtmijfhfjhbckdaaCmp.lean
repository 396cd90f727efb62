import Derived.Test.YtmijfhfjhbckdaaSame
/- entries: two rows of the same entries are the same. -/
namespace Go.Proofs.Ytmijfhfjhbckdaa
set_option maxRecDepth 100000
open Go.RowKit
/-- a row lies there -/
def Lies (w : World) (v : Value) (l : List EntP) (E : TypeId) : Prop :=
  (v = .slice none 0 0 ∧ l = []) ∨ ∃ g cap cur, v = .slice (some ⟨g, 0, none⟩) l.length cap ∧ w.heap[g]? = some (.cells cur E (0, 0)) ∧ cur.toList.take (l.length * 15) = flatE l
theorem Lies.below {w w' : World} {v : Value} {l : List EntP} {E : TypeId} (h : Lies w v l E) (hb : Below w.heap.size w w') : Lies w' v l E := by
  rcases h with h | ⟨g, cap, cur, h1, h2, h3⟩
  · exact .inl h
  · exact .inr ⟨g, cap, cur, h1, (hb.block _ (heap_lt h2)).trans h2, h3⟩
theorem RSt.lies {E B : Nat} {w0 w : World} {v : Value} {l : List EntP} (h : RSt E B w0 v l w) : Lies w v l E := by
  obtain ⟨hl, ⟨rfl, h0⟩ | ⟨g, cap, cur, rfl, hb, hg, h1, h2, h3, h4⟩⟩ := h.row
  · have : l = [] := List.eq_nil_of_length_eq_zero h0
    exact .inl ⟨rfl, this⟩
  · refine .inr ⟨g, cap, cur, rfl, hg, ?_⟩
    rw [← h4]
theorem flatE_at : ∀ (l : List EntP) (j i : Nat) (hj : j < l.length), i < 15 → (flatE l)[j * 15 + i]? = (entC l[j])[i]?
  | [], j, i, hj, hi => by simp at hj
  | x :: l, 0, i, hj, hi => by
    have e : flatE (x :: l) = entC x ++ flatE l := by rw [← flatE_one x, ← flatE_app]; rfl
    rw [e, List.getElem?_append_left (by rw [entC_len]; omega)]; simp
  | x :: l, j + 1, i, hj, hi => by
    have e : flatE (x :: l) = entC x ++ flatE l := by rw [← flatE_one x, ← flatE_app]; rfl
    rw [e, List.getElem?_append_right (by rw [entC_len]; omega), entC_len, show (j + 1) * 15 + i - 15 = j * 15 + i by omega, flatE_at l j i (by simpa using hj) hi]
    simp
theorem cur_at {cur : Array Value} {l : List EntP} (h : cur.toList.take (l.length * 15) = flatE l) (j i : Nat) (hj : j < l.length) (hi : i < 15) : cur[j * 15 + i]? = (entC l[j])[i]? := by
  rw [← flatE_at l j i hj hi, ← h, List.getElem?_take]
  have : j * 15 + i < l.length * 15 := by
    have : (j + 1) * 15 ≤ l.length * 15 := Nat.mul_le_mul_right 15 hj
    omega
  rw [if_pos this]
  simp
theorem entC_form (e : EntP) : ∃ x0 x1 x2 x3 x4 x5 x6 x7 x8 x9 x10 x11 x12 x13 x14, entC e = [.int .i64 x0, .string x1, .int .i64 x2, .string x3, .float .f64 x4, .int .i64 x5, .bool x6, .bool x7, .int .u32 x8, .bool x9, .int .i64 x10, .int .i64 x11, .int .i64 x12, .int .i64 x13, .int .i64 x14] := by
  rcases e with m | ⟨k, bd⟩
  · exact ⟨_, _, _, _, _, _, _, _, _, _, _, _, _, _, _, rfl⟩
  · cases bd <;> exact ⟨_, _, _, _, _, _, _, _, _, _, _, _, _, _, _, rfl⟩
theorem cellE {V : World} {g : Nat} {cur : Array Value} {E : TypeId} {l : List EntP} (hg : V.heap[g]? = some (.cells cur E (0, 0))) (hc : cur.toList.take (l.length * 15) = flatE l) (j i : Nat) (hj : j < l.length) (hi : i < 15) (v : Value) (hv : (entC l[j])[i]? = some v) : V.cell? ⟨g, j * 15 + i, none⟩ = some v := by
  rw [Lib.cell_of_heap hg, cur_at hc j i hj hi]; exact hv
structure EF (g1 g2 : Nat) (cur1 cur2 : Array Value) (w0 V : World) : Prop where
  h1 : V.heap[g1]? = some (.cells cur1 66 (0, 0))
  h2 : V.heap[g2]? = some (.cells cur2 51 (0, 0))
  bl : Below w0.heap.size w0 V
theorem EF.below {g1 g2 : Nat} {cur1 cur2 : Array Value} {w0 V W : World} (h : EF g1 g2 cur1 cur2 w0 V) (hb : Below V.heap.size V W) : EF g1 g2 cur1 cur2 w0 W :=
  ⟨(hb.block _ (heap_lt h.h1)).trans h.h1, (hb.block _ (heap_lt h.h2)).trans h.h2, h.bl.trans (hb.mono h.bl.size)⟩
set_option maxHeartbeats 4000000 in
theorem cmp_any (v1 v2 : Value) (l : List EntP) (w : World) (h1 : Lies w v1 l 66) (h2 : Lies w v2 l 51) (hl : l.length ≤ 1000000) : Calls Try.prog 9 #[v1, v2] w fun e w' => e = .returned (.bool true) ∧ Below w.heap.size w w' := by
  rcases h1 with ⟨rfl, rfl⟩ | ⟨g1, cap1, cur1, rfl, hg1, hc1⟩
  · rcases h2 with ⟨rfl, _⟩ | ⟨g2, cap2, cur2, rfl, hg2, hc2⟩
    · go_enter Try.func9, Try.ntmps9
      go_wp2_with (fail)
      go_loopw [5] (fun n wr => n = .int .i64 0 ∧ Hid (Below w.heap.size w wr)) (fun _ _ => 0)
      case atStart => exact ⟨rfl, Below.refl _ _⟩
      case round =>
        obtain ⟨rfl, hb⟩ := hrel
        go_wp2_with (fail)
        go_ret
        exact ⟨rfl, hb.out⟩
    · go_enter Try.func9, Try.ntmps9
      go_wp2_with (fail)
      go_loopw [5] (fun n wr => n = .int .i64 0 ∧ Hid (Below w.heap.size w wr)) (fun _ _ => 0)
      case atStart => exact ⟨rfl, Below.refl _ _⟩
      case round =>
        obtain ⟨rfl, hb⟩ := hrel
        go_wp2_with (fail)
        go_ret
        exact ⟨rfl, hb.out⟩
  · rcases h2 with ⟨rfl, rfl⟩ | ⟨g2, cap2, cur2, rfl, hg2, hc2⟩
    · go_enter Try.func9, Try.ntmps9
      go_wp2_with (fail)
      go_loopw [5] (fun n wr => n = .int .i64 0 ∧ Hid (Below w.heap.size w wr)) (fun _ _ => 0)
      case atStart => exact ⟨rfl, Below.refl _ _⟩
      case round =>
        obtain ⟨rfl, hb⟩ := hrel
        go_wp2_with (fail)
        go_ret
        exact ⟨rfl, hb.out⟩
    · obtain ⟨n, hn⟩ : ∃ n, n = l.length := ⟨_, rfl⟩
      rw [← hn]
      have HN := Lib.hid hn
      have G1 := Lib.hid hg1
      have G2 := Lib.hid hg2
      have C1 := Lib.hid hc1
      have C2 := Lib.hid hc2
      have hn9 : n ≤ 1000000 := by omega
      clear hg1 hg2 hc1 hc2 hl hn
      go_enter Try.func9, Try.ntmps9
      go_wp2_with (fail)
      go_loopw [5] (fun i wr => ∃ j : Nat, j ≤ n ∧ i = .int .i64 j ∧ Hid (Below w.heap.size w wr)) (fun i _ => n - (intOf i).toNat)
      case atStart => exact ⟨0, by omega, rfl, Below.refl _ _⟩
      case round =>
        obtain ⟨j, hj, rfl, hb⟩ := hrel
        by_cases hlt : j < n
        · have hlt' : (j : Int) < (n : Int) := by omega
          go_upto_region 6 with (fail)
          obtain ⟨x0, x1, x2, x3, x4, x5, x6, x7, x8, x9, x10, x11, x12, x13, x14, hx⟩ := entC_form (l[j]'(by rw [← HN.out]; exact hlt))
          have HX := Lib.hid hx
          have HJ : Hid (j < l.length) := by show j < _; rw [← HN.out]; exact hlt
          have SM := Lib.hid (same_any x0 x1 x2 x3 x4 x5 x6 x7 x8 x9 x10 x11 x12 x13)
          have EF0 : Hid (EF g1 g2 cur1 cur2 w wr) := ⟨(hb.out.block _ (heap_lt G1.out)).trans G1.out, (hb.out.block _ (heap_lt G2.out)).trans G2.out, hb.out⟩
          clear hx
          refine wp_region_noPanic ?_
          refine wp_region_held_drew (S := EF g1 g2 cur1 cur2 w) (by kernel_rfl) ⟨EF0.out.h1, EF0.out.h2, EF0.out.bl.drew⟩ (fun hHeld => ?_)
          refine wpAnyH_take (i := 0) (oi := { dst := some 17, op := Op.move (Operand.tmp 0), type := 36, pos := "law.go:30", after := #[], guard := none }) (v := ?_) rfl (by kernel_rfl) (by kernel_rfl) (by kernel_rfl) (fun _ _ _ h => h) (Or.inl ⟨by rfl, ?_⟩) (by assumption) ?_
          rotate_left 1
          · intro w hSw
            go_simp
            first | done | with_reducible rfl
          try simp only [Act.put, List.setIfInBounds_toArray, List.set_cons_zero, List.set_cons_succ]
          refine wpAnyH_take (i := 1) (oi := { dst := some 18, op := Op.move (Operand.tmp 5), type := 3, pos := "law.go:30", after := #[], guard := none }) (v := ?_) rfl (by kernel_rfl) (by kernel_rfl) (by kernel_rfl) (fun _ _ _ h => h) (Or.inl ⟨by rfl, ?_⟩) (by assumption) ?_
          rotate_left 1
          · intro w hSw
            go_simp
            first | done | with_reducible rfl
          try simp only [Act.put, List.setIfInBounds_toArray, List.set_cons_zero, List.set_cons_succ]
          refine wpAnyH_take (i := 2) (oi := { dst := some 19, op := Op.indexAddr 36 (Operand.tmp 17) (Operand.tmp 18), type := 0, pos := "law.go:30", after := #[{ on := 0, ground := Ground.data }, { on := 1, ground := Ground.data }], guard := none }) (v := ?_) rfl (by kernel_rfl) (by kernel_rfl) (by kernel_rfl) (fun _ _ _ h => h) (Or.inl ⟨by rfl, ?_⟩) (by assumption) ?_
          rotate_left 1
          · intro w hSw
            go_simp
            first | done | with_reducible rfl
          try simp only [Act.put, List.setIfInBounds_toArray, List.set_cons_zero, List.set_cons_succ]
          refine wpAnyH_take (i := 3) (oi := { dst := some 20, op := Op.fieldAddr 66 (Operand.tmp 19) 0, type := 0, pos := "law.go:30", after := #[{ on := 2, ground := Ground.data }], guard := none }) (v := ?_) rfl (by kernel_rfl) (by kernel_rfl) (by kernel_rfl) (fun _ _ _ h => h) (Or.inl ⟨by rfl, ?_⟩) (by assumption) ?_
          rotate_left 1
          · intro w hSw
            go_simp
            first | done | with_reducible rfl
          try simp only [Act.put, List.setIfInBounds_toArray, List.set_cons_zero, List.set_cons_succ]
          refine wpAnyH_take (i := 4) (oi := { dst := some 21, op := Op.load 47 (Operand.tmp 20), type := 47, pos := "law.go:30", after := #[{ on := 3, ground := Ground.data }], guard := none }) (v := ?_) rfl (by kernel_rfl) (by kernel_rfl) (by kernel_rfl) (fun _ _ _ h => h) (Or.inl ⟨by rfl, ?_⟩) (by assumption) ?_
          rotate_left 1
          · intro w hSw
            have q0' := cellE hSw.h1 C1.out j 0 HJ.out (by omega) (.int .i64 x0) (by rw [HX.out]; rfl)
            rw [Nat.add_zero] at q0'
            have q0 := cellE hSw.h1 C1.out j 0 HJ.out (by omega) (.int .i64 x0) (by rw [HX.out]; rfl)
            have q1 := cellE hSw.h1 C1.out j 1 HJ.out (by omega) (.string x1) (by rw [HX.out]; rfl)
            have q2 := cellE hSw.h1 C1.out j 2 HJ.out (by omega) (.int .i64 x2) (by rw [HX.out]; rfl)
            have q3 := cellE hSw.h1 C1.out j 3 HJ.out (by omega) (.string x3) (by rw [HX.out]; rfl)
            have q4 := cellE hSw.h1 C1.out j 4 HJ.out (by omega) (.float .f64 x4) (by rw [HX.out]; rfl)
            have q5 := cellE hSw.h1 C1.out j 5 HJ.out (by omega) (.int .i64 x5) (by rw [HX.out]; rfl)
            have q6 := cellE hSw.h1 C1.out j 6 HJ.out (by omega) (.bool x6) (by rw [HX.out]; rfl)
            have q7 := cellE hSw.h1 C1.out j 7 HJ.out (by omega) (.bool x7) (by rw [HX.out]; rfl)
            have q8 := cellE hSw.h1 C1.out j 8 HJ.out (by omega) (.int .u32 x8) (by rw [HX.out]; rfl)
            have q9 := cellE hSw.h1 C1.out j 9 HJ.out (by omega) (.bool x9) (by rw [HX.out]; rfl)
            have q10 := cellE hSw.h1 C1.out j 10 HJ.out (by omega) (.int .i64 x10) (by rw [HX.out]; rfl)
            have q11 := cellE hSw.h1 C1.out j 11 HJ.out (by omega) (.int .i64 x11) (by rw [HX.out]; rfl)
            have q12 := cellE hSw.h1 C1.out j 12 HJ.out (by omega) (.int .i64 x12) (by rw [HX.out]; rfl)
            have q13 := cellE hSw.h1 C1.out j 13 HJ.out (by omega) (.int .i64 x13) (by rw [HX.out]; rfl)
            go_simp
            first | done | with_reducible rfl
          try simp only [Act.put, List.setIfInBounds_toArray, List.set_cons_zero, List.set_cons_succ]
          refine wpAnyH_take (i := 5) (oi := { dst := some 22, op := Op.move (Operand.tmp 1), type := 38, pos := "law.go:30", after := #[], guard := none }) (v := ?_) rfl (by kernel_rfl) (by kernel_rfl) (by kernel_rfl) (fun _ _ _ h => h) (Or.inl ⟨by rfl, ?_⟩) (by assumption) ?_
          rotate_left 1
          · intro w hSw
            go_simp
            first | done | with_reducible rfl
          try simp only [Act.put, List.setIfInBounds_toArray, List.set_cons_zero, List.set_cons_succ]
          refine wpAnyH_take (i := 6) (oi := { dst := some 23, op := Op.move (Operand.tmp 5), type := 3, pos := "law.go:30", after := #[], guard := none }) (v := ?_) rfl (by kernel_rfl) (by kernel_rfl) (by kernel_rfl) (fun _ _ _ h => h) (Or.inl ⟨by rfl, ?_⟩) (by assumption) ?_
          rotate_left 1
          · intro w hSw
            go_simp
            first | done | with_reducible rfl
          try simp only [Act.put, List.setIfInBounds_toArray, List.set_cons_zero, List.set_cons_succ]
          refine wpAnyH_take (i := 7) (oi := { dst := some 24, op := Op.indexAddr 38 (Operand.tmp 22) (Operand.tmp 23), type := 0, pos := "law.go:30", after := #[{ on := 5, ground := Ground.data }, { on := 6, ground := Ground.data }], guard := none }) (v := ?_) rfl (by kernel_rfl) (by kernel_rfl) (by kernel_rfl) (fun _ _ _ h => h) (Or.inl ⟨by rfl, ?_⟩) (by assumption) ?_
          rotate_left 1
          · intro w hSw
            go_simp
            first | done | with_reducible rfl
          try simp only [Act.put, List.setIfInBounds_toArray, List.set_cons_zero, List.set_cons_succ]
          refine wpAnyH_take (i := 8) (oi := { dst := some 25, op := Op.fieldAddr 51 (Operand.tmp 24) 0, type := 0, pos := "law.go:30", after := #[{ on := 7, ground := Ground.data }], guard := none }) (v := ?_) rfl (by kernel_rfl) (by kernel_rfl) (by kernel_rfl) (fun _ _ _ h => h) (Or.inl ⟨by rfl, ?_⟩) (by assumption) ?_
          rotate_left 1
          · intro w hSw
            go_simp
            first | done | with_reducible rfl
          try simp only [Act.put, List.setIfInBounds_toArray, List.set_cons_zero, List.set_cons_succ]
          refine wpAnyH_take (i := 9) (oi := { dst := some 26, op := Op.load 47 (Operand.tmp 25), type := 47, pos := "law.go:30", after := #[{ on := 8, ground := Ground.data }], guard := none }) (v := ?_) rfl (by kernel_rfl) (by kernel_rfl) (by kernel_rfl) (fun _ _ _ h => h) (Or.inl ⟨by rfl, ?_⟩) (by assumption) ?_
          rotate_left 1
          · intro w hSw
            have q0' := cellE hSw.h2 C2.out j 0 HJ.out (by omega) (.int .i64 x0) (by rw [HX.out]; rfl)
            rw [Nat.add_zero] at q0'
            have q0 := cellE hSw.h2 C2.out j 0 HJ.out (by omega) (.int .i64 x0) (by rw [HX.out]; rfl)
            have q1 := cellE hSw.h2 C2.out j 1 HJ.out (by omega) (.string x1) (by rw [HX.out]; rfl)
            have q2 := cellE hSw.h2 C2.out j 2 HJ.out (by omega) (.int .i64 x2) (by rw [HX.out]; rfl)
            have q3 := cellE hSw.h2 C2.out j 3 HJ.out (by omega) (.string x3) (by rw [HX.out]; rfl)
            have q4 := cellE hSw.h2 C2.out j 4 HJ.out (by omega) (.float .f64 x4) (by rw [HX.out]; rfl)
            have q5 := cellE hSw.h2 C2.out j 5 HJ.out (by omega) (.int .i64 x5) (by rw [HX.out]; rfl)
            have q6 := cellE hSw.h2 C2.out j 6 HJ.out (by omega) (.bool x6) (by rw [HX.out]; rfl)
            have q7 := cellE hSw.h2 C2.out j 7 HJ.out (by omega) (.bool x7) (by rw [HX.out]; rfl)
            have q8 := cellE hSw.h2 C2.out j 8 HJ.out (by omega) (.int .u32 x8) (by rw [HX.out]; rfl)
            have q9 := cellE hSw.h2 C2.out j 9 HJ.out (by omega) (.bool x9) (by rw [HX.out]; rfl)
            have q10 := cellE hSw.h2 C2.out j 10 HJ.out (by omega) (.int .i64 x10) (by rw [HX.out]; rfl)
            have q11 := cellE hSw.h2 C2.out j 11 HJ.out (by omega) (.int .i64 x11) (by rw [HX.out]; rfl)
            have q12 := cellE hSw.h2 C2.out j 12 HJ.out (by omega) (.int .i64 x12) (by rw [HX.out]; rfl)
            have q13 := cellE hSw.h2 C2.out j 13 HJ.out (by omega) (.int .i64 x13) (by rw [HX.out]; rfl)
            go_simp
            first | done | with_reducible rfl
          try simp only [Act.put, List.setIfInBounds_toArray, List.set_cons_zero, List.set_cons_succ]
          refine wpAnyH_ready (rs := [10]) (by kernel_rfl) (by simp) ?_
          refine AllReadyH.cons (o := { dst := some 27, op := Op.call { callee := Callee.value (Operand.func 29), args := #[Operand.tmp 21, Operand.tmp 26], argTypes := #[47, 47] }, type := 4, pos := "law.go:30", after := #[{ on := 4, ground := Ground.data }, { on := 9, ground := Ground.data }], guard := none }) rfl (fun K hK => ?_) AllReadyH.nil
          go_simp
          (go_at_call 29; (with_reducible refine (SM.out _).mono ?_); rintro e w6 ⟨rfl, hb6⟩)
          go_simp
          refine hK.out _ _ (hHeld.below hb6) (fun hHeld => ?_)
          clear hK K
          try simp only [Act.put, List.setIfInBounds_toArray, List.set_cons_zero, List.set_cons_succ]
          refine wpAnyH_take (i := 11) (oi := { dst := some 28, op := Op.unOp UnOp.not 4 (Operand.tmp 27), type := 4, pos := "law.go:30", after := #[{ on := 10, ground := Ground.data }], guard := none }) (v := ?_) rfl (by kernel_rfl) (by kernel_rfl) (by kernel_rfl) (fun _ _ _ h => h) (Or.inl ⟨by rfl, ?_⟩) (by assumption) ?_
          rotate_left 1
          · intro w hSw
            go_simp
            first | done | with_reducible rfl
          try simp only [Act.put, List.setIfInBounds_toArray, List.set_cons_zero, List.set_cons_succ]
          refine wpAnyH_take (i := 12) (oi := { dst := some 29, op := Op.move (Operand.tmp 28), type := 4, pos := "law.go:30", after := #[{ on := 11, ground := Ground.data }, { on := 10, ground := Ground.chain }], guard := none }) (v := ?_) rfl (by kernel_rfl) (by kernel_rfl) (by kernel_rfl) (fun _ _ _ h => h) (Or.inl ⟨by rfl, ?_⟩) (by assumption) ?_
          rotate_left 1
          · intro w hSw
            go_simp
            first | done | with_reducible rfl
          try simp only [Act.put, List.setIfInBounds_toArray, List.set_cons_zero, List.set_cons_succ]
          refine wpAnyH_take (i := 13) (oi := { dst := some 30, op := Op.move (Operand.tmp 0), type := 36, pos := "law.go:30", after := #[{ on := 12, ground := Ground.guard }], guard := some (12, false) }) (v := ?_) rfl (by kernel_rfl) (by kernel_rfl) (by kernel_rfl) (fun _ _ _ h => h) (Or.inl ⟨by rfl, ?_⟩) (by assumption) ?_
          rotate_left 1
          · intro w hSw
            go_simp
            first | done | with_reducible rfl
          try simp only [Act.put, List.setIfInBounds_toArray, List.set_cons_zero, List.set_cons_succ]
          refine wpAnyH_take (i := 14) (oi := { dst := some 31, op := Op.move (Operand.tmp 5), type := 3, pos := "law.go:30", after := #[{ on := 12, ground := Ground.guard }], guard := some (12, false) }) (v := ?_) rfl (by kernel_rfl) (by kernel_rfl) (by kernel_rfl) (fun _ _ _ h => h) (Or.inl ⟨by rfl, ?_⟩) (by assumption) ?_
          rotate_left 1
          · intro w hSw
            go_simp
            first | done | with_reducible rfl
          try simp only [Act.put, List.setIfInBounds_toArray, List.set_cons_zero, List.set_cons_succ]
          refine wpAnyH_take (i := 15) (oi := { dst := some 32, op := Op.indexAddr 36 (Operand.tmp 30) (Operand.tmp 31), type := 0, pos := "law.go:30", after := #[{ on := 13, ground := Ground.data }, { on := 14, ground := Ground.data }, { on := 12, ground := Ground.guard }], guard := some (12, false) }) (v := ?_) rfl (by kernel_rfl) (by kernel_rfl) (by kernel_rfl) (fun _ _ _ h => h) (Or.inl ⟨by rfl, ?_⟩) (by assumption) ?_
          rotate_left 1
          · intro w hSw
            go_simp
            first | done | with_reducible rfl
          try simp only [Act.put, List.setIfInBounds_toArray, List.set_cons_zero, List.set_cons_succ]
          refine wpAnyH_take (i := 16) (oi := { dst := some 33, op := Op.fieldAddr 66 (Operand.tmp 32) 1, type := 0, pos := "law.go:30", after := #[{ on := 15, ground := Ground.data }, { on := 12, ground := Ground.guard }], guard := some (12, false) }) (v := ?_) rfl (by kernel_rfl) (by kernel_rfl) (by kernel_rfl) (fun _ _ _ h => h) (Or.inl ⟨by rfl, ?_⟩) (by assumption) ?_
          rotate_left 1
          · intro w hSw
            go_simp
            first | done | with_reducible rfl
          try simp only [Act.put, List.setIfInBounds_toArray, List.set_cons_zero, List.set_cons_succ]
          refine wpAnyH_take (i := 17) (oi := { dst := some 34, op := Op.load 30 (Operand.tmp 33), type := 30, pos := "law.go:30", after := #[{ on := 16, ground := Ground.data }, { on := 12, ground := Ground.guard }], guard := some (12, false) }) (v := ?_) rfl (by kernel_rfl) (by kernel_rfl) (by kernel_rfl) (fun _ _ _ h => h) (Or.inl ⟨by rfl, ?_⟩) (by assumption) ?_
          rotate_left 1
          · intro w hSw
            have q0' := cellE hSw.h1 C1.out j 0 HJ.out (by omega) (.int .i64 x0) (by rw [HX.out]; rfl)
            rw [Nat.add_zero] at q0'
            have q14 := cellE hSw.h1 C1.out j 14 HJ.out (by omega) (.int .i64 x14) (by rw [HX.out]; rfl)
            go_simp
            first | done | with_reducible rfl
          try simp only [Act.put, List.setIfInBounds_toArray, List.set_cons_zero, List.set_cons_succ]
          refine wpAnyH_take (i := 18) (oi := { dst := some 35, op := Op.move (Operand.tmp 1), type := 38, pos := "law.go:30", after := #[{ on := 12, ground := Ground.guard }], guard := some (12, false) }) (v := ?_) rfl (by kernel_rfl) (by kernel_rfl) (by kernel_rfl) (fun _ _ _ h => h) (Or.inl ⟨by rfl, ?_⟩) (by assumption) ?_
          rotate_left 1
          · intro w hSw
            go_simp
            first | done | with_reducible rfl
          try simp only [Act.put, List.setIfInBounds_toArray, List.set_cons_zero, List.set_cons_succ]
          refine wpAnyH_take (i := 19) (oi := { dst := some 36, op := Op.move (Operand.tmp 5), type := 3, pos := "law.go:30", after := #[{ on := 12, ground := Ground.guard }], guard := some (12, false) }) (v := ?_) rfl (by kernel_rfl) (by kernel_rfl) (by kernel_rfl) (fun _ _ _ h => h) (Or.inl ⟨by rfl, ?_⟩) (by assumption) ?_
          rotate_left 1
          · intro w hSw
            go_simp
            first | done | with_reducible rfl
          try simp only [Act.put, List.setIfInBounds_toArray, List.set_cons_zero, List.set_cons_succ]
          refine wpAnyH_take (i := 20) (oi := { dst := some 37, op := Op.indexAddr 38 (Operand.tmp 35) (Operand.tmp 36), type := 0, pos := "law.go:30", after := #[{ on := 18, ground := Ground.data }, { on := 19, ground := Ground.data }, { on := 12, ground := Ground.guard }], guard := some (12, false) }) (v := ?_) rfl (by kernel_rfl) (by kernel_rfl) (by kernel_rfl) (fun _ _ _ h => h) (Or.inl ⟨by rfl, ?_⟩) (by assumption) ?_
          rotate_left 1
          · intro w hSw
            go_simp
            first | done | with_reducible rfl
          try simp only [Act.put, List.setIfInBounds_toArray, List.set_cons_zero, List.set_cons_succ]
          refine wpAnyH_take (i := 21) (oi := { dst := some 38, op := Op.fieldAddr 51 (Operand.tmp 37) 1, type := 0, pos := "law.go:30", after := #[{ on := 20, ground := Ground.data }, { on := 12, ground := Ground.guard }], guard := some (12, false) }) (v := ?_) rfl (by kernel_rfl) (by kernel_rfl) (by kernel_rfl) (fun _ _ _ h => h) (Or.inl ⟨by rfl, ?_⟩) (by assumption) ?_
          rotate_left 1
          · intro w hSw
            go_simp
            first | done | with_reducible rfl
          try simp only [Act.put, List.setIfInBounds_toArray, List.set_cons_zero, List.set_cons_succ]
          refine wpAnyH_take (i := 22) (oi := { dst := some 39, op := Op.load 3 (Operand.tmp 38), type := 3, pos := "law.go:30", after := #[{ on := 21, ground := Ground.data }, { on := 12, ground := Ground.guard }], guard := some (12, false) }) (v := ?_) rfl (by kernel_rfl) (by kernel_rfl) (by kernel_rfl) (fun _ _ _ h => h) (Or.inl ⟨by rfl, ?_⟩) (by assumption) ?_
          rotate_left 1
          · intro w hSw
            have q0' := cellE hSw.h2 C2.out j 0 HJ.out (by omega) (.int .i64 x0) (by rw [HX.out]; rfl)
            rw [Nat.add_zero] at q0'
            have q14 := cellE hSw.h2 C2.out j 14 HJ.out (by omega) (.int .i64 x14) (by rw [HX.out]; rfl)
            go_simp
            first | done | with_reducible rfl
          try simp only [Act.put, List.setIfInBounds_toArray, List.set_cons_zero, List.set_cons_succ]
          refine wpAnyH_take (i := 23) (oi := { dst := some 40, op := Op.binOp BinOp.neq 3 (Operand.tmp 34) (Operand.tmp 39) 3, type := 4, pos := "law.go:30", after := #[{ on := 17, ground := Ground.data }, { on := 22, ground := Ground.data }, { on := 12, ground := Ground.guard }], guard := some (12, false) }) (v := ?_) rfl (by kernel_rfl) (by kernel_rfl) (by kernel_rfl) (fun _ _ _ h => h) (Or.inl ⟨by rfl, ?_⟩) (by assumption) ?_
          rotate_left 1
          · intro w hSw
            go_simp
            first | done | with_reducible rfl
          try simp only [Act.put, List.setIfInBounds_toArray, List.set_cons_zero, List.set_cons_succ]
          refine wpAnyH_take (i := 24) (oi := { dst := some 41, op := Op.pick (Operand.tmp 29) (Operand.const (Value.bool true)) (Operand.tmp 40), type := 4, pos := "law.go:30", after := #[{ on := 12, ground := Ground.data }, { on := 23, ground := Ground.data }], guard := none }) (v := ?_) rfl (by kernel_rfl) (by kernel_rfl) (by kernel_rfl) (fun _ _ _ h => h) (Or.inl ⟨by rfl, ?_⟩) (by assumption) ?_
          rotate_left 1
          · intro w hSw
            go_simp
            first | done | with_reducible rfl
          try simp only [Act.put, List.setIfInBounds_toArray, List.set_cons_zero, List.set_cons_succ]
          refine wpAnyH_done (by kernel_rfl) ?_ _
          refine NoPanic.normal ?_
          try simp only [Exit.then]
          have EF6 : Hid (EF g1 g2 cur1 cur2 w w6) := hHeld
          go_wp2_with (fail)
          exact ⟨⟨j + 1, by omega, by go_num, EF6.out.bl⟩, by simp [intOf] <;> omega⟩
        · obtain rfl : j = n := by omega
          go_wp2_with (fail)
          go_ret
          exact ⟨rfl, hb.out⟩
end Go.Proofs.Ytmijfhfjhbckdaa
