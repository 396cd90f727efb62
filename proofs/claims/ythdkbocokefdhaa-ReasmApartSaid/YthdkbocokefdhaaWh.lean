import Derived.Test.YthdkbocokefdhaaIdx
/- Whether an entry is whole. -/
namespace Go.Proofs.Ythdkbocokefdhaa
set_option maxRecDepth 100000
open Go.RowKit
theorem lastB_last : ∀ (ps : List Pc) (h : 0 < ps.length), lastB ps = !(ps[ps.length - 1]'(by omega)).h.mf
  | [p], _ => rfl
  | p :: q :: t, _ => by
    rw [lastB, lastB_last (q :: t) (by simp)]
    simp
/-- the cells of a piece in a row -/
theorem row_cells {G n cap k : Nat} {ps : List Pc} {w wr : World} (h : PRow 0 (.slice (some ⟨G, 0, none⟩) n cap) ps w) (hb : Below w.heap.size w wr) (hk : k < ps.length) :
    ∀ j x, (pcells ps[k])[j]? = some x → j < 12 → wr.cell? ⟨G, k * 12 + j, none⟩ = some x := fun j x hx hj => by
  have h1 := World.ownsRow.cells h rfl (k * 12 + j) x (by rw [prow_at ps k j hk hj]; exact hx)
  have h2 : (⟨G, 0, none⟩ : Addr).add (k * 12 + j) = ⟨G, k * 12 + j, none⟩ := by unfold Addr.add; split <;> simp_all
  have h3 : w.cell? ⟨G, k * 12 + j, none⟩ = some x := by rw [← h2]; exact h1
  exact (hb.cell (p := ⟨G, k * 12 + j, none⟩) (World.ownsRow.lt h G rfl).2).trans h3
theorem slice_form {v : Value} {ps : List Pc} {w : World} {B : Nat} (h : PRow B v ps w) : ∃ g cap, v = .slice g ps.length cap ∧ (ps.length = 0 ∨ ∃ k, g = some ⟨k, 0, none⟩) := by
  rcases h.2 with ⟨h1, h2⟩ | ⟨g, cap, cur, h1, _⟩
  · exact ⟨none, 0, by rw [h2]; exact h1, .inl h2⟩
  · exact ⟨_, cap, h1, .inr ⟨g, rfl⟩⟩
set_option maxHeartbeats 8000000 in
theorem whole_any (E : Nat) (dn : Bool) (age : Int) (v : Value) (ps : List Pc) (w : World) (hE : w.heap[E]? = some (.cells #[v, .bool dn, .int .i64 age] 72 (0, 0))) (hrow : PRow 0 v ps w) (hps : ∀ q ∈ ps, Psm q) (hlen : ps.length ≤ 1000000) :
    Calls Try.prog 38 #[.pointer (some ⟨E, 0, none⟩)] w fun e w' => e = .returned (.bool (wholeB ps)) ∧ Below w.heap.size w w' := by
  obtain ⟨r, hr⟩ : ∃ r, r = wholeB ps := ⟨_, rfl⟩
  rw [← hr]
  have HR0 := Lib.hid hr
  clear hr
  obtain ⟨g, cap, rfl, hg⟩ := slice_form hrow
  obtain ⟨n, hn⟩ : ∃ n, n = ps.length := ⟨_, rfl⟩
  rw [← hn] at hE hrow hg
  have HN := Lib.hid hn
  have hnl : n ≤ 1000000 := by omega
  have HROW := Lib.hid hrow
  have HPS := Lib.hid hps
  have HE := Lib.hid hE
  have k0 := cellAt (i := 0) (v := .slice g n cap) hE rfl
  clear hn hrow hps hlen hE
  go_enter Try.func38, Try.ntmps38
  go_wp2_with (fail)
  go_loopw [3, 11] (fun at' i wr => ∃ (k a : Nat), k ≤ n ∧ a ≤ 1000000000 ∧ i = .int .i64 k ∧ at' = .int .i64 a ∧ Hid (contig 0 ps = contig a (ps.drop k) ∧ Below w.heap.size w wr)) (fun _ i _ => n - (intOf i).toNat)
  case atStart => exact ⟨0, 0, by omega, by omega, rfl, rfl, rfl, Below.refl _ _⟩
  case round =>
    obtain ⟨k, a, hk, ha, rfl, rfl, hst⟩ := hrel
    by_cases hlt : k < n
    · obtain ⟨G, rfl⟩ : ∃ k, g = some ⟨k, 0, none⟩ := by
        rcases hg with h | h
        · omega
        · exact h
      have hkl : k < ps.length := by have := HN.out; omega
      have hq : Psm ps[k] := HPS.out _ (List.getElem_mem _)
      have cl := row_cells HROW.out hst.out.2 hkl
      have CE := fun V => end_any hq V
      have HCT : Hid (contig a (ps.drop k) = (decide (ps[k].lo = a) && contig ps[k].hi (ps.drop (k + 1)))) := Lib.hid (by rw [List.drop_eq_getElem_cons hkl]; rfl)
      have hlo := hq.lo
      have hhi := hq.hi.2
      obtain ⟨q, hqe⟩ : ∃ q, q = ps[k] := ⟨_, rfl⟩
      rw [← hqe] at CE HCT cl hlo hhi
      obtain ⟨lo, hloe⟩ : ∃ x, x = q.lo := ⟨_, rfl⟩
      obtain ⟨hi, hhie⟩ : ∃ x, x = q.hi := ⟨_, rfl⟩
      rw [← hloe] at HCT hlo
      rw [← hhie] at HCT hhi CE
      clear hqe hq hloe hhie
      have CE2 := Lib.hid CE
      obtain ⟨⟨b0, b1, b2, b3, b4, b5, b6, b7, b8, b9⟩, sb⟩ := q
      unfold pcells at cl
      have hpv : pv ⟨⟨b0, b1, b2, b3, b4, b5, b6, b7, b8, b9⟩, sb⟩ = .agg #[.int .i64 b0, .int .i64 b1, .int .i64 b2, .int .i64 b3, .int .i64 b4, .bool b5, .bool b6, .string (bs b7), .string (bs b8), .string (bs b9), .int .i64 (8 * b2), .string (bs sb)] := rfl
      rw [hpv] at CE2
      simp only at cl hlo
      rw [hlo] at cl CE2
      have l0 := cl 0 (.int .i64 b0) rfl (by decide)
      have l1 := cl 1 (.int .i64 b1) rfl (by decide)
      have l2 := cl 2 (.int .i64 b2) rfl (by decide)
      have l3 := cl 3 (.int .i64 b3) rfl (by decide)
      have l4 := cl 4 (.int .i64 b4) rfl (by decide)
      have l5 := cl 5 (.bool b5) rfl (by decide)
      have l6 := cl 6 (.bool b6) rfl (by decide)
      have l7 := cl 7 (.string (bs b7)) rfl (by decide)
      have l8 := cl 8 (.string (bs b8)) rfl (by decide)
      have l9 := cl 9 (.string (bs b9)) rfl (by decide)
      have l10 := cl 10 (.int .i64 (lo : Nat)) rfl (by decide)
      have l11 := cl 11 (.string (bs sb)) rfl (by decide)
      rw [Nat.add_zero] at l0
      clear cl CE hpv hlo hkl
      by_cases hla : lo = a
      · have i1 : ((lo : Int) != (a : Int)) = false := by rw [bne_eq_false_iff_eq]; omega
        have HNX : Hid (contig 0 ps = contig hi (ps.drop (k + 1))) := Lib.hid (by rw [hst.out.1, HCT.out, decide_eq_true hla, Bool.true_and])
        clear HCT hla
        go_wp2_with (go_at_call 61; (with_reducible refine (CE2.out _).mono ?_); rintro e w1 ⟨rfl, hb1⟩; have HB1 := Lib.hid hb1; clear hb1)
        exact ⟨⟨k + 1, hi, by omega, hhi, by go_num, rfl, HNX.out, (hst.out.2.alloc hst.out.2.size _).trans (HB1.out.mono (by rw [World.size_alloc]; have := hst.out.2.size; omega))⟩, by simp [intOf] <;> omega⟩
      · have i1 : ((lo : Int) != (a : Int)) = true := by rw [bne_iff_ne]; omega
        have HF : Hid (r = false) := Lib.hid (by rw [HR0.out]; unfold wholeB; rw [hst.out.1, HCT.out, decide_eq_false hla, Bool.false_and, Bool.false_and])
        clear HCT hla
        go_wp2_with (fail)
        go_ret
        exact ⟨by rw [HF.out]; rfl, hst.out.2.alloc hst.out.2.size _⟩
    · obtain rfl : k = n := by omega
      have HC : Hid (contig 0 ps = true) := Lib.hid (by rw [hst.out.1, List.drop_eq_nil_of_le (by have := HN.out; omega)]; rfl)
      have HEr : wr.heap[E]? = some (.cells #[.slice g k cap, .bool dn, .int .i64 age] 72 (0, 0)) := (hst.out.2.block _ (heap_lt HE.out)).trans HE.out
      by_cases hn0 : 0 < k
      · obtain ⟨G, rfl⟩ : ∃ k, g = some ⟨k, 0, none⟩ := by
          rcases hg with h | h
          · omega
          · exact h
        obtain ⟨m, hm⟩ : ∃ m, m = k - 1 := ⟨_, rfl⟩
        have hml : m < ps.length := by have := HN.out; omega
        have hq : Psm ps[m] := HPS.out _ (List.getElem_mem _)
        have cl := row_cells HROW.out hst.out.2.drew hml
        have CLA := fun V => last_any hq V
        have HR1 : r = !ps[m].h.mf := by
          have h2 := HN.out
          rw [HR0.out]; unfold wholeB; rw [HC.out, Bool.true_and, lastB_last ps (by omega)]
          congr 3
          have h3 : ps.length - 1 = m := by omega
          simp only [h3]
        have HGL : Hid (G < w.heap.size) := Lib.hid (World.ownsRow.lt HROW.out G rfl).2
        obtain ⟨q, hqe⟩ : ∃ q, q = ps[m] := ⟨_, rfl⟩
        rw [← hqe] at CLA cl HR1
        have CL := Lib.hid CLA
        clear CLA hqe hq
        obtain ⟨⟨b0, b1, b2, b3, b4, b5, b6, b7, b8, b9⟩, sb⟩ := q
        unfold pcells at cl
        have hpv : pv ⟨⟨b0, b1, b2, b3, b4, b5, b6, b7, b8, b9⟩, sb⟩ = .agg #[.int .i64 b0, .int .i64 b1, .int .i64 b2, .int .i64 b3, .int .i64 b4, .bool b5, .bool b6, .string (bs b7), .string (bs b8), .string (bs b9), .int .i64 (8 * b2), .string (bs sb)] := rfl
        rw [hpv] at CL
        simp only at cl CL HR1
        obtain ⟨fb, hfb⟩ : ∃ x, x = 8 * b2 := ⟨_, rfl⟩
        rw [← hfb] at cl CL
        have HR := Lib.hid HR1
        have i0 : (0 : Int) < (k : Int) := by omega
        have i1 : (k : Int) > 0 := by omega
        have i1d : decide ((k : Int) > 0) = true := decide_eq_true i1
        obtain ⟨n, hn⟩ : ∃ n, n = k := ⟨_, rfl⟩
        have i2 : (n : Int) - 1 = (m : Int) := by omega
        have i3 : m < n := by omega
        have i5 : IntKind.i64.wrap (m : Int) = (m : Int) := IntWalk.i64_in _ (by omega)
        have i6 : (0 : Int) ≤ (m : Int) := by omega
        have i7 : (m : Int).toNat = m := by omega
        have i4 : (m : Int) < (n : Int) := by omega
        subst hn
        have HEH := Lib.hid HEr
        have HCL := Lib.hid cl
        clear hpv hfb HR1 hm hml HEr cl hg
        go_upto_region 9 with (fail)
        refine wp_region_held_drew (S := fun V => V.heap[E]? = some (.cells #[.slice (some ⟨G, 0, none⟩) n cap, .bool dn, .int .i64 age] 72 (0, 0)) ∧ (∀ j x, #[.int .i64 b0, .int .i64 b1, .int .i64 b2, .int .i64 b3, .int .i64 b4, .bool b5, .bool b6, .string (bs b7), .string (bs b8), .string (bs b9), .int .i64 fb, .string (bs sb)].toList[j]? = some x → j < 12 → V.cell? ⟨G, m * 12 + j, none⟩ = some x) ∧ Below w.heap.size w V) (by kernel_rfl) ⟨HEH.out, HCL.out, hst.out.2.drew⟩ (fun hHeld => ?_)
        refine wpAnyH_take (i := 0) (oi := { dst := some 22, op := Op.move (Operand.tmp 0), type := 69, pos := "reasm.go:77", after := #[], guard := none }) (v := ?_) rfl (by kernel_rfl) (by kernel_rfl) (by kernel_rfl) (fun _ _ _ h => h) (Or.inl ⟨by rfl, ?_⟩) (by assumption) ?_
        rotate_left 1
        · intro w hSw
          go_simp
          first | done | with_reducible rfl
        try simp only [Act.put, List.setIfInBounds_toArray, List.set_cons_zero, List.set_cons_succ]
        refine wpAnyH_ready (rs := [1]) (by kernel_rfl) (by simp) ?_
        refine AllReadyH.cons (o := { dst := some 23, op := Op.nilCheck (Operand.tmp 22), type := 0, pos := "reasm.go:77", after := #[{ on := 0, ground := Ground.data }], guard := none }) rfl (fun K hK => ?_) AllReadyH.nil
        go_simp
        refine hK.out _ _ hHeld (fun hHeld => ?_)
        clear hK K
        try simp only [Act.put, List.setIfInBounds_toArray, List.set_cons_zero, List.set_cons_succ]
        refine wpAnyH_take (i := 2) (oi := { dst := some 24, op := Op.fieldAddr 72 (Operand.tmp 23) 0, type := 0, pos := "reasm.go:77", after := #[{ on := 1, ground := Ground.data }], guard := none }) (v := ?_) rfl (by kernel_rfl) (by kernel_rfl) (by kernel_rfl) (fun _ _ _ h => h) (Or.inl ⟨by rfl, ?_⟩) (by assumption) ?_
        rotate_left 1
        · intro w hSw
          go_simp
          first | done | with_reducible rfl
        try simp only [Act.put, List.setIfInBounds_toArray, List.set_cons_zero, List.set_cons_succ]
        refine wpAnyH_take (i := 3) (oi := { dst := some 25, op := Op.load 70 (Operand.tmp 24), type := 70, pos := "reasm.go:77", after := #[{ on := 2, ground := Ground.data }], guard := none }) (v := ?_) rfl (by kernel_rfl) (by kernel_rfl) (by kernel_rfl) (fun _ _ _ h => h) (Or.inl ⟨by rfl, ?_⟩) (by assumption) ?_
        rotate_left 1
        · intro w hSw
          have q0 := cellAt (i := 0) (v := .slice (some ⟨G, 0, none⟩) n cap) hSw.1 rfl
          go_simp
          first | done | with_reducible rfl
        try simp only [Act.put, List.setIfInBounds_toArray, List.set_cons_zero, List.set_cons_succ]
        refine wpAnyH_take (i := 4) (oi := { dst := some 26, op := Op.call { callee := Callee.builtin Builtin.len, args := #[Operand.tmp 25], argTypes := #[70] }, type := 3, pos := "reasm.go:77", after := #[{ on := 3, ground := Ground.data }], guard := none }) (v := ?_) rfl (by kernel_rfl) (by kernel_rfl) (by kernel_rfl) (fun _ _ _ h => h) (Or.inl ⟨by rfl, ?_⟩) (by assumption) ?_
        rotate_left 1
        · intro w hSw
          go_simp
          first | done | with_reducible rfl
        try simp only [Act.put, List.setIfInBounds_toArray, List.set_cons_zero, List.set_cons_succ]
        refine wpAnyH_take (i := 5) (oi := { dst := some 27, op := Op.binOp BinOp.gtr 3 (Operand.tmp 26) (Operand.const (Value.int IntKind.i64 0)) 3, type := 4, pos := "reasm.go:77", after := #[{ on := 4, ground := Ground.data }], guard := none }) (v := .bool true) rfl (by kernel_rfl) (by kernel_rfl) (by kernel_rfl) (fun _ _ _ h => h) (Or.inl ⟨by rfl, ?_⟩) (by assumption) ?_
        · intro w hSw
          go_simp
          first | done | with_reducible rfl
        try simp only [Act.put, List.setIfInBounds_toArray, List.set_cons_zero, List.set_cons_succ]
        refine wpAnyH_take (i := 6) (oi := { dst := some 28, op := Op.move (Operand.tmp 27), type := 4, pos := "reasm.go:77", after := #[{ on := 5, ground := Ground.data }], guard := none }) (v := .bool true) rfl (by kernel_rfl) (by kernel_rfl) (by kernel_rfl) (fun _ _ _ h => h) (Or.inl ⟨by rfl, ?_⟩) (by assumption) ?_
        · intro w hSw
          go_simp
          first | done | with_reducible rfl
        try simp only [Act.put, List.setIfInBounds_toArray, List.set_cons_zero, List.set_cons_succ]
        refine wpAnyH_take (i := 7) (oi := { dst := some 29, op := Op.move (Operand.tmp 0), type := 69, pos := "reasm.go:77", after := #[{ on := 6, ground := Ground.guard }], guard := some (6, true) }) (v := ?_) rfl (by kernel_rfl) (by kernel_rfl) (by kernel_rfl) (fun _ _ _ h => h) (Or.inl ⟨by rfl, ?_⟩) (by assumption) ?_
        rotate_left 1
        · intro w hSw
          go_simp
          first | done | with_reducible rfl
        try simp only [Act.put, List.setIfInBounds_toArray, List.set_cons_zero, List.set_cons_succ]
        refine wpAnyH_take (i := 11) (oi := { dst := some 33, op := Op.move (Operand.tmp 0), type := 69, pos := "reasm.go:77", after := #[{ on := 6, ground := Ground.guard }], guard := some (6, true) }) (v := ?_) rfl (by kernel_rfl) (by kernel_rfl) (by kernel_rfl) (fun _ _ _ h => h) (Or.inl ⟨by rfl, ?_⟩) (by assumption) ?_
        rotate_left 1
        · intro w hSw
          go_simp
          first | done | with_reducible rfl
        try simp only [Act.put, List.setIfInBounds_toArray, List.set_cons_zero, List.set_cons_succ]
        refine wpAnyH_ready (rs := [8, 12]) (by kernel_rfl) (by simp) ?_
        refine AllReadyH.cons (o := { dst := some 30, op := Op.nilCheck (Operand.tmp 29), type := 0, pos := "reasm.go:77", after := #[{ on := 7, ground := Ground.data }, { on := 6, ground := Ground.guard }], guard := some (6, true) }) rfl (fun K hK => ?_) (AllReadyH.cons (o := { dst := some 34, op := Op.nilCheck (Operand.tmp 33), type := 0, pos := "reasm.go:77", after := #[{ on := 11, ground := Ground.data }, { on := 6, ground := Ground.guard }], guard := some (6, true) }) rfl (fun K hK => ?_) AllReadyH.nil)
        · skip
          go_simp
          refine hK.out _ _ hHeld (fun hHeld => ?_)
          clear hK K
          try simp only [Act.put, List.setIfInBounds_toArray, List.set_cons_zero, List.set_cons_succ]
          refine wpAnyH_take (i := 9) (oi := { dst := some 31, op := Op.fieldAddr 72 (Operand.tmp 30) 0, type := 0, pos := "reasm.go:77", after := #[{ on := 8, ground := Ground.data }, { on := 6, ground := Ground.guard }], guard := some (6, true) }) (v := ?_) rfl (by kernel_rfl) (by kernel_rfl) (by kernel_rfl) (fun _ _ _ h => h) (Or.inl ⟨by rfl, ?_⟩) (by assumption) ?_
          rotate_left 1
          · intro w hSw
            go_simp
            first | done | with_reducible rfl
          try simp only [Act.put, List.setIfInBounds_toArray, List.set_cons_zero, List.set_cons_succ]
          refine wpAnyH_take (i := 10) (oi := { dst := some 32, op := Op.load 70 (Operand.tmp 31), type := 70, pos := "reasm.go:77", after := #[{ on := 9, ground := Ground.data }, { on := 6, ground := Ground.guard }], guard := some (6, true) }) (v := ?_) rfl (by kernel_rfl) (by kernel_rfl) (by kernel_rfl) (fun _ _ _ h => h) (Or.inl ⟨by rfl, ?_⟩) (by assumption) ?_
          rotate_left 1
          · intro w hSw
            have q0 := cellAt (i := 0) (v := .slice (some ⟨G, 0, none⟩) n cap) hSw.1 rfl
            go_simp
            first | done | with_reducible rfl
          try simp only [Act.put, List.setIfInBounds_toArray, List.set_cons_zero, List.set_cons_succ]
          refine wpAnyH_ready (rs := [12]) (by kernel_rfl) (by simp) ?_
          refine AllReadyH.cons (o := { dst := some 34, op := Op.nilCheck (Operand.tmp 33), type := 0, pos := "reasm.go:77", after := #[{ on := 11, ground := Ground.data }, { on := 6, ground := Ground.guard }], guard := some (6, true) }) rfl (fun K hK => ?_) AllReadyH.nil
          go_simp
          refine hK.out _ _ hHeld (fun hHeld => ?_)
          clear hK K
          try simp only [Act.put, List.setIfInBounds_toArray, List.set_cons_zero, List.set_cons_succ]
          refine wpAnyH_take (i := 13) (oi := { dst := some 35, op := Op.fieldAddr 72 (Operand.tmp 34) 0, type := 0, pos := "reasm.go:77", after := #[{ on := 12, ground := Ground.data }, { on := 6, ground := Ground.guard }], guard := some (6, true) }) (v := ?_) rfl (by kernel_rfl) (by kernel_rfl) (by kernel_rfl) (fun _ _ _ h => h) (Or.inl ⟨by rfl, ?_⟩) (by assumption) ?_
          rotate_left 1
          · intro w hSw
            go_simp
            first | done | with_reducible rfl
          try simp only [Act.put, List.setIfInBounds_toArray, List.set_cons_zero, List.set_cons_succ]
          refine wpAnyH_take (i := 14) (oi := { dst := some 36, op := Op.load 70 (Operand.tmp 35), type := 70, pos := "reasm.go:77", after := #[{ on := 13, ground := Ground.data }, { on := 6, ground := Ground.guard }], guard := some (6, true) }) (v := ?_) rfl (by kernel_rfl) (by kernel_rfl) (by kernel_rfl) (fun _ _ _ h => h) (Or.inl ⟨by rfl, ?_⟩) (by assumption) ?_
          rotate_left 1
          · intro w hSw
            have q0 := cellAt (i := 0) (v := .slice (some ⟨G, 0, none⟩) n cap) hSw.1 rfl
            go_simp
            first | done | with_reducible rfl
          try simp only [Act.put, List.setIfInBounds_toArray, List.set_cons_zero, List.set_cons_succ]
          refine wpAnyH_take (i := 15) (oi := { dst := some 37, op := Op.call { callee := Callee.builtin Builtin.len, args := #[Operand.tmp 36], argTypes := #[70] }, type := 3, pos := "reasm.go:77", after := #[{ on := 14, ground := Ground.data }, { on := 6, ground := Ground.guard }], guard := some (6, true) }) (v := ?_) rfl (by kernel_rfl) (by kernel_rfl) (by kernel_rfl) (fun _ _ _ h => h) (Or.inl ⟨by rfl, ?_⟩) (by assumption) ?_
          rotate_left 1
          · intro w hSw
            go_simp
            first | done | with_reducible rfl
          try simp only [Act.put, List.setIfInBounds_toArray, List.set_cons_zero, List.set_cons_succ]
          refine wpAnyH_take (i := 16) (oi := { dst := some 38, op := Op.binOp BinOp.sub 3 (Operand.tmp 37) (Operand.const (Value.int IntKind.i64 1)) 3, type := 3, pos := "reasm.go:77", after := #[{ on := 15, ground := Ground.data }, { on := 6, ground := Ground.guard }], guard := some (6, true) }) (v := ?_) rfl (by kernel_rfl) (by kernel_rfl) (by kernel_rfl) (fun _ _ _ h => h) (Or.inl ⟨by rfl, ?_⟩) (by assumption) ?_
          rotate_left 1
          · intro w hSw
            go_simp
            first | done | with_reducible rfl
          try simp only [Act.put, List.setIfInBounds_toArray, List.set_cons_zero, List.set_cons_succ]
          refine wpAnyH_take (i := 17) (oi := { dst := some 39, op := Op.indexAddr 70 (Operand.tmp 32) (Operand.tmp 38), type := 0, pos := "reasm.go:77", after := #[{ on := 10, ground := Ground.data }, { on := 16, ground := Ground.data }, { on := 6, ground := Ground.guard }], guard := some (6, true) }) (v := ?_) rfl (by kernel_rfl) (by kernel_rfl) (by kernel_rfl) (fun _ _ _ h => h) (Or.inl ⟨by rfl, ?_⟩) (by assumption) ?_
          rotate_left 1
          · intro w hSw
            go_simp
            first | done | with_reducible rfl
          try simp only [Act.put, List.setIfInBounds_toArray, List.set_cons_zero, List.set_cons_succ]
          refine wpAnyH_take (i := 18) (oi := { dst := some 40, op := Op.load 74 (Operand.tmp 39), type := 74, pos := "reasm.go:77", after := #[{ on := 17, ground := Ground.data }, { on := 6, ground := Ground.guard }], guard := some (6, true) }) (v := ?_) rfl (by kernel_rfl) (by kernel_rfl) (by kernel_rfl) (fun _ _ _ h => h) (Or.inl ⟨by rfl, ?_⟩) (by assumption) ?_
          rotate_left 1
          · intro w hSw
            have q0 := hSw.2.1 0 (.int .i64 b0) rfl (by decide)
            have q1 := hSw.2.1 1 (.int .i64 b1) rfl (by decide)
            have q2 := hSw.2.1 2 (.int .i64 b2) rfl (by decide)
            have q3 := hSw.2.1 3 (.int .i64 b3) rfl (by decide)
            have q4 := hSw.2.1 4 (.int .i64 b4) rfl (by decide)
            have q5 := hSw.2.1 5 (.bool b5) rfl (by decide)
            have q6 := hSw.2.1 6 (.bool b6) rfl (by decide)
            have q7 := hSw.2.1 7 (.string (bs b7)) rfl (by decide)
            have q8 := hSw.2.1 8 (.string (bs b8)) rfl (by decide)
            have q9 := hSw.2.1 9 (.string (bs b9)) rfl (by decide)
            have q10 := hSw.2.1 10 (.int .i64 fb) rfl (by decide)
            have q11 := hSw.2.1 11 (.string (bs sb)) rfl (by decide)
            rw [Nat.add_zero] at q0
            go_simp
            first | done | with_reducible rfl
          try simp only [Act.put, List.setIfInBounds_toArray, List.set_cons_zero, List.set_cons_succ]
          refine wpAnyH_ready (rs := [19]) (by kernel_rfl) (by simp) ?_
          refine AllReadyH.cons (o := { dst := some 41, op := Op.call { callee := Callee.value (Operand.func 62), args := #[Operand.tmp 40], argTypes := #[74] }, type := 4, pos := "reasm.go:77", after := #[{ on := 18, ground := Ground.data }, { on := 6, ground := Ground.chain }, { on := 6, ground := Ground.guard }], guard := some (6, true) }) rfl (fun K hK => ?_) AllReadyH.nil
          go_simp
          (go_at_call 62; (with_reducible refine (CL.out _).mono ?_); rintro e w5 ⟨rfl, hb5⟩)
          go_simp
          refine hK.out _ _ ⟨(hb5.block _ (heap_lt hHeld.1)).trans hHeld.1, fun j x hx hj => (hb5.cell (p := ⟨G, m * 12 + j, none⟩) (Nat.lt_of_lt_of_le HGL.out hHeld.2.2.size)).trans (hHeld.2.1 j x hx hj), hHeld.2.2.trans (hb5.mono hHeld.2.2.size)⟩ (fun hHeld => ?_)
          clear hK K
          try simp only [Act.put, List.setIfInBounds_toArray, List.set_cons_zero, List.set_cons_succ]
          refine wpAnyH_take (i := 20) (oi := { dst := some 42, op := Op.pick (Operand.tmp 28) (Operand.tmp 41) (Operand.const (Value.bool false)), type := 4, pos := "reasm.go:77", after := #[{ on := 6, ground := Ground.data }, { on := 19, ground := Ground.data }], guard := none }) (v := ?_) rfl (by kernel_rfl) (by kernel_rfl) (by kernel_rfl) (fun _ _ _ h => h) (Or.inl ⟨by rfl, ?_⟩) (by assumption) ?_
          rotate_left 1
          · intro w hSw
            go_simp
            first | done | with_reducible rfl
          try simp only [Act.put, List.setIfInBounds_toArray, List.set_cons_zero, List.set_cons_succ]
          refine wpAnyH_ready (rs := [21]) (by kernel_rfl) (by simp) ?_
          refine AllReadyH.cons (o := { dst := some 2, op := Op.assign (Operand.tmp 42), type := 4, pos := "reasm.go:77", after := #[{ on := 20, ground := Ground.data }, { on := 19, ground := Ground.chain }, { on := 0, ground := Ground.phase }, { on := 1, ground := Ground.phase }, { on := 2, ground := Ground.phase }, { on := 3, ground := Ground.phase }, { on := 4, ground := Ground.phase }, { on := 5, ground := Ground.phase }, { on := 6, ground := Ground.phase }, { on := 7, ground := Ground.phase }, { on := 8, ground := Ground.phase }, { on := 9, ground := Ground.phase }, { on := 10, ground := Ground.phase }, { on := 11, ground := Ground.phase }, { on := 12, ground := Ground.phase }, { on := 13, ground := Ground.phase }, { on := 14, ground := Ground.phase }, { on := 15, ground := Ground.phase }, { on := 16, ground := Ground.phase }, { on := 17, ground := Ground.phase }, { on := 18, ground := Ground.phase }, { on := 19, ground := Ground.phase }, { on := 20, ground := Ground.phase }], guard := none }) rfl (fun K hK => ?_) AllReadyH.nil
          go_simp
          refine hK.out _ _ hHeld (fun hHeld => ?_)
          clear hK K
          try simp only [Act.put, List.setIfInBounds_toArray, List.set_cons_zero, List.set_cons_succ]
          refine wpAnyH_done (by kernel_rfl) ?_ _
          simp only [Exit.then]
          go_wp2_with (fail)
          go_ret
          exact ⟨by rw [HR.out]; rfl, hHeld.2.2⟩
        · skip
          go_simp
          refine hK.out _ _ hHeld (fun hHeld => ?_)
          clear hK K
          try simp only [Act.put, List.setIfInBounds_toArray, List.set_cons_zero, List.set_cons_succ]
          refine wpAnyH_take (i := 13) (oi := { dst := some 35, op := Op.fieldAddr 72 (Operand.tmp 34) 0, type := 0, pos := "reasm.go:77", after := #[{ on := 12, ground := Ground.data }, { on := 6, ground := Ground.guard }], guard := some (6, true) }) (v := ?_) rfl (by kernel_rfl) (by kernel_rfl) (by kernel_rfl) (fun _ _ _ h => h) (Or.inl ⟨by rfl, ?_⟩) (by assumption) ?_
          rotate_left 1
          · intro w hSw
            go_simp
            first | done | with_reducible rfl
          try simp only [Act.put, List.setIfInBounds_toArray, List.set_cons_zero, List.set_cons_succ]
          refine wpAnyH_take (i := 14) (oi := { dst := some 36, op := Op.load 70 (Operand.tmp 35), type := 70, pos := "reasm.go:77", after := #[{ on := 13, ground := Ground.data }, { on := 6, ground := Ground.guard }], guard := some (6, true) }) (v := ?_) rfl (by kernel_rfl) (by kernel_rfl) (by kernel_rfl) (fun _ _ _ h => h) (Or.inl ⟨by rfl, ?_⟩) (by assumption) ?_
          rotate_left 1
          · intro w hSw
            have q0 := cellAt (i := 0) (v := .slice (some ⟨G, 0, none⟩) n cap) hSw.1 rfl
            go_simp
            first | done | with_reducible rfl
          try simp only [Act.put, List.setIfInBounds_toArray, List.set_cons_zero, List.set_cons_succ]
          refine wpAnyH_take (i := 15) (oi := { dst := some 37, op := Op.call { callee := Callee.builtin Builtin.len, args := #[Operand.tmp 36], argTypes := #[70] }, type := 3, pos := "reasm.go:77", after := #[{ on := 14, ground := Ground.data }, { on := 6, ground := Ground.guard }], guard := some (6, true) }) (v := ?_) rfl (by kernel_rfl) (by kernel_rfl) (by kernel_rfl) (fun _ _ _ h => h) (Or.inl ⟨by rfl, ?_⟩) (by assumption) ?_
          rotate_left 1
          · intro w hSw
            go_simp
            first | done | with_reducible rfl
          try simp only [Act.put, List.setIfInBounds_toArray, List.set_cons_zero, List.set_cons_succ]
          refine wpAnyH_take (i := 16) (oi := { dst := some 38, op := Op.binOp BinOp.sub 3 (Operand.tmp 37) (Operand.const (Value.int IntKind.i64 1)) 3, type := 3, pos := "reasm.go:77", after := #[{ on := 15, ground := Ground.data }, { on := 6, ground := Ground.guard }], guard := some (6, true) }) (v := ?_) rfl (by kernel_rfl) (by kernel_rfl) (by kernel_rfl) (fun _ _ _ h => h) (Or.inl ⟨by rfl, ?_⟩) (by assumption) ?_
          rotate_left 1
          · intro w hSw
            go_simp
            first | done | with_reducible rfl
          try simp only [Act.put, List.setIfInBounds_toArray, List.set_cons_zero, List.set_cons_succ]
          refine wpAnyH_ready (rs := [8]) (by kernel_rfl) (by simp) ?_
          refine AllReadyH.cons (o := { dst := some 30, op := Op.nilCheck (Operand.tmp 29), type := 0, pos := "reasm.go:77", after := #[{ on := 7, ground := Ground.data }, { on := 6, ground := Ground.guard }], guard := some (6, true) }) rfl (fun K hK => ?_) AllReadyH.nil
          go_simp
          refine hK.out _ _ hHeld (fun hHeld => ?_)
          clear hK K
          try simp only [Act.put, List.setIfInBounds_toArray, List.set_cons_zero, List.set_cons_succ]
          refine wpAnyH_take (i := 9) (oi := { dst := some 31, op := Op.fieldAddr 72 (Operand.tmp 30) 0, type := 0, pos := "reasm.go:77", after := #[{ on := 8, ground := Ground.data }, { on := 6, ground := Ground.guard }], guard := some (6, true) }) (v := ?_) rfl (by kernel_rfl) (by kernel_rfl) (by kernel_rfl) (fun _ _ _ h => h) (Or.inl ⟨by rfl, ?_⟩) (by assumption) ?_
          rotate_left 1
          · intro w hSw
            go_simp
            first | done | with_reducible rfl
          try simp only [Act.put, List.setIfInBounds_toArray, List.set_cons_zero, List.set_cons_succ]
          refine wpAnyH_take (i := 10) (oi := { dst := some 32, op := Op.load 70 (Operand.tmp 31), type := 70, pos := "reasm.go:77", after := #[{ on := 9, ground := Ground.data }, { on := 6, ground := Ground.guard }], guard := some (6, true) }) (v := ?_) rfl (by kernel_rfl) (by kernel_rfl) (by kernel_rfl) (fun _ _ _ h => h) (Or.inl ⟨by rfl, ?_⟩) (by assumption) ?_
          rotate_left 1
          · intro w hSw
            have q0 := cellAt (i := 0) (v := .slice (some ⟨G, 0, none⟩) n cap) hSw.1 rfl
            go_simp
            first | done | with_reducible rfl
          try simp only [Act.put, List.setIfInBounds_toArray, List.set_cons_zero, List.set_cons_succ]
          refine wpAnyH_take (i := 17) (oi := { dst := some 39, op := Op.indexAddr 70 (Operand.tmp 32) (Operand.tmp 38), type := 0, pos := "reasm.go:77", after := #[{ on := 10, ground := Ground.data }, { on := 16, ground := Ground.data }, { on := 6, ground := Ground.guard }], guard := some (6, true) }) (v := ?_) rfl (by kernel_rfl) (by kernel_rfl) (by kernel_rfl) (fun _ _ _ h => h) (Or.inl ⟨by rfl, ?_⟩) (by assumption) ?_
          rotate_left 1
          · intro w hSw
            go_simp
            first | done | with_reducible rfl
          try simp only [Act.put, List.setIfInBounds_toArray, List.set_cons_zero, List.set_cons_succ]
          refine wpAnyH_take (i := 18) (oi := { dst := some 40, op := Op.load 74 (Operand.tmp 39), type := 74, pos := "reasm.go:77", after := #[{ on := 17, ground := Ground.data }, { on := 6, ground := Ground.guard }], guard := some (6, true) }) (v := ?_) rfl (by kernel_rfl) (by kernel_rfl) (by kernel_rfl) (fun _ _ _ h => h) (Or.inl ⟨by rfl, ?_⟩) (by assumption) ?_
          rotate_left 1
          · intro w hSw
            have q0 := hSw.2.1 0 (.int .i64 b0) rfl (by decide)
            have q1 := hSw.2.1 1 (.int .i64 b1) rfl (by decide)
            have q2 := hSw.2.1 2 (.int .i64 b2) rfl (by decide)
            have q3 := hSw.2.1 3 (.int .i64 b3) rfl (by decide)
            have q4 := hSw.2.1 4 (.int .i64 b4) rfl (by decide)
            have q5 := hSw.2.1 5 (.bool b5) rfl (by decide)
            have q6 := hSw.2.1 6 (.bool b6) rfl (by decide)
            have q7 := hSw.2.1 7 (.string (bs b7)) rfl (by decide)
            have q8 := hSw.2.1 8 (.string (bs b8)) rfl (by decide)
            have q9 := hSw.2.1 9 (.string (bs b9)) rfl (by decide)
            have q10 := hSw.2.1 10 (.int .i64 fb) rfl (by decide)
            have q11 := hSw.2.1 11 (.string (bs sb)) rfl (by decide)
            rw [Nat.add_zero] at q0
            go_simp
            first | done | with_reducible rfl
          try simp only [Act.put, List.setIfInBounds_toArray, List.set_cons_zero, List.set_cons_succ]
          refine wpAnyH_ready (rs := [19]) (by kernel_rfl) (by simp) ?_
          refine AllReadyH.cons (o := { dst := some 41, op := Op.call { callee := Callee.value (Operand.func 62), args := #[Operand.tmp 40], argTypes := #[74] }, type := 4, pos := "reasm.go:77", after := #[{ on := 18, ground := Ground.data }, { on := 6, ground := Ground.chain }, { on := 6, ground := Ground.guard }], guard := some (6, true) }) rfl (fun K hK => ?_) AllReadyH.nil
          go_simp
          (go_at_call 62; (with_reducible refine (CL.out _).mono ?_); rintro e w5 ⟨rfl, hb5⟩)
          go_simp
          refine hK.out _ _ ⟨(hb5.block _ (heap_lt hHeld.1)).trans hHeld.1, fun j x hx hj => (hb5.cell (p := ⟨G, m * 12 + j, none⟩) (Nat.lt_of_lt_of_le HGL.out hHeld.2.2.size)).trans (hHeld.2.1 j x hx hj), hHeld.2.2.trans (hb5.mono hHeld.2.2.size)⟩ (fun hHeld => ?_)
          clear hK K
          try simp only [Act.put, List.setIfInBounds_toArray, List.set_cons_zero, List.set_cons_succ]
          refine wpAnyH_take (i := 20) (oi := { dst := some 42, op := Op.pick (Operand.tmp 28) (Operand.tmp 41) (Operand.const (Value.bool false)), type := 4, pos := "reasm.go:77", after := #[{ on := 6, ground := Ground.data }, { on := 19, ground := Ground.data }], guard := none }) (v := ?_) rfl (by kernel_rfl) (by kernel_rfl) (by kernel_rfl) (fun _ _ _ h => h) (Or.inl ⟨by rfl, ?_⟩) (by assumption) ?_
          rotate_left 1
          · intro w hSw
            go_simp
            first | done | with_reducible rfl
          try simp only [Act.put, List.setIfInBounds_toArray, List.set_cons_zero, List.set_cons_succ]
          refine wpAnyH_ready (rs := [21]) (by kernel_rfl) (by simp) ?_
          refine AllReadyH.cons (o := { dst := some 2, op := Op.assign (Operand.tmp 42), type := 4, pos := "reasm.go:77", after := #[{ on := 20, ground := Ground.data }, { on := 19, ground := Ground.chain }, { on := 0, ground := Ground.phase }, { on := 1, ground := Ground.phase }, { on := 2, ground := Ground.phase }, { on := 3, ground := Ground.phase }, { on := 4, ground := Ground.phase }, { on := 5, ground := Ground.phase }, { on := 6, ground := Ground.phase }, { on := 7, ground := Ground.phase }, { on := 8, ground := Ground.phase }, { on := 9, ground := Ground.phase }, { on := 10, ground := Ground.phase }, { on := 11, ground := Ground.phase }, { on := 12, ground := Ground.phase }, { on := 13, ground := Ground.phase }, { on := 14, ground := Ground.phase }, { on := 15, ground := Ground.phase }, { on := 16, ground := Ground.phase }, { on := 17, ground := Ground.phase }, { on := 18, ground := Ground.phase }, { on := 19, ground := Ground.phase }, { on := 20, ground := Ground.phase }], guard := none }) rfl (fun K hK => ?_) AllReadyH.nil
          go_simp
          refine hK.out _ _ hHeld (fun hHeld => ?_)
          clear hK K
          try simp only [Act.put, List.setIfInBounds_toArray, List.set_cons_zero, List.set_cons_succ]
          refine wpAnyH_done (by kernel_rfl) ?_ _
          simp only [Exit.then]
          go_wp2_with (fail)
          go_ret
          exact ⟨by rw [HR.out]; rfl, hHeld.2.2⟩
      · obtain rfl : k = 0 := by omega
        have HR : Hid (r = false) := Lib.hid (by
          have h1 := HN.out
          rw [HR0.out]; unfold wholeB
          rw [List.eq_nil_of_length_eq_zero h1.symm]; rfl)
        have HEH := Lib.hid HEr
        clear HEr hg
        go_upto_region 9 with (fail)
        refine wp_region_held_drew (S := fun V => V.heap[E]? = some (.cells #[.slice g 0 cap, .bool dn, .int .i64 age] 72 (0, 0)) ∧ Below w.heap.size w V) (by kernel_rfl) ⟨HEH.out, hst.out.2.drew⟩ (fun hHeld => ?_)
        refine wpAnyH_take (i := 0) (oi := { dst := some 22, op := Op.move (Operand.tmp 0), type := 69, pos := "reasm.go:77", after := #[], guard := none }) (v := ?_) rfl (by kernel_rfl) (by kernel_rfl) (by kernel_rfl) (fun _ _ _ h => h) (Or.inl ⟨by rfl, ?_⟩) (by assumption) ?_
        rotate_left 1
        · intro w hSw
          go_simp
          first | done | with_reducible rfl
        try simp only [Act.put, List.setIfInBounds_toArray, List.set_cons_zero, List.set_cons_succ]
        refine wpAnyH_ready (rs := [1]) (by kernel_rfl) (by simp) ?_
        refine AllReadyH.cons (o := { dst := some 23, op := Op.nilCheck (Operand.tmp 22), type := 0, pos := "reasm.go:77", after := #[{ on := 0, ground := Ground.data }], guard := none }) rfl (fun K hK => ?_) AllReadyH.nil
        go_simp
        refine hK.out _ _ hHeld (fun hHeld => ?_)
        clear hK K
        try simp only [Act.put, List.setIfInBounds_toArray, List.set_cons_zero, List.set_cons_succ]
        refine wpAnyH_take (i := 2) (oi := { dst := some 24, op := Op.fieldAddr 72 (Operand.tmp 23) 0, type := 0, pos := "reasm.go:77", after := #[{ on := 1, ground := Ground.data }], guard := none }) (v := ?_) rfl (by kernel_rfl) (by kernel_rfl) (by kernel_rfl) (fun _ _ _ h => h) (Or.inl ⟨by rfl, ?_⟩) (by assumption) ?_
        rotate_left 1
        · intro w hSw
          go_simp
          first | done | with_reducible rfl
        try simp only [Act.put, List.setIfInBounds_toArray, List.set_cons_zero, List.set_cons_succ]
        refine wpAnyH_take (i := 3) (oi := { dst := some 25, op := Op.load 70 (Operand.tmp 24), type := 70, pos := "reasm.go:77", after := #[{ on := 2, ground := Ground.data }], guard := none }) (v := ?_) rfl (by kernel_rfl) (by kernel_rfl) (by kernel_rfl) (fun _ _ _ h => h) (Or.inl ⟨by rfl, ?_⟩) (by assumption) ?_
        rotate_left 1
        · intro w hSw
          have q0 := cellAt (i := 0) (v := .slice g 0 cap) hSw.1 rfl
          go_simp
          first | done | with_reducible rfl
        try simp only [Act.put, List.setIfInBounds_toArray, List.set_cons_zero, List.set_cons_succ]
        refine wpAnyH_take (i := 4) (oi := { dst := some 26, op := Op.call { callee := Callee.builtin Builtin.len, args := #[Operand.tmp 25], argTypes := #[70] }, type := 3, pos := "reasm.go:77", after := #[{ on := 3, ground := Ground.data }], guard := none }) (v := ?_) rfl (by kernel_rfl) (by kernel_rfl) (by kernel_rfl) (fun _ _ _ h => h) (Or.inl ⟨by rfl, ?_⟩) (by assumption) ?_
        rotate_left 1
        · intro w hSw
          go_simp
          first | done | with_reducible rfl
        try simp only [Act.put, List.setIfInBounds_toArray, List.set_cons_zero, List.set_cons_succ]
        refine wpAnyH_take (i := 5) (oi := { dst := some 27, op := Op.binOp BinOp.gtr 3 (Operand.tmp 26) (Operand.const (Value.int IntKind.i64 0)) 3, type := 4, pos := "reasm.go:77", after := #[{ on := 4, ground := Ground.data }], guard := none }) (v := .bool false) rfl (by kernel_rfl) (by kernel_rfl) (by kernel_rfl) (fun _ _ _ h => h) (Or.inl ⟨by rfl, ?_⟩) (by assumption) ?_
        · intro w hSw
          go_simp
          first | done | with_reducible rfl
        try simp only [Act.put, List.setIfInBounds_toArray, List.set_cons_zero, List.set_cons_succ]
        refine wpAnyH_take (i := 6) (oi := { dst := some 28, op := Op.move (Operand.tmp 27), type := 4, pos := "reasm.go:77", after := #[{ on := 5, ground := Ground.data }], guard := none }) (v := .bool false) rfl (by kernel_rfl) (by kernel_rfl) (by kernel_rfl) (fun _ _ _ h => h) (Or.inl ⟨by rfl, ?_⟩) (by assumption) ?_
        · intro w hSw
          go_simp
          first | done | with_reducible rfl
        try simp only [Act.put, List.setIfInBounds_toArray, List.set_cons_zero, List.set_cons_succ]
        refine wpAnyH_take (i := 7) (oi := { dst := some 29, op := Op.move (Operand.tmp 0), type := 69, pos := "reasm.go:77", after := #[{ on := 6, ground := Ground.guard }], guard := some (6, true) }) (v := undef) rfl (by kernel_rfl) (by kernel_rfl) (by kernel_rfl) (fun _ _ _ h => h) (Or.inr ⟨by rfl, rfl⟩) (by assumption) ?_
        try simp only [Act.put, List.setIfInBounds_toArray, List.set_cons_zero, List.set_cons_succ]
        refine wpAnyH_take (i := 8) (oi := { dst := some 30, op := Op.nilCheck (Operand.tmp 29), type := 0, pos := "reasm.go:77", after := #[{ on := 7, ground := Ground.data }, { on := 6, ground := Ground.guard }], guard := some (6, true) }) (v := undef) rfl (by kernel_rfl) (by kernel_rfl) (by kernel_rfl) (fun _ _ _ h => h) (Or.inr ⟨by rfl, rfl⟩) (by assumption) ?_
        try simp only [Act.put, List.setIfInBounds_toArray, List.set_cons_zero, List.set_cons_succ]
        refine wpAnyH_take (i := 9) (oi := { dst := some 31, op := Op.fieldAddr 72 (Operand.tmp 30) 0, type := 0, pos := "reasm.go:77", after := #[{ on := 8, ground := Ground.data }, { on := 6, ground := Ground.guard }], guard := some (6, true) }) (v := undef) rfl (by kernel_rfl) (by kernel_rfl) (by kernel_rfl) (fun _ _ _ h => h) (Or.inr ⟨by rfl, rfl⟩) (by assumption) ?_
        try simp only [Act.put, List.setIfInBounds_toArray, List.set_cons_zero, List.set_cons_succ]
        refine wpAnyH_take (i := 10) (oi := { dst := some 32, op := Op.load 70 (Operand.tmp 31), type := 70, pos := "reasm.go:77", after := #[{ on := 9, ground := Ground.data }, { on := 6, ground := Ground.guard }], guard := some (6, true) }) (v := undef) rfl (by kernel_rfl) (by kernel_rfl) (by kernel_rfl) (fun _ _ _ h => h) (Or.inr ⟨by rfl, rfl⟩) (by assumption) ?_
        try simp only [Act.put, List.setIfInBounds_toArray, List.set_cons_zero, List.set_cons_succ]
        refine wpAnyH_take (i := 11) (oi := { dst := some 33, op := Op.move (Operand.tmp 0), type := 69, pos := "reasm.go:77", after := #[{ on := 6, ground := Ground.guard }], guard := some (6, true) }) (v := undef) rfl (by kernel_rfl) (by kernel_rfl) (by kernel_rfl) (fun _ _ _ h => h) (Or.inr ⟨by rfl, rfl⟩) (by assumption) ?_
        try simp only [Act.put, List.setIfInBounds_toArray, List.set_cons_zero, List.set_cons_succ]
        refine wpAnyH_take (i := 12) (oi := { dst := some 34, op := Op.nilCheck (Operand.tmp 33), type := 0, pos := "reasm.go:77", after := #[{ on := 11, ground := Ground.data }, { on := 6, ground := Ground.guard }], guard := some (6, true) }) (v := undef) rfl (by kernel_rfl) (by kernel_rfl) (by kernel_rfl) (fun _ _ _ h => h) (Or.inr ⟨by rfl, rfl⟩) (by assumption) ?_
        try simp only [Act.put, List.setIfInBounds_toArray, List.set_cons_zero, List.set_cons_succ]
        refine wpAnyH_take (i := 13) (oi := { dst := some 35, op := Op.fieldAddr 72 (Operand.tmp 34) 0, type := 0, pos := "reasm.go:77", after := #[{ on := 12, ground := Ground.data }, { on := 6, ground := Ground.guard }], guard := some (6, true) }) (v := undef) rfl (by kernel_rfl) (by kernel_rfl) (by kernel_rfl) (fun _ _ _ h => h) (Or.inr ⟨by rfl, rfl⟩) (by assumption) ?_
        try simp only [Act.put, List.setIfInBounds_toArray, List.set_cons_zero, List.set_cons_succ]
        refine wpAnyH_take (i := 14) (oi := { dst := some 36, op := Op.load 70 (Operand.tmp 35), type := 70, pos := "reasm.go:77", after := #[{ on := 13, ground := Ground.data }, { on := 6, ground := Ground.guard }], guard := some (6, true) }) (v := undef) rfl (by kernel_rfl) (by kernel_rfl) (by kernel_rfl) (fun _ _ _ h => h) (Or.inr ⟨by rfl, rfl⟩) (by assumption) ?_
        try simp only [Act.put, List.setIfInBounds_toArray, List.set_cons_zero, List.set_cons_succ]
        refine wpAnyH_take (i := 15) (oi := { dst := some 37, op := Op.call { callee := Callee.builtin Builtin.len, args := #[Operand.tmp 36], argTypes := #[70] }, type := 3, pos := "reasm.go:77", after := #[{ on := 14, ground := Ground.data }, { on := 6, ground := Ground.guard }], guard := some (6, true) }) (v := undef) rfl (by kernel_rfl) (by kernel_rfl) (by kernel_rfl) (fun _ _ _ h => h) (Or.inr ⟨by rfl, rfl⟩) (by assumption) ?_
        try simp only [Act.put, List.setIfInBounds_toArray, List.set_cons_zero, List.set_cons_succ]
        refine wpAnyH_take (i := 16) (oi := { dst := some 38, op := Op.binOp BinOp.sub 3 (Operand.tmp 37) (Operand.const (Value.int IntKind.i64 1)) 3, type := 3, pos := "reasm.go:77", after := #[{ on := 15, ground := Ground.data }, { on := 6, ground := Ground.guard }], guard := some (6, true) }) (v := undef) rfl (by kernel_rfl) (by kernel_rfl) (by kernel_rfl) (fun _ _ _ h => h) (Or.inr ⟨by rfl, rfl⟩) (by assumption) ?_
        try simp only [Act.put, List.setIfInBounds_toArray, List.set_cons_zero, List.set_cons_succ]
        refine wpAnyH_take (i := 17) (oi := { dst := some 39, op := Op.indexAddr 70 (Operand.tmp 32) (Operand.tmp 38), type := 0, pos := "reasm.go:77", after := #[{ on := 10, ground := Ground.data }, { on := 16, ground := Ground.data }, { on := 6, ground := Ground.guard }], guard := some (6, true) }) (v := undef) rfl (by kernel_rfl) (by kernel_rfl) (by kernel_rfl) (fun _ _ _ h => h) (Or.inr ⟨by rfl, rfl⟩) (by assumption) ?_
        try simp only [Act.put, List.setIfInBounds_toArray, List.set_cons_zero, List.set_cons_succ]
        refine wpAnyH_take (i := 18) (oi := { dst := some 40, op := Op.load 74 (Operand.tmp 39), type := 74, pos := "reasm.go:77", after := #[{ on := 17, ground := Ground.data }, { on := 6, ground := Ground.guard }], guard := some (6, true) }) (v := undef) rfl (by kernel_rfl) (by kernel_rfl) (by kernel_rfl) (fun _ _ _ h => h) (Or.inr ⟨by rfl, rfl⟩) (by assumption) ?_
        try simp only [Act.put, List.setIfInBounds_toArray, List.set_cons_zero, List.set_cons_succ]
        refine wpAnyH_take (i := 19) (oi := { dst := some 41, op := Op.call { callee := Callee.value (Operand.func 62), args := #[Operand.tmp 40], argTypes := #[74] }, type := 4, pos := "reasm.go:77", after := #[{ on := 18, ground := Ground.data }, { on := 6, ground := Ground.chain }, { on := 6, ground := Ground.guard }], guard := some (6, true) }) (v := undef) rfl (by kernel_rfl) (by kernel_rfl) (by kernel_rfl) (fun _ _ _ h => h) (Or.inr ⟨by rfl, rfl⟩) (by assumption) ?_
        try simp only [Act.put, List.setIfInBounds_toArray, List.set_cons_zero, List.set_cons_succ]
        refine wpAnyH_take (i := 20) (oi := { dst := some 42, op := Op.pick (Operand.tmp 28) (Operand.tmp 41) (Operand.const (Value.bool false)), type := 4, pos := "reasm.go:77", after := #[{ on := 6, ground := Ground.data }, { on := 19, ground := Ground.data }], guard := none }) (v := .bool false) rfl (by kernel_rfl) (by kernel_rfl) (by kernel_rfl) (fun _ _ _ h => h) (Or.inl ⟨by rfl, ?_⟩) (by assumption) ?_
        · intro w hSw
          go_simp
          first | done | with_reducible rfl
        try simp only [Act.put, List.setIfInBounds_toArray, List.set_cons_zero, List.set_cons_succ]
        refine wpAnyH_ready (rs := [21]) (by kernel_rfl) (by simp) ?_
        refine AllReadyH.cons (o := { dst := some 2, op := Op.assign (Operand.tmp 42), type := 4, pos := "reasm.go:77", after := #[{ on := 20, ground := Ground.data }, { on := 19, ground := Ground.chain }, { on := 0, ground := Ground.phase }, { on := 1, ground := Ground.phase }, { on := 2, ground := Ground.phase }, { on := 3, ground := Ground.phase }, { on := 4, ground := Ground.phase }, { on := 5, ground := Ground.phase }, { on := 6, ground := Ground.phase }, { on := 7, ground := Ground.phase }, { on := 8, ground := Ground.phase }, { on := 9, ground := Ground.phase }, { on := 10, ground := Ground.phase }, { on := 11, ground := Ground.phase }, { on := 12, ground := Ground.phase }, { on := 13, ground := Ground.phase }, { on := 14, ground := Ground.phase }, { on := 15, ground := Ground.phase }, { on := 16, ground := Ground.phase }, { on := 17, ground := Ground.phase }, { on := 18, ground := Ground.phase }, { on := 19, ground := Ground.phase }, { on := 20, ground := Ground.phase }], guard := none }) rfl (fun K hK => ?_) AllReadyH.nil
        go_simp
        refine hK.out _ _ hHeld (fun hHeld => ?_)
        clear hK K
        try simp only [Act.put, List.setIfInBounds_toArray, List.set_cons_zero, List.set_cons_succ]
        refine wpAnyH_done (by kernel_rfl) ?_ _
        simp only [Exit.then]
        go_wp2_with (fail)
        go_ret
        exact ⟨by rw [HR.out]; rfl, hHeld.2⟩
end Go.Proofs.Ythdkbocokefdhaa
