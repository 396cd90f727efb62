import Derived.Test.YthdkbocokefdhaaWh
import Derived.Test.YthdkbocokefdhaaBld
/- An entry that is whole is finished. -/
namespace Go.Proofs.Ythdkbocokefdhaa
set_option maxRecDepth 100000
open Go.RowKit
/-- what a table is like while an entry is finished -/
structure FB (Tb E M : Nat) (a0 a1 a2 tot age : Int) (v : Value) (d : Bool) (w wr : World) : Prop where
  tb : wr.heap[Tb]? = some (.cells #[.int .i64 a0, .int .i64 a1, .int .i64 a2, .map (some M), .int .i64 tot] 65 (0, 0))
  eb : wr.heap[E]? = some (.cells #[v, .bool d, .int .i64 age] 72 (0, 0))
  sv : Save [Tb, E] w wr
structure FS (Tb E M X : Nat) (a0 a1 a2 tot age : Int) (v : Value) (d : Bool) (txt : List UInt8) (w wr : World) : Prop where
  fb : FB Tb E M a0 a1 a2 tot age v d w wr
  wt : Bd.IsW X txt wr
  ap : ∀ b, b < w.heap.size → Bd.Apart X b wr
section
variable {Tb E M X : Nat} {a0 a1 a2 tot tot' age : Int} {v v' : Value} {d d' : Bool} {txt txt' : List UInt8} {w wr wr' : World}
theorem FB.below (h : FB Tb E M a0 a1 a2 tot age v d w wr) (hb : Below wr.heap.size wr wr') : FB Tb E M a0 a1 a2 tot age v d w wr' :=
  ⟨(hb.block _ (heap_lt h.tb)).trans h.tb, (hb.block _ (heap_lt h.eb)).trans h.eb, h.sv.trans (Save.of_below hb)⟩
theorem FB.drew (h : FB Tb E M a0 a1 a2 tot age v d w wr) : FB Tb E M a0 a1 a2 tot age v d w wr.drew := ⟨h.tb, h.eb, h.sv.drew⟩
theorem FS.below (h : FS Tb E M X a0 a1 a2 tot age v d txt w wr) (hb : Below wr.heap.size wr wr') : FS Tb E M X a0 a1 a2 tot age v d txt w wr' :=
  ⟨h.fb.below hb, h.wt.keep hb, fun b hb2 => ((Bd.Keeps.of_below hb h.wt.lt).block b (h.ap b hb2)).2⟩
theorem FS.drew (h : FS Tb E M X a0 a1 a2 tot age v d txt w wr) : FS Tb E M X a0 a1 a2 tot age v d txt w wr.drew := ⟨h.fb.drew, h.wt, h.ap⟩
theorem FB.ne (h : FB Tb E M a0 a1 a2 tot age v d w wr) : Tb ≠ E := by
  intro e
  have h1 := h.tb
  rw [e, h.eb] at h1
  simp at h1
theorem FS.keep (h : FS Tb E M X a0 a1 a2 tot age v d txt w wr) (hk : Bd.Keeps X wr wr') (hTw : Tb < w.heap.size := by assumption) (hEw : E < w.heap.size := by assumption) : (∀ b, b < w.heap.size → Bd.Apart X b wr') ∧ FB Tb E M a0 a1 a2 tot age v d w wr' :=
  ⟨fun b hb => (hk.block b (h.ap b hb)).2, ⟨(hk.block Tb (h.ap _ hTw)).1.trans h.fb.tb, (hk.block E (h.ap _ hEw)).1.trans h.fb.eb, ⟨hk.os.trans h.fb.sv.os, hk.tape.trans h.fb.sv.tape, hk.output.trans h.fb.sv.output, Nat.le_trans h.fb.sv.size hk.size, fun k hk2 hn => (hk.block k (h.ap k hk2)).1.trans (h.fb.sv.block k hk2 hn)⟩⟩⟩
theorem FB.setTb (h : FB Tb E M a0 a1 a2 tot age v d w wr) : FB Tb E M a0 a1 a2 tot' age v d w (wr.setCell ⟨Tb, 4, none⟩ (.int .i64 tot')) :=
  ⟨by have := heap_set h.tb (show 4 < 5 by decide) (.int .i64 tot'); exact this, heap_other h.eb (fun e => h.ne e.symm) _ _, h.sv.set (.inl (by simp)) _⟩
theorem FB.setE (h : FB Tb E M a0 a1 a2 tot age v d w wr) : FB Tb E M a0 a1 a2 tot age v' d' w ((wr.setCell ⟨E, 0, none⟩ v').setCell ⟨E, 1, none⟩ (.bool d')) := by
  have h1 := heap_set h.eb (show 0 < 3 by decide) v'
  have h2 := heap_set h1 (show 1 < 3 by decide) (.bool d')
  exact ⟨heap_other (heap_other h.tb h.ne _ _) h.ne _ _, h2, (h.sv.set (.inl (by simp)) _).set (.inl (by simp)) _⟩
theorem FS.set (h : FS Tb E M X a0 a1 a2 tot age v d txt w wr) {Y i : Nat} {x : Value} (hY : Y < w.heap.size) (hf : FB Tb E M a0 a1 a2 tot' age v' d' w (wr.setCell ⟨Y, i, none⟩ x)) : FS Tb E M X a0 a1 a2 tot' age v' d' txt w (wr.setCell ⟨Y, i, none⟩ x) := by
  obtain ⟨p, y, h0, h1, h2, h3, h4⟩ := h.wt
  have hYa := h.ap Y hY
  have hXY : X ≠ Y := fun e => hYa.2.1 e.symm
  have hX := heap_other h1 hXY i x
  refine ⟨hf, ⟨p, y, h0, hX, ?_, h3, h4⟩, fun b hb => ?_⟩
  · exact World.ownsRow.kept (row := some Y) h2 ⟨rfl, rfl, rfl, by simp [World.setCell], fun k hk hn => Below.heap_setCell _ _ _ _ (fun e => hn (by rw [e]))⟩ (by
      cases hv : y.ownBlock with
      | none => exact .inl rfl
      | some k => exact .inr (fun e => hYa.2.2 _ _ h1 (by rw [hv]; exact e)))
  · have := h.ap b hb
    refine ⟨by simpa [World.setCell] using this.1, this.2.1, fun p' v' h' => ?_⟩
    rw [Below.heap_setCell _ _ _ _ hXY] at h'
    exact this.2.2 p' v' h'
end
theorem lenP_take (ps : List Pc) (k : Nat) (h : k < ps.length) : lenP (ps.take (k + 1)) = lenP (ps.take k) + (ps[k]).s.length := by
  unfold lenP
  rw [List.take_succ_eq_append_getElem h, List.map_append, List.sum_append]; simp
theorem txtP_take (ps : List Pc) (k : Nat) (h : k < ps.length) : txtP (ps.take (k + 1)) = txtP (ps.take k) ++ (ps[k]).s := by
  unfold txtP
  rw [List.take_succ_eq_append_getElem h, List.flatMap_append]; simp
theorem lenP_le (ps : List Pc) (k : Nat) : lenP (ps.take k) ≤ lenP ps := by
  have h : lenP ps = lenP (ps.take k) + lenP (ps.drop k) := by
    unfold lenP
    rw [← List.sum_append, ← List.map_append, List.take_append_drop]
  omega
theorem txt_len : ∀ l : List Pc, (txtP l).length = lenP l := by intro l; unfold txtP lenP; rw [List.length_flatMap]
set_option maxHeartbeats 16000000 in
theorem finish_any (Tb E M : Nat) (a0 a1 a2 age : Int) (tot : Nat) (dn : Bool) (v : Value) (ps : List Pc) (w : World)
    (hT : w.heap[Tb]? = some (.cells #[.int .i64 a0, .int .i64 a1, .int .i64 a2, .map (some M), .int .i64 (tot : Nat)] 65 (0, 0)))
    (hE : w.heap[E]? = some (.cells #[v, .bool dn, .int .i64 age] 72 (0, 0))) (hrow : PRow 0 v ps w) (hps : ∀ q ∈ ps, Psm q) (hok : ∀ q ∈ ps, q.h.ok) (hne : ps ≠ []) (hlen : ps.length ≤ 1000000) (htot : lenP ps ≤ tot) (ht9 : tot ≤ 10000000) :
    Calls Try.prog 39 #[.pointer (some ⟨Tb, 0, none⟩), .pointer (some ⟨E, 0, none⟩)] w fun e w' => e = .returned (.tuple #[.string (bs (finE ps).1), .int .i64 ((finE ps).2 : Nat)]) ∧
      w'.heap[Tb]? = some (.cells #[.int .i64 a0, .int .i64 a1, .int .i64 a2, .map (some M), .int .i64 ((tot - lenP ps : Nat) : Int)] 65 (0, 0)) ∧ w'.heap[E]? = some (.cells #[.slice none 0 0, .bool true, .int .i64 age] 72 (0, 0)) ∧ Save [Tb, E] w w' := by
  obtain ⟨rs, hrs⟩ : ∃ x, x = bs (finE ps).1 := ⟨_, rfl⟩
  obtain ⟨rc, hrc⟩ : ∃ x, x = (finE ps).2 := ⟨_, rfl⟩
  rw [← hrs, ← hrc]
  have HR0 := Lib.hid (And.intro hrs hrc)
  clear hrs hrc
  obtain ⟨n, hn⟩ : ∃ n, n = ps.length := ⟨_, rfl⟩
  have hn0 : 0 < n := by rw [hn]; exact List.length_pos_iff.2 hne
  obtain ⟨g, cap, rfl, hg⟩ := slice_form hrow
  obtain ⟨G, rfl⟩ : ∃ k, g = some ⟨k, 0, none⟩ := by
    rcases hg with h | h
    · omega
    · exact h
  rw [← hn] at hE hrow
  have HN := Lib.hid hn
  have hnl : n ≤ 1000000 := by omega
  have HROW := Lib.hid hrow
  have HPS := Lib.hid hps
  have HOK := Lib.hid hok
  have HGL : Hid (G < w.heap.size) := Lib.hid (World.ownsRow.lt hrow G rfl).2
  have HG74 : Hid (∃ cur, w.heap[G]? = some (.cells cur 74 (0, 0))) := Lib.hid (by
    rcases hrow.2 with ⟨e1, _⟩ | ⟨g', cap', cur, e1, _, e3, _⟩
    · cases e1
    · injection e1 with e1 _ _
      injection e1 with e1
      injection e1 with e1
      subst e1
      exact ⟨cur, e3⟩)
  have HGE : Hid (G ≠ E ∧ G ≠ Tb) := Lib.hid ⟨fun e => by obtain ⟨cur, hc⟩ := HG74.out; rw [e, hE] at hc; simp at hc, fun e => by obtain ⟨cur, hc⟩ := HG74.out; rw [e, hT] at hc; simp at hc⟩
  have HTL : Tb < w.heap.size := heap_lt hT
  have HEL : E < w.heap.size := heap_lt hE
  have HTOT := Lib.hid htot
  obtain ⟨X, hX⟩ : ∃ X, X = w.heap.size := ⟨_, rfl⟩
  obtain ⟨W, hW⟩ : ∃ W, W = w.alloc (.cells #[.pointer none, .slice none 0 0] 115) := ⟨_, rfl⟩
  have F0 : Hid (FS Tb E M X a0 a1 a2 (tot : Nat) age (.slice (some ⟨G, 0, none⟩) n cap) dn [] w W) := Lib.hid (by
    refine ⟨⟨?_, ?_, ?_⟩, ?_, fun b hb => ?_⟩
    · rw [hW, Below.heap_alloc _ _ _ HTL]; exact hT
    · rw [hW, Below.heap_alloc _ _ _ HEL]; exact hE
    · rw [hW]; exact (Save.refl _ _).alloc _
    · rw [hW]; exact Bd.IsW.fresh w hX.symm
    · rw [hW]; exact Bd.fresh_apart w hX.symm (by omega))
  have k0 := cellAt (i := 0) (v := .slice (some ⟨G, 0, none⟩) n cap) F0.out.fb.eb rfl
  have HTLh := Lib.hid HTL
  have HELh := Lib.hid HEL
  have HXl : Hid (X = w.heap.size) := Lib.hid hX
  clear hn hrow hps hok hne hlen hE hT htot HTL HEL
  go_enter Try.func39, Try.ntmps39
  go_upto_region 2 with (fail)
  rw [← hW, ← hX]
  clear hW hX
  go_wp2_with (fail)
  go_loopw [15] (fun i wr => ∃ (k : Nat), k ≤ n ∧ i = .int .i64 k ∧ Hid (FS Tb E M X a0 a1 a2 ((tot - lenP (ps.take k) : Nat) : Int) age (.slice (some ⟨G, 0, none⟩) n cap) dn (txtP (ps.take k)) w wr)) (fun i _ => n - (intOf i).toNat)
  case atStart => exact ⟨0, by omega, rfl, F0.out⟩
  case round =>
    obtain ⟨k, hk, rfl, hst⟩ := hrel
    have hrb : ∀ j x, (prow ps)[j]? = some x → wr.cell? ⟨G, j, none⟩ = some x := fun j x hx => by
      have h1 := World.ownsRow.cells HROW.out rfl j x hx
      have h2 : (⟨G, 0, none⟩ : Addr).add j = ⟨G, j, none⟩ := by unfold Addr.add; split <;> simp_all
      have h3 : w.cell? ⟨G, j, none⟩ = some x := by rw [← h2]; exact h1
      have h4 := hst.out.fb.sv.block G HGL.out (by have := HGE.out; simp; omega)
      exact (World.cell?_of_block (w := w) (a := ⟨G, j, none⟩) h4).trans h3
    by_cases hlt : k < n
    · have hkl : k < ps.length := by have := HN.out; omega
      have cl : ∀ j x, (pcells ps[k])[j]? = some x → j < 12 → wr.cell? ⟨G, k * 12 + j, none⟩ = some x := fun j x hx hj => hrb _ _ (by rw [prow_at ps k j hkl hj]; exact hx)
      have hq : Psm ps[k] := HPS.out _ (List.getElem_mem _)
      have hL1 := lenP_take ps k hkl
      have hX1 := txtP_take ps k hkl
      have hL2 := lenP_le ps (k + 1)
      have hsl := hq.len
      have hT9 : lenP ps ≤ tot := HTOT.out
      obtain ⟨q, hqe⟩ : ∃ q, q = ps[k] := ⟨_, rfl⟩
      rw [← hqe] at hL1 hX1 cl hsl
      clear hqe hq
      obtain ⟨⟨b0, b1, b2, b3, b4, b5, b6, b7, b8, b9⟩, sb⟩ := q
      unfold pcells at cl
      simp only at cl hL1 hX1 hsl
      obtain ⟨fb, hfb⟩ : ∃ x, x = 8 * b2 := ⟨_, rfl⟩
      rw [← hfb] at cl
      have l0 := cl 0 (.int .i64 b0) rfl (by decide)
      have l1 := cl 1 (.int .i64 b1) rfl (by decide)
      have l2 := cl 2 (.int .i64 b2) rfl (by decide)
      have l3 := cl 3 (.int .i64 b3) rfl (by decide)
      have l4 := cl 4 (.int .i64 b4) rfl (by decide)
      have l5 := cl 5 (.bool b5) rfl (by decide)
      have l6 := cl 6 (.bool b6) rfl (by decide)
      have l7 := cl 7 (.string (bs b7)) rfl (by decide)
      have l8 := cl 8 (.string (bs b8)) rfl (by decide)
      have l9 := cl 9 (.string (bs b9)) rfl (by decide)
      have l10 := cl 10 (.int .i64 fb) rfl (by decide)
      have l11 := cl 11 (.string (bs sb)) rfl (by decide)
      rw [Nat.add_zero] at l0
      obtain ⟨t0, ht0⟩ : ∃ t, t = tot - lenP (ps.take k) := ⟨_, rfl⟩
      obtain ⟨t1, ht1⟩ : ∃ t, t = tot - lenP (ps.take (k + 1)) := ⟨_, rfl⟩
      have hwr : IntKind.i64.wrap (t1 : Int) = (t1 : Int) := IntWalk.i64_in _ (by omega)
      have hsub : (t0 : Int) - (sb.length : Int) = (t1 : Int) := by omega
      have hst2 := hst.out
      rw [← ht0] at hst2
      have hT1 := Lib.hid ht1
      obtain ⟨C, hC⟩ : ∃ C, C = wr.heap.size := ⟨_, rfl⟩
      obtain ⟨W2, hW2⟩ : ∃ W, W = wr.alloc (.cells #[.int .i64 b0, .int .i64 b1, .int .i64 b2, .int .i64 b3, .int .i64 b4, .bool b5, .bool b6, .string (bs b7), .string (bs b8), .string (bs b9), .int .i64 fb, .string (bs sb)] 74) := ⟨_, rfl⟩
      have F2 : Hid (FS Tb E M X a0 a1 a2 (t0 : Nat) age (.slice (some ⟨G, 0, none⟩) n cap) dn (txtP (ps.take k)) w W2) := Lib.hid (by rw [hW2]; exact hst2.below ((Below.refl _ _).alloc (Nat.le_refl _) _))
      have HC2 : Hid (W2.heap[C]? = some (.cells #[.int .i64 b0, .int .i64 b1, .int .i64 b2, .int .i64 b3, .int .i64 b4, .bool b5, .bool b6, .string (bs b7), .string (bs b8), .string (bs b9), .int .i64 fb, .string (bs sb)] 74 (0, 0))) := Lib.hid (by rw [hW2, hC]; exact alloc_new _ _)
      have HCA : Hid (Bd.Apart X C W2) := Lib.hid (by rw [hW2]; exact hst2.wt.apart hC.symm _)
      have CW := Lib.hid (Bd.wtext_k X (txtP (ps.take k)) (bs sb) W2 F2.out.wt (by rw [txt_len]; have := lenP_le ps k; omega) (by rw [bs_size]; omega))
      have m11 := cellAt (i := 11) (v := .string (bs sb)) HC2.out rfl
      have zsb : (bs sb).size = sb.length := bs_size _
      have HX1 := Lib.hid hX1
      clear cl hrb hfb ht0 ht1 hst2 hkl hL1 hL2 hX1
      go_upto_region 5 with (fail)
      rw [← hW2, ← hC]
      clear hW2 hC l0 l1 l2 l3 l4 l5 l6 l7 l8 l9 l10 l11
      go_upto_region 6 with (go_at_call 67; (with_reducible refine CW.out.mono ?_); rintro e w3 ⟨rfl, hw3, hk3⟩)
      have HT9 : Tb < w.heap.size := HTLh.out
      have HE9 : E < w.heap.size := HELh.out
      have hkp := F2.out.keep hk3 HT9 HE9
      rw [bs_list, ← HX1.out] at hw3
      have F3 : Hid (FS Tb E M X a0 a1 a2 (t0 : Nat) age (.slice (some ⟨G, 0, none⟩) n cap) dn (txtP (ps.take (k + 1))) w w3) := Lib.hid ⟨hkp.2, hw3, hkp.1⟩
      have HC3 : Hid (w3.heap[C]? = some (.cells #[.int .i64 b0, .int .i64 b1, .int .i64 b2, .int .i64 b3, .int .i64 b4, .bool b5, .bool b6, .string (bs b7), .string (bs b8), .string (bs b9), .int .i64 fb, .string (bs sb)] 74 (0, 0))) := Lib.hid ((hk3.block C HCA.out).1.trans HC2.out)
      have HCT : Hid (C ≠ Tb) := Lib.hid (fun e => by have h1 := HC3.out; rw [e, F3.out.fb.tb] at h1; simp at h1)
      have kT := cellAt (i := 4) (v := .int .i64 (t0 : Nat)) F3.out.drew.fb.tb rfl
      have fT := Lib.frozen_of_heap F3.out.drew.fb.tb 4
      clear hw3 hk3 hkp CW m11 HT9 HE9
      refine wp_region_held_drew (S := fun V => V.heap[C]? = some (.cells #[.int .i64 b0, .int .i64 b1, .int .i64 b2, .int .i64 b3, .int .i64 b4, .bool b5, .bool b6, .string (bs b7), .string (bs b8), .string (bs b9), .int .i64 fb, .string (bs sb)] 74 (0, 0))) (by kernel_rfl) HC3.out (fun hHeld => ?_)
      refine wpAnyH_take (i := 0) (oi := { dst := some 22, op := Op.move (Operand.tmp 0), type := 27, pos := "reasm.go:85", after := #[], guard := none }) (v := ?_) rfl (by kernel_rfl) (by kernel_rfl) (by kernel_rfl) (fun _ _ _ h => h) (Or.inl ⟨by rfl, ?_⟩) (by assumption) ?_
      rotate_left 1
      · intro w hSw
        go_simp
        first | done | with_reducible rfl
      try simp only [Act.put, List.setIfInBounds_toArray, List.set_cons_zero, List.set_cons_succ]
      refine wpAnyH_take (i := 1) (oi := { dst := some 23, op := Op.nilCheck (Operand.tmp 22), type := 0, pos := "reasm.go:85", after := #[{ on := 0, ground := Ground.data }], guard := none }) (v := ?_) rfl (by kernel_rfl) (by kernel_rfl) (by kernel_rfl) (fun _ _ _ h => h) (Or.inl ⟨by rfl, ?_⟩) (by assumption) ?_
      rotate_left 1
      · intro w hSw
        go_simp
        first | done | with_reducible rfl
      try simp only [Act.put, List.setIfInBounds_toArray, List.set_cons_zero, List.set_cons_succ]
      refine wpAnyH_take (i := 2) (oi := { dst := some 24, op := Op.fieldAddr 65 (Operand.tmp 23) 2, type := 0, pos := "reasm.go:85", after := #[{ on := 1, ground := Ground.data }], guard := none }) (v := ?_) rfl (by kernel_rfl) (by kernel_rfl) (by kernel_rfl) (fun _ _ _ h => h) (Or.inl ⟨by rfl, ?_⟩) (by assumption) ?_
      rotate_left 1
      · intro w hSw
        go_simp
        first | done | with_reducible rfl
      try simp only [Act.put, List.setIfInBounds_toArray, List.set_cons_zero, List.set_cons_succ]
      refine wpAnyH_take (i := 4) (oi := { dst := some 26, op := Op.fieldAddr 74 (Operand.tmp 8) 2, type := 0, pos := "reasm.go:85", after := #[], guard := none }) (v := ?_) rfl (by kernel_rfl) (by kernel_rfl) (by kernel_rfl) (fun _ _ _ h => h) (Or.inl ⟨by rfl, ?_⟩) (by assumption) ?_
      rotate_left 1
      · intro w hSw
        go_simp
        first | done | with_reducible rfl
      try simp only [Act.put, List.setIfInBounds_toArray, List.set_cons_zero, List.set_cons_succ]
      refine wpAnyH_take (i := 5) (oi := { dst := some 27, op := Op.load 9 (Operand.tmp 26), type := 9, pos := "reasm.go:85", after := #[{ on := 4, ground := Ground.data }], guard := none }) (v := ?_) rfl (by kernel_rfl) (by kernel_rfl) (by kernel_rfl) (fun _ _ _ h => h) (Or.inl ⟨by rfl, ?_⟩) (by assumption) ?_
      rotate_left 1
      · intro w hSw
        have q0 := cellAt (i := 11) (v := .string (bs sb)) hSw rfl
        go_simp
        first | done | with_reducible rfl
      try simp only [Act.put, List.setIfInBounds_toArray, List.set_cons_zero, List.set_cons_succ]
      refine wpAnyH_take (i := 6) (oi := { dst := some 28, op := Op.call { callee := Callee.builtin Builtin.len, args := #[Operand.tmp 27], argTypes := #[9] }, type := 3, pos := "reasm.go:85", after := #[{ on := 5, ground := Ground.data }], guard := none }) (v := ?_) rfl (by kernel_rfl) (by kernel_rfl) (by kernel_rfl) (fun _ _ _ h => h) (Or.inl ⟨by rfl, ?_⟩) (by assumption) ?_
      rotate_left 1
      · intro w hSw
        go_simp
        first | done | with_reducible rfl
      try simp only [Act.put, List.setIfInBounds_toArray, List.set_cons_zero, List.set_cons_succ]
      refine wpAnyH_ready (rs := [3]) (by kernel_rfl) (by simp) ?_
      refine AllReadyH.cons (o := { dst := some 25, op := Op.load 3 (Operand.tmp 24), type := 3, pos := "reasm.go:85", after := #[{ on := 2, ground := Ground.data }], guard := none }) rfl (fun K hK => ?_) AllReadyH.nil
      go_simp
      refine hK.out _ _ hHeld (fun hHeld => ?_)
      clear hK K
      try simp only [Act.put, List.setIfInBounds_toArray, List.set_cons_zero, List.set_cons_succ]
      refine wpAnyH_take (i := 7) (oi := { dst := some 29, op := Op.binOp BinOp.sub 3 (Operand.tmp 25) (Operand.tmp 28) 3, type := 3, pos := "reasm.go:85", after := #[{ on := 3, ground := Ground.data }, { on := 6, ground := Ground.data }], guard := none }) (v := ?_) rfl (by kernel_rfl) (by kernel_rfl) (by kernel_rfl) (fun _ _ _ h => h) (Or.inl ⟨by rfl, ?_⟩) (by assumption) ?_
      rotate_left 1
      · intro w hSw
        go_simp
        first | done | with_reducible rfl
      try simp only [Act.put, List.setIfInBounds_toArray, List.set_cons_zero, List.set_cons_succ]
      refine wpAnyH_take (i := 8) (oi := { dst := some 30, op := Op.nilCheck (Operand.tmp 22), type := 0, pos := "reasm.go:85", after := #[{ on := 0, ground := Ground.data }, { on := 0, ground := Ground.phase }, { on := 1, ground := Ground.phase }, { on := 2, ground := Ground.phase }, { on := 3, ground := Ground.phase }, { on := 4, ground := Ground.phase }, { on := 5, ground := Ground.phase }, { on := 6, ground := Ground.phase }, { on := 7, ground := Ground.phase }], guard := none }) (v := ?_) rfl (by kernel_rfl) (by kernel_rfl) (by kernel_rfl) (fun _ _ _ h => h) (Or.inl ⟨by rfl, ?_⟩) (by assumption) ?_
      rotate_left 1
      · intro w hSw
        go_simp
        first | done | with_reducible rfl
      try simp only [Act.put, List.setIfInBounds_toArray, List.set_cons_zero, List.set_cons_succ]
      refine wpAnyH_take (i := 9) (oi := { dst := some 31, op := Op.fieldAddr 65 (Operand.tmp 30) 2, type := 0, pos := "reasm.go:85", after := #[{ on := 8, ground := Ground.data }, { on := 0, ground := Ground.phase }, { on := 1, ground := Ground.phase }, { on := 2, ground := Ground.phase }, { on := 3, ground := Ground.phase }, { on := 4, ground := Ground.phase }, { on := 5, ground := Ground.phase }, { on := 6, ground := Ground.phase }, { on := 7, ground := Ground.phase }], guard := none }) (v := ?_) rfl (by kernel_rfl) (by kernel_rfl) (by kernel_rfl) (fun _ _ _ h => h) (Or.inl ⟨by rfl, ?_⟩) (by assumption) ?_
      rotate_left 1
      · intro w hSw
        go_simp
        first | done | with_reducible rfl
      try simp only [Act.put, List.setIfInBounds_toArray, List.set_cons_zero, List.set_cons_succ]
      refine wpAnyH_ready (rs := [10]) (by kernel_rfl) (by simp) ?_
      refine AllReadyH.cons (o := { dst := none, op := Op.store 3 (Operand.tmp 31) (Operand.tmp 29), type := 0, pos := "reasm.go:85", after := #[{ on := 9, ground := Ground.data }, { on := 7, ground := Ground.data }, { on := 0, ground := Ground.phase }, { on := 1, ground := Ground.phase }, { on := 2, ground := Ground.phase }, { on := 3, ground := Ground.phase }, { on := 4, ground := Ground.phase }, { on := 5, ground := Ground.phase }, { on := 6, ground := Ground.phase }, { on := 7, ground := Ground.phase }], guard := none }) rfl (fun K hK => ?_) AllReadyH.nil
      go_simp
      refine hK.out _ _ (heap_other hHeld HCT.out _ _) (fun hHeld => ?_)
      clear hK K
      try simp only [Act.put, List.setIfInBounds_toArray, List.set_cons_zero, List.set_cons_succ]
      refine wpAnyH_done (by kernel_rfl) ?_ _
      obtain ⟨W6, hW6⟩ : ∃ W, W = (w3.setCell ⟨Tb, 4, none⟩ (.int .i64 (t1 : Nat))).drew := ⟨_, rfl⟩
      have HT9 : Tb < w.heap.size := HTLh.out
      have F6 : Hid (FS Tb E M X a0 a1 a2 (t1 : Nat) age (.slice (some ⟨G, 0, none⟩) n cap) dn (txtP (ps.take (k + 1))) w W6) := Lib.hid (by rw [hW6]; exact (F3.out.set HT9 F3.out.fb.setTb).drew)
      rw [← hW6]
      clear hW6 kT fT
      go_wp2_with (fail)
      exact ⟨⟨k + 1, by omega, by go_num, by rw [← hT1.out]; exact F6.out⟩, by simp [intOf] <;> omega⟩
    · obtain rfl : k = n := by omega
      have hkl : 0 < ps.length := by have := HN.out; omega
      have cl : ∀ j x, (pcells ps[0])[j]? = some x → j < 12 → wr.cell? ⟨G, j, none⟩ = some x := fun j x hx hj => hrb j x (by have := prow_at ps 0 j hkl hj; rw [Nat.zero_mul, Nat.zero_add] at this; rw [this]; exact hx)
      have hst2 := hst.out
      rw [List.take_of_length_le (by have := HN.out; omega)] at hst2
      have hq : Psm ps[0] := HPS.out _ (List.getElem_mem _)
      have hqo : (ps[0]).h.ok := HOK.out _ (List.getElem_mem _)
      have hhd : hdP ps = { (ps[0]).h with mf := false } := by
        unfold hdP
        rw [List.headD_eq_head?_getD, List.head?_eq_getElem?, List.getElem?_eq_getElem hkl]; rfl
      have hfin : Value.tuple #[.string rs, .int .i64 (rc : Nat)] = putR (putE { (ps[0]).h with mf := false } (txtP ps)) := by
        rw [HR0.out.1, HR0.out.2]; unfold finE; rw [hhd]
        cases putE _ (txtP ps) <;> rfl
      have CPA := fun V => put_any { (ps[0]).h with mf := false } (txtP ps) V (by have h1 := hqo.src; have h2 := hqo.dst; have h3 := hqo.opt; simp only; omega) (by rw [txt_len]; have : lenP ps ≤ tot := HTOT.out; omega)
      rw [← hfin] at CPA
      obtain ⟨q, hqe⟩ : ∃ q, q = ps[0] := ⟨_, rfl⟩
      rw [← hqe] at CPA cl
      clear hfin hhd hqo hq hqe hrb
      obtain ⟨⟨b0, b1, b2, b3, b4, b5, b6, b7, b8, b9⟩, sb⟩ := q
      unfold pcells at cl
      unfold hv hc at CPA
      simp only at cl CPA
      have CP := Lib.hid CPA
      have l0 := cl 0 (.int .i64 b0) rfl (by decide)
      have l1 := cl 1 (.int .i64 b1) rfl (by decide)
      have l2 := cl 2 (.int .i64 b2) rfl (by decide)
      have l3 := cl 3 (.int .i64 b3) rfl (by decide)
      have l4 := cl 4 (.int .i64 b4) rfl (by decide)
      have l5 := cl 5 (.bool b5) rfl (by decide)
      have l6 := cl 6 (.bool b6) rfl (by decide)
      have l7 := cl 7 (.string (bs b7)) rfl (by decide)
      have l8 := cl 8 (.string (bs b8)) rfl (by decide)
      have l9 := cl 9 (.string (bs b9)) rfl (by decide)
      have kE := cellAt (i := 0) (v := .slice (some ⟨G, 0, none⟩) k cap) hst2.fb.eb rfl
      obtain ⟨HB, hHB⟩ : ∃ C, C = wr.heap.size := ⟨_, rfl⟩
      obtain ⟨W3, hW3⟩ : ∃ W, W = wr.alloc (.cells #[.int .i64 b0, .int .i64 b1, .int .i64 b2, .int .i64 b3, .int .i64 b4, .bool b5, .bool b6, .string (bs b7), .string (bs b8), .string (bs b9)] 43) := ⟨_, rfl⟩
      have F3 : Hid (FS Tb E M X a0 a1 a2 ((tot - lenP ps : Nat) : Int) age (.slice (some ⟨G, 0, none⟩) k cap) dn (txtP ps) w W3) := Lib.hid (by rw [hW3]; exact hst2.below ((Below.refl _ _).alloc (Nat.le_refl _) _))
      have HH3 : Hid (W3.heap[HB]? = some (.cells #[.int .i64 b0, .int .i64 b1, .int .i64 b2, .int .i64 b3, .int .i64 b4, .bool b5, .bool b6, .string (bs b7), .string (bs b8), .string (bs b9)] 43 (0, 0))) := Lib.hid (by rw [hW3, hHB]; exact alloc_new _ _)
      have HHA : Hid (Bd.Apart X HB W3) := Lib.hid (by rw [hW3]; exact hst2.wt.apart hHB.symm _)
      have HHX : Hid (HB ≠ E ∧ HB ≠ Tb) := Lib.hid ⟨fun e => by have h1 := HH3.out; rw [e, F3.out.fb.eb] at h1; simp at h1, fun e => by have h1 := HH3.out; rw [e, F3.out.fb.tb] at h1; simp at h1⟩
      clear cl CPA hkl hst2
      go_upto_region 9 with (fail)
      rw [← hW3, ← hHB]
      have HHBl : Hid (HB = wr.heap.size) := Lib.hid hHB
      clear hW3 hHB l0 l1 l2 l3 l4 l5 l6 l7 l8 l9 kE
      have k6 := cellAt (i := 6) (v := .bool b6) HH3.out rfl
      have f6 := Lib.frozen_of_heap HH3.out 6
      go_upto_region 10 with (fail)
      obtain ⟨W4, hW4⟩ : ∃ W, W = W3.setCell ⟨HB, 6, none⟩ (.bool false) := ⟨_, rfl⟩
      have HH4 : Hid (W4.heap[HB]? = some (.cells #[.int .i64 b0, .int .i64 b1, .int .i64 b2, .int .i64 b3, .int .i64 b4, .bool b5, .bool false, .string (bs b7), .string (bs b8), .string (bs b9)] 43 (0, 0))) := Lib.hid (by rw [hW4]; exact heap_set HH3.out (show 6 < 10 by decide) _)
      have F4 : Hid (FS Tb E M X a0 a1 a2 ((tot - lenP ps : Nat) : Int) age (.slice (some ⟨G, 0, none⟩) k cap) dn (txtP ps) w W4 ∧ Bd.Apart X HB W4) := Lib.hid (by
        obtain ⟨p, y, h0, h1, h2, h3, h4⟩ := F3.out.wt
        have hXY : X ≠ HB := fun e => HHA.out.2.1 e.symm
        have hsame : ∀ b, b ≠ HB → W4.heap[b]? = W3.heap[b]? := fun b hb => by rw [hW4]; exact Below.heap_setCell _ _ _ _ hb
        have hsz : W4.heap.size = W3.heap.size := by rw [hW4]; simp [World.setCell]
        have hap : ∀ b, Bd.Apart X b W3 → Bd.Apart X b W4 := fun b hb => ⟨by rw [hsz]; exact hb.1, hb.2.1, fun p' v' h' => hb.2.2 p' v' (by rw [← hsame X hXY]; exact h')⟩
        refine ⟨⟨⟨(hsame _ (fun e => HHX.out.2 e.symm)).trans F3.out.fb.tb, (hsame _ (fun e => HHX.out.1 e.symm)).trans F3.out.fb.eb, ?_⟩, ⟨p, y, h0, (hsame X hXY).trans h1, ?_, h3, h4⟩, fun b hb => hap b (F3.out.ap b hb)⟩, hap HB HHA.out⟩
        · rw [hW4]
          refine F3.out.fb.sv.set (.inr ?_) _
          have h9 : HB = wr.heap.size := HHBl.out
          have := hst.out.fb.sv.size
          simp only; omega
        · exact World.ownsRow.kept (row := some HB) h2 ⟨by rw [hW4]; rfl, by rw [hW4]; rfl, by rw [hW4]; rfl, by rw [hsz]; exact Nat.le_refl _, fun k hk hn => hsame k (fun e => hn (by rw [e]))⟩ (by
            cases hv : y.ownBlock with
            | none => exact .inl rfl
            | some k => exact .inr (fun e => HHA.out.2.2 _ _ h1 (by rw [hv]; exact e))))
      rw [← hW4]
      clear hW4 k6 f6
      have k0 := cellAt (i := 0) (v := .slice (some ⟨G, 0, none⟩) k cap) F4.out.1.fb.eb rfl
      have k1 := cellAt (i := 1) (v := .bool dn) F4.out.1.fb.eb rfl
      have f0 := Lib.frozen_of_heap F4.out.1.fb.eb 0
      have f1 := Lib.frozen_of_heap F4.out.1.fb.eb 1
      go_upto_region 11 with (fail)
      obtain ⟨W5, hW5⟩ : ∃ W, W = (W4.setCell ⟨E, 0, none⟩ (.slice none 0 0)).setCell ⟨E, 1, none⟩ (.bool true) := ⟨_, rfl⟩
      have HE9 : E < w.heap.size := HELh.out
      have FB5 : FB Tb E M a0 a1 a2 ((tot - lenP ps : Nat) : Int) age (.slice none 0 0) true w W5 := by rw [hW5]; exact F4.out.1.fb.setE
      have HS9 : Hid (FS Tb E M X a0 a1 a2 ((tot - lenP ps : Nat) : Int) age (.slice none 0 0) true (txtP ps) w W5.drew) := Lib.hid (by
        have h1 : FB Tb E M a0 a1 a2 ((tot - lenP ps : Nat) : Int) age (.slice none 0 0) dn w (W4.setCell ⟨E, 0, none⟩ (.slice none 0 0)) := ⟨heap_other F4.out.1.fb.tb F4.out.1.fb.ne _ _, heap_set F4.out.1.fb.eb (show 0 < 3 by decide) _, F4.out.1.fb.sv.set (.inl (by simp)) _⟩
        have h2 := F4.out.1.set HE9 h1
        have h3 := h2.set (i := 1) (x := .bool true) HE9 (by rw [← hW5]; exact FB5)
        rw [← hW5] at h3
        exact h3.drew)
      have HHE : HB ≠ E := HHX.out.1
      have HH5 : Hid (W5.drew.heap[HB]? = some (.cells #[.int .i64 b0, .int .i64 b1, .int .i64 b2, .int .i64 b3, .int .i64 b4, .bool b5, .bool false, .string (bs b7), .string (bs b8), .string (bs b9)] 43 (0, 0))) := Lib.hid (by show W5.heap[HB]? = _; rw [hW5]; exact heap_other (heap_other HH4.out HHE _ _) HHE _ _)
      have HAH : Hid (∀ V, FS Tb E M X a0 a1 a2 ((tot - lenP ps : Nat) : Int) age (.slice none 0 0) true (txtP ps) w V → Bd.Apart X HB W5.drew) := Lib.hid (fun V _ => by
        have hb := F4.out.2
        have hXE : X ≠ E := by have h9 : X = w.heap.size := HXl.out; omega
        refine ⟨by have := hb.1; rw [hW5]; simpa [World.setCell] using this, hb.2.1, fun p' v' h' => hb.2.2 p' v' ?_⟩
        have h8 : W5.heap[X]? = W4.heap[X]? := by rw [hW5, Below.heap_setCell _ _ _ _ hXE, Below.heap_setCell _ _ _ _ hXE]
        rw [← h8]; exact h')
      rw [← hW5]
      clear hW5 k0 k1 f0 f1 FB5
      have CS := Lib.hid (Bd.bstr_k X (txtP ps) W5.drew HS9.out.wt)
      have HT9 : Tb < w.heap.size := HTLh.out
      refine wp_region_held_drew (S := fun V => V.heap[HB]? = some (.cells #[.int .i64 b0, .int .i64 b1, .int .i64 b2, .int .i64 b3, .int .i64 b4, .bool b5, .bool false, .string (bs b7), .string (bs b8), .string (bs b9)] 43 (0, 0)) ∧ FB Tb E M a0 a1 a2 ((tot - lenP ps : Nat) : Int) age (.slice none 0 0) true w V) (by kernel_rfl) ⟨HH5.out, HS9.out.fb⟩ (fun hHeld => ?_)
      refine wpAnyH_take (i := 0) (oi := { dst := some 47, op := Op.load 43 (Operand.tmp 9), type := 43, pos := "reasm.go:90", after := #[], guard := none }) (v := ?_) rfl (by kernel_rfl) (by kernel_rfl) (by kernel_rfl) (fun _ _ _ h => h) (Or.inl ⟨by rfl, ?_⟩) (by assumption) ?_
      rotate_left 1
      · intro w hSw
        have qH := hSw.1
        have q0 := cellAt (i := 0) (v := .int .i64 b0) qH rfl
        have q1 := cellAt (i := 1) (v := .int .i64 b1) qH rfl
        have q2 := cellAt (i := 2) (v := .int .i64 b2) qH rfl
        have q3 := cellAt (i := 3) (v := .int .i64 b3) qH rfl
        have q4 := cellAt (i := 4) (v := .int .i64 b4) qH rfl
        have q5 := cellAt (i := 5) (v := .bool b5) qH rfl
        have q6 := cellAt (i := 6) (v := .bool false) qH rfl
        have q7 := cellAt (i := 7) (v := .string (bs b7)) qH rfl
        have q8 := cellAt (i := 8) (v := .string (bs b8)) qH rfl
        have q9 := cellAt (i := 9) (v := .string (bs b9)) qH rfl
        go_simp
        first | done | with_reducible rfl
      try simp only [Act.put, List.setIfInBounds_toArray, List.set_cons_zero, List.set_cons_succ]
      refine wpAnyH_ready (rs := [1]) (by kernel_rfl) (by simp) ?_
      refine AllReadyH.cons (o := { dst := some 48, op := Op.call { callee := Callee.value (Operand.func 68), args := #[Operand.tmp 6], argTypes := #[115] }, type := 9, pos := "reasm.go:90", after := #[], guard := none }) rfl (fun K hK => ?_) AllReadyH.nil
      go_simp
      (go_at_call 68; (with_reducible refine CS.out.mono ?_); rintro e w5 ⟨rfl, hk5⟩)
      go_simp
      refine hK.out _ _ ⟨(hk5.block HB (HAH.out _ HS9.out)).1.trans hHeld.1, (HS9.out.keep hk5).2⟩ (fun hHeld => ?_)
      clear hK K
      try simp only [Act.put, List.setIfInBounds_toArray, List.set_cons_zero, List.set_cons_succ]
      refine wpAnyH_ready (rs := [2]) (by kernel_rfl) (by simp) ?_
      refine AllReadyH.cons (o := { dst := some 49, op := Op.call { callee := Callee.value (Operand.func 50), args := #[Operand.tmp 47, Operand.tmp 48], argTypes := #[43, 9] }, type := 37, pos := "reasm.go:90", after := #[{ on := 0, ground := Ground.data }, { on := 1, ground := Ground.data }, { on := 1, ground := Ground.chain }], guard := none }) rfl (fun K hK => ?_) AllReadyH.nil
      go_simp
      (go_at_call 50; (with_reducible refine (CP.out _).mono ?_); rintro e w6 ⟨rfl, hb6⟩)
      go_simp
      refine hK.out _ _ ⟨(hb6.block _ (heap_lt hHeld.1)).trans hHeld.1, hHeld.2.below hb6⟩ (fun hHeld => ?_)
      clear hK K
      try simp only [Act.put, List.setIfInBounds_toArray, List.set_cons_zero, List.set_cons_succ]
      refine wpAnyH_take (i := 3) (oi := { dst := some 50, op := Op.extract (Operand.tmp 49) 0, type := 9, pos := "reasm.go:90", after := #[{ on := 2, ground := Ground.data }], guard := none }) (v := ?_) rfl (by kernel_rfl) (by kernel_rfl) (by kernel_rfl) (fun _ _ _ h => h) (Or.inl ⟨by rfl, ?_⟩) (by assumption) ?_
      rotate_left 1
      · intro w hSw
        go_simp
        first | done | with_reducible rfl
      try simp only [Act.put, List.setIfInBounds_toArray, List.set_cons_zero, List.set_cons_succ]
      refine wpAnyH_take (i := 4) (oi := { dst := some 51, op := Op.extract (Operand.tmp 49) 1, type := 28, pos := "reasm.go:90", after := #[{ on := 2, ground := Ground.data }], guard := none }) (v := ?_) rfl (by kernel_rfl) (by kernel_rfl) (by kernel_rfl) (fun _ _ _ h => h) (Or.inl ⟨by rfl, ?_⟩) (by assumption) ?_
      rotate_left 1
      · intro w hSw
        go_simp
        first | done | with_reducible rfl
      try simp only [Act.put, List.setIfInBounds_toArray, List.set_cons_zero, List.set_cons_succ]
      refine wpAnyH_ready (rs := [5]) (by kernel_rfl) (by simp) ?_
      refine AllReadyH.cons (o := { dst := some 4, op := Op.assign (Operand.tmp 50), type := 9, pos := "reasm.go:90", after := #[{ on := 3, ground := Ground.data }, { on := 2, ground := Ground.chain }, { on := 0, ground := Ground.phase }, { on := 1, ground := Ground.phase }, { on := 2, ground := Ground.phase }, { on := 3, ground := Ground.phase }, { on := 4, ground := Ground.phase }], guard := none }) rfl (fun K hK => ?_) AllReadyH.nil
      go_simp
      refine hK.out _ _ hHeld (fun hHeld => ?_)
      clear hK K
      try simp only [Act.put, List.setIfInBounds_toArray, List.set_cons_zero, List.set_cons_succ]
      refine wpAnyH_ready (rs := [6]) (by kernel_rfl) (by simp) ?_
      refine AllReadyH.cons (o := { dst := some 5, op := Op.assign (Operand.tmp 51), type := 28, pos := "reasm.go:90", after := #[{ on := 4, ground := Ground.data }, { on := 5, ground := Ground.chain }, { on := 0, ground := Ground.phase }, { on := 1, ground := Ground.phase }, { on := 2, ground := Ground.phase }, { on := 3, ground := Ground.phase }, { on := 4, ground := Ground.phase }, { on := 5, ground := Ground.phase }], guard := none }) rfl (fun K hK => ?_) AllReadyH.nil
      go_simp
      refine hK.out _ _ hHeld (fun hHeld => ?_)
      clear hK K
      try simp only [Act.put, List.setIfInBounds_toArray, List.set_cons_zero, List.set_cons_succ]
      refine wpAnyH_done (by kernel_rfl) ?_ _
      simp only [Exit.then]
      go_wp2_with (fail)
      go_ret2
      exact ⟨rfl, hHeld.2.tb, hHeld.2.eb, hHeld.2.sv⟩
end Go.Proofs.Ythdkbocokefdhaa
