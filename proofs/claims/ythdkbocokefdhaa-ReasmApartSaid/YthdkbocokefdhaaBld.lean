import Derived.Test.YthdkbocokefdhaaWri
/- A strings.Builder in a block of its own. -/
namespace Go.Proofs.Ythdkbocokefdhaa
set_option maxRecDepth 100000
open Go.RowKit
namespace Bd
theorem info74 : ∃ j, Try.prog.info? 115 = some j ∧ j.size = 2 := by
  have h : (Try.prog.info? 115).map (·.size) = some 2 := by kernel_rfl
  exact Option.map_eq_some_iff.1 h
theorem lies76 : liesAt Try.prog Try.prog.depth 115 (2 / Try.prog.cellsOf 115) 0 115 1 = true := by kernel_rfl
set_option maxHeartbeats 1000000 in
set_option maxRecDepth 100000 in
theorem check_used (b : Nat) (w : World) (h0 : w.cell? ⟨b, 0, none⟩ = some (.pointer (some ⟨b, 0, none⟩))) :
    Calls Try.prog 90 #[.pointer (some ⟨b, 0, none⟩)] w fun e w' => e = .returned (.tuple #[]) ∧ w' = w := by
  obtain ⟨j, hj, _⟩ := info74
  go_enter Try.func90, Try.ntmps90
  go_wp2
  rw [Lib.run_neq_ptr_same w _ Try.underlying113 hj]
  go_wp2
  go_end0
  exact ⟨rfl, rfl⟩
set_option maxHeartbeats 1000000 in
set_option maxRecDepth 100000 in
theorem check_fresh (b : Nat) (w : World) (h0 : w.cell? ⟨b, 0, none⟩ = some (.pointer none)) (hsh : w.shape? b = some (115, 2)) (hfz : w.frozen? ⟨b, 0, none⟩ = false) :
    Calls Try.prog 90 #[.pointer (some ⟨b, 0, none⟩)] w fun e w' => e = .returned (.tuple #[]) ∧ w' = w.setCell ⟨b, 0, none⟩ (.pointer (some ⟨b, 0, none⟩)) := by
  obtain ⟨j, hj, hjs⟩ := info74
  go_enter Try.func90, Try.ntmps90
  go_wp2
  rw [Lib.run_to_unsafe w ⟨b, 0, none⟩ Try.underlying113 Try.underlying162 hj (by rw [hjs]; decide) hsh (Nat.zero_lt_succ 1)]
  simp only [Result.andThen]
  rw [Oper.upon_value]
  go_wp2
  rw [run_callFunc_extern Try.func105 (by kernel_rfl) (by kernel_rfl) (by kernel_rfl) (e := Extern.AbiNoEscape.same) (by kernel_rfl)]
  rw [Lib.run_noEscape]
  simp only [Result.andThen]
  rw [Oper.upon_value]
  go_wp2
  rw [Lib.run_from_unsafe w ⟨b, 0, none⟩ Try.underlying162 Try.underlying113 hj hsh lies76]
  simp only [Result.andThen]
  rw [Oper.upon_value]
  go_wp2
  go_end0
  exact ⟨rfl, rfl⟩
/-- block x is neither the writer's nor its row's -/
def Apart (b x : Nat) (w : World) : Prop := x < w.heap.size ∧ x ≠ b ∧ ∀ p v, w.heap[b]? = some (.cells #[p, v] 115 (0, 0)) → v.ownBlock ≠ some x
structure Keeps (b : Nat) (w w' : World) : Prop where
  os : w'.os = w.os
  tape : w'.tape = w.tape
  output : w'.output = w.output
  size : w.heap.size ≤ w'.heap.size
  block : ∀ x, Apart b x w → w'.heap[x]? = w.heap[x]? ∧ Apart b x w'
theorem Keeps.refl (b : Nat) (w : World) : Keeps b w w := ⟨rfl, rfl, rfl, Nat.le_refl _, fun _ h => ⟨rfl, h⟩⟩
theorem Keeps.trans {b : Nat} {w w1 w2 : World} (h : Keeps b w w1) (k : Keeps b w1 w2) : Keeps b w w2 :=
  ⟨k.os.trans h.os, k.tape.trans h.tape, k.output.trans h.output, Nat.le_trans h.size k.size, fun x hx => by
    obtain ⟨h1, h2⟩ := h.block x hx
    obtain ⟨h3, h4⟩ := k.block x h2
    exact ⟨h3.trans h1, h4⟩⟩
theorem Keeps.of_below {b : Nat} {w w' : World} (h : Below w.heap.size w w') (hb : b < w.heap.size) : Keeps b w w' :=
  ⟨h.os, h.tape, h.output, h.size, fun x hx => ⟨h.block x hx.1, Nat.lt_of_lt_of_le hx.1 h.size, hx.2.1, fun p v hv => hx.2.2 p v (by rw [← h.block b hb]; exact hv)⟩⟩
theorem Keeps.below {b B : Nat} {w w' : World} (h : Keeps b w w') (hB : ∀ x, x < B → Apart b x w) : Below B w w' :=
  ⟨h.os, h.tape, h.output, h.size, fun x hx => (h.block x (hB x hx)).1⟩
/-- the writer in block b, with the bytes l -/
def IsW (b : Nat) (l : List UInt8) (w : World) : Prop := ∃ p v, (p = .pointer none ∨ p = .pointer (some ⟨b, 0, none⟩)) ∧ w.heap[b]? = some (.cells #[p, v] 115 (0, 0)) ∧ w.ownsRow 0 5 1 v l.length (Lib.byteCells l) ∧ v.ownBlock ≠ some b ∧ (l = [] → v = .slice none 0 0)
theorem IsW.lt {b : Nat} {l : List UInt8} {w : World} (h : IsW b l w) : b < w.heap.size := by
  obtain ⟨p, v, _, h, _⟩ := h; exact heap_lt h
theorem IsW.apart {b x : Nat} {l : List UInt8} {w : World} (h : IsW b l w) (hx : w.heap.size = x) (o : Obj) : Apart b x (w.alloc o) := by
  obtain ⟨p, v, _, h1, h2, _, _⟩ := h
  have hb := heap_lt h1
  refine ⟨by rw [World.size_alloc]; omega, by omega, fun p' v' h' => ?_⟩
  rw [Below.heap_alloc _ _ _ hb, h1] at h'
  obtain ⟨rfl, rfl⟩ : p = p' ∧ v = v' := by simpa using h'
  intro hk
  have := (World.ownsRow.lt h2 x hk).2
  omega
theorem IsW.fresh {b : Nat} (w : World) (hb : w.heap.size = b) : IsW b [] (w.alloc (.cells #[.pointer none, .slice none 0 0] 115)) := by
  subst hb
  exact ⟨_, _, .inl rfl, alloc_new _ _, World.ownsRow_nil _ _ _ _, by simp [Value.ownBlock], fun _ => rfl⟩
theorem fresh_apart {b x : Nat} (w : World) (hb : w.heap.size = b) (hx : x < b) : Apart b x (w.alloc (.cells #[.pointer none, .slice none 0 0] 115)) := by
  subst hb
  refine ⟨by rw [World.size_alloc]; omega, by omega, fun p' v' h' => ?_⟩
  rw [alloc_new] at h'
  obtain ⟨rfl, rfl⟩ : Value.pointer none = p' ∧ Value.slice none 0 0 = v' := by simpa using h'
  simp [Value.ownBlock]
theorem IsW.keep {b : Nat} {l : List UInt8} {w w' : World} (h : IsW b l w) (hb : Below w.heap.size w w') : IsW b l w' := by
  obtain ⟨p, v, h0, h1, h2, h3, h4⟩ := h
  refine ⟨p, v, h0, (hb.block b (heap_lt h1)).trans h1, ?_, h3, h4⟩
  exact World.ownsRow.kept (row := none) h2 ⟨hb.os, hb.tape, hb.output, hb.size, fun k hk _ => hb.block k hk⟩ (by
    cases hv : v.ownBlock with
    | none => exact .inl rfl
    | some k => exact .inr (by simp))
set_option maxHeartbeats 1000000 in
theorem check_k (b : Nat) (l : List UInt8) (w : World) (h : IsW b l w) :
    Calls Try.prog 90 #[.pointer (some ⟨b, 0, none⟩)] w fun e w' => e = .returned (.tuple #[]) ∧ Keeps b w w' ∧ ∃ v, w'.heap[b]? = some (.cells #[.pointer (some ⟨b, 0, none⟩), v] 115 (0, 0)) ∧ w'.ownsRow 0 5 1 v l.length (Lib.byteCells l) ∧ v.ownBlock ≠ some b ∧ (l = [] → v = .slice none 0 0) := by
  obtain ⟨p, v, hp, h1, h2, h3, h4⟩ := h
  rcases hp with rfl | rfl
  · refine (check_fresh b w (cellAt h1 rfl) (by simp [World.shape?, h1]) (Lib.frozen_of_heap h1 0)).mono ?_
    rintro e w' ⟨rfl, rfl⟩
    have g1 := heap_set h1 (i := 0) (by simp) (.pointer (some ⟨b, 0, none⟩))
    refine ⟨rfl, ⟨rfl, rfl, rfl, by simp [World.setCell], fun x hx => ⟨Below.heap_setCell _ _ _ _ (by simpa using hx.2.1), by simpa [World.setCell] using hx.1, hx.2.1, fun p' v' h' => ?_⟩⟩, v, g1, ?_, h3, h4⟩
    · rw [g1] at h'
      obtain ⟨_, rfl⟩ : _ ∧ v = v' := by simpa using h'
      exact hx.2.2 _ _ h1
    · refine World.ownsRow.kept (row := some b) h2 ⟨rfl, rfl, rfl, by simp [World.setCell], fun k hk hn => Below.heap_setCell _ _ _ _ (fun e => hn (by simpa using e))⟩ (.inr h3)
  · refine (check_used b w (cellAt h1 rfl)).mono ?_
    rintro e w' ⟨rfl, rfl⟩
    exact ⟨rfl, Keeps.refl _ _, v, h1, h2, h3, h4⟩
theorem grown_block {b : Nat} {w1 w2 : World} {v : Value} {o : Obj} (h1 : w1.heap[b]? = some o) (hv : v.ownBlock ≠ some b) (hg : w1.grownBy w2 v.ownBlock) : w2.heap[b]? = some o := by
  rw [hg.block b (heap_lt h1) (fun e => hv e.symm)]; exact h1
theorem keeps_put {b : Nat} {w1 w2 : World} {p v v' : Value} (h1 : w1.heap[b]? = some (.cells #[p, v] 115 (0, 0))) (hv : v.ownBlock ≠ some b) (hg : w1.grownBy w2 v.ownBlock) (hloc : v'.ownBlock = v.ownBlock ∨ ∀ k, v'.ownBlock = some k → w1.heap.size ≤ k) : Keeps b w1 (w2.setCell ⟨b, 1, none⟩ v') := by
  have h2 := grown_block h1 hv hg
  have h3 := heap_set h2 (i := 1) (by simp) v'
  refine ⟨hg.os, hg.tape, hg.output, by simpa [World.setCell] using hg.size, fun x hx => ⟨?_, ?_, hx.2.1, fun p' u h' => ?_⟩⟩
  · rw [Below.heap_setCell _ _ _ _ (by simpa using hx.2.1)]
    exact hg.block x hx.1 (fun e => hx.2.2 _ _ h1 e.symm)
  · have := hg.size; have := hx.1; simp [World.setCell]; omega
  · rw [h3] at h'
    obtain ⟨_, rfl⟩ : _ ∧ v' = u := by simpa using h'
    rcases hloc with h | h
    · rw [h]; exact hx.2.2 _ _ h1
    · intro e; have := h x e; have := hx.1; omega
theorem isw_put {b : Nat} {w1 w2 : World} {v v' : Value} {l : List UInt8} (h1 : w1.heap[b]? = some (.cells #[.pointer (some ⟨b, 0, none⟩), v] 115 (0, 0))) (hv : v.ownBlock ≠ some b) (hg : w1.grownBy w2 v.ownBlock) (hloc : v'.ownBlock = v.ownBlock ∨ ∀ k, v'.ownBlock = some k → w1.heap.size ≤ k)
    (hown : w2.ownsRow 0 5 1 v' l.length (Lib.byteCells l)) (hnil : l = [] → v' = .slice none 0 0) : IsW b l (w2.setCell ⟨b, 1, none⟩ v') := by
  have h2 := grown_block h1 hv hg
  have h3 := heap_set h2 (i := 1) (by simp) v'
  have hb := heap_lt h1
  have hne : v'.ownBlock ≠ some b := by
    rcases hloc with h | h
    · rw [h]; exact hv
    · intro e; have := h b e; omega
  refine ⟨_, v', .inr rfl, h3, ?_, hne, hnil⟩
  exact World.ownsRow.kept (row := some b) hown ⟨rfl, rfl, rfl, by simp [World.setCell], fun k hk hn => Below.heap_setCell _ _ _ _ (fun e => hn (by simpa using e))⟩ (.inr hne)
theorem IsW.drew {b : Nat} {l : List UInt8} {w : World} (h : IsW b l w) : IsW b l w.drew := h
set_option maxHeartbeats 2000000 in
theorem wtext_k (b : Nat) (l : List UInt8) (s : ByteArray) (w : World) (h : IsW b l w) (hlen : l.length ≤ 1000000000000) (hs : s.size ≤ 1000000000000) :
    Calls Try.prog 67 #[.pointer (some ⟨b, 0, none⟩), .string s] w fun e w' => e = .returned (.tuple #[.int .i64 s.size, .nilIface]) ∧ IsW b (l ++ s.data.toList) w' ∧ Keeps b w w' := by
  obtain ⟨i0, hi, hz0, hz1, hz2⟩ := info5
  have hll : (Lib.byteCells l).length = l.length := Lib.byteCells_length l
  have C := Lib.hid (check_k b l w h)
  clear h
  go_enter Try.func67, Try.ntmps67
  go_wp2_with (go_at_call 90; refine C.out.mono ?_)
  rintro e w1 ⟨rfl, hk1, v, hbk, hown, hne, hnl⟩
  have HK1 := Lib.hid hk1
  have c0 : w1.cell? ⟨b, 0, none⟩ = some (.pointer (some ⟨b, 0, none⟩)) := cellAt hbk rfl
  have c1 : w1.cell? ⟨b, 1, none⟩ = some v := cellAt hbk rfl
  have HN := Lib.hid hne
  have HNL := Lib.hid hnl
  have HBK := Lib.hid hbk
  clear hk1 hne hnl
  go_wp2_with (at_builtin; refine wpList_append_str rfl (.tmp 12) (.tmp 13) 53 9 rfl 5 i0 Try.underlying53 Try.underlying9 hi hz0 hz1 hz2 _ _ _ rfl hown s rfl ?c3 ?c4 ?_)
  case c3 => unfold maxLen; omega
  case c4 => omega
  intro v' w2 hown' hgrow hloc hn4
  obtain ⟨va, vn, vc, rfl⟩ : ∃ a n c, v' = .slice a n c := by
    rcases hown'.2 with ⟨h, _⟩ | ⟨g, cap, cur, h, _⟩
    · exact ⟨_, _, _, h⟩
    · exact ⟨_, _, _, h⟩
  have hb2 := grown_block HBK.out HN.out hgrow
  have d0 : w2.cell? ⟨b, 0, none⟩ = some (.pointer (some ⟨b, 0, none⟩)) := cellAt hb2 rfl
  have d1 : w2.cell? ⟨b, 1, none⟩ = some v := cellAt hb2 rfl
  have f1 : w2.frozen? ⟨b, 1, none⟩ = false := Lib.frozen_of_heap hb2 1
  have e1 : l.length + s.size = (l ++ s.data.toList).length := by simp
  have hown2 : w2.ownsRow 0 5 1 (.slice va vn vc) (l ++ s.data.toList).length (Lib.byteCells (l ++ s.data.toList)) := by rw [← e1, byteCells_app, ← strCells_eq]; exact hown'
  have HW := Lib.hid (isw_put HBK.out HN.out hgrow hloc hown2 (fun h => hn4.2 ⟨HNL.out (List.append_eq_nil_iff.1 h).1, by have := congrArg List.length (List.append_eq_nil_iff.1 h).2; simpa using this⟩))
  have HKP := Lib.hid (keeps_put HBK.out HN.out hgrow hloc)
  clear hown' hgrow hloc e1 hown2 hb2 hown hbk c0 c1 hn4
  go_wp2
  go_ret2
  exact ⟨rfl, HW.out, HK1.out.trans HKP.out⟩
set_option maxHeartbeats 1000000 in
theorem bstr_k (b : Nat) (l : List UInt8) (w : World) (h : IsW b l w) :
    Calls Try.prog 68 #[.pointer (some ⟨b, 0, none⟩)] w fun e w' => e = .returned (.string (bs l)) ∧ Keeps b w w' := by
  obtain ⟨p, v, hp, hbk, hown, hne, hnl⟩ := h
  by_cases h0 : l = []
  · obtain rfl := hnl h0
    subst h0
    have c1 : w.drew.cell? ⟨b, 1, none⟩ = some (.slice none 0 0) := by
      have : w.drew.heap[b]? = some (.cells #[p, .slice none 0 0] 115 (0, 0)) := hbk
      exact cellAt this rfl
    have hSD : (Builtin.unsafeSliceData_ #[53] 145 #[.slice none 0 0]).run Try.prog w.drew = .ok (.pointer none) w.drew := by kernel_rfl
    have hUS : (Builtin.unsafeString_ #[145, 3] 9 #[.pointer none, .int .i64 0]).run Try.prog w.drew = .ok (.string ⟨#[]⟩) w.drew := by kernel_rfl
    clear hown hbk hnl
    go_enter Try.func68, Try.ntmps68
    go_wp2
    go_region
    all_goals (go_wp2; go_ret; exact ⟨rfl, ⟨rfl, rfl, rfl, Nat.le_refl _, fun x hx => ⟨rfl, hx⟩⟩⟩)
  · have hl0 : l.length ≠ 0 := by simpa using h0
    obtain ⟨g, cap, cur, rfl, hg, hnc, hcm⟩ : ∃ g cap cur, v = .slice (some ⟨g, 0, none⟩) l.length cap ∧ w.heap[g]? = some (.cells cur 5 (0, 0)) ∧ l.length ≤ cap ∧ cap ≤ maxLen ∧ cur.size = cap * 1 := by
      rcases hown.2 with ⟨_, hz⟩ | ⟨g, cap, cur, hv, hg0, hg, hnc, hcm, hcs, htake⟩
      · exact absurd hz hl0
      · exact ⟨g, cap, cur, hv, hg, hnc, hcm, hcs⟩
    have hgb : g ≠ b := fun e => hne (by rw [e]; rfl)
    have c1 : w.drew.cell? ⟨b, 1, none⟩ = some (.slice (some ⟨g, 0, none⟩) l.length cap) := by
      have : w.drew.heap[b]? = some (.cells #[p, .slice (some ⟨g, 0, none⟩) l.length cap] 115 (0, 0)) := hbk
      exact cellAt this rfl
    have hSD : (Builtin.unsafeSliceData_ #[53] 145 #[.slice (some ⟨g, 0, none⟩) l.length cap]).run Try.prog w.drew = .ok (.pointer (some ⟨g, 0, none⟩)) w.drew :=
      Lib.run_unsafeSliceData_row _ _ _ _ _ _ (by omega)
    have hUS : (Builtin.unsafeString_ #[145, 3] 9 #[.pointer (some ⟨g, 0, none⟩), .int .i64 l.length]).run Try.prog w.drew = .ok (.string ⟨l.toArray⟩) (w.drew.freeze ⟨g, 0, none⟩ l.length) := by
      refine Lib.run_unsafeString_row w.drew 145 3 9 5 Try.underlying145 (by kernel_rfl) g cur.size (by have hg' : w.drew.heap[g]? = some (.cells cur 5 (0, 0)) := hg; simp [World.shape?, hg']) l h0 (by omega) (by unfold maxLen at hcm; omega) ?_
      intro j x hx
      have := hown.cells (g := g) rfl j (.int .u8 x.toNat) (by simp [Lib.byteCells, hx])
      exact this
    have hfr : Hid (Keeps b w (w.drew.freeze ⟨g, 0, none⟩ l.length)) := by
      have hoth : ∀ k, k ≠ g → (w.drew.freeze ⟨g, 0, none⟩ l.length).heap[k]? = w.heap[k]? := fun k hk => by
        unfold World.freeze
        rw [if_neg (by omega)]
        simp only [Array.getElem?_modify]
        rw [if_neg (fun e => hk e.symm)]
        rfl
      have hsz : (w.drew.freeze ⟨g, 0, none⟩ l.length).heap.size = w.heap.size := by
        unfold World.freeze
        rw [if_neg (by omega)]
        simp
      refine ⟨?_, ?_, ?_, by omega, fun x hx => ?_⟩
      · unfold World.freeze; rw [if_neg (by omega)]; rfl
      · unfold World.freeze; rw [if_neg (by omega)]; rfl
      · unfold World.freeze; rw [if_neg (by omega)]; rfl
      · have hxg : x ≠ g := fun e => hx.2.2 _ _ hbk (by rw [e]; rfl)
        refine ⟨hoth x hxg, by rw [hsz]; exact hx.1, hx.2.1, fun p' v' h' => hx.2.2 p' v' ?_⟩
        rw [← hoth b (fun e => hgb e.symm)]; exact h'
    have HL := Lib.hid h0
    clear h0 hown hcm hnc hnl hbk hne
    go_enter Try.func68, Try.ntmps68
    go_wp2
    go_region
    all_goals (go_wp2; go_ret; exact ⟨rfl, hfr.out⟩)
end Bd
end Go.Proofs.Ythdkbocokefdhaa
