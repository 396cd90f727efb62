import Derived.Test.YthdkbocokefdhaaTab
/- A table while a piece is added: plain facts. -/
namespace Go.Proofs.Ythdkbocokefdhaa
set_option maxRecDepth 100000
open Go.RowKit
/-- the entry that a key has, or gets -/
def eOf (L : List En) (k : Ky) : En := (findL L k).getD ⟨k, [], false, 0⟩
def ext (L : List En) (k : Ky) : List En := if k ∈ keysL L then L else L ++ [⟨k, [], false, 0⟩]
theorem eOf_k (L : List En) (k : Ky) : (eOf L k).k = k := by
  unfold eOf
  cases h : findL L k with
  | none => rfl
  | some e => exact (findL_mem h).2
theorem eOf_mem (L : List En) (k : Ky) : eOf L k ∈ ext L k := by
  unfold eOf ext
  cases h : findL L k with
  | none => rw [if_neg (findL_none h)]; simp
  | some e =>
    rw [if_pos (show k ∈ keysL L from List.mem_map.2 ⟨e, (findL_mem h).1, (findL_mem h).2⟩)]
    exact (findL_mem h).1
theorem sub_ext (L : List En) (k : Ky) : ∀ e ∈ L, e ∈ ext L k := fun e he => by
  unfold ext; split
  · exact he
  · exact List.mem_append_left _ he
theorem ext_keys (L : List En) (k : Ky) : k ∈ keysL (ext L k) := List.mem_map.2 ⟨_, eOf_mem L k, eOf_k L k⟩
theorem chg_ext (L : List En) (k : Ky) (e : En) (he : e.k = k) : chg (ext L k) e = putL L e := by
  unfold chg ext putL
  rw [he]
  split
  · rfl
  · rename_i hk
    rw [List.map_append, List.map_cons, List.map_nil, if_pos rfl]
    congr 1
    have h1 : L.map (fun f => if f.k = k then e else f) = L.map id := List.map_congr_left (fun f hf => if_neg (fun e2 => hk (List.mem_map.2 ⟨f, hf, e2⟩)))
    rw [h1, List.map_id]
theorem isSome_keys (L : List En) (k : Ky) : (findL L k).isSome = decide (k ∈ keysL L) := by
  cases h : findL L k with
  | none => exact (decide_eq_false (findL_none h)).symm
  | some e => exact (decide_eq_true (List.mem_map.2 ⟨e, (findL_mem h).1, (findL_mem h).2⟩)).symm
theorem getK_loc (L : List En) (loc : Ky → Nat) (k : Ky) : getK (L.map fun e => (e.k, loc e.k)) k = if k ∈ keysL L then some (loc k) else none := by
  unfold getK
  rw [List.find?_map]
  have : ((fun x : Ky × Nat => decide (x.1 = k)) ∘ fun e : En => (e.k, loc e.k)) = fun e => decide (e.k = k) := rfl
  rw [this]
  cases h : findL L k with
  | none =>
    rw [if_neg (findL_none h)]
    unfold findL at h
    rw [h]; rfl
  | some e =>
    have h2 := findL_mem h
    rw [if_pos (show k ∈ keysL L from List.mem_map.2 ⟨e, h2.1, h2.2⟩)]
    unfold findL at h
    rw [h, Option.map_some, Option.map_some, h2.2]
section
variable {F G : Nat → Prop} {loc : Ky → Nat} {row : Ky → Value} {L : List En} {w w' : World}
theorem Body.extra (h : Body F loc row L w) (hb : Below w.heap.size w w') (hG : ∀ b, G b → F b ∨ (w.heap.size ≤ b ∧ b < w'.heap.size)) : Body G loc row L w' := by
  have h1 := h.below hb
  have hs := hb.size
  refine ⟨fun b hg => ?_, h1.ent, h1.rows, fun e he hg => ?_, fun e he b hb2 hg => ?_, h.sep, h.sepR⟩
  · rcases hG b hg with h2 | h2
    · exact h1.lt b h2
    · exact h2.2
  · rcases hG _ hg with h2 | h2
    · exact h.avL e he h2
    · have := heap_lt (h.ent e he); omega
  · rcases hG _ hg with h2 | h2
    · exact h.avR e he b hb2 h2
    · have := h.rowlt he hb2; omega
end
/-- a table while a piece is added: the piece in P1, its key in K1, its entry at p -/
structure MidS (F : Nat → Prop) (Tb M : Nat) (st : Sto) (L : List En) (k : Ky) (p P1 K1 : Nat) (C D : Array Value) (loc : Ky → Nat) (row : Ky → Value) (w : World) : Prop where
  tb : w.heap[Tb]? = some (.cells #[.int .i64 (st.ents : Nat), .int .i64 (st.bts : Nat), .int .i64 (st.life : Nat), .map (some M), .int .i64 (btsL L : Nat)] 65 (0, 0))
  pm : PM M (L.map fun e => (e.k, loc e.k)) w
  bd : Body (fun b => F b ∨ b = Tb ∨ b = M ∨ b = P1 ∨ b = K1) loc row (ext L k) w
  at' : loc k = p
  hP : w.heap[P1]? = some (.cells C 74 (0, 0))
  hK : w.heap[K1]? = some (.cells D 68 (0, 0))
  fT : ¬ F Tb
  fM : ¬ F M
section
variable {F : Nat → Prop} {Tb M : Nat} {st : Sto} {L : List En} {k : Ky} {p P1 K1 : Nat} {C D : Array Value} {loc : Ky → Nat} {row : Ky → Value} {w w' : World}
theorem MidS.below (h : MidS F Tb M st L k p P1 K1 C D loc row w) (hb : Below w.heap.size w w') : MidS F Tb M st L k p P1 K1 C D loc row w' :=
  ⟨(hb.block _ (heap_lt h.tb)).trans h.tb, h.pm.below hb, h.bd.below hb, h.at', (hb.block _ (heap_lt h.hP)).trans h.hP, (hb.block _ (heap_lt h.hK)).trans h.hK, h.fT, h.fM⟩
theorem MidS.drew (h : MidS F Tb M st L k p P1 K1 C D loc row w) : MidS F Tb M st L k p P1 K1 C D loc row w.drew := ⟨h.tb, h.pm.same rfl, h.bd.drew, h.at', h.hP, h.hK, h.fT, h.fM⟩
theorem MidS.tab (h : MidS F Tb M st L k p P1 K1 C D loc row w) : Tab F Tb M st loc row L w :=
  ⟨h.tb, h.pm, h.fT, h.fM, (h.bd.mono (fun b hb => by
    rcases hb with (h1 | h1 | h1)
    · exact .inl h1
    · exact .inr (.inl h1)
    · exact .inr (.inr (.inl h1)))).sub (sub_ext L k)⟩
theorem MidS.ent (h : MidS F Tb M st L k p P1 K1 C D loc row w) : w.heap[p]? = some (.cells #[row k, .bool (eOf L k).done, .int .i64 ((eOf L k).age : Nat)] 72 (0, 0)) := by
  have := h.bd.ent _ (eOf_mem L k)
  rw [eOf_k, h.at'] at this
  exact this
theorem MidS.rowp (h : MidS F Tb M st L k p P1 K1 C D loc row w) : PRow 0 (row k) (eOf L k).ps w := by
  have := h.bd.rows _ (eOf_mem L k)
  rw [eOf_k] at this
  exact this
/-- where the key has an entry -/
theorem MidS.found {w0 : World} (h : Tab F Tb M st loc row L w0) (hk : k ∈ keysL L) (hb : Below w0.heap.size w0 w) (h1 : w.heap[P1]? = some (.cells C 74 (0, 0))) (h2 : w.heap[K1]? = some (.cells D 68 (0, 0))) (h3 : w0.heap.size ≤ P1) (h4 : w0.heap.size ≤ K1) :
    MidS F Tb M st L k (loc k) P1 K1 C D loc row w := by
  have ht := h.below hb
  refine ⟨ht.tb, ht.pm, ?_, rfl, h1, h2, h.fT, h.fM⟩
  unfold ext; rw [if_pos hk]
  refine h.bd.extra hb (fun b hb2 => ?_)
  rcases hb2 with h5 | h5 | h5 | h5 | h5
  · exact .inl (.inl h5)
  · exact .inl (.inr (.inl h5))
  · exact .inl (.inr (.inr h5))
  · rw [h5]; exact .inr ⟨h3, heap_lt h1⟩
  · rw [h5]; exact .inr ⟨h4, heap_lt h2⟩
/-- where it has none -/
theorem MidS.fresh {w0 : World} (h : Tab F Tb M st loc row L w0) (hk : k ∉ keysL L) (hb : Below w0.heap.size w0 w) (h1 : w.heap[P1]? = some (.cells C 74 (0, 0))) (h2 : w.heap[K1]? = some (.cells D 68 (0, 0))) (h3 : w0.heap.size ≤ P1) (h4 : w0.heap.size ≤ K1) :
    MidS F Tb M st L k w.heap.size P1 K1 C D (updL loc k w.heap.size) (updV row k (.slice none 0 0)) (w.alloc (.cells #[.slice none 0 0, .bool false, .int .i64 ((0 : Nat) : Int)] 72)) := by
  have ht := h.below hb
  have hb1 := (Below.refl w.heap.size w).alloc (Nat.le_refl _) (.cells #[.slice none 0 0, .bool false, .int .i64 ((0 : Nat) : Int)] 72)
  have hbd : Body (fun b => F b ∨ b = Tb ∨ b = M ∨ b = P1 ∨ b = K1) loc row L w := h.bd.extra hb (fun b hb2 => by
    rcases hb2 with h5 | h5 | h5 | h5 | h5
    · exact .inl (.inl h5)
    · exact .inl (.inr (.inl h5))
    · exact .inl (.inr (.inr h5))
    · rw [h5]; exact .inr ⟨h3, heap_lt h1⟩
    · rw [h5]; exact .inr ⟨h4, heap_lt h2⟩)
  refine ⟨(hb1.block _ (heap_lt ht.tb)).trans ht.tb, ?_, ?_, updL_same _ _ _, (hb1.block _ (heap_lt h1)).trans h1, (hb1.block _ (heap_lt h2)).trans h2, h.fT, h.fM⟩
  · have e : (L.map fun e => (e.k, updL loc k w.heap.size e.k)) = L.map fun e => (e.k, loc e.k) := List.map_congr_left (fun e he => by rw [updL_other _ _ (fun e2 => hk (List.mem_map.2 ⟨e, he, e2⟩))])
    rw [e]; exact ht.pm.below hb1
  · unfold ext; rw [if_neg hk]
    exact hbd.add k hk false 0
end
end Go.Proofs.Ythdkbocokefdhaa
