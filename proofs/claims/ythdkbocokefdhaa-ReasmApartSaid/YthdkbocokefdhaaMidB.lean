import Derived.Test.YthdkbocokefdhaaTab
import Derived.Maps.AppendAt
import Derived.Test.YthdkbocokefdhaaAwp
/- A table while a piece is added: plain facts. -/
namespace Go.Proofs.Ythdkbocokefdhaa
set_option maxRecDepth 100000
open Go.RowKit
/-- the entry that a key has, or gets -/
def eOf (L : List En) (k : Ky) : En := (findL L k).getD ⟨k, [], false, 0⟩
def ext (L : List En) (k : Ky) : List En := if k ∈ keysL L then L else L ++ [⟨k, [], false, 0⟩]
theorem eOf_k (L : List En) (k : Ky) : (eOf L k).k = k := by
  unfold eOf
  cases h : findL L k with
  | none => rfl
  | some e => exact (findL_mem h).2
theorem eOf_mem (L : List En) (k : Ky) : eOf L k ∈ ext L k := by
  unfold eOf ext
  cases h : findL L k with
  | none => rw [if_neg (findL_none h)]; simp
  | some e =>
    rw [if_pos (show k ∈ keysL L from List.mem_map.2 ⟨e, (findL_mem h).1, (findL_mem h).2⟩)]
    exact (findL_mem h).1
theorem sub_ext (L : List En) (k : Ky) : ∀ e ∈ L, e ∈ ext L k := fun e he => by
  unfold ext; split
  · exact he
  · exact List.mem_append_left _ he
theorem ext_keys (L : List En) (k : Ky) : k ∈ keysL (ext L k) := List.mem_map.2 ⟨_, eOf_mem L k, eOf_k L k⟩
theorem chg_ext (L : List En) (k : Ky) (e : En) (he : e.k = k) : chg (ext L k) e = putL L e := by
  unfold chg ext putL
  rw [he]
  split
  · rfl
  · rename_i hk
    rw [List.map_append, List.map_cons, List.map_nil, if_pos rfl]
    congr 1
    have h1 : L.map (fun f => if f.k = k then e else f) = L.map id := List.map_congr_left (fun f hf => if_neg (fun e2 => hk (List.mem_map.2 ⟨f, hf, e2⟩)))
    rw [h1, List.map_id]
theorem isSome_keys (L : List En) (k : Ky) : (findL L k).isSome = decide (k ∈ keysL L) := by
  cases h : findL L k with
  | none => exact (decide_eq_false (findL_none h)).symm
  | some e => exact (decide_eq_true (List.mem_map.2 ⟨e, (findL_mem h).1, (findL_mem h).2⟩)).symm
theorem getK_loc (L : List En) (loc : Ky → Nat) (k : Ky) : getK (L.map fun e => (e.k, loc e.k)) k = if k ∈ keysL L then some (loc k) else none := by
  unfold getK
  rw [List.find?_map]
  have : ((fun x : Ky × Nat => decide (x.1 = k)) ∘ fun e : En => (e.k, loc e.k)) = fun e => decide (e.k = k) := rfl
  rw [this]
  cases h : findL L k with
  | none =>
    rw [if_neg (findL_none h)]
    unfold findL at h
    rw [h]; rfl
  | some e =>
    have h2 := findL_mem h
    rw [if_pos (show k ∈ keysL L from List.mem_map.2 ⟨e, h2.1, h2.2⟩)]
    unfold findL at h
    rw [h, Option.map_some, Option.map_some, h2.2]
section
variable {F G : Nat → Prop} {loc : Ky → Nat} {row : Ky → Value} {L : List En} {w w' : World}
theorem Body.extra (h : Body F loc row L w) (hb : Below w.heap.size w w') (hG : ∀ b, G b → F b ∨ (w.heap.size ≤ b ∧ b < w'.heap.size)) : Body G loc row L w' := by
  have h1 := h.below hb
  have hs := hb.size
  refine ⟨fun b hg => ?_, h1.ent, h1.rows, fun e he hg => ?_, fun e he b hb2 hg => ?_, h.sep, h.sepR⟩
  · rcases hG b hg with h2 | h2
    · exact h1.lt b h2
    · exact h2.2
  · rcases hG _ hg with h2 | h2
    · exact h.avL e he h2
    · have := heap_lt (h.ent e he); omega
  · rcases hG _ hg with h2 | h2
    · exact h.avR e he b hb2 h2
    · have := h.rowlt he hb2; omega
end
/-- a table while a piece is added: the piece in P1, its key in K1, its entry at p -/
structure MidS (F : Nat → Prop) (Tb M : Nat) (st : Sto) (L : List En) (k : Ky) (p P1 K1 : Nat) (C D : Array Value) (loc : Ky → Nat) (row : Ky → Value) (w : World) : Prop where
  tb : w.heap[Tb]? = some (.cells #[.int .i64 (st.ents : Nat), .int .i64 (st.bts : Nat), .int .i64 (st.life : Nat), .map (some M), .int .i64 (btsL L : Nat)] 65 (0, 0))
  pm : PM M (L.map fun e => (e.k, loc e.k)) w
  bd : Body (fun b => F b ∨ b = Tb ∨ b = M ∨ b = P1 ∨ b = K1) loc row (ext L k) w
  at' : loc k = p
  hP : w.heap[P1]? = some (.cells C 74 (0, 0))
  hK : w.heap[K1]? = some (.cells D 68 (0, 0))
  fT : ¬ F Tb
  fM : ¬ F M
section
variable {F : Nat → Prop} {Tb M : Nat} {st : Sto} {L : List En} {k : Ky} {p P1 K1 : Nat} {C D : Array Value} {loc : Ky → Nat} {row : Ky → Value} {w w' : World}
theorem MidS.below (h : MidS F Tb M st L k p P1 K1 C D loc row w) (hb : Below w.heap.size w w') : MidS F Tb M st L k p P1 K1 C D loc row w' :=
  ⟨(hb.block _ (heap_lt h.tb)).trans h.tb, h.pm.below hb, h.bd.below hb, h.at', (hb.block _ (heap_lt h.hP)).trans h.hP, (hb.block _ (heap_lt h.hK)).trans h.hK, h.fT, h.fM⟩
theorem MidS.drew (h : MidS F Tb M st L k p P1 K1 C D loc row w) : MidS F Tb M st L k p P1 K1 C D loc row w.drew := ⟨h.tb, h.pm.same rfl, h.bd.drew, h.at', h.hP, h.hK, h.fT, h.fM⟩
theorem MidS.tab (h : MidS F Tb M st L k p P1 K1 C D loc row w) : Tab F Tb M st loc row L w :=
  ⟨h.tb, h.pm, h.fT, h.fM, (h.bd.mono (fun b hb => by
    rcases hb with (h1 | h1 | h1)
    · exact .inl h1
    · exact .inr (.inl h1)
    · exact .inr (.inr (.inl h1)))).sub (sub_ext L k)⟩
theorem MidS.ent (h : MidS F Tb M st L k p P1 K1 C D loc row w) : w.heap[p]? = some (.cells #[row k, .bool (eOf L k).done, .int .i64 ((eOf L k).age : Nat)] 72 (0, 0)) := by
  have := h.bd.ent _ (eOf_mem L k)
  rw [eOf_k, h.at'] at this
  exact this
theorem MidS.rowp (h : MidS F Tb M st L k p P1 K1 C D loc row w) : PRow 0 (row k) (eOf L k).ps w := by
  have := h.bd.rows _ (eOf_mem L k)
  rw [eOf_k] at this
  exact this
/-- where the key has an entry -/
theorem MidS.found {w0 : World} (h : Tab F Tb M st loc row L w0) (hk : k ∈ keysL L) (hb : Below w0.heap.size w0 w) (h1 : w.heap[P1]? = some (.cells C 74 (0, 0))) (h2 : w.heap[K1]? = some (.cells D 68 (0, 0))) (h3 : w0.heap.size ≤ P1) (h4 : w0.heap.size ≤ K1) :
    MidS F Tb M st L k (loc k) P1 K1 C D loc row w := by
  have ht := h.below hb
  refine ⟨ht.tb, ht.pm, ?_, rfl, h1, h2, h.fT, h.fM⟩
  unfold ext; rw [if_pos hk]
  refine h.bd.extra hb (fun b hb2 => ?_)
  rcases hb2 with h5 | h5 | h5 | h5 | h5
  · exact .inl (.inl h5)
  · exact .inl (.inr (.inl h5))
  · exact .inl (.inr (.inr h5))
  · rw [h5]; exact .inr ⟨h3, heap_lt h1⟩
  · rw [h5]; exact .inr ⟨h4, heap_lt h2⟩
/-- where it has none -/
theorem MidS.fresh {w0 : World} (h : Tab F Tb M st loc row L w0) (hk : k ∉ keysL L) (hb : Below w0.heap.size w0 w) (h1 : w.heap[P1]? = some (.cells C 74 (0, 0))) (h2 : w.heap[K1]? = some (.cells D 68 (0, 0))) (h3 : w0.heap.size ≤ P1) (h4 : w0.heap.size ≤ K1) :
    MidS F Tb M st L k w.heap.size P1 K1 C D (updL loc k w.heap.size) (updV row k (.slice none 0 0)) (w.alloc (.cells #[.slice none 0 0, .bool false, .int .i64 ((0 : Nat) : Int)] 72)) := by
  have ht := h.below hb
  have hb1 := (Below.refl w.heap.size w).alloc (Nat.le_refl _) (.cells #[.slice none 0 0, .bool false, .int .i64 ((0 : Nat) : Int)] 72)
  have hbd : Body (fun b => F b ∨ b = Tb ∨ b = M ∨ b = P1 ∨ b = K1) loc row L w := h.bd.extra hb (fun b hb2 => by
    rcases hb2 with h5 | h5 | h5 | h5 | h5
    · exact .inl (.inl h5)
    · exact .inl (.inr (.inl h5))
    · exact .inl (.inr (.inr h5))
    · rw [h5]; exact .inr ⟨h3, heap_lt h1⟩
    · rw [h5]; exact .inr ⟨h4, heap_lt h2⟩)
  refine ⟨(hb1.block _ (heap_lt ht.tb)).trans ht.tb, ?_, ?_, updL_same _ _ _, (hb1.block _ (heap_lt h1)).trans h1, (hb1.block _ (heap_lt h2)).trans h2, h.fT, h.fM⟩
  · have e : (L.map fun e => (e.k, updL loc k w.heap.size e.k)) = L.map fun e => (e.k, loc e.k) := List.map_congr_left (fun e he => by rw [updL_other _ _ (fun e2 => hk (List.mem_map.2 ⟨e, he, e2⟩))])
    rw [e]; exact ht.pm.below hb1
  · unfold ext; rw [if_neg hk]
    exact hbd.add k hk false 0
end
end Go.Proofs.Ythdkbocokefdhaa
/- A table while a piece is added: the map's entry, the row's last piece, and what is left. -/
namespace Go.Proofs.Ythdkbocokefdhaa
set_option maxRecDepth 100000
open Go.RowKit
section
variable {F : Nat → Prop} {Tb M : Nat} {st : Sto} {L : List En} {k : Ky} {p P1 K1 : Nat} {C D : Array Value} {loc : Ky → Nat} {row : Ky → Value} {w w' : World}
theorem MidS.upd (h : MidS F Tb M st L k p P1 K1 C D loc row w) (hk : Kok k) (hl : L.length ≤ 1000) :
    ∃ w', (Instr.mapUpdate 63 (.map (some M)) (kv k) (.pointer (some ⟨p, 0, none⟩))).run Try.prog w = .ok () w' ∧ PM M ((ext L k).map fun e => (e.k, loc e.k)) w' ∧ w.grownBy w' (some M) := by
  by_cases hm : k ∈ keysL L
  · obtain ⟨e, he, hek⟩ := List.mem_map.1 hm
    obtain ⟨w', h1, h2, h3⟩ := h.pm.again k p (List.mem_map.2 ⟨e, he, by rw [hek, h.at']⟩) (by rw [List.length_map]; omega)
    refine ⟨w', h1, ?_, h3⟩
    unfold ext; rw [if_pos hm]; exact h2
  · obtain ⟨w', h1, h2, h3⟩ := h.pm.put k p hk (fun h2 => by
      obtain ⟨x, hx, hxk⟩ := ks_mem.1 h2
      obtain ⟨e, he, rfl⟩ := List.mem_map.1 hx
      exact hm (List.mem_map.2 ⟨e, he, hxk⟩)) (by rw [List.length_map]; omega)
    refine ⟨w', h1, h2.perm ?_, h3⟩
    unfold ext; rw [if_neg hm, List.map_append]
    have e1 : ([⟨k, [], false, 0⟩] : List En).map (fun e => (e.k, loc e.k)) = [(k, p)] := by simp [h.at']
    rw [e1]
    exact List.perm_append_comm
theorem MidS.tbM (h : MidS F Tb M st L k p P1 K1 C D loc row w) : Tb ≠ M ∧ P1 ≠ M ∧ K1 ≠ M := by
  obtain ⟨Dd, ⟨es, clock, h1, _⟩, _⟩ := h.pm
  refine ⟨fun e => ?_, fun e => ?_, fun e => ?_⟩
  · have := h.tb; rw [e, h1] at this; cases this
  · have := h.hP; rw [e, h1] at this; cases this
  · have := h.hK; rw [e, h1] at this; cases this
end
/-- behind the map's update -/
structure MidT (F : Nat → Prop) (Tb M : Nat) (st : Sto) (L : List En) (tot : Nat) (k : Ky) (p P1 : Nat) (C : Array Value) (loc : Ky → Nat) (row : Ky → Value) (w : World) : Prop where
  tb : w.heap[Tb]? = some (.cells #[.int .i64 (st.ents : Nat), .int .i64 (st.bts : Nat), .int .i64 (st.life : Nat), .map (some M), .int .i64 (tot : Nat)] 65 (0, 0))
  pm : PM M ((ext L k).map fun e => (e.k, loc e.k)) w
  bd : Body (fun b => F b ∨ b = Tb ∨ b = M ∨ b = P1) loc row (ext L k) w
  at' : loc k = p
  hP : w.heap[P1]? = some (.cells C 74 (0, 0))
  fT : ¬ F Tb
  fM : ¬ F M
section
variable {F : Nat → Prop} {Tb M : Nat} {st : Sto} {L : List En} {tot tot' : Nat} {k : Ky} {p P1 K1 : Nat} {C D : Array Value} {loc : Ky → Nat} {row : Ky → Value} {w w' : World}
theorem MidS.toT (h : MidS F Tb M st L k p P1 K1 C D loc row w) (hp : PM M ((ext L k).map fun e => (e.k, loc e.k)) w') (hg : w.grownBy w' (some M)) : MidT F Tb M st L (btsL L) k p P1 C loc row w' := by
  obtain ⟨n1, n2, n3⟩ := h.tbM
  refine ⟨(hg.block _ (heap_lt h.tb) (by simpa using n1)).trans h.tb, hp, (h.bd.grownF hg (.inr (.inr (.inl rfl)))).mono (fun b hb => ?_), h.at', (hg.block _ (heap_lt h.hP) (by simpa using n2)).trans h.hP, h.fT, h.fM⟩
  rcases hb with h1 | h1 | h1 | h1
  · exact .inl h1
  · exact .inr (.inl h1)
  · exact .inr (.inr (.inl h1))
  · exact .inr (.inr (.inr (.inl h1)))
theorem MidT.neM (h : MidT F Tb M st L tot k p P1 C loc row w) : M ≠ Tb := by
  intro e
  obtain ⟨Dd, ⟨es, clock, h1, _⟩, _⟩ := h.pm
  have := h.tb; rw [← e, h1] at this; cases this
theorem MidT.setTb (h : MidT F Tb M st L tot k p P1 C loc row w) : MidT F Tb M st L tot' k p P1 C loc row (w.setCell ⟨Tb, 4, none⟩ (.int .i64 (tot' : Nat))) := by
  have hPT : P1 ≠ Tb := fun e => by have := h.hP; rw [e, h.tb] at this; simp at this
  exact ⟨heap_set h.tb (show 4 < 5 by decide) _, h.pm.same (Below.heap_setCell _ _ _ _ h.neM), h.bd.setF (.inr (.inl rfl)), h.at', heap_other h.hP hPT _ _, h.fT, h.fM⟩
theorem MidT.drew (h : MidT F Tb M st L tot k p P1 C loc row w) : MidT F Tb M st L tot k p P1 C loc row w.drew := ⟨h.tb, h.pm.same rfl, h.bd.drew, h.at', h.hP, h.fT, h.fM⟩
theorem MidT.ent (h : MidT F Tb M st L tot k p P1 C loc row w) : w.heap[p]? = some (.cells #[row k, .bool (eOf L k).done, .int .i64 ((eOf L k).age : Nat)] 72 (0, 0)) := by
  have := h.bd.ent _ (eOf_mem L k)
  rw [eOf_k, h.at'] at this
  exact this
theorem MidT.rowp (h : MidT F Tb M st L tot k p P1 C loc row w) : PRow 0 (row k) (eOf L k).ps w := by
  have := h.bd.rows _ (eOf_mem L k)
  rw [eOf_k] at this
  exact this
/-- the entry is changed: a table again -/
theorem MidT.done (h : MidT F Tb M st L tot k p P1 C loc row w) (e : En) (he : e.k = k) (v : Value) (tot' : Nat) (ht : tot' = btsL (putL L e))
    (hs : w.heap.size ≤ w'.heap.size)
    (hkeep : ∀ b, b < w.heap.size → b ≠ p → b ≠ Tb → (row k).ownBlock ≠ some b → w'.heap[b]? = w.heap[b]?)
    (htb : w'.heap[Tb]? = some (.cells #[.int .i64 (st.ents : Nat), .int .i64 (st.bts : Nat), .int .i64 (st.life : Nat), .map (some M), .int .i64 (tot' : Nat)] 65 (0, 0)))
    (hent : w'.heap[p]? = some (.cells #[v, .bool e.done, .int .i64 (e.age : Nat)] 72 (0, 0))) (hrow : PRow 0 v e.ps w')
    (hv : ∀ b, v.ownBlock = some b → (row k).ownBlock = some b ∨ w.heap.size ≤ b) : Tab F Tb M st loc (updV row k v) (putL L e) w' := by
  have hbd := h.bd
  have hk1 : e.k ∈ keysL (ext L k) := by rw [he]; exact ext_keys L k
  have hpM : M ≠ p ∧ (row k).ownBlock ≠ some M := by
    obtain ⟨Dd, ⟨es, clock, h1, _⟩, _⟩ := h.pm
    refine ⟨fun e2 => ?_, fun e2 => ?_⟩
    · have := h.ent; rw [← e2, h1] at this; cases this
    · obtain ⟨cur, hc⟩ := h.rowp.obj e2; rw [h1] at hc; cases hc
  have hout : ∀ b, (F b ∨ (∃ f ∈ ext L k, f.k ≠ e.k ∧ (b = loc f.k ∨ (row f.k).ownBlock = some b))) → b ≠ Tb := by
    rintro b (hb | ⟨f, hf, _, hb | hb⟩) e2
    · exact h.fT (by rw [← e2]; exact hb)
    · exact h.bd.avL f hf (by rw [← hb, e2]; exact .inr (.inl rfl))
    · exact h.bd.avR f hf b hb (by rw [e2]; exact .inr (.inl rfl))
  have h2 := (hbd.mono (G := F) (fun b hb => .inl hb)).chg e hk1 v (w' := w') hs (fun b hb h1 h3 h4 => hkeep b hb (by rw [he, h.at'] at h1; exact h1) (hout b h4) (by rw [he] at h3; exact h3)) (by rw [he, h.at']; exact hent) hrow (fun b hb => by rw [he]; exact hv b hb)
  rw [chg_ext L k e he, he] at h2
  have hMl := h.pm.lt
  have hMs : w'.heap[M]? = w.heap[M]? := hkeep M hMl hpM.1 h.neM hpM.2
  refine ⟨by rw [← ht]; exact htb, ?_, h.fT, h.fM, ?_⟩
  · have e1 : ((putL L e).map fun f => (f.k, loc f.k)) = (ext L k).map fun f => (f.k, loc f.k) := by
      have e2 := chg_keys (ext L k) e
      rw [chg_ext L k e he] at e2
      have e3 : ∀ l : List En, (l.map fun f => (f.k, loc f.k)) = (keysL l).map fun x => (x, loc x) := fun l => by unfold keysL; rw [List.map_map]; rfl
      rw [e3, e3, e2]
    rw [e1]; exact h.pm.same hMs
  · refine ⟨fun b hb => ?_, h2.ent, h2.rows, fun f hf hb => ?_, fun f hf b hb2 hb => ?_, h2.sep, h2.sepR⟩
    · rcases hb with hb | hb | hb
      · exact h2.lt b hb
      · rw [hb]; exact heap_lt htb
      · rw [hb]; exact Nat.lt_of_lt_of_le hMl hs
    · rcases hb with hb | hb | hb
      · exact h2.avL f hf hb
      · have := h2.ent f hf; rw [hb, htb] at this; simp at this
      · have := h2.ent f hf
        obtain ⟨Dd, ⟨es, clock, h3, _⟩, _⟩ := h.pm
        rw [hb, hMs, h3] at this; cases this
    · rcases hb with hb | hb | hb
      · exact h2.avR f hf b hb2 hb
      · obtain ⟨cur, hc⟩ := (h2.rows f hf).obj hb2
        rw [hb, htb] at hc; simp at hc
      · obtain ⟨cur, hc⟩ := (h2.rows f hf).obj hb2
        obtain ⟨Dd, ⟨es, clock, h3, _⟩, _⟩ := h.pm
        rw [hb, hMs, h3] at hc; cases hc
end
theorem info74' : ∃ i, Try.prog.info? 74 = some i ∧ i.zero = some (.agg #[.int .i64 0, .int .i64 0, .int .i64 0, .int .i64 0, .int .i64 0, .bool false, .bool false, .string ⟨#[]⟩, .string ⟨#[]⟩, .string ⟨#[]⟩, .int .i64 0, .string ⟨#[]⟩]) ∧ i.size = 12 ∧ i.bytes = 120 := by
  have h : (Try.prog.info? 74).map (fun i => (i.zero, i.size, i.bytes)) = some (some (.agg #[.int .i64 0, .int .i64 0, .int .i64 0, .int .i64 0, .int .i64 0, .bool false, .bool false, .string ⟨#[]⟩, .string ⟨#[]⟩, .string ⟨#[]⟩, .int .i64 0, .string ⟨#[]⟩]), 12, 120) := by kernel_rfl
  exact info_parts h
theorem cells_at {w : World} {g : Nat} {C : Array Value} {t : TypeId} (hg : w.heap[g]? = some (.cells C t (0, 0))) (j : Nat) (u : Value) (h : C.toList[j]? = some u) : w.cell? ((⟨g, 0, none⟩ : Addr).add j) = some u := by
  have ea : ∀ n, (⟨g, 0, none⟩ : Addr).add n = ⟨g, n, none⟩ := fun n => by unfold Addr.add; split <;> simp_all
  rw [ea, Lib.cell_of_heap hg]
  simpa using h
theorem app_pc {w : World} {v : Value} {ps : List Pc} (h : PRow 0 v ps w) (p : Pc) (g : Nat) (hg : w.heap[g]? = some (.cells (pcells p).toArray 74 (0, 0))) (hlen : ps.length ≤ 1000000) :
    ∃ v' w', (Builtin.append_ #[70, 70] 70 #[v, .slice (some ⟨g, 0, none⟩) 1 1]).run Try.prog w = .ok v' w' ∧ PRow 0 v' (ps ++ [p]) w' ∧ w.grownBy w' v.ownBlock ∧ (v'.ownBlock = v.ownBlock ∨ v'.ownBlock = some w.heap.size) := by
  obtain ⟨i0, hi, hz0, hz1, hz2⟩ := info74'
  obtain ⟨v', w', hr, h2, h3, _, h5⟩ := run_append_own_at (P := Try.prog) w 0 70 70 74 i0 _ 12 120 Try.underlying70 hi hz0 hz1 hz2 rfl (by decide) v ps.length (prow ps) h ⟨g, 0, none⟩ 1 1 (pcells p) rfl (fun j u hu => cells_at hg j u hu)
    (fun u hu => by unfold pcells at hu; simp at hu; rcases hu with rfl | rfl | rfl | rfl | rfl | rfl | rfl | rfl | rfl | rfl | rfl | rfl <;> rfl) (by unfold maxLen; omega) (by omega) (Nat.zero_le _)
  refine ⟨v', w', hr, ?_, h3, h5⟩
  unfold PRow
  rw [List.length_append, prow_app, show prow [p] = pcells p by unfold prow; simp]
  exact h2
/-- a row put in order is the row with the piece at its place -/
theorem ins_sorted {p : Pc} {ps ps' : List Pc} (hs : ps.Pairwise fun a b => a.lo < b.lo) (hok : ∀ q ∈ ps, q.h.ok) (hp : p.h.ok) (hne : ∀ q ∈ ps, p.lo ≠ q.lo) (hperm : ps'.Perm (ps ++ [p])) (hps' : ps'.Pairwise fun a b => a.h.off ≤ b.h.off) : ps' = insP p ps := by
  have h1 := insP_sorted p hs hne
  have hperm2 : ps'.Perm (insP p ps) := hperm.trans (List.perm_append_comm.trans (insP_perm p ps).symm)
  have hok' : ∀ q ∈ ps', q.h.ok := fun q hq => by
    rcases List.mem_append.1 (hperm.mem_iff.1 hq) with h | h
    · exact hok q h
    · rw [List.mem_singleton.1 h]; exact hp
  have hnd : ps'.Pairwise fun a b => a.lo ≠ b.lo := (hperm2.pairwise_iff (fun {a b} h e => h e.symm)).2 (h1.imp (fun {a b} h => by omega))
  have h2 : ps'.Pairwise fun a b => a.lo < b.lo := by
    have h3 := List.pairwise_and_iff.2 ⟨hps', hnd⟩
    refine h3.imp_of_mem (fun {a b} ha hb h => ?_)
    have o1 := (hok' a ha).off
    have o2 := (hok' b hb).off
    obtain ⟨h4, h5⟩ := h
    unfold Pc.lo at h5 ⊢
    omega
  exact sorted_one hperm2 h2 h1
theorem incr_len : ∀ (l : List Nat) (a N : Nat), (a :: l).Pairwise (· < ·) → (∀ x ∈ a :: l, x < N) → a + (l.length + 1) ≤ N
  | [], a, N, _, h => by have := h a (List.mem_cons_self ..); simp; omega
  | b :: t, a, N, hp, h => by
    have h1 := List.pairwise_cons.1 hp
    have h2 := incr_len t b N h1.2 (fun x hx => h x (List.mem_cons_of_mem _ hx))
    have h3 := h1.1 b (List.mem_cons_self ..)
    rw [List.length_cons]; omega
theorem few_pcs {ps : List Pc} (hs : ps.Pairwise fun a b => a.lo < b.lo) (hok : ∀ q ∈ ps, q.h.ok) : ps.length ≤ 65536 := by
  cases hps : ps.map Pc.lo with
  | nil => have := congrArg List.length hps; simp at this; rw [this]; simp
  | cons a l =>
    have h1 : (ps.map Pc.lo).Pairwise (· < ·) := List.pairwise_map.2 hs
    have h2 : ∀ x ∈ ps.map Pc.lo, x < 65536 := fun x hx => by
      obtain ⟨q, hq, rfl⟩ := List.mem_map.1 hx
      have := (hok q hq).off
      unfold Pc.lo; omega
    rw [hps] at h1 h2
    have h3 := incr_len l a 65536 h1 h2
    have h4 := congrArg List.length hps
    rw [List.length_map, List.length_cons] at h4
    omega
theorem eOf_ok {st : Sto} {L : List En} (hg : GoodT st L) (k : Ky) : ((eOf L k).ps.Pairwise fun a b => a.lo < b.lo) ∧ (∀ q ∈ (eOf L k).ps, PcOk q) ∧ lenP (eOf L k).ps = ((findL L k).map fun o => lenP o.ps).getD 0 := by
  unfold eOf
  cases hf : findL L k with
  | none => exact ⟨List.Pairwise.nil, fun q hq => (nomatch hq), rfl⟩
  | some e =>
    have he := hg.ens e (findL_mem hf).1
    exact ⟨he.sorted, fun q hq => (he.ps q hq).1, rfl⟩
theorem step_append_v {P : Program} {ops : Array Oper} {o : Oper} {a : Act} {w : World} {K : Act → World → Prop} {Q : Exit → Act → World → Prop} {E : Prop}
    (s x : Operand) (t : TypeId) (v0 x0 : Value) (hg : o.guard = none) (hop : o.op = Op.call { callee := Callee.builtin Builtin.append, args := #[s, x], argTypes := #[t, t] })
    (hs : a.eval s = v0) (hx : a.eval x = x0)
    (h : ∃ v' w', (Builtin.append_ #[t, t] o.type #[v0, x0]).run P w = .ok v' w' ∧ K (a.put o.dst v') w') :
    if Region.wanted o (yielded ops a.tmps) = true then Oper.wp P o a w K Q else E := by
  subst hs hx
  have hw : Region.wanted o (yielded ops a.tmps) = true := by simp [Region.wanted, hg]
  rw [if_pos hw]
  obtain ⟨v', w', h1, h2⟩ := h
  unfold Oper.wp
  simp [execOp, hop, resolve, invoke, builtin, h1, Result.andThen]
  exact h2
end Go.Proofs.Ythdkbocokefdhaa
