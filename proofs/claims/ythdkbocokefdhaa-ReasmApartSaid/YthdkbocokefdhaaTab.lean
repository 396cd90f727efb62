import Derived.Test.YthdkbocokefdhaaFin
import Derived.Test.YthdkbocokefdhaaMapT
/- A table in memory. -/
namespace Go.Proofs.Ythdkbocokefdhaa
set_option maxRecDepth 100000
open Go.RowKit
/-- what stays: the blocks of F -/
structure Kp (F : Nat → Prop) (w w' : World) : Prop where
  os : w'.os = w.os
  tape : w'.tape = w.tape
  output : w'.output = w.output
  size : w.heap.size ≤ w'.heap.size
  block : ∀ k, F k → w'.heap[k]? = w.heap[k]?
section
variable {F G : Nat → Prop} {w w1 w2 w' : World}
theorem Kp.refl : Kp F w w := ⟨rfl, rfl, rfl, Nat.le_refl _, fun _ _ => rfl⟩
theorem Kp.trans (h : Kp F w w1) (k : Kp F w1 w2) : Kp F w w2 := ⟨k.os.trans h.os, k.tape.trans h.tape, k.output.trans h.output, Nat.le_trans h.size k.size, fun b hb => (k.block b hb).trans (h.block b hb)⟩
theorem Kp.mono (h : Kp F w w') (hG : ∀ k, G k → F k) : Kp G w w' := ⟨h.os, h.tape, h.output, h.size, fun b hb => h.block b (hG b hb)⟩
theorem Kp.of_save {l : List Nat} (h : Save l w w') (hF : ∀ k, F k → k < w.heap.size ∧ k ∉ l) : Kp F w w' := ⟨h.os, h.tape, h.output, h.size, fun b hb => h.block b (hF b hb).1 (hF b hb).2⟩
theorem Kp.of_below (h : Below w.heap.size w w') (hF : ∀ k, F k → k < w.heap.size) : Kp F w w' := ⟨h.os, h.tape, h.output, h.size, fun b hb => h.block b (hF b hb)⟩
theorem Kp.of_grown {m : Option Nat} (h : w.grownBy w' m) (hF : ∀ k, F k → k < w.heap.size ∧ some k ≠ m) : Kp F w w' := ⟨h.os, h.tape, h.output, h.size, fun b hb => h.block b (hF b hb).1 (hF b hb).2⟩
theorem Kp.drew (h : Kp F w w') : Kp F w w'.drew := ⟨h.os, h.tape, h.output, h.size, h.block⟩
theorem Kp.below {B : Nat} (h : Kp F w w') (hB : ∀ k, k < B → F k) : Below B w w' := ⟨h.os, h.tape, h.output, h.size, fun k hk => h.block k (hB k hk)⟩
theorem Kp.set (h : Kp F w w') (p : Addr) (hp : ¬ F p.block) (v : Value) : Kp F w (w'.setCell p v) :=
  ⟨h.os, h.tape, h.output, by simpa [World.setCell] using h.size, fun k hk => by
    rw [Below.heap_setCell _ _ _ _ (fun e => hp (by rw [← e]; exact hk))]; exact h.block k hk⟩
end
/-- the entries -/
structure Body (F : Nat → Prop) (loc : Ky → Nat) (row : Ky → Value) (L : List En) (w : World) : Prop where
  lt : ∀ b, F b → b < w.heap.size
  ent : ∀ e ∈ L, w.heap[loc e.k]? = some (.cells #[row e.k, .bool e.done, .int .i64 (e.age : Nat)] 72 (0, 0))
  rows : ∀ e ∈ L, PRow 0 (row e.k) e.ps w
  avL : ∀ e ∈ L, ¬ F (loc e.k)
  avR : ∀ e ∈ L, ∀ b, (row e.k).ownBlock = some b → ¬ F b
  sep : ∀ e ∈ L, ∀ f ∈ L, e.k ≠ f.k → loc e.k ≠ loc f.k
  sepR : ∀ e ∈ L, ∀ f ∈ L, e.k ≠ f.k → ∀ b, (row e.k).ownBlock = some b → (row f.k).ownBlock ≠ some b
theorem PRow.obj {v : Value} {ps : List Pc} {w : World} {b : Nat} (h : PRow 0 v ps w) (hb : v.ownBlock = some b) : ∃ cur, w.heap[b]? = some (.cells cur 74 (0, 0)) := by
  rcases h.2 with ⟨rfl, _⟩ | ⟨g, cap, cur, rfl, _, hg, _⟩
  · cases hb
  · injection hb with hb
    subst hb
    exact ⟨cur, hg⟩
theorem PRow.same {v : Value} {ps : List Pc} {w w' : World} (h : PRow 0 v ps w) (hs : ∀ b, v.ownBlock = some b → w'.heap[b]? = w.heap[b]?) : PRow 0 v ps w' := by
  refine ⟨h.1, ?_⟩
  rcases h.2 with h1 | ⟨g, cap, cur, rfl, h0, hg, hr⟩
  · exact .inl h1
  · exact .inr ⟨g, cap, cur, rfl, h0, (hs g rfl).trans hg, hr⟩
section
variable {F G : Nat → Prop} {loc : Ky → Nat} {row : Ky → Value} {L : List En} {w w' : World}
theorem Body.sepX (h : Body F loc row L w) {e f : En} (he : e ∈ L) (hf : f ∈ L) : (row e.k).ownBlock ≠ some (loc f.k) := by
  intro hb
  obtain ⟨cur, hc⟩ := (h.rows e he).obj hb
  rw [h.ent f hf] at hc
  simp at hc
theorem Body.same (h : Body F loc row L w) (hs : w.heap.size ≤ w'.heap.size) (hl : ∀ e ∈ L, w'.heap[loc e.k]? = w.heap[loc e.k]?) (hr : ∀ e ∈ L, ∀ b, (row e.k).ownBlock = some b → w'.heap[b]? = w.heap[b]?) : Body F loc row L w' :=
  ⟨fun b hb => Nat.lt_of_lt_of_le (h.lt b hb) hs, fun e he => (hl e he).trans (h.ent e he), fun e he => (h.rows e he).same (hr e he), h.avL, h.avR, h.sep, h.sepR⟩
theorem Body.rowlt (h : Body F loc row L w) {e : En} (he : e ∈ L) {b : Nat} (hb : (row e.k).ownBlock = some b) : b < w.heap.size := by
  obtain ⟨cur, hc⟩ := (h.rows e he).obj hb
  exact heap_lt hc
theorem Body.below (h : Body F loc row L w) (hb : Below w.heap.size w w') : Body F loc row L w' :=
  h.same hb.size (fun e he => hb.block _ (heap_lt (h.ent e he))) (fun e he b hb2 => hb.block _ (h.rowlt he hb2))
theorem Body.drew (h : Body F loc row L w) : Body F loc row L w.drew := ⟨h.lt, h.ent, h.rows, h.avL, h.avR, h.sep, h.sepR⟩
/-- where a block of F is written -/
theorem Body.setF (h : Body F loc row L w) {X i : Nat} {x : Value} (hX : F X) : Body F loc row L (w.setCell ⟨X, i, none⟩ x) :=
  h.same (by simp [World.setCell]) (fun e he => Below.heap_setCell _ _ _ _ (fun e2 => h.avL e he (by rw [e2]; exact hX))) (fun e he b hb => Below.heap_setCell _ _ _ _ (fun e2 => h.avR e he b hb (by rw [e2]; exact hX)))
theorem Body.grownF (h : Body F loc row L w) {m : Nat} (hg : w.grownBy w' (some m)) (hm : F m) : Body F loc row L w' :=
  h.same hg.size (fun e he => hg.block _ (heap_lt (h.ent e he)) (fun e2 => h.avL e he (by injection e2 with e2; rw [e2]; exact hm))) (fun e he b hb => hg.block _ (h.rowlt he hb) (fun e2 => h.avR e he b hb (by injection e2 with e2; rw [e2]; exact hm)))
theorem Body.mono (h : Body F loc row L w) (hG : ∀ k, G k → F k) : Body G loc row L w :=
  ⟨fun b hb => h.lt b (hG b hb), h.ent, h.rows, fun e he hk => h.avL e he (hG _ hk), fun e he b hb hk => h.avR e he b hb (hG _ hk), h.sep, h.sepR⟩
theorem Body.sub (h : Body F loc row L w) {L' : List En} (hs : ∀ e ∈ L', e ∈ L) : Body F loc row L' w :=
  ⟨h.lt, fun e he => h.ent e (hs e he), fun e he => h.rows e (hs e he), fun e he => h.avL e (hs e he), fun e he => h.avR e (hs e he), fun e he f hf => h.sep e (hs e he) f (hs f hf), fun e he f hf => h.sepR e (hs e he) f (hs f hf)⟩
/-- one block more to keep off: one that is new -/
theorem Body.more (h : Body F loc row L w) (o : Obj) : Body (fun b => F b ∨ b = w.heap.size) loc row L (w.alloc o) := by
  have h1 := h.below ((Below.refl w.heap.size w).alloc (Nat.le_refl _) o)
  refine ⟨fun b hb => ?_, h1.ent, h1.rows, fun e he hk => ?_, fun e he b hb hk => ?_, h.sep, h.sepR⟩
  · rw [World.size_alloc]
    rcases hb with hb | rfl
    · have := h.lt b hb; omega
    · omega
  · rcases hk with hk | hk
    · exact h.avL e he hk
    · have := heap_lt (h.ent e he); omega
  · rcases hk with hk | hk
    · exact h.avR e he b hb hk
    · have := h.rowlt he hb; omega
def updL (loc : Ky → Nat) (k : Ky) (p : Nat) : Ky → Nat := fun x => if x = k then p else loc x
def updV (row : Ky → Value) (k : Ky) (v : Value) : Ky → Value := fun x => if x = k then v else row x
theorem updL_same (loc : Ky → Nat) (k : Ky) (p : Nat) : updL loc k p k = p := by simp [updL]
theorem updL_other (loc : Ky → Nat) {k x : Ky} (p : Nat) (h : x ≠ k) : updL loc k p x = loc x := by simp [updL, h]
theorem updV_same (row : Ky → Value) (k : Ky) (v : Value) : updV row k v k = v := by simp [updV]
theorem updV_other (row : Ky → Value) {k x : Ky} (v : Value) (h : x ≠ k) : updV row k v x = row x := by simp [updV, h]
/-- an entry that is new -/
theorem Body.add (h : Body F loc row L w) (k : Ky) (hk : k ∉ keysL L) (d : Bool) (age : Nat) :
    Body F (updL loc k w.heap.size) (updV row k (.slice none 0 0)) (L ++ [⟨k, [], d, age⟩]) (w.alloc (.cells #[.slice none 0 0, .bool d, .int .i64 (age : Nat)] 72)) := by
  have h1 := h.below ((Below.refl w.heap.size w).alloc (Nat.le_refl _) (.cells #[.slice none 0 0, .bool d, .int .i64 (age : Nat)] 72))
  have hne : ∀ e ∈ L, e.k ≠ k := fun e he e2 => hk (List.mem_map.2 ⟨e, he, e2⟩)
  have hsz : w.heap.size ≤ (w.alloc (.cells #[.slice none 0 0, .bool d, .int .i64 (age : Nat)] 72)).heap.size := by simp
  refine ⟨h1.lt, fun e he => ?_, fun e he => ?_, fun e he => ?_, fun e he b hb => ?_, fun e he f hf hef => ?_, fun e he f hf hef b hb => ?_⟩
  · rcases List.mem_append.1 he with he | he
    · rw [updL_other _ _ (hne e he), updV_other _ _ (hne e he)]; exact h1.ent e he
    · rw [List.mem_singleton.1 he]
      simp only [updL_same, updV_same]
      exact alloc_new _ _
  · rcases List.mem_append.1 he with he | he
    · rw [updV_other _ _ (hne e he)]; exact h1.rows e he
    · rw [List.mem_singleton.1 he]
      simp only [updV_same]
      exact World.ownsRow_nil _ _ _ _
  · rcases List.mem_append.1 he with he | he
    · rw [updL_other _ _ (hne e he)]; exact h.avL e he
    · rw [List.mem_singleton.1 he]
      simp only [updL_same]
      intro hF
      have := h.lt _ hF; omega
  · rcases List.mem_append.1 he with he | he
    · rw [updV_other _ _ (hne e he)] at hb; exact h.avR e he b hb
    · rw [List.mem_singleton.1 he] at hb
      simp only [updV_same] at hb
      cases hb
  · rcases List.mem_append.1 he with he | he <;> rcases List.mem_append.1 hf with hf | hf
    · rw [updL_other _ _ (hne e he), updL_other _ _ (hne f hf)]; exact h.sep e he f hf hef
    · rw [List.mem_singleton.1 hf] at hef ⊢
      simp only [updL_same]
      rw [updL_other _ _ (hne e he)]
      have := heap_lt (h.ent e he); omega
    · rw [List.mem_singleton.1 he] at hef ⊢
      simp only [updL_same]
      rw [updL_other _ _ (hne f hf)]
      have := heap_lt (h.ent f hf); omega
    · rw [List.mem_singleton.1 he, List.mem_singleton.1 hf] at hef
      exact absurd rfl hef
  · rcases List.mem_append.1 he with he | he
    · rw [updV_other _ _ (hne e he)] at hb
      rcases List.mem_append.1 hf with hf | hf
      · rw [updV_other _ _ (hne f hf)]; exact h.sepR e he f hf hef b hb
      · rw [List.mem_singleton.1 hf]
        simp only [updV_same]
        intro hc; cases hc
    · rw [List.mem_singleton.1 he] at hb
      simp only [updV_same] at hb
      cases hb
/-- the entry of a key, changed -/
def chg (L : List En) (e : En) : List En := L.map fun f => if f.k = e.k then e else f
theorem chg_mem {L : List En} {e f : En} (h : f ∈ chg L e) : f = e ∨ (f ∈ L ∧ f.k ≠ e.k) := by
  obtain ⟨g, hg, rfl⟩ := List.mem_map.1 h
  by_cases hk : g.k = e.k
  · rw [if_pos hk]; exact .inl rfl
  · rw [if_neg hk]; exact .inr ⟨hg, hk⟩
theorem chg_keys (L : List En) (e : En) : keysL (chg L e) = keysL L := by
  unfold keysL chg
  rw [List.map_map]
  apply List.map_congr_left
  intro f _
  show (if f.k = e.k then e else f).k = f.k
  split
  · rename_i h; exact h.symm
  · rfl
theorem Body.chg (h : Body F loc row L w) (e : En) (hk : e.k ∈ keysL L) (v : Value)
    (hs : w.heap.size ≤ w'.heap.size)
    (hkeep : ∀ b, b < w.heap.size → b ≠ loc e.k → (row e.k).ownBlock ≠ some b → (F b ∨ (∃ f ∈ L, f.k ≠ e.k ∧ (b = loc f.k ∨ (row f.k).ownBlock = some b))) → w'.heap[b]? = w.heap[b]?)
    (hent : w'.heap[loc e.k]? = some (.cells #[v, .bool e.done, .int .i64 (e.age : Nat)] 72 (0, 0))) (hrow : PRow 0 v e.ps w')
    (hv : ∀ b, v.ownBlock = some b → (row e.k).ownBlock = some b ∨ w.heap.size ≤ b) : Body F loc (updV row e.k v) (chg L e) w' := by
  obtain ⟨o, ho, hok⟩ := List.mem_map.1 hk
  have h1 : ∀ f ∈ L, f.k ≠ e.k → w'.heap[loc f.k]? = w.heap[loc f.k]? := fun f hf hne =>
    hkeep _ (heap_lt (h.ent f hf)) (h.sep f hf o ho (by rw [hok]; exact hne) |> fun q => by rw [hok] at q; exact q) (by have := h.sepX ho hf; rwa [hok] at this) (.inr ⟨f, hf, hne, .inl rfl⟩)
  have h2 : ∀ f ∈ L, f.k ≠ e.k → ∀ b, (row f.k).ownBlock = some b → w'.heap[b]? = w.heap[b]? := fun f hf hne b hb =>
    hkeep b (h.rowlt hf hb) (fun e2 => by have := h.sepX hf ho; rw [hok, ← e2] at this; exact this hb) (by have := h.sepR f hf o ho (by rw [hok]; exact hne) b hb; rwa [hok] at this) (.inr ⟨f, hf, hne, .inr hb⟩)
  refine ⟨fun b hb => Nat.lt_of_lt_of_le (h.lt b hb) hs, fun f hf => ?_, fun f hf => ?_, fun f hf => ?_, fun f hf b hb => ?_, fun f hf g hg hfg => ?_, fun f hf g hg hfg b hb => ?_⟩
  · rcases chg_mem hf with rfl | ⟨hf', hne⟩
    · rw [updV_same]; exact hent
    · rw [updV_other _ _ hne, h1 f hf' hne]; exact h.ent f hf'
  · rcases chg_mem hf with rfl | ⟨hf', hne⟩
    · rw [updV_same]; exact hrow
    · rw [updV_other _ _ hne]; exact (h.rows f hf').same (h2 f hf' hne)
  · rcases chg_mem hf with rfl | ⟨hf', hne⟩
    · rw [← hok]; exact h.avL o ho
    · exact h.avL f hf'
  · rcases chg_mem hf with rfl | ⟨hf', hne⟩
    · rw [updV_same] at hb
      rcases hv b hb with hb2 | hb2
      · rw [← hok] at hb2; exact h.avR o ho b hb2
      · intro hF; have := h.lt b hF; omega
    · rw [updV_other _ _ hne] at hb; exact h.avR f hf' b hb
  · rcases chg_mem hf with rfl | ⟨hf', hne⟩ <;> rcases chg_mem hg with rfl | ⟨hg', hne2⟩
    · exact absurd rfl hfg
    · rw [← hok] at hfg ⊢; exact h.sep o ho g hg' hfg
    · rw [← hok] at hfg ⊢; exact h.sep f hf' o ho hfg
    · exact h.sep f hf' g hg' hfg
  · rcases chg_mem hf with rfl | ⟨hf', hne⟩
    · rw [updV_same] at hb
      rcases chg_mem hg with rfl | ⟨hg', hne2⟩
      · exact absurd rfl hfg
      · rw [updV_other _ _ hne2]
        rcases hv b hb with hb2 | hb2
        · rw [← hok] at hb2 hfg; exact h.sepR o ho g hg' hfg b hb2
        · intro hc; have := h.rowlt hg' hc; omega
    · rw [updV_other _ _ hne] at hb
      rcases chg_mem hg with rfl | ⟨hg', hne2⟩
      · rw [updV_same]
        intro hc
        rcases hv b hc with hb2 | hb2
        · have := h.sepR f hf' o ho (by rw [hok]; exact hne) b hb
          rw [hok] at this; exact this hb2
        · have := h.rowlt hf' hb; omega
      · rw [updV_other _ _ hne2]; exact h.sepR f hf' g hg' hfg b hb
end
/-- a table -/
structure Tab (F : Nat → Prop) (Tb M : Nat) (st : Sto) (loc : Ky → Nat) (row : Ky → Value) (L : List En) (w : World) : Prop where
  tb : w.heap[Tb]? = some (.cells #[.int .i64 (st.ents : Nat), .int .i64 (st.bts : Nat), .int .i64 (st.life : Nat), .map (some M), .int .i64 (btsL L : Nat)] 65 (0, 0))
  pm : PM M (L.map fun e => (e.k, loc e.k)) w
  fT : ¬ F Tb
  fM : ¬ F M
  bd : Body (fun b => F b ∨ b = Tb ∨ b = M) loc row L w
section
variable {F : Nat → Prop} {Tb M : Nat} {st : Sto} {loc : Ky → Nat} {row : Ky → Value} {L : List En} {w w' : World}
theorem Tab.ne (h : Tab F Tb M st loc row L w) : Tb ≠ M := by
  intro e
  obtain ⟨D, ⟨es, clock, h1, _⟩, _⟩ := h.pm
  rw [← e, h.tb] at h1
  cases h1
theorem Tab.lt (h : Tab F Tb M st loc row L w) : ∀ k, F k → k < w.heap.size := fun k hk => h.bd.lt k (.inl hk)
theorem Tab.below (h : Tab F Tb M st loc row L w) (hb : Below w.heap.size w w') : Tab F Tb M st loc row L w' :=
  ⟨(hb.block _ (heap_lt h.tb)).trans h.tb, h.pm.below hb, h.fT, h.fM, h.bd.below hb⟩
theorem Tab.drew (h : Tab F Tb M st loc row L w) : Tab F Tb M st loc row L w.drew := ⟨h.tb, h.pm.same rfl, h.fT, h.fM, h.bd.drew⟩
end
end Go.Proofs.Ythdkbocokefdhaa
