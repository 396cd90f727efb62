import Derived.Test.YthdkbocokefdhaaTab
import Derived.Test.YthdkbocokefdhaaOpn
import Derived.Test.YthdkbocokefdhaaMidB
/- The list of entries while a tick goes round. -/
namespace Go.Proofs.Ythdkbocokefdhaa
theorem fm_congr {f g : En → Option En} : ∀ {l : List En}, (∀ x ∈ l, f x = g x) → l.filterMap f = l.filterMap g
  | [], _ => rfl
  | a :: t, h => by
    rw [List.filterMap_cons, List.filterMap_cons, h a (List.mem_cons_self ..), fm_congr (fun x hx => h x (List.mem_cons_of_mem _ hx))]
def curF (st : Sto) (acc : List Ky) (e : En) : Option En := if e.k ∈ acc then (if e.age + 1 < st.life then some { e with age := e.age + 1 } else none) else some e
def curL (st : Sto) (L : List En) (acc : List Ky) : List En := L.filterMap (curF st acc)
theorem curL_nil (st : Sto) (L : List En) : curL st L [] = L := by
  unfold curL
  induction L with
  | nil => rfl
  | cons a t ih =>
    rw [List.filterMap_cons_some (b := a) (by unfold curF; simp), ih]
theorem curL_all (st : Sto) : ∀ (L : List En) (acc : List Ky), (∀ e ∈ L, e.k ∈ acc) → curL st L acc = tickL st L
  | [], _, _ => rfl
  | a :: t, acc, h => by
    have ih := curL_all st t acc (fun e he => h e (List.mem_cons_of_mem _ he))
    unfold curL at ih
    unfold curL tickL
    by_cases hl : a.age + 1 < st.life
    · rw [List.filterMap_cons_some (b := { a with age := a.age + 1 }) (by unfold curF; rw [if_pos (h a (List.mem_cons_self ..)), if_pos hl]), List.filter_cons_of_pos (by simpa using hl), List.map_cons, ih]
      rfl
    · rw [List.filterMap_cons_none (by unfold curF; rw [if_pos (h a (List.mem_cons_self ..)), if_neg hl]), List.filter_cons_of_neg (by simpa using hl), ih]
      rfl
theorem curF_k {st : Sto} {acc : List Ky} {e f : En} (h : curF st acc e = some f) : f.k = e.k ∧ f.ps = e.ps ∧ f.done = e.done := by
  unfold curF at h
  split at h
  · split at h
    · cases h; exact ⟨rfl, rfl, rfl⟩
    · cases h
  · cases h; exact ⟨rfl, rfl, rfl⟩
theorem curL_mem {st : Sto} {L : List En} {acc : List Ky} {f : En} (h : f ∈ curL st L acc) : ∃ e ∈ L, curF st acc e = some f := by
  unfold curL at h
  exact List.mem_filterMap.1 h
theorem curL_old {st : Sto} {L : List En} {acc : List Ky} {f : En} (h : f ∈ curL st L acc) (hf : f.k ∉ acc) : f ∈ L := by
  obtain ⟨e, he, h1⟩ := curL_mem h
  have hk := (curF_k h1).1
  unfold curF at h1
  rw [if_neg (by rw [← hk]; exact hf)] at h1
  cases h1; exact he
theorem curL_has {st : Sto} {L : List En} {acc : List Ky} {e : En} (he : e ∈ L) (h : e.k ∉ acc) : e ∈ curL st L acc :=
  List.mem_filterMap.2 ⟨e, he, by unfold curF; rw [if_neg h]⟩
theorem curF_other {st : Sto} {acc : List Ky} {e : En} {k : Ky} (h : e.k ≠ k) : curF st (k :: acc) e = curF st acc e := by
  unfold curF; simp [h]
theorem curL_keep (st : Sto) : ∀ (L : List En) (acc : List Ky) (e : En), e ∈ L → (keysL L).Nodup → e.k ∉ acc → e.age + 1 < st.life → curL st L (e.k :: acc) = chg (curL st L acc) { e with age := e.age + 1 }
  | [], _, _, h, _, _, _ => by cases h
  | a :: t, acc, e, h, hn, ha, hl => by
    have hn' : a.k ∉ keysL t ∧ (keysL t).Nodup := List.nodup_cons.1 hn
    unfold curL chg
    rcases List.mem_cons.1 h with rfl | ht
    · rw [List.filterMap_cons_some (b := { e with age := e.age + 1 }) (by unfold curF; simp [hl]), List.filterMap_cons_some (b := e) (by unfold curF; rw [if_neg ha]), List.map_cons]
      simp only [if_true]
      congr 1
      have h1 : t.filterMap (curF st (e.k :: acc)) = t.filterMap (curF st acc) := fm_congr (fun x hx => curF_other (fun hk => hn'.1 (List.mem_map.2 ⟨x, hx, hk⟩)))
      rw [h1]
      symm
      have : ∀ f ∈ t.filterMap (curF st acc), (if f.k = e.k then ({ e with age := e.age + 1 } : En) else f) = f := by
        intro f hf
        obtain ⟨x, hx, hxf⟩ := List.mem_filterMap.1 hf
        rw [if_neg]
        rw [(curF_k hxf).1]
        exact fun hk => hn'.1 (List.mem_map.2 ⟨x, hx, hk⟩)
      rw [List.map_congr_left this]; simp
    · have hne : a.k ≠ e.k := fun hk => hn'.1 (List.mem_map.2 ⟨e, ht, hk.symm⟩)
      have ih := curL_keep st t acc e ht hn'.2 ha hl
      unfold curL chg at ih
      rw [List.filterMap_cons, List.filterMap_cons, curF_other hne]
      cases hc : curF st acc a with
      | none => exact ih
      | some b =>
        simp only
        rw [List.map_cons, ih, if_neg (by rw [(curF_k hc).1]; exact hne)]
theorem curL_drop (st : Sto) : ∀ (L : List En) (acc : List Ky) (e : En), e ∈ L → (keysL L).Nodup → e.k ∉ acc → ¬ e.age + 1 < st.life →
    curL st L (e.k :: acc) = (curL st L acc).filter (fun f => decide (f.k ≠ e.k)) ∧ btsL (curL st L (e.k :: acc)) + lenP e.ps = btsL (curL st L acc)
  | [], _, _, h, _, _, _ => by cases h
  | a :: t, acc, e, h, hn, ha, hl => by
    have hn' : a.k ∉ keysL t ∧ (keysL t).Nodup := List.nodup_cons.1 hn
    unfold curL
    rcases List.mem_cons.1 h with rfl | ht
    · have h1 : t.filterMap (curF st (e.k :: acc)) = t.filterMap (curF st acc) := fm_congr (fun x hx => curF_other (fun hk => hn'.1 (List.mem_map.2 ⟨x, hx, hk⟩)))
      rw [List.filterMap_cons_none (by unfold curF; simp [hl]), List.filterMap_cons_some (b := e) (by unfold curF; rw [if_neg ha]), List.filter_cons_of_neg (by simp), h1]
      refine ⟨?_, ?_⟩
      · symm
        rw [List.filter_eq_self]
        intro f hf
        obtain ⟨x, hx, hxf⟩ := List.mem_filterMap.1 hf
        rw [(curF_k hxf).1]
        exact decide_eq_true (fun hk => hn'.1 (List.mem_map.2 ⟨x, hx, hk⟩))
      · unfold btsL; rw [List.map_cons, List.sum_cons]; omega
    · have hne : a.k ≠ e.k := fun hk => hn'.1 (List.mem_map.2 ⟨e, ht, hk.symm⟩)
      obtain ⟨ih, ih2⟩ := curL_drop st t acc e ht hn'.2 ha hl
      unfold curL at ih ih2
      rw [List.filterMap_cons, List.filterMap_cons, curF_other hne]
      cases hc : curF st acc a with
      | none => exact ⟨ih, ih2⟩
      | some b =>
        simp only
        rw [List.filter_cons_of_pos (by rw [(curF_k hc).1]; exact decide_eq_true hne), ih]
        refine ⟨rfl, ?_⟩
        rw [ih] at ih2
        unfold btsL at ih2 ⊢
        rw [List.map_cons, List.sum_cons, List.map_cons, List.sum_cons]; omega
theorem curL_sub (st : Sto) : ∀ (L : List En) (acc : List Ky), (keysL (curL st L acc)).Sublist (keysL L)
  | [], _ => List.Sublist.refl _
  | a :: t, acc => by
    have ih := curL_sub st t acc
    unfold curL keysL at ih ⊢
    rw [List.filterMap_cons]
    cases hc : curF st acc a with
    | none => exact ih.cons _
    | some b =>
      simp only [List.map_cons]
      rw [(curF_k hc).1]
      exact ih.cons_cons _
theorem curL_len (st : Sto) (L : List En) (acc : List Ky) : (curL st L acc).length ≤ L.length := List.length_filterMap_le _ _
end Go.Proofs.Ythdkbocokefdhaa
/- The table while a tick goes round. -/
namespace Go.Proofs.Ythdkbocokefdhaa
set_option maxRecDepth 100000
open Go.RowKit
theorem key_one : ∀ {L : List En}, (keysL L).Nodup → ∀ {a b : En}, a ∈ L → b ∈ L → a.k = b.k → a = b
  | [], _, _, _, h, _, _ => by cases h
  | x :: t, hn, a, b, ha, hb, hk => by
    have hn' : x.k ∉ keysL t ∧ (keysL t).Nodup := List.nodup_cons.1 hn
    rcases List.mem_cons.1 ha with h1 | h1
    · rcases List.mem_cons.1 hb with h2 | h2
      · rw [h1, h2]
      · exact absurd (show x.k ∈ keysL t from List.mem_map.2 ⟨b, h2, by rw [← hk, h1]⟩) hn'.1
    · rcases List.mem_cons.1 hb with h2 | h2
      · exact absurd (show x.k ∈ keysL t from List.mem_map.2 ⟨a, h1, by rw [hk, h2]⟩) hn'.1
      · exact key_one hn'.2 h1 h2 hk
structure TkS (F : Nat → Prop) (Tb M : Nat) (st : Sto) (loc : Ky → Nat) (row : Ky → Value) (L : List En) (acc : List Ky) (B : Nat) (w wr : World) : Prop where
  tb : wr.heap[Tb]? = some (.cells #[.int .i64 (st.ents : Nat), .int .i64 (st.bts : Nat), .int .i64 (st.life : Nat), .map (some M), .int .i64 (B : Nat)] 65 (0, 0))
  ent : ∀ e ∈ curL st L acc, wr.heap[loc e.k]? = some (.cells #[row e.k, .bool e.done, .int .i64 (e.age : Nat)] 72 (0, 0))
  rows : ∀ e ∈ L, ∀ b, (row e.k).ownBlock = some b → wr.heap[b]? = w.heap[b]?
  kp : Kp F w wr
section
variable {F : Nat → Prop} {Tb M : Nat} {st : Sto} {loc : Ky → Nat} {row : Ky → Value} {L : List En} {acc : List Ky} {B : Nat} {w wr w' : World}
theorem TkS.start (hT : Tab F Tb M st loc row L w) : TkS F Tb M st loc row L [] (btsL L) w w :=
  ⟨hT.tb, fun e he => hT.bd.ent e (by rw [curL_nil] at he; exact he), fun _ _ _ _ => rfl, Kp.refl⟩
theorem curL_base {f : En} (h : f ∈ curL st L acc) : ∃ e ∈ L, e.k = f.k := by
  obtain ⟨e, he, h1⟩ := curL_mem h
  exact ⟨e, he, (curF_k h1).1.symm⟩
theorem Tab.locF (hT : Tab F Tb M st loc row L w) {e : En} (he : e ∈ L) : ¬ F (loc e.k) ∧ loc e.k ≠ Tb ∧ loc e.k ≠ M ∧ loc e.k < w.heap.size :=
  ⟨fun h => hT.bd.avL e he (.inl h), fun h => hT.bd.avL e he (.inr (.inl h)), fun h => hT.bd.avL e he (.inr (.inr h)), heap_lt (hT.bd.ent e he)⟩
theorem Tab.rowF (hT : Tab F Tb M st loc row L w) {e : En} (he : e ∈ L) {b : Nat} (hb : (row e.k).ownBlock = some b) : ¬ F b ∧ b ≠ Tb ∧ b ≠ M ∧ b < w.heap.size :=
  ⟨fun h => hT.bd.avR e he b hb (.inl h), fun h => hT.bd.avR e he b hb (.inr (.inl h)), fun h => hT.bd.avR e he b hb (.inr (.inr h)), hT.bd.rowlt he hb⟩
theorem TkS.move (hT : Tab F Tb M st loc row L w) (s : TkS F Tb M st loc row L acc B w wr) (ho : w'.os = wr.os) (ht : w'.tape = wr.tape) (hu : w'.output = wr.output) (hs : wr.heap.size ≤ w'.heap.size)
    (hb : ∀ b, b < w.heap.size → b ≠ M → w'.heap[b]? = wr.heap[b]?) : TkS F Tb M st loc row L acc B w w' :=
  ⟨(hb Tb (heap_lt hT.tb) hT.ne).trans s.tb, fun e he => by
    obtain ⟨o, hoL, hk⟩ := curL_base he
    have h1 := hT.locF hoL
    rw [hk] at h1
    exact (hb _ h1.2.2.2 h1.2.2.1).trans (s.ent e he), fun e he b hq => by
    have h1 := hT.rowF he hq
    exact (hb _ h1.2.2.2 h1.2.2.1).trans (s.rows e he b hq),
    s.kp.trans ⟨ho, ht, hu, hs, fun k hk => hb k (hT.lt k hk) (fun e => hT.fM (e ▸ hk))⟩⟩
theorem TkS.grown (hT : Tab F Tb M st loc row L w) (s : TkS F Tb M st loc row L acc B w wr) {m : Option Nat} (hg : wr.grownBy w' m) (hm : ∀ b, m = some b → w.heap.size ≤ b ∨ b = M) : TkS F Tb M st loc row L acc B w w' :=
  s.move hT hg.os hg.tape hg.output hg.size (fun b hb hM => hg.block b (Nat.lt_of_lt_of_le hb s.kp.size) (fun e => by
    rcases hm b e.symm with h | h
    · omega
    · exact hM h))
theorem TkS.below (hT : Tab F Tb M st loc row L w) (s : TkS F Tb M st loc row L acc B w wr) {N : Nat} (hN : w.heap.size ≤ N) (hb : Below N wr w') : TkS F Tb M st loc row L acc B w w' :=
  s.move hT hb.os hb.tape hb.output hb.size (fun b h _ => hb.block b (by omega))
theorem TkS.drew (hT : Tab F Tb M st loc row L w) (s : TkS F Tb M st loc row L acc B w wr) : TkS F Tb M st loc row L acc B w wr.drew := ⟨s.tb, s.ent, s.rows, s.kp.drew⟩
theorem TkS.bytes (hT : Tab F Tb M st loc row L w) (s : TkS F Tb M st loc row L acc B w wr) (B' : Nat) : TkS F Tb M st loc row L acc B' w (wr.setCell ⟨Tb, 4, none⟩ (.int .i64 (B' : Nat))) :=
  ⟨by simp [World.setCell, Array.getElem?_modify, s.tb], fun e he => by
    obtain ⟨o, hoL, hk⟩ := curL_base he
    have h1 := hT.locF hoL
    rw [hk] at h1
    exact heap_other (s.ent e he) h1.2.1 _ _, fun e he b hq => by
    have h1 := hT.rowF he hq
    rw [Below.heap_setCell _ _ _ _ h1.2.1]
    exact s.rows e he b hq, s.kp.set _ hT.fT _⟩
theorem TkS.age (hT : Tab F Tb M st loc row L w) (s : TkS F Tb M st loc row L acc B w wr) (e : En) (he : e ∈ L) (hn : (keysL L).Nodup) (ha : e.k ∉ acc) :
    TkS F Tb M st loc row L (e.k :: acc) B w (wr.setCell ⟨loc e.k, 2, none⟩ (.int .i64 ((e.age + 1 : Nat) : Int))) := by
  have h0 := hT.locF he
  have hone : ∀ o ∈ L, o.k = e.k → o = e := fun o ho hk => key_one hn ho he hk
  refine ⟨heap_other s.tb (fun h => h0.2.1 h.symm) _ _, fun f hf => ?_, fun f hf b hq => ?_, s.kp.set _ h0.1 _⟩
  · obtain ⟨o, ho, h1⟩ := curL_mem hf
    have hk := curF_k h1
    by_cases hke : o.k = e.k
    · have := hone o ho hke
      subst this
      have h2 := s.ent o (curL_has he ha)
      unfold curF at h1
      rw [if_pos (List.mem_cons_self ..)] at h1
      split at h1
      · cases h1
        show (wr.setCell ⟨loc o.k, 2, none⟩ _).heap[loc o.k]? = _
        simp [World.setCell, Array.getElem?_modify, h2]
      · cases h1
    · rw [curF_other hke] at h1
      have hf' : f ∈ curL st L acc := List.mem_filterMap.2 ⟨o, ho, h1⟩
      exact heap_other (s.ent f hf') (by rw [hk.1]; exact hT.bd.sep o ho e he hke) _ _
  · rw [Below.heap_setCell _ _ _ _ (fun h => ?_)]
    · exact s.rows f hf b hq
    · have := hT.bd.sepX hf he
      rw [h] at hq
      exact this hq
theorem TkS.fin (hT : Tab F Tb M st loc row L w) (s : TkS F Tb M st loc row L acc B w wr) (hB : B = btsL (curL st L acc)) (hpm : PM M ((curL st L acc).map fun e => (e.k, loc e.k)) wr) : Tab F Tb M st loc row (curL st L acc) wr := by
  subst hB
  refine ⟨s.tb, hpm, hT.fT, hT.fM, ⟨fun b hb => Nat.lt_of_lt_of_le (hT.bd.lt b hb) s.kp.size, s.ent, fun e he => ?_, fun e he => ?_, fun e he b hb => ?_, fun e he f hf hne => ?_, fun e he f hf hne b hb => ?_⟩⟩
  · obtain ⟨o, ho, h1⟩ := curL_mem he
    have hk := curF_k h1
    have h2 := (hT.bd.rows o ho).same (fun b hb => s.rows o ho b hb)
    rw [hk.1, hk.2.1]; exact h2
  · obtain ⟨o, ho, hk⟩ := curL_base he
    rw [← hk]; exact hT.bd.avL o ho
  · obtain ⟨o, ho, hk⟩ := curL_base he
    rw [← hk] at hb
    exact hT.bd.avR o ho b hb
  · obtain ⟨o, ho, hk⟩ := curL_base he
    obtain ⟨p, hp, hk2⟩ := curL_base hf
    rw [← hk, ← hk2] at hne ⊢
    exact hT.bd.sep o ho p hp hne
  · obtain ⟨o, ho, hk⟩ := curL_base he
    obtain ⟨p, hp, hk2⟩ := curL_base hf
    rw [← hk, ← hk2] at hne
    rw [← hk] at hb
    rw [← hk2]
    exact hT.bd.sepR o ho p hp hne b hb
end
end Go.Proofs.Ythdkbocokefdhaa
