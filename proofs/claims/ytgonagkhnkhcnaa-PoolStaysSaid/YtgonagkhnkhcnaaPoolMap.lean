import Derived.Test.YtgonagkhnkhcnaaSortB
import Derived.Maps.RangeWalk
import Derived.Maps.OwnOps
/- The pool's map: which backends it holds. -/
namespace Go.Proofs.Ytgonagkhnkhcnaa
set_option maxRecDepth 100000
open Go.RowKit
/-- how a backend reads as a map's element -/
def bkE (b : Bk) : DataW Unit := .agg [.lit (.int .i64 b.id), .lit (.string b.addr.data.toList), .lit (.float .f64 b.wt)]
def bkL : List Value → Option (DataW Unit × List MemPlace)
  | [.int .i64 i, .string s, .float .f64 b] => some (bkE ⟨i, s, b⟩, [])
  | _ => none
def bkR : Value → Option (DataW Unit × List MemPlace)
  | .agg cs => bkL cs.toList
  | _ => none
theorem bkR_mk (b : Bk) : bkR (bkv b) = some (bkE b, []) := rfl
theorem bkE_inj {x y : Bk} (h : bkE x = bkE y) : x = y := by
  obtain ⟨i, ⟨⟨s⟩⟩, b⟩ := x
  obtain ⟨j, ⟨⟨t⟩⟩, c⟩ := y
  unfold bkE at h
  simp at h
  obtain ⟨rfl, rfl, rfl⟩ := h
  rfl
theorem bkR_inv {v : Value} {y : DataW Unit × List MemPlace} (h : bkR v = some y) : ∃ b, v = bkv b ∧ y = (bkE b, []) := by
  unfold bkR at h
  split at h
  · rename_i cs
    unfold bkL at h
    split at h
    · rename_i i s b hc
      simp only [Option.some.injEq] at h
      have e : cs = #[.int .i64 i, .string s, .float .f64 b] := by
        apply Array.toList_inj.1; rw [hc]
      exact ⟨⟨i, s, b⟩, by rw [e]; rfl, h.symm⟩
    · cases h
  · cases h
def MapIs (D : DataW Unit) (L : List Bk) : Prop :=
  Maps.Tidy D ∧ (∀ i, Maps.has D (kl i) = decide (i ∈ ids L)) ∧ (∀ b ∈ L, ∀ z, D.atKey (kl b.id) z = bkE b) ∧ Maps.size D = L.length ∧ (ids L).Nodup
theorem MapIs.nil : MapIs (.map []) [] := ⟨Maps.tidy_empty, (fun i => by simp [ids, Maps.has_eq]), (fun b hb => by simp at hb), rfl, List.nodup_nil⟩
theorem MapIs.perm {D : DataW Unit} {L L' : List Bk} (h : MapIs D L) (hp : L'.Perm L) : MapIs D L' := by
  obtain ⟨h1, h2, h3, h4, h5⟩ := h
  have hi : (ids L').Perm (ids L) := hp.map Bk.id
  refine ⟨h1, fun i => ?_, fun b hb => h3 b (hp.mem_iff.1 hb), by rw [h4, hp.length_eq], hi.nodup_iff.2 h5⟩
  rw [h2, decide_eq_decide]
  exact hi.mem_iff.symm
theorem ids_mem {L : List Bk} {i : Int} : i ∈ ids L ↔ ∃ b ∈ L, b.id = i := by
  unfold ids; rw [List.mem_map]
theorem MapIs.put {D : DataW Unit} {L : List Bk} (h : MapIs D L) (b : Bk) (hb : b.id ∉ ids L) : MapIs (D.put (kl b.id) (bkE b)) (b :: L) := by
  obtain ⟨h1, h2, h3, h4, h5⟩ := h
  refine ⟨h1.put (kl_key _) _, fun i => ?_, fun c hc z => ?_, ?_, ?_⟩
  · by_cases hi : i = b.id
    · subst hi
      rw [Maps.has_put_same h1.isMap (kl_key _)]
      symm; exact decide_eq_true (List.mem_cons_self ..)
    · rw [Maps.has_put_other (kl_ne hi), h2, decide_eq_decide]
      show _ ↔ i ∈ b.id :: ids L
      rw [List.mem_cons]
      exact ⟨.inr, fun h => h.resolve_left hi⟩
  · rcases List.mem_cons.1 hc with rfl | hc
    · exact Maps.atKey_put_same h1.isMap (kl_key _) _ _
    · have hne : c.id ≠ b.id := fun e => hb (ids_mem.2 ⟨c, hc, e⟩)
      rw [Maps.atKey_put_other (kl_ne hne)]
      exact h3 c hc z
  · rw [Maps.size_put h1, h2, decide_eq_false hb, if_neg (by simp), h4, List.length_cons]
  · show (b.id :: ids L).Nodup
    exact List.nodup_cons.2 ⟨hb, h5⟩
def out (L : List Bk) (i : Int) : List Bk := L.filter (fun b => decide (b.id ≠ i))
theorem out_mem {L : List Bk} {i : Int} {b : Bk} : b ∈ out L i ↔ b ∈ L ∧ b.id ≠ i := by
  unfold out; rw [List.mem_filter]; simp
theorem out_ids {L : List Bk} {i j : Int} : j ∈ ids (out L i) ↔ j ∈ ids L ∧ j ≠ i := by
  rw [ids_mem, ids_mem]
  constructor
  · rintro ⟨b, hb, rfl⟩
    have := out_mem.1 hb
    exact ⟨⟨b, this.1, rfl⟩, this.2⟩
  · rintro ⟨⟨b, hb, rfl⟩, hne⟩
    exact ⟨b, out_mem.2 ⟨hb, hne⟩, rfl⟩
theorem out_sub (L : List Bk) (i : Int) : (out L i).Sublist L := List.filter_sublist
theorem out_len {L : List Bk} {i : Int} (hn : (ids L).Nodup) (hi : i ∈ ids L) : (out L i).length + 1 = L.length := by
  induction L with
  | nil => cases hi
  | cons b t ih =>
    have hn' : b.id ∉ ids t ∧ (ids t).Nodup := List.nodup_cons.1 hn
    by_cases hb : b.id = i
    · have e : out (b :: t) i = t := by
        unfold out
        rw [List.filter_cons_of_neg (by simp [hb]), List.filter_eq_self]
        intro c hc
        have : c.id ≠ i := fun e => hn'.1 (ids_mem.2 ⟨c, hc, by rw [e, hb]⟩)
        simpa using this
      rw [e, List.length_cons]
    · have hi' : i ∈ ids t := by
        rcases List.mem_cons.1 (show i ∈ b.id :: ids t from hi) with h | h
        · exact absurd h.symm hb
        · exact h
      have e : out (b :: t) i = b :: out t i := by
        unfold out
        rw [List.filter_cons_of_pos (by simpa using hb)]
      rw [e, List.length_cons, List.length_cons, ih hn'.2 hi']
theorem MapIs.del {D : DataW Unit} {L : List Bk} (h : MapIs D L) (i : Int) (hi : i ∈ ids L) : MapIs (D.del (kl i)) (out L i) := by
  obtain ⟨h1, h2, h3, h4, h5⟩ := h
  refine ⟨h1.del _, fun j => ?_, fun c hc z => ?_, ?_, h5.sublist ((out_sub L i).map Bk.id)⟩
  · by_cases hj : j = i
    · subst hj
      rw [Maps.has_del_same]
      symm; exact decide_eq_false (fun h => (out_ids.1 h).2 rfl)
    · rw [Maps.has_del_other (kl_ne hj), h2, decide_eq_decide, out_ids]
      exact ⟨fun h => ⟨h, hj⟩, fun h => h.1⟩
  · have := out_mem.1 hc
    rw [Maps.atKey_del_other (kl_ne this.2)]
    exact h3 c this.1 z
  · have hs := Maps.size_del (k := kl i) h1
    rw [h2, decide_eq_true hi, if_pos rfl, h4] at hs
    have := out_len h5 hi
    omega
/-- the pool's map in block M -/
def PM (M : Nat) (L : List Bk) (w : World) : Prop := ∃ D, w.ownsMap Try.prog 3 bkR M L.length D ∧ MapIs D L
theorem own_below {P : Program} {k : TypeId} {R : Value → Option (DataW Unit × List MemPlace)} {b n : Nat} {D : DataW Unit} {w w' : World} (h : w.ownsMap P k R b n D) (hb : Below w.heap.size w w') : w'.ownsMap P k R b n D := by
  obtain ⟨es, clock, e1, e2⟩ := h
  exact ⟨es, clock, by rw [hb.block b (heap_lt e1)]; exact e1, e2⟩
theorem PM.below {M : Nat} {L : List Bk} {w w' : World} (h : PM M L w) (hb : Below w.heap.size w w') : PM M L w' := by
  obtain ⟨D, h1, h2⟩ := h
  exact ⟨D, own_below h1 hb, h2⟩
theorem PM.lt {M : Nat} {L : List Bk} {w : World} (h : PM M L w) : M < w.heap.size := by
  obtain ⟨D, h1, h2⟩ := h
  exact h1.lt
theorem zero32 (w : World) : (zeroValue 32).run Try.prog w = .ok (bkv ⟨0, ⟨#[]⟩, 0⟩) w := by
  have h : (Try.prog.info? 32).map (fun i => i.zero) = some (some (bkv ⟨0, ⟨#[]⟩, 0⟩)) := by kernel_rfl
  obtain ⟨i, hi, hz⟩ := Option.map_eq_some_iff.1 h
  simp [zeroValue, run_typeInfo w hi, hz]
/-- what a lookup tells -/
def get (L : List Bk) (i : Int) : Option Bk := L.find? (fun b => decide (b.id = i))
theorem PM.look {M : Nat} {L : List Bk} {w : World} (h : PM M L w) (i : Int) (hi : (Lit.int .i64 i).wf = true) :
    (Instr.lookup 50 (.map (some M)) (.int .i64 i) true).run Try.prog w = .ok (.tuple #[bkv ((get L i).getD ⟨0, ⟨#[]⟩, 0⟩), .bool (get L i).isSome]) w := by
  obtain ⟨D, h1, h2, h3, h4, h5, h6⟩ := h
  obtain ⟨v, ps, e1, e2⟩ := h1.look_ok law3 Try.underlying50 (zero32 w) (bkR_mk _) (Maps.keyOf_int_mk Try.underlying3 hi)
  rw [e1, show Maps.has D (.int .i64 i) = _ from h3 i]
  cases hg : get L i with
  | none =>
    have hn : i ∉ ids L := by
      intro hm
      obtain ⟨b, hb, he⟩ := ids_mem.1 hm
      have := List.find?_eq_none.1 hg b hb
      simp [he] at this
    rw [decide_eq_false hn]
    have e3 : D.atKey (kl i) (bkE ⟨0, ⟨#[]⟩, 0⟩) = bkE ⟨0, ⟨#[]⟩, 0⟩ := Maps.atKey_of_not_has (by rw [h3, decide_eq_false hn]) _
    rw [show D.atKey (.int .i64 i) _ = _ from e3] at e2
    obtain ⟨b, rfl, hb⟩ := bkR_inv e2
    injection hb with hb _
    rw [← bkE_inj hb]; rfl
  | some b =>
    have hb : b ∈ L := List.mem_of_find?_eq_some hg
    have hbi : b.id = i := by simpa using List.find?_some hg
    rw [decide_eq_true (ids_mem.2 ⟨b, hb, hbi⟩)]
    have e3 := h4 b hb (bkE ⟨0, ⟨#[]⟩, 0⟩)
    rw [hbi] at e3
    rw [show D.atKey (.int .i64 i) _ = _ from e3] at e2
    obtain ⟨c, rfl, hc⟩ := bkR_inv e2
    injection hc with hc _
    rw [← bkE_inj hc]; rfl
theorem PM.len {M : Nat} {L : List Bk} {w : World} (h : PM M L w) (ty : TypeId) : (Builtin.len_ #[50] ty #[.map (some M)]).run Try.prog w = .ok (.int .i64 L.length) w := by
  obtain ⟨D, h1, h2, h3, h4, h5, h6⟩ := h
  rw [← h5]
  exact h1.len Try.underlying50 ty
theorem PM.put {M : Nat} {L : List Bk} {w : World} (h : PM M L w) (b : Bk) (hb : b.id ∉ ids L) (hi : (Lit.int .i64 b.id).wf = true) (hl : L.length ≤ 1000) :
    ∃ w', (Instr.mapUpdate 50 (.map (some M)) (.int .i64 b.id) (bkv b)).run Try.prog w = .ok () w' ∧ PM M (b :: L) w' ∧ w.grownBy w' (some M) := by
  obtain ⟨D, h1, h2⟩ := h
  obtain ⟨w', e1, e2, e3⟩ := h1.update law3 Try.underlying50 (by unfold maxLen; omega) (Maps.keyOf_int_mk Try.underlying3 hi) (bkR_mk b)
  exact ⟨w', e1, ⟨_, e2, h2.put b hb⟩, e3⟩
theorem own_tight {P : Program} {k : TypeId} {R : Value → Option (DataW Unit × List MemPlace)} {b n : Nat} {D : DataW Unit} {w : World} (h : w.ownsMap P k R b n D) : w.ownsMap P k R b (Maps.size D) D := by
  obtain ⟨es, clock, e1, e2, e3, rfl⟩ := h
  exact ⟨es, clock, e1, e2, by simp [Maps.size, length_sorted], rfl⟩
theorem PM.perm {M : Nat} {L L' : List Bk} {w : World} (h : PM M L w) (hp : L'.Perm L) : PM M L' w := by
  obtain ⟨D, h1, h2⟩ := h
  exact ⟨D, by rw [hp.length_eq]; exact h1, h2.perm hp⟩
theorem PM.drop {M : Nat} {L : List Bk} {w : World} (h : PM M L w) (i : Int) (hm : i ∈ ids L) (hi : (Lit.int .i64 i).wf = true) (ty : TypeId) :
    ∃ w', (Builtin.delete_ #[50, 3] ty #[.map (some M), .int .i64 i]).run Try.prog w = .ok (.tuple #[]) w' ∧ PM M (out L i) w' ∧ w.grownBy w' (some M) := by
  obtain ⟨D, h1, h2⟩ := h
  obtain ⟨w', e1, e2, e3⟩ := h1.drop law3 Try.underlying50 (Maps.keyOf_int_mk Try.underlying3 hi) ty
  have h3 := h2.del i hm
  refine ⟨w', e1, ⟨_, ?_, h3⟩, e3.grown⟩
  rw [← h3.2.2.2.1]
  exact own_tight e2
theorem PM.made (w : World) : PM w.heap.size [] (w.alloc (.map #[] 0)) := ⟨_, World.ownsMap_made w Try.prog 3 bkR, MapIs.nil⟩
theorem PM.kept {M : Nat} {L : List Bk} {w w' : World} {row : Option Nat} (h : PM M L w) (hg : w.grownBy w' row) (hne : some M ≠ row) : PM M L w' := by
  obtain ⟨D, h1, h2⟩ := h
  exact ⟨D, h1.kept hg hne, h2⟩
theorem PM.nodup {M : Nat} {L : List Bk} {w : World} (h : PM M L w) : (ids L).Nodup := by
  obtain ⟨D, h1, h2⟩ := h
  exact h2.2.2.2.2
/-- a round through the map: what has come out so far, and how many are to come -/
def Rg (M r : Nat) (L acc : List Bk) (cnt : Nat) (w : World) : Prop :=
  ∃ D left, w.ranges Try.prog 3 bkR M r L.length D left cnt ∧ MapIs D L ∧ (∀ b ∈ acc, b ∈ L) ∧ (ids acc).Nodup ∧ (∀ k, left k = true → ∃ i, k = kl i) ∧ (∀ i, left (kl i) = decide (i ∈ ids L ∧ i ∉ ids acc))
theorem Rg.owns {M r : Nat} {L acc : List Bk} {cnt : Nat} {w : World} (h : Rg M r L acc cnt w) : PM M L w := by
  obtain ⟨D, left, h1, h2, _⟩ := h
  exact ⟨D, h1.owns, h2⟩
theorem Rg.left_eq {M r : Nat} {L acc : List Bk} {cnt : Nat} {w : World} (h : Rg M r L acc cnt w) : w.rangeLeft M r = cnt := by
  obtain ⟨D, left, h1, _⟩ := h
  exact h1.left_eq
theorem Rg.kept {M r : Nat} {L acc : List Bk} {cnt : Nat} {w w' : World} {row : Option Nat} (h : Rg M r L acc cnt w) (hg : w.grownBy w' row) (h1 : some M ≠ row) (h2 : some r ≠ row) : Rg M r L acc cnt w' := by
  obtain ⟨D, left, h3, h4⟩ := h
  exact ⟨D, left, h3.kept hg h1 h2, h4⟩
theorem Rg.ne {M r : Nat} {L acc : List Bk} {cnt : Nat} {w : World} (h : Rg M r L acc cnt w) : r ≠ M ∧ r < w.heap.size ∧ M < w.heap.size := by
  have hl := h.owns.lt
  obtain ⟨D, left, h1, _⟩ := h
  exact ⟨h1.ne, h1.lt, hl⟩
theorem nodup_of_ids {L : List Bk} (h : (ids L).Nodup) : L.Nodup := by
  unfold ids at h
  rw [List.nodup_iff_pairwise_ne, List.pairwise_map] at h
  rw [List.nodup_iff_pairwise_ne]
  exact h.imp (fun hne e => hne (by rw [e]))
theorem Rg.done {M r : Nat} {L acc : List Bk} {w : World} (h : Rg M r L acc 0 w) (hall : ∀ D left, w.ranges Try.prog 3 bkR M r L.length D left 0 → ∀ k, left k = false) : acc.Perm L := by
  obtain ⟨D, left, h1, h2, h3, h4, _, h5⟩ := h
  have hl := hall D left h1
  have hnL := h2.2.2.2.2
  have hm : ∀ b ∈ L, b ∈ acc := by
    intro b hb
    have e := h5 b.id
    rw [hl] at e
    have e2 := of_decide_eq_false e.symm
    have hbi : b.id ∈ ids L := ids_mem.2 ⟨b, hb, rfl⟩
    have hba : b.id ∈ ids acc := by
      rcases Classical.em (b.id ∈ ids acc) with h | h
      · exact h
      · exact absurd ⟨hbi, h⟩ e2
    obtain ⟨c, hc, hce⟩ := ids_mem.1 hba
    have e3 := h2.2.2.1 b hb (.map [])
    have e4 := h2.2.2.1 c (h3 c hc) (.map [])
    rw [hce] at e4
    rw [e3] at e4
    rw [bkE_inj e4]; exact hc
  have n1 : acc.Nodup := nodup_of_ids h4
  have n2 : L.Nodup := nodup_of_ids hnL
  exact (List.perm_ext_iff_of_nodup n1 n2).2 (fun b => ⟨h3 b, hm b⟩)
theorem Rg.next {M r : Nat} {L acc : List Bk} {cnt : Nat} {w : World} (h : Rg M r L acc cnt w) (ty : TypeId) :
    (cnt = 0 ∧ acc.Perm L ∧ (Instr.next (.pointer (some ⟨r, 0, none⟩)) false ty).run Try.prog w = .ok (.tuple #[.bool false]) w) ∨
    ∃ b w' cnt', (Instr.next (.pointer (some ⟨r, 0, none⟩)) false ty).run Try.prog w = .ok (.tuple #[.bool true, .int .i64 b.id, bkv b]) w' ∧ Rg M r L (acc ++ [b]) cnt' w' ∧ cnt' < cnt ∧ w.grownBy w' (some r) ∧ w'.heap.size = w.heap.size ∧ b ∈ L ∧
      (Instr.entry (.pointer (some ⟨r, 0, none⟩))).run Try.prog w' = .ok (.tuple #[.int .i64 b.id, bkv b]) w' := by
  have h' := h
  obtain ⟨D, left, h1, h2, h3, h4, h5, h6⟩ := h
  rcases h1.next law3 ty with ⟨e1, e2, e3⟩ | ⟨key, v, kl', y, w', cnt', e1, e2, e3, e4, e5, e6, e7, e8, e9, e10⟩
  · subst e1
    refine .inl ⟨rfl, h'.done (fun D' left' h1' k => ?_), e3⟩
    rcases h1'.next law3 ty with ⟨_, f2, _⟩ | ⟨_, _, _, _, _, _, _, _, _, _, _, _, f7, _⟩
    · exact f2 k
    · omega
  · obtain ⟨x, rfl, rfl, hx⟩ := Maps.keyOf_int_inv Try.underlying3 e1
    obtain ⟨b, rfl, rfl⟩ := bkR_inv e3
    have e11 := h6 x
    rw [show left (kl x) = true from e2] at e11
    obtain ⟨hxL, hxa⟩ := of_decide_eq_true e11.symm
    obtain ⟨c, hc, hcx⟩ := ids_mem.1 hxL
    have e12 := h2.2.2.1 c hc (.map [])
    rw [hcx, show D.atKey (kl x) _ = _ from e4 _] at e12
    have hbc : b = c := bkE_inj e12
    subst hbc
    subst hcx
    refine .inr ⟨b, w', cnt', e5, ⟨D, _, e6, h2, fun d hd => ?_, ?_, fun k hk => h5 k (by simp at hk; exact hk.1), fun i => ?_⟩, e7, e8, e9, hc, e10⟩
    · rcases List.mem_append.1 hd with hd | hd
      · exact h3 d hd
      · rw [List.mem_singleton.1 hd]; exact hc
    · unfold ids
      rw [List.map_append, List.nodup_append]
      refine ⟨h4, by simp, fun i hi j hj => ?_⟩
      simp at hj
      subst hj
      intro e
      exact hxa (by rw [← e]; exact hi)
    · show (left (kl i) && !(kl i).sameKey (kl b.id)) = _
      rw [h6 i]
      by_cases hib : i = b.id
      · subst hib
        rw [WideAt.sameKey_self (kl_key _)]
        have : b.id ∈ ids (acc ++ [b]) := ids_mem.2 ⟨b, by simp, rfl⟩
        rw [decide_eq_false (p := b.id ∈ ids L ∧ b.id ∉ ids (acc ++ [b])) (fun h => h.2 this)]
        simp
      · rw [Maps.sameKey_ne (kl_ne hib), Bool.not_false, Bool.and_true, decide_eq_decide]
        have : i ∈ ids (acc ++ [b]) ↔ i ∈ ids acc := by
          unfold ids
          rw [List.map_append, List.mem_append]
          simp [hib]
        rw [this]
section
variable (w : World) {ops : Array Oper} {rest : List Oper} {o : Oper} {a : Act} {Q : Exit → Act → World → Prop}
theorem wpList_next_pool (hg : o.guard = none) (it : Operand) (hop : o.op = Op.next it false) (M r : Nat) (L acc : List Bk) (cnt : Nat) (hit : a.eval it = .pointer (some ⟨r, 0, none⟩)) (h : Rg M r L acc cnt w)
    (hDone : cnt = 0 → acc.Perm L → wpList Try.prog ops Q rest (a.put o.dst (.tuple #[.bool false])) w)
    (hMore : ∀ (i : Int) (s : ByteArray) (f : Nat) (w' : World) (cnt' : Nat), Rg M r L (acc ++ [⟨i, s, f⟩]) cnt' w' → cnt' < cnt → w.grownBy w' (some r) → w'.heap.size = w.heap.size → (⟨i, s, f⟩ : Bk) ∈ L → (Instr.entry (.pointer (some ⟨r, 0, none⟩))).run Try.prog w' = .ok (.tuple #[.int .i64 i, .agg #[.int .i64 i, .string s, .float .f64 f]]) w' →
      wpList Try.prog ops Q rest (a.put o.dst (.tuple #[.bool true, .int .i64 i, .agg #[.int .i64 i, .string s, .float .f64 f]])) w') :
    wpList Try.prog ops Q (o :: rest) a w := by
  refine wpList_plain hg fun K' hK' => ?_
  unfold Oper.wp
  rcases h.next o.type with ⟨h0, hp, hrun⟩ | ⟨⟨i, s, f⟩, w', cnt', hrun, hrg, hlt, hgr, hsz, hm, hen⟩
  · simp [execOp, hop, hit, hrun, Result.andThen]
    exact hK' _ _ (hDone h0 hp)
  · simp [execOp, hop, hit, hrun, Result.andThen]
    exact hK' _ _ (hMore i s f w' cnt' hrg hlt hgr hsz hm hen)
theorem wpList_range_pool (hg : o.guard = none) (m : Operand) (hop : o.op = Op.range 50 m) (M : Nat) (L : List Bk) (hm : a.eval m = .map (some M)) (h : PM M L w)
    (hK : ∀ w', Rg M w.heap.size L [] L.length w' → w.grownBy w' none → w'.heap.size = w.heap.size + 1 → wpList Try.prog ops Q rest (a.put o.dst (.pointer (some ⟨w.heap.size, 0, none⟩))) w') :
    wpList Try.prog ops Q (o :: rest) a w := by
  obtain ⟨D, h1, h2⟩ := h
  refine wpList_range_own w hg m 50 hop 3 32 law3 Try.underlying50 bkR M L.length D hm h1 (fun w' r1 r2 r3 => hK w' ?_ r2 r3)
  rw [h2.2.2.2.1] at r1
  refine ⟨D, _, r1, h2, (fun b hb => by simp at hb), List.nodup_nil, fun k hk => ?_, fun i => ?_⟩
  · obtain ⟨es, clock, since, seen, c0, f1, F, f3, f4, _⟩ := r1
    subst f4
    obtain ⟨p, hp, hpk⟩ := List.any_eq_true.1 hk
    obtain ⟨x, hx, rfl⟩ := List.mem_map.1 (mem_sorted.1 hp)
    obtain ⟨y, hy⟩ := F.reads x hx
    have hkey := WideElems.rd_key hy
    obtain ⟨i, _, e, _⟩ := Maps.keyOf_int_inv Try.underlying3 hkey
    refine ⟨i, ?_⟩
    rw [← WideAt.sameKey_eq hpk, WideElems.rg_of hy]
    exact e
  · rw [h2.2.1 i, decide_eq_decide]
    exact ⟨fun h => ⟨h, fun hc => by cases hc⟩, fun h => h.1⟩
end
end Go.Proofs.Ytgonagkhnkhcnaa
