import Derived.Test.YthdkbocokefdhaaIpP
/- Tables of pieces: in plain Lean. -/
namespace Go.Proofs.Ythdkbocokefdhaa
set_option maxRecDepth 100000
open Go.RowKit
/-- a piece -/
structure Pc where
  h : H4
  s : List UInt8
deriving DecidableEq
def Pc.lo (p : Pc) : Nat := 8 * p.h.off.toNat
def Pc.hi (p : Pc) : Nat := p.lo + p.s.length
def fitB (a b : Pc) : Bool := (decide (a.hi ≤ b.lo) || decide (b.hi ≤ a.lo)) && !(!a.h.mf && !b.h.mf) && (a.h.mf || decide (b.hi ≤ a.hi)) && (b.h.mf || decide (a.hi ≤ b.hi))
def likeB (a b : Pc) : Bool := decide (a.lo = b.lo) && decide (a.s = b.s) && decide (a.h.mf = b.h.mf)
def oddB (p : Pc) : Bool := decide (65515 < p.hi) || (p.h.mf && (decide (p.s.length % 8 ≠ 0) || decide (p.s = []))) || (decide (0 < p.lo) && decide (p.s = []))
structure Ky where
  src : List UInt8
  dst : List UInt8
  proto : Int
  id : Int
deriving DecidableEq
def kyOf (h : H4) : Ky := ⟨h.src, h.dst, h.proto, h.id⟩
structure En where
  k : Ky
  ps : List Pc
  done : Bool
  age : Nat
structure Sto where
  ents : Nat
  bts : Nat
  life : Nat
/-- by where they begin -/
def insP (p : Pc) : List Pc → List Pc
  | [] => [p]
  | q :: t => if p.lo < q.lo then p :: q :: t else q :: insP p t
def lenP (ps : List Pc) : Nat := (ps.map fun p => p.s.length).sum
def btsL (L : List En) : Nat := (L.map fun e => lenP e.ps).sum
def opnL (L : List En) : Nat := (L.filter fun e => !e.done).length
def keysL (L : List En) : List Ky := L.map En.k
def findL (L : List En) (k : Ky) : Option En := L.find? fun e => decide (e.k = k)
def contig : Nat → List Pc → Bool
  | _, [] => true
  | at_, p :: t => decide (p.lo = at_) && contig p.hi t
def lastB : List Pc → Bool
  | [] => false
  | [p] => !p.h.mf
  | _ :: q :: t => lastB (q :: t)
def wholeB (ps : List Pc) : Bool := contig 0 ps && lastB ps
def putL (L : List En) (e : En) : List En := if e.k ∈ keysL L then L.map (fun f => if f.k = e.k then e else f) else L ++ [e]
def txtP (ps : List Pc) : List UInt8 := ps.flatMap Pc.s
def hdP (ps : List Pc) : H4 := { (ps.headD ⟨⟨0, 0, 0, 0, 0, false, false, [], [], []⟩, []⟩).h with mf := false }
def finE (ps : List Pc) : List UInt8 × Nat := match putE (hdP ps) (txtP ps) with
  | .ok t => (t, 0)
  | .error c => ([], c)
def addT (st : Sto) (L : List En) (x : List UInt8) : (List UInt8 × Nat) × List En :=
  match getE x with
  | .error c => (([], c), L)
  | .ok (h, s) =>
    if oddB ⟨h, s⟩ then (([], 4), L) else
    let e := (findL L (kyOf h)).getD ⟨kyOf h, [], false, 0⟩
    if e.done then (([], 12), L)
    else if e.ps.any (likeB ⟨h, s⟩) then (([], 10), L)
    else if e.ps.any (fun o => !fitB ⟨h, s⟩ o) then (([], 14), L)
    else if ((findL L (kyOf h)).isNone && decide (st.ents ≤ L.length)) || decide (st.bts < btsL L + s.length) then (([], 11), L)
    else if wholeB (insP ⟨h, s⟩ e.ps) then (finE (insP ⟨h, s⟩ e.ps), putL L ⟨kyOf h, [], true, e.age⟩)
    else (([], 10), putL L ⟨kyOf h, insP ⟨h, s⟩ e.ps, false, e.age⟩)
def tickL (st : Sto) (L : List En) : List En := (L.filter fun e => decide (e.age + 1 < st.life)).map fun e => { e with age := e.age + 1 }
/-- a piece that may stand in a table -/
structure PcOk (p : Pc) : Prop where
  ok : p.h.ok
  odd : oddB p = false
structure EnOk (e : En) : Prop where
  ps : ∀ p ∈ e.ps, PcOk p ∧ kyOf p.h = e.k
  sorted : e.ps.Pairwise fun p q => p.lo < q.lo
  fits : e.ps.Pairwise fun p q => fitB p q = true
  done : e.done = true → e.ps = []
  open_ : e.done = false → e.ps ≠ []
structure GoodT (st : Sto) (L : List En) : Prop where
  nodup : (keysL L).Nodup
  few : L.length ≤ st.ents
  small : btsL L ≤ st.bts
  ens : ∀ e ∈ L, EnOk e
theorem GoodT.nil (st : Sto) : GoodT st [] := ⟨List.nodup_nil, Nat.zero_le _, Nat.zero_le _, fun e h => by cases h⟩
theorem insP_perm (p : Pc) : ∀ l, (insP p l).Perm (p :: l)
  | [] => List.Perm.refl _
  | q :: t => by
    unfold insP; split
    · exact List.Perm.refl _
    · exact ((insP_perm p t).cons q).trans (List.Perm.swap p q t)
theorem lenP_perm {a b : List Pc} (h : a.Perm b) : lenP a = lenP b := (h.map _).sum_nat
theorem lenP_ins (p : Pc) (l : List Pc) : lenP (insP p l) = p.s.length + lenP l := by
  rw [lenP_perm (insP_perm p l)]; unfold lenP; simp
theorem fitB_symm (a b : Pc) : fitB a b = fitB b a := by
  unfold fitB
  cases a.h.mf <;> cases b.h.mf <;> simp [Bool.or_comm, Bool.and_comm]
theorem fit_ne {a b : Pc} (ha : PcOk a) (hb : PcOk b) (h : fitB a b = true) : a.lo ≠ b.lo := by
  intro e
  have h1 := ha.odd
  have h2 := hb.odd
  unfold fitB Pc.hi at h
  unfold oddB Pc.hi at h1 h2
  have l1 : a.s = [] ↔ a.s.length = 0 := List.length_eq_zero_iff.symm
  have l2 : b.s = [] ↔ b.s.length = 0 := List.length_eq_zero_iff.symm
  simp only [l1, l2] at h1 h2
  cases hm : a.h.mf <;> cases hn : b.h.mf <;> simp [hm, hn, e] at h h1 h2 <;> (try simp only [l1, l2] at h h1 h2) <;> omega
theorem insP_sorted (p : Pc) : ∀ {l : List Pc}, l.Pairwise (fun p q => p.lo < q.lo) → (∀ q ∈ l, p.lo ≠ q.lo) → (insP p l).Pairwise fun p q => p.lo < q.lo
  | [], _, _ => List.pairwise_singleton ..
  | q :: t, h, hn => by
    have h' := List.pairwise_cons.1 h
    have hq := hn q (List.mem_cons_self ..)
    unfold insP; split
    · rename_i hl
      refine List.pairwise_cons.2 ⟨fun x hx => ?_, h⟩
      rcases List.mem_cons.1 hx with rfl | hx
      · exact hl
      · have := h'.1 x hx; omega
    · refine List.pairwise_cons.2 ⟨fun x hx => ?_, insP_sorted p h'.2 (fun x hx => hn x (List.mem_cons_of_mem _ hx))⟩
      rcases List.mem_cons.1 ((insP_perm p t).mem_iff.1 hx) with rfl | hx
      · omega
      · exact h'.1 x hx
theorem findL_mem {L : List En} {k : Ky} {e : En} (h : findL L k = some e) : e ∈ L ∧ e.k = k := ⟨List.mem_of_find?_eq_some h, by simpa using List.find?_some h⟩
theorem findL_none {L : List En} {k : Ky} (h : findL L k = none) : k ∉ keysL L := by
  intro hm
  obtain ⟨e, he, hk⟩ := List.mem_map.1 hm
  have := List.find?_eq_none.1 h e he
  simp [hk] at this
theorem findL_some {L : List En} {k : Ky} (h : k ∈ keysL L) : ∃ e, findL L k = some e := by
  cases hf : findL L k with
  | none => exact absurd h (findL_none hf)
  | some e => exact ⟨e, rfl⟩
theorem putL_keys (L : List En) (e : En) : keysL (putL L e) = if e.k ∈ keysL L then keysL L else keysL L ++ [e.k] := by
  unfold putL
  split
  · unfold keysL
    rw [List.map_map]
    apply List.map_congr_left
    intro f _
    show (if f.k = e.k then e else f).k = f.k
    split
    · rename_i h; exact h.symm
    · rfl
  · unfold keysL; simp
theorem putL_mem {L : List En} {e f : En} (h : f ∈ putL L e) : f = e ∨ (f ∈ L ∧ f.k ≠ e.k) := by
  unfold putL at h
  split at h
  · obtain ⟨g, hg, rfl⟩ := List.mem_map.1 h
    split
    · exact .inl rfl
    · rename_i hk; exact .inr ⟨hg, hk⟩
  · rename_i hk
    rcases List.mem_append.1 h with h | h
    · exact .inr ⟨h, fun he => hk (by rw [← he]; exact List.mem_map.2 ⟨f, h, rfl⟩)⟩
    · exact .inl (List.mem_singleton.1 h)
/-- a sum over the entries, where one is put -/
theorem sum_put (g : En → Nat) : ∀ {L : List En} (e : En), (keysL L).Nodup → ∀ {o : En}, findL L e.k = some o → ((L.map fun f => if f.k = e.k then e else f).map g).sum + g o = (L.map g).sum + g e
  | [], e, _, o, h => by cases h
  | f :: t, e, hn, o, h => by
    have hn' : f.k ∉ keysL t ∧ (keysL t).Nodup := List.nodup_cons.1 hn
    by_cases hk : f.k = e.k
    · have ho : o = f := by unfold findL at h; rw [List.find?_cons_of_pos (by simpa using hk)] at h; exact (Option.some.inj h).symm
      have ht : (t.map fun f => if f.k = e.k then e else f) = t := by
        rw [List.map_congr_left (g := id) ?_, List.map_id]
        intro x hx
        rw [if_neg]; · rfl
        intro hxe
        exact hn'.1 (by rw [hk, ← hxe]; exact List.mem_map.2 ⟨x, hx, rfl⟩)
      rw [List.map_cons, if_pos hk, ht, ho]
      simp; omega
    · have h2 : findL t e.k = some o := by unfold findL at h ⊢; rwa [List.find?_cons_of_neg (by simpa using hk)] at h
      have := sum_put g e hn'.2 h2
      rw [List.map_cons, if_neg hk]
      simp at this ⊢; omega
theorem putL_sum (g : En → Nat) {L : List En} (e : En) (hn : (keysL L).Nodup) : ((putL L e).map g).sum + ((findL L e.k).map g).getD 0 = (L.map g).sum + g e := by
  unfold putL
  split
  · rename_i hk
    obtain ⟨o, ho⟩ := findL_some hk
    rw [ho]; exact sum_put g e hn ho
  · rename_i hk
    have : findL L e.k = none := by
      cases hf : findL L e.k with
      | none => rfl
      | some o => exact absurd (List.mem_map.2 ⟨o, (findL_mem hf).1, (findL_mem hf).2⟩) hk
    rw [this]; simp
theorem putL_len {L : List En} (e : En) : (putL L e).length = L.length + if (findL L e.k).isNone then 1 else 0 := by
  unfold putL
  split
  · rename_i hk
    obtain ⟨o, ho⟩ := findL_some hk
    rw [ho]; simp
  · rename_i hk
    have : findL L e.k = none := by
      cases hf : findL L e.k with
      | none => rfl
      | some o => exact absurd (List.mem_map.2 ⟨o, (findL_mem hf).1, (findL_mem hf).2⟩) hk
    rw [this]; simp
theorem fin_code {ps : List Pc} (h : ps ≠ []) (hp : ∀ p ∈ ps, PcOk p) : ((finE ps).2 = 0 ∧ (finE ps).1 ≠ []) ∨ ((finE ps).2 = 4 ∧ (finE ps).1 = []) := by
  have hk : chk (hdP ps) = true := by
    cases ps with
    | nil => exact absurd rfl h
    | cons p t =>
      have ho := (hp p (List.mem_cons_self ..)).ok
      exact (chk_iff _).2 ⟨ho.tos, ho.ttl, ho.proto, ho.id, ho.off, ho.src, ho.dst, ho.opt⟩
  unfold finE
  cases hq : putE (hdP ps) (txtP ps) with
  | ok t =>
    have := (putE_inv hq).2.1
    refine .inl ⟨rfl, fun e => ?_⟩
    simp only at e
    rw [e] at this
    simp at this; omega
  | error c =>
    refine .inr ⟨?_, rfl⟩
    unfold putE at hq
    rw [if_pos hk] at hq
    split at hq
    · injection hq with hq; exact hq.symm
    · cases hq
theorem getE_code {x : List UInt8} {c : Nat} (h : getE x = .error c) : c = 2 ∨ c = 3 ∨ c = 4 ∨ c = 5 ∨ c = 9 := by
  unfold getE at h
  repeat' split at h
  all_goals first | (injection h with h; omega) | cases h
theorem fit_false {p : Pc} {l : List Pc} (h : l.any (fun o => !fitB p o) = false) : ∀ q ∈ l, fitB p q = true := by
  intro q hq
  have := List.any_eq_false.1 h q hq
  simpa using this
theorem insP_ok {p : Pc} {e : En} (he : EnOk e) (hp : PcOk p) (hk : kyOf p.h = e.k) (hf : ∀ q ∈ e.ps, fitB p q = true) :
    (∀ q ∈ insP p e.ps, PcOk q ∧ kyOf q.h = e.k) ∧ (insP p e.ps).Pairwise (fun p q => p.lo < q.lo) ∧ (insP p e.ps).Pairwise (fun p q => fitB p q = true) := by
  refine ⟨fun q hq => ?_, insP_sorted p he.sorted (fun q hq => fit_ne hp (he.ps q hq).1 (hf q hq)), ?_⟩
  · rcases List.mem_cons.1 ((insP_perm p e.ps).mem_iff.1 hq) with rfl | hq
    · exact ⟨hp, hk⟩
    · exact he.ps q hq
  · refine ((insP_perm p e.ps).pairwise_iff (fun {a b} h => by rw [fitB_symm]; exact h)).2 ?_
    exact List.pairwise_cons.2 ⟨hf, he.fits⟩
theorem insP_ne (p : Pc) (l : List Pc) : insP p l ≠ [] := by
  intro h
  have := (insP_perm p l).length_eq
  rw [h] at this; simp at this
/-- what Add told, and what came of it -/
theorem addT_cases (st : Sto) (L : List En) (x : List UInt8) (hg : GoodT st L) :
    (∃ c, addT st L x = (([], c), L) ∧ c ≠ 0) ∨
    ∃ (p : Pc) (e : En), getE x = .ok (p.h, p.s) ∧ PcOk p ∧ (findL L (kyOf p.h)).getD ⟨kyOf p.h, [], false, 0⟩ = e ∧ e.k = kyOf p.h ∧ EnOk { e with ps := insP p e.ps } ∧ e.done = false ∧ (∀ q ∈ e.ps, fitB p q = true) ∧ (∀ q ∈ e.ps, likeB p q = false) ∧
      ((findL L (kyOf p.h)).isNone = true → L.length < st.ents) ∧ btsL L + p.s.length ≤ st.bts ∧
      ((wholeB (insP p e.ps) = true ∧ addT st L x = (finE (insP p e.ps), putL L ⟨kyOf p.h, [], true, e.age⟩)) ∨
       (wholeB (insP p e.ps) = false ∧ addT st L x = (([], 10), putL L ⟨kyOf p.h, insP p e.ps, false, e.age⟩))) := by
  unfold addT
  cases hgx : getE x with
  | error c => exact .inl ⟨c, rfl, by have := getE_code hgx; omega⟩
  | ok hs =>
    obtain ⟨h, s⟩ := hs
    simp only
    by_cases c1 : oddB ⟨h, s⟩ = true
    · rw [if_pos c1]; exact .inl ⟨4, rfl, by decide⟩
    rw [if_neg c1]
    obtain ⟨e, he⟩ : ∃ e, e = (findL L (kyOf h)).getD ⟨kyOf h, [], false, 0⟩ := ⟨_, rfl⟩
    rw [← he]
    by_cases c2 : e.done = true
    · rw [if_pos c2]; exact .inl ⟨12, rfl, by decide⟩
    rw [if_neg c2]
    by_cases c3 : e.ps.any (likeB ⟨h, s⟩) = true
    · rw [if_pos c3]; exact .inl ⟨10, rfl, by decide⟩
    rw [if_neg c3]
    by_cases c4 : e.ps.any (fun o => !fitB ⟨h, s⟩ o) = true
    · rw [if_pos c4]; exact .inl ⟨14, rfl, by decide⟩
    rw [if_neg c4]
    by_cases c5 : (((findL L (kyOf h)).isNone && decide (st.ents ≤ L.length)) || decide (st.bts < btsL L + s.length)) = true
    · rw [if_pos c5]; exact .inl ⟨11, rfl, by decide⟩
    rw [if_neg c5]
    have hf := fit_false (Bool.not_eq_true _ ▸ c4)
    have hl : ∀ q ∈ e.ps, likeB ⟨h, s⟩ q = false := fun q hq => by
      have := List.any_eq_false.1 (Bool.not_eq_true _ ▸ c3) q hq
      simpa using this
    have hp : PcOk ⟨h, s⟩ := ⟨(getE_ok hgx).1, by simpa using c1⟩
    have c2' : e.done = false := by simpa using c2
    have hek : e.k = kyOf h ∧ (∀ q ∈ e.ps, PcOk q ∧ kyOf q.h = e.k) ∧ e.ps.Pairwise (fun p q => p.lo < q.lo) ∧ e.ps.Pairwise (fun p q => fitB p q = true) := by
      cases hq : findL L (kyOf h) with
      | none => rw [hq] at he; subst he; exact ⟨rfl, fun q h => (nomatch h), List.Pairwise.nil, List.Pairwise.nil⟩
      | some o =>
        rw [hq] at he
        have he : e = o := he
        subst he
        obtain ⟨m1, m2⟩ := findL_mem hq
        have := hg.ens e m1
        exact ⟨m2, this.ps, this.sorted, this.fits⟩
    obtain ⟨k1, k2, k3, k4⟩ := hek
    have he2 : EnOk { e with ps := insP ⟨h, s⟩ e.ps } := by
      refine ⟨?_, ?_, ?_, fun hd => ?_, fun _ => insP_ne _ _⟩
      · intro q hq
        rcases List.mem_cons.1 ((insP_perm _ e.ps).mem_iff.1 hq) with rfl | hq
        · exact ⟨hp, k1.symm⟩
        · exact k2 q hq
      · exact insP_sorted _ k3 (fun q hq => fit_ne hp (k2 q hq).1 (hf q hq))
      · refine ((insP_perm _ e.ps).pairwise_iff (fun {a b} h => by rw [fitB_symm]; exact h)).2 ?_
        exact List.pairwise_cons.2 ⟨hf, k4⟩
      · rw [c2'] at hd; cases hd
    simp only [Bool.or_eq_true, Bool.and_eq_true, decide_eq_true_eq, not_or, not_and] at c5
    refine .inr ⟨⟨h, s⟩, e, rfl, hp, he.symm, k1, he2, c2', hf, hl, fun hn => by have := c5.1 hn; omega, by have := c5.2; simp only; omega, ?_⟩
    by_cases c6 : wholeB (insP ⟨h, s⟩ e.ps) = true
    · rw [if_pos c6]; exact .inl ⟨c6, rfl⟩
    · rw [if_neg c6]; exact .inr ⟨by simpa using c6, rfl⟩
theorem put_good {st : Sto} {L : List En} (hg : GoodT st L) (e : En) (he : EnOk e) (h1 : (findL L e.k).isNone = true → L.length < st.ents) (h2 : btsL (putL L e) ≤ st.bts) : GoodT st (putL L e) := by
  refine ⟨?_, ?_, h2, fun f hf => ?_⟩
  · rw [putL_keys]
    split
    · exact hg.nodup
    · rename_i hk
      rw [List.nodup_append]
      exact ⟨hg.nodup, by simp, fun a ha b hb => by rw [List.mem_singleton.1 hb]; intro e2; exact hk (by rw [← e2]; exact ha)⟩
  · have := hg.few
    rw [putL_len]
    split
    · rename_i h; have := h1 h; omega
    · omega
  · rcases putL_mem hf with rfl | ⟨hf, _⟩
    · exact he
    · exact hg.ens f hf
theorem put_bts {st : Sto} {L : List En} (hg : GoodT st L) (e : En) : btsL (putL L e) + ((findL L e.k).map fun o => lenP o.ps).getD 0 = btsL L + lenP e.ps := putL_sum (fun e => lenP e.ps) e hg.nodup
theorem addT_good {st : Sto} {L : List En} {x : List UInt8} (hg : GoodT st L) : GoodT st (addT st L x).2 := by
  rcases addT_cases st L x hg with ⟨c, h, _⟩ | ⟨p, e, h1, hp, h2, h3, h4, h5, h6, _, h7, h8, ⟨_, h9⟩ | ⟨_, h9⟩⟩
  · rw [h]; exact hg
  · rw [h9]
    refine put_good hg _ ⟨fun q h => (nomatch h), List.Pairwise.nil, List.Pairwise.nil, fun _ => rfl, fun h => (nomatch h)⟩ h7 ?_
    have := put_bts hg ⟨kyOf p.h, [], true, e.age⟩
    have h0 : lenP [] = 0 := rfl
    simp only [h0] at this
    omega
  · rw [h9]
    refine put_good hg _ ?_ h7 ?_
    · rw [← h3]; exact ⟨h4.ps, h4.sorted, h4.fits, fun h => (nomatch h), fun _ => insP_ne _ _⟩
    · have := put_bts hg ⟨kyOf p.h, insP p e.ps, false, e.age⟩
      have h0 : lenP (insP p e.ps) = _ := lenP_ins p e.ps
      simp only [h0] at this
      have h1 : ((findL L (kyOf p.h)).map fun o => lenP o.ps).getD 0 = lenP e.ps := by
        rw [← h2]; cases findL L (kyOf p.h) <;> rfl
      rw [h1] at this
      omega
/-- what the law of the bounds asks of each Add -/
theorem addT_bounds {st : Sto} {L : List En} {x : List UInt8} (hg : GoodT st L) :
    (((addT st L x).1.2 = 0) ↔ (addT st L x).1.1 ≠ []) ∧ ((addT st L x).1.2 ≠ 0 → (addT st L x).1.2 ≠ 10 → (addT st L x).1.2 ≠ 4 → (addT st L x).2 = L) := by
  rcases addT_cases st L x hg with ⟨c, h, hc⟩ | ⟨p, e, h1, hp, h2, h3, h4, h5, h6, _, h7, h8, ⟨_, h9⟩ | ⟨_, h9⟩⟩
  · rw [h]; exact ⟨⟨fun h => absurd h hc, fun h => absurd rfl h⟩, fun _ _ _ => rfl⟩
  · rw [h9]
    rcases fin_code (insP_ne p e.ps) (fun q hq => (h4.ps q hq).1) with ⟨a, b⟩ | ⟨a, b⟩
    · exact ⟨⟨fun _ => b, fun _ => a⟩, fun h => absurd a h⟩
    · refine ⟨⟨fun h => ?_, fun h => absurd b h⟩, fun _ _ h => absurd a h⟩
      simp only at h; rw [a] at h; cases h
  · rw [h9]; exact ⟨⟨fun h => (by cases h), fun h => absurd rfl h⟩, fun _ h => absurd rfl h⟩
theorem opn_le (L : List En) : opnL L ≤ L.length := List.length_filter_le _ _
theorem tick_ok {e : En} (h : EnOk e) (n : Nat) : EnOk { e with age := n } := ⟨h.ps, h.sorted, h.fits, h.done, h.open_⟩
theorem sum_filter (g : En → Nat) (p : En → Bool) : ∀ L : List En, ((L.filter p).map g).sum ≤ (L.map g).sum
  | [] => Nat.le_refl _
  | e :: t => by
    have := sum_filter g p t
    rw [List.filter_cons]
    split <;> simp <;> omega
theorem tick_good {st : Sto} {L : List En} (hg : GoodT st L) : GoodT st (tickL st L) := by
  unfold tickL
  refine ⟨?_, ?_, ?_, fun e he => ?_⟩
  · unfold keysL; rw [List.map_map]
    exact hg.nodup.sublist (List.filter_sublist.map _)
  · rw [List.length_map]; exact Nat.le_trans (List.length_filter_le _ _) hg.few
  · unfold btsL; rw [List.map_map]
    exact Nat.le_trans (sum_filter (fun e => lenP e.ps) _ L) hg.small
  · obtain ⟨f, hf, rfl⟩ := List.mem_map.1 he
    exact tick_ok (hg.ens f (List.mem_filter.1 hf).1) _
def ticks (st : Sto) : Nat → List En → List En
  | 0, L => L
  | n + 1, L => tickL st (ticks st n L)
theorem ticks_age (st : Sto) (L : List En) : ∀ n, ∀ e ∈ ticks st n L, n ≤ e.age ∧ (0 < n → e.age < st.life) := by
  intro n
  induction n with
  | zero => intro e _; exact ⟨Nat.zero_le _, fun h => by omega⟩
  | succ n ih =>
    intro e he
    unfold ticks tickL at he
    obtain ⟨f, hf, rfl⟩ := List.mem_map.1 he
    obtain ⟨hf, ha⟩ := List.mem_filter.1 hf
    have := (ih f hf).1
    have := of_decide_eq_true ha
    exact ⟨by simp only; omega, fun _ => this⟩
theorem ticks_end {st : Sto} {L : List En} (h : 0 < st.life) : ticks st st.life L = [] := by
  cases hq : ticks st st.life L with
  | nil => rfl
  | cons e t =>
    have := ticks_age st L st.life e (by rw [hq]; exact List.mem_cons_self ..)
    have := this.2 h
    omega
end Go.Proofs.Ythdkbocokefdhaa
/- Ages stay below a store's life. -/
namespace Go.Proofs.Ythdkbocokefdhaa
def AgeT (st : Sto) (L : List En) : Prop := ∀ e ∈ L, e.age ≤ st.life
theorem AgeT.nil (st : Sto) : AgeT st [] := fun e h => by cases h
theorem AgeT.tick {st : Sto} {L : List En} (_ : AgeT st L) : AgeT st (tickL st L) := by
  intro e he
  unfold tickL at he
  obtain ⟨f, hf, rfl⟩ := List.mem_map.1 he
  have := List.mem_filter.1 hf
  have h2 : f.age + 1 < st.life := of_decide_eq_true this.2
  show f.age + 1 ≤ st.life
  omega
theorem AgeT.putL {st : Sto} {e : En} (he : e.age ≤ st.life) : ∀ {L : List En}, AgeT st L → AgeT st (putL L e) := by
  intro L h f hf
  rcases putL_mem hf with rfl | h1
  · exact he
  · exact h f h1.1
theorem age_get {st : Sto} {L : List En} (h : AgeT st L) (k : Ky) : ((findL L k).getD ⟨k, [], false, 0⟩).age ≤ st.life := by
  cases hf : findL L k with
  | none => exact Nat.zero_le _
  | some e => exact h e (findL_mem hf).1
theorem AgeT.add {st : Sto} {L : List En} (h : AgeT st L) (hg : GoodT st L) (x : List UInt8) : AgeT st (addT st L x).2 := by
  rcases addT_cases st L x hg with ⟨c, h1, _⟩ | ⟨p, e, _, _, h3, _, _, _, _, _, _, _, ⟨_, h9⟩ | ⟨_, h9⟩⟩
  · rw [h1]; exact h
  all_goals
    rw [h9]
    have := age_get h (kyOf p.h)
    rw [h3] at this
    exact AgeT.putL (e := ⟨kyOf p.h, _, _, e.age⟩) this h
end Go.Proofs.Ythdkbocokefdhaa
/- A packet's pieces: in plain Lean. -/
namespace Go.Proofs.Ythdkbocokefdhaa
set_option maxRecDepth 100000
open Go.RowKit
/-- a packet's pieces -/
def pcs (h : H4) (s : List UInt8) (z : Nat) (i : Nat) : Pc := ⟨{ h with off := (i * z / 8 : Nat), mf := decide ((i + 1) * z < s.length) }, (s.drop (i * z)).take z⟩
structure CutOk (h : H4) (s : List UInt8) (z n : Nat) : Prop where
  ok : h.ok
  len : 20 + h.opt.length + s.length ≤ 65535
  z8 : z % 8 = 0
  z0 : 0 < z
  n0 : 0 < n
  hi : s.length ≤ n * z
  lo : (n - 1) * z < s.length ∨ n = 1
theorem mulz {z i : Nat} (h : z % 8 = 0) : 8 * (i * z / 8) = i * z := by
  obtain ⟨k, rfl⟩ : ∃ k, z = 8 * k := ⟨z / 8, by omega⟩
  rw [show i * (8 * k) = 8 * (i * k) by rw [Nat.mul_left_comm], Nat.mul_div_cancel_left _ (by decide)]
theorem pcs_lo {h : H4} {s : List UInt8} {z n : Nat} (c : CutOk h s z n) (i : Nat) : (pcs h s z i).lo = i * z := by
  show 8 * ((i * z / 8 : Nat) : Int).toNat = _
  rw [Int.toNat_natCast, mulz c.z8]
theorem pcs_len (h : H4) (s : List UInt8) (z i : Nat) : (pcs h s z i).s.length = min z (s.length - i * z) := by
  show ((s.drop (i * z)).take z).length = _
  rw [List.length_take, List.length_drop]
theorem at_lt {h : H4} {s : List UInt8} {z n : Nat} (c : CutOk h s z n) {i : Nat} (hi : i < n) : i * z < s.length ∨ (i = 0 ∧ n = 1) := by
  rcases c.lo with hl | hl
  · left
    have : i * z ≤ (n - 1) * z := Nat.mul_le_mul_right _ (by omega)
    omega
  · right; omega
theorem more_iff {h : H4} {s : List UInt8} {z n : Nat} (c : CutOk h s z n) {i : Nat} (_ : i < n) : (i + 1) * z < s.length ↔ i + 1 < n := by
  constructor
  · intro h1
    rcases Nat.lt_or_ge (i + 1) n with h2 | h2
    · exact h2
    · have := c.hi
      have : n * z ≤ (i + 1) * z := Nat.mul_le_mul_right _ h2
      omega
  · intro h1
    rcases at_lt c h1 with h2 | h2
    · exact h2
    · omega
theorem pcs_hi {h : H4} {s : List UInt8} {z n : Nat} (c : CutOk h s z n) {i : Nat} (hi : i < n) : (pcs h s z i).hi = if i + 1 < n then (i + 1) * z else s.length := by
  have h1 := at_lt c hi
  have h2 := more_iff c hi
  have h3 : (i + 1) * z = i * z + z := by rw [Nat.add_mul, Nat.one_mul]
  unfold Pc.hi
  rw [pcs_lo c, pcs_len]
  split
  · rename_i h; have := h2.2 h; omega
  · rename_i h
    have : ¬ (i + 1) * z < s.length := fun h9 => h (h2.1 h9)
    rcases h1 with h1 | ⟨h1, _⟩
    · omega
    · subst h1; omega
theorem pcs_mf {h : H4} {s : List UInt8} {z n : Nat} (c : CutOk h s z n) {i : Nat} (hi : i < n) : (pcs h s z i).h.mf = decide (i + 1 < n) := by
  show decide _ = decide _
  exact decide_eq_decide.2 (more_iff c hi)
theorem pcs_hok {h : H4} {s : List UInt8} {z n : Nat} (c : CutOk h s z n) {i : Nat} (hi : i < n) : (pcs h s z i).h.ok := by
  have h1 := at_lt c hi
  have h2 := c.len
  have h4 := c.ok.opt
  refine ⟨c.ok.tos, c.ok.ttl, c.ok.proto, c.ok.id, ?_, c.ok.src, c.ok.dst, c.ok.opt⟩
  show 0 ≤ ((i * z / 8 : Nat) : Int) ∧ ((i * z / 8 : Nat) : Int) ≤ 8191
  rcases h1 with h1 | ⟨h1, _⟩
  · omega
  · subst h1; simp
theorem pcs_ok {h : H4} {s : List UInt8} {z n : Nat} (c : CutOk h s z n) {i : Nat} (hi : i < n) : PcOk (pcs h s z i) := by
  refine ⟨pcs_hok c hi, ?_⟩
  have h1 := at_lt c hi
  have h2 := c.len
  have h4 := pcs_lo c i
  have h5 := pcs_hi c hi
  have h6 := more_iff c hi
  have h7 := pcs_mf c hi
  have h8 := pcs_len h s z i
  have h9 := c.z8
  have h0 := c.z0
  have hs : (pcs h s z i).s = [] ↔ (pcs h s z i).s.length = 0 := List.length_eq_zero_iff.symm
  have h3 : (i + 1) * z = i * z + z := by rw [Nat.add_mul, Nat.one_mul]
  unfold oddB
  rw [h4, h5, h7]
  simp only [hs, h8]
  have a1 : ¬ 65515 < (if i + 1 < n then (i + 1) * z else s.length) := by split <;> omega
  have a2 : ¬ (0 < i * z ∧ min z (s.length - i * z) = 0) := by
    rcases h1 with h1 | ⟨h1, _⟩
    · omega
    · subst h1; omega
  by_cases hm : i + 1 < n
  · have := h6.2 hm
    simp [hm] at a1 ⊢
    refine ⟨⟨a1, ?_, ?_⟩, ?_⟩ <;> omega
  · simp [hm] at a1 ⊢
    refine ⟨a1, ?_⟩; omega
theorem pcs_key (h : H4) (s : List UInt8) (z i : Nat) : kyOf (pcs h s z i).h = kyOf h := rfl
theorem pcs_fit {h : H4} {s : List UInt8} {z n : Nat} (c : CutOk h s z n) {i j : Nat} (hi : i < n) (hj : j < n) (hne : i ≠ j) : fitB (pcs h s z i) (pcs h s z j) = true := by
  have key : ∀ {i j : Nat}, i < n → j < n → i < j → fitB (pcs h s z i) (pcs h s z j) = true := by
    intro i j hi hj hij
    have hm1 : i + 1 < n := by omega
    have a1 : (i + 1) * z ≤ j * z := Nat.mul_le_mul_right _ (by omega)
    have a2 := (more_iff c hi).2 hm1
    unfold fitB
    rw [pcs_mf c hi, pcs_mf c hj, pcs_lo c, pcs_lo c, pcs_hi c hi, pcs_hi c hj, if_pos hm1]
    have a4 : (j + 1) * z = j * z + z := by rw [Nat.add_mul, Nat.one_mul]
    by_cases hm : j + 1 < n
    · simp [hm, hm1]; omega
    · simp [hm, hm1]; omega
  rcases Nat.lt_or_gt_of_ne hne with h1 | h1
  · exact key hi hj h1
  · rw [fitB_symm]; exact key hj hi h1
theorem pcs_like {h : H4} {s : List UInt8} {z n : Nat} (c : CutOk h s z n) (i j : Nat) : likeB (pcs h s z i) (pcs h s z j) = decide (i = j) := by
  by_cases hij : i = j
  · subst hij; simp [likeB]
  · have : (pcs h s z i).lo ≠ (pcs h s z j).lo := by
      rw [pcs_lo c, pcs_lo c]
      intro e
      exact hij (Nat.eq_of_mul_eq_mul_right c.z0 e)
    simp [likeB, this, hij]
/-- those of them that came -/
def part (h : H4) (s : List UInt8) (z n : Nat) (S : Nat → Bool) : List Pc := ((List.range n).filter S).map (pcs h s z)
theorem part_mem {h : H4} {s : List UInt8} {z n : Nat} {S : Nat → Bool} {p : Pc} : p ∈ part h s z n S ↔ ∃ i, i < n ∧ S i = true ∧ pcs h s z i = p := by
  unfold part
  rw [List.mem_map]
  constructor
  · rintro ⟨i, hi, rfl⟩
    obtain ⟨h1, h2⟩ := List.mem_filter.1 hi
    exact ⟨i, List.mem_range.1 h1, h2, rfl⟩
  · rintro ⟨i, h1, h2, rfl⟩
    exact ⟨i, List.mem_filter.2 ⟨List.mem_range.2 h1, h2⟩, rfl⟩
theorem part_sorted {h : H4} {s : List UInt8} {z n : Nat} (c : CutOk h s z n) (S : Nat → Bool) : (part h s z n S).Pairwise fun p q => p.lo < q.lo := by
  unfold part
  rw [List.pairwise_map]
  refine (List.pairwise_lt_range.filter S).imp fun {a b} hab => ?_
  rw [pcs_lo c, pcs_lo c]
  exact Nat.mul_lt_mul_of_pos_right hab c.z0
theorem sorted_one : ∀ {xs ys : List Pc}, xs.Perm ys → xs.Pairwise (fun p q => p.lo < q.lo) → ys.Pairwise (fun p q => p.lo < q.lo) → xs = ys := by
  intro xs ys hp h1 h2
  exact hp.eq_of_pairwise (fun a b _ _ h3 h4 => by omega) h1 h2
theorem part_ins {h : H4} {s : List UInt8} {z n : Nat} (c : CutOk h s z n) {S : Nat → Bool} {j : Nat} (hj : j < n) (hS : S j = false) : insP (pcs h s z j) (part h s z n S) = part h s z n (fun i => S i || decide (i = j)) := by
  have hs1 : (insP (pcs h s z j) (part h s z n S)).Pairwise fun p q => p.lo < q.lo := by
    refine insP_sorted _ (part_sorted c S) fun q hq => ?_
    obtain ⟨i, hi, h2, rfl⟩ := part_mem.1 hq
    rw [pcs_lo c, pcs_lo c]
    intro e
    have := Nat.eq_of_mul_eq_mul_right c.z0 e
    rw [this, h2] at hS; cases hS
  refine sorted_one ?_ hs1 (part_sorted c _)
  have n1 : (insP (pcs h s z j) (part h s z n S)).Nodup := hs1.imp fun {a b} hab e => by rw [e] at hab; omega
  have n2 : (part h s z n (fun i => S i || decide (i = j))).Nodup := (part_sorted c _).imp fun {a b} hab e => by rw [e] at hab; omega
  refine (List.perm_ext_iff_of_nodup n1 n2).2 fun p => ?_
  rw [(insP_perm _ _).mem_iff, List.mem_cons, part_mem, part_mem]
  constructor
  · rintro (rfl | ⟨i, h1, h2, rfl⟩)
    · exact ⟨j, hj, by simp, rfl⟩
    · exact ⟨i, h1, by simp [h2], rfl⟩
  · rintro ⟨i, h1, h2, rfl⟩
    by_cases hij : i = j
    · subst hij; exact .inl rfl
    · exact .inr ⟨i, h1, by simpa [hij] using h2, rfl⟩
theorem lastB_iff : ∀ {l : List Pc}, lastB l = true ↔ ∃ p, l.getLast? = some p ∧ p.h.mf = false
  | [] => by simp [lastB]
  | [p] => by simp [lastB]
  | p :: q :: t => by rw [lastB, lastB_iff, List.getLast?_cons_cons]
/-- pieces one behind the other are those of numbers one behind the other -/
theorem contig_idx {h : H4} {s : List UInt8} {z n : Nat} (c : CutOk h s z n) : ∀ (l : List Nat) (k : Nat), (∀ i ∈ l, i < n) → l.Pairwise (· < ·) → contig (k * z) (l.map (pcs h s z)) = true → l = (List.range' k l.length)
  | [], k, _, _, _ => rfl
  | i :: t, k, hn, hp, hc => by
    rw [List.map_cons, contig, Bool.and_eq_true, decide_eq_true_eq, pcs_lo c] at hc
    obtain ⟨e, hc⟩ := hc
    have e := Nat.eq_of_mul_eq_mul_right c.z0 e
    subst e
    have hin := hn i (List.mem_cons_self ..)
    rw [List.length_cons, List.range'_succ]
    congr 1
    cases t with
    | nil => rfl
    | cons j t =>
      have hj := (List.pairwise_cons.1 hp).1 j (List.mem_cons_self ..)
      have hjn := hn j (by simp)
      rw [pcs_hi c hin, if_pos (by omega)] at hc
      exact contig_idx c (j :: t) (i + 1) (fun x hx => hn x (List.mem_cons_of_mem _ hx)) (List.pairwise_cons.1 hp).2 hc
theorem contig_all {h : H4} {s : List UInt8} {z n : Nat} (c : CutOk h s z n) : ∀ (m k : Nat), k + m ≤ n → contig (k * z) ((List.range' k m).map (pcs h s z)) = true
  | 0, _, _ => rfl
  | m + 1, k, hm => by
    rw [List.range'_succ, List.map_cons, contig, pcs_lo c, decide_eq_true rfl, Bool.true_and]
    cases m with
    | zero => rfl
    | succ m =>
      rw [pcs_hi c (by omega), if_pos (by omega)]
      exact contig_all c (m + 1) (k + 1) (by omega)
theorem part_whole {h : H4} {s : List UInt8} {z n : Nat} (c : CutOk h s z n) (S : Nat → Bool) : wholeB (part h s z n S) = true ↔ ∀ i, i < n → S i = true := by
  have hn0 := c.n0
  unfold wholeB
  rw [Bool.and_eq_true]
  constructor
  · rintro ⟨h1, h2⟩
    obtain ⟨l, hl⟩ : ∃ l, l = (List.range n).filter S := ⟨_, rfl⟩
    have hm : ∀ i ∈ l, i < n := fun i hi => by rw [hl] at hi; exact List.mem_range.1 (List.mem_filter.1 hi).1
    have hp : l.Pairwise (· < ·) := by rw [hl]; exact List.pairwise_lt_range.filter S
    unfold part at h1 h2
    rw [← hl] at h1 h2
    have hr := contig_idx c l 0 hm hp (by rw [Nat.zero_mul]; exact h1)
    obtain ⟨p, hp1, hp2⟩ := lastB_iff.1 h2
    rw [List.getLast?_map] at hp1
    cases hq : l.getLast? with
    | none => rw [hq] at hp1; cases hp1
    | some j =>
      rw [hq] at hp1
      have hp1 : pcs h s z j = p := Option.some.inj hp1
      have hj : j ∈ l := List.mem_of_getLast? hq
      have hjn := hm j hj
      subst hp1
      rw [pcs_mf c hjn] at hp2
      have hj1 : j + 1 = n := by have := of_decide_eq_false hp2; omega
      have hjr : j < l.length := by rw [hr] at hj; have := List.mem_range'_1.1 hj; omega
      intro i hi
      have : i ∈ l := by rw [hr]; exact List.mem_range'_1.2 ⟨Nat.zero_le _, by omega⟩
      rw [hl] at this
      exact (List.mem_filter.1 this).2
  · intro hS
    have e : (List.range n).filter S = List.range' 0 n := by rw [List.filter_eq_self.2 (fun i hi => hS i (List.mem_range.1 hi)), List.range_eq_range']
    unfold part
    rw [e]
    refine ⟨by have := contig_all c n 0 (by omega); rwa [Nat.zero_mul] at this, lastB_iff.2 ⟨pcs h s z (n - 1), ?_, ?_⟩⟩
    · rw [List.getLast?_map, List.getLast?_range', if_neg (by omega)]
      simp
    · rw [pcs_mf c (by omega)]; simp; omega
theorem flat_all (s : List UInt8) (z : Nat) : ∀ (m k : Nat), (List.range' k m).flatMap (fun i => (s.drop (i * z)).take z) = (s.drop (k * z)).take (m * z)
  | 0, _ => by simp
  | m + 1, k => by
    rw [List.range'_succ, List.flatMap_cons, flat_all s z m (k + 1), Nat.add_mul k 1 z, Nat.one_mul, ← List.drop_drop]
    rw [show (m + 1) * z = z + m * z by rw [Nat.add_mul, Nat.one_mul, Nat.add_comm]]
    exact List.take_add.symm
theorem part_fin {h : H4} {s : List UInt8} {z n : Nat} (c : CutOk h s z n) (h0 : h.off = 0) (h1 : h.mf = false) {S : Nat → Bool} (hS : ∀ i, i < n → S i = true) {p : List UInt8} (hp : putE h s = .ok p) : finE (part h s z n S) = (p, 0) := by
  have e : (List.range n).filter S = List.range' 0 n := by rw [List.filter_eq_self.2 (fun i hi => hS i (List.mem_range.1 hi)), List.range_eq_range']
  have ht : txtP (part h s z n S) = s := by
    unfold txtP part
    rw [e, List.flatMap_map]
    have := flat_all s z n 0
    rw [Nat.zero_mul, List.drop_zero, List.take_of_length_le c.hi] at this
    exact this
  have hh : hdP (part h s z n S) = h := by
    unfold hdP part
    obtain ⟨m, rfl⟩ : ∃ m, n = m + 1 := ⟨n - 1, by have := c.n0; omega⟩
    rw [e, List.range'_succ, List.map_cons]
    show ({ (pcs h s z 0).h with mf := false } : H4) = h
    obtain ⟨tos, id, off, ttl, proto, df, mf, src, dst, opt⟩ := h
    simp only at h0 h1
    subst h0 h1
    simp [pcs]
  unfold finE
  rw [ht, hh, hp]
theorem pcs_get {h : H4} {s : List UInt8} {z : Nat} {j : Nat} {x : List UInt8} (hx : putE (pcs h s z j).h (pcs h s z j).s = .ok x) : getE x = .ok ((pcs h s z j).h, (pcs h s z j).s) := get_put hx
theorem pcs_put {h : H4} {s : List UInt8} {z n : Nat} (c : CutOk h s z n) {j : Nat} (hj : j < n) : ∃ x, putE (pcs h s z j).h (pcs h s z j).s = .ok x := by
  have h1 := pcs_len h s z j
  have h2 := c.len
  obtain ⟨x, hx, _⟩ := putE_ok (pcs_hok c hj) (s := (pcs h s z j).s) (by show 20 + h.opt.length + _ ≤ _; omega)
  exact ⟨x, hx⟩
theorem part_like {h : H4} {s : List UInt8} {z n : Nat} (c : CutOk h s z n) (S : Nat → Bool) {j : Nat} (hj : j < n) : (part h s z n S).any (likeB (pcs h s z j)) = S j := by
  cases hS : S j with
  | true => exact List.any_eq_true.2 ⟨_, part_mem.2 ⟨j, hj, hS, rfl⟩, by rw [pcs_like c]; simp⟩
  | false =>
    refine List.any_eq_false.2 fun p hp => ?_
    obtain ⟨i, h1, h2, rfl⟩ := part_mem.1 hp
    rw [pcs_like c]
    simp only [decide_eq_true_eq]
    rintro rfl
    rw [h2] at hS; cases hS
theorem part_fits {h : H4} {s : List UInt8} {z n : Nat} (c : CutOk h s z n) (S : Nat → Bool) {j : Nat} (hj : j < n) (hS : S j = false) : (part h s z n S).any (fun o => !fitB (pcs h s z j) o) = false := by
  refine List.any_eq_false.2 fun p hp => ?_
  obtain ⟨i, h1, h2, rfl⟩ := part_mem.1 hp
  rw [pcs_fit c hj h1 (by rintro rfl; rw [h2] at hS; cases hS)]; simp
/-- one more piece of a packet -/
theorem addT_pcs {h : H4} {s : List UInt8} {z n : Nat} (c : CutOk h s z n) {st : Sto} {L : List En} {S : Nat → Bool} {a j : Nat} (hj : j < n) {x : List UInt8} (hx : putE (pcs h s z j).h (pcs h s z j).s = .ok x)
    (he : (findL L (kyOf h)).getD ⟨kyOf h, [], false, 0⟩ = ⟨kyOf h, part h s z n S, false, a⟩) (h1 : (findL L (kyOf h)).isNone = true → L.length < st.ents) (h2 : btsL L + s.length ≤ st.bts) :
    addT st L x = if S j then (([], 10), L) else if wholeB (part h s z n (fun i => S i || decide (i = j))) then (finE (part h s z n (fun i => S i || decide (i = j))), putL L ⟨kyOf h, [], true, a⟩) else (([], 10), putL L ⟨kyOf h, part h s z n (fun i => S i || decide (i = j)), false, a⟩) := by
  have hlen := pcs_len h s z j
  have hodd := (pcs_ok c hj).odd
  unfold addT
  rw [pcs_get hx]
  show (if oddB (pcs h s z j) = true then _ else _) = _
  rw [if_neg (by rw [hodd]; simp)]
  have he2 : (findL L (kyOf (pcs h s z j).h)).getD ⟨kyOf (pcs h s z j).h, [], false, 0⟩ = ⟨kyOf h, part h s z n S, false, a⟩ := he
  rw [he2]
  show (if false = true then _ else if (part h s z n S).any (likeB (pcs h s z j)) = true then _ else if (part h s z n S).any (fun o => !fitB (pcs h s z j) o) = true then _ else _) = _
  rw [if_neg (by simp), part_like c S hj]
  cases hS : S j with
  | true => rw [if_pos rfl, if_pos rfl]
  | false =>
    have hroom : (((findL L (kyOf (pcs h s z j).h)).isNone && decide (st.ents ≤ L.length)) || decide (st.bts < btsL L + (pcs h s z j).s.length)) = false := by
      rw [Bool.or_eq_false_iff]
      refine ⟨?_, decide_eq_false (by omega)⟩
      cases hq : (findL L (kyOf h)).isNone with
      | false => show (Option.isNone _ && _) = _; rw [show (findL L (kyOf (pcs h s z j).h)).isNone = false from hq]; rfl
      | true => have := h1 hq; rw [decide_eq_false (by omega), Bool.and_false]
    rw [if_neg (by simp), part_fits c S hj hS, if_neg (by simp), hroom, if_neg (by simp)]
    show (if wholeB (insP (pcs h s z j) (part h s z n S)) = true then _ else _) = _
    rw [part_ins c hj hS]
    rfl
def room64 : Sto := ⟨64, 1048576, 64⟩
theorem sub_sum : ∀ {a b : List Nat}, a.Sublist b → a.sum ≤ b.sum := by
  intro a b h
  induction h with
  | slnil => exact Nat.le_refl _
  | cons x _ ih => rw [List.sum_cons]; omega
  | cons_cons x _ ih => rw [List.sum_cons, List.sum_cons]; omega
theorem lenP_part (h : H4) (s : List UInt8) (z n : Nat) (S : Nat → Bool) (hz : s.length ≤ n * z) : lenP (part h s z n S) ≤ s.length := by
  have h1 : lenP (part h s z n S) ≤ lenP ((List.range n).map (pcs h s z)) := by
    have hs : ((((List.range n).filter S).map (pcs h s z)).map fun p => p.s.length).Sublist (((List.range n).map (pcs h s z)).map fun p => p.s.length) := (List.filter_sublist.map _).map _
    exact sub_sum hs
  have h2 : txtP ((List.range n).map (pcs h s z)) = s := by
    unfold txtP
    rw [List.flatMap_map, List.range_eq_range']
    have := flat_all s z n 0
    rw [Nat.zero_mul, List.drop_zero, List.take_of_length_le hz] at this
    exact this
  have h3 : ∀ l : List Pc, (txtP l).length = lenP l := by
    intro l; unfold txtP lenP; rw [List.length_flatMap]
  have := h3 ((List.range n).map (pcs h s z))
  rw [h2] at this
  omega
def OSt (h : H4) (s : List UInt8) (z n : Nat) (S : Nat → Bool) (L : List En) (made : Nat) : Prop :=
  ((∀ i, i < n → S i = true) ∧ L = [⟨kyOf h, [], true, 0⟩] ∧ made = 1) ∨ ((¬ ∀ i, i < n → S i = true) ∧ made = 0 ∧ ((L = [] ∧ ∀ i, i < n → S i = false) ∨ L = [⟨kyOf h, part h s z n S, false, 0⟩]))
theorem part_none {h : H4} {s : List UInt8} {z n : Nat} {S : Nat → Bool} (hS : ∀ i, i < n → S i = false) : part h s z n S = [] := by
  unfold part
  rw [List.filter_eq_nil_iff.2 (fun i hi => by rw [hS i (List.mem_range.1 hi)]; simp)]; rfl
theorem part_congr {h : H4} {s : List UInt8} {z n : Nat} {S T : Nat → Bool} (hST : ∀ i, i < n → S i = T i) : part h s z n S = part h s z n T := by
  unfold part
  rw [List.filter_congr (fun i hi => hST i (List.mem_range.1 hi))]
theorem putL_one (k : Ky) (a b : List Pc) (c d : Bool) (x y : Nat) : putL [⟨k, a, c, x⟩] ⟨k, b, d, y⟩ = [⟨k, b, d, y⟩] := by simp [putL, keysL]
theorem putL_nil (e : En) : putL [] e = [e] := by simp [putL, keysL]
theorem findL_one (k : Ky) (a : List Pc) (c : Bool) (x : Nat) : findL [⟨k, a, c, x⟩] k = some ⟨k, a, c, x⟩ := by simp [findL]
/-- one more piece, doubled or not -/
theorem once_step {h : H4} {s p : List UInt8} {z n : Nat} (c : CutOk h s z n) (h0 : h.off = 0) (h1 : h.mf = false) (hp : putE h s = .ok p) {st : Sto} (hb : 65536 * 2 ≤ st.bts) (he : 1 ≤ st.ents) {S : Nat → Bool} {L : List En} {made j : Nat} (ho : OSt h s z n S L made) (hj : j < n) {x : List UInt8} (hx : putE (pcs h s z j).h (pcs h s z j).s = .ok x) :
    ∃ r L' made', addT st L x = (r, L') ∧ OSt h s z n (fun i => S i || decide (i = j)) L' made' ∧ ((r = (p, 0) ∧ made = 0 ∧ made' = 1) ∨ (r = ([], 10) ∧ made' = made) ∨ (r = ([], 12) ∧ made = 1 ∧ made' = 1)) := by
  have hlen := c.len
  rcases ho with ⟨hS, rfl, rfl⟩ | ⟨hS, rfl, hL⟩
  · refine ⟨([], 12), _, 1, ?_, .inl ⟨fun i hi => by simp only [hS i hi]; rfl, rfl, rfl⟩, .inr (.inr ⟨rfl, rfl, rfl⟩)⟩
    have hodd := (pcs_ok c hj).odd
    unfold addT
    rw [pcs_get hx]
    show (if oddB (pcs h s z j) = true then _ else _) = _
    rw [if_neg (by rw [hodd]; simp), show findL [(⟨kyOf h, [], true, 0⟩ : En)] (kyOf (pcs h s z j).h) = some ⟨kyOf h, [], true, 0⟩ from findL_one _ _ _ _]
    rfl
  · have hfe : (findL L (kyOf h)).getD ⟨kyOf h, [], false, 0⟩ = ⟨kyOf h, part h s z n S, false, 0⟩ := by
      rcases hL with ⟨rfl, hn⟩ | rfl
      · rw [part_none hn]; rfl
      · rw [findL_one]; rfl
    have hbt : btsL L ≤ s.length := by
      rcases hL with ⟨rfl, hn⟩ | rfl
      · exact Nat.zero_le _
      · have := lenP_part h s z n S c.hi
        show lenP _ + 0 ≤ _; omega
    have hpt : ∀ e : En, e.k = kyOf h → putL L e = [e] := fun e hk => by
      rcases hL with ⟨rfl, hn⟩ | rfl
      · exact putL_nil e
      · obtain ⟨k, a, b, d⟩ := e
        simp only at hk; subst hk
        exact putL_one _ _ _ _ _ _ _
    have hadd := addT_pcs c (st := st) hj hx hfe (fun hn => by
      rcases hL with ⟨rfl, _⟩ | rfl
      · exact he
      · rw [findL_one] at hn; cases hn) (by omega)
    rw [hpt _ rfl, hpt _ rfl] at hadd
    cases hSj : S j with
    | true =>
      have hsame : ∀ i, (S i || decide (i = j)) = S i := fun i => by
        by_cases hij : i = j
        · subst hij; rw [hSj]; rfl
        · simp [hij]
      rw [hSj, if_pos rfl] at hadd
      have hfs : (fun i => S i || decide (i = j)) = S := funext hsame
      exact ⟨([], 10), L, 0, hadd, by rw [hfs]; exact .inr ⟨hS, rfl, hL⟩, .inr (.inl ⟨rfl, rfl⟩)⟩
    | false =>
      rw [hSj, if_neg (by simp)] at hadd
      by_cases hw : wholeB (part h s z n (fun i => S i || decide (i = j))) = true
      · rw [if_pos hw, part_fin c h0 h1 ((part_whole c _).1 hw) hp] at hadd
        exact ⟨(p, 0), _, 1, hadd, .inl ⟨(part_whole c _).1 hw, rfl, rfl⟩, .inl ⟨rfl, rfl, rfl⟩⟩
      · rw [if_neg hw] at hadd
        exact ⟨([], 10), _, 0, hadd, .inr ⟨fun h => hw ((part_whole c _).2 h), rfl, .inr rfl⟩, .inr (.inl ⟨rfl, rfl⟩)⟩
theorem OSt.start {h : H4} {s : List UInt8} {z n : Nat} (hn : 0 < n) : OSt h s z n (fun _ => false) [] 0 := .inr ⟨fun h => (by have := h 0 hn; cases this), rfl, .inl ⟨rfl, fun _ _ => rfl⟩⟩
theorem OSt.lacks {h : H4} {s : List UInt8} {z n : Nat} {S : Nat → Bool} {L : List En} {m k : Nat} (ho : OSt h s z n S L m) (hk : k < n) (hS : S k = false) : m = 0 ∧ ((L = [] ∧ ∀ i, i < n → S i = false) ∨ L = [⟨kyOf h, part h s z n S, false, 0⟩]) := by
  rcases ho with ⟨h1, _⟩ | ⟨_, h2⟩
  · rw [h1 k hk] at hS; cases hS
  · exact h2
/-- a piece, where another one is lacking -/
theorem hole_step {h : H4} {s p : List UInt8} {z n : Nat} (c : CutOk h s z n) (h0 : h.off = 0) (h1 : h.mf = false) (hp : putE h s = .ok p) {st : Sto} (hb : 65536 * 2 ≤ st.bts) (he : 1 ≤ st.ents) {S : Nat → Bool} {L : List En} {made j k : Nat} (ho : OSt h s z n S L made) (hj : j < n) (hk : k < n) (hS : S k = false) (hjk : j ≠ k) {x : List UInt8} (hx : putE (pcs h s z j).h (pcs h s z j).s = .ok x) :
    ∃ L', addT st L x = (([], 10), L') ∧ OSt h s z n (fun i => S i || decide (i = j)) L' 0 := by
  obtain ⟨r, L', m', g1, g2, g3⟩ := once_step c h0 h1 hp hb he ho hj hx
  have hS' : (S k || decide (k = j)) = false := by rw [hS]; simp; omega
  have hm := (ho.lacks hk hS).1
  have hm' := (g2.lacks hk hS').1
  rcases g3 with ⟨_, _, e⟩ | ⟨rfl, e⟩ | ⟨_, e, _⟩
  · omega
  · exact ⟨L', g1, by rw [← hm']; exact g2⟩
  · omega
theorem hole_ticks {h : H4} {s : List UInt8} {z n : Nat} {S : Nat → Bool} {L : List En} {m k j : Nat} (ho : OSt h s z n S L m) (hk : k < n) (hS : S k = false) (hj : j < n) (hSj : S j = true) (b : Nat) (e : Nat) :
    L.length = 1 ∧ opnL L = 1 ∧ (tickL ⟨e, b, 2⟩ L).length = 1 ∧ tickL ⟨e, b, 2⟩ (tickL ⟨e, b, 2⟩ L) = [] := by
  rcases (ho.lacks hk hS).2 with ⟨_, h2⟩ | rfl
  · rw [h2 j hj] at hSj; cases hSj
  · exact ⟨rfl, rfl, rfl, rfl⟩
/-- a piece that isn't like the one at its place -/
theorem bad_step {h : H4} {s : List UInt8} {z n : Nat} (c : CutOk h s z n) {st : Sto} {S : Nat → Bool} {a k : Nat} (hk : k + 1 < n) (hS : S k = true) {s' : List UInt8} (hl : s'.length = (pcs h s z k).s.length) (hne : s' ≠ (pcs h s z k).s) {x : List UInt8} (hx : putE (pcs h s z k).h s' = .ok x) :
    addT st [⟨kyOf h, part h s z n S, false, a⟩] x = (([], 14), [⟨kyOf h, part h s z n S, false, a⟩]) := by
  have hkn : k < n := by omega
  have hlen := pcs_len h s z k
  have hmf := pcs_mf c hkn
  rw [decide_eq_true hk] at hmf
  have hmore := (more_iff c hkn).2 hk
  have h3 : (k + 1) * z = k * z + z := by rw [Nat.add_mul, Nat.one_mul]
  have h0 := c.z0
  have hpos : 0 < s'.length := by omega
  obtain ⟨q, hq⟩ : ∃ q : Pc, q = ⟨(pcs h s z k).h, s'⟩ := ⟨_, rfl⟩
  have qlo : q.lo = (pcs h s z k).lo := by rw [hq]; rfl
  have qhi : q.hi = (pcs h s z k).hi := by rw [hq]; unfold Pc.hi; rw [hl]; rfl
  have qmf : q.h.mf = (pcs h s z k).h.mf := by rw [hq]
  have qs : q.s = s' := by rw [hq]
  have hodd : oddB q = false := by
    have h5 := (pcs_ok c hkn).odd
    have e1 : (q.s = []) ↔ ((pcs h s z k).s = []) := by
      rw [← List.length_eq_zero_iff, ← List.length_eq_zero_iff, qs, hl]
    unfold oddB at h5 ⊢
    rw [qlo, qhi, qmf, qs, hl]
    rw [qs] at e1
    simp only [e1]; exact h5
  have hlike : (part h s z n S).any (likeB q) = false := by
    refine List.any_eq_false.2 fun p hp => ?_
    obtain ⟨i, h1, h2, rfl⟩ := part_mem.1 hp
    unfold likeB
    simp only [Bool.and_eq_true, decide_eq_true_eq]
    rintro ⟨⟨e1, e2⟩, _⟩
    rw [qlo, pcs_lo c, pcs_lo c] at e1
    have := Nat.eq_of_mul_eq_mul_right c.z0 e1
    subst this
    exact hne (by rw [← e2, qs])
  have hfit : (part h s z n S).any (fun o => !fitB q o) = true := by
    refine List.any_eq_true.2 ⟨_, part_mem.2 ⟨k, hkn, hS, rfl⟩, ?_⟩
    have hhi : (pcs h s z k).lo < (pcs h s z k).hi := by unfold Pc.hi; omega
    unfold fitB
    rw [qlo, qhi, decide_eq_false (by omega), Bool.false_or, Bool.false_and, Bool.false_and, Bool.false_and]; rfl
  unfold addT
  rw [get_put hx]
  show (if oddB ⟨(pcs h s z k).h, s'⟩ = true then _ else _) = _
  rw [← hq, if_neg (by rw [hodd]; simp), show findL [(⟨kyOf h, part h s z n S, false, a⟩ : En)] (kyOf (pcs h s z k).h) = some ⟨kyOf h, part h s z n S, false, a⟩ from findL_one _ _ _ _]
  show (if false = true then _ else if (part h s z n S).any (likeB q) = true then _ else if (part h s z n S).any (fun o => !fitB q o) = true then _ else _) = _
  rw [if_neg (by simp), hlike, if_neg (by simp), hfit, if_pos rfl]
end Go.Proofs.Ythdkbocokefdhaa
/- The document's example, reckoned. -/
namespace Go.Proofs.Ythdkbocokefdhaa
def ah (off : Int) (mf : Bool) : H4 := ⟨0, 0, off, 0, 0, false, mf, [97, 98, 99, 100], [101, 102, 103, 104], []⟩
def apay : List UInt8 := [48, 49, 50, 51, 52, 53, 54, 55, 56, 57, 97, 98, 99, 100, 101, 102]
def okL (x : Except Nat (List UInt8)) : List UInt8 := match x with | .ok l => l | .error _ => []
def apl : List UInt8 := okL (putE (ah 0 false) apay)
def ax0 : List UInt8 := okL (putE (ah 0 true) (apay.take 8))
def ax1 : List UInt8 := okL (putE (ah 1 false) (apay.drop 8))
def ast : Sto := ⟨64, 1048576, 64⟩
theorem apl_ok : putE (ah 0 false) apay = .ok apl := by kernel_rfl
theorem ax0_ok : putE (ah 0 true) (apay.take 8) = .ok ax0 := by kernel_rfl
theorem ax1_ok : putE (ah 1 false) (apay.drop 8) = .ok ax1 := by kernel_rfl
theorem apl_get : getE apl = .ok (ah 0 false, apay) := by kernel_rfl
theorem apl_len : apl.length = 36 := by kernel_rfl
theorem ax0_len : ax0.length = 28 := by kernel_rfl
theorem ax1_len : ax1.length = 28 := by kernel_rfl
theorem add1 : (addT ast [] ax1).1 = ([], 10) := by kernel_rfl
theorem add2 : (addT ast (addT ast [] ax1).2 ax0).1 = (apl, 0) := by kernel_rfl
theorem add3 : (addT ast (addT ast (addT ast [] ax1).2 ax0).2 ax0).1 = ([], 12) := by kernel_rfl
end Go.Proofs.Ythdkbocokefdhaa
