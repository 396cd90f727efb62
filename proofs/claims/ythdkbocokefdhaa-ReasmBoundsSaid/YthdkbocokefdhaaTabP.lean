import Derived.Test.YthdkbocokefdhaaIpP
/- Tables of pieces: in plain Lean. -/
namespace Go.Proofs.Ythdkbocokefdhaa
set_option maxRecDepth 100000
open Go.RowKit
/-- a piece -/
structure Pc where
  h : H4
  s : List UInt8
deriving DecidableEq
def Pc.lo (p : Pc) : Nat := 8 * p.h.off.toNat
def Pc.hi (p : Pc) : Nat := p.lo + p.s.length
def fitB (a b : Pc) : Bool := (decide (a.hi ≤ b.lo) || decide (b.hi ≤ a.lo)) && !(!a.h.mf && !b.h.mf) && (a.h.mf || decide (b.hi ≤ a.hi)) && (b.h.mf || decide (a.hi ≤ b.hi))
def likeB (a b : Pc) : Bool := decide (a.lo = b.lo) && decide (a.s = b.s) && decide (a.h.mf = b.h.mf)
def oddB (p : Pc) : Bool := decide (65515 < p.hi) || (p.h.mf && (decide (p.s.length % 8 ≠ 0) || decide (p.s = []))) || (decide (0 < p.lo) && decide (p.s = []))
structure Ky where
  src : List UInt8
  dst : List UInt8
  proto : Int
  id : Int
deriving DecidableEq
def kyOf (h : H4) : Ky := ⟨h.src, h.dst, h.proto, h.id⟩
structure En where
  k : Ky
  ps : List Pc
  done : Bool
  age : Nat
structure Sto where
  ents : Nat
  bts : Nat
  life : Nat
/-- by where they begin -/
def insP (p : Pc) : List Pc → List Pc
  | [] => [p]
  | q :: t => if p.lo < q.lo then p :: q :: t else q :: insP p t
def lenP (ps : List Pc) : Nat := (ps.map fun p => p.s.length).sum
def btsL (L : List En) : Nat := (L.map fun e => lenP e.ps).sum
def opnL (L : List En) : Nat := (L.filter fun e => !e.done).length
def keysL (L : List En) : List Ky := L.map En.k
def findL (L : List En) (k : Ky) : Option En := L.find? fun e => decide (e.k = k)
def contig : Nat → List Pc → Bool
  | _, [] => true
  | at_, p :: t => decide (p.lo = at_) && contig p.hi t
def lastB : List Pc → Bool
  | [] => false
  | [p] => !p.h.mf
  | _ :: q :: t => lastB (q :: t)
def wholeB (ps : List Pc) : Bool := contig 0 ps && lastB ps
def putL (L : List En) (e : En) : List En := if e.k ∈ keysL L then L.map (fun f => if f.k = e.k then e else f) else L ++ [e]
def txtP (ps : List Pc) : List UInt8 := ps.flatMap Pc.s
def hdP (ps : List Pc) : H4 := { (ps.headD ⟨⟨0, 0, 0, 0, 0, false, false, [], [], []⟩, []⟩).h with mf := false }
def finE (ps : List Pc) : List UInt8 × Nat := match putE (hdP ps) (txtP ps) with
  | .ok t => (t, 0)
  | .error c => ([], c)
def addT (st : Sto) (L : List En) (x : List UInt8) : (List UInt8 × Nat) × List En :=
  match getE x with
  | .error c => (([], c), L)
  | .ok (h, s) =>
    if oddB ⟨h, s⟩ then (([], 4), L) else
    let e := (findL L (kyOf h)).getD ⟨kyOf h, [], false, 0⟩
    if e.done then (([], 12), L)
    else if e.ps.any (likeB ⟨h, s⟩) then (([], 10), L)
    else if e.ps.any (fun o => !fitB ⟨h, s⟩ o) then (([], 14), L)
    else if ((findL L (kyOf h)).isNone && decide (st.ents ≤ L.length)) || decide (st.bts < btsL L + s.length) then (([], 11), L)
    else if wholeB (insP ⟨h, s⟩ e.ps) then (finE (insP ⟨h, s⟩ e.ps), putL L ⟨kyOf h, [], true, e.age⟩)
    else (([], 10), putL L ⟨kyOf h, insP ⟨h, s⟩ e.ps, false, e.age⟩)
def tickL (st : Sto) (L : List En) : List En := (L.filter fun e => decide (e.age + 1 < st.life)).map fun e => { e with age := e.age + 1 }
/-- a piece that may stand in a table -/
structure PcOk (p : Pc) : Prop where
  ok : p.h.ok
  odd : oddB p = false
structure EnOk (e : En) : Prop where
  ps : ∀ p ∈ e.ps, PcOk p ∧ kyOf p.h = e.k
  sorted : e.ps.Pairwise fun p q => p.lo < q.lo
  fits : e.ps.Pairwise fun p q => fitB p q = true
  done : e.done = true → e.ps = []
  open_ : e.done = false → e.ps ≠ []
structure GoodT (st : Sto) (L : List En) : Prop where
  nodup : (keysL L).Nodup
  few : L.length ≤ st.ents
  small : btsL L ≤ st.bts
  ens : ∀ e ∈ L, EnOk e
theorem GoodT.nil (st : Sto) : GoodT st [] := ⟨List.nodup_nil, Nat.zero_le _, Nat.zero_le _, fun e h => by cases h⟩
theorem insP_perm (p : Pc) : ∀ l, (insP p l).Perm (p :: l)
  | [] => List.Perm.refl _
  | q :: t => by
    unfold insP; split
    · exact List.Perm.refl _
    · exact ((insP_perm p t).cons q).trans (List.Perm.swap p q t)
theorem lenP_perm {a b : List Pc} (h : a.Perm b) : lenP a = lenP b := (h.map _).sum_nat
theorem lenP_ins (p : Pc) (l : List Pc) : lenP (insP p l) = p.s.length + lenP l := by
  rw [lenP_perm (insP_perm p l)]; unfold lenP; simp
theorem fitB_symm (a b : Pc) : fitB a b = fitB b a := by
  unfold fitB
  cases a.h.mf <;> cases b.h.mf <;> simp [Bool.or_comm, Bool.and_comm]
theorem fit_ne {a b : Pc} (ha : PcOk a) (hb : PcOk b) (h : fitB a b = true) : a.lo ≠ b.lo := by
  intro e
  have h1 := ha.odd
  have h2 := hb.odd
  unfold fitB Pc.hi at h
  unfold oddB Pc.hi at h1 h2
  have l1 : a.s = [] ↔ a.s.length = 0 := List.length_eq_zero_iff.symm
  have l2 : b.s = [] ↔ b.s.length = 0 := List.length_eq_zero_iff.symm
  simp only [l1, l2] at h1 h2
  cases hm : a.h.mf <;> cases hn : b.h.mf <;> simp [hm, hn, e] at h h1 h2 <;> (try simp only [l1, l2] at h h1 h2) <;> omega
theorem insP_sorted (p : Pc) : ∀ {l : List Pc}, l.Pairwise (fun p q => p.lo < q.lo) → (∀ q ∈ l, p.lo ≠ q.lo) → (insP p l).Pairwise fun p q => p.lo < q.lo
  | [], _, _ => List.pairwise_singleton ..
  | q :: t, h, hn => by
    have h' := List.pairwise_cons.1 h
    have hq := hn q (List.mem_cons_self ..)
    unfold insP; split
    · rename_i hl
      refine List.pairwise_cons.2 ⟨fun x hx => ?_, h⟩
      rcases List.mem_cons.1 hx with rfl | hx
      · exact hl
      · have := h'.1 x hx; omega
    · refine List.pairwise_cons.2 ⟨fun x hx => ?_, insP_sorted p h'.2 (fun x hx => hn x (List.mem_cons_of_mem _ hx))⟩
      rcases List.mem_cons.1 ((insP_perm p t).mem_iff.1 hx) with rfl | hx
      · omega
      · exact h'.1 x hx
theorem findL_mem {L : List En} {k : Ky} {e : En} (h : findL L k = some e) : e ∈ L ∧ e.k = k := ⟨List.mem_of_find?_eq_some h, by simpa using List.find?_some h⟩
theorem findL_none {L : List En} {k : Ky} (h : findL L k = none) : k ∉ keysL L := by
  intro hm
  obtain ⟨e, he, hk⟩ := List.mem_map.1 hm
  have := List.find?_eq_none.1 h e he
  simp [hk] at this
theorem findL_some {L : List En} {k : Ky} (h : k ∈ keysL L) : ∃ e, findL L k = some e := by
  cases hf : findL L k with
  | none => exact absurd h (findL_none hf)
  | some e => exact ⟨e, rfl⟩
theorem putL_keys (L : List En) (e : En) : keysL (putL L e) = if e.k ∈ keysL L then keysL L else keysL L ++ [e.k] := by
  unfold putL
  split
  · unfold keysL
    rw [List.map_map]
    apply List.map_congr_left
    intro f _
    show (if f.k = e.k then e else f).k = f.k
    split
    · rename_i h; exact h.symm
    · rfl
  · unfold keysL; simp
theorem putL_mem {L : List En} {e f : En} (h : f ∈ putL L e) : f = e ∨ (f ∈ L ∧ f.k ≠ e.k) := by
  unfold putL at h
  split at h
  · obtain ⟨g, hg, rfl⟩ := List.mem_map.1 h
    split
    · exact .inl rfl
    · rename_i hk; exact .inr ⟨hg, hk⟩
  · rename_i hk
    rcases List.mem_append.1 h with h | h
    · exact .inr ⟨h, fun he => hk (by rw [← he]; exact List.mem_map.2 ⟨f, h, rfl⟩)⟩
    · exact .inl (List.mem_singleton.1 h)
/-- a sum over the entries, where one is put -/
theorem sum_put (g : En → Nat) : ∀ {L : List En} (e : En), (keysL L).Nodup → ∀ {o : En}, findL L e.k = some o → ((L.map fun f => if f.k = e.k then e else f).map g).sum + g o = (L.map g).sum + g e
  | [], e, _, o, h => by cases h
  | f :: t, e, hn, o, h => by
    have hn' : f.k ∉ keysL t ∧ (keysL t).Nodup := List.nodup_cons.1 hn
    by_cases hk : f.k = e.k
    · have ho : o = f := by unfold findL at h; rw [List.find?_cons_of_pos (by simpa using hk)] at h; exact (Option.some.inj h).symm
      have ht : (t.map fun f => if f.k = e.k then e else f) = t := by
        rw [List.map_congr_left (g := id) ?_, List.map_id]
        intro x hx
        rw [if_neg]; · rfl
        intro hxe
        exact hn'.1 (by rw [hk, ← hxe]; exact List.mem_map.2 ⟨x, hx, rfl⟩)
      rw [List.map_cons, if_pos hk, ht, ho]
      simp; omega
    · have h2 : findL t e.k = some o := by unfold findL at h ⊢; rwa [List.find?_cons_of_neg (by simpa using hk)] at h
      have := sum_put g e hn'.2 h2
      rw [List.map_cons, if_neg hk]
      simp at this ⊢; omega
theorem putL_sum (g : En → Nat) {L : List En} (e : En) (hn : (keysL L).Nodup) : ((putL L e).map g).sum + ((findL L e.k).map g).getD 0 = (L.map g).sum + g e := by
  unfold putL
  split
  · rename_i hk
    obtain ⟨o, ho⟩ := findL_some hk
    rw [ho]; exact sum_put g e hn ho
  · rename_i hk
    have : findL L e.k = none := by
      cases hf : findL L e.k with
      | none => rfl
      | some o => exact absurd (List.mem_map.2 ⟨o, (findL_mem hf).1, (findL_mem hf).2⟩) hk
    rw [this]; simp
theorem putL_len {L : List En} (e : En) : (putL L e).length = L.length + if (findL L e.k).isNone then 1 else 0 := by
  unfold putL
  split
  · rename_i hk
    obtain ⟨o, ho⟩ := findL_some hk
    rw [ho]; simp
  · rename_i hk
    have : findL L e.k = none := by
      cases hf : findL L e.k with
      | none => rfl
      | some o => exact absurd (List.mem_map.2 ⟨o, (findL_mem hf).1, (findL_mem hf).2⟩) hk
    rw [this]; simp
theorem fin_code {ps : List Pc} (h : ps ≠ []) (hp : ∀ p ∈ ps, PcOk p) : ((finE ps).2 = 0 ∧ (finE ps).1 ≠ []) ∨ ((finE ps).2 = 4 ∧ (finE ps).1 = []) := by
  have hk : chk (hdP ps) = true := by
    cases ps with
    | nil => exact absurd rfl h
    | cons p t =>
      have ho := (hp p (List.mem_cons_self ..)).ok
      exact (chk_iff _).2 ⟨ho.tos, ho.ttl, ho.proto, ho.id, ho.off, ho.src, ho.dst, ho.opt⟩
  unfold finE
  cases hq : putE (hdP ps) (txtP ps) with
  | ok t =>
    have := (putE_inv hq).2.1
    refine .inl ⟨rfl, fun e => ?_⟩
    simp only at e
    rw [e] at this
    simp at this; omega
  | error c =>
    refine .inr ⟨?_, rfl⟩
    unfold putE at hq
    rw [if_pos hk] at hq
    split at hq
    · injection hq with hq; exact hq.symm
    · cases hq
theorem getE_code {x : List UInt8} {c : Nat} (h : getE x = .error c) : c = 2 ∨ c = 3 ∨ c = 4 ∨ c = 5 ∨ c = 9 := by
  unfold getE at h
  repeat' split at h
  all_goals first | (injection h with h; omega) | cases h
theorem fit_false {p : Pc} {l : List Pc} (h : l.any (fun o => !fitB p o) = false) : ∀ q ∈ l, fitB p q = true := by
  intro q hq
  have := List.any_eq_false.1 h q hq
  simpa using this
theorem insP_ok {p : Pc} {e : En} (he : EnOk e) (hp : PcOk p) (hk : kyOf p.h = e.k) (hf : ∀ q ∈ e.ps, fitB p q = true) :
    (∀ q ∈ insP p e.ps, PcOk q ∧ kyOf q.h = e.k) ∧ (insP p e.ps).Pairwise (fun p q => p.lo < q.lo) ∧ (insP p e.ps).Pairwise (fun p q => fitB p q = true) := by
  refine ⟨fun q hq => ?_, insP_sorted p he.sorted (fun q hq => fit_ne hp (he.ps q hq).1 (hf q hq)), ?_⟩
  · rcases List.mem_cons.1 ((insP_perm p e.ps).mem_iff.1 hq) with rfl | hq
    · exact ⟨hp, hk⟩
    · exact he.ps q hq
  · refine ((insP_perm p e.ps).pairwise_iff (fun {a b} h => by rw [fitB_symm]; exact h)).2 ?_
    exact List.pairwise_cons.2 ⟨hf, he.fits⟩
theorem insP_ne (p : Pc) (l : List Pc) : insP p l ≠ [] := by
  intro h
  have := (insP_perm p l).length_eq
  rw [h] at this; simp at this
/-- what Add told, and what came of it -/
theorem addT_cases (st : Sto) (L : List En) (x : List UInt8) (hg : GoodT st L) :
    (∃ c, addT st L x = (([], c), L) ∧ c ≠ 0) ∨
    ∃ (p : Pc) (e : En), getE x = .ok (p.h, p.s) ∧ PcOk p ∧ (findL L (kyOf p.h)).getD ⟨kyOf p.h, [], false, 0⟩ = e ∧ e.k = kyOf p.h ∧ EnOk { e with ps := insP p e.ps } ∧ e.done = false ∧ (∀ q ∈ e.ps, fitB p q = true) ∧ (∀ q ∈ e.ps, likeB p q = false) ∧
      ((findL L (kyOf p.h)).isNone = true → L.length < st.ents) ∧ btsL L + p.s.length ≤ st.bts ∧
      ((wholeB (insP p e.ps) = true ∧ addT st L x = (finE (insP p e.ps), putL L ⟨kyOf p.h, [], true, e.age⟩)) ∨
       (wholeB (insP p e.ps) = false ∧ addT st L x = (([], 10), putL L ⟨kyOf p.h, insP p e.ps, false, e.age⟩))) := by
  unfold addT
  cases hgx : getE x with
  | error c => exact .inl ⟨c, rfl, by have := getE_code hgx; omega⟩
  | ok hs =>
    obtain ⟨h, s⟩ := hs
    simp only
    by_cases c1 : oddB ⟨h, s⟩ = true
    · rw [if_pos c1]; exact .inl ⟨4, rfl, by decide⟩
    rw [if_neg c1]
    obtain ⟨e, he⟩ : ∃ e, e = (findL L (kyOf h)).getD ⟨kyOf h, [], false, 0⟩ := ⟨_, rfl⟩
    rw [← he]
    by_cases c2 : e.done = true
    · rw [if_pos c2]; exact .inl ⟨12, rfl, by decide⟩
    rw [if_neg c2]
    by_cases c3 : e.ps.any (likeB ⟨h, s⟩) = true
    · rw [if_pos c3]; exact .inl ⟨10, rfl, by decide⟩
    rw [if_neg c3]
    by_cases c4 : e.ps.any (fun o => !fitB ⟨h, s⟩ o) = true
    · rw [if_pos c4]; exact .inl ⟨14, rfl, by decide⟩
    rw [if_neg c4]
    by_cases c5 : (((findL L (kyOf h)).isNone && decide (st.ents ≤ L.length)) || decide (st.bts < btsL L + s.length)) = true
    · rw [if_pos c5]; exact .inl ⟨11, rfl, by decide⟩
    rw [if_neg c5]
    have hf := fit_false (Bool.not_eq_true _ ▸ c4)
    have hl : ∀ q ∈ e.ps, likeB ⟨h, s⟩ q = false := fun q hq => by
      have := List.any_eq_false.1 (Bool.not_eq_true _ ▸ c3) q hq
      simpa using this
    have hp : PcOk ⟨h, s⟩ := ⟨(getE_ok hgx).1, by simpa using c1⟩
    have c2' : e.done = false := by simpa using c2
    have hek : e.k = kyOf h ∧ (∀ q ∈ e.ps, PcOk q ∧ kyOf q.h = e.k) ∧ e.ps.Pairwise (fun p q => p.lo < q.lo) ∧ e.ps.Pairwise (fun p q => fitB p q = true) := by
      cases hq : findL L (kyOf h) with
      | none => rw [hq] at he; subst he; exact ⟨rfl, fun q h => (nomatch h), List.Pairwise.nil, List.Pairwise.nil⟩
      | some o =>
        rw [hq] at he
        have he : e = o := he
        subst he
        obtain ⟨m1, m2⟩ := findL_mem hq
        have := hg.ens e m1
        exact ⟨m2, this.ps, this.sorted, this.fits⟩
    obtain ⟨k1, k2, k3, k4⟩ := hek
    have he2 : EnOk { e with ps := insP ⟨h, s⟩ e.ps } := by
      refine ⟨?_, ?_, ?_, fun hd => ?_, fun _ => insP_ne _ _⟩
      · intro q hq
        rcases List.mem_cons.1 ((insP_perm _ e.ps).mem_iff.1 hq) with rfl | hq
        · exact ⟨hp, k1.symm⟩
        · exact k2 q hq
      · exact insP_sorted _ k3 (fun q hq => fit_ne hp (k2 q hq).1 (hf q hq))
      · refine ((insP_perm _ e.ps).pairwise_iff (fun {a b} h => by rw [fitB_symm]; exact h)).2 ?_
        exact List.pairwise_cons.2 ⟨hf, k4⟩
      · rw [c2'] at hd; cases hd
    simp only [Bool.or_eq_true, Bool.and_eq_true, decide_eq_true_eq, not_or, not_and] at c5
    refine .inr ⟨⟨h, s⟩, e, rfl, hp, he.symm, k1, he2, c2', hf, hl, fun hn => by have := c5.1 hn; omega, by have := c5.2; simp only; omega, ?_⟩
    by_cases c6 : wholeB (insP ⟨h, s⟩ e.ps) = true
    · rw [if_pos c6]; exact .inl ⟨c6, rfl⟩
    · rw [if_neg c6]; exact .inr ⟨by simpa using c6, rfl⟩
theorem put_good {st : Sto} {L : List En} (hg : GoodT st L) (e : En) (he : EnOk e) (h1 : (findL L e.k).isNone = true → L.length < st.ents) (h2 : btsL (putL L e) ≤ st.bts) : GoodT st (putL L e) := by
  refine ⟨?_, ?_, h2, fun f hf => ?_⟩
  · rw [putL_keys]
    split
    · exact hg.nodup
    · rename_i hk
      rw [List.nodup_append]
      exact ⟨hg.nodup, by simp, fun a ha b hb => by rw [List.mem_singleton.1 hb]; intro e2; exact hk (by rw [← e2]; exact ha)⟩
  · have := hg.few
    rw [putL_len]
    split
    · rename_i h; have := h1 h; omega
    · omega
  · rcases putL_mem hf with rfl | ⟨hf, _⟩
    · exact he
    · exact hg.ens f hf
theorem put_bts {st : Sto} {L : List En} (hg : GoodT st L) (e : En) : btsL (putL L e) + ((findL L e.k).map fun o => lenP o.ps).getD 0 = btsL L + lenP e.ps := putL_sum (fun e => lenP e.ps) e hg.nodup
theorem addT_good {st : Sto} {L : List En} {x : List UInt8} (hg : GoodT st L) : GoodT st (addT st L x).2 := by
  rcases addT_cases st L x hg with ⟨c, h, _⟩ | ⟨p, e, h1, hp, h2, h3, h4, h5, h6, _, h7, h8, ⟨_, h9⟩ | ⟨_, h9⟩⟩
  · rw [h]; exact hg
  · rw [h9]
    refine put_good hg _ ⟨fun q h => (nomatch h), List.Pairwise.nil, List.Pairwise.nil, fun _ => rfl, fun h => (nomatch h)⟩ h7 ?_
    have := put_bts hg ⟨kyOf p.h, [], true, e.age⟩
    have h0 : lenP [] = 0 := rfl
    simp only [h0] at this
    omega
  · rw [h9]
    refine put_good hg _ ?_ h7 ?_
    · rw [← h3]; exact ⟨h4.ps, h4.sorted, h4.fits, fun h => (nomatch h), fun _ => insP_ne _ _⟩
    · have := put_bts hg ⟨kyOf p.h, insP p e.ps, false, e.age⟩
      have h0 : lenP (insP p e.ps) = _ := lenP_ins p e.ps
      simp only [h0] at this
      have h1 : ((findL L (kyOf p.h)).map fun o => lenP o.ps).getD 0 = lenP e.ps := by
        rw [← h2]; cases findL L (kyOf p.h) <;> rfl
      rw [h1] at this
      omega
/-- what the law of the bounds asks of each Add -/
theorem addT_bounds {st : Sto} {L : List En} {x : List UInt8} (hg : GoodT st L) :
    (((addT st L x).1.2 = 0) ↔ (addT st L x).1.1 ≠ []) ∧ ((addT st L x).1.2 ≠ 0 → (addT st L x).1.2 ≠ 10 → (addT st L x).1.2 ≠ 4 → (addT st L x).2 = L) := by
  rcases addT_cases st L x hg with ⟨c, h, hc⟩ | ⟨p, e, h1, hp, h2, h3, h4, h5, h6, _, h7, h8, ⟨_, h9⟩ | ⟨_, h9⟩⟩
  · rw [h]; exact ⟨⟨fun h => absurd h hc, fun h => absurd rfl h⟩, fun _ _ _ => rfl⟩
  · rw [h9]
    rcases fin_code (insP_ne p e.ps) (fun q hq => (h4.ps q hq).1) with ⟨a, b⟩ | ⟨a, b⟩
    · exact ⟨⟨fun _ => b, fun _ => a⟩, fun h => absurd a h⟩
    · refine ⟨⟨fun h => ?_, fun h => absurd b h⟩, fun _ _ h => absurd a h⟩
      simp only at h; rw [a] at h; cases h
  · rw [h9]; exact ⟨⟨fun h => (by cases h), fun h => absurd rfl h⟩, fun _ h => absurd rfl h⟩
theorem opn_le (L : List En) : opnL L ≤ L.length := List.length_filter_le _ _
theorem tick_ok {e : En} (h : EnOk e) (n : Nat) : EnOk { e with age := n } := ⟨h.ps, h.sorted, h.fits, h.done, h.open_⟩
theorem sum_filter (g : En → Nat) (p : En → Bool) : ∀ L : List En, ((L.filter p).map g).sum ≤ (L.map g).sum
  | [] => Nat.le_refl _
  | e :: t => by
    have := sum_filter g p t
    rw [List.filter_cons]
    split <;> simp <;> omega
theorem tick_good {st : Sto} {L : List En} (hg : GoodT st L) : GoodT st (tickL st L) := by
  unfold tickL
  refine ⟨?_, ?_, ?_, fun e he => ?_⟩
  · unfold keysL; rw [List.map_map]
    exact hg.nodup.sublist (List.filter_sublist.map _)
  · rw [List.length_map]; exact Nat.le_trans (List.length_filter_le _ _) hg.few
  · unfold btsL; rw [List.map_map]
    exact Nat.le_trans (sum_filter (fun e => lenP e.ps) _ L) hg.small
  · obtain ⟨f, hf, rfl⟩ := List.mem_map.1 he
    exact tick_ok (hg.ens f (List.mem_filter.1 hf).1) _
def ticks (st : Sto) : Nat → List En → List En
  | 0, L => L
  | n + 1, L => tickL st (ticks st n L)
theorem ticks_age (st : Sto) (L : List En) : ∀ n, ∀ e ∈ ticks st n L, n ≤ e.age ∧ (0 < n → e.age < st.life) := by
  intro n
  induction n with
  | zero => intro e _; exact ⟨Nat.zero_le _, fun h => by omega⟩
  | succ n ih =>
    intro e he
    unfold ticks tickL at he
    obtain ⟨f, hf, rfl⟩ := List.mem_map.1 he
    obtain ⟨hf, ha⟩ := List.mem_filter.1 hf
    have := (ih f hf).1
    have := of_decide_eq_true ha
    exact ⟨by simp only; omega, fun _ => this⟩
theorem ticks_end {st : Sto} {L : List En} (h : 0 < st.life) : ticks st st.life L = [] := by
  cases hq : ticks st st.life L with
  | nil => rfl
  | cons e t =>
    have := ticks_age st L st.life e (by rw [hq]; exact List.mem_cons_self ..)
    have := this.2 h
    omega
end Go.Proofs.Ythdkbocokefdhaa
