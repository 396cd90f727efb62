import Derived.Test.YtmeemajlcnpkeaaCopy
import Derived.Test.YtmeemajlcnpkeaaNums
import Derived.Test.YtmeemajlcnpkeaaMovesP
/- A row of backends and a ring, side by side. -/
namespace Go.Proofs.Ytmeemajlcnpkeaa
open Go.RowKit
theorem BSt.start {B : Nat} {w0 w : World} (hb : Below B w0 w) (hB : B ≤ w.heap.size) : BSt B w0 (.slice none 0 0) [] w := ⟨World.ownsRow_nil _ _ _ _, hB, hb⟩
theorem BSt.fresh2 {B g : Nat} {w0 w : World} (hg : g = w.heap.size) (h : BSt B w0 (.slice none 0 0) [] w) : BSt B w0 (.slice (some ⟨g, 0, none⟩) 0 0) [] (w.alloc (.cells #[] 30)) := BSt.fresh' hg h.bel h.le
theorem BSt.fresh3 {B : Nat} {w0 w : World} (h : BSt B w0 (.slice none 0 0) [] w) : BSt B w0 (.slice (some ⟨w.heap.size, 0, none⟩) 0 0) [] (w.alloc (.cells #[] 30)) := h.fresh2 rfl
theorem BSt.below {B : Nat} {w0 w w' : World} {v : Value} {bs : List Bk} (h : BSt B w0 v bs w) (hb : Below w.heap.size w w') : BSt B w0 v bs w' := by
  refine ⟨?_, Nat.le_trans h.le hb.size, h.bel.trans (hb.mono h.le)⟩
  obtain ⟨h1, h2⟩ := h.row
  refine ⟨h1, ?_⟩
  rcases h2 with h2 | ⟨g, cap, cur, e1, e2, e3, e4⟩
  · exact .inl h2
  · exact .inr ⟨g, cap, cur, e1, e2, by rw [hb.block g (heap_lt e3)]; exact e3, e4⟩
theorem BSt.appendG {B : Nat} {w0 w : World} {v : Value} {bs : List Bk} (h : BSt B w0 v bs w) (ty : TypeId) (ad : Addr) (m c : Nat) (news : List Bk) (hm : news.length = m)
    (hnews : ∀ j u, (bflat news)[j]? = some u → w.cell? (ad.add j) = some u) (hlen : bs.length + m ≤ 1000) :
    ∃ v' w', (Builtin.append_ #[22, 22] ty #[v, .slice (some ad) m c]).run Try.prog w = .ok v' w' ∧ BSt B w0 v' (bs ++ news) w' ∧ w.grownBy w' v.ownBlock ∧ (v'.ownBlock = v.ownBlock ∨ v'.ownBlock = some w.heap.size) := by
  subst hm
  obtain ⟨i0, hi, hz0, hz1, hz2⟩ := info30
  obtain ⟨v', w', hr, h2, h3, _, h5⟩ := run_append_own_at (P := Try.prog) w B 22 ty 30 i0 _ 3 32 Try.underlying22 hi hz0 hz1 hz2 rfl (by decide) v bs.length (bflat bs) h.row ad news.length c (bflat news) (bflat_len _) hnews
    (fun u hu => by
      unfold bflat at hu
      rw [List.mem_flatMap] at hu
      obtain ⟨b, _, hu⟩ := hu
      unfold bcells at hu
      simp at hu
      rcases hu with rfl | rfl | rfl <;> rfl) (by unfold maxLen; omega) (by omega) h.le
  refine ⟨v', w', hr, ⟨?_, Nat.le_trans h.le (grown_size h3), h.bel.grown h3 h.le (fun q hq => (World.ownsRow.lt h.row q hq).1)⟩, h3, h5⟩
  show w'.ownsRow B 30 3 v' (bs ++ news).length (bflat (bs ++ news))
  rw [List.length_append, bflat_app]
  exact h2
/-- the row v, and the ring r, if there is one -/
structure MSt (B : Nat) (w0 : World) (v : Value) (bs : List Bk) (r : Option (Nat × Value × List (Nat × Nat))) (w : World) : Prop where
  st : BSt B w0 v bs w
  ring : ∀ R u ps, r = some (R, u, ps) → RingAt B R u ps w ∧ v.ownBlock ≠ some R ∧ (u.ownBlock = none ∨ u.ownBlock ≠ v.ownBlock)
section
variable {B : Nat} {w0 : World} {v : Value} {bs : List Bk} {r : Option (Nat × Value × List (Nat × Nat))} {w : World}
theorem RingAt.mono {B B' R : Nat} {u : Value} {ps : List (Nat × Nat)} {w : World} (h : RingAt B' R u ps w) (hB : B ≤ B') : RingAt B R u ps w := by
  refine ⟨h.hR, ?_, h.vR, Nat.le_trans hB h.bR⟩
  obtain ⟨h1, h2⟩ := h.row
  refine ⟨h1, ?_⟩
  rcases h2 with h2 | ⟨g, cap, cur, e1, e2, e3⟩
  · exact .inl h2
  · exact .inr ⟨g, cap, cur, e1, Nat.le_trans hB e2, e3⟩
theorem MSt.drew (h : MSt B w0 v bs r w) : MSt B w0 v bs r w.drew := ⟨h.st.drew, fun R u ps hr => by
  obtain ⟨h1, h2⟩ := h.ring R u ps hr
  exact ⟨h1.below ((Below.refl _ w).drew), h2⟩⟩
theorem MSt.ofB (h : BSt B w0 v bs w) : MSt B w0 v bs none w := ⟨h, fun R u ps hr => by cases hr⟩
theorem MSt.start (hb : Below B w0 w) (hB : B ≤ w.heap.size) : MSt B w0 (.slice none 0 0) [] none w := ⟨BSt.start hb hB, fun R u ps h => by cases h⟩
theorem MSt.fresh {g : Nat} (hg : g = w.heap.size) (h : MSt B w0 (.slice none 0 0) [] r w) : MSt B w0 (.slice (some ⟨g, 0, none⟩) 0 0) [] r (w.alloc (.cells #[] 30)) := by
  refine ⟨h.st.fresh2 hg, fun R u ps hr => ?_⟩
  obtain ⟨h1, h2, h3⟩ := h.ring R u ps hr
  refine ⟨h1.below ((Below.refl _ w).alloc (Nat.le_refl _) _), fun e => ?_, ?_⟩
  · have e1 : g = R := by simpa [Value.ownBlock] using e
    have := heap_lt h1.hR
    omega
  · cases hu : u.ownBlock with
    | none => exact .inl rfl
    | some k =>
      right
      intro e
      have e1 : k = g := by simpa [Value.ownBlock] using e
      have := (h1.row.lt k hu).2
      omega
theorem MSt.fresh3 (h : MSt B w0 (.slice none 0 0) [] r w) : MSt B w0 (.slice (some ⟨w.heap.size, 0, none⟩) 0 0) [] r (w.alloc (.cells #[] 30)) := h.fresh rfl
theorem MSt.append (h : MSt B w0 v bs r w) (ty : TypeId) (ad : Addr) (m c : Nat) (news : List Bk) (hm : news.length = m)
    (hnews : ∀ j u, (bflat news)[j]? = some u → w.cell? (ad.add j) = some u) (hlen : bs.length + m ≤ 1000) :
    ∃ v' w', (Builtin.append_ #[22, 22] ty #[v, .slice (some ad) m c]).run Try.prog w = .ok v' w' ∧ MSt B w0 v' (bs ++ news) r w' := by
  obtain ⟨v', w', h1, h2, h3, h5⟩ := h.st.appendG ty ad m c news hm hnews hlen
  refine ⟨v', w', h1, h2, fun R u ps hr => ?_⟩
  obtain ⟨a1, a2, a3⟩ := h.ring R u ps hr
  have hb := heap_lt a1.hR
  refine ⟨⟨(h3.block _ hb (fun e => a2 e.symm)).trans a1.hR, World.ownsRow.kept a1.row h3 a3, a1.vR, a1.bR⟩, fun e => ?_, ?_⟩
  · rcases h5 with h5 | h5
    · exact a2 (h5 ▸ e)
    · rw [h5] at e; injection e with e; omega
  · cases hu : u.ownBlock with
    | none => exact .inl rfl
    | some k =>
      right
      intro e
      have hk := (a1.row.lt k hu).2
      rcases h5 with h5 | h5
      · rcases a3 with a3 | a3
        · rw [hu] at a3; cases a3
        · exact a3 (by rw [hu, e, h5])
      · rw [h5] at e; injection e with e; omega
theorem MSt.rest (h : MSt B w0 v bs r w) {x : Addr} {all : List Bk} (hsrc : ∀ W, Below B w0 W → BkIn W (some x) all) (ty : TypeId) (t c' m : Nat) (ht : t ≤ all.length) (hm : m = all.length - t) (oa : Option Addr) (ad : Addr) (hoa : oa = some ad) (had : t < all.length → ad = x.add (t * 3)) (hlen : bs.length + all.length ≤ 1000) :
    ∃ v' w', (Builtin.append_ #[22, 22] ty #[v, .slice oa m c']).run Try.prog w = .ok v' w' ∧ MSt B w0 v' (bs ++ all.drop t) r w' := by
  subst hoa
  have hl : ((all.drop t)).length = m := by rw [List.length_drop]; omega
  refine h.append ty ad m c' _ hl (fun j u hu => ?_) (by omega)
  by_cases h1 : t < all.length
  · rw [had h1]
    exact part_cells (hsrc w h.st.bel) t m (by omega) j u (by rw [List.take_of_length_le (by omega)]; exact hu)
  · rw [List.drop_of_length_le (by omega)] at hu
    simp [bflat] at hu
theorem MSt.front (h : MSt B w0 v bs r w) {x : Addr} {all : List Bk} (hsrc : ∀ W, Below B w0 W → BkIn W (some x) all) (ty : TypeId) (t c' : Nat) (ht : t ≤ all.length) (hlen : bs.length + all.length ≤ 1000) :
    ∃ v' w', (Builtin.append_ #[22, 22] ty #[v, .slice (some x) t c']).run Try.prog w = .ok v' w' ∧ MSt B w0 v' (bs ++ all.take t) r w' := by
  have hl : (all.take t).length = t := by rw [List.length_take]; omega
  refine h.append ty x t c' _ hl (fun j u hu => ?_) (by omega)
  have h1 := part_cells (hsrc w h.st.bel) 0 t (by omega) j u (by rw [List.drop_zero]; exact hu)
  simpa [Addr.add] using h1
/-- the first ring is made -/
theorem MSt.call (h : MSt B w0 v bs none w) {x : Addr} {all : List Bk} {cap : Nat} (hM : ∀ W, Below B w0 W → Calls Try.prog 20 #[.slice (some x) all.length cap] W fun e w' => madePost all W e w') (h0 : newE all = 0) :
    Calls Try.prog 20 #[.slice (some x) all.length cap] w fun e w' => ∃ R u ps, e = .returned (.pointer (some ⟨R, 0, none⟩)) ∧ (ps.Perm (gath all all.length) ∧ ps.Pairwise ptle) ∧ MSt B w0 v bs (some (R, u, ps)) w' := by
  refine (hM w h.st.bel).mono ?_
  rintro e w' ⟨hb, _, h9⟩
  obtain ⟨R, u, ps, rfl, r1, r2, r3⟩ := h9 h0
  refine ⟨R, u, ps, rfl, ⟨r2, r3⟩, h.st.below hb, fun R' u' ps' hr => ?_⟩
  injection hr with hr
  injection hr with e1 hr
  injection hr with e2 e3
  subst e1 e2 e3
  have hlt : ∀ k, v.ownBlock = some k → k < w.heap.size := fun k hk => (World.ownsRow.lt h.st.row k hk).2
  refine ⟨r1.mono h.st.le, fun e => ?_, ?_⟩
  · have := hlt R e
    have := r1.bR
    omega
  · cases hu : u.ownBlock with
    | none => exact .inl rfl
    | some k =>
      right
      intro e
      have h1 := hlt k e.symm
      have h2 := (r1.row.lt k hu).1
      omega
/-- there is no first ring -/
theorem BSt.callN (h : BSt B w0 v bs w) {x : Addr} {all : List Bk} {cap : Nat} (hM : ∀ W, Below B w0 W → Calls Try.prog 20 #[.slice (some x) all.length cap] W fun e w' => madePost all W e w') (h0 : newE all ≠ 0) :
    Calls Try.prog 20 #[.slice (some x) all.length cap] w fun e w' => e = .returned (.pointer none) ∧ MSt B w0 v bs none w' := by
  refine (hM w h.bel).mono ?_
  rintro e w' ⟨hb, h9, _⟩
  obtain rfl := h9 h0
  exact ⟨rfl, h.below hb, fun R u ps hr => by cases hr⟩
/-- the last ring is made, of the row -/
theorem MSt.last {R : Nat} {u : Value} {ps : List (Nat × Nat)} (h : MSt B w0 v bs (some (R, u, ps)) w) (hl : bs.length ≤ 100) (hok : BkOk bs) (h0 : newE bs = 0) :
    Calls Try.prog 20 #[v] w fun e w' => ∃ S y qs, e = .returned (.pointer (some ⟨S, 0, none⟩)) ∧ (qs.Perm (gath bs bs.length) ∧ qs.Pairwise ptle ∧ RingAt B R u ps w' ∧ RingAt B S y qs w' ∧ Below B w0 w') := by
  obtain ⟨a, c, rfl, _, hm⟩ := h.st.open
  refine (made_any bs a c w hl hm.inn hok).mono ?_
  rintro e w' ⟨hb, _, h9⟩
  obtain ⟨S, y, qs, rfl, r1, r2, r3⟩ := h9 h0
  exact ⟨S, y, qs, rfl, r2, r3, (h.ring R u ps rfl).1.below hb, r1.mono h.st.le, h.st.bel.trans (hb.mono h.st.le)⟩
theorem MSt.lastN (h : MSt B w0 v bs r w) (hl : bs.length ≤ 100) (hok : BkOk bs) :
    Calls Try.prog 20 #[v] w fun e w' => ∃ p, e = .returned (.pointer p) ∧ Below B w0 w' := by
  obtain ⟨a, c, rfl, _, hm⟩ := h.st.open
  refine (made_any bs a c w hl hm.inn hok).mono ?_
  rintro e w' ⟨hb, h8, h9⟩
  have hb' := h.st.bel.trans (hb.mono h.st.le)
  by_cases h0 : newE bs = 0
  · obtain ⟨S, y, qs, rfl, _⟩ := h9 h0
    exact ⟨_, rfl, hb'⟩
  · obtain rfl := h8 h0
    exact ⟨_, rfl, hb'⟩
end
theorem moves_law2 (bs : List Bk) (t : Nat) (ht : t < bs.length) (h : newE bs = 0) (id : Int) (hid : id = bs[t].id) (ps qs : List (Nat × Nat)) (hp : ps.Perm (gath bs bs.length)) (hs : ps.Pairwise ptle) (hq : qs.Perm (gath (without bs t) (without bs t).length)) (hs2 : qs.Pairwise ptle) (n : Nat) :
    ((fA qs n : Nat) : Int) ≠ id ∧ (((fA ps n : Nat) : Int) ≠ id → fA ps n = fA qs n ∧ fB ps = fB qs) ∧ (fB qs = true → fB ps = true) := by
  subst hid; exact moves_law bs t ht h ps qs hp hs hq hs2 n
/-- an append whose two values are known -/
theorem step_append_v {P : Program} {ops : Array Oper} {o : Oper} {a : Act} {w : World} {K : Act → World → Prop} {Q : Exit → Act → World → Prop} {E : Prop}
    (s x : Operand) (t : TypeId) (v0 x0 : Value) (hg : o.guard = none) (hop : o.op = Op.call { callee := Callee.builtin Builtin.append, args := #[s, x], argTypes := #[t, t] })
    (hs : a.eval s = v0) (hx : a.eval x = x0)
    (h : ∃ v' w', (Builtin.append_ #[t, t] o.type #[v0, x0]).run P w = .ok v' w' ∧ K (a.put o.dst v') w') :
    if Region.wanted o (yielded ops a.tmps) = true then Oper.wp P o a w K Q else E := by
  subst hs hx
  exact step_append_at s x t hg hop h
/-- Find, with or without points -/
theorem find_any (B R n : Nat) (v : Value) (ps : List (Nat × Nat)) (w : World) (hr : RingAt B R v ps w) (hs : ps.Pairwise ptle) (hl : ps.length ≤ 1000000) :
    Calls Try.prog 15 #[.pointer (some ⟨R, 0, none⟩), .int .u64 n] w fun e w' => e = .returned (.tuple #[.int .i64 (fA ps n), .bool (fB ps)]) ∧ Below w.heap.size w w' := by
  unfold fA fB
  by_cases h0 : ps.length = 0
  · obtain rfl : ps = [] := List.eq_nil_of_length_eq_zero h0
    exact find_none B R n v w hr
  · rw [if_neg h0, decide_eq_true (Nat.pos_of_ne_zero h0)]
    exact find_some B R n v ps w hr hs hl (Nat.pos_of_ne_zero h0)
end Go.Proofs.Ytmeemajlcnpkeaa
