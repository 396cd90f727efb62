import Derived.Test.YtdhgmpggophcmaaTwoRows
/- One append inside a region that draws, as a step; and what it leaves. -/
namespace Go.Proofs.Ytdhgmpggophcmaa
open Go.RowKit
theorem step_append_at {P : Program} {ops : Array Oper} {o : Oper} {a : Act} {w : World} {K : Act → World → Prop} {Q : Exit → Act → World → Prop} {E : Prop}
    (s x : Operand) (t : TypeId) (hg : o.guard = none) (hop : o.op = Op.call { callee := Callee.builtin Builtin.append, args := #[s, x], argTypes := #[t, t] })
    (h : ∃ v' w', (Builtin.append_ #[t, t] o.type #[a.eval s, a.eval x]).run P w = .ok v' w' ∧ K (a.put o.dst v') w') :
    if Region.wanted o (yielded ops a.tmps) = true then Oper.wp P o a w K Q else E := by
  have hw : Region.wanted o (yielded ops a.tmps) = true := by simp [Region.wanted, hg]
  rw [if_pos hw]
  obtain ⟨v', w', h1, h2⟩ := h
  unfold Oper.wp
  simp [execOp, hop, resolve, invoke, builtin, h1, Result.andThen]
  exact h2
theorem ex_mono {P R K : Value → World → Prop} (h : ∃ v' w', P v' w' ∧ R v' w') (hk : ∀ v' w', R v' w' → K v' w') : ∃ v' w', P v' w' ∧ K v' w' := by
  obtain ⟨v', w', h1, h2⟩ := h
  exact ⟨v', w', h1, hk _ _ h2⟩
theorem own_base {w : World} {base : Nat} {e : TypeId} {size n : Nat} {v : Value} {xs : List Value} (h : w.ownsRow base e size v n xs) (k : Nat) (hk : v.ownBlock = some k) : base ≤ k := by
  rcases h.2 with ⟨rfl, _⟩ | ⟨g, cap, cur, rfl, hb, _⟩
  · simp [Value.ownBlock] at hk
  · have : g = k := by simpa [Value.ownBlock] using hk
    omega
theorem own_lt {w : World} {base : Nat} {e : TypeId} {size n : Nat} {v : Value} {xs : List Value} (h : w.ownsRow base e size v n xs) (k : Nat) (hk : v.ownBlock = some k) : k < w.heap.size := by
  rcases h.2 with ⟨rfl, _⟩ | ⟨g, cap, cur, rfl, hb, hh, _⟩
  · simp [Value.ownBlock] at hk
  · have : g = k := by simpa [Value.ownBlock] using hk
    subst this
    exact (Array.getElem?_eq_some_iff.1 hh).1
/-- two rows that do not meet -/
def Apart (v u : Value) : Prop := ∀ k, v.ownBlock = some k → u.ownBlock ≠ some k
theorem Apart.ne {v u : Value} (h : Apart v u) : v.ownBlock = none ∨ v.ownBlock ≠ u.ownBlock := by
  cases hv : v.ownBlock with
  | none => exact .inl rfl
  | some k => exact .inr (fun hc => h k hv hc.symm)
theorem Apart.symm {v u : Value} (h : Apart v u) : Apart u v := fun k h1 h2 => h k h2 h1
/-- the row of one zero -/
def zrow (g : Nat) : Value := .slice (some ⟨g, 0, none⟩) 1 1
/-- rows in one world, none meeting the first -/
structure Three (B : Nat) (w0 : World) (va vb : Value) (la lb : List Nat) (v : Value) (l : List Nat) (z : Option Nat) (w : World) : Prop where
  own : Owned B v l w
  ha : Owned B va la w
  hb : Owned B vb lb w
  pa : Apart v va
  pb : Apart v vb
  hz : ∀ g, z = some g → Owned B (zrow g) [0] w ∧ Apart v (zrow g)
  le : B ≤ w.heap.size
  bel : Below B w0 w
section
variable {B : Nat} {w0 : World} {v va vb : Value} {l la lb : List Nat} {z : Option Nat} {w : World}
theorem Three.drew (h : Three B w0 va vb la lb v l z w) : Three B w0 va vb la lb v l z w.drew :=
  ⟨h.own, h.ha, h.hb, h.pa, h.pb, h.hz, h.le, h.bel.drew⟩
theorem Three.start (ha : Owned B va la w) (hb : Owned B vb lb w) (hbel : Below B w0 w) (hB : B ≤ w.heap.size) : Three B w0 va vb la lb (.slice none 0 0) [] none w :=
  ⟨World.ownsRow_nil _ _ _ _, ha, hb, (fun k hk => by simp [Value.ownBlock] at hk), (fun k hk => by simp [Value.ownBlock] at hk), (fun g h => by cases h), hB, hbel⟩
theorem fresh_apart {u : Value} {lu : List Nat} (hu : Owned B u lu w) (n c : Nat) : Apart (.slice (some ⟨w.heap.size, 0, none⟩) n c) u := by
  intro k hk hk'
  have h1 := own_lt hu k hk'
  have : w.heap.size = k := by simpa [Value.ownBlock] using hk
  omega
theorem Three.fresh (h : Three B w0 va vb la lb (.slice none 0 0) [] z w) : Three B w0 va vb la lb (.slice (some ⟨w.heap.size, 0, none⟩) 0 0) [] z (w.alloc (.cells #[] 25)) := by
  refine ⟨⟨rfl, .inr ⟨w.heap.size, 0, #[], rfl, h.le, ?_, Nat.le_refl _, by unfold maxLen; omega, rfl, rfl⟩⟩, World.ownsRow.alloc h.ha _, World.ownsRow.alloc h.hb _, fresh_apart h.ha _ _, fresh_apart h.hb _ _, fun g hg => ⟨World.ownsRow.alloc (h.hz g hg).1 _, fresh_apart (h.hz g hg).1 _ _⟩, ?_, h.bel.alloc h.le _⟩
  · show (w.heap.push _)[w.heap.size]? = _; simp
  · rw [World.size_alloc]; have := h.le; omega
theorem Three.more (h : Three B w0 va vb la lb v l none w) : Three B w0 va vb la lb v l (some w.heap.size) (w.alloc (.cells #[.float .f64 0] 25)) := by
  refine ⟨World.ownsRow.alloc h.own _, World.ownsRow.alloc h.ha _, World.ownsRow.alloc h.hb _, h.pa, h.pb, ?_, ?_, h.bel.alloc h.le _⟩
  · intro g hg
    injection hg with hg
    subst hg
    refine ⟨⟨rfl, .inr ⟨w.heap.size, 1, #[.float .f64 0], rfl, h.le, ?_, Nat.le_refl _, by unfold maxLen; omega, rfl, rfl⟩⟩, (fresh_apart h.own 1 1).symm⟩
    show (w.heap.push _)[w.heap.size]? = _; simp
  · rw [World.size_alloc]; have := h.le; omega
theorem Three.fresh' {g : Nat} (hg : g = w.heap.size) (h : Three B w0 va vb la lb (.slice none 0 0) [] z w) : Three B w0 va vb la lb (.slice (some ⟨g, 0, none⟩) 0 0) [] z (w.alloc (.cells #[] 25)) := by subst hg; exact h.fresh
theorem Three.more' {g : Nat} (hg : g = w.heap.size) (h : Three B w0 va vb la lb v l none w) : Three B w0 va vb la lb v l (some g) (w.alloc (.cells #[.float .f64 0] 25)) := by subst hg; exact h.more
theorem Three.zeq {z' : Option Nat} (hg : z = z') (h : Three B w0 va vb la lb v l z w) : Three B w0 va vb la lb v l z' w := by subst hg; exact h
theorem grown_size {w w1 : World} {row : Option Nat} (h : w.grownBy w1 row) : w.heap.size ≤ w1.heap.size := by
  have := (Below.refl 0 w).grown h (Nat.zero_le _) (fun _ _ => Nat.zero_le _)
  exact this.size
/-- an append of any row of floats that can be read -/
theorem Three.append (h : Three B w0 va vb la lb v l z w) (ty : TypeId) (ad : Addr) (c : Nat) (news : List Nat)
    (hnews : ∀ j u, (floats news)[j]? = some u → w.cell? (ad.add j) = some u) (hlen : l.length + news.length ≤ 1000) :
    ∃ v' w', (Builtin.append_ #[27, 27] ty #[v, .slice (some ad) news.length c]).run Try.prog w = .ok v' w' ∧ Three B w0 va vb la lb v' (l ++ news) z w' := by
  obtain ⟨i0, hi, hz0, hz1, hz2⟩ := info_parts25
  obtain ⟨v', w', hr, h2, h3, _, h5⟩ := run_append_own_at (P := Try.prog) w B 27 ty 25 i0 (.float .f64 0) 1 8 Try.underlying27 hi hz0 hz1 hz2 rfl (by decide) v l.length (floats l) h.own ad news.length c (floats news) (by rw [floats_len]; omega) hnews (fun u hu => by obtain ⟨y, _, rfl⟩ := List.mem_map.1 hu; rfl) (by unfold maxLen; omega) (by omega) h.le
  have hap : ∀ {u : Value} {lu : List Nat}, Owned B u lu w → Apart v u → Apart v' u := by
    intro u lu hu hp k hk hk'
    have hlt := own_lt hu k hk'
    rcases h5 with h5 | h5
    · exact hp k (h5 ▸ hk) hk'
    · rw [h5] at hk; injection hk with hk; omega
  refine ⟨v', w', hr, ?_, World.ownsRow.kept h.ha h3 h.pa.symm.ne, World.ownsRow.kept h.hb h3 h.pb.symm.ne, hap h.ha h.pa, hap h.hb h.pb, fun g hg => ⟨World.ownsRow.kept (h.hz g hg).1 h3 (h.hz g hg).2.symm.ne, hap (h.hz g hg).1 (h.hz g hg).2⟩, Nat.le_trans h.le (grown_size h3), h.bel.grown h3 h.le (fun q hq => own_base h.own q hq)⟩
  show w'.ownsRow B 25 1 v' (l ++ news).length (floats (l ++ news))
  rw [List.length_append]
  have e : floats (l ++ news) = floats l ++ floats news := by unfold floats; rw [List.map_append]
  rw [e]; exact h2
theorem Three.appendN (h : Three B w0 va vb la lb v l z w) (ty : TypeId) (ad : Addr) (c n : Nat) (news : List Nat) (hn : news.length = n)
    (hnews : ∀ j u, (floats news)[j]? = some u → w.cell? (ad.add j) = some u) (hlen : l.length + news.length ≤ 1000) :
    ∃ v' w', (Builtin.append_ #[27, 27] ty #[v, .slice (some ad) n c]).run Try.prog w = .ok v' w' ∧ Three B w0 va vb la lb v' (l ++ news) z w' := by
  subst hn; exact h.append ty ad c news hnews hlen
theorem floats_at (l : List Nat) (j : Nat) (u : Value) (h : (floats l)[j]? = some u) : ∃ hj : j < l.length, u = .float .f64 l[j] := by
  unfold floats at h
  rw [List.getElem?_map] at h
  by_cases hj : j < l.length
  · rw [List.getElem?_eq_getElem hj] at h
    simp only [Option.map_some, Option.some.injEq] at h
    exact ⟨hj, h.symm⟩
  · rw [List.getElem?_eq_none (by omega)] at h; cases h
theorem Owned.at {g n c : Nat} {l : List Nat} {w : World} (h : Owned B (.slice (some ⟨g, 0, none⟩) n c) l w) (j : Nat) (hj : j < l.length) : w.cell? ⟨g, j, none⟩ = some (.float .f64 l[j]) := by
  have h1 := World.ownsRow.cells h (g := g) rfl j (.float .f64 l[j]) (by unfold floats; rw [List.getElem?_map, List.getElem?_eq_getElem hj]; rfl)
  rw [add_plain] at h1; exact h1
/-- the front part of the second row, put behind the first -/
theorem Three.front {gb n c : Nat} (h : Three B w0 va (.slice (some ⟨gb, 0, none⟩) n c) la lb v l z w) (ty : TypeId) (c' turn : Nat) (ht : turn ≤ lb.length) (hlen : l.length + turn ≤ 1000) :
    ∃ v' w', (Builtin.append_ #[27, 27] ty #[v, .slice (some ⟨gb, 0, none⟩) turn c']).run Try.prog w = .ok v' w' ∧ Three B w0 va (.slice (some ⟨gb, 0, none⟩) n c) la lb v' (l ++ lb.take turn) z w' := by
  have e : (lb.take turn).length = turn := by rw [List.length_take]; omega
  refine h.appendN ty _ c' turn _ e ?_ (by omega)
  intro j u hu
  obtain ⟨hj, rfl⟩ := floats_at _ _ _ hu
  rw [add_plain, h.hb.at j (by omega), List.getElem_take]
/-- the rest of the second row, put behind the first -/
theorem Three.rest {gb n c : Nat} (h : Three B w0 va (.slice (some ⟨gb, 0, none⟩) n c) la lb v l z w) (ty : TypeId) (c' turn : Nat) (ad : Addr) (had : turn < lb.length → ad = ⟨gb, turn, none⟩) (m : Nat) (hm : m = lb.length - turn) (hlen : l.length + lb.length ≤ 1000) :
    ∃ v' w', (Builtin.append_ #[27, 27] ty #[v, .slice (some ad) m c']).run Try.prog w = .ok v' w' ∧ Three B w0 va (.slice (some ⟨gb, 0, none⟩) n c) la lb v' (l ++ lb.drop turn) z w' := by
  have e : (lb.drop turn).length = m := by rw [List.length_drop]; omega
  refine h.appendN ty _ c' m _ e ?_ (by omega)
  intro j u hu
  obtain ⟨hj, rfl⟩ := floats_at _ _ _ hu
  have hlt : turn < lb.length := by rw [List.length_drop] at hj; omega
  rw [had hlt, show (⟨gb, turn, none⟩ : Addr).add j = ⟨gb, turn + j, none⟩ by simp [Addr.add], h.hb.at (turn + j) (by rw [List.length_drop] at hj; omega), List.getElem_drop]
theorem Three.restO {gb n c : Nat} {oa : Option Addr} (h : Three B w0 va (.slice (some ⟨gb, 0, none⟩) n c) la lb v l z w) (ty : TypeId) (c' turn : Nat) (ad : Addr) (hoa : oa = some ad) (had : turn < lb.length → ad = ⟨gb, turn, none⟩) (m : Nat) (hm : m = lb.length - turn) (hlen : l.length + lb.length ≤ 1000) :
    ∃ v' w', (Builtin.append_ #[27, 27] ty #[v, .slice oa m c']).run Try.prog w = .ok v' w' ∧ Three B w0 va (.slice (some ⟨gb, 0, none⟩) n c) la lb v' (l ++ lb.drop turn) z w' := by
  subst hoa; exact h.rest ty c' turn ad had m hm hlen
theorem Three.zero {g : Nat} (h : Three B w0 va vb la lb v l (some g) w) (ty : TypeId) (hlen : l.length ≤ 900) :
    ∃ v' w', (Builtin.append_ #[27, 27] ty #[v, .slice (some ⟨g, 0, none⟩) 1 1]).run Try.prog w = .ok v' w' ∧ Three B w0 va vb la lb v' (l ++ [0]) (some g) w' := by
  refine h.appendN ty _ 1 1 [0] rfl ?_ (by simp; omega)
  intro j u hu
  obtain ⟨hj, rfl⟩ := floats_at _ _ _ hu
  obtain rfl : j = 0 := by simp at hj; omega
  rw [add_plain]; exact (h.hz g rfl).1.at 0 (by simp)
theorem Three.nil (h : Three B w0 va vb la lb v l z w) (ty : TypeId) :
    ∃ v' w', (Builtin.append_ #[27, 27] ty #[v, .slice none 0 0]).run Try.prog w = .ok v' w' ∧ Three B w0 va vb la lb v' l z w' := by
  obtain ⟨i0, hi, hz0, hz1, hz2⟩ := info_parts25
  rcases h.own.2 with ⟨h1, h2⟩ | ⟨g, cap, cur, h1, h2, h3, h4, h5, h6, h7⟩
  · refine ⟨v, w, ?_, h⟩
    subst h1
    simp [Builtin.append_, Builtin.lenOf, Builtin.firstCells]
  · refine ⟨v, w, ?_, h⟩
    subst h1
    simp [Builtin.append_, Builtin.lenOf, Builtin.firstCells, h4, storeCells]
theorem turn_len (L : List Nat) (turn : Nat) (h : L.length ≤ 60) : ([] ++ L.drop turn ++ L.take turn).length ≤ 900 := by
  rw [List.length_append, List.length_append, List.length_drop, List.length_take, List.length_nil]; omega
/-- the share by an owned row -/
theorem Owned.share {v : Value} {l : List Nat} {w : World} (h : Owned B v l w) (h0 : 0 < l.length) (hl : l.length ≤ 100) (hw : ∀ y ∈ l, y < W64) (x : Nat) (hx : x < W64) (W : World) (hW : Below w.heap.size w W) :
    Calls Try.prog 12 #[.float .f64 x, v] W fun e w' => e = .returned (.tuple #[.float .f64 (shareV x l), .int .i64 (shareE x l)]) ∧ Below w.heap.size w w' := by
  obtain ⟨g, c, rfl, hc⟩ := h.shape h0
  have hcap : l.length ≤ c := by
    rcases h.2 with ⟨h1, _⟩ | ⟨g', cap, cur, h1, _, _, h2, _⟩
    · cases h1
    · injection h1 with _ _ h3; omega
  refine (share_some x l g c W hx hw (by omega) hcap (fun j hj => (hW.cell (World.block_lt_of_cell? w _ (hc j hj))).trans (hc j hj))).mono ?_
  rintro e w' ⟨rfl, hb'⟩
  exact ⟨rfl, btr hW hb'⟩
end
theorem nearest_nan (neg : Bool) (mag : Nat) (place : Int) : FM.nan (FM.D.nearest neg mag place) = false := by
  unfold Ieee.Format.nearest
  by_cases h : mag = 0
  · rw [if_pos h]
    obtain ⟨h1, _⟩ := FM.read_word neg 0 (by decide)
    exact decide_eq_false (by rw [h1]; decide)
  · rw [if_neg h]
    simp only
    obtain ⟨x, hx⟩ : ∃ x, x = ((max (place + (mag.log2 : Int) - (FM.D.fractionBits : Int)) FM.D.leastPlace - FM.D.leastPlace).toNat * FM.D.binade + Ieee.Toward.even.cut neg (mag <<< (place - max (place + (mag.log2 : Int) - (FM.D.fractionBits : Int)) FM.D.leastPlace).toNat) (max (place + (mag.log2 : Int) - (FM.D.fractionBits : Int)) FM.D.leastPlace - place).toNat) := ⟨_, rfl⟩
    rw [← hx, FM.infR]
    obtain ⟨h1, _⟩ := FM.read_word neg (min x 9218868437227405312) (by omega)
    exact decide_eq_false (by rw [h1]; omega)
theorem quo_nan (p T : Nat) (hp : p ≤ 4294967296) (hT : T ≤ 4294967296) (h0 : T ≠ 0) : FM.nan (quoW p T) = false := by
  have h := div_some p T hp hT h0
  obtain ⟨a, q, h1, _⟩ := FM.is_nat p hp
  obtain ⟨b, r, h3, h4⟩ := FM.is_nat T hT
  have hb : b ≠ 0 := by
    rintro rfl
    rw [Nat.zero_mul] at h4
    have := Nat.mul_pos (Nat.pos_of_ne_zero h0) (FM.pow_pos 1074)
    omega
  unfold Ieee.Format.div at h
  rw [h1, h3] at h
  unfold Ieee.Datum.quotient at h
  simp only at h
  rw [if_neg hb] at h
  simp only [Option.map_some, Option.some.injEq] at h
  rw [← h]
  exact nearest_nan _ _ _
theorem alike_order (zs : List Nat) (n : Nat) (hl : zs.length ≤ 60) (hz : ∀ z ∈ zs, z ≤ 256) (hn : n ≤ 256) (h : shareE (w16 n) (zs.map w16) = 0) :
    (FloatKind.f64.format.order (shareV (w16 n) (zs.map w16)) (shareV (w16 n) (zs.map w16)) == some .eq) = true := by
  obtain ⟨m1, m2, _⟩ := w16_points n hn
  have a1 : allMay (zs.map w16) = true := allMay_map _ _ (fun z h => (w16_points z (hz z h)).1)
  have a5 : allMay (zs.map w16 ++ [w16 n]) = true := by rw [allMay_app, a1, allMay_one, m1]; rfl
  have hT := sumP_le (zs.map w16)
  rw [List.length_map] at hT
  have hT0 : sumP (zs.map w16) ≠ 0 := by
    intro h0
    unfold shareE at h
    rw [if_pos a5, if_pos h0] at h; cases h
  have hv : shareV (w16 n) (zs.map w16) = quoW (FM.points (w16 n)) (sumP (zs.map w16)) := by
    unfold shareV; rw [if_pos a5, if_neg hT0]
  have hnn : FM.nan (shareV (w16 n) (zs.map w16)) = false := by
    rw [hv]; exact quo_nan _ _ (by rw [m2]; omega) (by omega) hT0
  have h1 := FM.order_self (shareV (w16 n) (zs.map w16))
  rw [hnn] at h1
  show (FM.D.order _ _ == some .eq) = true
  rw [h1]; rfl
end Go.Proofs.Ytdhgmpggophcmaa
