import Derived.Test.YthdkbocokefdhaaTickM
import Derived.Deep.QuietTactic
import Derived.BigQuiet
/- Tick. -/
namespace Go.Proofs.Ythdkbocokefdhaa
set_option maxRecDepth 100000
open Go.RowKit
theorem kl_keep {loc : Ky → Nat} (C : List En) (e : En) : (chg C e).map (fun e => (e.k, loc e.k)) = C.map fun e => (e.k, loc e.k) := by
  unfold chg
  rw [List.map_map]
  refine List.map_congr_left (fun f _ => ?_)
  show ((if f.k = e.k then e else f).k, loc (if f.k = e.k then e else f).k) = _
  split
  · next h => rw [h]
  · rfl
theorem kl_drop {loc : Ky → Nat} (C : List En) (k : Ky) : (C.filter fun f => decide (f.k ≠ k)).map (fun e => (e.k, loc e.k)) = outK (C.map fun e => (e.k, loc e.k)) k := by
  unfold outK
  rw [List.filter_map]
  rfl
theorem bts_chg {C : List En} (hn : (keysL C).Nodup) {e : En} (he : e ∈ C) (n : Nat) : btsL (chg C { e with age := n }) = btsL C := by
  unfold btsL chg
  rw [List.map_map]
  congr 1
  refine List.map_congr_left (fun f hf => ?_)
  show lenP (if f.k = e.k then ({ e with age := n } : En) else f).ps = lenP f.ps
  split
  · next h => rw [key_one hn hf he h]
  · rfl
theorem bts_cur (st : Sto) : ∀ (L : List En) (acc : List Ky), btsL (curL st L acc) ≤ btsL L
  | [], _ => Nat.le_refl _
  | a :: t, acc => by
    have ih := bts_cur st t acc
    unfold btsL curL at ih ⊢
    rw [List.filterMap_cons]
    cases hc : curF st acc a with
    | none => simp only [List.map_cons, List.sum_cons]; omega
    | some b =>
      simp only [List.map_cons, List.sum_cons]
      rw [(curF_k hc).2.1]; omega
theorem Rg.two {M r : Nat} {K : List (Ky × Nat)} {acc : List Ky} {cnt : Nat} {w w' : World} (h : Rg M r K acc cnt w) (ho : w'.os = w.os) (ht : w'.tape = w.tape) (hu : w'.output = w.output) (hs : w.heap.size ≤ w'.heap.size) (P : Nat) (hM : M ≠ P) (hr : r ≠ P)
    (hb : ∀ b, b < w.heap.size → b ≠ P → w'.heap[b]? = w.heap[b]?) : Rg M r K acc cnt w' :=
  h.kept (row := some P) ⟨ho, ht, hu, hs, fun k hk hne => hb k hk (fun e => hne (by rw [e]))⟩ (fun e => hM (by injection e)) (fun e => hr (by injection e))
theorem step_delete_v {P : Program} {ops : Array Oper} {o : Oper} {a : Act} {w : World} {K : Act → World → Prop} {Q : Exit → Act → World → Prop} {E : Prop}
    (s x : Operand) (t1 t2 : TypeId) (v0 x0 : Value) (hg : o.guard = none) (hop : o.op = Op.call { callee := Callee.builtin Builtin.delete, args := #[s, x], argTypes := #[t1, t2] })
    (hs : a.eval s = v0) (hx : a.eval x = x0)
    (h : ∃ v' w', (Builtin.delete_ #[t1, t2] o.type #[v0, x0]).run P w = .ok v' w' ∧ K (a.put o.dst v') w') :
    if Region.wanted o (yielded ops a.tmps) = true then Oper.wp P o a w K Q else E := by
  subst hs hx
  have hw : Region.wanted o (yielded ops a.tmps) = true := by simp [Region.wanted, hg]
  rw [if_pos hw]
  obtain ⟨v', w', h1, h2⟩ := h
  unfold Oper.wp
  simp [execOp, hop, resolve, invoke, builtin, h1, Result.andThen]
  exact h2
theorem chg_len (L : List En) (e : En) : (chg L e).length = L.length := by unfold chg; rw [List.length_map]
theorem filt_one : ∀ {l : List En} {e : En}, (keysL l).Nodup → e ∈ l → (l.filter (fun f => decide (f.k ≠ e.k))).length + 1 = l.length
  | [], _, _, h => by cases h
  | a :: t, e, hn, h => by
    have hn' : a.k ∉ keysL t ∧ (keysL t).Nodup := List.nodup_cons.1 hn
    rcases List.mem_cons.1 h with rfl | ht
    · rw [List.filter_cons_of_neg (by simp), List.filter_eq_self.2 (fun x hx => by
        have : x.k ≠ e.k := fun hk => hn'.1 (List.mem_map.2 ⟨x, hx, hk⟩)
        simpa using this), List.length_cons]
    · have hne : a.k ≠ e.k := fun hk => hn'.1 (List.mem_map.2 ⟨e, ht, hk.symm⟩)
      rw [List.filter_cons_of_pos (by simpa using hne), List.length_cons, filt_one hn'.2 ht, List.length_cons]
theorem curL_one (st : Sto) (L : List En) (acc : List Ky) (e : En) (he : e ∈ L) (hn : (keysL L).Nodup) (ha : e.k ∉ acc) (hl : ¬ e.age + 1 < st.life) : (curL st L acc).length = (curL st L (e.k :: acc)).length + 1 := by
  rw [(curL_drop st L acc e he hn ha hl).1, filt_one (hn.sublist (curL_sub st L acc)) (curL_has he ha)]
def TickPost (F : Nat → Prop) (Tb M : Nat) (st : Sto) (loc : Ky → Nat) (row : Ky → Value) (L : List En) (w : World) (e : Ending) (w' : World) : Prop :=
  ∃ z : Int, e = .returned (.int .i64 z) ∧ z = (L.length : Int) - ((tickL st L).length : Int) ∧ Tab F Tb M st loc row (tickL st L) w' ∧ Kp F w w'
set_option maxHeartbeats 16000000 in
theorem tick_any {F : Nat → Prop} {Tb M : Nat} {st : Sto} {loc : Ky → Nat} {row : Ky → Value} {L : List En} (w : World) (h : Tab F Tb M st loc row L w) (hl : L.length ≤ 1000000) (hst : st.life ≤ 1000000) (hb0 : btsL L ≤ 1000000000) (hps : ∀ e ∈ L, e.ps.length ≤ 1000000) (hage : ∀ e ∈ L, e.age ≤ 1000000) :
    Calls Try.prog 13 #[.pointer (some ⟨Tb, 0, none⟩)] w (TickPost F Tb M st loc row L w) := by
  have k1 := cellAt (i := 3) (v := .map (some M)) h.tb rfl
  obtain ⟨K, hK⟩ : ∃ K, K = L.map fun e => (e.k, loc e.k) := ⟨_, rfl⟩
  have HP : Hid (PM M K w) := Lib.hid (by rw [hK]; exact h.pm)
  have HK := Lib.hid hK
  have HT := Lib.hid h
  have HL := Lib.hid hl
  have HBT := Lib.hid hb0
  have HPS := Lib.hid hps
  have HAGE := Lib.hid hage
  have HND : Hid ((keysL L).Nodup) := Lib.hid (by
    have := h.pm.nodup
    unfold ks at this
    rw [List.map_map] at this
    exact this)
  obtain ⟨lf, hlf⟩ : ∃ n, n = st.life := ⟨_, rfl⟩
  have HLF := Lib.hid hlf
  rw [← hlf] at hst
  obtain ⟨r, hr⟩ : ∃ r, r = w.heap.size := ⟨_, rfl⟩
  have HR := Lib.hid hr
  clear h hK hl hr hb0 hps hage hlf
  go_enter Try.func13, Try.ntmps13
  go_wp2_with (at_range; refine wpList_range_e _ rfl _ rfl M K rfl HP.out ?_; intro w0 hrg0 hg0 hs0; rw [← HR.out] at hrg0 ⊢)
  have HZ0 : Hid (w0.heap.size = r + 1) := Lib.hid (by rw [hs0, HR.out])
  have HRG0 : Hid (Rg M r ((curL st L []).map fun e => (e.k, loc e.k)) [] K.length w0) := Lib.hid (by rw [curL_nil, ← HK.out]; exact hrg0)
  have HS0 : Hid (TkS F Tb M st loc row L [] (btsL (curL st L [])) w w0) := Lib.hid (by rw [curL_nil]; exact (TkS.start HT.out).grown HT.out hg0 (fun b h => by cases h))
  clear hrg0 hg0 hs0 k1
  try go_frame
  go_loopw [3] (fun v wr => ∃ (acc : List Ky) (cnt : Nat) (z : Int), v = .int .i64 z ∧ Hid (z = (L.length : Int) - ((curL st L acc).length : Int)) ∧ Hid (Rg M r ((curL st L acc).map fun e => (e.k, loc e.k)) acc cnt wr) ∧ Hid (TkS F Tb M st loc row L acc (btsL (curL st L acc)) w wr) ∧ Hid (r + 1 ≤ wr.heap.size)) (fun _ wr => wr.rangeLeft M r)
  case atStart => exact ⟨[], K.length, 0, rfl, Lib.hid (by rw [curL_nil]; omega), HRG0, HS0, Lib.hid (show r + 1 ≤ w0.heap.size by rw [HZ0.out]; omega)⟩
  case round =>
    obtain ⟨acc, cnt, z, rfl, hzz, hrg, hts, hsz⟩ := hrel
    have hz1 : IntKind.i64.wrap (z + 1) = z + 1 := IntWalk.i64_in _ (by have h1 := hzz.out; have h2 := curL_len st L acc; have h3 := HL.out; omega)
    obtain ⟨KK, hKK⟩ : ∃ K, K = (curL st L acc).map fun e => (e.k, loc e.k) := ⟨_, rfl⟩
    have HKK := Lib.hid hKK
    have HRGK : Hid (Rg M r KK acc cnt wr) := Lib.hid (by rw [hKK]; exact hrg.out)
    clear hKK
    go_wp2_with (at_next; refine wpList_next_e _ rfl _ rfl M r KK acc cnt rfl HRGK.out ?d ?m)
    case d =>
      intro h0 hp
      have HALL : Hid (curL st L acc = tickL st L) := Lib.hid (curL_all st L acc (fun e he => by
        rcases Classical.em (e.k ∈ acc) with h | h
        · exact h
        · exact hp e.k (ks_mem.2 ⟨(e.k, loc e.k), HKK.out ▸ List.mem_map.2 ⟨e, curL_has he h, rfl⟩, rfl⟩)))
      have HFIN : Hid (Tab F Tb M st loc row (tickL st L) wr) := Lib.hid (by
        have h1 := TkS.fin HT.out hts.out rfl hrg.out.owns
        rw [HALL.out] at h1
        exact h1)
      clear h0 hp
      go_wp2_with (fail)
      go_ret
      exact ⟨_, rfl, by rw [← HALL.out]; exact hzz.out, HFIN.out, hts.out.kp⟩
    case m =>
      intro k p w3 cnt3 hm ha hrg3 hlt hgr hs3 hen
      rw [HKK.out] at hm hrg3
      obtain ⟨e, he, hek⟩ := List.mem_map.1 hm
      injection hek with hek hpe
      subst hek hpe
      have heL := curL_old he ha
      have HE : Hid (e ∈ L ∧ e.k ∉ acc) := Lib.hid ⟨heL, ha⟩
      have HS3 : Hid (TkS F Tb M st loc row L acc (btsL (curL st L acc)) w w3) := Lib.hid (hts.out.grown HT.out hgr (fun b h => by injection h with h; exact .inl (by rw [← h, HR.out]; exact Nat.le_refl _)))
      have HRG3 := Lib.hid hrg3
      have HZ3 : Hid (r + 1 ≤ w3.heap.size) := Lib.hid (by rw [hs3]; exact hsz.out)
      have HLT : Hid (cnt3 < wr.rangeLeft M r) := Lib.hid (by rw [hrg.out.left_eq]; exact hlt)
      obtain ⟨P, hP⟩ : ∃ P, P = loc e.k := ⟨_, rfl⟩
      obtain ⟨ag, hag⟩ : ∃ a, a = e.age := ⟨_, rfl⟩
      have hag9 : ag ≤ 1000000 := by rw [hag]; exact HAGE.out e heL
      obtain ⟨rv, hrv⟩ : ∃ v, v = row e.k := ⟨_, rfl⟩
      obtain ⟨dn', hdn⟩ : ∃ d, d = e.done := ⟨_, rfl⟩
      have HEN : Hid (w3.heap[P]? = some (.cells #[rv, .bool dn', .int .i64 (ag : Nat)] 72 (0, 0))) := Lib.hid (by rw [hP, hrv, hdn, hag]; exact HS3.out.ent e he)
      have HPP := Lib.hid hP
      have HAG := Lib.hid hag
      have HRV := Lib.hid hrv
      obtain ⟨s1, hs1⟩ : ∃ s, s = bs e.k.src := ⟨_, rfl⟩
      obtain ⟨s2, hs2⟩ : ∃ s, s = bs e.k.dst := ⟨_, rfl⟩
      obtain ⟨n1, hn1⟩ : ∃ s, s = e.k.proto := ⟨_, rfl⟩
      obtain ⟨n2, hn2⟩ : ∃ s, s = e.k.id := ⟨_, rfl⟩
      have hkv : kv e.k = .agg #[.string s1, .string s2, .int .i64 n1, .int .i64 n2] := by rw [hs1, hs2, hn1, hn2]; rfl
      have HKV := Lib.hid hkv
      rw [hkv, ← hP] at hen ⊢
      have hPK : P < w3.heap.size := heap_lt HEN.out
      obtain ⟨K4, hK4⟩ : ∃ k, k = w3.heap.size := ⟨_, rfl⟩
      obtain ⟨W4, hW4⟩ : ∃ W, W = w3.alloc (.cells #[.string s1, .string s2, .int .i64 n1, .int .i64 n2] 68) := ⟨_, rfl⟩
      have HEN4 : Hid (W4.heap[P]? = some (.cells #[rv, .bool dn', .int .i64 (ag : Nat)] 72 (0, 0))) := Lib.hid (by rw [hW4, Below.heap_alloc _ _ _ hPK]; exact HEN.out)
      have HK4 : Hid (W4.heap[K4]? = some (.cells #[.string s1, .string s2, .int .i64 n1, .int .i64 n2] 68 (0, 0)) ∧ P ≠ K4 ∧ w.heap.size ≤ K4) := Lib.hid (by rw [hW4, hK4]; exact ⟨alloc_new _ _, by omega, by have := HZ3.out; have := HR.out; omega⟩)
      have HB34 : Hid (Below w3.heap.size w3 W4) := Lib.hid (by rw [hW4]; exact (Below.refl _ _).alloc (Nat.le_refl _) _)
      clear hP hag hrv hdn hs1 hs2 hn1 hn2 hkv hrg3 hlt hgr hs3 ha hm he heL hPK
      go_upto_region 5 with (fail)
      rw [← hW4, ← hK4]
      clear hW4 hK4
      obtain ⟨a1, ha1⟩ : ∃ a, a = ag + 1 := ⟨_, rfl⟩
      have HA1 := Lib.hid ha1
      have kag := cellAt (i := 2) (v := .int .i64 (ag : Nat)) HEN4.out rfl
      have fag := Lib.frozen_of_heap HEN4.out 2
      have wag : IntKind.i64.wrap ((ag : Int) + 1) = (a1 : Int) := by rw [IntWalk.i64_in _ (by omega)]; omega
      have ha19 : a1 ≤ 1000001 := by omega
      clear ha1
      go_upto_region 6 with (fail)
      obtain ⟨W5, hW5⟩ : ∃ W, W = W4.setCell ⟨P, 2, none⟩ (.int .i64 (a1 : Nat)) := ⟨_, rfl⟩
      have HEN5 : Hid (W5.heap[P]? = some (.cells #[rv, .bool dn', .int .i64 (a1 : Nat)] 72 (0, 0))) := Lib.hid (by rw [hW5]; simp [World.setCell, Array.getElem?_modify, HEN4.out])
      have HK5 : Hid (W5.heap[K4]? = some (.cells #[.string s1, .string s2, .int .i64 n1, .int .i64 n2] 68 (0, 0))) := Lib.hid (by rw [hW5]; exact heap_other HK4.out.1 (fun h => HK4.out.2.1 h.symm) _ _)
      have HS5 : Hid (TkS F Tb M st loc row L (e.k :: acc) (btsL (curL st L acc)) w W5) := Lib.hid (by
        have h1 := (HS3.out.below HT.out HS3.out.kp.size HB34.out).age HT.out e HE.out.1 HND.out HE.out.2
        rw [hW5, HPP.out, HA1.out, HAG.out]; exact h1)
      have HRG5 : Hid (Rg M r ((curL st L acc).map fun e => (e.k, loc e.k)) (e.k :: acc) cnt3 W5) := Lib.hid (by
        have hf := HT.out.locF HE.out.1
        refine HRG3.out.two (P := P) (by rw [hW5]; exact HB34.out.os) (by rw [hW5]; exact HB34.out.tape) (by rw [hW5]; exact HB34.out.output) (by rw [hW5]; simpa [World.setCell] using HB34.out.size) (by rw [HPP.out]; exact fun h => hf.2.2.1 h.symm) (by rw [HPP.out, HR.out]; omega) (fun b hb hne => ?_)
        rw [hW5, Below.heap_setCell _ _ _ _ hne]
        exact HB34.out.block b hb)
      have HZ5 : Hid (r + 1 ≤ W5.heap.size) := Lib.hid (by rw [hW5]; have h1 := HB34.out.size; have h2 := HZ3.out; simp [World.setCell]; omega)
      rw [← hW5]
      clear hW5 kag fag wag
      obtain ⟨B0, hB0⟩ : ∃ B, B = btsL (curL st L acc) := ⟨_, rfl⟩
      obtain ⟨en, hen9⟩ : ∃ B, B = st.ents := ⟨_, rfl⟩
      obtain ⟨bt, hbt9⟩ : ∃ B, B = st.bts := ⟨_, rfl⟩
      have HTB5 : Hid (W5.heap[Tb]? = some (.cells #[.int .i64 (en : Nat), .int .i64 (bt : Nat), .int .i64 (lf : Nat), .map (some M), .int .i64 (B0 : Nat)] 65 (0, 0))) := Lib.hid (by rw [hB0, hen9, hbt9, HLF.out]; exact HS5.out.tb)
      have HB0 := Lib.hid hB0
      have HEB := Lib.hid (And.intro hen9 hbt9)
      clear hB0 hen9 hbt9
      by_cases hlt : a1 < lf
      · have d1 : decide ((a1 : Int) < (lf : Int)) = true := decide_eq_true (by omega)
        have d2 : (a1 : Int) < (lf : Int) := by omega
        have HKEEP := Lib.hid (curL_keep st L acc e HE.out.1 HND.out HE.out.2 (by rw [← HAG.out, ← HA1.out, ← HLF.out]; exact hlt))
        have HSA : Hid (TkS F Tb M st loc row L (e.k :: acc) (btsL (curL st L (e.k :: acc))) w W5.drew) := Lib.hid (by
          have h1 := HS5.out.drew HT.out
          rw [HKEEP.out, bts_chg ((curL_sub st L acc).nodup HND.out) (curL_has HE.out.1 HE.out.2)]; exact h1)
        have HRA : Hid (Rg M r ((curL st L (e.k :: acc)).map fun e => (e.k, loc e.k)) (e.k :: acc) cnt3 W5.drew) := Lib.hid (by
          rw [HKEEP.out, kl_keep]
          exact HRG5.out.two rfl rfl rfl (Nat.le_refl _) (W5.heap.size + r + M + 1) (by omega) (by omega) (fun _ _ _ => rfl))
        have HLA : Hid (W5.drew.rangeLeft M r < wr.rangeLeft M r) := Lib.hid (by rw [HRA.out.left_eq]; exact HLT.out)
        refine wp_region_held_drew (S := fun V => V.heap[P]? = some (.cells #[rv, .bool dn', .int .i64 (a1 : Nat)] 72 (0, 0)) ∧ V.heap[Tb]? = some (.cells #[.int .i64 (en : Nat), .int .i64 (bt : Nat), .int .i64 (lf : Nat), .map (some M), .int .i64 (B0 : Nat)] 65 (0, 0))) (by kernel_rfl) ⟨HEN5.out, HTB5.out⟩ (fun hHeld => ?_)
        refine wpAnyH_take (i := 0) (oi := { dst := some 25, op := Op.move (Operand.tmp 5), type := 69, pos := "reasm.go:138", after := #[], guard := none }) (v := ?_) rfl (by kernel_rfl) (by kernel_rfl) (by kernel_rfl) (fun _ _ _ h => h) (Or.inl ⟨by rfl, ?_⟩) (by assumption) ?_
        rotate_left 1
        · intro w hSw
          go_simp
          first | done | with_reducible rfl
        try simp only [Act.put, List.setIfInBounds_toArray, List.set_cons_zero, List.set_cons_succ]
        refine wpAnyH_take (i := 1) (oi := { dst := some 26, op := Op.nilCheck (Operand.tmp 25), type := 0, pos := "reasm.go:138", after := #[{ on := 0, ground := Ground.data }], guard := none }) (v := ?_) rfl (by kernel_rfl) (by kernel_rfl) (by kernel_rfl) (fun _ _ _ h => h) (Or.inl ⟨by rfl, ?_⟩) (by assumption) ?_
        rotate_left 1
        · intro w hSw
          go_simp
          first | done | with_reducible rfl
        try simp only [Act.put, List.setIfInBounds_toArray, List.set_cons_zero, List.set_cons_succ]
        refine wpAnyH_take (i := 2) (oi := { dst := some 27, op := Op.fieldAddr 72 (Operand.tmp 26) 2, type := 0, pos := "reasm.go:138", after := #[{ on := 1, ground := Ground.data }], guard := none }) (v := ?_) rfl (by kernel_rfl) (by kernel_rfl) (by kernel_rfl) (fun _ _ _ h => h) (Or.inl ⟨by rfl, ?_⟩) (by assumption) ?_
        rotate_left 1
        · intro w hSw
          go_simp
          first | done | with_reducible rfl
        try simp only [Act.put, List.setIfInBounds_toArray, List.set_cons_zero, List.set_cons_succ]
        refine wpAnyH_take (i := 3) (oi := { dst := some 28, op := Op.load 3 (Operand.tmp 27), type := 3, pos := "reasm.go:138", after := #[{ on := 2, ground := Ground.data }], guard := none }) (v := ?_) rfl (by kernel_rfl) (by kernel_rfl) (by kernel_rfl) (fun _ _ _ h => h) (Or.inl ⟨by rfl, ?_⟩) (by assumption) ?_
        rotate_left 1
        · intro w hSw
          have j := cellAt (i := 2) (v := .int .i64 ((a1 : Nat) : Int)) hSw.1 rfl
          go_simp
          first | done | with_reducible rfl
        try simp only [Act.put, List.setIfInBounds_toArray, List.set_cons_zero, List.set_cons_succ]
        refine wpAnyH_take (i := 4) (oi := { dst := some 29, op := Op.move (Operand.tmp 0), type := 27, pos := "reasm.go:138", after := #[], guard := none }) (v := ?_) rfl (by kernel_rfl) (by kernel_rfl) (by kernel_rfl) (fun _ _ _ h => h) (Or.inl ⟨by rfl, ?_⟩) (by assumption) ?_
        rotate_left 1
        · intro w hSw
          go_simp
          first | done | with_reducible rfl
        try simp only [Act.put, List.setIfInBounds_toArray, List.set_cons_zero, List.set_cons_succ]
        refine wpAnyH_take (i := 5) (oi := { dst := some 30, op := Op.nilCheck (Operand.tmp 29), type := 0, pos := "reasm.go:138", after := #[{ on := 4, ground := Ground.data }], guard := none }) (v := ?_) rfl (by kernel_rfl) (by kernel_rfl) (by kernel_rfl) (fun _ _ _ h => h) (Or.inl ⟨by rfl, ?_⟩) (by assumption) ?_
        rotate_left 1
        · intro w hSw
          go_simp
          first | done | with_reducible rfl
        try simp only [Act.put, List.setIfInBounds_toArray, List.set_cons_zero, List.set_cons_succ]
        refine wpAnyH_take (i := 6) (oi := { dst := some 31, op := Op.fieldAddr 65 (Operand.tmp 30) 0, type := 0, pos := "reasm.go:138", after := #[{ on := 5, ground := Ground.data }], guard := none }) (v := ?_) rfl (by kernel_rfl) (by kernel_rfl) (by kernel_rfl) (fun _ _ _ h => h) (Or.inl ⟨by rfl, ?_⟩) (by assumption) ?_
        rotate_left 1
        · intro w hSw
          go_simp
          first | done | with_reducible rfl
        try simp only [Act.put, List.setIfInBounds_toArray, List.set_cons_zero, List.set_cons_succ]
        refine wpAnyH_take (i := 7) (oi := { dst := some 32, op := Op.fieldAddr 23 (Operand.tmp 31) 2, type := 0, pos := "reasm.go:138", after := #[{ on := 6, ground := Ground.data }], guard := none }) (v := ?_) rfl (by kernel_rfl) (by kernel_rfl) (by kernel_rfl) (fun _ _ _ h => h) (Or.inl ⟨by rfl, ?_⟩) (by assumption) ?_
        rotate_left 1
        · intro w hSw
          go_simp
          first | done | with_reducible rfl
        try simp only [Act.put, List.setIfInBounds_toArray, List.set_cons_zero, List.set_cons_succ]
        refine wpAnyH_take (i := 8) (oi := { dst := some 33, op := Op.load 3 (Operand.tmp 32), type := 3, pos := "reasm.go:138", after := #[{ on := 7, ground := Ground.data }], guard := none }) (v := ?_) rfl (by kernel_rfl) (by kernel_rfl) (by kernel_rfl) (fun _ _ _ h => h) (Or.inl ⟨by rfl, ?_⟩) (by assumption) ?_
        rotate_left 1
        · intro w hSw
          have j := cellAt (i := 2) (v := .int .i64 (lf : Nat)) hSw.2 rfl
          go_simp
          first | done | with_reducible rfl
        try simp only [Act.put, List.setIfInBounds_toArray, List.set_cons_zero, List.set_cons_succ]
        refine wpAnyH_take (i := 9) (oi := { dst := some 34, op := Op.binOp BinOp.lss 3 (Operand.tmp 28) (Operand.tmp 33) 3, type := 4, pos := "reasm.go:138", after := #[{ on := 3, ground := Ground.data }, { on := 8, ground := Ground.data }], guard := none }) (v := ?_) rfl (by kernel_rfl) (by kernel_rfl) (by kernel_rfl) (fun _ _ _ h => h) (Or.inl ⟨by rfl, ?_⟩) (by assumption) ?_
        rotate_left 1
        · intro w hSw
          go_simp
          first | done | with_reducible rfl
        try simp only [Act.put, List.setIfInBounds_toArray, List.set_cons_zero, List.set_cons_succ]
        refine wpAnyH_done (by kernel_rfl) ?_ _
        simp only [Exit.then]
        clear hHeld
        go_wp2_with (fail)
        exact ⟨⟨e.k :: acc, cnt3, z, rfl, Lib.hid (by rw [HKEEP.out, chg_len]; exact hzz.out), HRA, HSA, HZ5⟩, HLA.out⟩
      · have d1 : decide ((a1 : Int) < (lf : Int)) = false := decide_eq_false (by omega)
        have d2 : ¬ (a1 : Int) < (lf : Int) := by omega
        have HDL : Hid ((curL st L acc).length = (curL st L (e.k :: acc)).length + 1) := Lib.hid (curL_one st L acc e HE.out.1 HND.out HE.out.2 (by rw [← HAG.out, ← HA1.out, ← HLF.out]; exact hlt))
        have HDROP := Lib.hid (curL_drop st L acc e HE.out.1 HND.out HE.out.2 (by rw [← HAG.out, ← HA1.out, ← HLF.out]; exact hlt))
        refine wp_region_held_drew (S := fun V => V.heap[P]? = some (.cells #[rv, .bool dn', .int .i64 (a1 : Nat)] 72 (0, 0)) ∧ V.heap[Tb]? = some (.cells #[.int .i64 (en : Nat), .int .i64 (bt : Nat), .int .i64 (lf : Nat), .map (some M), .int .i64 (B0 : Nat)] 65 (0, 0))) (by kernel_rfl) ⟨HEN5.out, HTB5.out⟩ (fun hHeld => ?_)
        refine wpAnyH_take (i := 0) (oi := { dst := some 25, op := Op.move (Operand.tmp 5), type := 69, pos := "reasm.go:138", after := #[], guard := none }) (v := ?_) rfl (by kernel_rfl) (by kernel_rfl) (by kernel_rfl) (fun _ _ _ h => h) (Or.inl ⟨by rfl, ?_⟩) (by assumption) ?_
        rotate_left 1
        · intro w hSw
          go_simp
          first | done | with_reducible rfl
        try simp only [Act.put, List.setIfInBounds_toArray, List.set_cons_zero, List.set_cons_succ]
        refine wpAnyH_take (i := 1) (oi := { dst := some 26, op := Op.nilCheck (Operand.tmp 25), type := 0, pos := "reasm.go:138", after := #[{ on := 0, ground := Ground.data }], guard := none }) (v := ?_) rfl (by kernel_rfl) (by kernel_rfl) (by kernel_rfl) (fun _ _ _ h => h) (Or.inl ⟨by rfl, ?_⟩) (by assumption) ?_
        rotate_left 1
        · intro w hSw
          go_simp
          first | done | with_reducible rfl
        try simp only [Act.put, List.setIfInBounds_toArray, List.set_cons_zero, List.set_cons_succ]
        refine wpAnyH_take (i := 2) (oi := { dst := some 27, op := Op.fieldAddr 72 (Operand.tmp 26) 2, type := 0, pos := "reasm.go:138", after := #[{ on := 1, ground := Ground.data }], guard := none }) (v := ?_) rfl (by kernel_rfl) (by kernel_rfl) (by kernel_rfl) (fun _ _ _ h => h) (Or.inl ⟨by rfl, ?_⟩) (by assumption) ?_
        rotate_left 1
        · intro w hSw
          go_simp
          first | done | with_reducible rfl
        try simp only [Act.put, List.setIfInBounds_toArray, List.set_cons_zero, List.set_cons_succ]
        refine wpAnyH_take (i := 3) (oi := { dst := some 28, op := Op.load 3 (Operand.tmp 27), type := 3, pos := "reasm.go:138", after := #[{ on := 2, ground := Ground.data }], guard := none }) (v := ?_) rfl (by kernel_rfl) (by kernel_rfl) (by kernel_rfl) (fun _ _ _ h => h) (Or.inl ⟨by rfl, ?_⟩) (by assumption) ?_
        rotate_left 1
        · intro w hSw
          have j := cellAt (i := 2) (v := .int .i64 ((a1 : Nat) : Int)) hSw.1 rfl
          go_simp
          first | done | with_reducible rfl
        try simp only [Act.put, List.setIfInBounds_toArray, List.set_cons_zero, List.set_cons_succ]
        refine wpAnyH_take (i := 4) (oi := { dst := some 29, op := Op.move (Operand.tmp 0), type := 27, pos := "reasm.go:138", after := #[], guard := none }) (v := ?_) rfl (by kernel_rfl) (by kernel_rfl) (by kernel_rfl) (fun _ _ _ h => h) (Or.inl ⟨by rfl, ?_⟩) (by assumption) ?_
        rotate_left 1
        · intro w hSw
          go_simp
          first | done | with_reducible rfl
        try simp only [Act.put, List.setIfInBounds_toArray, List.set_cons_zero, List.set_cons_succ]
        refine wpAnyH_take (i := 5) (oi := { dst := some 30, op := Op.nilCheck (Operand.tmp 29), type := 0, pos := "reasm.go:138", after := #[{ on := 4, ground := Ground.data }], guard := none }) (v := ?_) rfl (by kernel_rfl) (by kernel_rfl) (by kernel_rfl) (fun _ _ _ h => h) (Or.inl ⟨by rfl, ?_⟩) (by assumption) ?_
        rotate_left 1
        · intro w hSw
          go_simp
          first | done | with_reducible rfl
        try simp only [Act.put, List.setIfInBounds_toArray, List.set_cons_zero, List.set_cons_succ]
        refine wpAnyH_take (i := 6) (oi := { dst := some 31, op := Op.fieldAddr 65 (Operand.tmp 30) 0, type := 0, pos := "reasm.go:138", after := #[{ on := 5, ground := Ground.data }], guard := none }) (v := ?_) rfl (by kernel_rfl) (by kernel_rfl) (by kernel_rfl) (fun _ _ _ h => h) (Or.inl ⟨by rfl, ?_⟩) (by assumption) ?_
        rotate_left 1
        · intro w hSw
          go_simp
          first | done | with_reducible rfl
        try simp only [Act.put, List.setIfInBounds_toArray, List.set_cons_zero, List.set_cons_succ]
        refine wpAnyH_take (i := 7) (oi := { dst := some 32, op := Op.fieldAddr 23 (Operand.tmp 31) 2, type := 0, pos := "reasm.go:138", after := #[{ on := 6, ground := Ground.data }], guard := none }) (v := ?_) rfl (by kernel_rfl) (by kernel_rfl) (by kernel_rfl) (fun _ _ _ h => h) (Or.inl ⟨by rfl, ?_⟩) (by assumption) ?_
        rotate_left 1
        · intro w hSw
          go_simp
          first | done | with_reducible rfl
        try simp only [Act.put, List.setIfInBounds_toArray, List.set_cons_zero, List.set_cons_succ]
        refine wpAnyH_take (i := 8) (oi := { dst := some 33, op := Op.load 3 (Operand.tmp 32), type := 3, pos := "reasm.go:138", after := #[{ on := 7, ground := Ground.data }], guard := none }) (v := ?_) rfl (by kernel_rfl) (by kernel_rfl) (by kernel_rfl) (fun _ _ _ h => h) (Or.inl ⟨by rfl, ?_⟩) (by assumption) ?_
        rotate_left 1
        · intro w hSw
          have j := cellAt (i := 2) (v := .int .i64 (lf : Nat)) hSw.2 rfl
          go_simp
          first | done | with_reducible rfl
        try simp only [Act.put, List.setIfInBounds_toArray, List.set_cons_zero, List.set_cons_succ]
        refine wpAnyH_take (i := 9) (oi := { dst := some 34, op := Op.binOp BinOp.lss 3 (Operand.tmp 28) (Operand.tmp 33) 3, type := 4, pos := "reasm.go:138", after := #[{ on := 3, ground := Ground.data }, { on := 8, ground := Ground.data }], guard := none }) (v := ?_) rfl (by kernel_rfl) (by kernel_rfl) (by kernel_rfl) (fun _ _ _ h => h) (Or.inl ⟨by rfl, ?_⟩) (by assumption) ?_
        rotate_left 1
        · intro w hSw
          go_simp
          first | done | with_reducible rfl
        try simp only [Act.put, List.setIfInBounds_toArray, List.set_cons_zero, List.set_cons_succ]
        refine wpAnyH_done (by kernel_rfl) ?_ _
        simp only [Exit.then]
        clear hHeld
        go_upto_region 7 with (fail)
        obtain ⟨n, hn⟩ : ∃ n, n = e.ps.length := ⟨_, rfl⟩
        have HN := Lib.hid hn
        have hn9 : n ≤ 1000000 := by rw [hn]; exact HPS.out e HE.out.1
        have HROW : Hid (PRow 0 rv e.ps w) := Lib.hid (by rw [HRV.out]; exact HT.out.bd.rows e HE.out.1)
        obtain ⟨g, cap, hv⟩ : ∃ g cap, (rv = .slice g n cap ∧ (n = 0 ∨ ∃ k, g = some ⟨k, 0, none⟩)) := by
          rcases HROW.out.2 with ⟨h1, h2⟩ | ⟨g, cap, cur, h1, _⟩
          · exact ⟨none, 0, by rw [hn, h2]; exact h1, .inl (by omega)⟩
          · exact ⟨_, cap, by rw [hn]; exact h1, .inr ⟨g, rfl⟩⟩
        obtain ⟨rfl, hg⟩ := hv
        obtain ⟨V5, hV5⟩ : ∃ V, V = W5.drew := ⟨_, rfl⟩
        have HS6 : Hid (TkS F Tb M st loc row L (e.k :: acc) (B0 - lenP (e.ps.take 0)) w V5) := Lib.hid (by
          rw [hV5, HB0.out]; exact HS5.out.drew HT.out)
        have HRG6 : Hid (Rg M r ((curL st L acc).map fun e => (e.k, loc e.k)) (e.k :: acc) cnt3 V5) := Lib.hid (by
          rw [hV5]; exact HRG5.out.two rfl rfl rfl (Nat.le_refl _) (W5.heap.size + r + M + 1) (by omega) (by omega) (fun _ _ _ => rfl))
        have HK6 : Hid (V5.heap[K4]? = some (.cells #[.string s1, .string s2, .int .i64 n1, .int .i64 n2] 68 (0, 0)) ∧ r + 1 ≤ V5.heap.size) := Lib.hid (by rw [hV5]; exact ⟨HK5.out, HZ5.out⟩)
        have kp0 := cellAt (w := V5) (i := 0) (v := .slice g n cap) (by rw [hV5]; exact HEN5.out) rfl
        have HKW : Hid (w.heap.size ≤ K4) := Lib.hid HK4.out.2.2
        have HBL : Hid (lenP e.ps ≤ B0) := Lib.hid (by have := HDROP.out.2; rw [HB0.out]; omega)
        have hB9 : B0 ≤ 1000000000 := by
          have h1 := HB0.out
          have h2 : btsL (curL st L acc) ≤ btsL L := bts_cur st L acc
          have h3 := HBT.out
          omega
        rw [← hV5]
        clear hV5 hn d1 d2 hlt
        go_wp2_with (fail)
        go_loopw [40] (fun i V => ∃ j : Nat, j ≤ n ∧ i = .int .i64 (j : Int) ∧ Hid (TkS F Tb M st loc row L (e.k :: acc) (B0 - lenP (e.ps.take j)) w V) ∧ Hid (Rg M r ((curL st L acc).map fun e => (e.k, loc e.k)) (e.k :: acc) cnt3 V) ∧ Hid (V.heap[K4]? = some (.cells #[.string s1, .string s2, .int .i64 n1, .int .i64 n2] 68 (0, 0)) ∧ r + 1 ≤ V.heap.size)) (fun i _ => n - (intOf i).toNat)
        case atStart => exact ⟨0, by omega, rfl, HS6, HRG6, HK6⟩
        case round =>
          obtain ⟨j, hj, rfl, hsj, hrj, hkj⟩ := hrel
          by_cases hlt : j < n
          · obtain ⟨G, rfl⟩ : ∃ k, g = some ⟨k, 0, none⟩ := by
              rcases hg with h | h
              · omega
              · exact h
            have hjl : j < e.ps.length := by have := HN.out; omega
            have hG : wr.heap[G]? = w.heap[G]? := hsj.out.rows e HE.out.1 G (by rw [← HRV.out]; rfl)
            have cl : ∀ i x, (pcells e.ps[j])[i]? = some x → i < 12 → wr.cell? ⟨G, j * 12 + i, none⟩ = some x := fun i x hx hi => by
              have h1 := World.ownsRow.cells HROW.out rfl (j * 12 + i) x (by rw [prow_at e.ps j i hjl hi]; exact hx)
              have h2 : (⟨G, 0, none⟩ : Addr).add (j * 12 + i) = ⟨G, j * 12 + i, none⟩ := by unfold Addr.add; split <;> simp_all
              rw [h2] at h1
              unfold World.cell? at h1 ⊢
              rw [hG]; exact h1
            have hlen1 : lenP (e.ps.take (j + 1)) = lenP (e.ps.take j) + (e.ps[j]).s.length := by
              unfold lenP
              rw [List.take_succ_eq_append_getElem hjl, List.map_append, List.sum_append]; simp
            have hlen2 : lenP (e.ps.take (j + 1)) ≤ lenP e.ps := by
              unfold lenP
              have h1 := List.take_append_drop (j + 1) e.ps
              have h2 : (e.ps.map fun p => p.s.length).sum = ((e.ps.take (j + 1)).map fun p => p.s.length).sum + ((e.ps.drop (j + 1)).map fun p => p.s.length).sum := by
                rw [← List.sum_append, ← List.map_append, h1]
              omega
            obtain ⟨q, hqe⟩ : ∃ q, q = e.ps[j] := ⟨_, rfl⟩
            rw [← hqe] at cl hlen1
            clear hqe
            obtain ⟨⟨b0, b1, b2, b3, b4, b5, b6, b7, b8, b9⟩, sb⟩ := q
            unfold pcells at cl
            simp only at cl hlen1
            obtain ⟨fb, hfb⟩ : ∃ x, x = 8 * b2 := ⟨_, rfl⟩
            obtain ⟨X, hX⟩ : ∃ x, x = bs sb := ⟨_, rfl⟩
            rw [← hfb, ← hX] at cl
            have hXs : X.size = sb.length := by rw [hX, bs_size]
            obtain ⟨m, hm⟩ : ∃ m, m = X.size := ⟨_, rfl⟩
            have hmi : (X.size : Int) = (m : Int) := by omega
            have l0 := cl 0 (.int .i64 b0) rfl (by decide)
            have l1 := cl 1 (.int .i64 b1) rfl (by decide)
            have l2 := cl 2 (.int .i64 b2) rfl (by decide)
            have l3 := cl 3 (.int .i64 b3) rfl (by decide)
            have l4 := cl 4 (.int .i64 b4) rfl (by decide)
            have l5 := cl 5 (.bool b5) rfl (by decide)
            have l6 := cl 6 (.bool b6) rfl (by decide)
            have l7 := cl 7 (.string (bs b7)) rfl (by decide)
            have l8 := cl 8 (.string (bs b8)) rfl (by decide)
            have l9 := cl 9 (.string (bs b9)) rfl (by decide)
            have l10 := cl 10 (.int .i64 fb) rfl (by decide)
            have l11 := cl 11 (.string X) rfl (by decide)
            obtain ⟨Bj, hBj⟩ : ∃ B, B = B0 - lenP (e.ps.take j) := ⟨_, rfl⟩
            obtain ⟨Bn, hBn⟩ : ∃ B, B = B0 - lenP (e.ps.take (j + 1)) := ⟨_, rfl⟩
            have hbl := HBL.out
            have hBjn : (Bj : Int) - (m : Int) = (Bn : Int) := by omega
            have hBw : IntKind.i64.wrap (Bn : Int) = (Bn : Int) := IntWalk.i64_in _ (by omega)
            have HBJ := Lib.hid hBj
            have HBN := Lib.hid hBn
            obtain ⟨Q, hQ⟩ : ∃ Q, Q = wr.heap.size := ⟨_, rfl⟩
            obtain ⟨V7, hV7⟩ : ∃ V, V = wr.alloc (.cells #[.int .i64 b0, .int .i64 b1, .int .i64 b2, .int .i64 b3, .int .i64 b4, .bool b5, .bool b6, .string (bs b7), .string (bs b8), .string (bs b9), .int .i64 fb, .string X] 74) := ⟨_, rfl⟩
            have HTW : Hid (Tb < w.heap.size) := Lib.hid (heap_lt HT.out.tb)
            have HQ : Hid (V7.heap[Q]? = some (.cells #[.int .i64 b0, .int .i64 b1, .int .i64 b2, .int .i64 b3, .int .i64 b4, .bool b5, .bool b6, .string (bs b7), .string (bs b8), .string (bs b9), .int .i64 fb, .string X] 74 (0, 0)) ∧ Q ≠ Tb) := Lib.hid (by
              rw [hV7, hQ]; exact ⟨alloc_new _ _, by have := HTW.out; have := hsj.out.kp.size; omega⟩)
            have HS7 : Hid (TkS F Tb M st loc row L (e.k :: acc) Bj w V7) := Lib.hid (by
              rw [hV7, HBJ.out]; exact hsj.out.below HT.out hsj.out.kp.size ((Below.refl _ _).alloc (Nat.le_refl _) _))
            have HSN : Hid (TkS F Tb M st loc row L (e.k :: acc) (B0 - lenP (e.ps.take (j + 1))) w (V7.setCell ⟨Tb, 4, none⟩ (.int .i64 (Bn : Nat))).drew) := Lib.hid (by
              rw [← HBN.out]; exact (HS7.out.bytes HT.out Bn).drew HT.out)
            have HRN : Hid (Rg M r ((curL st L acc).map fun e => (e.k, loc e.k)) (e.k :: acc) cnt3 (V7.setCell ⟨Tb, 4, none⟩ (.int .i64 (Bn : Nat))).drew) := Lib.hid (by
              have hb7 : Below wr.heap.size wr V7 := by rw [hV7]; exact (Below.refl _ _).alloc (Nat.le_refl _) _
              refine hrj.out.two (P := Tb) hb7.os hb7.tape hb7.output (by simpa [World.setCell] using hb7.size) (fun h => HT.out.ne h.symm) (by have := HTW.out; have := HR.out; omega) (fun b hb hne => ?_)
              show (V7.setCell ⟨Tb, 4, none⟩ (.int .i64 (Bn : Nat))).heap[b]? = _
              rw [Below.heap_setCell _ _ _ _ hne]
              exact hb7.block b hb)
            have HKN : Hid ((V7.setCell ⟨Tb, 4, none⟩ (.int .i64 (Bn : Nat))).drew.heap[K4]? = some (.cells #[.string s1, .string s2, .int .i64 n1, .int .i64 n2] 68 (0, 0)) ∧ r + 1 ≤ (V7.setCell ⟨Tb, 4, none⟩ (.int .i64 (Bn : Nat))).drew.heap.size) := Lib.hid (by
              have hb7 : Below wr.heap.size wr V7 := by rw [hV7]; exact (Below.refl _ _).alloc (Nat.le_refl _) _
              constructor
              · show (V7.setCell ⟨Tb, 4, none⟩ (.int .i64 (Bn : Nat))).heap[K4]? = _
                rw [Below.heap_setCell _ _ _ _ (by have := HTW.out; have := HKW.out; show K4 ≠ Tb; omega)]
                exact (hb7.block _ (heap_lt hkj.out.1)).trans hkj.out.1
              · have h1 := hb7.size; have h2 := hkj.out.2; show r + 1 ≤ (V7.setCell ⟨Tb, 4, none⟩ (.int .i64 (Bn : Nat))).heap.size; simp [World.setCell]; omega)
            have l0z : wr.cell? ⟨G, j * 12, none⟩ = some (.int .i64 b0) := l0
            have HQN : Hid ((V7.setCell ⟨Tb, 4, none⟩ (.int .i64 (Bn : Nat))).drew.heap[Q]? = some (.cells #[.int .i64 b0, .int .i64 b1, .int .i64 b2, .int .i64 b3, .int .i64 b4, .bool b5, .bool b6, .string (bs b7), .string (bs b8), .string (bs b9), .int .i64 fb, .string X] 74 (0, 0))) := Lib.hid (by
              show (V7.setCell ⟨Tb, 4, none⟩ (.int .i64 (Bn : Nat))).heap[Q]? = _
              rw [Below.heap_setCell _ _ _ _ HQ.out.2]; exact HQ.out.1)
            clear hlen1 hlen2 hBj hBn hX hfb cl hG hjl hm hXs hbl
            go_upto_region 10 with (fail)
            rw [← hV7, ← hQ]
            clear hV7 hQ
            have kt := cellAt (i := 4) (v := .int .i64 (Bj : Nat)) HS7.out.tb rfl
            have ft := Lib.frozen_of_heap HS7.out.tb 4
            refine wp_region_held_drew (S := fun V => V.heap[Q]? = some (.cells #[.int .i64 b0, .int .i64 b1, .int .i64 b2, .int .i64 b3, .int .i64 b4, .bool b5, .bool b6, .string (bs b7), .string (bs b8), .string (bs b9), .int .i64 fb, .string X] 74 (0, 0))) (by kernel_rfl) HQ.out.1 (fun hHeld => ?_)
            refine wpAnyH_take (i := 0) (oi := { dst := some 44, op := Op.move (Operand.tmp 0), type := 27, pos := "reasm.go:142", after := #[], guard := none }) (v := ?_) rfl (by kernel_rfl) (by kernel_rfl) (by kernel_rfl) (fun _ _ _ h => h) (Or.inl ⟨by rfl, ?_⟩) (by assumption) ?_
            rotate_left 1
            · intro w hSw
              go_simp
              first | done | with_reducible rfl
            try simp only [Act.put, List.setIfInBounds_toArray, List.set_cons_zero, List.set_cons_succ]
            refine wpAnyH_take (i := 1) (oi := { dst := some 45, op := Op.nilCheck (Operand.tmp 44), type := 0, pos := "reasm.go:142", after := #[{ on := 0, ground := Ground.data }], guard := none }) (v := ?_) rfl (by kernel_rfl) (by kernel_rfl) (by kernel_rfl) (fun _ _ _ h => h) (Or.inl ⟨by rfl, ?_⟩) (by assumption) ?_
            rotate_left 1
            · intro w hSw
              go_simp
              first | done | with_reducible rfl
            try simp only [Act.put, List.setIfInBounds_toArray, List.set_cons_zero, List.set_cons_succ]
            refine wpAnyH_take (i := 2) (oi := { dst := some 46, op := Op.fieldAddr 65 (Operand.tmp 45) 2, type := 0, pos := "reasm.go:142", after := #[{ on := 1, ground := Ground.data }], guard := none }) (v := ?_) rfl (by kernel_rfl) (by kernel_rfl) (by kernel_rfl) (fun _ _ _ h => h) (Or.inl ⟨by rfl, ?_⟩) (by assumption) ?_
            rotate_left 1
            · intro w hSw
              go_simp
              first | done | with_reducible rfl
            try simp only [Act.put, List.setIfInBounds_toArray, List.set_cons_zero, List.set_cons_succ]
            refine wpAnyH_take (i := 4) (oi := { dst := some 48, op := Op.fieldAddr 74 (Operand.tmp 7) 2, type := 0, pos := "reasm.go:142", after := #[], guard := none }) (v := ?_) rfl (by kernel_rfl) (by kernel_rfl) (by kernel_rfl) (fun _ _ _ h => h) (Or.inl ⟨by rfl, ?_⟩) (by assumption) ?_
            rotate_left 1
            · intro w hSw
              go_simp
              first | done | with_reducible rfl
            try simp only [Act.put, List.setIfInBounds_toArray, List.set_cons_zero, List.set_cons_succ]
            refine wpAnyH_take (i := 5) (oi := { dst := some 49, op := Op.load 9 (Operand.tmp 48), type := 9, pos := "reasm.go:142", after := #[{ on := 4, ground := Ground.data }], guard := none }) (v := ?_) rfl (by kernel_rfl) (by kernel_rfl) (by kernel_rfl) (fun _ _ _ h => h) (Or.inl ⟨by rfl, ?_⟩) (by assumption) ?_
            rotate_left 1
            · intro w hSw
              have j := cellAt (i := 11) (v := .string X) hSw rfl
              go_simp
              first | done | with_reducible rfl
            try simp only [Act.put, List.setIfInBounds_toArray, List.set_cons_zero, List.set_cons_succ]
            refine wpAnyH_take (i := 6) (oi := { dst := some 50, op := Op.call { callee := Callee.builtin Builtin.len, args := #[Operand.tmp 49], argTypes := #[9] }, type := 3, pos := "reasm.go:142", after := #[{ on := 5, ground := Ground.data }], guard := none }) (v := ?_) rfl (by kernel_rfl) (by kernel_rfl) (by kernel_rfl) (fun _ _ _ h => h) (Or.inl ⟨by rfl, ?_⟩) (by assumption) ?_
            rotate_left 1
            · intro w hSw
              go_simp
              first | done | with_reducible rfl
            try simp only [Act.put, List.setIfInBounds_toArray, List.set_cons_zero, List.set_cons_succ]
            refine wpAnyH_ready (rs := [3]) (by kernel_rfl) (by simp) ?_
            refine AllReadyH.cons (o := { dst := some 47, op := Op.load 3 (Operand.tmp 46), type := 3, pos := "reasm.go:142", after := #[{ on := 2, ground := Ground.data }], guard := none }) rfl (fun K hK => ?_) AllReadyH.nil
            go_simp
            refine hK.out _ _ hHeld (fun hHeld => ?_)
            clear hK K
            try simp only [Act.put, List.setIfInBounds_toArray, List.set_cons_zero, List.set_cons_succ]
            refine wpAnyH_take (i := 7) (oi := { dst := some 51, op := Op.binOp BinOp.sub 3 (Operand.tmp 47) (Operand.tmp 50) 3, type := 3, pos := "reasm.go:142", after := #[{ on := 3, ground := Ground.data }, { on := 6, ground := Ground.data }], guard := none }) (v := ?_) rfl (by kernel_rfl) (by kernel_rfl) (by kernel_rfl) (fun _ _ _ h => h) (Or.inl ⟨by rfl, ?_⟩) (by assumption) ?_
            rotate_left 1
            · intro w hSw
              go_simp
              first | done | with_reducible rfl
            try simp only [Act.put, List.setIfInBounds_toArray, List.set_cons_zero, List.set_cons_succ]
            refine wpAnyH_take (i := 8) (oi := { dst := some 52, op := Op.nilCheck (Operand.tmp 44), type := 0, pos := "reasm.go:142", after := #[{ on := 0, ground := Ground.data }, { on := 0, ground := Ground.phase }, { on := 1, ground := Ground.phase }, { on := 2, ground := Ground.phase }, { on := 3, ground := Ground.phase }, { on := 4, ground := Ground.phase }, { on := 5, ground := Ground.phase }, { on := 6, ground := Ground.phase }, { on := 7, ground := Ground.phase }], guard := none }) (v := ?_) rfl (by kernel_rfl) (by kernel_rfl) (by kernel_rfl) (fun _ _ _ h => h) (Or.inl ⟨by rfl, ?_⟩) (by assumption) ?_
            rotate_left 1
            · intro w hSw
              go_simp
              first | done | with_reducible rfl
            try simp only [Act.put, List.setIfInBounds_toArray, List.set_cons_zero, List.set_cons_succ]
            refine wpAnyH_take (i := 9) (oi := { dst := some 53, op := Op.fieldAddr 65 (Operand.tmp 52) 2, type := 0, pos := "reasm.go:142", after := #[{ on := 8, ground := Ground.data }, { on := 0, ground := Ground.phase }, { on := 1, ground := Ground.phase }, { on := 2, ground := Ground.phase }, { on := 3, ground := Ground.phase }, { on := 4, ground := Ground.phase }, { on := 5, ground := Ground.phase }, { on := 6, ground := Ground.phase }, { on := 7, ground := Ground.phase }], guard := none }) (v := ?_) rfl (by kernel_rfl) (by kernel_rfl) (by kernel_rfl) (fun _ _ _ h => h) (Or.inl ⟨by rfl, ?_⟩) (by assumption) ?_
            rotate_left 1
            · intro w hSw
              go_simp
              first | done | with_reducible rfl
            try simp only [Act.put, List.setIfInBounds_toArray, List.set_cons_zero, List.set_cons_succ]
            refine wpAnyH_ready (rs := [10]) (by kernel_rfl) (by simp) ?_
            refine AllReadyH.cons (o := { dst := none, op := Op.store 3 (Operand.tmp 53) (Operand.tmp 51), type := 0, pos := "reasm.go:142", after := #[{ on := 9, ground := Ground.data }, { on := 7, ground := Ground.data }, { on := 0, ground := Ground.phase }, { on := 1, ground := Ground.phase }, { on := 2, ground := Ground.phase }, { on := 3, ground := Ground.phase }, { on := 4, ground := Ground.phase }, { on := 5, ground := Ground.phase }, { on := 6, ground := Ground.phase }, { on := 7, ground := Ground.phase }], guard := none }) rfl (fun K hK => ?_) AllReadyH.nil
            go_simp
            refine hK.out _ _ HQN.out (fun hHeld => ?_)
            clear hK K
            try simp only [Act.put, List.setIfInBounds_toArray, List.set_cons_zero, List.set_cons_succ]
            refine wpAnyH_done (by kernel_rfl) ?_ _
            try simp only [Exit.then]
            clear hHeld
            go_wp2_with (fail)
            exact ⟨⟨j + 1, by omega, by go_num, HSN, HRN, HKN⟩, by simp [intOf] <;> omega⟩
          · obtain rfl : j = n := by omega
            obtain ⟨Bn, hBn⟩ : ∃ B, B = B0 - lenP (e.ps.take j) := ⟨_, rfl⟩
            have hall : e.ps.take j = e.ps := List.take_of_length_le (by have := HN.out; omega)
            have HBC : Hid (Bn = btsL (curL st L (e.k :: acc))) := Lib.hid (by
              rw [hBn, hall, HB0.out]
              have := HDROP.out.2
              omega)
            have HSE : Hid (TkS F Tb M st loc row L (e.k :: acc) Bn w wr.drew) := Lib.hid (by rw [hBn]; exact hsj.out.drew HT.out)
            have HRE : Hid (Rg M r ((curL st L acc).map fun e => (e.k, loc e.k)) (e.k :: acc) cnt3 wr.drew) := Lib.hid (hrj.out.two rfl rfl rfl (Nat.le_refl _) (wr.heap.size + r + M + 1) (by omega) (by omega) (fun _ _ _ => rfl))
            have hkin : e.k ∈ ks ((curL st L acc).map fun e => (e.k, loc e.k)) := ks_mem.2 ⟨(e.k, loc e.k), List.mem_map.2 ⟨e, curL_has HE.out.1 HE.out.2, rfl⟩, rfl⟩
            obtain ⟨VD, cntD, hdel, hrgD, hcD, hturn⟩ := HRE.out.drop e.k hkin (List.mem_cons_self ..) 0
            rw [HKV.out] at hdel
            have HMW : Hid (M < w.heap.size) := Lib.hid HT.out.pm.lt
            have HTB9 : Hid (wr.drew.heap[Tb]? = some (.cells #[.int .i64 (en : Nat), .int .i64 (bt : Nat), .int .i64 (lf : Nat), .map (some M), .int .i64 (Bn : Nat)] 65 (0, 0))) := Lib.hid (by rw [HEB.out.1, HEB.out.2, HLF.out]; exact HSE.out.tb)
            have HK9 : Hid (wr.drew.heap[K4]? = some (.cells #[.string s1, .string s2, .int .i64 n1, .int .i64 n2] 68 (0, 0))) := Lib.hid hkj.out.1
            have HTD : Hid (VD.heap[Tb]? = some (.cells #[.int .i64 (en : Nat), .int .i64 (bt : Nat), .int .i64 (lf : Nat), .map (some M), .int .i64 (Bn : Nat)] 65 (0, 0)) ∧ VD.heap[K4]? = some (.cells #[.string s1, .string s2, .int .i64 n1, .int .i64 n2] 68 (0, 0))) := Lib.hid
              ⟨(hturn.grown.block _ (heap_lt HTB9.out) (fun h => HT.out.ne (by injection h))).trans HTB9.out, (hturn.grown.block _ (heap_lt HK9.out) (fun h => by injection h with h; have h1 := HMW.out; have h2 := HKW.out; omega)).trans HK9.out⟩
            have HSF : Hid (TkS F Tb M st loc row L (e.k :: acc) (btsL (curL st L (e.k :: acc))) w VD) := Lib.hid (by
              rw [← HBC.out]; exact HSE.out.grown HT.out hturn.grown (fun b h => by injection h with h; exact .inr h.symm))
            have HRF : Hid (Rg M r ((curL st L (e.k :: acc)).map fun e => (e.k, loc e.k)) (e.k :: acc) cntD VD) := Lib.hid (by rw [HDROP.out.1, kl_drop]; exact hrgD)
            have HZF : Hid (r + 1 ≤ VD.heap.size) := Lib.hid (Nat.le_trans hkj.out.2 hturn.grown.size)
            have HLF2 := Lib.hid (show VD.rangeLeft M r < _ by rw [HRF.out.left_eq]; exact Nat.lt_of_le_of_lt hcD HLT.out)
            have HDEL := Lib.hid hdel
            clear hdel hrgD hcD hturn hkin hall hBn
            go_upto_region 12 with (fail)
            refine wp_region_held_drew (S := fun V => V.heap[Tb]? = some (.cells #[.int .i64 (en : Nat), .int .i64 (bt : Nat), .int .i64 (lf : Nat), .map (some M), .int .i64 (Bn : Nat)] 65 (0, 0)) ∧ V.heap[K4]? = some (.cells #[.string s1, .string s2, .int .i64 n1, .int .i64 n2] 68 (0, 0))) (by kernel_rfl) ⟨HTB9.out, HK9.out⟩ (fun hHeld => ?_)
            refine wpAnyH_take (i := 0) (oi := { dst := some 55, op := Op.move (Operand.tmp 0), type := 27, pos := "reasm.go:144", after := #[], guard := none }) (v := ?_) rfl (by kernel_rfl) (by kernel_rfl) (by kernel_rfl) (fun _ _ _ h => h) (Or.inl ⟨by rfl, ?_⟩) (by assumption) ?_
            rotate_left 1
            · intro w hSw
              go_simp
              first | done | with_reducible rfl
            try simp only [Act.put, List.setIfInBounds_toArray, List.set_cons_zero, List.set_cons_succ]
            refine wpAnyH_take (i := 1) (oi := { dst := some 56, op := Op.nilCheck (Operand.tmp 55), type := 0, pos := "reasm.go:144", after := #[{ on := 0, ground := Ground.data }], guard := none }) (v := ?_) rfl (by kernel_rfl) (by kernel_rfl) (by kernel_rfl) (fun _ _ _ h => h) (Or.inl ⟨by rfl, ?_⟩) (by assumption) ?_
            rotate_left 1
            · intro w hSw
              go_simp
              first | done | with_reducible rfl
            try simp only [Act.put, List.setIfInBounds_toArray, List.set_cons_zero, List.set_cons_succ]
            refine wpAnyH_take (i := 2) (oi := { dst := some 57, op := Op.fieldAddr 65 (Operand.tmp 56) 1, type := 0, pos := "reasm.go:144", after := #[{ on := 1, ground := Ground.data }], guard := none }) (v := ?_) rfl (by kernel_rfl) (by kernel_rfl) (by kernel_rfl) (fun _ _ _ h => h) (Or.inl ⟨by rfl, ?_⟩) (by assumption) ?_
            rotate_left 1
            · intro w hSw
              go_simp
              first | done | with_reducible rfl
            try simp only [Act.put, List.setIfInBounds_toArray, List.set_cons_zero, List.set_cons_succ]
            refine wpAnyH_take (i := 3) (oi := { dst := some 58, op := Op.load 63 (Operand.tmp 57), type := 63, pos := "reasm.go:144", after := #[{ on := 2, ground := Ground.data }], guard := none }) (v := ?_) rfl (by kernel_rfl) (by kernel_rfl) (by kernel_rfl) (fun _ _ _ h => h) (Or.inl ⟨by rfl, ?_⟩) (by assumption) ?_
            rotate_left 1
            · intro w hSw
              have j := cellAt (i := 3) (v := .map (some M)) hSw.1 rfl
              go_simp
              first | done | with_reducible rfl
            try simp only [Act.put, List.setIfInBounds_toArray, List.set_cons_zero, List.set_cons_succ]
            refine wpAnyH_take (i := 4) (oi := { dst := some 59, op := Op.load 68 (Operand.tmp 4), type := 68, pos := "reasm.go:144", after := #[], guard := none }) (v := ?_) rfl (by kernel_rfl) (by kernel_rfl) (by kernel_rfl) (fun _ _ _ h => h) (Or.inl ⟨by rfl, ?_⟩) (by assumption) ?_
            rotate_left 1
            · intro w hSw
              have j0 := cellAt (i := 0) (v := .string s1) hSw.2 rfl
              have j1 := cellAt (i := 1) (v := .string s2) hSw.2 rfl
              have j2 := cellAt (i := 2) (v := .int .i64 n1) hSw.2 rfl
              have j3 := cellAt (i := 3) (v := .int .i64 n2) hSw.2 rfl
              go_simp
              first | done | with_reducible rfl
            try simp only [Act.put, List.setIfInBounds_toArray, List.set_cons_zero, List.set_cons_succ]
            refine wpAnyH_ready (rs := [5]) (by kernel_rfl) (by simp) ?_
            refine AllReadyH.cons (o := { dst := none, op := Op.call { callee := Callee.builtin Builtin.delete, args := #[Operand.tmp 58, Operand.tmp 59], argTypes := #[63, 68] }, type := 0, pos := "reasm.go:144", after := #[{ on := 3, ground := Ground.data }, { on := 4, ground := Ground.data }], guard := none }) rfl (fun K hK => ?_) AllReadyH.nil
            refine step_delete_v (.tmp 58) (.tmp 59) 63 68 _ _ rfl rfl rfl rfl ⟨_, VD, HDEL.out, ?_⟩
            refine hK.out _ _ HTD.out (fun hHeld => ?_)
            clear hK K
            try simp only [Act.put, List.setIfInBounds_toArray, List.set_cons_zero, List.set_cons_succ]
            refine wpAnyH_done (by kernel_rfl) ?_ _
            try simp only [Exit.then]
            clear hHeld
            go_wp2_with (fail)
            exact ⟨⟨e.k :: acc, cntD, _, rfl, Lib.hid (by have h1 := HDL.out; have h2 := hzz.out; omega), HRF, HSF, HZF⟩, HLF2.out⟩

end Go.Proofs.Ythdkbocokefdhaa
