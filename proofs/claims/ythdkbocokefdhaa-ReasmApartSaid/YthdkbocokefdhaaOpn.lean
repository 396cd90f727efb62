import Derived.Test.YthdkbocokefdhaaMapT
import Derived.Test.YthdkbocokefdhaaObs
/- A round through the table's map, in the walk. -/
namespace Go.Proofs.Ythdkbocokefdhaa
set_option maxRecDepth 100000
open Go.RowKit
section
variable (w : World) {ops : Array Oper} {rest : List Oper} {o : Oper} {a : Act} {Q : Exit → Act → World → Prop}
theorem wpList_next_e (hg : o.guard = none) (it : Operand) (hop : o.op = Op.next it false) (M r : Nat) (K : List (Ky × Nat)) (acc : List Ky) (cnt : Nat) (hit : a.eval it = .pointer (some ⟨r, 0, none⟩)) (h : Rg M r K acc cnt w)
    (hDone : cnt = 0 → (∀ i ∈ ks K, i ∈ acc) → wpList Try.prog ops Q rest (a.put o.dst (.tuple #[.bool false])) w)
    (hMore : ∀ (k : Ky) (p : Nat) (w' : World) (cnt' : Nat), (k, p) ∈ K → k ∉ acc → Rg M r K (k :: acc) cnt' w' → cnt' < cnt → w.grownBy w' (some r) → w'.heap.size = w.heap.size → (Instr.entry (.pointer (some ⟨r, 0, none⟩))).run Try.prog w' = .ok (.tuple #[kv k, .pointer (some ⟨p, 0, none⟩)]) w' →
      wpList Try.prog ops Q rest (a.put o.dst (.tuple #[.bool true, kv k, .pointer (some ⟨p, 0, none⟩)])) w') :
    wpList Try.prog ops Q (o :: rest) a w := by
  refine wpList_plain hg fun K' hK' => ?_
  unfold Oper.wp
  rcases h.next o.type with ⟨h0, hp, hrun⟩ | ⟨k, p, w', cnt', hm, ha, hrun, hrg, hlt, hgr, hsz, hen⟩
  · simp [execOp, hop, hit, hrun, Result.andThen]
    exact hK' _ _ (hDone h0 hp)
  · simp [execOp, hop, hit, hrun, Result.andThen]
    exact hK' _ _ (hMore k p w' cnt' hm ha hrg hlt hgr hsz hen)
theorem wpList_range_e (hg : o.guard = none) (m : Operand) (hop : o.op = Op.range 63 m) (M : Nat) (K : List (Ky × Nat)) (hm : a.eval m = .map (some M)) (h : PM M K w)
    (hK : ∀ w', Rg M w.heap.size K [] K.length w' → w.grownBy w' none → w'.heap.size = w.heap.size + 1 → wpList Try.prog ops Q rest (a.put o.dst (.pointer (some ⟨w.heap.size, 0, none⟩))) w') :
    wpList Try.prog ops Q (o :: rest) a w := by
  obtain ⟨D, h1, h2⟩ := h
  refine wpList_range_own w hg m 63 hop 68 69 law68 Try.underlying63 ptR M K.length D hm h1 (fun w' r1 r2 r3 => hK w' ?_ r2 r3)
  rw [h2.size] at r1
  refine ⟨D, _, K.length, r1, h2, fun k hk => h2.only k hk, fun i hi => ?_⟩
  rw [h2.has i hi, decide_eq_decide]
  exact ⟨fun h => ⟨h, fun hc => by cases hc⟩, fun h => h.1⟩
end
end Go.Proofs.Ythdkbocokefdhaa
/- Open: how many entries are not done. -/
namespace Go.Proofs.Ythdkbocokefdhaa
set_option maxRecDepth 100000
open Go.RowKit
theorem tab_key {F : Nat → Prop} {Tb M : Nat} {st : Sto} {loc : Ky → Nat} {row : Ky → Value} {L : List En} {w : World} (_ : Tab F Tb M st loc row L w) {k : Ky} {p : Nat} (hk : (k, p) ∈ L.map fun e => (e.k, loc e.k)) : ∃ e ∈ L, e.k = k ∧ p = loc k := by
  obtain ⟨e, he, h1⟩ := List.mem_map.1 hk
  injection h1 with h1 h2
  exact ⟨e, he, h1, by rw [← h1]; exact h2.symm⟩
theorem tab_nodup {F : Nat → Prop} {Tb M : Nat} {st : Sto} {loc : Ky → Nat} {row : Ky → Value} {L : List En} {w : World} (h : Tab F Tb M st loc row L w) : (keysL L).Nodup := by
  have := h.pm.nodup
  unfold ks at this
  rw [List.map_map] at this
  exact this
theorem tab_ks {loc : Ky → Nat} {L : List En} : ks (L.map fun e => (e.k, loc e.k)) = keysL L := by
  unfold ks
  rw [List.map_map]; rfl
def opnA (L : List En) (acc : List Ky) : Nat := (L.filter fun x => decide (x.k ∈ acc) && !x.done).length
theorem opnA_all (L : List En) (acc : List Ky) (h : ∀ i ∈ keysL L, i ∈ acc) : opnA L acc = opnL L := by
  unfold opnA opnL
  rw [List.filter_congr]
  intro x hx
  have : x.k ∈ acc := h _ (List.mem_map.2 ⟨x, hx, rfl⟩)
  simp [this]
theorem opnA_nil (L : List En) : opnA L [] = 0 := by
  unfold opnA; simp
theorem opnA_le (L : List En) (acc : List Ky) : opnA L acc ≤ L.length := List.length_filter_le _ _
set_option maxHeartbeats 4000000 in
theorem open_any {F : Nat → Prop} {Tb M : Nat} {st : Sto} {loc : Ky → Nat} {row : Ky → Value} {L : List En} (w : World) (h : Tab F Tb M st loc row L w) (hl : L.length ≤ 1000000) : Calls Try.prog 20 #[.pointer (some ⟨Tb, 0, none⟩)] w fun e w' => e = .returned (.int .i64 (opnL L : Nat)) ∧ Below w.heap.size w w' := by
  have k1 := cellAt (i := 3) (v := .map (some M)) h.tb rfl
  obtain ⟨K, hK⟩ : ∃ K, K = L.map fun e => (e.k, loc e.k) := ⟨_, rfl⟩
  have HP : Hid (PM M K w) := Lib.hid (by rw [hK]; exact h.pm)
  have HK := Lib.hid hK
  have HT := Lib.hid h
  have HL := Lib.hid hl
  obtain ⟨r, hr⟩ : ∃ r, r = w.heap.size := ⟨_, rfl⟩
  have HR := Lib.hid hr
  clear h hK hl hr
  go_enter Try.func20, Try.ntmps20
  go_wp2_with (at_range; refine wpList_range_e _ rfl _ rfl M K rfl HP.out ?_; intro w0 hrg0 hg0 hs0; rw [← HR.out] at hrg0 ⊢)
  have hb0 : Below r w w0 := by rw [HR.out]; exact (Below.refl _ w).grown hg0 (Nat.le_refl _) (fun _ h => by cases h)
  have HZ0 : Hid (w0.heap.size = r + 1) := Lib.hid (by rw [hs0, HR.out])
  have HRG0 := Lib.hid hrg0
  clear hrg0 hg0 hs0 k1
  go_frame
  go_loopw [3] (fun v wr => ∃ (acc : List Ky) (cnt : Nat), v = .int .i64 (opnA L acc : Nat) ∧ Hid (Rg M r K acc cnt wr) ∧ Hid (Below r w wr) ∧ Hid (r + 1 ≤ wr.heap.size)) (fun _ wr => wr.rangeLeft M r)
  case atStart => exact ⟨[], K.length, by rw [opnA_nil]; rfl, HRG0, Lib.hid hb0, Lib.hid (show r + 1 ≤ w0.heap.size by rw [HZ0.out]; omega)⟩
  case round =>
    obtain ⟨acc, cnt, rfl, hrg, hb, hsz⟩ := hrel
    go_wp2_with (at_next; refine wpList_next_e _ rfl _ rfl M r K acc cnt rfl hrg.out ?d ?m)
    case d =>
      intro h0 hp
      have HE : Hid (opnA L acc = opnL L) := Lib.hid (opnA_all L acc (fun i hi => hp i (by rw [HK.out, tab_ks]; exact hi)))
      clear h0 hp
      go_wp2_with (fail)
      go_ret
      exact ⟨by first | rfl | (rw [← HE.out]; rfl), by rw [← HR.out]; exact hb.out⟩
    case m =>
      intro k p w3 cnt3 hm ha hrg3 hlt hgr hs3 hen
      obtain ⟨e, he, hek, hpe⟩ := tab_key HT.out (by rw [← HK.out]; exact hm)
      subst hek hpe
      have hst := open_step L acc e he (tab_nodup HT.out) ha
      have hb3 : Below r w w3 := hb.out.grown hgr (by have := hsz.out; omega) (fun b h => by cases h; exact Nat.le_refl _)
      have hc := cellAt (i := 1) (v := .bool e.done) ((hb3.block _ (by rw [HR.out]; exact heap_lt (HT.out.bd.ent e he))).trans (HT.out.bd.ent e he)) rfl
      have hnl := opnA_le L acc
      have hl9 := HL.out
      obtain ⟨P, hP⟩ : ∃ P, P = loc e.k := ⟨_, rfl⟩
      rw [← hP] at hc hen ⊢
      obtain ⟨kk, hkk⟩ : ∃ x, x = kv e.k := ⟨_, rfl⟩
      rw [← hkk] at hen ⊢
      obtain ⟨n1, hn1⟩ : ∃ n, n = opnA L acc := ⟨_, rfl⟩
      rw [← hn1] at hnl ⊢
      have HN : Hid (opnA L (e.k :: acc) = n1 + if e.done = true then 0 else 1) := Lib.hid (by rw [hn1]; exact hst)
      have HRG3 := Lib.hid hrg3
      have HB3 := Lib.hid hb3
      have HS3 : Hid (r + 1 ≤ w3.heap.size) := Lib.hid (by rw [hs3]; exact hsz.out)
      have HLT : Hid (w3.rangeLeft M r < wr.rangeLeft M r) := Lib.hid (by rw [hrg.out.left_eq, hrg3.left_eq]; exact hlt)
      clear hP hkk hn1 hst hrg3 hb3 hlt hgr hs3 ha hm he
      have hw1 : IntKind.i64.wrap ((n1 : Int) + 1) = ((n1 + 1 : Nat) : Int) := by rw [IntWalk.i64_in _ (by omega)]; rfl
      obtain ⟨d, hd⟩ : ∃ d, d = e.done := ⟨_, rfl⟩
      rw [← hd] at hc HN
      clear hd
      cases d with
      | true =>
        go_wp2_with (fail)
        exact ⟨⟨e.k :: acc, cnt3, by rw [HN.out]; rfl, HRG3, HB3, HS3⟩, HLT.out⟩
      | false =>
        go_wp2_with (fail)
        exact ⟨⟨e.k :: acc, cnt3, by rw [HN.out]; rfl, HRG3, HB3, HS3⟩, HLT.out⟩
end Go.Proofs.Ythdkbocokefdhaa
