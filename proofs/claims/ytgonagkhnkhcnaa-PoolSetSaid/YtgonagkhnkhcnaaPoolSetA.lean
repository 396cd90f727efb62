import Derived.Test.YtgonagkhnkhcnaaPoolSame
import Derived.Deep.RegionLawGrows
/- PoolSet: the walk. -/
namespace Go.Proofs.Ytgonagkhnkhcnaa
set_option maxRecDepth 100000
open Go.RowKit
theorem BRow.open2 {B : Nat} {v : Value} {bs : List Bk} {w : World} (h : BRow B v bs w) : ∃ a cap, v = .slice a bs.length cap ∧ bs.length ≤ cap ∧ (a = none → bs.length = 0 ∧ cap = 0) ∧ BkIn w a bs := by
  have h9 := h
  obtain ⟨a, cap, rfl, hin⟩ := h.open
  refine ⟨a, cap, rfl, ?_, ?_, hin⟩
  · rcases h9.2 with ⟨h1, h2⟩ | ⟨g, c, cur, h1, _, _, h4, _⟩
    · injection h1 with _ h1 _; omega
    · injection h1 with _ _ h1; omega
  · intro ha
    rcases h9.2 with ⟨h1, h2⟩ | ⟨g, c, cur, h1, _, _, h4, _⟩
    · injection h1 with _ h1 h3; exact ⟨h1, h3⟩
    · injection h1 with h1 _ _; rw [ha] at h1; cases h1
theorem BRow.cells3 {B g n c : Nat} {bs : List Bk} {w : World} (h : BRow B (.slice (some ⟨g, 0, none⟩) n c) bs w) (j : Nat) (hj : j < bs.length) : w.cell? ⟨g, j * 3, none⟩ = some (.int .i64 bs[j].id) ∧ w.cell? ⟨g, j * 3 + 1, none⟩ = some (.string bs[j].addr) ∧ w.cell? ⟨g, j * 3 + 2, none⟩ = some (.float .f64 bs[j].wt) := by
  obtain ⟨d0, d1, d2⟩ := bflat_get bs j hj
  have hc : ∀ i u, (bflat bs)[i]? = some u → w.cell? ⟨g, i, none⟩ = some u := fun i u hu => by
    have h1 := World.ownsRow.cells h (g := g) rfl i u hu
    have e : (⟨g, 0, none⟩ : Addr).add i = ⟨g, i, none⟩ := by unfold Addr.add; split <;> simp_all
    rw [e] at h1; exact h1
  exact ⟨hc _ _ d0, hc _ _ d1, hc _ _ d2⟩
theorem take_no {ys : List Bk} (h : (ids ys).Nodup) (k : Nat) (hk : k < ys.length) : ys[k].id ∉ ids (ys.take k) := by
  intro hc
  obtain ⟨b, hb, he⟩ := ids_mem.1 hc
  obtain ⟨j, hj, rfl⟩ := List.getElem_of_mem hb
  rw [List.length_take] at hj
  rw [List.getElem_take] at he
  have hl : (ids ys).length = ys.length := by unfold ids; rw [List.length_map]
  have hg : ∀ t (ht : t < ys.length), (ids ys)[t]'(by omega) = ys[t].id := fun t ht => by unfold ids; rw [List.getElem_map]
  rw [List.nodup_iff_pairwise_ne, List.pairwise_iff_getElem] at h
  exact h j k (by omega) (by omega) (by omega) (by rw [hg j (by omega), hg k hk]; exact he)
/-- one more of the same -/
theorem add_step {L Lq ys : List Bk} (hg : Good L) (hys : ys.Perm L) (k : Nat) (hk : k < ys.length) (hq : Lq.Perm (ys.take k)) : addE Lq ys[k] = 0 ∧ (addL Lq ys[k]).Perm (ys.take (k + 1)) ∧ ys[k].wt < 9223372036854775808 := by
  have hm : ys[k] ∈ L := hys.mem_iff.1 (List.getElem_mem hk)
  have hn : (ids ys).Nodup := (hys.map Bk.id).nodup_iff.2 (risen_nodup hg.risen)
  have hno : ys[k].id ∉ ids Lq := fun h => take_no hn k hk ((hq.map Bk.id).mem_iff.1 h)
  have hlq : Lq.length = k := by rw [hq.length_eq, List.length_take]; omega
  have hly := hys.length_eq
  have hfew := hg.few
  have hok := List.all_eq_true.1 hg.ok _ hm
  have hp := hg.plus _ hm
  have e1 : addE Lq ys[k] = 0 := by unfold addE; rw [if_pos hok, if_neg hno, if_neg (by omega)]
  refine ⟨e1, ?_, hp⟩
  have hnb : nb ys[k] = ys[k] := by
    obtain ⟨x, hx⟩ : ∃ x, x = ys[k] := ⟨_, rfl⟩
    rw [← hx] at hp ⊢
    unfold nb FM.rung
    rw [Nat.mod_eq_of_lt hp]
  unfold addL
  rw [if_pos e1, hnb]
  refine (ins_perm _ _).trans ?_
  rw [take_one ys k hk]
  exact (hq.cons _).trans (List.perm_append_comm (l₁ := [ys[k]]))
set_option maxHeartbeats 4000000 in
theorem psetA (cs : List Ac) (a : Option Addr) (cap : Nat) (i : Int) (zs : List Nat) (an : Option Addr) (cn : Nat) (w : World) (hin : ActIn w a cs) (hok : ActOk cs) (hz : NIn w an zs) :
    Calls Try.prog 4 #[.slice a cs.length cap, .int .i64 i, .slice an zs.length cn] w fun e w' => e = .returned (.bool true) ∧ Below w.heap.size w w' := by
  have A := Lib.hid (fun W => awake_any W)
  have F := Lib.hid (fun W hW => few_any cs a cap W (hin.below hW) hok)
  cases hf : fewA cs with
  | false =>
    rw [hf] at F
    clear hin hok hf hz
    go_enter Try.func4, Try.ntmps4
    go_wp2_with (first | (go_at_call 6; refine (A.out _).mono ?_; rintro e w1 ⟨rfl, hb1⟩) | (go_at_call 7; refine (F.out _ hb1).mono ?_; rintro e w2 ⟨rfl, rfl⟩))
    go_ret
    exact ⟨rfl, hb1⟩
  | true =>
    rw [hf] at F
    by_cases h100 : (zs.length : Int) > 100
    · clear hin hok hf hz
      go_enter Try.func4, Try.ntmps4
      go_wp2_with (first | (go_at_call 6; refine (A.out _).mono ?_; rintro e w1 ⟨rfl, hb1⟩) | (go_at_call 7; refine (F.out _ hb1).mono ?_; rintro e w2 ⟨rfl, rfl⟩))
      go_ret
      exact ⟨rfl, hb1⟩
    have HN : Hid (∀ W, Below w.heap.size w W → NIn W an zs) := fun W hW => hz.below hW
    have HA : Hid (∀ W, Below w.heap.size w W → ActIn W a cs) := fun W hW => hin.below hW
    have HO := Lib.hid hok
    have h101 : ¬ (zs.length : Int) > 100 := h100
    have hz101 : zs.length ≤ 100 := by omega
    have PN := Lib.hid (fun W => pnew_any W)
    have hc101 : cs.length ≤ 101 := by
      unfold fewA at hf
      rw [Bool.and_eq_true] at hf
      exact of_decide_eq_true hf.1
    have hsf := fun (b : Nat) (W : World) (c : Addr) (m : Mode) => store_float W c b m
    clear hin hok hf hz h100
    go_enter Try.func4, Try.ntmps4
    go_wp2_with (first | (go_at_call 6; refine (A.out _).mono ?_; rintro e w1 ⟨rfl, hb1⟩) | (go_at_call 7; refine (F.out _ hb1).mono ?_; rintro e w2 ⟨rfl, rfl⟩))
    refine (PN.out w2).mono ?_
    rintro e w3 ⟨P, M, ps0, rfl, hp3, hb3⟩
    go_wp2_with (fail)
    refine (PN.out w3).mono ?_
    rintro e w4 ⟨P', M', ps0', rfl, hp4, hb4⟩
    obtain ⟨B, hB⟩ : ∃ B, B = w2.heap.size := ⟨_, rfl⟩
    obtain ⟨B', hB'⟩ : ∃ B, B = w3.heap.size := ⟨_, rfl⟩
    have hwB : w.heap.size ≤ B := by rw [hB]; exact hb1.size
    have hBB : B ≤ B' := by rw [hB, hB']; exact hb3.size
    have hPl : P < B' ∧ M < B' := by
      obtain ⟨R, u, h1, _⟩ := hp3.ring
      rw [hB']; exact ⟨heap_lt h1, hp3.pm.lt⟩
    have hp34 := hp3.below hb4
    have hb24 : Below w2.heap.size w2 w4 := hb3.trans (hb4.mono hb3.size)
    rw [← hB] at hp34 hb24
    rw [← hB'] at hp4
    have HNE : Hid (P ≠ P' ∧ M ≠ M') := ⟨by have := hp4.bP; omega, by have := hp4.bM; omega⟩
    have HB1 := Lib.hid hb1
    have HWB := Lib.hid hwB
    have HBB := Lib.hid hBB
    have HP4 := Lib.hid hp34
    have HQ4 := Lib.hid hp4
    have HB24 := Lib.hid hb24
    clear hp3 hp4 hp34 hb1 hb3 hb4 hb24 hB hB' hwB hBB hPl A F PN
    go_wp2_with (fail)
    go_loopw [9] (fun i wr => ∃ (k : Nat) (L : List Bk) (ps : List (Nat × Nat)), k ≤ cs.length ∧ i = .int .i64 k ∧ Hid (PoolAt B P M L ps wr) ∧ Hid (PoolAt B' P' M' [] ps0' wr) ∧ Below B w2 wr) (fun i _ => cs.length - (intOf i).toNat)
    case atStart => exact ⟨0, [], ps0, by omega, rfl, HP4, HQ4, HB24.out⟩
    case round =>
      obtain ⟨k, L, ps, hk, rfl, hp, hq, hb⟩ := hrel
      have hbw : Below w.heap.size w wr := HB1.out.trans (hb.mono HWB.out)
      by_cases hlt : k < cs.length
      · obtain ⟨x, rfl, c0, c1, c2, c3⟩ := HA.out wr hbw k hlt
        obtain ⟨o1, o2, o3⟩ := HO.out cs[k] (List.getElem_mem hlt)
        obtain ⟨⟨rem, ⟨id, ad, wt⟩⟩, hck⟩ : ∃ c, c = cs[k] := ⟨_, rfl⟩
        rw [← hck] at c0 c1 c2 c3 o1 o2 o3
        simp only at c0 c1 c2 c3 o1 o2 o3
        have D := Lib.hid (do_any B P M L ps ⟨rem, ⟨id, ad, wt⟩⟩ wr hp.out o1 o2 o3)
        simp only at D
        have HQF : Hid (∀ w5 : World, (∀ k, k < wr.heap.size → k ≠ P → k ≠ M → w5.heap[k]? = wr.heap[k]?) → PoolAt B' P' M' [] ps0' w5) := fun w5 h5 => by
          obtain ⟨R, u, h1, _⟩ := hp.out.ring
          exact hq.out.other h1 hp.out.pm (fun e => HNE.out.1 e.symm) (fun e => HNE.out.2 e.symm) h5
        have HB := Lib.hid hb
        clear o1 o2 o3 hck hbw hb hp hq
        go_wp2_with (go_at_call 9; (with_reducible refine D.out.mono ?_); rintro e w5 ⟨rfl, ⟨ps', hp5⟩, hb5, hs5⟩; have HP5 := Lib.hid hp5; have HQ5 := Lib.hid (HQF.out w5 hs5); clear hp5 hs5)
        exact ⟨⟨k + 1, _, ps', by omega, by go_num, HP5, HQ5, HB.out.trans hb5⟩, by simp [intOf] <;> omega⟩
      · obtain rfl : k = cs.length := by omega
        have LI := Lib.hid (plist_any B P M L ps wr hp.out)
        have HB := Lib.hid hb
        have HP := Lib.hid hp
        have HQ := Lib.hid hq
        clear hb hp hq hbw
        have HRET : Hid (∀ W, Below wr.heap.size wr W → Below w.heap.size w W) := fun W hW => HB1.out.trans ((HB.out.trans (hW.mono (by
          obtain ⟨R, u, h1, _⟩ := HP.out.out.ring
          have := heap_lt h1
          have := HP.out.out.bP
          omega))).mono HWB.out)
        by_cases ht0 : i < 0
        · go_wp2_with (go_at_call 14; (with_reducible refine LI.out.mono ?_); rintro e w5 ⟨v, rfl, hv, hb5⟩; obtain ⟨ax, cx, rfl, hcl, hcn, hin⟩ := hv.open2)
          go_ret
          exact ⟨rfl, HRET.out _ hb5⟩
        by_cases ht1 : i > (L.length : Int)
        · go_wp2_with (go_at_call 14; (with_reducible refine LI.out.mono ?_); rintro e w5 ⟨v, rfl, hv, hb5⟩; obtain ⟨ax, cx, rfl, hcl, hcn, hin⟩ := hv.open2)
          go_ret
          exact ⟨rfl, HRET.out _ hb5⟩
        obtain ⟨t, rfl⟩ : ∃ t : Nat, i = t := ⟨i.toNat, by omega⟩
        have ht : t ≤ L.length := by omega
        have hd0 : decide ((t : Int) < 0) = false := decide_eq_false (by omega)
        have hd1 : ¬ (t : Int) > (L.length : Int) := by omega
        have hd2 : decide (L.length < t) = false := decide_eq_false (by omega)
        have hq0 : (0 : Int) ≤ (t : Int) := by omega
        have hq1 : (t : Int) ≤ (L.length : Int) := by omega
        have hLF := HP.out.out.good.few
        obtain ⟨ys, hys⟩ : ∃ ys, ys = [] ++ L.drop t ++ L.take t := ⟨_, rfl⟩
        have HYS : Hid (ys.Perm L) := by
          show List.Perm _ _
          rw [hys, List.nil_append]; exact (List.perm_append_comm).trans (by rw [List.take_append_drop])
        have HYE := Lib.hid hys
        have HLF := Lib.hid hLF
        have HT := Lib.hid ht
        clear hys ht0 ht1
        go_wp2_with (go_at_call 14; (with_reducible refine LI.out.mono ?_); rintro e w5 ⟨v, rfl, hv, hb5⟩; obtain ⟨ax, cx, rfl, hcl, hcn, hin⟩ := hv.open2)
        have HI5 : Hid (∀ W, Below w5.heap.size w5 W → BkIn W ax L) := fun W hW => hin.below hW
        have HB5 := Lib.hid hb5
        have HB0 := Lib.hid (Below.refl w5.heap.size w5)
        rcases Option.eq_none_or_eq_some ax with rfl | ⟨x, rfl⟩
        case' inl =>
          obtain ⟨hz, hcz⟩ := hcn rfl
          obtain rfl : t = 0 := by omega
          subst hcz
          have hbs : L = [] := List.eq_nil_of_length_eq_zero hz
          have hms0 : Hid (ys = []) := show ys = [] by rw [HYE.out, hbs]; rfl
          rw [hz]
          clear hin hcn ht hcl hbs hd1 hd2 hq1 hLF hb5 hv hz
          have hq4 : ((0 : Nat) : Int) = 0 := rfl
          have hz2 : ¬ ((0 : Int) < 0) := by omega
          go_region_law (first | (refine step_append_at (Operand.tmp 58) (Operand.tmp 61) 38 rfl rfl ?_; refine ex_mono (BSt.nil (B := w5.heap.size) (w0 := w5) (bs := []) ?_ _) ?_; (focus (repeat (first | refine BSt.drew ?_ | (refine BSt.fresh' ?_ ?_ ?_; (focus (first | rfl | (simp; done))); (focus (repeat (first | exact HB0.out | refine Below.drew ?_))); (focus (first | exact HB0.out.size | (simp; exact HB0.out.size))))))); intro v3 w6 h3; have H3 := Lib.hid h3; clear h3) | (refine step_append_at (Operand.tmp 62) (Operand.tmp 65) 38 rfl rfl ?_; refine ex_mono (BSt.nil (B := w5.heap.size) (w0 := w5) (bs := []) ?_ _) ?_; (focus (repeat (first | exact H3.out | refine BSt.drew ?_))); intro v4 w7 h4; have H4 : Hid (BSt w5.heap.size w5 v4 ys w7) := (by rw [hms0.out]; exact h4); clear h4))
        case' inr =>
          have hq2 : (t : Int) ≤ (cx : Int) := by omega
          have hq3 : (L.length : Int) ≤ (cx : Int) := by omega
          obtain ⟨ad, hoa, had2⟩ : ∃ ad, (if cx = t then some x else some (x.add (t * 3))) = some ad ∧ (t < L.length → ad = x.add (t * 3)) := by
            by_cases h : cx = t
            · exact ⟨x, if_pos h, fun h2 => by omega⟩
            · exact ⟨_, if_neg h, fun _ => rfl⟩
          have HOA := Lib.hid hoa
          have HAD := Lib.hid had2
          have HL0 : Hid (([] : List Bk).length + L.length ≤ 1000) := show ([] : List Bk).length + L.length ≤ 1000 by rw [List.length_nil]; omega
          have HL1 : Hid (([] ++ L.drop t).length + L.length ≤ 1000) := show ([] ++ L.drop t).length + L.length ≤ 1000 by rw [List.nil_append, List.length_drop]; omega
          clear hin hcn hoa had2 hb5 hv hLF
          go_region_law (first | (refine step_append_at (Operand.tmp 58) (Operand.tmp 61) 38 rfl rfl ?_; refine ex_mono (BSt.rest (B := w5.heap.size) (w0 := w5) (bs := []) ?_ HI5.out _ t _ _ HT.out rfl _ ad HOA.out HAD.out HL0.out) ?_; (focus (repeat (first | refine BSt.drew ?_ | (refine BSt.fresh' ?_ ?_ ?_; (focus (first | rfl | (simp; done))); (focus (repeat (first | exact HB0.out | refine Below.drew ?_))); (focus (first | exact HB0.out.size | (simp; exact HB0.out.size))))))); intro v3 w6 h3; have H3 := Lib.hid h3; clear h3) | (refine step_append_at (Operand.tmp 62) (Operand.tmp 65) 38 rfl rfl ?_; refine ex_mono (BSt.front (B := w5.heap.size) (w0 := w5) (bs := [] ++ L.drop t) ?_ HI5.out _ t _ HT.out HL1.out) ?_; (focus (repeat (first | exact H3.out | refine BSt.drew ?_))); intro v4 w7 h4; have H4 : Hid (BSt w5.heap.size w5 v4 ys w7) := (by rw [HYE.out]; exact h4); clear h4))
          simp [Exit.then, Act.put]
          rw [HOA.out]
        all_goals (try simp [Exit.then, Act.put])
        all_goals (try clear hd1 hd2 hq1 hq2 hq3 hcl ht)
        all_goals (
          have hb57 := H4.out.bel
          have hbr7 := HB5.out.trans (hb57.mono HB5.out.size)
          have hp7 := HP.out.out.below hbr7
          have hq7 := HQ.out.out.below hbr7
          have hBr : B ≤ wr.heap.size ∧ P' < wr.heap.size ∧ M' < wr.heap.size := by
            obtain ⟨R, u, h1, _⟩ := HP.out.out.ring
            obtain ⟨R', u', h2, _⟩ := HQ.out.out.ring
            have := heap_lt h1
            have := HP.out.out.bP
            exact ⟨by omega, heap_lt h2, HQ.out.out.pm.lt⟩
          have hb27 : Below B w2 w7 := HB.out.trans (hbr7.mono hBr.1)
          obtain ⟨C, hC⟩ : ∃ C, C = w5.heap.size := ⟨_, rfl⟩
          have hrow7 : BRow C v4 ys w7 := by rw [hC]; exact H4.out.row
          have HCC : Hid (P' < C ∧ M' < C) := ⟨by rw [hC]; have := HB5.out.size; omega, by rw [hC]; have := HB5.out.size; omega⟩
          have hC7 : C ≤ w7.heap.size := by rw [hC]; exact H4.out.le
          obtain ⟨ay, cy, rfl, _⟩ := hrow7.open
          have HP7 := Lib.hid hp7
          have HQ7 := Lib.hid hq7
          have HR7 := Lib.hid hrow7
          have HB27 := Lib.hid hb27
          have HC7 : Hid (C ≤ w7.heap.size) := hC7
          have hyl : ys.length ≤ 64 := by rw [HYS.out.length_eq]; exact HLF.out
          clear hb57 hbr7 hp7 hq7 hBr hb27 hC hrow7 hC7 H3 H4
          go_wp2_with (fail)
          go_loopw [12] (fun j wr => ∃ (k : Nat) (Lq : List Bk) (psq : List (Nat × Nat)), k ≤ ys.length ∧ j = .int .i64 k ∧ Hid (PoolAt B' P' M' Lq psq wr) ∧ Hid (Lq.Perm (ys.take k)) ∧ Hid (PoolAt B P M L ps wr) ∧ Hid (BRow C (.slice ay ys.length cy) ys wr) ∧ Below B w2 wr ∧ Hid (C ≤ wr.heap.size)) (fun j _ => ys.length - (intOf j).toNat)
          case atStart => exact ⟨0, [], ps0', by omega, rfl, HQ7, List.Perm.refl _, HP7, HR7, HB27.out, HC7⟩
          case round =>
            obtain ⟨k, Lq, psq, hk, rfl, hq, hlq, hp, hrow, hb, hcw⟩ := hrel
            by_cases hlt : k < ys.length
            · obtain ⟨g, c9, e9, _⟩ := hrow.out.at (by omega)
              injection e9 with e9 _ e10
              subst e9 e10
              obtain ⟨x0, x1, x2⟩ := hrow.out.cells3 k hlt
              obtain ⟨ad1, ad2, ad3⟩ := add_step HP.out.out.good HYS.out k hlt hlq.out
              obtain ⟨o1, o2, o3⟩ := HP.out.out.good.bkok ys[k] (HYS.out.mem_iff.1 (List.getElem_mem hlt))
              obtain ⟨⟨yi, yr, yf⟩, hy9⟩ : ∃ b, b = ys[k] := ⟨_, rfl⟩
              rw [← hy9] at x0 x1 x2 ad1 ad2 ad3 o1 o2 o3
              simp only at x0 x1 x2 ad3 o1 o2 o3
              have QA := Lib.hid (add_any B' P' M' Lq psq ⟨yi, yr, yf⟩ wr hq.out o1 o2 o3)
              rw [ad1] at QA
              unfold bkv at QA
              simp only at QA
              have SB := Lib.hid (fun W => signbit_any yf W ad3)
              have AD2 := Lib.hid ad2
              have HF : Hid (∀ w8 : World, (∀ k, k < wr.heap.size → k ≠ P' → k ≠ M' → w8.heap[k]? = wr.heap[k]?) → PoolAt B P M L ps w8 ∧ BRow C (.slice (some ⟨g, 0, none⟩) ys.length cy) ys w8 ∧ w8.cell? ⟨g, k * 3 + 2, none⟩ = some (.float .f64 yf)) := fun w8 h8 => by
                obtain ⟨R, u, h1, _⟩ := hq.out.ring
                have hr8 : BRow C (.slice (some ⟨g, 0, none⟩) ys.length cy) ys w8 := hrow.out.same (fun q hq2 => by
                  have h3 := World.ownsRow.lt hrow.out q hq2
                  have := HCC.out
                  exact h8 q h3.2 (by omega) (by omega))
                have h4 := (hr8.cells3 k hlt).2.2
                rw [← hy9] at h4
                exact ⟨hp.out.other h1 hq.out.pm HNE.out.1 HNE.out.2 h8, hr8, h4⟩
              have HB7 := Lib.hid hb
              have HCW := Lib.hid hcw
              have hk1 : (k : Int) < (ys.length : Int) := by omega
              have hk0 : (0 : Int) ≤ (k : Int) := by omega
              have hBle : Hid (B' ≤ wr.heap.size) := show B' ≤ wr.heap.size by
                obtain ⟨R, u, h1, _⟩ := hq.out.ring
                have := heap_lt h1
                have := hq.out.bP
                omega
              clear hy9 ad1 ad2 ad3 o1 o2 o3 hq hlq hp hrow hb hcw
              go_wp2_with (first | (go_at_call 13; (with_reducible refine QA.out.mono ?_); rintro e w8 ⟨rfl, ⟨psn, hq8⟩, hb8, hs8⟩; obtain ⟨hp8, hr8, k8⟩ := HF.out w8 hs8; have HQ8 := Lib.hid hq8; have HP8 := Lib.hid hp8; have HR8 := Lib.hid hr8; clear hq8 hp8 hr8 hs8) | (go_at_call 15; (with_reducible refine (SB.out _).mono ?_); rintro e w9 ⟨rfl, rfl⟩))
              exact ⟨⟨k + 1, _, psn, by omega, by go_num, HQ8, AD2, HP8, HR8, HB7.out.trans (hb8.mono HBB.out), Nat.le_trans HCW.out.out hb8.size⟩, by simp [intOf] <;> omega⟩
            · obtain rfl : k = ys.length := by omega
              have hperm : Lq.Perm L := by
                have h := hlq.out
                rw [List.take_length] at h
                exact h.trans HYS.out
              obtain rfl : Lq = L := risen_one hperm (hq.out.good.risen.imp (fun h => Int.le_of_lt h)) hp.out.good.risen
              obtain rfl : psq = ps := rings_one hq.out.perm hq.out.sorted hp.out.perm hp.out.sorted
              obtain ⟨D, hD⟩ : ∃ D, D = wr.heap.size := ⟨_, rfl⟩
              obtain ⟨w8, hw8⟩ : ∃ w8, w8 = wr := ⟨_, rfl⟩
              rw [← hw8] at hq hp hb hcw hD ⊢
              have HD := Lib.hid hD
              have HB8 := Lib.hid (HB1.out.trans (hb.mono HWB.out))
              have HWD : Hid (w.heap.size ≤ D) := show w.heap.size ≤ D by rw [hD]; exact HB8.out.size
              have GS := Lib.hid (got_self hp.out.good)
              have GOOD := Lib.hid hp.out.good
              have hmg := guard32
              clear hperm hrow hlq hb hcw hD hw8
              go_wp2_with (fail)
              go_loopw [13] (fun j wr => ∃ k : Nat, k ≤ zs.length ∧ j = .int .i64 k ∧ Below D w8 wr) (fun j _ => zs.length - (intOf j).toNat)
              case atStart => exact ⟨0, by omega, rfl, by rw [HD.out]; exact Below.refl _ _⟩
              case round =>
                obtain ⟨k, hk, rfl, hb⟩ := hrel
                by_cases hlt : k < zs.length
                · obtain ⟨x, rfl, cz0⟩ := HN.out wr (HB8.out.trans (hb.mono HWD.out)) k hlt
                  obtain ⟨z, hz⟩ : ∃ z, z = zs[k] := ⟨_, rfl⟩
                  have HZ : Hid (∀ W, Below D w8 W → W.cell? (x.add k) = some (.int .u64 (z : Int))) := fun W hW => by
                    obtain ⟨x', hx, h⟩ := HN.out W (HB8.out.trans (hW.mono HWD.out)) k hlt
                    obtain rfl := Option.some.inj hx
                    rw [hz]; exact h
                  rw [← hz] at cz0
                  have FP := Lib.hid (fun W (hW : Below D w8 W) => pfind_any B P M z Lq psq W (hp.out.below (by rw [← HD.out]; exact hW)))
                  have FQ := Lib.hid (fun W (hW : Below D w8 W) => pfind_any B' P' M' z Lq psq W (hq.out.below (by rw [← HD.out]; exact hW)))
                  have hself := GS.out (fA psq z : Nat)
                  obtain ⟨⟨fi, fs, ff⟩, hfb⟩ : ∃ b, b = got Lq (fA psq z : Nat) := ⟨_, rfl⟩
                  obtain ⟨fo, hfo⟩ : ∃ b, b = (get Lq (fA psq z : Nat)).isSome := ⟨_, rfl⟩
                  rw [← hfb, ← hfo] at FP FQ
                  rw [← hfb] at hself
                  unfold bkv at FP FQ
                  simp only at FP FQ
                  have hq3 : ∀ W, (binOp .neq 32 (.agg #[.int .i64 fi, .string fs, .float .f64 ff]) (.agg #[.int .i64 fi, .string fs, .float .f64 ff])).run Try.prog W = .ok (.bool false) W := fun W => by rw [bk_neq, hself]; rfl
                  have HB9 := Lib.hid hb
                  have hDw : Hid (D ≤ wr.heap.size) := show D ≤ wr.heap.size by rw [HD.out]; exact hb.size
                  have HX : Hid (∀ w9, Below wr.heap.size wr w9 → Below D w8 (w9.alloc (.cells #[.int .i64 fi, .string fs, .float .f64 ff] 32)) ∧ ∀ w11, Below (w9.alloc (.cells #[.int .i64 fi, .string fs, .float .f64 ff] 32)).heap.size (w9.alloc (.cells #[.int .i64 fi, .string fs, .float .f64 ff] 32)) w11 → ∀ o : Obj, (((w11.alloc o).cell? ⟨w9.heap.size, 0, none⟩ = some (.int .i64 fi) ∧ (w11.alloc o).cell? ⟨w9.heap.size, 1, none⟩ = some (.string fs) ∧ (w11.alloc o).cell? ⟨w9.heap.size, 2, none⟩ = some (.float .f64 ff)) ∧ Below D w8 (w11.alloc o))) := fun w9 h9 => by
                    have h1 : Below D w8 (w9.alloc (.cells #[.int .i64 fi, .string fs, .float .f64 ff] 32)) := HB9.out.trans ((h9.alloc h9.size _).mono hDw.out)
                    refine ⟨h1, fun w11 h11 o => ⟨box_cells (alloc_new w9 (.cells #[.int .i64 fi, .string fs, .float .f64 ff] 32)) _ (h11.alloc h11.size o), h1.trans ((h11.alloc h11.size o).mono (by rw [World.size_alloc]; have := hDw.out; have := h9.size; omega))⟩⟩
                  clear hself hfb hfo hz hb
                  go_wp2_with (first | (go_at_call 12; (with_reducible refine (FP.out _ HB9.out).mono ?_); rintro e w9 ⟨rfl, hb9⟩; obtain ⟨hb10, HX2⟩ := HX.out w9 hb9; have cz1 := HZ.out _ hb10; have HX3 := Lib.hid HX2; clear HX2) | (go_at_call 12; (with_reducible refine (FQ.out _ hb10).mono ?_); rintro e w11 ⟨rfl, hb11⟩; obtain ⟨⟨k0, k1, k2⟩, hb12⟩ := HX3.out w11 hb11 (.cells #[.int .i64 fi, .string fs, .float .f64 ff] 32)))
                  exact ⟨⟨k + 1, by omega, by go_num, hb12⟩, by simp [intOf] <;> omega⟩
                · obtain rfl : k = zs.length := by omega
                  have LP := Lib.hid (plist_any B P M Lq psq wr (hp.out.below (by rw [← HD.out]; exact hb)))
                  have LQ := Lib.hid (fun W hW => plist_any B' P' M' Lq psq W ((hq.out.below (by rw [← HD.out]; exact hb)).below hW))
                  have HB9 := Lib.hid (HB8.out.trans (hb.mono HWD.out))
                  clear hb
                  go_wp2_with (first | (go_at_call 14; (with_reducible refine LP.out.mono ?_); rintro e w9 ⟨va, rfl, hva, hb9⟩) | (go_at_call 14; (with_reducible refine (LQ.out _ hb9).mono ?_); rintro e w10 ⟨vb, rfl, hvb, hb10⟩))
                  refine (same_any _ _ va vb Lq w10 (hva.below hb10) hvb (fun y hy => bkeq_self (List.all_eq_true.1 GOOD.out.ok y hy))).mono ?_
                  rintro e w11 ⟨rfl, hb11⟩
                  go_wp2_with (fail)
                  go_ret
                  exact ⟨rfl, HB9.out.trans ((hb9.trans ((hb10.trans (hb11.mono hb10.size)).mono hb9.size)).mono HB9.out.size)⟩)
theorem pset_walk (w : World) (cs : List Ac) (a : Option Addr) (cap : Nat) (hin : ActIn w a cs) (hok : ActOk cs) (i : Int) (_ : (Lit.int .i64 i).wf = true) (zs : List Nat) (an : Option Addr) (cn : Nat) (hz : NIn w an zs) (_ : an = none → zs = [] ∧ cn = 0) :
    Calls Try.prog 4 #[.slice a cs.length cap, .int .i64 i, .slice an zs.length cn] w fun e w' => e = .returned (.bool true) ∧ Below w.heap.size w w' := psetA cs a cap i zs an cn w hin hok hz
end Go.Proofs.Ytgonagkhnkhcnaa
