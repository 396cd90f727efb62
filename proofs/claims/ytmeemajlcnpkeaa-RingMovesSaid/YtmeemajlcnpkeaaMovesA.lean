import Derived.Deep.RegionHeld3
import Derived.Test.YtmeemajlcnpkeaaCopyB
/- RingMoves: the walk. -/
namespace Go.Proofs.Ytmeemajlcnpkeaa
open Go.RowKit
set_option maxRecDepth 100000 in
set_option maxHeartbeats 8000000 in
theorem movesA (bs : List Bk) (a : Option Addr) (cap : Nat) (turn : Int) (zs : List Nat) (an : Option Addr) (cn : Nat) (w : World) (hin : BkIn w a bs) (hok : BkOk bs) (hcl : bs.length ≤ cap) (hcm : cap ≤ maxLen) (hcn : a = none → bs.length = 0 ∧ cap = 0) (hz : NIn w an zs) (hzn : an = none → zs = [] ∧ cn = 0) :
    Calls Try.prog 6 #[.slice a bs.length cap, .int .i64 turn, .slice an zs.length cn] w fun e w' => e = .returned (.bool true) ∧ Below w.heap.size w w' := by
  have A := Lib.hid (fun W => awake_any W)
  have F := Lib.hid (fun W hW => few_any bs a cap W (hin.below hW) hok)
  have HZN := Lib.hid hzn
  have HZ := Lib.hid hz
  clear hzn hz
  cases hf : fewB bs with
  | false =>
    rw [hf] at F
    clear hin hok hf
    go_enter Try.func6, Try.ntmps6
    go_wp2_with (first | (go_at_call 8; refine (A.out _).mono ?_; rintro e w1 ⟨rfl, hb1⟩) | (go_at_call 9; refine (F.out _ hb1).mono ?_; rintro e w2 ⟨rfl, rfl⟩))
    go_ret
    exact ⟨rfl, hb1⟩
  | true =>
    rw [hf] at F
    have hl := few_len bs hf
    by_cases ht0 : turn < 0
    · clear hin hok hf
      go_enter Try.func6, Try.ntmps6
      go_wp2_with (first | (go_at_call 8; refine (A.out _).mono ?_; rintro e w1 ⟨rfl, hb1⟩) | (go_at_call 9; refine (F.out _ hb1).mono ?_; rintro e w2 ⟨rfl, rfl⟩))
      go_ret
      exact ⟨rfl, hb1⟩
    by_cases ht1 : turn ≥ (bs.length : Int)
    · clear hin hok hf
      go_enter Try.func6, Try.ntmps6
      go_wp2_with (first | (go_at_call 8; refine (A.out _).mono ?_; rintro e w1 ⟨rfl, hb1⟩) | (go_at_call 9; refine (F.out _ hb1).mono ?_; rintro e w2 ⟨rfl, rfl⟩))
      go_ret
      exact ⟨rfl, hb1⟩
    obtain ⟨t, rfl⟩ : ∃ t : Nat, turn = t := ⟨turn.toNat, by omega⟩
    have ht : t < bs.length := by omega
    by_cases h100 : (zs.length : Int) > 100
    · have hd0 : decide ((t : Int) < 0) = false := decide_eq_false (by omega)
      clear hin hok hf
      go_enter Try.func6, Try.ntmps6
      go_wp2_with (first | (go_at_call 8; refine (A.out _).mono ?_; rintro e w1 ⟨rfl, hb1⟩) | (go_at_call 9; refine (F.out _ hb1).mono ?_; rintro e w2 ⟨rfl, rfl⟩))
      go_ret
      exact ⟨rfl, hb1⟩
    have HI : Hid (∀ W, Below w.heap.size w W → BkIn W a bs) := fun W hW => hin.below hW
    have HO := Lib.hid hok
    have M1 := Lib.hid (fun W hW => made_any bs a cap W (by omega) (hin.below hW) hok)
    obtain ⟨x, rfl⟩ : ∃ x, a = some x := by
      cases a with
      | none => have := hcn rfl; omega
      | some x => exact ⟨x, rfl⟩
    obtain ⟨t1, ht1e⟩ : ∃ t1 : Nat, t1 = t + 1 := ⟨_, rfl⟩
    have hw1 : IntKind.i64.wrap ((t : Int) + 1) = (t1 : Int) := by rw [IntKind.wrap_i64]; omega
    obtain ⟨ad, hoa, had2⟩ : ∃ ad, (if cap = t1 then some x else some (x.add (t1 * 3))) = some ad ∧ (t1 < bs.length → ad = x.add (t1 * 3)) := by
      by_cases h : cap = t1
      · exact ⟨x, if_pos h, fun h2 => by omega⟩
      · exact ⟨_, if_neg h, fun _ => rfl⟩
    have HOA := Lib.hid hoa
    have HAD := Lib.hid had2
    have HT := Lib.hid (Nat.le_of_lt ht)
    have HT1 : Hid (t1 ≤ bs.length) := show t1 ≤ bs.length by omega
    have HL0 : Hid (([] : List Bk).length + bs.length ≤ 1000) := show ([] : List Bk).length + bs.length ≤ 1000 by rw [List.length_nil]; omega
    have HL1 : Hid (([] ++ bs.take t).length + bs.length ≤ 1000) := show ([] ++ bs.take t).length + bs.length ≤ 1000 by rw [List.nil_append, List.length_take]; omega
    have HWI : Hid (([] ++ bs.take t ++ bs.drop t1) = without bs t) := show _ = _ by rw [ht1e, List.nil_append]; rfl
    have HWO : Hid (BkOk (without bs t)) := fun b hb => hok b ((without_sub bs t).subset hb)
    have HWL : Hid ((without bs t).length ≤ 100) := show (without bs t).length ≤ 100 by have := (without_sub bs t).length_le; omega
    have HTL := Lib.hid ht
    have HL81 := Lib.hid hl
    have H100 : Hid (zs.length ≤ 100) := show zs.length ≤ 100 by omega
    have hd0 : decide ((t : Int) < 0) = false := decide_eq_false (by omega)
    have hd1 : ¬ (t : Int) ≥ (bs.length : Int) := by omega
    have hd2 : decide (bs.length ≤ t) = false := decide_eq_false (by omega)
    have hd3 : decide (100 < zs.length) = false := decide_eq_false (by omega)
    have hd4 : ¬ (zs.length : Int) > 100 := by omega
    have hq0 : (0 : Int) ≤ (t : Int) := by omega
    have hq1 : (t : Int) ≤ (bs.length : Int) := by omega
    have hq2 : (t : Int) ≤ (cap : Int) := by omega
    have hq3 : (bs.length : Int) ≤ (cap : Int) := by omega
    have hq4 : (0 : Int) ≤ (t1 : Int) := by omega
    have hq5 : (t1 : Int) ≤ (bs.length : Int) := by omega
    have hq6 : (t1 : Int) ≤ (cap : Int) := by omega
    have M0 : Hid (∀ W, Below w.heap.size w W → MSt w.heap.size w (.slice none 0 0) [] none W) := fun W hW => MSt.start hW hW.size
    have B0 : Hid (∀ W, Below w.heap.size w W → BSt w.heap.size w (.slice none 0 0) [] W) := fun W hW => BSt.start hW hW.size
    by_cases h0 : newE bs = 0
    · have H0 := Lib.hid h0
      have HW0 := Lib.hid (without_zero bs t h0)
      obtain ⟨id, hid⟩ : ∃ id, id = bs[t].id := ⟨_, rfl⟩
      have HLAW := Lib.hid (moves_law2 bs t ht h0 id hid)
      have HCI : Hid (∀ W, Below w.heap.size w W → W.cell? (x.add (t * 3)) = some (.int .i64 id)) := fun W hW => by
        obtain ⟨x', hx', c0, _, _⟩ := HI.out W hW t HTL.out
        obtain rfl := Option.some.inj hx'
        rw [hid]; exact c0
      clear hin hok hf hcn hoa had2 ht0 ht1 h100 ht hl ht1e h0 hid
      go_enter Try.func6, Try.ntmps6
      go_wp2_with (first | (go_at_call 8; refine (A.out _).mono ?_; rintro e w1 ⟨rfl, hb1⟩) | (go_at_call 9; refine (F.out _ hb1).mono ?_; rintro e w2 ⟨rfl, rfl⟩))
      have B1 := Lib.hid (M0.out _ hb1)
      go_region_law (first | (go_simp; go_at_call 20; (with_reducible refine Calls.mono (MSt.call (B := w.heap.size) (w0 := w) (v := ?_) (bs := ?_) ?_ M1.out H0.out) ?_); rotate_left 2; (focus (repeat (first | exact B1.out | refine MSt.drew ?_ | (refine MSt.fresh3 ?_)))); rintro e w5 ⟨R, u, ps, rfl, hpp, h5⟩; have HPP := Lib.hid hpp; have H5 := Lib.hid h5; clear h5 hpp) | (refine step_append_at (Operand.tmp 38) (Operand.tmp 41) 22 rfl rfl ?_; refine ex_mono (MSt.front (B := w.heap.size) (w0 := w) (bs := []) (r := ?_) ?_ HI.out _ t _ HT.out HL0.out) ?_; rotate_left; (focus (repeat (first | exact H5.out | exact B1.out | refine MSt.drew ?_ | (refine MSt.fresh3 ?_) | (refine MSt.fresh ?_ ?_; (focus (first | rfl | (simp; done))))))); intro v3 w3 h3; have H3 := Lib.hid h3; clear h3) | (refine step_append_at (Operand.tmp 42) (Operand.tmp 46) 22 rfl rfl ?_; refine ex_mono (MSt.rest (B := w.heap.size) (w0 := w) (bs := [] ++ bs.take t) (r := ?_) ?_ HI.out _ t1 _ _ HT1.out rfl _ ad HOA.out HAD.out HL1.out) ?_; rotate_left; (focus (repeat (first | exact H3.out | exact H5.out | refine MSt.drew ?_))); intro v4 w4 h4; have H4 := Lib.hid h4; clear h4) | (go_simp; go_at_call 20; (with_reducible refine Calls.mono (MSt.last (B := w.heap.size) (w0 := w) (bs := [] ++ bs.take t ++ bs.drop t1) (R := R) (u := u) (ps := ps) ?_ ?_ ?_ ?_) ?_); (focus (repeat (first | exact H4.out | exact H5.out | refine MSt.drew ?_))); (focus (rw [HWI.out]; exact HWL.out)); (focus (rw [HWI.out]; exact HWO.out)); (focus (rw [HWI.out]; exact HW0.out)); rintro e w6 ⟨S, y, qs, rfl, h6⟩; rw [HWI.out] at h6; have H6 := Lib.hid h6; clear h6))
      all_goals (try simp [Exit.then, Act.put])
      all_goals (try rw [HOA.out])
      all_goals (clear H4 H3 H5 hb1 hd1 hd2 hd3 hd4 hq4 hq5 hq6 hw1)
      all_goals go_wp2_with (fail)
      all_goals (
        obtain ⟨e1, e2, hRr, hRs, hb6⟩ := H6.out
        obtain ⟨e3, e4⟩ := HPP.out
        have HLAW2 := Lib.hid (HLAW.out ps qs e3 e4 e1 e2)
        have hlp : ps.length ≤ 1000000 := by
          have h1 := gath_len bs bs.length (Nat.le_refl _)
          have h2 := e3.length_eq
          have h3 := HL81.out
          omega
        have hlq : qs.length ≤ 1000000 := by
          have h1 := gath_len (without bs t) (without bs t).length (Nat.le_refl _)
          have h2 := e1.length_eq
          have h3 := HWL.out
          omega
        refine (rpts_any _ R u ps w6 hRr hlp).mono ?_
        rintro e w7 ⟨v7, rfl, k1, k2⟩
        have hb7 := hb6.trans (k2.mono hb6.size)
        have FR := Lib.hid (fun W (hW : Below w7.heap.size w7 W) n => find_any _ R n u ps W ((hRr.below k2).below hW) e4 hlp)
        have FS := Lib.hid (fun W (hW : Below w7.heap.size w7 W) n => find_any _ S n y qs W ((hRs.below k2).below hW) e2 hlq)
        obtain ⟨len, hln⟩ : ∃ len, len = ps.length := ⟨_, rfl⟩
        have HC : Hid (∀ k, k < len → ∃ g p c, v7 = .slice (some ⟨g, 0, none⟩) len c ∧ ∀ W, Below w7.heap.size w7 W → W.cell? ⟨g, k * 2, none⟩ = some (.int .u64 ((p : Nat) : Int))) := fun k hk => by
          obtain ⟨g, c, rfl, hc⟩ := k1.shape (by omega)
          exact ⟨g, ps[k].1, c, by rw [hln], fun W hW => (hW.cell (World.block_lt_of_cell? w7 _ (hc k (by omega)).1)).trans (hc k (by omega)).1⟩
        obtain ⟨ap, cp, rfl⟩ := k1.val
        rw [← hln]
        have HB7 := Lib.hid hb7
        have HZ7 : Hid (NIn w7 an zs ∧ (an = none → zs = [] ∧ cn = 0)) := ⟨HZ.out.below hb7, HZN.out⟩
        clear e1 e2 e3 e4 hRr hRs hb6 hlp hlq k1 k2 hln hb7 H6 HPP HLAW
        go_wp2_with (fail)
        go_loopw [2, 10] (fun v i wr => ∃ (k : Nat) (ys : List Nat) (ay : Option Addr) (cy : Nat), k ≤ len ∧ k ≤ 200 ∧ i = .int .i64 k ∧ v = .slice ay ys.length cy ∧ Hid (NIn wr ay ys ∧ (ay = none → ys = [] ∧ cy = 0)) ∧ ys.length ≤ 100 + 2 * k ∧ Below w7.heap.size w7 wr) (fun _ i _ => len - (intOf i).toNat)
        case atStart => exact ⟨0, zs, an, cn, by omega, by omega, rfl, rfl, HZ7, by have := H100.out; omega, Below.refl _ _⟩
        case round =>
          obtain ⟨k, ys, ay, cy, hk, hk2, rfl, rfl, hny, hyl, hb⟩ := hrel
          by_cases hlt : k < len ∧ k < 200
          · obtain ⟨hlt1, hlt2⟩ := hlt
            obtain ⟨g, p, c, hv, hc⟩ := HC.out k hlt1
            injection hv with hv1 _ hv2
            subst hv1 hv2
            have HCP : Hid (∀ W, Below wr.heap.size wr W → W.cell? ⟨g, k * 2, none⟩ = some (.int .u64 (p : Int))) := fun W hW => hc W (hb.trans (hW.mono hb.size))
            have c0 := hc wr hb
            have hgl := World.block_lt_of_cell? wr _ c0
            obtain ⟨q, hq⟩ : ∃ q : Nat, IntKind.u64.wrap ((p : Int) + 1) = (q : Int) := ⟨(p + 1) % 18446744073709551616, by rw [IntKind.wrap_u64]; omega⟩
            have N0 : Hid (NSt wr.heap.size wr p q (.slice none 0 0) [] none wr) := NSt.start (Below.refl _ _) (Nat.le_refl _)
            have HSRC : Hid (∀ W, Below wr.heap.size wr W → NIn W ay ys) := fun W hW => hny.out.1.below hW
            have HNN : Hid (ay = none → ys = [] ∧ cy = 0) := hny.out.2
            have HL2 : Hid (([] : List Nat).length + ys.length ≤ 100000) := show ([] : List Nat).length + ys.length ≤ 100000 by rw [List.length_nil]; omega
            have HL3 : Hid (([] ++ ys).length + 2 ≤ 100000) := show ([] ++ ys).length + 2 ≤ 100000 by rw [List.nil_append]; omega
            have HB := Lib.hid hb
            have hkl : (k : Int) < (len : Int) := by omega
            clear hc hny hb hk hk2
            go_wp2_with (fail)
            go_region_held3 (fun w' => w'.cell? ⟨g, k * 2, none⟩ = some (.int .u64 (p : Int))) (go_keep) (first | ((with_reducible refine step_append_v (Operand.tmp 69) (Operand.tmp 70) 50 ?_ ?_ rfl rfl ?_ ?_ ?_); rotate_left 2; (focus (simp [Act.eval, Act.put]; first | rfl | done)); (focus (simp [Act.eval, Act.put]; first | rfl | done)); (with_reducible refine ex_mono (NSt.all (B := wr.heap.size) (w0 := wr) (p := p) (q := q) (zs := []) (z := ?_) ?_ HSRC.out HNN.out _ HL2.out) ?_); rotate_left; (focus (repeat (first | (with_reducible exact N0.out) | (with_reducible refine NSt.drew ?_) | (with_reducible refine NSt.fresh ?_) | ((with_reducible refine NSt.fresh' ?_ ?_); (focus (first | (with_reducible rfl) | (simp; done)))) | (with_reducible refine NSt.more ?_) | ((with_reducible refine NSt.more' ?_ ?_); (focus (first | (with_reducible rfl) | (simp; done))))))); intro v3 w3 h3; have g1 := HCP.out w3 h3.bel; have H3 := Lib.hid h3; clear h3) | ((with_reducible refine step_append_v (Operand.tmp 71) (Operand.tmp 83) 50 ?_ ?_ rfl rfl ?_ ?_ ?_); rotate_left 2; (focus (simp [Act.eval, Act.put]; first | rfl | done)); (focus (simp [Act.eval, Act.put]; first | rfl | done)); (with_reducible refine ex_mono (NSt.pair (B := wr.heap.size) (w0 := wr) (p := p) (q := q) (zs := [] ++ ys) ?_ _ _ HL3.out) ?_); (focus (repeat (first | (with_reducible exact H3.out) | ((with_reducible refine NSt.zeq ?_ H3.out); (focus (simp; done))) | (with_reducible refine NSt.drew ?_) | (with_reducible refine NSt.more ?_) | ((with_reducible refine NSt.more' ?_ ?_); (focus (first | (with_reducible rfl) | (simp; done))))))); intro v4 w4 h4; have g2 := HCP.out w4 h4.bel; have H4 := Lib.hid h4; clear h4))
            all_goals (
              obtain ⟨ys2, hys2⟩ : ∃ ys2, ys2 = [] ++ ys ++ [p, q] := ⟨_, rfl⟩
              rw [← hys2] at H4
              obtain ⟨a4, c4, hv4, n1, n2, _⟩ := H4.out.open
              subst hv4
              have hl2 : ys2.length ≤ 100 + 2 * (k + 1) := by rw [hys2, List.nil_append, List.length_append]; show ys.length + 2 ≤ _; omega
              have hb4 := HB.out.trans (H4.out.bel.mono HB.out.size)
              have HN4 : Hid (NIn w4 a4 ys2 ∧ (a4 = none → ys2 = [] ∧ c4 = 0)) := ⟨n1, n2⟩
              have hlt3 : k + 1 ≤ len := by omega
              have hlt4 : k + 1 ≤ 200 := by omega
              clear H3 H4 n1 n2 hys2 g1 g2 c0 HCP HSRC HNN HL2 HL3 N0 hyl
              try simp [Exit.then, Act.put]
              go_wp2_with (fail)
              exact ⟨⟨k + 1, ys2, a4, c4, hlt3, hlt4, by go_num, rfl, HN4, hl2, hb4⟩, by simp [intOf] <;> omega⟩)
          · have HF : Hid (∀ W, Below wr.heap.size wr W → Below w7.heap.size w7 W) := fun W hW => hb.trans (hW.mono hb.size)
            have HN : Hid (∀ W, Below wr.heap.size wr W → NIn W ay ys) := fun W hW => hny.out.1.below hW
            have HRET : Hid (∀ W, Below wr.heap.size wr W → Below w.heap.size w W) := fun W hW => HB7.out.trans ((HF.out W hW).mono HB7.out.size)
            have hor : ¬ k < len ∨ (k < len ∧ ¬ k < 200) := by omega
            have hy5 : ys.length ≤ 500 := by omega
            clear hny hb HC hk hk2 hlt hyl
            rcases hor with h1 | ⟨h1, h2⟩
            all_goals (go_wp2_with (fail))
            all_goals (
              go_loopw [11] (fun i W => ∃ j : Nat, j ≤ ys.length ∧ i = .int .i64 j ∧ Below wr.heap.size wr W) (fun i _ => ys.length - (intOf i).toNat)
              case atStart => exact ⟨0, by omega, rfl, Below.refl _ _⟩
              case round =>
                obtain ⟨j, hj, rfl, hb2⟩ := hrel
                by_cases hjl : j < ys.length
                · obtain ⟨x2, rfl, cz⟩ := HN.out wr hb2 j hjl
                  obtain ⟨z, hz⟩ : ∃ z, z = ys[j] := ⟨_, rfl⟩
                  have HZ : Hid (∀ W, Below wr.heap.size wr W → W.cell? (x2.add j) = some (.int .u64 (z : Int))) := fun W hW => by
                    have hlt := World.block_lt_of_cell? wr _ cz
                    rw [hz]; exact (hW.cell hlt).trans cz
                  rw [← hz] at cz
                  obtain ⟨l1, l2, l3⟩ := HLAW2.out z
                  have FRz := Lib.hid (FR.out wr (HF.out wr hb2) z)
                  have FSz := Lib.hid (fun W (hW : Below wr.heap.size wr W) => FS.out W (HF.out W (hb2.trans (hW.mono hb2.size))) z)
                  have HCI2 : Hid (∀ W, Below wr.heap.size wr W → W.cell? (x.add (t * 3)) = some (.int .i64 id)) := fun W hW => HCI.out W (HRET.out W (hb2.trans (hW.mono hb2.size)))
                  obtain ⟨al, hal⟩ : ∃ al, al = fA ps z := ⟨_, rfl⟩
                  obtain ⟨be, hbe⟩ : ∃ be, be = fA qs z := ⟨_, rfl⟩
                  obtain ⟨o1, ho1⟩ : ∃ o, o = fB ps := ⟨_, rfl⟩
                  obtain ⟨o2, ho2⟩ : ∃ o, o = fB qs := ⟨_, rfl⟩
                  rw [← hal, ← ho1] at FRz
                  rw [← hbe, ← ho2] at FSz
                  rw [← hbe] at l1
                  rw [← hal, ← hbe, ← ho1, ← ho2] at l2
                  rw [← ho1, ← ho2] at l3
                  have HB2 := Lib.hid hb2
                  have hq3 : ((be : Int) == id) = false := by rw [beq_eq_false_iff_ne]; exact l1
                  clear hal hbe ho1 ho2 hz l1
                  by_cases hai : (al : Int) = id
                  · have hq4 : ((al : Int) != id) = false := by simp [bne, hai]
                    cases o2 with
                    | false =>
                      clear l2 l3 hai
                      go_wp2_with (first | (go_at_call 15; (with_reducible refine FRz.out.mono ?_); rintro e w9 ⟨rfl, hb9⟩; have cz2 := HZ.out w9 hb9) | (go_at_call 15; (with_reducible refine (FSz.out _ hb9).mono ?_); rintro e w10 ⟨rfl, hb10⟩; have hb90 := hb9.trans (hb10.mono hb9.size); have cz3 := HCI2.out w10 hb90))
                      exact ⟨⟨j + 1, by omega, by go_num, HB2.out.trans (hb90.mono HB2.out.size)⟩, by simp [intOf] <;> omega⟩
                    | true =>
                      obtain rfl := l3 rfl
                      clear l2 l3 hai
                      go_wp2_with (first | (go_at_call 15; (with_reducible refine FRz.out.mono ?_); rintro e w9 ⟨rfl, hb9⟩; have cz2 := HZ.out w9 hb9) | (go_at_call 15; (with_reducible refine (FSz.out _ hb9).mono ?_); rintro e w10 ⟨rfl, hb10⟩; have hb90 := hb9.trans (hb10.mono hb9.size); have cz3 := HCI2.out w10 hb90))
                      exact ⟨⟨j + 1, by omega, by go_num, HB2.out.trans (hb90.mono HB2.out.size)⟩, by simp [intOf] <;> omega⟩
                  · have hq4 : ((al : Int) != id) = true := by simp [bne, hai]
                    obtain ⟨rfl, rfl⟩ := l2 hai
                    clear l2 l3 hai
                    cases o1 with
                    | false =>
                      go_wp2_with (first | (go_at_call 15; (with_reducible refine FRz.out.mono ?_); rintro e w9 ⟨rfl, hb9⟩; have cz2 := HZ.out w9 hb9) | (go_at_call 15; (with_reducible refine (FSz.out _ hb9).mono ?_); rintro e w10 ⟨rfl, hb10⟩; have hb90 := hb9.trans (hb10.mono hb9.size); have cz3 := HCI2.out w10 hb90))
                      exact ⟨⟨j + 1, by omega, by go_num, HB2.out.trans (hb90.mono HB2.out.size)⟩, by simp [intOf] <;> omega⟩
                    | true =>
                      go_wp2_with (first | (go_at_call 15; (with_reducible refine FRz.out.mono ?_); rintro e w9 ⟨rfl, hb9⟩; have cz2 := HZ.out w9 hb9) | (go_at_call 15; (with_reducible refine (FSz.out _ hb9).mono ?_); rintro e w10 ⟨rfl, hb10⟩; have hb90 := hb9.trans (hb10.mono hb9.size); have cz3 := HCI2.out w10 hb90))
                      exact ⟨⟨j + 1, by omega, by go_num, HB2.out.trans (hb90.mono HB2.out.size)⟩, by simp [intOf] <;> omega⟩
                · obtain rfl : j = ys.length := by omega
                  go_wp2_with (fail)
                  go_ret
                  exact ⟨rfl, HRET.out _ hb2⟩))
    · have H0 := Lib.hid h0
      clear hin hok hf hcn hoa had2 ht0 ht1 h100 ht hl ht1e h0
      go_enter Try.func6, Try.ntmps6
      go_wp2_with (first | (go_at_call 8; refine (A.out _).mono ?_; rintro e w1 ⟨rfl, hb1⟩) | (go_at_call 9; refine (F.out _ hb1).mono ?_; rintro e w2 ⟨rfl, rfl⟩))
      have B1 := Lib.hid (B0.out _ hb1)
      go_region_law (first | (go_simp; go_at_call 20; (with_reducible refine Calls.mono (BSt.callN (B := w.heap.size) (w0 := w) (v := ?_) (bs := ?_) ?_ M1.out H0.out) ?_); rotate_left 2; (focus (repeat (first | exact H4.out.st | exact H3.out.st | exact H3.out | exact B1.out | refine BSt.drew ?_ | (refine BSt.fresh3 ?_) | (refine BSt.fresh2 ?_ ?_; (focus (first | rfl | (simp; done))))))); rintro e w5 ⟨rfl, h5⟩; have H5 := Lib.hid h5; clear h5) | (refine step_append_at (Operand.tmp 38) (Operand.tmp 41) 22 rfl rfl ?_; refine ex_mono (BSt.front (B := w.heap.size) (w0 := w) (bs := []) ?_ HI.out _ t _ HT.out HL0.out) ?_; (focus (repeat (first | exact H5.out.st | exact B1.out | refine BSt.drew ?_ | (refine BSt.fresh3 ?_) | (refine BSt.fresh2 ?_ ?_; (focus (first | rfl | (simp; done))))))); intro v3 w3 h3; have H3 := Lib.hid h3; clear h3) | (refine step_append_at (Operand.tmp 42) (Operand.tmp 46) 22 rfl rfl ?_; refine ex_mono (BSt.rest (B := w.heap.size) (w0 := w) (bs := [] ++ bs.take t) ?_ HI.out _ t1 _ _ HT1.out rfl _ ad HOA.out HAD.out HL1.out) ?_; (focus (repeat (first | exact H3.out | exact H5.out.st | refine BSt.drew ?_))); intro v4 w4 h4; have H4 := Lib.hid h4; clear h4) | (go_simp; go_at_call 20; (with_reducible refine Calls.mono (MSt.lastN (B := w.heap.size) (w0 := w) (bs := [] ++ bs.take t ++ bs.drop t1) (r := none) ?_ ?_ ?_) ?_); (focus (repeat (first | exact MSt.ofB H4.out | exact H5.out | refine MSt.drew ?_))); (focus (rw [HWI.out]; exact HWL.out)); (focus (rw [HWI.out]; exact HWO.out)); rintro e w6 ⟨p6, rfl, hb6⟩))
      all_goals (try simp [Exit.then, Act.put])
      all_goals go_wp2_with (fail)
      all_goals go_ret
      all_goals exact ⟨rfl, hb6⟩
theorem moves_walk (w : World) (bs : List Bk) (a : Option Addr) (cap : Nat) (hin : BkIn w a bs) (hok : BkOk bs) (hcl : bs.length ≤ cap) (hcm : cap ≤ maxLen) (hcn : a = none → bs.length = 0 ∧ cap = 0) (turn : Int) (_ : (Lit.int .i64 turn).wf = true) (zs : List Nat) (an : Option Addr) (cn : Nat) (hz : NIn w an zs) (hzn : an = none → zs = [] ∧ cn = 0) :
    Calls Try.prog 6 #[.slice a bs.length cap, .int .i64 turn, .slice an zs.length cn] w fun e w' => e = .returned (.bool true) ∧ Below w.heap.size w w' := movesA bs a cap turn zs an cn w hin hok hcl hcm hcn hz hzn
end Go.Proofs.Ytmeemajlcnpkeaa
