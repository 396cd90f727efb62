import Derived.Test.YtmeemajlcnpkeaaCopy
/- RingSet: the walk. -/
namespace Go.Proofs.Ytmeemajlcnpkeaa
open Go.RowKit
theorem same_ring {bs ms qs : List Bk} (hp : ms.Perm bs) (hl : qs.length = ms.length) (hk : ∀ j (h1 : j < ms.length) (h2 : j < qs.length), like ms[j] qs[j]) : (newE qs = 0 ↔ newE bs = 0) ∧ (allPts qs).Perm (allPts bs) := by
  obtain ⟨i1, i2, i3⟩ := like_all hl.symm hk
  obtain ⟨p1, p2⟩ := perm_all hp
  refine ⟨?_, ?_⟩
  · rw [← p1, newE_zero, newE_zero, ← i1, ← i3, hl]
  · rw [← i2]; exact p2
set_option maxRecDepth 100000 in
set_option maxHeartbeats 4000000 in
theorem setA (bs : List Bk) (a : Option Addr) (cap : Nat) (turn : Int) (addr : ByteArray) (n : Nat) (w : World) (hin : BkIn w a bs) (hok : BkOk bs) (hcl : bs.length ≤ cap) (hcm : cap ≤ maxLen) (hcn : a = none → bs.length = 0 ∧ cap = 0) (had : addr.size ≤ maxLen) :
    Calls Try.prog 4 #[.slice a bs.length cap, .int .i64 turn, .string addr, .int .u64 n] w fun e w' => e = .returned (.bool true) ∧ Below w.heap.size w w' := by
  have A := Lib.hid (fun W => awake_any W)
  have F := Lib.hid (fun W hW => few_any bs a cap W (hin.below hW) hok)
  cases hf : fewB bs with
  | false =>
    rw [hf] at F
    clear hin hok hf
    go_enter Try.func4, Try.ntmps4
    go_wp2_with (first | (go_at_call 8; refine (A.out _).mono ?_; rintro e w1 ⟨rfl, hb1⟩) | (go_at_call 9; refine (F.out _ hb1).mono ?_; rintro e w2 ⟨rfl, rfl⟩))
    go_ret
    exact ⟨rfl, hb1⟩
  | true =>
    rw [hf] at F
    have hl := few_len bs hf
    by_cases ht0 : turn < 0
    · clear hin hok hf
      go_enter Try.func4, Try.ntmps4
      go_wp2_with (first | (go_at_call 8; refine (A.out _).mono ?_; rintro e w1 ⟨rfl, hb1⟩) | (go_at_call 9; refine (F.out _ hb1).mono ?_; rintro e w2 ⟨rfl, rfl⟩))
      go_ret
      exact ⟨rfl, hb1⟩
    by_cases ht1 : turn > (bs.length : Int)
    · clear hin hok hf
      go_enter Try.func4, Try.ntmps4
      go_wp2_with (first | (go_at_call 8; refine (A.out _).mono ?_; rintro e w1 ⟨rfl, hb1⟩) | (go_at_call 9; refine (F.out _ hb1).mono ?_; rintro e w2 ⟨rfl, rfl⟩))
      go_ret
      exact ⟨rfl, hb1⟩
    obtain ⟨t, rfl⟩ : ∃ t : Nat, turn = t := ⟨turn.toNat, by omega⟩
    have ht : t ≤ bs.length := by omega
    by_cases ha4 : addr.size = 4
    · have ha5 : (addr.size : Int) = 4 := by omega
      have HI : Hid (∀ W, Below w.heap.size w W → BkIn W a bs) := fun W hW => hin.below hW
      have HO := Lib.hid hok
      have M1 := Lib.hid (fun W hW => made_any bs a cap W (by omega) (hin.below hW) hok)
      have hd0 : decide ((t : Int) < 0) = false := decide_eq_false (by omega)
      have hd1 : ¬ (t : Int) > (bs.length : Int) := by omega
      have hd2 : decide (bs.length < t) = false := decide_eq_false (by omega)
      have ha6 : ((addr.size : Int) != 4) = false := by rw [ha5]; rfl
      have hq0 : (0 : Int) ≤ (t : Int) := by omega
      have hq1 : (t : Int) ≤ (bs.length : Int) := by omega
      have hq2 : (t : Int) ≤ (cap : Int) := by omega
      have hq3 : (bs.length : Int) ≤ (cap : Int) := by omega
      have HAD4 := Lib.hid had
      have HA4 := Lib.hid ha4
      have HL81 := Lib.hid hl
      have HMS : Hid (([] ++ bs.drop t ++ bs.take t).Perm bs) := by
        show List.Perm _ _
        rw [List.nil_append]; exact (List.perm_append_comm).trans (by rw [List.take_append_drop])
      obtain ⟨ms, hms⟩ : ∃ ms, ms = [] ++ bs.drop t ++ bs.take t := ⟨_, rfl⟩
      rw [← hms] at HMS
      rcases Option.eq_none_or_eq_some a with rfl | ⟨x, rfl⟩
      case' inl =>
        obtain ⟨hz, hcz⟩ := hcn rfl
        obtain rfl : t = 0 := by omega
        subst hcz
        have hbs : bs = [] := List.eq_nil_of_length_eq_zero hz
        have hms0 : Hid (ms = []) := show ms = [] by rw [hms, hbs]; rfl
        rw [hz] at M1 F ⊢
        clear hin hok hf hcn hms ht0 ht1 had ha4 ha5 ht hl hcl hcm hbs hd1 hd2 hq1 hq2 hq3
        have hq4 : ((0 : Nat) : Int) = 0 := rfl
        have hz2 : ¬ ((0 : Int) < 0) := by omega
        go_enter Try.func4, Try.ntmps4
        go_wp2_with (first | (go_at_call 8; refine (A.out _).mono ?_; rintro e w1 ⟨rfl, hb1⟩) | (go_at_call 9; refine (F.out _ hb1).mono ?_; rintro e w2 ⟨rfl, rfl⟩))
        have HB1 := Lib.hid hb1
        go_region_law (first | (refine step_append_at (Operand.tmp 37) (Operand.tmp 40) 22 rfl rfl ?_; refine ex_mono (BSt.nil (B := w.heap.size) (w0 := w) (bs := []) ?_ _) ?_; (focus (repeat (first | refine BSt.drew ?_ | (refine BSt.fresh' ?_ ?_ ?_; (focus (first | rfl | (simp; done))); (focus (repeat (first | exact HB1.out | refine Below.drew ?_))); (focus (first | exact HB1.out.size | (simp; exact HB1.out.size))))))); intro v3 w3 h3; have H3 := Lib.hid h3; clear h3) | (refine step_append_at (Operand.tmp 41) (Operand.tmp 44) 22 rfl rfl ?_; refine ex_mono (BSt.nil (B := w.heap.size) (w0 := w) (bs := []) ?_ _) ?_; (focus (repeat (first | exact H3.out | refine BSt.drew ?_))); intro v4 w4 h4; have H4 : Hid (BSt w.heap.size w v4 ms w4) := (by rw [hms0.out]; exact h4); clear h4))
      case' inr =>
        obtain ⟨ad, hoa, had2⟩ : ∃ ad, (if cap = t then some x else some (x.add (t * 3))) = some ad ∧ (t < bs.length → ad = x.add (t * 3)) := by
          by_cases h : cap = t
          · exact ⟨x, if_pos h, fun h2 => by omega⟩
          · exact ⟨_, if_neg h, fun _ => rfl⟩
        have HOA := Lib.hid hoa
        have HAD := Lib.hid had2
        have HT := Lib.hid ht
        have HL0 : Hid (([] : List Bk).length + bs.length ≤ 1000) := show ([] : List Bk).length + bs.length ≤ 1000 by rw [List.length_nil]; omega
        have HL1 : Hid (([] ++ bs.drop t).length + bs.length ≤ 1000) := show ([] ++ bs.drop t).length + bs.length ≤ 1000 by rw [List.nil_append, List.length_drop]; omega
        have HMS2 := Lib.hid hms
        clear hin hok hf hcn hoa had2 ht0 ht1 hms had ha4
        go_enter Try.func4, Try.ntmps4
        go_wp2_with (first | (go_at_call 8; refine (A.out _).mono ?_; rintro e w1 ⟨rfl, hb1⟩) | (go_at_call 9; refine (F.out _ hb1).mono ?_; rintro e w2 ⟨rfl, rfl⟩))
        have HB1 := Lib.hid hb1
        go_region_law (first | (refine step_append_at (Operand.tmp 37) (Operand.tmp 40) 22 rfl rfl ?_; refine ex_mono (BSt.rest (B := w.heap.size) (w0 := w) (bs := []) ?_ HI.out _ t _ _ HT.out rfl _ ad HOA.out HAD.out HL0.out) ?_; (focus (repeat (first | refine BSt.drew ?_ | (refine BSt.fresh' ?_ ?_ ?_; (focus (first | rfl | (simp; done))); (focus (repeat (first | exact HB1.out | refine Below.drew ?_))); (focus (first | exact HB1.out.size | (simp; exact HB1.out.size))))))); intro v3 w3 h3; have H3 := Lib.hid h3; clear h3) | (refine step_append_at (Operand.tmp 41) (Operand.tmp 44) 22 rfl rfl ?_; refine ex_mono (BSt.front (B := w.heap.size) (w0 := w) (bs := [] ++ bs.drop t) ?_ HI.out _ t _ HT.out HL1.out) ?_; (focus (repeat (first | exact H3.out | refine BSt.drew ?_))); intro v4 w4 h4; have H4 : Hid (BSt w.heap.size w v4 ms w4) := (by rw [HMS2.out]; exact h4); clear h4))
        simp [Exit.then, Act.put]
        rw [HOA.out]
      all_goals (try simp [Exit.then, Act.put])
      all_goals (
        have hml : ms.length = bs.length := HMS.out.length_eq
        have hmok : BkOk ms := fun b hb => HO.out b (HMS.out.mem_iff.1 hb)
        have hml81 : ms.length ≤ 100 := by have := HL81.out; omega
        obtain ⟨am, cm, hv4, hcm4, hmr⟩ := H4.out.open
        subst hv4
        have hbel4 := H4.out.bel
        have HML := Lib.hid hml
        clear H3 H4 hb1 hml
        try clear hz
        go_wp2_with (fail)
        go_loopw [10] (fun i wr => ∃ (k : Nat) (qs : List Bk), k ≤ ms.length ∧ i = .int .i64 k ∧ Below w.heap.size w wr ∧ Hid (qs.length = ms.length ∧ BkOk qs ∧ MRow w.heap.size am qs wr ∧ ∀ j (h1 : j < ms.length) (h2 : j < qs.length), like ms[j] qs[j])) (fun i _ => ms.length - (intOf i).toNat)
        case atStart => exact ⟨0, ms, by omega, rfl, hbel4, rfl, hmok, hmr, fun j _ _ => ⟨rfl, rfl, Iff.rfl⟩⟩
        case round =>
          obtain ⟨k, qs, hk, rfl, hb, hqs⟩ := hrel
          obtain ⟨hq1, hq2, hq3, hq4⟩ := hqs.out
          clear hmr hbel4 hmok
          by_cases hlt : k < ms.length
          · have hlt2 : k < qs.length := by omega
            obtain ⟨g, cur, rfl, hg1, hg2, hg3⟩ := hq3.own (by omega)
            obtain ⟨x', hx', _, c1, _⟩ := hq3.inn k hlt2
            obtain rfl := Option.some.inj hx'
            have ea : ∀ n, (⟨g, 0, none⟩ : Addr).add n = ⟨g, n, none⟩ := fun n => by unfold Addr.add; split <;> simp_all
            rw [ea] at c1
            simp only at c1
            have hfz := Lib.frozen_of_heap hg2 (k * 3 + 1)
            obtain ⟨ad, hadq⟩ : ∃ ad, ad = qs[k].addr := ⟨_, rfl⟩
            rw [← hadq] at c1
            have HQ := Lib.hid (And.intro hq1 (And.intro hq2 (And.intro hq3 hq4)))
            have HADQ := Lib.hid hadq
            have hcmk : ms.length ≤ cm := hcm4
            have HB := Lib.hid hb
            have HG1 := Lib.hid hg1
            clear hq1 hq2 hq3 hq4 hg1 hg2 hg3 hadq hqs ea
            by_cases h4 : ad.size = 4
            · have h5 : (ad.size : Int) = 4 := by omega
              have HN : Hid ((qs.set k ⟨qs[k].id, addr, qs[k].wt⟩).length = ms.length ∧ BkOk (qs.set k ⟨qs[k].id, addr, qs[k].wt⟩) ∧ MRow w.heap.size (some ⟨g, 0, none⟩) (qs.set k ⟨qs[k].id, addr, qs[k].wt⟩) (wr.setCell ⟨g, k * 3 + 1, none⟩ (.string addr)) ∧ ∀ j (h1 : j < ms.length) (h2 : j < (qs.set k ⟨qs[k].id, addr, qs[k].wt⟩).length), like ms[j] (qs.set k ⟨qs[k].id, addr, qs[k].wt⟩)[j]) := by
                obtain ⟨q1, q2, q3, q4⟩ := HQ.out
                refine ⟨by rw [List.length_set]; exact q1, fun b hb => ?_, q3.put k hlt2 addr, fun j h1 h2 => ?_⟩
                · rcases List.mem_or_eq_of_mem_set hb with h | rfl
                  · exact q2 b h
                  · have h := q2 qs[k] (List.getElem_mem hlt2)
                    exact ⟨h.1, HAD4.out, h.2.2⟩
                · by_cases hjk : j = k
                  · subst hjk
                    rw [List.getElem_set_self]
                    have h := q4 j h1 hlt2
                    exact ⟨h.1, h.2.1, h.2.2.trans ⟨fun _ => HA4.out, fun _ => by rw [← HADQ.out]; exact h4⟩⟩
                  · rw [List.getElem_set_ne (by omega)]
                    exact q4 j h1 (by omega)
              clear HQ HADQ h4
              go_wp2_with (fail)
              exact ⟨⟨k + 1, _, by omega, by go_num, HB.out.setCell HG1.out _, HN⟩, by simp [intOf] <;> omega⟩
            · have h5 : ((ad.size : Int) == 4) = false := by rw [beq_eq_false_iff_ne]; omega
              clear h4
              go_wp2_with (fail)
              exact ⟨⟨k + 1, _, by omega, by go_num, HB.out, HQ⟩, by simp [intOf] <;> omega⟩
          · obtain rfl : k = ms.length := by omega
            have hml := HML.out
            obtain ⟨s1, s2⟩ := same_ring HMS.out hq1 hq4
            have M2 := Lib.hid (fun W hW => made_any qs am cm W (by omega) (hq3.inn.below hW) hq2)
            rw [hq1] at M2
            clear hml
            have HB := Lib.hid hb
            by_cases h0 : newE bs = 0
            · have g1 := gath_len bs bs.length (Nat.le_refl _)
              rw [gath_all bs h0] at g1
              go_wp2_with (first | (go_at_call 20; (with_reducible refine (M1.out _ hb).mono ?_); rintro e w5 ⟨hb5, _, h9⟩; obtain ⟨R, v, ps, rfl, r1, r2, r3⟩ := h9 h0) | (go_at_call 20; (with_reducible refine (M2.out _ hb5).mono ?_); rintro e w6 ⟨hb6, _, h9⟩; obtain ⟨S, u, ps2, rfl, t1, t2, t3⟩ := h9 (s1.2 h0)))
              have r4 : ps.Perm (allPts bs) := by rw [gath_all bs h0] at r2; exact r2
              have t4 : ps2.Perm (allPts bs) := by rw [gath_all qs (s1.2 h0)] at t2; exact t2.trans s2
              obtain rfl : ps = ps2 := sorted_one (r4.trans t4.symm) r3 t3
              have hlen : ps.length ≤ 1000000 := by have := r4.length_eq; have := HL81.out; omega
              have hR := r1.below hb6
              have LA := Lib.hid (fun W (hW : Below w6.heap.size w6 W) => len_any _ R v ps W (hR.below hW))
              have LB := Lib.hid (fun W (hW : Below w6.heap.size w6 W) => len_any _ S u ps W (t1.below hW))
              have PA := Lib.hid (fun W (hW : Below w6.heap.size w6 W) => place_any _ R n v ps W (hR.below hW) r3 hlen)
              have PB := Lib.hid (fun W (hW : Below w6.heap.size w6 W) => place_any _ S n u ps W (t1.below hW) r3 hlen)
              have HB6 := Lib.hid (hb.trans ((hb5.trans (hb6.mono hb5.size)).mono hb.size))
              have hR6 := Below.refl w6.heap.size w6
              rcases Nat.eq_zero_or_pos ps.length with hz9 | hz9
              · obtain rfl : ps = [] := List.eq_nil_of_length_eq_zero hz9
                have FA := Lib.hid (fun W (hW : Below w6.heap.size w6 W) => find_none _ R n v W (hR.below hW))
                have FB := Lib.hid (fun W (hW : Below w6.heap.size w6 W) => find_none _ S n u W (t1.below hW))
                obtain ⟨k0, hk0⟩ : ∃ k : Nat, k = lb [] n := ⟨_, rfl⟩
                rw [← hk0] at PA PB
                obtain ⟨l0, hl0⟩ : ∃ k : Nat, k = ([] : List (Nat × Nat)).length := ⟨_, rfl⟩
                rw [← hl0] at LA LB
                clear r1 r2 r3 r4 t1 t2 t3 t4 hR hb5 hb6 hb M1 M2 s1 s2 hq3 hq2 hq4 hqs hk0 hl0 hz9 hlen g1 h0 hq1
                go_wp2_with (first | (go_at_call 15; (with_reducible refine (FA.out _ hR6).mono ?_); rintro e w7 ⟨rfl, hb7⟩) | (go_at_call 15; (with_reducible refine (FB.out _ hb7).mono ?_); rintro e w8 ⟨rfl, hb8⟩; have hb78 := hb7.trans (hb8.mono hb7.size)) | (go_at_call 17; (with_reducible refine (LA.out _ hb78).mono ?_); rintro e w9 ⟨rfl, rfl⟩) | (go_at_call 17; (with_reducible refine (LB.out _ hb78).mono ?_); rintro e w9 ⟨rfl, rfl⟩) | (go_at_call 18; (with_reducible refine (PA.out _ hb78).mono ?_); rintro e w10 ⟨rfl, hb10⟩; have hb70 := hb78.trans (hb10.mono hb78.size)) | (go_at_call 18; (with_reducible refine (PB.out _ hb70).mono ?_); rintro e w11 ⟨rfl, hb11⟩; have hb71 := hb70.trans (hb11.mono hb70.size)))
                go_ret
                exact ⟨rfl, HB6.out.trans (hb71.mono HB6.out.size)⟩
              · have FA := Lib.hid (fun W (hW : Below w6.heap.size w6 W) => find_some _ R n v ps W (hR.below hW) r3 hlen hz9)
                have FB := Lib.hid (fun W (hW : Below w6.heap.size w6 W) => find_some _ S n u ps W (t1.below hW) r3 hlen hz9)
                obtain ⟨k0, hk0⟩ : ∃ k : Nat, k = lb ps n := ⟨_, rfl⟩
                rw [← hk0] at PA PB
                obtain ⟨l0, hl0⟩ : ∃ k : Nat, k = ps.length := ⟨_, rfl⟩
                rw [← hl0] at LA LB
                obtain ⟨o0, ho0⟩ : ∃ k : Nat, k = own ps n := ⟨_, rfl⟩
                rw [← ho0] at FA FB
                clear r1 r2 r3 r4 t1 t2 t3 t4 hR hb5 hb6 hb M1 M2 s1 s2 hq3 hq2 hq4 hqs hk0 hl0 hz9 hlen g1 h0 ho0 hq1
                go_wp2_with (first | (go_at_call 15; (with_reducible refine (FA.out _ hR6).mono ?_); rintro e w7 ⟨rfl, hb7⟩) | (go_at_call 15; (with_reducible refine (FB.out _ hb7).mono ?_); rintro e w8 ⟨rfl, hb8⟩; have hb78 := hb7.trans (hb8.mono hb7.size)) | (go_at_call 17; (with_reducible refine (LA.out _ hb78).mono ?_); rintro e w9 ⟨rfl, rfl⟩) | (go_at_call 17; (with_reducible refine (LB.out _ hb78).mono ?_); rintro e w9 ⟨rfl, rfl⟩) | (go_at_call 18; (with_reducible refine (PA.out _ hb78).mono ?_); rintro e w10 ⟨rfl, hb10⟩; have hb70 := hb78.trans (hb10.mono hb78.size)) | (go_at_call 18; (with_reducible refine (PB.out _ hb70).mono ?_); rintro e w11 ⟨rfl, hb11⟩; have hb71 := hb70.trans (hb11.mono hb70.size)))
                go_ret
                exact ⟨rfl, HB6.out.trans (hb71.mono HB6.out.size)⟩
            · have h0q : newE qs ≠ 0 := fun h => h0 (s1.1 h)
              go_wp2_with (first | (go_at_call 20; (with_reducible refine (M1.out _ hb).mono ?_); rintro e w5 ⟨hb5, h9, _⟩; obtain rfl := h9 h0) | (go_at_call 20; (with_reducible refine (M2.out _ hb5).mono ?_); rintro e w6 ⟨hb6, h9, _⟩; obtain rfl := h9 h0q))
              go_ret
              exact ⟨rfl, HB.out.trans ((hb5.trans (hb6.mono hb5.size)).mono HB.out.size)⟩)
    · have ha5 : ((addr.size : Int) != 4) = true := by rw [bne_iff_ne]; omega
      clear hin hok hf
      go_enter Try.func4, Try.ntmps4
      go_wp2_with (first | (go_at_call 8; refine (A.out _).mono ?_; rintro e w1 ⟨rfl, hb1⟩) | (go_at_call 9; refine (F.out _ hb1).mono ?_; rintro e w2 ⟨rfl, rfl⟩))
      go_ret
      exact ⟨rfl, hb1⟩
theorem set_walk (w : World) (bs : List Bk) (a : Option Addr) (cap : Nat) (hin : BkIn w a bs) (hok : BkOk bs) (hcl : bs.length ≤ cap) (hcm : cap ≤ maxLen) (hcn : a = none → bs.length = 0 ∧ cap = 0) (turn : Int) (_ : (Lit.int .i64 turn).wf = true) (addr : ByteArray) (had : addr.size ≤ maxLen) (n : Nat) (_ : n < 18446744073709551616) :
    Calls Try.prog 4 #[.slice a bs.length cap, .int .i64 turn, .string addr, .int .u64 n] w fun e w' => e = .returned (.bool true) ∧ Below w.heap.size w w' := setA bs a cap turn addr n w hin hok hcl hcm hcn had
end Go.Proofs.Ytmeemajlcnpkeaa
