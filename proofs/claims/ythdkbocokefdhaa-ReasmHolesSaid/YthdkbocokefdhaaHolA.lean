import Derived.Test.YthdkbocokefdhaaOncA
/- ReasmHoles: the walk. -/
namespace Go.Proofs.Ythdkbocokefdhaa
set_option maxRecDepth 100000
open Go.RowKit
def twoS : Sto := ⟨2, 1048576, 2⟩
set_option maxHeartbeats 16000000 in
theorem hole_walk (h : H4) (pay : List UInt8) (mtu : Int) (lost : Nat) (hlost : lost < 256) (ord : List Nat) (a : Option Addr) (cap : Nat) (w : World) (hin : U16In w a ord) (hl : h.src.length < 9223372036854775808 ∧ h.dst.length < 9223372036854775808 ∧ h.opt.length < 9223372036854775808) (hp : pay.length < 9223372036854775808) (hol : ord.length ≤ 9223372036854775807) :
    Calls Try.prog 8 #[hv h, .string (bs pay), .int .i64 mtu, .int .u8 (lost : Nat), .slice a ord.length cap] w fun e w' => e = .returned (.bool true) ∧ Below w.heap.size w w' := by
  obtain ⟨S, hS⟩ : ∃ S, S = bs pay := ⟨_, rfl⟩
  have hSz : S.size = pay.length := by rw [hS, bs_size]
  obtain ⟨h', hh'⟩ : ∃ h', h' = { h with off := 0, mf := false, df := false } := ⟨_, rfl⟩
  obtain ⟨R, hR⟩ : ∃ R, R = putE h' pay := ⟨_, rfl⟩
  have PU : pay.length ≤ 5000 → Hid (∀ V, Calls Try.prog 22 #[hv h', .string S] V fun e w' => e = .returned (putR R) ∧ Below V.heap.size V w') := fun h2 => Lib.hid (fun V => by
    rw [hR, hS]; exact rput_any h' pay V (by rw [hh']; exact hl) (by omega))
  have CA := Lib.hid awake_any
  obtain ⟨tos, id, off, ttl, proto, df, mf, src, dst, opt⟩ := h
  have hh2 : h' = ⟨tos, id, 0, ttl, proto, false, false, src, dst, opt⟩ := hh'
  clear hh'
  obtain ⟨Hx, hHx⟩ : ∃ k, k = w.heap.size := ⟨_, rfl⟩
  obtain ⟨W1, hW1⟩ : ∃ W, W = w.alloc (.cells #[.int .i64 tos, .int .i64 id, .int .i64 off, .int .i64 ttl, .int .i64 proto, .bool df, .bool mf, .string (bs src), .string (bs dst), .string (bs opt)] 43) := ⟨_, rfl⟩
  have HW1 : Hid (W1.heap[Hx]? = some (.cells #[.int .i64 tos, .int .i64 id, .int .i64 off, .int .i64 ttl, .int .i64 proto, .bool df, .bool mf, .string (bs src), .string (bs dst), .string (bs opt)] 43 (0, 0)) ∧ Below w.heap.size w W1) := Lib.hid (by rw [hW1, hHx]; exact ⟨alloc_new _ _, (Below.refl _ _).alloc (Nat.le_refl _) _⟩)
  have HIN := Lib.hid hin
  obtain ⟨n, hn⟩ : ∃ n, n = ord.length := ⟨_, rfl⟩
  have HN := Lib.hid hn
  rw [← hn] at hol ⊢
  rw [← hS]
  have HHX : Hid (w.heap.size ≤ Hx) := Lib.hid (by omega)
  have HS := Lib.hid hS
  have HSZ := Lib.hid hSz
  have HR := Lib.hid hR
  have HH2 := Lib.hid hh2
  have HPU := Lib.hid PU
  have HP := Lib.hid hp
  clear hin hn hS hSz hR hh2 PU hp
  unfold hv hc
  simp only at hl ⊢
  go_enter Try.func8, Try.ntmps8
  go_upto_region 1 with (fail)
  rw [← hW1, ← hHx]
  clear hW1 hHx
  go_upto_region 3 with (go_at_call 9; (with_reducible refine (CA.out _).mono ?_); rintro e W2 ⟨rfl, hb2⟩)
  have HW2 : Hid (W2.heap[Hx]? = some (.cells #[.int .i64 tos, .int .i64 id, .int .i64 off, .int .i64 ttl, .int .i64 proto, .bool df, .bool mf, .string (bs src), .string (bs dst), .string (bs opt)] 43 (0, 0)) ∧ Below w.heap.size w W2) := Lib.hid ⟨(hb2.block _ (heap_lt HW1.out.1)).trans HW1.out.1, HW1.out.2.trans (hb2.mono HW1.out.2.size)⟩
  clear hb2
  by_cases g1 : 5000 < S.size
  · have g1' : (5000 : Int) < (S.size : Int) := by omega
    go_wp2_with (fail)
    go_ret
    exact ⟨rfl, HW2.out.2⟩
  have g1' : ¬ (5000 : Int) < (S.size : Int) := by omega
  by_cases g2 : 300 < n
  · have g2' : (300 : Int) < (n : Int) := by omega
    go_wp2_with (fail)
    go_ret
    exact ⟨rfl, HW2.out.2⟩
  have g2' : ¬ (300 : Int) < (n : Int) := by omega
  have k2 := cellAt (i := 2) (v := .int .i64 off) HW2.out.1 rfl
  have k6 := cellAt (i := 6) (v := .bool mf) HW2.out.1 rfl
  have k5 := cellAt (i := 5) (v := .bool df) HW2.out.1 rfl
  have f2 := Lib.frozen_of_heap HW2.out.1 2
  have f6 := Lib.frozen_of_heap HW2.out.1 6
  have f5 := Lib.frozen_of_heap HW2.out.1 5
  go_upto_region 6 with (fail)
  obtain ⟨W3, hW3⟩ : ∃ W, W = ((W2.setCell ⟨Hx, 2, none⟩ (.int .i64 0)).setCell ⟨Hx, 6, none⟩ (.bool false)).setCell ⟨Hx, 5, none⟩ (.bool false) := ⟨_, rfl⟩
  have HW3 : Hid (W3.heap[Hx]? = some (.cells #[.int .i64 tos, .int .i64 id, .int .i64 0, .int .i64 ttl, .int .i64 proto, .bool false, .bool false, .string (bs src), .string (bs dst), .string (bs opt)] 43 (0, 0)) ∧ Below w.heap.size w W3) := Lib.hid (by
    rw [hW3]
    exact ⟨heap_set (heap_set (heap_set HW2.out.1 (by show 2 < 10; decide) _) (by show 6 < 10; decide) _) (by show 5 < 10; decide) _, ((HW2.out.2.setCell (p := ⟨Hx, 2, none⟩) HHX.out _).setCell (p := ⟨Hx, 6, none⟩) HHX.out _).setCell (p := ⟨Hx, 5, none⟩) HHX.out _⟩)
  rw [← hW3]
  clear hW3 k2 k6 k5 f2 f6 f5
  have k0 := cellAt (i := 0) (v := .int .i64 tos) HW3.out.1 rfl
  have k1 := cellAt (i := 1) (v := .int .i64 id) HW3.out.1 rfl
  have k2 := cellAt (i := 2) (v := .int .i64 0) HW3.out.1 rfl
  have k3 := cellAt (i := 3) (v := .int .i64 ttl) HW3.out.1 rfl
  have k4 := cellAt (i := 4) (v := .int .i64 proto) HW3.out.1 rfl
  have k5 := cellAt (i := 5) (v := .bool false) HW3.out.1 rfl
  have k6 := cellAt (i := 6) (v := .bool false) HW3.out.1 rfl
  have k7 := cellAt (i := 7) (v := .string (bs src)) HW3.out.1 rfl
  have k8 := cellAt (i := 8) (v := .string (bs dst)) HW3.out.1 rfl
  have k9 := cellAt (i := 9) (v := .string (bs opt)) HW3.out.1 rfl
  have PU2 : Hid (∀ V, Calls Try.prog 22 #[.agg #[.int .i64 tos, .int .i64 id, .int .i64 0, .int .i64 ttl, .int .i64 proto, .bool false, .bool false, .string (bs src), .string (bs dst), .string (bs opt)], .string S] V fun e w' => e = .returned (putR R) ∧ Below V.heap.size V w') := Lib.hid (by
    have h1 := (HPU.out (by have := HSZ.out; omega)).out
    rw [HH2.out] at h1
    exact h1)
  clear HPU
  obtain ⟨X, c, hpr, hcc⟩ : ∃ (X : ByteArray) (c : Nat), putR R = .tuple #[.string X, .int .i64 (c : Nat)] ∧ ((c = 0 ∧ R = .ok X.data.toList) ∨ c ≠ 0) := by
    cases hRR : R with
    | ok x => exact ⟨bs x, 0, rfl, .inl ⟨rfl, rfl⟩⟩
    | error e => exact ⟨⟨#[]⟩, e, rfl, .inr (by rw [HR.out] at hRR; exact putE_err hRR)⟩
  rw [hpr] at PU2
  clear hpr
  have HCC := Lib.hid hcc
  clear hcc
  go_upto_region 7 with (go_at_call 22; (with_reducible refine (PU2.out _).mono ?_); rintro e w4 ⟨rfl, hb4⟩)
  have HB4 : Hid (Below w.heap.size w w4) := Lib.hid (HW3.out.2.trans (hb4.mono HW3.out.2.size))
  clear hb4 k0 k1 k2 k3 k4 k5 k6 k7 k8 k9 PU2 CA
  by_cases hc0 : c = 0
  rotate_left
  · have q1 : ((c : Int) != 0) = true := by rw [bne_iff_ne]; omega
    have q2 : (c : Int) ≠ 0 := by omega
    go_wp2_with (fail)
    go_ret
    exact ⟨rfl, HB4.out⟩
  subst hc0
  have hput : putE h' pay = .ok X.data.toList := by
    rcases HCC.out with ⟨_, h1⟩ | h1
    · rw [← HR.out, h1]
    · exact absurd rfl h1
  have CUT := Lib.hid (fun V => cut_any X mtu h' pay hput (by rw [HH2.out]) (by rw [HH2.out]) V)
  have HPUT := Lib.hid hput
  clear hput HCC
  go_upto_region 10 with (go_at_call 23; (with_reducible refine (CUT.out _).mono ?_); rintro e w6 ⟨v, cc, rfl, hb6, hok⟩)
  have HB6 := Lib.hid (HB4.out.trans (hb6.mono HB4.out.size))
  have HOK := Lib.hid hok
  clear hok CUT hb6
  by_cases hc1 : cc = 0
  rotate_left
  · have q1 : (cc != 0) = true := by rw [bne_iff_ne]; exact hc1
    go_wp2_with (fail)
    go_ret
    exact ⟨rfl, HB6.out⟩
  subst hc1
  obtain ⟨l, z, nl, hrow, hcut⟩ := HOK.out rfl
  have hnl := hcut.len
  have hn0 := hcut.ok.n0
  obtain ⟨g, capl, rfl, _⟩ := World.ownsRow.form hrow (by rw [hnl]; exact hn0)
  rw [hnl]
  have HROW := Lib.hid hrow
  have HCUT := Lib.hid hcut
  clear hrow hcut HOK hnl
  by_cases g4 : nl < 2
  · have g4' : (nl : Int) < 2 := by omega
    go_wp2_with (fail)
    go_ret
    exact ⟨rfl, HB6.out⟩
  have g4' : ¬ (nl : Int) < 2 := by omega
  by_cases g3 : 600 < nl
  · have g3' : (600 : Int) < (nl : Int) := by omega
    go_wp2_with (fail)
    go_ret
    exact ⟨rfl, HB6.out⟩
  have g3' : ¬ (600 : Int) < (nl : Int) := by omega
  obtain ⟨kl, hkl⟩ : ∃ k, k = lost % nl := ⟨_, rfl⟩
  have hkn : kl < nl := by rw [hkl]; exact Nat.mod_lt _ hn0
  have hnz : ¬ (nl : Int) = 0 := by omega
  have hnzb : ((nl : Int) == 0) = false := by rw [beq_eq_false_iff_ne]; omega
  have u1 : IntKind.i64.wrap (lost : Int) = (lost : Int) := IntWalk.i64_in _ (by omega)
  have u2 : Int.tmod (lost : Int) (nl : Int) = (kl : Int) := by rw [hkl]; rfl
  have u3 : IntKind.i64.wrap (kl : Int) = (kl : Int) := IntWalk.i64_in _ (by omega)
  clear hkl
  have CN := Lib.hid (fun V => new_tf 2 1048576 2 V (by decide))
  go_upto_region 17 with (go_at_call 11; (with_reducible refine (CN.out _).mono ?_); rintro e w8 ⟨Tb, M, rfl, ht8, hb8⟩)
  obtain ⟨F, hF⟩ : ∃ F : Nat → Prop, F = fun k => k < w6.heap.size := ⟨_, rfl⟩
  have HT0 : Hid (TF F Tb M twoS [] w8) := Lib.hid (by rw [hF]; exact ht8)
  have HK0 : Hid (Kp F w6 w8) := Lib.hid (by rw [hF]; exact Kp.of_below hb8 (fun k hk => hk))
  have HF : Hid (∀ k, k < w6.heap.size → F k) := Lib.hid (fun k hk => by rw [hF]; exact hk)
  clear hF ht8 hb8 CN
  have CL : Hid (∀ (q : Nat) (S' : Nat → Bool) (L : List En) (V : World), q < nl → q ≠ kl → S' kl = false → TF F Tb M twoS L V → OSt h' pay z nl S' L 0 → GoodT twoS L → AgeT twoS L → Kp F w6 V →
      ∃ (x : ByteArray) (L' : List En), V.cell? ⟨g, q, none⟩ = some (.string x) ∧ OSt h' pay z nl (fun i => S' i || decide (i = q)) L' 0 ∧ GoodT twoS L' ∧ AgeT twoS L' ∧ Calls Try.prog 15 #[.pointer (some ⟨Tb, 0, none⟩), .string x] V (fun e w' => e = .returned (.tuple #[.string ⟨#[]⟩, .int .i64 10]) ∧ TF F Tb M twoS L' w' ∧ Kp F w6 w')) := Lib.hid (by
    intro q S' L V hq hqk hsk htf hos hgd hag hkp
    obtain ⟨x, hx, hlx⟩ := HCUT.out.at' q hq
    obtain ⟨L', g1, g2⟩ := hole_step HCUT.out.ok (by rw [HH2.out]) (by rw [HH2.out]) HPUT.out (st := twoS) (by decide) (by decide) hos hq hkn hsk hqk hx
    have hr2 : SRow w4.heap.size (.slice (some ⟨g, 0, none⟩) l.length capl) l V := HROW.out.same fun b hb => hkp.block b (HF.out b (by obtain ⟨cur, hc⟩ := HROW.out.obj hb; exact heap_lt hc))
    obtain ⟨g', c', e1, e2⟩ := hr2.at q (by rw [HCUT.out.len]; exact hq)
    injection e1 with e1
    injection e1 with e1
    injection e1 with e1
    rw [← e1] at e2
    have e3 : l[q]'(by rw [HCUT.out.len]; exact hq) = bs x := by
      have := List.getElem?_eq_getElem (l := l) (i := q) (by rw [HCUT.out.len]; exact hq)
      rw [hlx] at this; exact (Option.some.inj this).symm
    rw [e3] at e2
    have hga := addT_good (x := x) hgd
    have hgb := hag.add hgd x
    have hc := htf.add hgd ⟨by decide, by decide⟩ (bs x) (by have := (putE_inv hx).2; rw [bs_size]; omega)
    rw [bs_list, g1] at hc
    rw [g1] at hga hgb
    exact ⟨bs x, L', e2, g2, hga, hgb, hc.mono fun e w' h => ⟨h.1, h.2.1, hkp.trans h.2.2⟩⟩)
  have wnn : IntKind.i64.wrap ((n : Int) + (nl : Int)) = (n : Int) + (nl : Int) := IntWalk.i64_in _ (by omega)
  go_wp2_with (fail)
  go_loopw [18, 19] (fun cm i V => ∃ (j : Nat) (S' : Nat → Bool) (L : List En) (came : Bool), j ≤ n + nl ∧ i = .int .i64 (j : Int) ∧ cm = .bool came ∧ Hid (TF F Tb M twoS L V) ∧ Hid (Kp F w6 V) ∧ Hid (OSt h' pay z nl S' L 0 ∧ GoodT twoS L ∧ AgeT twoS L) ∧ Hid (S' kl = false ∧ (∀ i, i < nl → S' i = true → came = true) ∧ ∀ m, n ≤ m → m < j → m % nl ≠ kl → S' (m % nl) = true)) (fun _ i _ => n + nl - (intOf i).toNat)
  case atStart => exact ⟨0, _, [], false, by omega, rfl, rfl, HT0, HK0, Lib.hid ⟨OSt.start hn0, GoodT.nil _, AgeT.nil _⟩, Lib.hid ⟨rfl, (fun i _ h => nomatch h), fun m h1 h2 => by omega⟩⟩
  case round =>
    obtain ⟨j, S', L, came, hj, rfl, rfl, htf, hkp, hos, hall⟩ := hrel
    have w4' : IntKind.i64.wrap ((j : Int) + 1) = ((j + 1 : Nat) : Int) := by rw [IntWalk.i64_in _ (by omega)]; rfl
    obtain ⟨r, hr⟩ : ∃ r, r = j % nl := ⟨_, rfl⟩
    have hrl : r < nl := by rw [hr]; exact Nat.mod_lt _ hn0
    have v1 : Int.tmod (j : Int) (nl : Int) = (r : Int) := by rw [hr]; rfl
    have v2 : IntKind.i64.wrap (r : Int) = (r : Int) := IntWalk.i64_in _ (by omega)
    have HRR := Lib.hid hr
    clear hr
    by_cases hlt : j < n + nl
    · have b0 : (j : Int) < (n : Int) + (nl : Int) := by omega
      by_cases hln : j < n
      · have b1 : (j : Int) < (n : Int) := by omega
        have hbV : Below w.heap.size w wr := HB6.out.trans ((hkp.out.below (fun k hk => HF.out k hk)).mono HB6.out.size)
        obtain ⟨A, hA, c0, o16⟩ := (HIN.out.below hbV) j (by rw [← HN.out]; exact hln)
        subst hA
        obtain ⟨o, ho⟩ : ∃ x, x = ord[j]'(by rw [← HN.out]; exact hln) := ⟨_, rfl⟩
        rw [← ho] at c0 o16
        obtain ⟨q, hq⟩ : ∃ q, q = o % nl := ⟨_, rfl⟩
        have hql : q < nl := by rw [hq]; exact Nat.mod_lt _ hn0
        have w1 : IntKind.i64.wrap (o : Int) = (o : Int) := IntWalk.i64_in _ (by omega)
        have w2 : Int.tmod (o : Int) (nl : Int) = (q : Int) := by rw [hq]; rfl
        have w3 : IntKind.i64.wrap (q : Int) = (q : Int) := IntWalk.i64_in _ (by omega)
        have b2 : (q : Int) < (nl : Int) := by omega
        clear ho hq hbV
        by_cases hqk : q = kl
        · have d1 : ((q : Int) == (kl : Int)) = true := by rw [beq_iff_eq]; omega
          have d2 : (q : Int) = (kl : Int) := by omega
          have HAL : Hid (S' kl = false ∧ (∀ i, i < nl → S' i = true → came = true) ∧ ∀ m, n ≤ m → m < j + 1 → m % nl ≠ kl → S' (m % nl) = true) := Lib.hid ⟨hall.out.1, hall.out.2.1, fun m h1 h2 => by omega⟩
          go_wp2_with (fail)
          exact ⟨⟨j + 1, S', L, came, by omega, by simp, rfl, htf, hkp, hos, HAL⟩, by simp [intOf]; omega⟩
        · have d1 : ((q : Int) == (kl : Int)) = false := by rw [beq_eq_false_iff_ne]; omega
          have d2 : ¬ (q : Int) = (kl : Int) := by omega
          obtain ⟨x, L', cq, ho2, hg2, hag2, hcall⟩ := CL.out q S' L wr hql hqk hall.out.1 htf.out hos.out.1 hos.out.2.1 hos.out.2.2 hkp.out
          have HCALL := Lib.hid hcall
          have HO2 := Lib.hid (And.intro ho2 (And.intro hg2 hag2))
          have HAL : Hid ((S' kl || decide (kl = q)) = false ∧ (∀ i, i < nl → (S' i || decide (i = q)) = true → true = true) ∧ ∀ m, n ≤ m → m < j + 1 → m % nl ≠ kl → (S' (m % nl) || decide (m % nl = q)) = true) := Lib.hid ⟨by rw [hall.out.1]; simp; omega, fun _ _ _ => rfl, fun m h1 h2 => by omega⟩
          clear hcall ho2 hg2 hag2
          go_wp2_with (go_at_call 15; (with_reducible refine (HCALL.out).mono ?_); rintro e W6 ⟨rfl, htf6, hkp6⟩)
          exact ⟨⟨j + 1, _, L', true, by omega, by simp, rfl, Lib.hid htf6, Lib.hid hkp6, HO2, Lib.hid ⟨HAL.out.1, fun _ _ _ => rfl, HAL.out.2.2⟩⟩, by simp [intOf]; omega⟩
      · have b1 : ¬ (j : Int) < (n : Int) := by omega
        have b2 : (r : Int) < (nl : Int) := by omega
        by_cases hqk : r = kl
        · have d1 : ((r : Int) == (kl : Int)) = true := by rw [beq_iff_eq]; omega
          have d2 : (r : Int) = (kl : Int) := by omega
          have HAL : Hid (S' kl = false ∧ (∀ i, i < nl → S' i = true → came = true) ∧ ∀ m, n ≤ m → m < j + 1 → m % nl ≠ kl → S' (m % nl) = true) := Lib.hid ⟨hall.out.1, hall.out.2.1, fun m h1 h2 h3 => by
            by_cases hm : m = j
            · rw [hm, ← HRR.out] at h3; exact absurd hqk h3
            · exact hall.out.2.2 m h1 (by omega) h3⟩
          go_wp2_with (fail)
          exact ⟨⟨j + 1, S', L, came, by omega, by simp, rfl, htf, hkp, hos, HAL⟩, by simp [intOf]; omega⟩
        · have d1 : ((r : Int) == (kl : Int)) = false := by rw [beq_eq_false_iff_ne]; omega
          have d2 : ¬ (r : Int) = (kl : Int) := by omega
          obtain ⟨x, L', cq, ho2, hg2, hag2, hcall⟩ := CL.out r S' L wr hrl hqk hall.out.1 htf.out hos.out.1 hos.out.2.1 hos.out.2.2 hkp.out
          have HCALL := Lib.hid hcall
          have HO2 := Lib.hid (And.intro ho2 (And.intro hg2 hag2))
          have HAL : Hid ((S' kl || decide (kl = r)) = false ∧ (∀ i, i < nl → (S' i || decide (i = r)) = true → true = true) ∧ ∀ m, n ≤ m → m < j + 1 → m % nl ≠ kl → (S' (m % nl) || decide (m % nl = r)) = true) := Lib.hid ⟨by rw [hall.out.1]; simp; omega, fun _ _ _ => rfl, fun m h1 h2 h3 => by
            by_cases hm : m = j
            · rw [hm, ← HRR.out]; simp
            · rw [hall.out.2.2 m h1 (by omega) h3]; rfl⟩
          clear hcall ho2 hg2 hag2
          go_wp2_with (go_at_call 15; (with_reducible refine (HCALL.out).mono ?_); rintro e W6 ⟨rfl, htf6, hkp6⟩)
          exact ⟨⟨j + 1, _, L', true, by omega, by simp, rfl, Lib.hid htf6, Lib.hid hkp6, HO2, Lib.hid ⟨HAL.out.1, fun _ _ _ => rfl, HAL.out.2.2⟩⟩, by simp [intOf]; omega⟩
    · have b0 : ¬ (j : Int) < (n : Int) + (nl : Int) := by omega
      obtain ⟨tg, htg, htk⟩ : ∃ tg, tg < nl ∧ tg ≠ kl := by
        by_cases h0 : kl = 0
        · exact ⟨1, by omega, by omega⟩
        · exact ⟨0, by omega, by omega⟩
      obtain ⟨m, hm1, hm2, hm3⟩ : ∃ m, n ≤ m ∧ m < n + nl ∧ m % nl = tg := by
        have hr9 := Nat.mod_lt n hn0
        have e := Nat.div_add_mod n nl
        by_cases hc : n % nl ≤ tg
        · refine ⟨n + (tg - n % nl), by omega, by omega, ?_⟩
          rw [show n + (tg - n % nl) = tg + nl * (n / nl) by omega, Nat.add_mul_mod_self_left, Nat.mod_eq_of_lt htg]
        · refine ⟨n + (tg + nl - n % nl), by omega, by omega, ?_⟩
          rw [show n + (tg + nl - n % nl) = tg + nl + nl * (n / nl) by omega, Nat.add_mul_mod_self_left, Nat.add_mod_right, Nat.mod_eq_of_lt htg]
      have hSt : S' tg = true := by have := hall.out.2.2 m hm1 (by omega) (by rw [hm3]; exact htk); rwa [hm3] at this
      obtain rfl : came = true := hall.out.2.1 tg htg hSt
      obtain ⟨e1, e2, e3, e4⟩ := hole_ticks hos.out.1 hkn hall.out.1 htg hSt 1048576 2
      have HG1 := Lib.hid (tick_good hos.out.2.1)
      have HA1 := Lib.hid hos.out.2.2.tick
      have CO : Hid (∀ V, TF F Tb M twoS L V → Calls Try.prog 20 #[.pointer (some ⟨Tb, 0, none⟩)] V fun e w' => e = .returned (.int .i64 1) ∧ TF F Tb M twoS L w' ∧ Below V.heap.size V w') := Lib.hid (fun V h => by have := h.open (by omega); rwa [e2] at this)
      have CN : Hid (∀ V, TF F Tb M twoS L V → Calls Try.prog 17 #[.pointer (some ⟨Tb, 0, none⟩)] V fun e w' => e = .returned (.int .i64 1) ∧ w' = V) := Lib.hid (fun V h => by have := h.len; rwa [e1] at this)
      have CT1 : Hid (∀ V, TF F Tb M twoS L V → Calls Try.prog 13 #[.pointer (some ⟨Tb, 0, none⟩)] V fun e w' => e = .returned (.int .i64 0) ∧ TF F Tb M twoS (tickL twoS L) w' ∧ Kp F V w') := Lib.hid (fun V h => by
        have h9 := h.tick hos.out.2.1 hos.out.2.2 (by decide)
        rw [e1, show (tickL twoS L).length = 1 from e3] at h9
        exact h9)
      have CT2 : Hid (∀ V, TF F Tb M twoS (tickL twoS L) V → Calls Try.prog 13 #[.pointer (some ⟨Tb, 0, none⟩)] V fun e w' => e = .returned (.int .i64 1) ∧ TF F Tb M twoS [] w' ∧ Kp F V w') := Lib.hid (fun V h => by
        have h9 := h.tick HG1.out HA1.out (by decide)
        rw [show (tickL twoS L).length = 1 from e3, show tickL twoS (tickL twoS L) = [] from e4] at h9
        exact h9)
      have CN0 : Hid (∀ V, TF F Tb M twoS [] V → Calls Try.prog 17 #[.pointer (some ⟨Tb, 0, none⟩)] V fun e w' => e = .returned (.int .i64 0) ∧ w' = V) := Lib.hid (fun V h => h.len)
      have CB0 : Hid (∀ V, TF F Tb M twoS [] V → Calls Try.prog 18 #[.pointer (some ⟨Tb, 0, none⟩)] V fun e w' => e = .returned (.int .i64 0) ∧ w' = V) := Lib.hid (fun V h => h.bytes)
      clear e1 e2 e3 e4 hSt hm1 hm2 hm3
      go_upto_region 30 with (first | (go_at_call 20; (with_reducible refine (CO.out _ htf.out).mono ?_); rintro e W5 ⟨rfl, ht5, hb5⟩) | (go_at_call 17; (with_reducible refine (CN.out _ ht5).mono ?_); rintro e w5 ⟨rfl, hw5⟩; replace hw5 := hw5.symm; subst hw5))
      have HT5 := Lib.hid ht5
      have HB5 : Hid (Below w.heap.size w W5) := Lib.hid (by
        have h1 := HB6.out.trans ((hkp.out.below (fun k hk => HF.out k hk)).mono HB6.out.size)
        exact h1.trans (hb5.mono h1.size))
      have HKF : Hid (∀ V V' : World, Kp F V V' → Below w.heap.size V V') := Lib.hid (fun V V' h => h.below (fun k hk => HF.out k (Nat.lt_of_lt_of_le hk HB6.out.size)))
      clear ht5 hb5
      go_upto_region 31 with (first | (go_at_call 13; (with_reducible refine (CT1.out _ HT5.out).mono ?_); rintro e W7 ⟨rfl, ht7, hk7⟩; have HT7 := Lib.hid ht7; have HK7 := Lib.hid hk7; clear ht7 hk7) | (go_at_call 13; (with_reducible refine (CT2.out _ HT7.out).mono ?_); rintro e W8 ⟨rfl, ht8, hk8⟩; have HT8 := Lib.hid ht8; have HK8 := Lib.hid hk8; clear ht8 hk8))
      go_wp2_with (first | (go_at_call 17; (with_reducible refine (CN0.out _ HT8.out).mono ?_); rintro e w5 ⟨rfl, hw5⟩; replace hw5 := hw5.symm; subst hw5) | (go_at_call 18; (with_reducible refine (CB0.out _ HT8.out).mono ?_); rintro e w5 ⟨rfl, hw5⟩; replace hw5 := hw5.symm; subst hw5))
      go_ret
      exact ⟨rfl, HB5.out.trans ((HKF.out _ _ HK7.out).trans (HKF.out _ _ HK8.out))⟩
end Go.Proofs.Ythdkbocokefdhaa
