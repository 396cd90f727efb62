import Derived.Test.YthdkbocokefdhaaLx
import Derived.Test.YthdkbocokefdhaaFrgC
import Derived.Test.YthdkbocokefdhaaFew
import Derived.Deep.QuietTactic
import Derived.BigQuiet
/- ReasmOnce: the closure. -/
namespace Go.Proofs.Ythdkbocokefdhaa
set_option maxRecDepth 100000
open Go.RowKit
structure OnV (w : World) (B Tb M BT BM BP : Nat) (P : ByteArray) (L : List En) (made : Nat) (V : World) : Prop where
  tab : TF (fun k => k < B ∨ k = BT ∨ k = BM) Tb M room64 L V
  b : Below w.heap.size w V
  t : V.heap[BT]? = some (.cells #[.pointer (some ⟨Tb, 0, none⟩)] 27 (0, 0))
  m : V.heap[BM]? = some (.cells #[.int .i64 (made : Nat)] 3 (0, 0))
  p : V.heap[BP]? = some (.cells #[.string P] 9 (0, 0))
  ne : BT ≠ BM ∧ B ≤ BT ∧ B ≤ BM ∧ BP < B ∧ w.heap.size ≤ B
theorem OnV.kp {w : World} {B Tb M BT BM BP : Nat} {P : ByteArray} {L L' : List En} {made : Nat} {V V' : World} (h : OnV w B Tb M BT BM BP P L made V) (hk : Kp (fun k => k < B ∨ k = BT ∨ k = BM) V V') (ht : TF (fun k => k < B ∨ k = BT ∨ k = BM) Tb M room64 L' V') : OnV w B Tb M BT BM BP P L' made V' :=
  ⟨ht, h.b.trans (hk.below (fun k hk2 => .inl (Nat.lt_of_lt_of_le hk2 h.ne.2.2.2.2))), (hk.block _ (.inr (.inl rfl))).trans h.t, (hk.block _ (.inr (.inr rfl))).trans h.m, (hk.block _ (.inl h.ne.2.2.2.1)).trans h.p, h.ne⟩
theorem OnV.up {w : World} {B Tb M BT BM BP : Nat} {P : ByteArray} {L : List En} {made : Nat} {V : World} (h : OnV w B Tb M BT BM BP P L made V) (n : Nat) : OnV w B Tb M BT BM BP P L n (V.setCell ⟨BM, 0, none⟩ (.int .i64 (n : Nat))) :=
  ⟨h.tab.set (.inr (.inr rfl)), h.b.setCell (p := ⟨BM, 0, none⟩) (by have := h.ne; show _ ≤ BM; omega) _, by rw [Below.heap_setCell _ _ _ _ (by have := h.ne; show BT ≠ BM; omega)]; exact h.t, heap_set h.m Nat.zero_lt_one _, by rw [Below.heap_setCell _ _ _ _ (by have := h.ne; show BP ≠ BM; omega)]; exact h.p, h.ne⟩
def OncPost (w : World) (B Tb M BT BM BP : Nat) (P : ByteArray) (L : List En) (made : Nat) (V : World) (e : Ending) (w' : World) : Prop :=
  e = .returned (.bool true) ∧ OnV w B Tb M BT BM BP P L made w' ∧ Kp (fun k => k < B) V w'
set_option maxHeartbeats 4000000 in
theorem once1_any {w : World} {B Tb M BT BM BP : Nat} {P X : ByteArray} {L : List En} {made : Nat} {V : World} (h : OnV w B Tb M BT BM BP P L made V) (hg : GoodT room64 L) (hX : X.size ≤ 9223372036854775807) (r : List UInt8 × Nat) (L' : List En) (made' : Nat)
    (ha : addT room64 L X.data.toList = (r, L')) (hr : (r = (P.data.toList, 0) ∧ made = 0 ∧ made' = 1) ∨ (r = ([], 10) ∧ made' = made) ∨ (r = ([], 12) ∧ made = 1 ∧ made' = 1)) :
    Calls Try.prog 26 #[.string X, .pointer (some ⟨BT, 0, none⟩), .pointer (some ⟨BM, 0, none⟩), .pointer (some ⟨BP, 0, none⟩)] V (OncPost w B Tb M BT BM BP P L' made' V) := by
  have AD : Hid (Calls Try.prog 15 #[.pointer (some ⟨Tb, 0, none⟩), .string X] V fun e w' => e = .returned (.tuple #[.string (bs r.1), .int .i64 (r.2 : Nat)]) ∧ TF (fun k => k < B ∨ k = BT ∨ k = BM) Tb M room64 L' w' ∧ Kp (fun k => k < B ∨ k = BT ∨ k = BM) V w') := Lib.hid (by
    have h1 := h.tab.add hg ⟨by decide, by decide⟩ X hX
    rw [ha] at h1
    exact h1)
  have kt := cellAt (i := 0) (v := .pointer (some ⟨Tb, 0, none⟩)) h.t rfl
  have HO := Lib.hid h
  obtain ⟨Q, hQ⟩ : ∃ Q, Q = OncPost w B Tb M BT BM BP P L' made' V := ⟨_, rfl⟩
  rw [← hQ]
  have HQ := Lib.hid hQ
  clear hQ h ha hg hX
  have n1 : BP ≠ BM := by have := HO.out.ne; omega
  have n2 : BM ≠ BP := fun e => n1 e.symm
  rcases hr with ⟨rfl, rfl, rfl⟩ | ⟨rfl, rfl⟩ | ⟨rfl, rfl, rfl⟩
  · skip
    go_enter Try.func26, Try.ntmps26
    go_upto_region 2 with (go_at_call 15; (with_reducible refine (AD.out).mono ?_); rintro e w5 ⟨rfl, ht5, hk5⟩)
    have HN := Lib.hid (HO.out.kp hk5 ht5)
    have HKP := Lib.hid (hk5.mono (fun k (hk : k < B) => Or.inl hk))
    clear ht5 hk5
    have kp := cellAt (i := 0) (v := .string P) HN.out.p rfl
    have km := cellAt (i := 0) (v := .int .i64 (0 : Int)) HN.out.m rfl
    have fm := Lib.frozen_of_heap HN.out.m 0
    have pp : (bs P.data.toList) = P := rfl
    go_wp2_with (fail)
    rw [HQ.out]
    exact ⟨rfl, HN.out.up 1, HKP.out.set _ (by have := HO.out.ne; show ¬ BM < B; omega) _⟩
  · skip
    go_enter Try.func26, Try.ntmps26
    go_upto_region 2 with (go_at_call 15; (with_reducible refine (AD.out).mono ?_); rintro e w5 ⟨rfl, ht5, hk5⟩)
    have HN := Lib.hid (HO.out.kp hk5 ht5)
    have HKP := Lib.hid (hk5.mono (fun k (hk : k < B) => Or.inl hk))
    clear ht5 hk5
    have kp := cellAt (i := 0) (v := .string P) HN.out.p rfl
    have km := cellAt (i := 0) (v := .int .i64 ((made' : Nat) : Int)) HN.out.m rfl
    have fm := Lib.frozen_of_heap HN.out.m 0
    go_wp2_with (fail)
    rw [HQ.out]
    exact ⟨rfl, HN.out, HKP.out⟩
  · skip
    go_enter Try.func26, Try.ntmps26
    go_upto_region 2 with (go_at_call 15; (with_reducible refine (AD.out).mono ?_); rintro e w5 ⟨rfl, ht5, hk5⟩)
    have HN := Lib.hid (HO.out.kp hk5 ht5)
    have HKP := Lib.hid (hk5.mono (fun k (hk : k < B) => Or.inl hk))
    clear ht5 hk5
    have kp := cellAt (i := 0) (v := .string P) HN.out.p rfl
    have km := cellAt (i := 0) (v := .int .i64 (1 : Int)) HN.out.m rfl
    have fm := Lib.frozen_of_heap HN.out.m 0
    go_wp2_with (fail)
    rw [HQ.out]
    exact ⟨rfl, HN.out, HKP.out⟩
end Go.Proofs.Ythdkbocokefdhaa
/- ReasmOnce: the walk. -/
namespace Go.Proofs.Ythdkbocokefdhaa
set_option maxRecDepth 100000
open Go.RowKit
def U16In (w : World) (a : Option Addr) (l : List Nat) : Prop := ∀ j (hj : j < l.length), ∃ x, a = some x ∧ w.cell? (x.add j) = some (.int .u16 (l[j] : Nat)) ∧ l[j] < 65536
theorem U16In.below {w w' : World} {a : Option Addr} {l : List Nat} (h : U16In w a l) (hb : Below w.heap.size w w') : U16In w' a l := fun j hj => by
  obtain ⟨x, hx, h0, h1⟩ := h j hj
  exact ⟨x, hx, (hb.cell (cell_blk h0)).trans h0, h1⟩
theorem putE_err {h : H4} {s : List UInt8} {c : Nat} (e : putE h s = .error c) : c ≠ 0 := by
  unfold putE at e
  split at e
  · split at e
    · injection e with e; omega
    · cases e
  · injection e with e; omega
set_option maxHeartbeats 16000000 in
theorem once_walk (h : H4) (pay : List UInt8) (mtu : Int) (ord : List Nat) (a : Option Addr) (cap : Nat) (w : World) (hin : U16In w a ord) (hl : h.src.length < 9223372036854775808 ∧ h.dst.length < 9223372036854775808 ∧ h.opt.length < 9223372036854775808) (hp : pay.length < 9223372036854775808) (hol : ord.length ≤ 9223372036854775807) :
    Calls Try.prog 7 #[hv h, .string (bs pay), .int .i64 mtu, .slice a ord.length cap] w fun e w' => e = .returned (.bool true) ∧ Below w.heap.size w w' := by
  obtain ⟨S, hS⟩ : ∃ S, S = bs pay := ⟨_, rfl⟩
  have hSz : S.size = pay.length := by rw [hS, bs_size]
  obtain ⟨h', hh'⟩ : ∃ h', h' = { h with off := 0, mf := false } := ⟨_, rfl⟩
  obtain ⟨R, hR⟩ : ∃ R, R = putE h' pay := ⟨_, rfl⟩
  have PU : pay.length ≤ 20000 → Hid (∀ V, Calls Try.prog 22 #[hv h', .string S] V fun e w' => e = .returned (putR R) ∧ Below V.heap.size V w') := fun h2 => Lib.hid (fun V => by
    rw [hR, hS]; exact rput_any h' pay V (by rw [hh']; exact hl) (by omega))
  have CA := Lib.hid awake_any
  obtain ⟨tos, id, off, ttl, proto, df, mf, src, dst, opt⟩ := h
  have hh2 : h' = ⟨tos, id, 0, ttl, proto, df, false, src, dst, opt⟩ := hh'
  clear hh'
  obtain ⟨Hx, hHx⟩ : ∃ k, k = w.heap.size := ⟨_, rfl⟩
  obtain ⟨W1, hW1⟩ : ∃ W, W = w.alloc (.cells #[.int .i64 tos, .int .i64 id, .int .i64 off, .int .i64 ttl, .int .i64 proto, .bool df, .bool mf, .string (bs src), .string (bs dst), .string (bs opt)] 43) := ⟨_, rfl⟩
  have HW1 : Hid (W1.heap[Hx]? = some (.cells #[.int .i64 tos, .int .i64 id, .int .i64 off, .int .i64 ttl, .int .i64 proto, .bool df, .bool mf, .string (bs src), .string (bs dst), .string (bs opt)] 43 (0, 0)) ∧ Below w.heap.size w W1) := Lib.hid (by rw [hW1, hHx]; exact ⟨alloc_new _ _, (Below.refl _ _).alloc (Nat.le_refl _) _⟩)
  have HIN := Lib.hid hin
  obtain ⟨n, hn⟩ : ∃ n, n = ord.length := ⟨_, rfl⟩
  have HN := Lib.hid hn
  rw [← hn] at hol ⊢
  rw [← hS]
  have HHX : Hid (w.heap.size ≤ Hx) := Lib.hid (by omega)
  have HS := Lib.hid hS
  have HSZ := Lib.hid hSz
  have HR := Lib.hid hR
  have HH2 := Lib.hid hh2
  have HPU := Lib.hid PU
  have HP := Lib.hid hp
  clear hin hn hS hSz hR hh2 PU hp
  unfold hv hc
  simp only at hl ⊢
  go_enter Try.func7, Try.ntmps7
  go_upto_region 1 with (fail)
  rw [← hW1, ← hHx]
  clear hW1 hHx
  go_upto_region 3 with (go_at_call 9; (with_reducible refine (CA.out _).mono ?_); rintro e W2 ⟨rfl, hb2⟩)
  have HW2 : Hid (W2.heap[Hx]? = some (.cells #[.int .i64 tos, .int .i64 id, .int .i64 off, .int .i64 ttl, .int .i64 proto, .bool df, .bool mf, .string (bs src), .string (bs dst), .string (bs opt)] 43 (0, 0)) ∧ Below w.heap.size w W2) := Lib.hid ⟨(hb2.block _ (heap_lt HW1.out.1)).trans HW1.out.1, HW1.out.2.trans (hb2.mono HW1.out.2.size)⟩
  clear hb2
  by_cases g1 : 20000 < S.size
  · have g1' : (20000 : Int) < (S.size : Int) := by omega
    go_wp2_with (fail)
    go_ret
    exact ⟨rfl, HW2.out.2⟩
  have g1' : ¬ (20000 : Int) < (S.size : Int) := by omega
  by_cases g2 : 300 < n
  · have g2' : (300 : Int) < (n : Int) := by omega
    go_wp2_with (fail)
    go_ret
    exact ⟨rfl, HW2.out.2⟩
  have g2' : ¬ (300 : Int) < (n : Int) := by omega
  have k2 := cellAt (i := 2) (v := .int .i64 off) HW2.out.1 rfl
  have k6 := cellAt (i := 6) (v := .bool mf) HW2.out.1 rfl
  have f2 := Lib.frozen_of_heap HW2.out.1 2
  have f6 := Lib.frozen_of_heap HW2.out.1 6
  go_upto_region 6 with (fail)
  obtain ⟨W3, hW3⟩ : ∃ W, W = (W2.setCell ⟨Hx, 2, none⟩ (.int .i64 0)).setCell ⟨Hx, 6, none⟩ (.bool false) := ⟨_, rfl⟩
  have HW3 : Hid (W3.heap[Hx]? = some (.cells #[.int .i64 tos, .int .i64 id, .int .i64 0, .int .i64 ttl, .int .i64 proto, .bool df, .bool false, .string (bs src), .string (bs dst), .string (bs opt)] 43 (0, 0)) ∧ Below w.heap.size w W3) := Lib.hid (by
    rw [hW3]
    exact ⟨heap_set (heap_set HW2.out.1 (by show 2 < 10; decide) _) (by show 6 < 10; decide) _, (HW2.out.2.setCell (p := ⟨Hx, 2, none⟩) HHX.out _).setCell (p := ⟨Hx, 6, none⟩) HHX.out _⟩)
  rw [← hW3]
  clear hW3 k2 k6 f2 f6
  have k0 := cellAt (i := 0) (v := .int .i64 tos) HW3.out.1 rfl
  have k1 := cellAt (i := 1) (v := .int .i64 id) HW3.out.1 rfl
  have k2 := cellAt (i := 2) (v := .int .i64 0) HW3.out.1 rfl
  have k3 := cellAt (i := 3) (v := .int .i64 ttl) HW3.out.1 rfl
  have k4 := cellAt (i := 4) (v := .int .i64 proto) HW3.out.1 rfl
  have k5 := cellAt (i := 5) (v := .bool df) HW3.out.1 rfl
  have k6 := cellAt (i := 6) (v := .bool false) HW3.out.1 rfl
  have k7 := cellAt (i := 7) (v := .string (bs src)) HW3.out.1 rfl
  have k8 := cellAt (i := 8) (v := .string (bs dst)) HW3.out.1 rfl
  have k9 := cellAt (i := 9) (v := .string (bs opt)) HW3.out.1 rfl
  have PU2 : Hid (∀ V, Calls Try.prog 22 #[.agg #[.int .i64 tos, .int .i64 id, .int .i64 0, .int .i64 ttl, .int .i64 proto, .bool df, .bool false, .string (bs src), .string (bs dst), .string (bs opt)], .string S] V fun e w' => e = .returned (putR R) ∧ Below V.heap.size V w') := Lib.hid (by
    have h1 := (HPU.out (by have := HSZ.out; omega)).out
    rw [HH2.out] at h1
    exact h1)
  clear HPU
  obtain ⟨X, c, hpr, hcc⟩ : ∃ (X : ByteArray) (c : Nat), putR R = .tuple #[.string X, .int .i64 (c : Nat)] ∧ ((c = 0 ∧ R = .ok X.data.toList) ∨ c ≠ 0) := by
    cases hRR : R with
    | ok x => exact ⟨bs x, 0, rfl, .inl ⟨rfl, rfl⟩⟩
    | error e => exact ⟨⟨#[]⟩, e, rfl, .inr (by rw [HR.out] at hRR; exact putE_err hRR)⟩
  rw [hpr] at PU2
  clear hpr
  have HCC := Lib.hid hcc
  clear hcc
  go_upto_region 7 with (go_at_call 22; (with_reducible refine (PU2.out _).mono ?_); rintro e w4 ⟨rfl, hb4⟩)
  obtain ⟨BP, hBP⟩ : ∃ k, k = w4.heap.size := ⟨_, rfl⟩
  obtain ⟨W5, hW5⟩ : ∃ W, W = w4.alloc (.cells #[.string X] 9) := ⟨_, rfl⟩
  have HW5 : Hid (W5.heap[BP]? = some (.cells #[.string X] 9 (0, 0)) ∧ Below w.heap.size w W5) := Lib.hid (by
    rw [hW5, hBP]; have hb := HW3.out.2.trans (hb4.mono HW3.out.2.size); exact ⟨alloc_new _ _, hb.alloc hb.size _⟩)
  rw [← hW5, ← hBP]
  clear hW5 hBP hb4 k0 k1 k2 k3 k4 k5 k6 k7 k8 k9 PU2 CA
  by_cases hc0 : c = 0
  rotate_left
  · have q1 : ((c : Int) != 0) = true := by rw [bne_iff_ne]; omega
    have q2 : (c : Int) ≠ 0 := by omega
    go_wp2_with (fail)
    go_ret
    exact ⟨rfl, HW5.out.2⟩
  subst hc0
  have hput : putE h' pay = .ok X.data.toList := by
    rcases HCC.out with ⟨_, h1⟩ | h1
    · rw [← HR.out, h1]
    · exact absurd rfl h1
  have CUT := Lib.hid (fun V => cut_any X mtu h' pay hput (by rw [HH2.out]) (by rw [HH2.out]) V)
  have HPUT := Lib.hid hput
  have kp := cellAt (i := 0) (v := .string X) HW5.out.1 rfl
  clear hput HCC
  go_upto_region 10 with (go_at_call 23; (with_reducible refine (CUT.out _).mono ?_); rintro e w6 ⟨v, cc, rfl, hb6, hok⟩)
  have HB6 := Lib.hid (HW5.out.2.trans (hb6.mono HW5.out.2.size))
  have HP6 : Hid (w6.heap[BP]? = some (.cells #[.string X] 9 (0, 0))) := Lib.hid ((hb6.block _ (heap_lt HW5.out.1)).trans HW5.out.1)
  have HOK := Lib.hid hok
  have HW56 : Hid (W5.heap.size ≤ w6.heap.size) := Lib.hid hb6.size
  clear hok kp CUT hb6
  by_cases hc1 : cc = 0
  rotate_left
  · have q1 : (cc != 0) = true := by rw [bne_iff_ne]; exact hc1
    go_wp2_with (fail)
    go_ret
    exact ⟨rfl, HB6.out⟩
  subst hc1
  obtain ⟨l, z, nl, hrow, hcut⟩ := HOK.out rfl
  have hnl := hcut.len
  have hn0 := hcut.ok.n0
  obtain ⟨g, capl, rfl, _⟩ := World.ownsRow.form hrow (by rw [hnl]; exact hn0)
  rw [hnl]
  have HROW := Lib.hid hrow
  have HCUT := Lib.hid hcut
  clear hrow hcut HOK hnl
  by_cases g3 : 600 < nl
  · have g3' : (600 : Int) < (nl : Int) := by omega
    go_wp2_with (fail)
    go_ret
    exact ⟨rfl, HB6.out⟩
  have g3' : ¬ (600 : Int) < (nl : Int) := by omega
  have CR := Lib.hid (fun V => roomy_any V)
  have CN := Lib.hid (fun V => new_tf 64 1048576 64 V (by decide))
  go_upto_region 17 with (first | (go_at_call 24; (with_reducible refine (CR.out _).mono ?_); rintro e w7 ⟨rfl, hb7⟩) | (go_at_call 11; (with_reducible refine (CN.out _).mono ?_); rintro e w8 ⟨Tb, M, rfl, ht8, hb8⟩))
  obtain ⟨B, hB⟩ : ∃ k, k = w7.heap.size := ⟨_, rfl⟩
  obtain ⟨BT, hBT⟩ : ∃ k, k = w8.heap.size := ⟨_, rfl⟩
  obtain ⟨BM, hBM⟩ : ∃ k, k = w8.heap.size + 1 := ⟨_, rfl⟩
  obtain ⟨W9, hW9⟩ : ∃ W, W = (w8.alloc (.cells #[.pointer (some ⟨Tb, 0, none⟩)] 27)).alloc (.cells #[.int .i64 0] 3) := ⟨_, rfl⟩
  rw [← hW9, ← hBM, ← hBT]
  have H68 : Below w6.heap.size w6 w8 := hb7.trans (hb8.mono hb7.size)
  have H69 : Below w8.heap.size w8 W9 := by rw [hW9]; exact ((Below.refl _ _).alloc (Nat.le_refl _) _).alloc (by simp) _
  have HST0 : Hid (OnV w B Tb M BT BM BP X [] 0 W9) := Lib.hid (by
    have hpl := heap_lt HP6.out
    have h78 := hb8.size
    have h67 := hb7.size
    have hw6 := HB6.out.size
    refine ⟨?_, HB6.out.trans ((H68.trans (H69.mono H68.size)).mono hw6), ?_, ?_, ?_, by omega⟩
    · rw [hW9]
      refine ((ht8.more (.cells #[.pointer (some ⟨Tb, 0, none⟩)] 27)).more (.cells #[.int .i64 0] 3)).mono fun k hk => ?_
      rw [World.size_alloc]
      omega
    · rw [hW9, Below.heap_alloc _ _ _ (by rw [World.size_alloc]; omega), hBT]; exact alloc_new _ _
    · have := alloc_new (w8.alloc (.cells #[.pointer (some ⟨Tb, 0, none⟩)] 27)) (.cells #[.int .i64 0] 3)
      rw [World.size_alloc, ← hBM, ← hW9] at this; exact this
    · exact (H69.block _ (by omega)).trans ((H68.block _ hpl).trans HP6.out))
  have HK0 : Hid (Kp (fun k => k < w6.heap.size) w6 W9) := Lib.hid (Kp.of_below (H68.trans (H69.mono H68.size)) (fun k hk => hk))
  have HBB : Hid (w6.heap.size ≤ B) := Lib.hid (by rw [hB]; exact hb7.size)
  clear H68 H69 hW9 hBM hBT hB hb7 hb8 ht8 CR CN
  have CL : Hid (∀ (q : Nat) (S' : Nat → Bool) (L : List En) (made : Nat) (V : World), q < nl → OnV w B Tb M BT BM BP X L made V → OSt h' pay z nl S' L made → GoodT room64 L → Kp (fun k => k < w6.heap.size) w6 V →
      ∃ (x : ByteArray) (L' : List En) (made' : Nat), V.cell? ⟨g, q, none⟩ = some (.string x) ∧ OSt h' pay z nl (fun i => S' i || decide (i = q)) L' made' ∧ GoodT room64 L' ∧ Calls Try.prog 26 #[.string x, .pointer (some ⟨BT, 0, none⟩), .pointer (some ⟨BM, 0, none⟩), .pointer (some ⟨BP, 0, none⟩)] V (OncPost w B Tb M BT BM BP X L' made' V)) := Lib.hid (by
    intro q S' L made V hq hon hos hgd hkp
    obtain ⟨x, hx, hlx⟩ := HCUT.out.at' q hq
    obtain ⟨r, L', made', g1, g2, g3⟩ := once_step HCUT.out.ok (by rw [HH2.out]) (by rw [HH2.out]) HPUT.out (st := room64) (by decide) (by decide) hos hq hx
    have hr2 : SRow W5.heap.size (.slice (some ⟨g, 0, none⟩) l.length capl) l V := HROW.out.same fun b hb => hkp.block b (by obtain ⟨cur, hc⟩ := HROW.out.obj hb; exact heap_lt hc)
    obtain ⟨g', c', e1, e2⟩ := hr2.at q (by rw [HCUT.out.len]; exact hq)
    injection e1 with e1
    injection e1 with e1
    injection e1 with e1
    rw [← e1] at e2
    have e3 : l[q]'(by rw [HCUT.out.len]; exact hq) = bs x := by
      have := List.getElem?_eq_getElem (l := l) (i := q) (by rw [HCUT.out.len]; exact hq)
      rw [hlx] at this; exact (Option.some.inj this).symm
    rw [e3] at e2
    refine ⟨bs x, L', made', e2, g2, ?_, once1_any hon hgd (by have := (putE_inv hx).2; rw [bs_size]; omega) r L' made' g1 g3⟩
    have := addT_good (x := x) hgd
    rw [g1] at this; exact this)
  have hnl0 : 0 < nl := hn0
  have hnz : ¬ (nl : Int) = 0 := by omega
  have hnzb : ((nl : Int) == 0) = false := by rw [beq_eq_false_iff_ne]; omega
  go_wp2_with (fail)
  go_loopw [17] (fun i V => ∃ (j : Nat) (S' : Nat → Bool) (L : List En) (made : Nat), j ≤ n ∧ i = .int .i64 (j : Int) ∧ Hid (OnV w B Tb M BT BM BP X L made V) ∧ Hid (Kp (fun k => k < w6.heap.size) w6 V) ∧ Hid (OSt h' pay z nl S' L made ∧ GoodT room64 L)) (fun i _ => n - (intOf i).toNat)
  case atStart => exact ⟨0, _, [], 0, by omega, rfl, HST0, HK0, Lib.hid ⟨OSt.start hn0, GoodT.nil _⟩⟩
  case round =>
    obtain ⟨j, S', L, made, hj, rfl, hon, hkp, hos⟩ := hrel
    by_cases hlt : j < n
    · obtain ⟨A, hA, c0, o16⟩ := (HIN.out.below hon.out.b) j (by rw [← HN.out]; exact hlt)
      subst hA
      obtain ⟨o, ho⟩ : ∃ x, x = ord[j]'(by rw [← HN.out]; exact hlt) := ⟨_, rfl⟩
      rw [← ho] at c0 o16
      obtain ⟨q, hq⟩ : ∃ q, q = o % nl := ⟨_, rfl⟩
      have hql : q < nl := by rw [hq]; exact Nat.mod_lt _ hn0
      obtain ⟨x, L', made', cq, ho2, hg2, hcall⟩ := CL.out q S' L made wr hql hon.out hos.out.1 hos.out.2 hkp.out
      have HCALL := Lib.hid hcall
      have HO2 := Lib.hid (And.intro ho2 hg2)
      have w1 : IntKind.i64.wrap (o : Int) = (o : Int) := IntWalk.i64_in _ (by omega)
      have w2 : Int.tmod (o : Int) (nl : Int) = (q : Int) := by rw [hq]; rfl
      have w3 : IntKind.i64.wrap (q : Int) = (q : Int) := IntWalk.i64_in _ (by omega)
      have w4 : IntKind.i64.wrap ((j : Int) + 1) = ((j + 1 : Nat) : Int) := by rw [IntWalk.i64_in _ (by omega)]; rfl
      have b1 : (j : Int) < (n : Int) := by omega
      have b2 : (q : Int) < (nl : Int) := by omega
      clear ho hq hcall ho2 hg2
      go_wp2_with (go_at_call 26; (with_reducible refine (HCALL.out).mono ?_); rintro e W6 ⟨rfl, hon6, hkp6⟩)
      exact ⟨⟨j + 1, _, L', made', by omega, by simp, Lib.hid hon6, Lib.hid (hkp.out.trans (hkp6.mono fun k hk => Nat.lt_of_lt_of_le hk HBB.out)), HO2⟩, by simp [intOf]; omega⟩
    · have b1 : ¬ (j : Int) < (n : Int) := by omega
      have w5 : IntKind.i64.wrap ((nl : Int) - 1) = (nl : Int) - 1 := IntWalk.i64_in _ (by omega)
      go_wp2_with (fail)
      go_loopw [18] (fun i V => ∃ (k : Nat) (S' : Nat → Bool) (L : List En) (made : Nat), k ≤ nl ∧ i = .int .i64 ((k : Int) - 1) ∧ Hid (∀ i, k ≤ i → i < nl → S' i = true) ∧ Hid (OnV w B Tb M BT BM BP X L made V) ∧ Hid (Kp (fun k => k < w6.heap.size) w6 V) ∧ Hid (OSt h' pay z nl S' L made ∧ GoodT room64 L)) (fun i _ => (intOf i + 1).toNat)
      case atStart => exact ⟨nl, S', L, made, Nat.le_refl _, rfl, Lib.hid (fun i h1 h2 => by omega), hon, hkp, hos⟩
      case round =>
        obtain ⟨k, S2, L2, made2, hk, rfl, hall, hon2, hkp2, hos2⟩ := hrel
        by_cases hk0 : k = 0
        · subst hk0
          rcases hos2.out.1 with ⟨hS, rfl, rfl⟩ | ⟨hS, _⟩
          rotate_left
          · exact absurd (fun i hi => hall.out i (Nat.zero_le _) hi) hS
          have km := cellAt (i := 0) (v := .int .i64 1) hon2.out.m rfl
          have kt := cellAt (i := 0) (v := .pointer (some ⟨Tb, 0, none⟩)) hon2.out.t rfl
          have CB : Hid (∀ V, TF (fun k => k < B ∨ k = BT ∨ k = BM) Tb M room64 [⟨kyOf h', [], true, 0⟩] V → Calls Try.prog 18 #[.pointer (some ⟨Tb, 0, none⟩)] V fun e w' => e = .returned (.int .i64 0) ∧ w' = V) := Lib.hid (fun V h => h.bytes)
          have CO : Hid (∀ V, TF (fun k => k < B ∨ k = BT ∨ k = BM) Tb M room64 [⟨kyOf h', [], true, 0⟩] V → Calls Try.prog 20 #[.pointer (some ⟨Tb, 0, none⟩)] V fun e w' => e = .returned (.int .i64 0) ∧ TF (fun k => k < B ∨ k = BT ∨ k = BM) Tb M room64 [⟨kyOf h', [], true, 0⟩] w' ∧ Below V.heap.size V w') := Lib.hid (fun V h => h.open (by simp))
          have CN : Hid (∀ V, TF (fun k => k < B ∨ k = BT ∨ k = BM) Tb M room64 [⟨kyOf h', [], true, 0⟩] V → Calls Try.prog 17 #[.pointer (some ⟨Tb, 0, none⟩)] V fun e w' => e = .returned (.int .i64 1) ∧ w' = V) := Lib.hid (fun V h => h.len)
          go_wp2_with (first | (go_at_call 18; (with_reducible refine (CB.out _ hon2.out.tab).mono ?_); rintro e w5 ⟨rfl, hw5⟩; replace hw5 := hw5.symm; subst hw5) | (go_at_call 20; (with_reducible refine (CO.out _ hon2.out.tab).mono ?_); rintro e W5 ⟨rfl, ht5, hb5⟩; have kt5 := cellAt (i := 0) (v := .pointer (some ⟨Tb, 0, none⟩)) ((hb5.block _ (heap_lt hon2.out.t)).trans hon2.out.t) rfl) | (go_at_call 17; (with_reducible refine (CN.out _ ht5).mono ?_); rintro e w5 ⟨rfl, hw5⟩; replace hw5 := hw5.symm; subst hw5))
          go_ret
          exact ⟨rfl, hon2.out.b.trans (hb5.mono hon2.out.b.size)⟩
        · obtain ⟨q, rfl⟩ : ∃ q, k = q + 1 := ⟨k - 1, by omega⟩
          have e1 : ((q + 1 : Nat) : Int) - 1 = (q : Int) := by omega
          rw [e1]
          obtain ⟨x, L', made', cq, ho2, hg2, hcall⟩ := CL.out q S2 L2 made2 wr (by omega) hon2.out hos2.out.1 hos2.out.2 hkp2.out
          have HCALL := Lib.hid hcall
          have HO2 := Lib.hid (And.intro ho2 hg2)
          have w4 : IntKind.i64.wrap ((q : Int) - 1) = (q : Int) - 1 := IntWalk.i64_in _ (by omega)
          have b1 : (0 : Int) ≤ (q : Int) := by omega
          have b2 : (q : Int) < (nl : Int) := by omega
          have hq1 : q < nl := by omega
          clear hcall ho2 hg2 e1
          go_wp2_with (go_at_call 26; (with_reducible refine (HCALL.out).mono ?_); rintro e W6 ⟨rfl, hon6, hkp6⟩)
          refine ⟨⟨q, _, L', made', by omega, by simp, Lib.hid (fun i h1 h2 => ?_), Lib.hid hon6, Lib.hid (hkp2.out.trans (hkp6.mono fun k hk => Nat.lt_of_lt_of_le hk HBB.out)), HO2⟩, by simp [intOf]⟩
          by_cases hiq : i = q
          · simp [hiq]
          · rw [hall.out i (by omega) h2]; rfl
end Go.Proofs.Ythdkbocokefdhaa
