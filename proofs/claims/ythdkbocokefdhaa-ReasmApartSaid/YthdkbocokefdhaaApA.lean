import Derived.Test.YthdkbocokefdhaaOncA
import Derived.Test.YthdkbocokefdhaaApP
/- ReasmApart: the walk. -/
namespace Go.Proofs.Ythdkbocokefdhaa
set_option maxRecDepth 100000
open Go.RowKit
def BlIn (w : World) (a : Option Addr) (l : List Bool) : Prop := ∀ j (hj : j < l.length), ∃ x, a = some x ∧ w.cell? (x.add j) = some (.bool l[j])
theorem BlIn.below {w w' : World} {a : Option Addr} {l : List Bool} (h : BlIn w a l) (hb : Below w.heap.size w w') : BlIn w' a l := fun j hj => by
  obtain ⟨x, hx, h0⟩ := h j hj
  exact ⟨x, hx, (hb.cell (cell_blk h0)).trans h0⟩
theorem putR_form (R : Except Nat (List UInt8)) (hR : ∀ c, R = .error c → c ≠ 0) : ∃ (X : ByteArray) (c : Nat), putR R = .tuple #[.string X, .int .i64 (c : Nat)] ∧ ((c = 0 ∧ R = .ok X.data.toList) ∨ c ≠ 0) := by
  cases hRR : R with
  | ok x => exact ⟨bs x, 0, rfl, .inl ⟨rfl, rfl⟩⟩
  | error e => exact ⟨⟨#[]⟩, e, rfl, .inr (hR e hRR)⟩
theorem slice1_run (V : World) (g i r c : Nat) (hr : 1 ≤ r) (hc : r ≤ c) : (Instr.sliceAt 24 (.slice (some ⟨g, i, none⟩) r c) (some (.int .i64 1)) none none).run Try.prog V = .ok (.slice (some (if c = 1 then ⟨g, i, none⟩ else ⟨g, i + 1, none⟩)) (r - 1) (c - 1)) V := by
  have h1 : (1 : Int) ≤ (r : Int) := by omega
  have ea : (⟨g, i, none⟩ : Addr).add 1 = ⟨g, i + 1, none⟩ := by unfold Addr.add; simp
  by_cases hc1 : c = 1
  · subst hc1
    go_simp
  · go_simp
theorem Body.enl {F : Nat → Prop} {loc : Ky → Nat} {row : Ky → Value} {L : List En} {w : World} {n : Nat} (h : Body F loc row L w) (hl : ∀ e ∈ L, loc e.k < n) (hr : ∀ e ∈ L, ∀ b, (row e.k).ownBlock = some b → b < n) : Body (fun k => F k ∨ (n ≤ k ∧ k < w.heap.size)) loc row L w :=
  ⟨fun b hb => hb.elim (h.lt b) (fun x => x.2), h.ent, h.rows, fun e he hk => hk.elim (h.avL e he) (fun x => by have := hl e he; omega), fun e he b hb hk => hk.elim (h.avR e he b hb) (fun x => by have := hr e he b hb; omega), h.sep, h.sepR⟩
theorem TF.grow {F : Nat → Prop} {V V' : World} {Tb M : Nat} {st : Sto} {L : List En} {m : Option Nat} (h : TF F Tb M st L V) (hg : V.grownBy V' m) (hm : ∀ b, m = some b → F b) : TF (fun k => F k ∨ (V.heap.size ≤ k ∧ k < V'.heap.size)) Tb M st L V' := by
  obtain ⟨loc, row, h1⟩ := h
  have t1 := heap_lt h1.tb
  have t2 := h1.pm.lt
  have b1 : Body (fun b => F b ∨ b = Tb ∨ b = M) loc row L V' := h1.bd.same hg.size
    (fun e he => hg.block _ (heap_lt (h1.bd.ent e he)) (fun e2 => h1.bd.avL e he (.inl (hm _ e2.symm))))
    (fun e he b hb => hg.block _ (h1.bd.rowlt he hb) (fun e2 => h1.bd.avR e he b hb (.inl (hm _ e2.symm))))
  refine ⟨loc, row, (hg.block _ t1 (fun e2 => h1.fT (hm _ e2.symm))).trans h1.tb, h1.pm.same (hg.block _ t2 (fun e2 => h1.fM (hm _ e2.symm))), fun hk => ?_, fun hk => ?_, (b1.enl (n := V.heap.size) (fun e he => heap_lt (h1.bd.ent e he)) (fun e he b hb => h1.bd.rowlt he hb)).mono fun k hk => ?_⟩
  · rcases hk with hk | hk
    · exact h1.fT hk
    · omega
  · rcases hk with hk | hk
    · exact h1.fM hk
    · omega
  · rcases hk with (hk | hk) | hk | hk
    · exact .inl (.inl hk)
    · exact .inr hk
    · exact .inl (.inr (.inl hk))
    · exact .inl (.inr (.inr hk))
structure ApV (w9 : World) (Tb M : Nat) (L : List En) (v : Value) (G : List ByteArray) (V : World) : Prop where
  tab : ∃ F : Nat → Prop, (∀ k, k < w9.heap.size → F k) ∧ (∀ b, v.ownBlock = some b → F b) ∧ TF F Tb M room64 L V
  row : SRow w9.heap.size v G V
  kp : Kp (fun k => k < w9.heap.size) w9 V
theorem ApV.add {w9 V : World} {Tb M : Nat} {L L' : List En} {v : Value} {G : List ByteArray} {x : List UInt8} {r : List UInt8 × Nat} (h : ApV w9 Tb M L v G V) (hg : GoodT room64 L) (hx : x.length ≤ 65535) (ha : addT room64 L x = (r, L')) :
    Calls Try.prog 15 #[.pointer (some ⟨Tb, 0, none⟩), .string (bs x)] V fun e w' => e = .returned (.tuple #[.string (bs r.1), .int .i64 (r.2 : Nat)]) ∧ ApV w9 Tb M L' v G w' := by
  obtain ⟨F, hF, hv, ht⟩ := h.tab
  have h1 := ht.add hg ⟨by decide, by decide⟩ (bs x) (by rw [bs_size]; omega)
  rw [bs_list, ha] at h1
  exact h1.mono fun e w' q => ⟨q.1, ⟨F, hF, hv, q.2.1⟩, h.row.same (fun b hb => q.2.2.block b (hv b hb)), h.kp.trans (q.2.2.mono hF)⟩
theorem ApV.drew {w9 V : World} {Tb M : Nat} {L : List En} {v : Value} {G : List ByteArray} (h : ApV w9 Tb M L v G V) : ApV w9 Tb M L v G V.drew := by
  obtain ⟨F, hF, hv, ht⟩ := h.tab
  exact ⟨⟨F, hF, hv, ht.drew⟩, h.row, h.kp.drew⟩
theorem ApV.app {w9 V : World} {Tb M : Nat} {L : List En} {v : Value} {G : List ByteArray} (h : ApV w9 Tb M L v G V) (hG : G.length ≤ 1000000) (X : ByteArray) :
    ∃ v' w6, (Builtin.append_ #[24, 24] 24 #[v, .slice (some ⟨V.heap.size, 0, none⟩) 1 1]).run Try.prog (V.alloc (.cells #[.string X] 9)) = .ok v' w6 ∧ ApV w9 Tb M L v' (G ++ [X]) w6 := by
  obtain ⟨F, hF, hv, ht⟩ := h.tab
  have hs := h.kp.size
  obtain ⟨W, hW⟩ : ∃ W, W = V.alloc (.cells #[.string X] 9) := ⟨_, rfl⟩
  have hWs : W.heap.size = V.heap.size + 1 := by rw [hW, World.size_alloc]
  have hr : SRow w9.heap.size v G W := by rw [hW]; exact h.row.below ((Below.refl _ _).alloc (Nat.le_refl _) _)
  obtain ⟨v', w6, h1, h2, h3, h4⟩ := app_s hr X V.heap.size (by rw [hW]; exact alloc_new _ _) hG (by omega)
  have ht1 := ht.more (.cells #[.string X] 9)
  rw [← hW] at ht1
  have ht2 := ht1.grow h3 (fun b hb => .inl (hv b hb))
  have hk1 : Kp (fun k => k < w9.heap.size) V W := by rw [hW]; exact Kp.of_below ((Below.refl _ _).alloc (Nat.le_refl _) _) (fun k hk => by omega)
  refine ⟨v', w6, by rw [← hW]; exact h1, ⟨_, fun k hk => .inl (.inl (hF k hk)), fun b hb => ?_, ht2⟩, h2, (h.kp.trans hk1).trans (Kp.of_grown h3 (fun k hk => ⟨by omega, fun e => by have := hr.le e.symm; omega⟩))⟩
  rcases h4 with e | e
  · rw [e] at hb; exact .inl (.inl (hv b hb))
  · rw [e] at hb
    injection hb with hb
    obtain ⟨cur, hc⟩ := h2.obj (by rw [e])
    have := heap_lt hc
    exact .inr ⟨by omega, by omega⟩
def GS (X Y : ByteArray) (a b : Prop) [Decidable a] [Decidable b] (G : List ByteArray) : Prop := G = (if a then [X] else []) ++ (if b then [Y] else []) ∨ G = (if b then [Y] else []) ++ (if a then [X] else [])
def lenOf : Value → Nat
  | .slice _ n _ => n
  | _ => 0
def H4.small9 (h : H4) : Prop := h.src.length < 9223372036854775808 ∧ h.dst.length < 9223372036854775808 ∧ h.opt.length < 9223372036854775808
theorem row_cap {B : Nat} {g : Addr} {n cap : Nat} {l : List ByteArray} {w : World} (h : SRow B (.slice (some g) n cap) l w) : n ≤ cap := by
  rcases h.2 with ⟨e, _⟩ | ⟨g', cap', cur, e, _, _, hn, _⟩
  · cases e
  · injection e with _ e1 e2
    rw [e1, e2]; exact hn
set_option maxHeartbeats 32000000 in
theorem apart_walk (h : H4) (pa pb : List UInt8) (oth : Nat) (hoth : oth < 65536) (mtu : Int) (ord : List Bool) (a : Option Addr) (cap : Nat) (w : World) (hin : BlIn w a ord) (hl : h.small9) (hpa : pa.length < 9223372036854775808) (hpb : pb.length < 9223372036854775808) (hol : ord.length ≤ 9223372036854775807) :
    Calls Try.prog 5 #[hv h, .string (bs pa), .string (bs pb), .int .u16 (oth : Nat), .int .i64 mtu, .slice a ord.length cap] w fun e w' => e = .returned (.bool true) ∧ Below w.heap.size w w' := by
  obtain ⟨SA, hSA⟩ : ∃ S, S = bs pa := ⟨_, rfl⟩
  obtain ⟨SB, hSB⟩ : ∃ S, S = bs pb := ⟨_, rfl⟩
  have hAz : SA.size = pa.length := by rw [hSA, bs_size]
  have hBz : SB.size = pb.length := by rw [hSB, bs_size]
  have CA := Lib.hid awake_any
  obtain ⟨tos, id, off, ttl, proto, df, mf, src, dst, opt⟩ := h
  obtain ⟨hA, hhA⟩ : ∃ h', h' = (⟨tos, id, 0, ttl, proto, false, false, src, dst, opt⟩ : H4) := ⟨_, rfl⟩
  obtain ⟨hB, hhB⟩ : ∃ h', h' = (⟨tos, (oth : Nat), 0, ttl, proto, false, false, src, dst, opt⟩ : H4) := ⟨_, rfl⟩
  obtain ⟨RA, hRA⟩ : ∃ R, R = putE hA pa := ⟨_, rfl⟩
  obtain ⟨RB, hRB⟩ : ∃ R, R = putE hB pb := ⟨_, rfl⟩
  unfold H4.small9 at hl
  simp only at hl
  have PUA : pa.length ≤ 5000 → Hid (∀ V, Calls Try.prog 22 #[.agg #[.int .i64 tos, .int .i64 id, .int .i64 0, .int .i64 ttl, .int .i64 proto, .bool false, .bool false, .string (bs src), .string (bs dst), .string (bs opt)], .string SA] V fun e w' => e = .returned (putR RA) ∧ Below V.heap.size V w') := fun h2 => Lib.hid (fun V => by
    have := rput_any hA pa V (by rw [hhA]; exact hl) (by omega)
    rw [hRA, hSA]; rw [hhA] at this ⊢; exact this)
  have PUB : pb.length ≤ 5000 → Hid (∀ V, Calls Try.prog 22 #[.agg #[.int .i64 tos, .int .i64 (oth : Nat), .int .i64 0, .int .i64 ttl, .int .i64 proto, .bool false, .bool false, .string (bs src), .string (bs dst), .string (bs opt)], .string SB] V fun e w' => e = .returned (putR RB) ∧ Below V.heap.size V w') := fun h2 => Lib.hid (fun V => by
    have := rput_any hB pb V (by rw [hhB]; exact hl) (by omega)
    rw [hRB, hSB]; rw [hhB] at this ⊢; exact this)
  obtain ⟨Hx, hHx⟩ : ∃ k, k = w.heap.size := ⟨_, rfl⟩
  obtain ⟨W1, hW1⟩ : ∃ W, W = w.alloc (.cells #[.int .i64 tos, .int .i64 id, .int .i64 off, .int .i64 ttl, .int .i64 proto, .bool df, .bool mf, .string (bs src), .string (bs dst), .string (bs opt)] 43) := ⟨_, rfl⟩
  have HW1 : Hid (W1.heap[Hx]? = some (.cells #[.int .i64 tos, .int .i64 id, .int .i64 off, .int .i64 ttl, .int .i64 proto, .bool df, .bool mf, .string (bs src), .string (bs dst), .string (bs opt)] 43 (0, 0)) ∧ Below w.heap.size w W1) := Lib.hid (by rw [hW1, hHx]; exact ⟨alloc_new _ _, (Below.refl _ _).alloc (Nat.le_refl _) _⟩)
  have HIN := Lib.hid hin
  obtain ⟨n, hn⟩ : ∃ n, n = ord.length := ⟨_, rfl⟩
  have HN := Lib.hid hn
  rw [← hn] at hol ⊢
  rw [← hSA, ← hSB]
  have HHX : Hid (w.heap.size ≤ Hx) := Lib.hid (by omega)
  have HSA := Lib.hid hSA
  have HSB := Lib.hid hSB
  have HAZ := Lib.hid hAz
  have HBZ := Lib.hid hBz
  have HRA := Lib.hid hRA
  have HRB := Lib.hid hRB
  have HHA := Lib.hid hhA
  have HHB := Lib.hid hhB
  have HPUA := Lib.hid PUA
  have HPUB := Lib.hid PUB
  have HL := Lib.hid hl
  clear hin hn hSA hSB hAz hBz hRA hRB hhA hhB PUA PUB hpa hpb hl
  unfold hv hc
  simp only
  go_enter Try.func5, Try.ntmps5
  go_upto_region 1 with (fail)
  rw [← hW1, ← hHx]
  clear hW1 hHx
  go_upto_region 3 with (go_at_call 9; (with_reducible refine (CA.out _).mono ?_); rintro e W2 ⟨rfl, hb2⟩)
  have HW2 : Hid (W2.heap[Hx]? = some (.cells #[.int .i64 tos, .int .i64 id, .int .i64 off, .int .i64 ttl, .int .i64 proto, .bool df, .bool mf, .string (bs src), .string (bs dst), .string (bs opt)] 43 (0, 0)) ∧ Below w.heap.size w W2) := Lib.hid ⟨(hb2.block _ (heap_lt HW1.out.1)).trans HW1.out.1, HW1.out.2.trans (hb2.mono HW1.out.2.size)⟩
  clear hb2
  have k1 := cellAt (i := 1) (v := .int .i64 id) HW2.out.1 rfl
  have woth : IntKind.i64.wrap (oth : Int) = (oth : Int) := IntWalk.i64_in _ (by omega)
  by_cases g1 : 5000 < SA.size
  · have g1' : (5000 : Int) < (SA.size : Int) := by omega
    go_wp2_with (fail)
    go_ret
    exact ⟨rfl, HW2.out.2⟩
  have g1' : ¬ (5000 : Int) < (SA.size : Int) := by omega
  by_cases g2 : 5000 < SB.size
  · have g2' : (5000 : Int) < (SB.size : Int) := by omega
    go_wp2_with (fail)
    go_ret
    exact ⟨rfl, HW2.out.2⟩
  have g2' : ¬ (5000 : Int) < (SB.size : Int) := by omega
  by_cases g3 : 1000 < n
  · have g3' : (1000 : Int) < (n : Int) := by omega
    go_wp2_with (fail)
    go_ret
    exact ⟨rfl, HW2.out.2⟩
  have g3' : ¬ (1000 : Int) < (n : Int) := by omega
  by_cases g4 : (oth : Int) = id
  · have g4b : ((oth : Int) == id) = true := by rw [beq_iff_eq]; exact g4
    go_wp2_with (fail)
    go_ret
    exact ⟨rfl, HW2.out.2⟩
  have g4b : ((oth : Int) == id) = false := by rw [beq_eq_false_iff_ne]; exact g4
  have HNE : Hid ((oth : Int) ≠ id) := Lib.hid g4
  have k2 := cellAt (i := 2) (v := .int .i64 off) HW2.out.1 rfl
  have k6 := cellAt (i := 6) (v := .bool mf) HW2.out.1 rfl
  have k5 := cellAt (i := 5) (v := .bool df) HW2.out.1 rfl
  have f2 := Lib.frozen_of_heap HW2.out.1 2
  have f6 := Lib.frozen_of_heap HW2.out.1 6
  have f5 := Lib.frozen_of_heap HW2.out.1 5
  go_upto_region 6 with (fail)
  obtain ⟨W3, hW3⟩ : ∃ W, W = ((W2.setCell ⟨Hx, 2, none⟩ (.int .i64 0)).setCell ⟨Hx, 6, none⟩ (.bool false)).setCell ⟨Hx, 5, none⟩ (.bool false) := ⟨_, rfl⟩
  have HW3 : Hid (W3.heap[Hx]? = some (.cells #[.int .i64 tos, .int .i64 id, .int .i64 0, .int .i64 ttl, .int .i64 proto, .bool false, .bool false, .string (bs src), .string (bs dst), .string (bs opt)] 43 (0, 0)) ∧ Below w.heap.size w W3) := Lib.hid (by
    rw [hW3]
    exact ⟨heap_set (heap_set (heap_set HW2.out.1 (by show 2 < 10; decide) _) (by show 6 < 10; decide) _) (by show 5 < 10; decide) _, ((HW2.out.2.setCell (p := ⟨Hx, 2, none⟩) HHX.out _).setCell (p := ⟨Hx, 6, none⟩) HHX.out _).setCell (p := ⟨Hx, 5, none⟩) HHX.out _⟩)
  rw [← hW3]
  clear hW3 k1 k2 k6 k5 f2 f6 f5 g4b
  have k0 := cellAt (i := 0) (v := .int .i64 tos) HW3.out.1 rfl
  have k1 := cellAt (i := 1) (v := .int .i64 id) HW3.out.1 rfl
  have k2 := cellAt (i := 2) (v := .int .i64 0) HW3.out.1 rfl
  have k3 := cellAt (i := 3) (v := .int .i64 ttl) HW3.out.1 rfl
  have k4 := cellAt (i := 4) (v := .int .i64 proto) HW3.out.1 rfl
  have k5 := cellAt (i := 5) (v := .bool false) HW3.out.1 rfl
  have k6 := cellAt (i := 6) (v := .bool false) HW3.out.1 rfl
  have k7 := cellAt (i := 7) (v := .string (bs src)) HW3.out.1 rfl
  have k8 := cellAt (i := 8) (v := .string (bs dst)) HW3.out.1 rfl
  have k9 := cellAt (i := 9) (v := .string (bs opt)) HW3.out.1 rfl
  go_upto_region 7 with (fail)
  obtain ⟨Hy, hHy⟩ : ∃ k, k = W3.heap.size := ⟨_, rfl⟩
  obtain ⟨W4, hW4⟩ : ∃ W, W = W3.alloc (.cells #[.int .i64 tos, .int .i64 id, .int .i64 0, .int .i64 ttl, .int .i64 proto, .bool false, .bool false, .string (bs src), .string (bs dst), .string (bs opt)] 43) := ⟨_, rfl⟩
  have HW4 : Hid (W4.heap[Hy]? = some (.cells #[.int .i64 tos, .int .i64 id, .int .i64 0, .int .i64 ttl, .int .i64 proto, .bool false, .bool false, .string (bs src), .string (bs dst), .string (bs opt)] 43 (0, 0)) ∧ W4.heap[Hx]? = some (.cells #[.int .i64 tos, .int .i64 id, .int .i64 0, .int .i64 ttl, .int .i64 proto, .bool false, .bool false, .string (bs src), .string (bs dst), .string (bs opt)] 43 (0, 0)) ∧ Below w.heap.size w W4 ∧ Hx ≠ Hy ∧ w.heap.size ≤ Hy) := Lib.hid (by
    have hx := heap_lt HW3.out.1
    have hs := HW3.out.2.size
    rw [hW4, hHy]
    exact ⟨alloc_new _ _, (Below.heap_alloc _ _ _ hx).trans HW3.out.1, HW3.out.2.alloc hs _, by omega, hs⟩)
  rw [← hW4, ← hHy]
  clear hW4 hHy k0 k1 k2 k3 k4 k5 k6 k7 k8 k9
  have k1 := cellAt (i := 1) (v := .int .i64 id) HW4.out.1 rfl
  have f1 := Lib.frozen_of_heap HW4.out.1 1
  go_upto_region 8 with (fail)
  obtain ⟨W5, hW5⟩ : ∃ W, W = W4.setCell ⟨Hy, 1, none⟩ (.int .i64 (oth : Nat)) := ⟨_, rfl⟩
  have HW5 : Hid (W5.heap[Hy]? = some (.cells #[.int .i64 tos, .int .i64 (oth : Nat), .int .i64 0, .int .i64 ttl, .int .i64 proto, .bool false, .bool false, .string (bs src), .string (bs dst), .string (bs opt)] 43 (0, 0)) ∧ W5.heap[Hx]? = some (.cells #[.int .i64 tos, .int .i64 id, .int .i64 0, .int .i64 ttl, .int .i64 proto, .bool false, .bool false, .string (bs src), .string (bs dst), .string (bs opt)] 43 (0, 0)) ∧ Below w.heap.size w W5) := Lib.hid (by
    rw [hW5]
    exact ⟨heap_set HW4.out.1 (by show 1 < 10; decide) _, (Below.heap_setCell _ _ _ _ HW4.out.2.2.2.1).trans HW4.out.2.1, HW4.out.2.2.1.setCell (p := ⟨Hy, 1, none⟩) HW4.out.2.2.2.2 _⟩)
  rw [← hW5]
  clear hW5 k1 f1 woth
  have k0 := cellAt (i := 0) (v := .int .i64 tos) HW5.out.2.1 rfl
  have k1 := cellAt (i := 1) (v := .int .i64 id) HW5.out.2.1 rfl
  have k2 := cellAt (i := 2) (v := .int .i64 0) HW5.out.2.1 rfl
  have k3 := cellAt (i := 3) (v := .int .i64 ttl) HW5.out.2.1 rfl
  have k4 := cellAt (i := 4) (v := .int .i64 proto) HW5.out.2.1 rfl
  have k5 := cellAt (i := 5) (v := .bool false) HW5.out.2.1 rfl
  have k6 := cellAt (i := 6) (v := .bool false) HW5.out.2.1 rfl
  have k7 := cellAt (i := 7) (v := .string (bs src)) HW5.out.2.1 rfl
  have k8 := cellAt (i := 8) (v := .string (bs dst)) HW5.out.2.1 rfl
  have k9 := cellAt (i := 9) (v := .string (bs opt)) HW5.out.2.1 rfl
  obtain ⟨X, ca, hpra, hcca⟩ := putR_form RA (fun c e => by rw [HRA.out] at e; exact putE_err e)
  obtain ⟨Y, cb, hprb, hccb⟩ := putR_form RB (fun c e => by rw [HRB.out] at e; exact putE_err e)
  have PUA2 := HPUA.out (by have := HAZ.out; omega)
  have PUB2 := HPUB.out (by have := HBZ.out; omega)
  rw [hpra] at PUA2
  rw [hprb] at PUB2
  have HCA := Lib.hid hcca
  have HCB := Lib.hid hccb
  clear hpra hprb hcca hccb HPUA HPUB CA
  go_upto_region 9 with (go_at_call 22; (with_reducible refine (PUA2.out _).mono ?_); rintro e w6 ⟨rfl, hb6⟩)
  have HB6 := Lib.hid (HW5.out.2.2.trans (hb6.mono HW5.out.2.2.size))
  have HY6 : Hid (w6.heap[Hy]? = some (.cells #[.int .i64 tos, .int .i64 (oth : Nat), .int .i64 0, .int .i64 ttl, .int .i64 proto, .bool false, .bool false, .string (bs src), .string (bs dst), .string (bs opt)] 43 (0, 0))) := Lib.hid ((hb6.block _ (heap_lt HW5.out.1)).trans HW5.out.1)
  clear hb6 k0 k1 k2 k3 k4 k5 k6 k7 k8 k9
  have k0 := cellAt (i := 0) (v := .int .i64 tos) HY6.out rfl
  have k1 := cellAt (i := 1) (v := .int .i64 (oth : Nat)) HY6.out rfl
  have k2 := cellAt (i := 2) (v := .int .i64 0) HY6.out rfl
  have k3 := cellAt (i := 3) (v := .int .i64 ttl) HY6.out rfl
  have k4 := cellAt (i := 4) (v := .int .i64 proto) HY6.out rfl
  have k5 := cellAt (i := 5) (v := .bool false) HY6.out rfl
  have k6 := cellAt (i := 6) (v := .bool false) HY6.out rfl
  have k7 := cellAt (i := 7) (v := .string (bs src)) HY6.out rfl
  have k8 := cellAt (i := 8) (v := .string (bs dst)) HY6.out rfl
  have k9 := cellAt (i := 9) (v := .string (bs opt)) HY6.out rfl
  go_upto_region 10 with (go_at_call 22; (with_reducible refine (PUB2.out _).mono ?_); rintro e w7 ⟨rfl, hb7⟩)
  have HB7 := Lib.hid (HB6.out.trans (hb7.mono HB6.out.size))
  clear hb7 PUA2 PUB2 k0 k1 k2 k3 k4 k5 k6 k7 k8 k9
  by_cases hc0 : ca = 0
  rotate_left
  · have q1 : ((ca : Int) != 0) = true := by rw [bne_iff_ne]; omega
    have q2 : (ca : Int) ≠ 0 := by omega
    go_wp2_with (fail)
    go_ret
    exact ⟨rfl, HB7.out⟩
  subst hc0
  by_cases hc1 : cb = 0
  rotate_left
  · have q1 : ((cb : Int) != 0) = true := by rw [bne_iff_ne]; omega
    have q2 : (cb : Int) ≠ 0 := by omega
    go_wp2_with (fail)
    go_ret
    exact ⟨rfl, HB7.out⟩
  subst hc1
  have hputA : putE hA pa = .ok X.data.toList := by
    rcases HCA.out with ⟨_, h1⟩ | h1
    · rw [← HRA.out, h1]
    · exact absurd rfl h1
  have hputB : putE hB pb = .ok Y.data.toList := by
    rcases HCB.out with ⟨_, h1⟩ | h1
    · rw [← HRB.out, h1]
    · exact absurd rfl h1
  have CUTA := Lib.hid (fun V => cut_any X mtu hA pa hputA (by rw [HHA.out]) (by rw [HHA.out]) V)
  have CUTB := Lib.hid (fun V => cut_any Y mtu hB pb hputB (by rw [HHB.out]) (by rw [HHB.out]) V)
  have HPA := Lib.hid hputA
  have HPB := Lib.hid hputB
  clear hputA hputB HCA HCB
  go_upto_region 13 with (go_at_call 23; (with_reducible refine (CUTA.out _).mono ?_); rintro e w8 ⟨va, cca, rfl, hb8, hoka⟩)
  have HB8 := Lib.hid (HB7.out.trans (hb8.mono HB7.out.size))
  have HOKA := Lib.hid hoka
  clear hoka CUTA hb8
  go_upto_region 14 with (go_at_call 23; (with_reducible refine (CUTB.out _).mono ?_); rintro e w9 ⟨vb, ccb, rfl, hb9, hokb⟩)
  have HB9 := Lib.hid (HB8.out.trans (hb9.mono HB8.out.size))
  have HOKB := Lib.hid hokb
  have H89 := Lib.hid hb9
  clear hokb CUTB hb9
  by_cases hc2 : cca = 0
  rotate_left
  · have q1 : (cca != 0) = true := by rw [bne_iff_ne]; exact hc2
    go_wp2_with (fail)
    go_ret
    exact ⟨rfl, HB9.out⟩
  subst hc2
  by_cases hc3 : ccb = 0
  rotate_left
  · have q1 : (ccb != 0) = true := by rw [bne_iff_ne]; exact hc3
    go_wp2_with (fail)
    go_ret
    exact ⟨rfl, HB9.out⟩
  subst hc3
  obtain ⟨la, za, na, hrowa, hcuta⟩ := HOKA.out rfl
  obtain ⟨lb, zb, nb, hrowb, hcutb⟩ := HOKB.out rfl
  have hnla := hcuta.len
  have hnlb := hcutb.len
  have hna0 := hcuta.ok.n0
  have hnb0 := hcutb.ok.n0
  obtain ⟨ga, capa, rfl, _⟩ := World.ownsRow.form hrowa (by rw [hnla]; exact hna0)
  obtain ⟨gb, capb, rfl, _⟩ := World.ownsRow.form hrowb (by rw [hnlb]; exact hnb0)
  have hcapa : na ≤ capa := by rw [← hnla]; exact row_cap hrowa
  have hcapb : nb ≤ capb := by rw [← hnlb]; exact row_cap hrowb
  rw [hnla, hnlb]
  have HROWA : Hid (SRow w7.heap.size (.slice (some ⟨ga, 0, none⟩) la.length capa) la w9) := Lib.hid (hrowa.below H89.out)
  have HROWB := Lib.hid hrowb
  have HCUTA := Lib.hid hcuta
  have HCUTB := Lib.hid hcutb
  clear hrowa hcuta HOKA hnla hrowb hcutb HOKB hnlb
  have CR := Lib.hid (fun V => roomy_any V)
  have CN := Lib.hid (fun V => new_tf 64 1048576 64 V (by decide))
  go_upto_region 20 with (first | (go_at_call 24; (with_reducible refine (CR.out _).mono ?_); rintro e w10 ⟨rfl, hb10⟩) | (go_at_call 11; (with_reducible refine (CN.out _).mono ?_); rintro e w11 ⟨Tb, M, rfl, ht11, hb11⟩))
  have HT0 : Hid (ApV w9 Tb M [] (.slice none 0 0) [] w11) := Lib.hid ⟨⟨fun k => k < w9.heap.size, fun k hk => hk, (fun b hb => nomatch hb), ht11.mono fun k hk => Nat.lt_of_lt_of_le hk hb10.size⟩, SRow.nil _ _, Kp.of_below (hb10.trans (hb11.mono hb10.size)) (fun k hk => hk)⟩
  clear ht11 hb10 hb11 CN CR
  have CXA : Hid (∀ (q : Nat) (V : World), q < na → Kp (fun k => k < w9.heap.size) w9 V → ∃ x, putE (pcs hA pa za q).h (pcs hA pa za q).s = .ok x ∧ V.cell? ⟨ga, q, none⟩ = some (.string (bs x))) := Lib.hid (by
    intro q V hq hkp
    obtain ⟨x, hx, hlx⟩ := HCUTA.out.at' q hq
    have hr2 := HROWA.out.same (w' := V) fun b hb => hkp.block b (by obtain ⟨cur, hc⟩ := HROWA.out.obj hb; exact heap_lt hc)
    obtain ⟨g', c', e1, e2⟩ := hr2.at q (by rw [HCUTA.out.len]; exact hq)
    injection e1 with e1
    injection e1 with e1
    injection e1 with e1
    rw [← e1] at e2
    rw [List.getElem?_eq_getElem (by rw [HCUTA.out.len]; exact hq)] at hlx
    rw [Option.some.inj hlx] at e2
    exact ⟨x, hx, e2⟩)
  have CXB : Hid (∀ (q : Nat) (V : World), q < nb → Kp (fun k => k < w9.heap.size) w9 V → ∃ x, putE (pcs hB pb zb q).h (pcs hB pb zb q).s = .ok x ∧ V.cell? ⟨gb, q, none⟩ = some (.string (bs x))) := Lib.hid (by
    intro q V hq hkp
    obtain ⟨x, hx, hlx⟩ := HCUTB.out.at' q hq
    have hr2 := HROWB.out.same (w' := V) fun b hb => hkp.block b (by obtain ⟨cur, hc⟩ := HROWB.out.obj hb; exact heap_lt hc)
    obtain ⟨g', c', e1, e2⟩ := hr2.at q (by rw [HCUTB.out.len]; exact hq)
    injection e1 with e1
    injection e1 with e1
    injection e1 with e1
    rw [← e1] at e2
    rw [List.getElem?_eq_getElem (by rw [HCUTB.out.len]; exact hq)] at hlx
    rw [Option.some.inj hlx] at e2
    exact ⟨x, hx, e2⟩)
  have HKY : Hid (kyOf hA ≠ kyOf hB) := Lib.hid (fun e => by
    rw [HHA.out, HHB.out] at e
    exact HNE.out (by injection e with _ _ _ e; exact e.symm))
  have HNAB : Hid (na ≤ 65536 ∧ nb ≤ 65536) := Lib.hid (by
    have f : ∀ {h : H4} {s : List UInt8} {z n : Nat}, CutOk h s z n → n ≤ 65536 := fun {h s z n} c => by
      have h2 := c.len
      have h3 : n - 1 ≤ (n - 1) * z := Nat.le_mul_of_pos_right _ c.z0
      rcases c.lo with h1 | h1 <;> omega
    exact ⟨f HCUTA.out.ok, f HCUTB.out.ok⟩)
  have hlA : pa.length ≤ 5000 := by have := HAZ.out; omega
  have hlB : pb.length ≤ 5000 := by have := HBZ.out; omega
  have HLAB := Lib.hid (And.intro hlA hlB)
  clear hlA hlB
  have hna9 : na ≤ 65536 := HNAB.out.1
  have hnb9 : nb ≤ 65536 := HNAB.out.2
  go_wp2_with (fail)
  go_loopw [18, 20, 24, 25] (fun l m gv nn V => ∃ (i ra ca' i' rb cb' : Nat) (ada adb : Addr) (L : List En) (v : Value) (G : List ByteArray), i + ra = na ∧ i' + rb = nb ∧ ra ≤ ca' ∧ rb ≤ cb' ∧ l = .slice (some ada) ra ca' ∧ m = .slice (some adb) rb cb' ∧ Hid (0 < ra → ada = ⟨ga, i, none⟩) ∧ Hid (0 < rb → adb = ⟨gb, i', none⟩) ∧ v = gv ∧ nn = .int .i64 ((i + i' : Nat) : Int) ∧ Hid (ApV w9 Tb M L v G V) ∧ Hid (AP (eO hA pa za na i) (eO hB pb zb nb i') i i' L ∧ GoodT room64 L ∧ GS X Y (i = na) (i' = nb) G)) (fun l m _ _ _ => lenOf l + lenOf m)
  case atStart =>
    refine ⟨0, na, capa, 0, nb, capb, _, _, [], _, [], by omega, by omega, hcapa, hcapb, rfl, rfl, Lib.hid (fun _ => rfl), Lib.hid (fun _ => rfl), rfl, rfl, HT0, Lib.hid ⟨.inl ⟨rfl, rfl, rfl⟩, GoodT.nil _, .inl ?_⟩⟩
    rw [if_neg (by omega), if_neg (by omega)]; rfl
  case round =>
    obtain ⟨i, ra, ca', i', rb, cb', ada, adb, L, v, G, ea, eb, eca, ecb, rfl, rfl, hada, hadb, rfl, rfl, hap, HST⟩ := hrel
    obtain ⟨kk, hkk⟩ : ∃ kk, kk = i + i' := ⟨_, rfl⟩
    rw [← hkk]
    have HKK := Lib.hid hkk
    have wkk : IntKind.i64.wrap ((kk : Int) + 1) = ((kk + 1 : Nat) : Int) := by rw [IntWalk.i64_in _ (by omega)]; rfl
    have KYA : Hid ((eO hA pa za na i).k ≠ kyOf hB ∧ lenP (eO hA pa za na i).ps ≤ 5000 ∧ pb.length ≤ 5000) := Lib.hid ⟨by rw [eO_k]; exact HKY.out, Nat.le_trans (eO_len HCUTA.out.ok i) HLAB.out.1, HLAB.out.2⟩
    have KYB : Hid ((eO hB pb zb nb i').k ≠ kyOf hA ∧ lenP (eO hB pb zb nb i').ps ≤ 5000 ∧ pa.length ≤ 5000) := Lib.hid ⟨by rw [eO_k]; exact fun e => HKY.out e.symm, Nat.le_trans (eO_len HCUTB.out.ok i') HLAB.out.2, HLAB.out.1⟩
    have hbw : Below w.heap.size w wr := HB9.out.trans ((hap.out.kp.below (fun k hk => hk)).mono HB9.out.size)
    have HBW := Lib.hid hbw
    clear hkk hbw
    by_cases hz : ra = 0 ∧ rb = 0
    · obtain ⟨rfl, rfl⟩ := hz
      have hi : i = na := by omega
      have hi' : i' = nb := by omega
      have hG : G = [X, Y] ∨ G = [Y, X] := by
        have := HST.out.2.2
        unfold GS at this
        rw [if_pos hi, if_pos hi'] at this
        exact this
      have hGl : G.length = 2 := by rcases hG with e | e <;> (rw [e]; rfl)
      obtain ⟨g, c', ev, c0⟩ := hap.out.row.at 0 (by omega)
      obtain ⟨g9, c9, ev9, c1⟩ := hap.out.row.at 1 (by omega)
      have eg : g9 = g := by
        rw [ev] at ev9
        injection ev9 with e
        injection e with e
        injection e with e
        exact e.symm
      rw [eg] at c1
      rw [hGl] at ev
      clear ev9
      subst ev
      rcases hG with rfl | rfl
      · have c0' : wr.cell? ⟨g, 0, none⟩ = some (.string X) := c0
        have c1' : wr.cell? ⟨g, 1, none⟩ = some (.string Y) := c1
        clear c0 c1
        go_wp2_with (fail)
        (go_ret; exact ⟨rfl, HBW.out⟩)
      · have c0' : wr.cell? ⟨g, 0, none⟩ = some (.string Y) := c0
        have c1' : wr.cell? ⟨g, 1, none⟩ = some (.string X) := c1
        clear c0 c1
        by_cases hxy : Y = X
        · subst hxy
          go_wp2_with (fail)
          (go_ret; exact ⟨rfl, HBW.out⟩)
        · have q1 : (Y.toList == X.toList) = false := by rw [beq_str, decide_eq_false hxy]
          have q2 : ¬ Y.toList = X.toList := by simpa using q1
          go_wp2_with (fail)
          (go_ret; exact ⟨rfl, HBW.out⟩)
    · obtain ⟨bb, hbb⟩ : ∃ b, b = (decide (rb = 0) || (decide (0 < ra) && (decide (kk < n) && ord[kk]?.getD false))) := ⟨_, rfl⟩
      have HBB : Hid ((bb = true → 0 < ra) ∧ (bb = false → 0 < rb)) := Lib.hid (by
        rw [hbb]
        constructor
        · intro h
          rw [Bool.or_eq_true, Bool.and_eq_true, decide_eq_true_eq, decide_eq_true_eq] at h
          omega
        · intro h
          rw [Bool.or_eq_false_iff, decide_eq_false_iff_not] at h
          omega)
      have HBE := Lib.hid hbb
      clear hbb
      go_upto_region 21 with (fail)
      go_cut [112] (fun s wx => s = .bool true ∧ wx = wr)
      case first =>
        by_cases h0 : 0 < ra
        · have h0i : (0 : Int) < (ra : Int) := by omega
          go_wp2_with (fail)
          go_meet
          exact ⟨rfl, rfl⟩
        · have h0i : ¬ (0 : Int) < (ra : Int) := by omega
          have h1i : (0 : Int) < (rb : Int) := by omega
          have h1n : 0 < rb := by omega
          go_wp2_with (fail)
          go_meet
          exact ⟨by first | rfl | rw [decide_eq_true h1n], rfl⟩
      case rest =>
      obtain ⟨rfl, rfl⟩ := hcut
      go_upto_region 24 with (fail)
      go_cut [134] (fun s wx => s = .bool bb ∧ wx = wc)
      case first =>
        by_cases h1 : rb = 0
        · have h1b : ((rb : Int) == 0) = true := by rw [beq_iff_eq]; omega
          have hb1 : bb = true := by rw [HBE.out, decide_eq_true h1]; rfl
          go_wp2_with (fail)
          go_meet
          exact ⟨by rw [hb1], rfl⟩
        have h1b : ((rb : Int) == 0) = false := by rw [beq_eq_false_iff_ne]; omega
        have h1c : ¬ (rb : Int) = 0 := by omega
        by_cases h2 : 0 < ra
        rotate_left
        · have h2i : ¬ (0 : Int) < (ra : Int) := by omega
          have hb1 : bb = false := by rw [HBE.out, decide_eq_false h1, decide_eq_false h2]; rfl
          go_wp2_with (fail)
          go_meet
          exact ⟨by rw [hb1], rfl⟩
        have h2i : (0 : Int) < (ra : Int) := by omega
        by_cases h3 : kk < n
        rotate_left
        · have h3i : ¬ (kk : Int) < (n : Int) := by omega
          have hb1 : bb = false := by rw [HBE.out, decide_eq_false h1, decide_eq_false h3, Bool.false_and, Bool.and_false]; rfl
          go_wp2_with (fail)
          go_meet
          exact ⟨by rw [hb1], rfl⟩
        have h3i : (kk : Int) < (n : Int) := by omega
        obtain ⟨A, hA9, c0⟩ := (HIN.out.below HBW.out) kk (by rw [← HN.out]; exact h3)
        subst hA9
        have hb1 : bb = ord[kk]'(by rw [← HN.out]; exact h3) := by
          rw [HBE.out, decide_eq_false h1, decide_eq_true h2, decide_eq_true h3, List.getElem?_eq_getElem (by rw [← HN.out]; exact h3)]; rfl
        rw [← hb1] at c0
        clear hb1
        go_wp2_with (fail)
        go_meet
        exact ⟨rfl, rfl⟩
      case rest =>
      obtain ⟨rfl, rfl⟩ := hcut
      cases bb
      rotate_left
      · have h0 : 0 < ra := HBB.out.1 rfl
        obtain rfl := hada.out h0
        obtain ⟨x, hx, cx⟩ := CXA.out i wc (by omega) hap.out.kp
        obtain ⟨r1, hr1⟩ : ∃ r1, r1 = ra - 1 := ⟨_, rfl⟩
        obtain ⟨c1, hc1⟩ : ∃ c1, c1 = ca' - 1 := ⟨_, rfl⟩
        obtain ⟨ad', had⟩ : ∃ ad' : Addr, ad' = if ca' = 1 then ⟨ga, i, none⟩ else ⟨ga, i + 1, none⟩ := ⟨_, rfl⟩
        have hsl : ∀ V, (Instr.sliceAt 24 (.slice (some ⟨ga, i, none⟩) ra ca') (some (.int .i64 1)) none none).run Try.prog V = .ok (.slice (some ad') r1 c1) V := fun V => by rw [hr1, hc1, had]; exact slice1_run V ga i ra ca' (by omega) (by omega)
        have HAD : Hid (0 < r1 → ad' = ⟨ga, i + 1, none⟩) := Lib.hid (fun h9 => by rw [had, if_neg (by omega)])
        have h0i : (0 : Int) < (ra : Int) := by omega
        obtain ⟨L', hadd, hap2⟩ := ap_step HCUTA.out.ok (by rw [HHA.out]) (by rw [HHA.out]) HPA.out (b := (eO hB pb zb nb i')) KYB.out.1 KYB.out.2.1 KYB.out.2.2 HST.out.1 (show i < na by omega) hx
        have hgd := addT_good (x := x) HST.out.2.1
        rw [hadd] at hgd
        have HST2 : Hid (AP (eO hA pa za na (i + 1)) (eO hB pb zb nb i') (i + 1) i' L' ∧ GoodT room64 L') := Lib.hid ⟨hap2, hgd⟩
        have hxl : x.length ≤ 65535 := (putE_inv hx).2.2
        obtain ⟨XS, hXS⟩ : ∃ s, s = bs x := ⟨_, rfl⟩
        rw [← hXS] at cx
        have hapd := Lib.hid hap.out.drew
        have hkk2 : (i + 1) + i' = kk + 1 := by have := HKK.out; omega
        have e1 : r1 + 1 = ra := by omega
        have e2 : r1 ≤ c1 := by omega
        clear hx hap2 hgd had hr1 hc1
        by_cases hl : i + 1 = na
        · skip
          rw [if_pos hl] at hadd
          have HADD : Hid (∀ V, ApV w9 Tb M L v G V → Calls Try.prog 15 #[.pointer (some ⟨Tb, 0, none⟩), .string XS] V fun e w' => e = .returned (.tuple #[.string X, .int .i64 0]) ∧ ApV w9 Tb M L' v G w') := Lib.hid (fun V h => by rw [hXS]; exact h.add HST.out.2.1 hxl hadd)
          clear hadd hXS hxl
          go_upto_region 25 with (fail)
          refine wst (fun V => V.cell? ⟨ga, i, none⟩ = some (.string XS)) cx (fun hHeld => ?_)
          refine tk 0 ?_
          refine tk 1 ?_
          refine tv 2 (v := .string XS) ?_ ?_; (focus (intro V hV; go_simp))
          refine tk 3 ?_
          refine tv 4 (v := .slice (some ad') r1 c1) ?_ ?_; (focus (intro V hV; have h9 := hsl V; go_simp))
          refine tk 5 ?_
          refine tk 6 ?_
          refine wpAnyH_done (by kernel_rfl) ?_ _
          simp only [Exit.then]
          go_upto_region 28 with (go_at_call 15; (with_reducible refine (HADD.out _ hapd.out).mono ?_); rintro e W6 ⟨rfl, hap6⟩)
          obtain ⟨v', w7', hrun, hap7⟩ := hap6.app (by rcases HST.out.2.2 with e | e <;> (rw [e]; simp only [List.length_append]; split <;> split <;> simp)) X
          have HAP7 := Lib.hid hap7
          have HGS : Hid (GS X Y (i + 1 = na) (i' = nb) (G ++ [X])) := Lib.hid (by
            have h9 := HST.out.2.2
            have h8 : ¬ i = na := by omega
            unfold GS at h9 ⊢
            rw [if_neg h8] at h9
            rw [if_pos hl]
            rcases h9 with e | e <;> simp at e <;> (rw [e]; simp))
          clear hap6 hap7
          go_wp2_with (at_builtin; refine wpList_append_ok rfl _ _ 24 rfl _ _ _ _ rfl rfl hrun ?_)
          exact ⟨⟨i + 1, r1, c1, i', rb, cb', ad', adb, L', v', G ++ [X], by omega, eb, by omega, ecb, rfl, rfl, HAD, hadb, rfl, by rw [show ((i + 1 + i' : Nat) : Int) = (kk : Int) + 1 by omega], HAP7, Lib.hid ⟨HST2.out.1, HST2.out.2, HGS.out⟩⟩, by simp [lenOf]; omega⟩
        · skip
          rw [if_neg hl] at hadd
          have HADD : Hid (∀ V, ApV w9 Tb M L v G V → Calls Try.prog 15 #[.pointer (some ⟨Tb, 0, none⟩), .string XS] V fun e w' => e = .returned (.tuple #[.string ⟨#[]⟩, .int .i64 10]) ∧ ApV w9 Tb M L' v G w') := Lib.hid (fun V h => by rw [hXS]; exact h.add HST.out.2.1 hxl hadd)
          clear hadd hXS hxl
          go_upto_region 25 with (fail)
          refine wst (fun V => V.cell? ⟨ga, i, none⟩ = some (.string XS)) cx (fun hHeld => ?_)
          refine tk 0 ?_
          refine tk 1 ?_
          refine tv 2 (v := .string XS) ?_ ?_; (focus (intro V hV; go_simp))
          refine tk 3 ?_
          refine tv 4 (v := .slice (some ad') r1 c1) ?_ ?_; (focus (intro V hV; have h9 := hsl V; go_simp))
          refine tk 5 ?_
          refine tk 6 ?_
          refine wpAnyH_done (by kernel_rfl) ?_ _
          simp only [Exit.then]
          go_upto_region 28 with (go_at_call 15; (with_reducible refine (HADD.out _ hapd.out).mono ?_); rintro e W6 ⟨rfl, hap6⟩)
          have HAP7 := Lib.hid hap6
          have HGS : Hid (GS X Y (i + 1 = na) (i' = nb) G) := Lib.hid (by
            have h9 := HST.out.2.2
            have h8 : ¬ i = na := by omega
            unfold GS at h9 ⊢
            rw [if_neg h8] at h9
            rw [if_neg hl]
            exact h9)
          clear hap6
          go_wp2_with (fail)
          exact ⟨⟨i + 1, r1, c1, i', rb, cb', ad', adb, L', v, G, by omega, eb, by omega, ecb, rfl, rfl, HAD, hadb, rfl, by rw [show ((i + 1 + i' : Nat) : Int) = (kk : Int) + 1 by omega], HAP7, Lib.hid ⟨HST2.out.1, HST2.out.2, HGS.out⟩⟩, by simp [lenOf]; omega⟩
      · have h0 : 0 < rb := HBB.out.2 rfl
        obtain rfl := hadb.out h0
        obtain ⟨x, hx, cx⟩ := CXB.out i' wc (by omega) hap.out.kp
        obtain ⟨r1, hr1⟩ : ∃ r1, r1 = rb - 1 := ⟨_, rfl⟩
        obtain ⟨c1, hc1⟩ : ∃ c1, c1 = cb' - 1 := ⟨_, rfl⟩
        obtain ⟨ad', had⟩ : ∃ ad' : Addr, ad' = if cb' = 1 then ⟨gb, i', none⟩ else ⟨gb, i' + 1, none⟩ := ⟨_, rfl⟩
        have hsl : ∀ V, (Instr.sliceAt 24 (.slice (some ⟨gb, i', none⟩) rb cb') (some (.int .i64 1)) none none).run Try.prog V = .ok (.slice (some ad') r1 c1) V := fun V => by rw [hr1, hc1, had]; exact slice1_run V gb i' rb cb' (by omega) (by omega)
        have HAD : Hid (0 < r1 → ad' = ⟨gb, i' + 1, none⟩) := Lib.hid (fun h9 => by rw [had, if_neg (by omega)])
        have h0i : (0 : Int) < (rb : Int) := by omega
        obtain ⟨L', hadd, hap2⟩ := ap_step HCUTB.out.ok (by rw [HHB.out]) (by rw [HHB.out]) HPB.out (b := (eO hA pa za na i)) KYA.out.1 KYA.out.2.1 KYA.out.2.2 HST.out.1.symm (show i' < nb by omega) hx
        have hgd := addT_good (x := x) HST.out.2.1
        rw [hadd] at hgd
        have HST2 : Hid (AP (eO hA pa za na i) (eO hB pb zb nb (i' + 1)) i (i' + 1) L' ∧ GoodT room64 L') := Lib.hid ⟨hap2.symm, hgd⟩
        have hxl : x.length ≤ 65535 := (putE_inv hx).2.2
        obtain ⟨XS, hXS⟩ : ∃ s, s = bs x := ⟨_, rfl⟩
        rw [← hXS] at cx
        have hapd := Lib.hid hap.out.drew
        have hkk2 : (i' + 1) + i = kk + 1 := by have := HKK.out; omega
        have e1 : r1 + 1 = rb := by omega
        have e2 : r1 ≤ c1 := by omega
        clear hx hap2 hgd had hr1 hc1
        by_cases hl : i' + 1 = nb
        · skip
          rw [if_pos hl] at hadd
          have HADD : Hid (∀ V, ApV w9 Tb M L v G V → Calls Try.prog 15 #[.pointer (some ⟨Tb, 0, none⟩), .string XS] V fun e w' => e = .returned (.tuple #[.string Y, .int .i64 0]) ∧ ApV w9 Tb M L' v G w') := Lib.hid (fun V h => by rw [hXS]; exact h.add HST.out.2.1 hxl hadd)
          clear hadd hXS hxl
          go_upto_region 26 with (fail)
          refine wst (fun V => V.cell? ⟨gb, i', none⟩ = some (.string XS)) cx (fun hHeld => ?_)
          refine tk 0 ?_
          refine tk 1 ?_
          refine tv 2 (v := .string XS) ?_ ?_; (focus (intro V hV; go_simp))
          refine tk 3 ?_
          refine tv 4 (v := .slice (some ad') r1 c1) ?_ ?_; (focus (intro V hV; have h9 := hsl V; go_simp))
          refine tk 5 ?_
          refine tk 6 ?_
          refine wpAnyH_done (by kernel_rfl) ?_ _
          simp only [Exit.then]
          go_upto_region 28 with (go_at_call 15; (with_reducible refine (HADD.out _ hapd.out).mono ?_); rintro e W6 ⟨rfl, hap6⟩)
          obtain ⟨v', w7', hrun, hap7⟩ := hap6.app (by rcases HST.out.2.2 with e | e <;> (rw [e]; simp only [List.length_append]; split <;> split <;> simp)) Y
          have HAP7 := Lib.hid hap7
          have HGS : Hid (GS X Y (i = na) (i' + 1 = nb) (G ++ [Y])) := Lib.hid (by
            have h9 := HST.out.2.2
            have h8 : ¬ i' = nb := by omega
            unfold GS at h9 ⊢
            rw [if_neg h8] at h9
            rw [if_pos hl]
            rcases h9 with e | e <;> simp at e <;> (rw [e]; simp))
          clear hap6 hap7
          go_wp2_with (at_builtin; refine wpList_append_ok rfl _ _ 24 rfl _ _ _ _ rfl rfl hrun ?_)
          exact ⟨⟨i, ra, ca', i' + 1, r1, c1, ada, ad', L', v', G ++ [Y], ea, by omega, eca, by omega, rfl, rfl, hada, HAD, rfl, by rw [show ((i + (i' + 1) : Nat) : Int) = (kk : Int) + 1 by omega], HAP7, Lib.hid ⟨HST2.out.1, HST2.out.2, HGS.out⟩⟩, by simp [lenOf]; omega⟩
        · skip
          rw [if_neg hl] at hadd
          have HADD : Hid (∀ V, ApV w9 Tb M L v G V → Calls Try.prog 15 #[.pointer (some ⟨Tb, 0, none⟩), .string XS] V fun e w' => e = .returned (.tuple #[.string ⟨#[]⟩, .int .i64 10]) ∧ ApV w9 Tb M L' v G w') := Lib.hid (fun V h => by rw [hXS]; exact h.add HST.out.2.1 hxl hadd)
          clear hadd hXS hxl
          go_upto_region 26 with (fail)
          refine wst (fun V => V.cell? ⟨gb, i', none⟩ = some (.string XS)) cx (fun hHeld => ?_)
          refine tk 0 ?_
          refine tk 1 ?_
          refine tv 2 (v := .string XS) ?_ ?_; (focus (intro V hV; go_simp))
          refine tk 3 ?_
          refine tv 4 (v := .slice (some ad') r1 c1) ?_ ?_; (focus (intro V hV; have h9 := hsl V; go_simp))
          refine tk 5 ?_
          refine tk 6 ?_
          refine wpAnyH_done (by kernel_rfl) ?_ _
          simp only [Exit.then]
          go_upto_region 28 with (go_at_call 15; (with_reducible refine (HADD.out _ hapd.out).mono ?_); rintro e W6 ⟨rfl, hap6⟩)
          have HAP7 := Lib.hid hap6
          have HGS : Hid (GS X Y (i = na) (i' + 1 = nb) G) := Lib.hid (by
            have h9 := HST.out.2.2
            have h8 : ¬ i' = nb := by omega
            unfold GS at h9 ⊢
            rw [if_neg h8] at h9
            rw [if_neg hl]
            exact h9)
          clear hap6
          go_wp2_with (fail)
          exact ⟨⟨i, ra, ca', i' + 1, r1, c1, ada, ad', L', v, G, ea, by omega, eca, by omega, rfl, rfl, hada, HAD, rfl, by rw [show ((i + (i' + 1) : Nat) : Int) = (kk : Int) + 1 by omega], HAP7, Lib.hid ⟨HST2.out.1, HST2.out.2, HGS.out⟩⟩, by simp [lenOf]; omega⟩
end Go.Proofs.Ythdkbocokefdhaa
