import Derived.Test.YthdkbocokefdhaaFrgP
import Derived.Test.YthdkbocokefdhaaTk
import Derived.Deep.DeepCutAuto
import Derived.Deep.QuietTactic
import Derived.BigQuiet
/- frag.Cut, whole. -/
namespace Go.Proofs.Ythdkbocokefdhaa
set_option maxRecDepth 100000
open Go.RowKit
attribute [local go_sem] Oper.semAt_some
def CutPost (w : World) (h : H4) (s : List UInt8) (e : Ending) (w' : World) : Prop :=
  ∃ v c, e = .returned (.tuple #[v, .int .i64 c]) ∧ Below w.heap.size w w' ∧ (c = 0 → ∃ l z n, SRow w.heap.size v l w' ∧ CutIs h s l z n)
theorem leaveM0 {F : Fence} {n : Nat} {P : Program} {fn : Func} {R : Ending → World → Prop} {a : Act} {W : World} {v : Value} (hr : (results fn a.tmps).run P W = .ok v W) (hd : a.defers = []) (h : R (.returned v) W) : bodyPostM F n P fn R .ret a W := by
  show LeavesInM F n P fn a.tmps R a.defers .returning W
  rw [hd]
  exact ⟨v, hr, h⟩
theorem leaveM1 {F : Fence} {n : Nat} {P : Program} {fn : Func} {R : Ending → World → Prop} {a : Act} {W : World} {v : Value} {D : Nat} (hK : W.heap[D]? = some (.deferred (some []))) (hd : a.defers = [{ target := .collected D, args := #[] }])
    (hr : (results fn a.tmps).run P (W.putObj D (.deferred none)) = .ok v (W.putObj D (.deferred none))) (h : R (.returned v) (W.putObj D (.deferred none))) : bodyPostM F n P fn R .ret a W := by
  show LeavesInM F n P fn a.tmps R a.defers .returning W
  rw [hd]
  exact ⟨by simp, .inl ⟨_, _, rfl, run_takeDeferred hK, v, hr, h⟩⟩
structure FSt (H Sb : Nat) (A : Array Value) (S : ByteArray) (w W : World) : Prop where
  h : W.heap[H]? = some (.cells A 43 (0, 0))
  s : W.heap[Sb]? = some (.cells #[.string S] 9 (0, 0))
  b : Below w.heap.size w W
theorem FSt.far {H Sb : Nat} {A : Array Value} {S : ByteArray} {w W V : World} (s : FSt H Sb A S w W) (hb : Below W.heap.size W V) : FSt H Sb A S w V :=
  ⟨(hb.block _ (heap_lt s.h)).trans s.h, (hb.block _ (heap_lt s.s)).trans s.s, s.b.trans (hb.mono s.b.size)⟩
theorem FSt.start {A : Array Value} {S : ByteArray} {w w1 : World} (hb : Below w.heap.size w w1) : FSt w1.heap.size (w1.heap.size + 1) A S w ((w1.alloc (.cells A 43)).alloc (.cells #[.string S] 9)) := by
  refine ⟨?_, ?_, (hb.alloc hb.size _).alloc (by rw [World.size_alloc]; have := hb.size; omega) _⟩
  · rw [Below.heap_alloc _ _ _ (by rw [World.size_alloc]; omega)]; exact alloc_new _ _
  · have := alloc_new (w1.alloc (.cells A 43)) (.cells #[.string S] 9)
    rwa [World.size_alloc] at this
/-- the header, the payload and the pieces that were made -/
structure FI (H Sb O n1 : Nat) (A : Array Value) (S : ByteArray) (w : World) (l : List ByteArray) (W : World) : Prop where
  sz : n1 ≤ W.heap.size
  f : FSt H Sb A S w W
  ex : ∃ v, W.heap[O]? = some (.cells #[v] 24 (0, 0)) ∧ SRow n1 v l W
theorem FI.own {α : Type} {H Sb O n1 : Nat} {A : Array Value} {S : ByteArray} {w : World} (g : List α → List ByteArray) (hH : H < n1) (hS : Sb < n1) (hO : O < n1) (hw : w.heap.size ≤ n1) : OwnFrom n1 (fun (pre : List α) W => FI H Sb O n1 A S w (g pre) W) := by
  intro pre W W' row hI hg hr
  obtain ⟨hsz, hf, v, hv, hrow⟩ := hI
  have keep : ∀ k : Nat, k < n1 → k < W.heap.size → W'.heap[k]? = W.heap[k]? := fun k hk h2 => hg.block k h2 (fun e => by have := (hr k e.symm).1; omega)
  refine ⟨Nat.le_trans hsz hg.size, ⟨(keep _ hH (heap_lt hf.h)).trans hf.h, (keep _ hS (heap_lt hf.s)).trans hf.s, hf.b.grown hg hf.b.size (fun k e => Nat.le_trans hw (hr k e).1)⟩, v, (keep _ hO (heap_lt hv)).trans hv, hrow.same fun b hb => ?_⟩
  obtain ⟨cur, hc⟩ := hrow.obj hb
  refine hg.block b (heap_lt hc) (fun e => ?_)
  obtain ⟨_, o, ho, hn⟩ := hr b e.symm
  rw [hc] at ho; cases ho; simp [Obj.isCells] at hn
theorem SRow.one {B : Nat} {W : World} (p : ByteArray) (hB : B ≤ W.heap.size) : SRow B (.slice (some ⟨W.heap.size, 0, none⟩) 1 1) [p] (W.alloc (.cells #[.string p] 9)) :=
  ⟨rfl, .inr ⟨W.heap.size, 1, #[.string p], rfl, hB, alloc_new _ _, Nat.le_refl _, by decide, rfl, rfl⟩⟩
theorem SRow.base {B B' : Nat} {v : Value} {l : List ByteArray} {w : World} (h : SRow B v l w) (hb : B' ≤ B) : SRow B' v l w := by
  refine ⟨h.1, ?_⟩
  rcases h.2 with h1 | ⟨g, cap, cur, e, h0, hg, hr⟩
  · exact .inl h1
  · exact .inr ⟨g, cap, cur, e, by omega, hg, hr⟩
/-- behind one more piece -/
theorem FI.more {H Sb O n1 : Nat} {A : Array Value} {S : ByteArray} {w W w5 : World} {l : List ByteArray} {v : Value} (hf : FSt H Sb A S w W) (hv : W.heap[O]? = some (.cells #[v] 24 (0, 0))) (hr : SRow n1 v l W) (hb : Below W.heap.size W w5) (hH : H < n1) (hS : Sb < n1) (hO : O < n1) (hwO : w.heap.size ≤ O) (hn : n1 ≤ W.heap.size) (hw : w.heap.size ≤ n1)
    (hlen : l.length ≤ 1000000) (X : ByteArray) :
    w5.cell? ⟨O, 0, none⟩ = some v ∧ ∃ v' w6 g' k' c', v' = .slice (some ⟨g', 0, none⟩) k' c' ∧ (Builtin.append_ #[24, 24] 24 #[v, .slice (some ⟨w5.heap.size, 0, none⟩) 1 1]).run Try.prog (w5.alloc (.cells #[.string X] 9)) = .ok v' w6 ∧ w6.cell? ⟨O, 0, none⟩ = some v ∧ w6.frozen? ⟨O, 0, none⟩ = false ∧
      Hid (FI H Sb O n1 A S w (l ++ [X]) (w6.setCell ⟨O, 0, none⟩ v') ∧ KeepsOthers W (w6.setCell ⟨O, 0, none⟩ v') ∧ ∀ k, k < n1 → k ≠ O → (w6.setCell ⟨O, 0, none⟩ v').heap[k]? = W.heap[k]?) := by
  have hv5 : w5.heap[O]? = some (.cells #[v] 24 (0, 0)) := (hb.block _ (heap_lt hv)).trans hv
  obtain ⟨V, hV⟩ : ∃ V, V = w5.alloc (.cells #[.string X] 9) := ⟨_, rfl⟩
  have hbV : Below W.heap.size W V := by rw [hV]; exact hb.alloc hb.size _
  have hrV : SRow n1 v l V := hr.below hbV
  have hgV : V.heap[w5.heap.size]? = some (.cells #[.string X] 9 (0, 0)) := by rw [hV]; exact alloc_new _ _
  obtain ⟨v', w6, hrun, hrow, hg, hown⟩ := app_s hrV X w5.heap.size hgV hlen (Nat.le_trans hn hbV.size)
  have far : ∀ k, k < n1 → w6.heap[k]? = W.heap[k]? := fun k hk => by
    have h1 : V.heap[k]? = W.heap[k]? := hbV.block _ (by omega)
    refine (hg.block k (by have := hbV.size; omega) (fun e => ?_)).trans h1
    have := hrV.le e.symm; omega
  have hv6 : w6.heap[O]? = some (.cells #[v] 24 (0, 0)) := (far O hO).trans hv
  have hb6 : Below w.heap.size w w6 := (hf.b.trans (hbV.mono hf.b.size)).grown hg (Nat.le_trans hf.b.size hbV.size) (fun k e => by have := hrV.le e; omega)
  obtain ⟨g', c', hform, _⟩ := World.ownsRow.form hrow (by rw [List.length_append]; simp)
  refine ⟨cellAt (i := 0) (v := v) hv5 rfl, v', w6, g', _, c', hform, by rw [← hV]; exact hrun, cellAt (i := 0) (v := v) hv6 rfl, Lib.frozen_of_heap hv6 0, Lib.hid ⟨⟨?_, ⟨?_, ?_, hb6.setCell (p := ⟨O, 0, none⟩) hwO _⟩, v', ?_, ?_⟩, ?_, ?_⟩⟩
  · have := hg.size; have := hbV.size; simp [World.setCell]; omega
  · have hne : H ≠ O := fun e => by have := hf.h; rw [e, hv] at this; cases this
    rw [Below.heap_setCell _ _ _ _ hne, far H hH]; exact hf.h
  · have hne : Sb ≠ O := fun e => by have := hf.s; rw [e, hv] at this; cases this
    rw [Below.heap_setCell _ _ _ _ hne, far Sb hS]; exact hf.s
  · exact heap_set hv6 (Nat.zero_lt_one) v'
  · exact hrow.set hv6 (by decide) 0 v'
  · have k1 : KeepsOthers W V := ⟨hbV.size, fun k o hk _ => (hbV.block _ (Array.getElem?_eq_some_iff.1 hk).1).trans hk⟩
    have k2 : KeepsOthers V w6 := ⟨hg.size, fun k o hk ho => (hg.block k (Array.getElem?_eq_some_iff.1 hk).1 (fun e => by
      obtain ⟨cur, hc⟩ := hrV.obj e.symm
      rw [hk] at hc; cases hc; simp [Obj.isCells] at ho)).trans hk⟩
    exact (k1.trans k2).trans (KeepsOthers.setCell _ _ _)
  · intro k hk hne
    rw [Below.heap_setCell _ _ _ _ hne]; exact far k hk
theorem cut_err {w W : World} {h : H4} {s : List UInt8} (hb : Below w.heap.size w W) (v : Value) (c : Int) (hc : c ≠ 0) : CutPost w h s (.returned (.tuple #[v, .int .i64 c])) W := ⟨v, c, rfl, hb, fun e => absurd e hc⟩
set_option maxHeartbeats 8000000 in
theorem cut_any (p : ByteArray) (mtu : Int) (h : H4) (s : List UInt8) (hput : putE h s = .ok p.data.toList) (h0 : h.off = 0) (h1 : h.mf = false) (w : World) :
    Calls Try.prog 23 #[.string p, .int .i64 mtu] w (CutPost w h s) := by
  obtain ⟨ho, hpl, hpl2⟩ := putE_inv hput
  have hps : p.size = 20 + h.opt.length + s.length := by rw [← hpl]; simp
  have HONE := Lib.hid (cut_one hput h0 h1)
  have hget := get_put hput
  obtain ⟨hd, hhd⟩ : ∃ x, x = 20 + h.opt.length := ⟨_, rfl⟩
  have G0 : Hid (∀ V, Calls Try.prog 29 #[.string p] V fun e w' => e = .returned (getR (.ok (h, s))) ∧ Below V.heap.size V w') := Lib.hid (fun V => by have := get_any p V (by omega); rwa [hget] at this)
  have P0 : Hid (∀ m : Int, ∀ V, Calls Try.prog 48 #[.int .i64 (hd : Nat), .int .i64 m] V fun e w' => e = .returned (.int .i64 (partV (hd : Nat) m)) ∧ w' = V) := Lib.hid (fun m V => prt_any hd m V)
  obtain ⟨S, hS⟩ : ∃ S, S = bs s := ⟨_, rfl⟩
  have hSz : S.size = s.length := by rw [hS, bs_size]
  obtain ⟨Q, hQ⟩ : ∃ Q, Q = CutPost w h s := ⟨_, rfl⟩
  rw [← hQ]
  have HQ := Lib.hid hQ
  clear hQ
  obtain ⟨tos, id, off, ttl, proto, df, mf, src, dst, opt⟩ := h
  simp only at h0 h1
  subst h0 h1
  have G1 : Hid (∀ V, Calls Try.prog 29 #[.string p] V fun e w' => e = .returned (.tuple #[.agg #[.int .i64 tos, .int .i64 id, .int .i64 0, .int .i64 ttl, .int .i64 proto, .bool df, .bool false, .string (bs src), .string (bs dst), .string (bs opt)], .string S, .int .i64 0]) ∧ Below V.heap.size V w') := Lib.hid (by rw [hS]; exact G0.out)
  clear G0 hget
  have hlen : (p.size : Int) - (S.size : Int) = (hd : Int) := by rw [hSz]; omega
  have wlen : IntKind.i64.wrap ((p.size : Int) - (S.size : Int)) = (hd : Int) := by rw [hlen]; exact IntWalk.i64_in _ (by omega)
  have HPS : Hid (p.size = hd + S.size ∧ p.size ≤ 65535 ∧ 20 ≤ hd) := Lib.hid ⟨by rw [hSz]; omega, by omega, by omega⟩
  have HHD := Lib.hid hhd
  have HSZ := Lib.hid hSz
  have HS := Lib.hid hS
  clear hps hpl hhd hSz hS hlen
  refine (callsIn_wide (n := 9)).1 ?_
  refine callsIn_of_wp_marks Try.func23 rfl trivial ?_
  refine wpIn_wide.2 ?_
  simp only [Try.ntmps23, List.size_toArray, List.length_cons, List.length_nil, Nat.reduceAdd, Nat.reduceSub, Array.replicate_succ, Array.replicate_zero, List.push_toArray, List.append_toArray, List.nil_append, List.cons_append]
  go_upto_region 3 with (first | (go_at_call 29; (with_reducible refine (G1.out _).mono ?_); rintro e w1 ⟨rfl, hb1⟩) | (go_at_call 48; (with_reducible refine (P0.out _ _).mono ?_); rintro e w5 ⟨rfl, rfl⟩))
  obtain ⟨H, hH⟩ : ∃ x, x = w1.heap.size := ⟨_, rfl⟩
  obtain ⟨Sb, hSb⟩ : ∃ x, x = w1.heap.size + 1 := ⟨_, rfl⟩
  obtain ⟨W3, hW3⟩ : ∃ W, W = (w1.alloc (.cells #[.int .i64 tos, .int .i64 id, .int .i64 0, .int .i64 ttl, .int .i64 proto, .bool df, .bool false, .string (bs src), .string (bs dst), .string (bs opt)] 43)).alloc (.cells #[.string S] 9) := ⟨_, rfl⟩
  rw [← hW3, ← hSb, ← hH]
  have HF : Hid (FSt H Sb #[.int .i64 tos, .int .i64 id, .int .i64 0, .int .i64 ttl, .int .i64 proto, .bool df, .bool false, .string (bs src), .string (bs dst), .string (bs opt)] S w W3) := Lib.hid (by
    rw [hW3, hSb, hH]; exact FSt.start hb1)
  clear hW3 hSb hH hb1 w1
  have j5 := cellAt (i := 5) (v := .bool df) HF.out.h rfl
  have j2 := cellAt (i := 2) (v := .int .i64 0) HF.out.h rfl
  have js := cellAt (i := 0) (v := .string S) HF.out.s rfl
  by_cases t1 : mtu < 28
  · go_wp2_with (fail)
    refine leaveM0 (results_tmp2 rfl _ _ _) rfl ?_
    rw [HQ.out]; exact cut_err HF.out.b _ 1 (by decide)
  by_cases t2 : 65535 < mtu
  · go_wp2_with (fail)
    refine leaveM0 (results_tmp2 rfl _ _ _) rfl ?_
    rw [HQ.out]; exact cut_err HF.out.b _ 1 (by decide)
  obtain ⟨m, rfl⟩ : ∃ m : Nat, mtu = m := ⟨mtu.toNat, by omega⟩
  have hm28 : 28 ≤ m := by omega
  have hm65 : m ≤ 65535 := by omega
  obtain ⟨z, hz⟩ : ∃ z, z = (m - hd) / 8 * 8 := ⟨_, rfl⟩
  rw [show partV (hd : Int) (m : Int) = (z : Int) by rw [hz]; exact partV_eq (by have := HPS.out; omega) hm65]
  by_cases t3 : p.size ≤ m
  · have t3' : (p.size : Int) ≤ (m : Int) := by omega
    have HZ := Lib.hid hz
    clear hz
    go_wp2_with (fail)
    refine leaveM0 (results_tmp2 rfl _ _ _) rfl ?_
    rw [HQ.out]
    exact ⟨_, 0, rfl, HF.out.b.alloc HF.out.b.size _, fun _ => ⟨[p], _, _, SRow.one p HF.out.b.size, HONE.out⟩⟩
  have t3' : ¬ (p.size : Int) ≤ (m : Int) := by omega
  cases df with
  | true =>
    have HZ := Lib.hid hz
    clear hz
    go_wp2_with (fail)
    refine leaveM0 (results_tmp2 rfl _ _ _) rfl ?_
    rw [HQ.out]; exact cut_err HF.out.b _ 8 (by decide)
  | false =>
  by_cases t4 : z = 0
  · have HZ := Lib.hid hz
    clear hz
    subst t4
    go_wp2_with (fail)
    refine leaveM0 (results_tmp2 rfl _ _ _) rfl ?_
    rw [HQ.out]; exact cut_err HF.out.b _ 1 (by decide)
  have hz0 : 0 < z := by omega
  have t4' : ¬ (z : Int) = 0 := by omega
  have t4b : ((z : Int) == 0) = false := by rw [beq_eq_false_iff_ne]; omega
  have hsl : 0 < S.size := by have := HPS.out; omega
  obtain ⟨L, hL⟩ : ∃ x, x = S.size - 1 := ⟨_, rfl⟩
  obtain ⟨q, hq⟩ : ∃ x, x = L / z := ⟨_, rfl⟩
  obtain ⟨y, hy⟩ : ∃ x, x = q * z := ⟨_, rfl⟩
  obtain ⟨o, hox⟩ : ∃ x, x = y / 8 := ⟨_, rfl⟩
  have hyl : y ≤ 65535 := by have h1 := Nat.div_mul_le_self L z; have := HPS.out; rw [← hq, ← hy] at h1; omega
  have hql : q ≤ 65535 := by have h1 := Nat.div_le_self L z; have := HPS.out; rw [← hq] at h1; omega
  have f1 : IntKind.i64.wrap ((S.size : Int) - 1) = (L : Int) := by rw [show (S.size : Int) - 1 = (L : Int) by omega]; exact IntWalk.i64_in _ (by have := HPS.out; omega)
  have f2 : Int.tdiv (L : Int) (z : Int) = (q : Int) := by rw [hq]; rfl
  have f2w : IntKind.i64.wrap (q : Int) = (q : Int) := IntWalk.i64_in _ (by omega)
  have f3 : (q : Int) * (z : Int) = (y : Int) := by rw [hy]; exact (Int.natCast_mul _ _).symm
  have f3w : IntKind.i64.wrap (y : Int) = (y : Int) := IntWalk.i64_in _ (by omega)
  have f4 : Int.tdiv (y : Int) 8 = (o : Int) := by rw [hox]; rfl
  have f4w : IntKind.i64.wrap (o : Int) = (o : Int) := IntWalk.i64_in _ (by omega)
  have f5 : ¬ (8191 : Int) < (o : Int) := by omega
  have f5d : decide ((8191 : Int) < (o : Int)) = false := decide_eq_false f5
  have HN := Lib.hid (And.intro hL (And.intro hq (And.intro hy hox)))
  have HZ := Lib.hid hz
  clear hL hq hy hox hyl hql hz
  go_upto_region 13 with (fail)
  refine wp_region_noPanic ?_
  refine wst (FSt H Sb #[.int .i64 tos, .int .i64 id, .int .i64 0, .int .i64 ttl, .int .i64 proto, .bool false, .bool false, .string (bs src), .string (bs dst), .string (bs opt)] S w) (HF.out.far ((Below.refl _ _).drew)) (fun hHeld => ?_)
  refine tk 0 ?_
  refine tv 1 (v := .int .i64 0) ?_ ?_; (focus (intro V hV; have j2 := cellAt (i := 2) (v := .int .i64 0) hV.h rfl; go_simp))
  refine tv 2 (v := .string S) ?_ ?_; (focus (intro V hV; have j2 := cellAt (i := 0) (v := .string S) hV.s rfl; go_simp))
  refine tk 3 ?_
  refine tk 4 ?_
  refine tk 5 ?_
  refine tk 6 ?_
  refine tk 7 ?_
  refine tk 8 ?_
  refine tk 9 ?_
  refine tk 10 ?_
  refine tk 11 ?_
  refine rd 12 (fun K hK => ?_); go_simp; refine goon hK hHeld (fun hHeld => ?_); clear hK K
  refine wpAnyH_done (by kernel_rfl) ?_ _
  refine NoPanic.normal ?_
  simp only [Exit.then]
  go_upto_region 16 with (fail)
  obtain ⟨O, hO⟩ : ∃ x, x = W3.heap.size := ⟨_, rfl⟩
  obtain ⟨W4, hW4⟩ : ∃ W, W = (W3.alloc (.cells #[.slice none 0 0] 24)).drew := ⟨_, rfl⟩
  rw [← hW4, ← hO]
  have HF4 : Hid (FSt H Sb #[.int .i64 tos, .int .i64 id, .int .i64 0, .int .i64 ttl, .int .i64 proto, .bool false, .bool false, .string (bs src), .string (bs dst), .string (bs opt)] S w W4 ∧ W4.heap[O]? = some (.cells #[.slice none 0 0] 24 (0, 0))) := Lib.hid (by
    rw [hW4, hO]; exact ⟨HF.out.far ((Below.refl _ _).alloc (Nat.le_refl _) _).drew, alloc_new _ _⟩)
  have HWO0 : Hid (w.heap.size ≤ O) := Lib.hid (by rw [hO]; exact HF.out.b.size)
  clear hW4 hO hHeld j5 j2 js HF
  have js := cellAt (i := 0) (v := .string S) HF4.out.1.s rfl
  go_wp2_with (go_at_call 49; (with_reducible refine (parts_any S z _).mono ?_); rintro e w5 ⟨rfl, rfl⟩)
  obtain ⟨Bs, hBs⟩ : ∃ x, x = W4.heap.size := ⟨_, rfl⟩
  obtain ⟨Bz, hBz⟩ : ∃ x, x = W4.heap.size + 1 := ⟨_, rfl⟩
  obtain ⟨W6, hW6⟩ : ∃ W, W = (W4.alloc (.cells #[.string S] 9)).alloc (.cells #[.int .i64 z] 3) := ⟨_, rfl⟩
  rw [← hW6, ← hBz, ← hBs]
  have HW6 : Hid (FSt H Sb #[.int .i64 tos, .int .i64 id, .int .i64 0, .int .i64 ttl, .int .i64 proto, .bool false, .bool false, .string (bs src), .string (bs dst), .string (bs opt)] S w W6 ∧ W6.heap[O]? = some (.cells #[.slice none 0 0] 24 (0, 0)) ∧ W6.heap[Bs]? = some (.cells #[.string S] 9 (0, 0)) ∧ W6.heap[Bz]? = some (.cells #[.int .i64 z] 3 (0, 0))) := Lib.hid (by
    rw [hW6, hBz, hBs]
    have hb := FSt.start (A := #[.string S]) (S := S) (Below.refl w.heap.size w)
    have h2 : Below W4.heap.size W4 ((W4.alloc (.cells #[.string S] 9)).alloc (.cells #[.int .i64 z] 3)) := ((Below.refl _ _).alloc (Nat.le_refl _) _).alloc (by simp) _
    refine ⟨HF4.out.1.far h2, (h2.block _ (heap_lt HF4.out.2)).trans HF4.out.2, ?_, ?_⟩
    · rw [Below.heap_alloc _ _ _ (by rw [World.size_alloc]; omega)]; exact alloc_new _ _
    · have := alloc_new (W4.alloc (.cells #[.string S] 9)) (.cells #[.int .i64 z] 3)
      rwa [World.size_alloc] at this)
  have HNE0 : Hid (Bs ≠ O ∧ Bz ≠ O) := Lib.hid (by have := heap_lt HF4.out.2; omega)
  clear hW6 hBz hBs js HF4
  obtain ⟨n, hn⟩ : ∃ x, x = (S.size + z - 1) / z := ⟨_, rfl⟩
  have HC : Hid (CutOk ⟨tos, id, 0, ttl, proto, false, false, src, dst, opt⟩ s z n) := Lib.hid (by
    rw [hn, HSZ.out]; exact cut_many ho (by have h1 := HPS.out; have h2 := HHD.out; have h3 := HSZ.out; simp only at h2 ⊢; omega) hz0 (by rw [HZ.out]; omega) (by rw [← HSZ.out]; exact hsl))
  clear hn
  have hW6H := heap_lt HW6.out.1.h
  have hW6S := heap_lt HW6.out.1.s
  have hW6O := heap_lt HW6.out.2.1
  have hW6s := heap_lt HW6.out.2.2.1
  have hW6z := heap_lt HW6.out.2.2.2
  obtain ⟨n1, hn1⟩ : ∃ x, x = W6.heap.size := ⟨_, rfl⟩
  rw [← hn1] at hW6H hW6S hW6O hW6s hW6z
  have HN1 := Lib.hid hn1
  have HLT := Lib.hid (And.intro hW6H (And.intro hW6S (And.intro hW6O (And.intro hW6s hW6z))))
  clear hW6H hW6S hW6O hW6s hW6z
  have hwn : w.heap.size ≤ n1 := by rw [hn1]; exact HW6.out.1.b.size
  have HWN := Lib.hid hwn
  refine (wpIn_wide (n := 9)).1 ?_
  refine wpIn_rangeFunc_ownF (Kp := Kp2 Bs Bz) (w0 := W6) rfl (by decide) (gf := 72) (lb := #[.pointer (some ⟨Bs, 0, none⟩), .pointer (some ⟨Bz, 0, none⟩)]) rfl trivial (enters_of Try.func72 (by kernel_rfl) rfl)
    (parts_stops 8 (by decide) Bs Bz z n S hz0 (by have := HZ.out; omega) (by have := HPS.out; omega) (by rw [HSZ.out]; exact HC.out.hi) (fun k hk => by rw [HSZ.out]; exact cut_lt HC.out (by rw [← HSZ.out]; exact hsl) k hk) W6 HW6.out.2.2.1 HW6.out.2.2.2)
    (fun h k => h.trans k) ?hKb (Below.refl _ _) (fun _ => rfl)
    (fun pre W => FI H Sb O n1 #[.int .i64 tos, .int .i64 id, .int .i64 0, .int .i64 ttl, .int .i64 proto, .bool false, .bool false, .string (bs src), .string (bs dst), .string (bs opt)] S w (pre.map fun i => bs (pX ⟨tos, id, 0, ttl, proto, false, false, src, dst, opt⟩ s z i.1)) W) (fun _ _ _ => False) ?hI (fun _ _ _ _ _ hs _ _ => hs) ?h0 ?a1 ?assign ?body ?done ?stop
  case hKb =>
    intro W l o o' hl _ _ _
    rw [← hn1] at hl
    exact ⟨World.putObj_heap_other (by have := HLT.out; omega), World.putObj_heap_other (by have := HLT.out; omega)⟩
  case hI => rw [← hn1]; exact FI.own _ HLT.out.1 HLT.out.2.1 HLT.out.2.2.1 hwn
  case h0 => exact ⟨Nat.le_of_eq hn1, HW6.out.1, _, HW6.out.2.1, SRow.nil _ _⟩
  case assign =>
    intro l x W K hK
    unfold encP
    gi_wp2
    exact hK
  case stop =>
    rintro D c pre W _ _ h _
    exact h.elim
  case done =>
    rintro D xs W hD rfl hI hK
    obtain ⟨v, hv, hrow⟩ := hI.ex
    have jO := cellAt (i := 0) (v := v) hv rfl
    have HROW := Lib.hid hrow
    have HI := Lib.hid hI
    have HD := Lib.hid hD
    clear hrow hI hD hv
    simp only [Exit.inBlock, Exit.then]
    go_wp2_with (fail)
    refine leaveM1 hK rfl (results_tmp2 rfl _ _ _) ?_
    rw [HQ.out]
    have hg := grownBy_putObj' W D (.deferred none)
    refine ⟨v, 0, rfl, HI.out.f.b.grown hg HI.out.f.b.size (fun k e => by cases e; have h1 := HD.out; have h2 := HW6.out.1.b.size; omega), fun _ => ⟨_, z, n, (SRow.same (SRow.base HROW.out HWN.out) fun b hb => ?_), HC.out, by simp, fun i hi => ?_⟩⟩
    · refine World.putObj_heap_other (fun e => ?_)
      obtain ⟨cur, hc⟩ := HROW.out.obj hb
      rw [e, hK] at hc; cases hc
    · exact ⟨_, pX_ok HC.out hi, by simp [hi]⟩
  case body =>
    intro l pre x W hI hpre
    obtain ⟨i, hi⟩ := x
    obtain ⟨hh, hhh⟩ : ∃ x, x = (⟨tos, id, 0, ttl, proto, false, false, src, dst, opt⟩ : H4) := ⟨_, rfl⟩
    have hC := HC.out
    rw [← hhh] at hC
    have hlt : i * z < s.length := cut_lt hC (by rw [← HSZ.out]; exact hsl) i hi
    obtain ⟨a, ha⟩ : ∃ a, a = i * z := ⟨_, rfl⟩
    obtain ⟨o8, ho8⟩ : ∃ a, a = i * z / 8 := ⟨_, rfl⟩
    obtain ⟨mfv, hmfv⟩ : ∃ b, b = decide ((i + 1) * z < s.length) := ⟨_, rfl⟩
    obtain ⟨pp, hpp⟩ : ∃ b, b = pby S z i := ⟨_, rfl⟩
    obtain ⟨XX, hXX⟩ : ∃ b, b = bs (pX hh s z i) := ⟨_, rfl⟩
    have hppe : pp = bs ((s.drop (i * z)).take z) := by rw [hpp, HS.out]; exact pby_eq s z i (by omega)
    have PUT : Hid (∀ V, Calls Try.prog 50 #[.agg #[.int .i64 tos, .int .i64 id, .int .i64 (o8 : Nat), .int .i64 ttl, .int .i64 proto, .bool false, .bool mfv, .string (bs src), .string (bs dst), .string (bs opt)], .string pp] V fun e w' => e = .returned (.tuple #[.string XX, .int .i64 0]) ∧ Below V.heap.size V w') := Lib.hid (fun V => by
      have h1 := put_any (pcs hh s z i).h (pcs hh s z i).s V ⟨by have := (pcs_hok hC hi).src; omega, by have := (pcs_hok hC hi).dst; omega, by have := (pcs_hok hC hi).opt; omega⟩ (by have := hC.len; have := pcs_len hh s z i; omega)
      rw [pX_ok hC hi] at h1
      rw [hXX, hppe, ho8, hmfv]
      rw [hhh] at h1 ⊢
      exact h1)
    have hppz : pp.size = min z (S.size - a) := by rw [hppe, bs_size, List.length_take, List.length_drop, ha, HSZ.out]
    have ha65 : a < 65536 := by have := hC.len; omega
    have c1 : (i : Int) * (z : Int) = (a : Int) := by rw [ha]; exact (Int.natCast_mul _ _).symm
    have c2 : Int.tdiv (a : Int) 8 = (o8 : Int) := by rw [ho8, ha]; rfl
    have c3 : IntKind.i64.wrap (o8 : Int) = (o8 : Int) := IntWalk.i64_in _ (by omega)
    have c4 : IntKind.i64.wrap ((a : Int) + (pp.size : Int)) = (a : Int) + (pp.size : Int) := IntWalk.i64_in _ (by have := HPS.out; omega)
    have c5 : decide ((a : Int) + (pp.size : Int) < (S.size : Int)) = mfv := by
      rw [hmfv]
      have e1 : (i + 1) * z = a + z := by rw [Nat.add_mul, Nat.one_mul, ha]
      have e2 := HSZ.out
      exact decide_eq_decide.2 (by omega)
    have HA := Lib.hid (And.intro ha (And.intro ho8 (And.intro hmfv (And.intro hpp hXX))))
    have HHH := Lib.hid hhh
    clear hlt hppe hppz ha65 ha ho8 hmfv hC
    have HNE : Hid (Bs ≠ O ∧ Bz ≠ O) := HNE0
    obtain ⟨v, hv, hrow⟩ := hI.ex
    have k0 := cellAt (i := 0) (v := .int .i64 tos) hI.f.h rfl
    have k1 := cellAt (i := 1) (v := .int .i64 id) hI.f.h rfl
    have k2 := cellAt (i := 2) (v := .int .i64 0) hI.f.h rfl
    have k3 := cellAt (i := 3) (v := .int .i64 ttl) hI.f.h rfl
    have k4 := cellAt (i := 4) (v := .int .i64 proto) hI.f.h rfl
    have k5 := cellAt (i := 5) (v := .bool false) hI.f.h rfl
    have k6 := cellAt (i := 6) (v := .bool false) hI.f.h rfl
    have k7 := cellAt (i := 7) (v := .string (bs src)) hI.f.h rfl
    have k8 := cellAt (i := 8) (v := .string (bs dst)) hI.f.h rfl
    have k9 := cellAt (i := 9) (v := .string (bs opt)) hI.f.h rfl
    have kS := cellAt (i := 0) (v := .string S) hI.f.s rfl
    have jO := cellAt (i := 0) (v := v) hv rfl
    have m6 : ∀ o : Obj, (W.alloc o).cell? ⟨H, 6, none⟩ = some (.bool false) := fun o => (World.cell?_alloc_some _ _ o (by rw [k6]; rfl)).trans k6
    have mS : ∀ o : Obj, (W.alloc o).cell? ⟨Sb, 0, none⟩ = some (.string S) := fun o => (World.cell?_alloc_some _ _ o (by rw [kS]; rfl)).trans kS
    have HI := Lib.hid hI
    have HV := Lib.hid (And.intro hv hrow)
    have HPRE : Hid (pre.length ≤ 1000000) := Lib.hid (by have h1 := HC.out.lo; have h2 := HC.out.len; have h3 := HC.out.n0; have h4 : n - 1 ≤ (n - 1) * z := Nat.le_mul_of_pos_right _ hz0; simp only at h2; omega)
    have HWO : Hid (w.heap.size ≤ O) := Lib.hid HWO0.out
    have HNW : Hid (n1 ≤ W.heap.size) := Lib.hid hI.sz
    have hpp2 := hpp.symm
    clear hI hv hrow hpre hpp hXX hhh
    gi_wp2_with (first | (refine ⟨trivial, ?_⟩; gi_at_call 50; refine (CallsIn.inRound l (callsIn_wide.2 (PUT.out _))).mono ?_; rintro e w5 ⟨rfl, hb5⟩; have hB5 : Below W.heap.size W w5 := ((Below.refl W.heap.size W).alloc (Nat.le_refl _) _).trans (hb5.mono (by simp)); obtain ⟨jO5, v', w6, g', k', c', rfl, hrun, jO6, fO6, hfin⟩ := FI.more HI.out.f HV.out.1 HV.out.2 hB5 HLT.out.1 HLT.out.2.1 HLT.out.2.2.1 HWO.out HNW.out HWN.out (by rw [List.length_map]; exact HPRE.out) XX; clear hB5 hb5) | (gi_at_builtin; refine wpListIn_append_ok rfl _ _ 24 rfl v _ _ w6 rfl rfl hrun ?_))
    refine ⟨hfin.out.2.1, ⟨hfin.out.2.2 Bs HLT.out.2.2.2.1 HNE.out.1, hfin.out.2.2 Bz HLT.out.2.2.2.2 HNE.out.2⟩, ?_⟩
    have h1 := hfin.out.1
    rw [HA.out.2.2.2.2, HHH.out] at h1
    refine (congrArg (fun q => FI H Sb O n1 _ S w q _) ?_).mp h1
    rw [List.map_append]; rfl
end Go.Proofs.Ythdkbocokefdhaa
