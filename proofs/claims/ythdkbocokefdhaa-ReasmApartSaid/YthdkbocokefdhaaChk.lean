import Derived.Test.YthdkbocokefdhaaHd
import Derived.Laws.Tables
import Derived.Defers
import Derived.Recover
/- Whether a header may be: ip4.Check. -/
namespace Go.Proofs.Ythdkbocokefdhaa
set_option maxRecDepth 100000
open Go.RowKit
/-- what package ip4 panics with -/
def oddC : List PanicEntry := [{ v := .iface 147 (.agg #[]), recovered := false }]
theorem assert_odd (w : World) : (Instr.typeAssert (.iface 147 (.agg #[])) 20 147 true).run Try.prog w = .ok (.tuple #[.agg #[], .bool true]) w := by
  kernel_rfl
theorem assert_nil (w : World) : (Instr.typeAssert .nilIface 20 147 true).run Try.prog w = .ok (.tuple #[.agg #[], .bool false]) w := by
  kernel_rfl
set_option maxHeartbeats 1000000 in
theorem ochk_idle (p : Addr) (w : World) :
    CallsD Try.prog 91 #[.pointer (some p)] .returning w fun e u' w' => e = .returned (.tuple #[]) ∧ u' = .returning ∧ w' = w.alloc (.cells #[] 147) := by
  have hta := fun (w : World) => assert_nil w
  refine callsD_of_wpS Try.func91 rfl fun c₀ cs hu => ?_
  apply wpS_seq
  apply wpS_region
  simp [wpOpsS, go_sem, recoverD, hu, Try.ntmps91, Exit.thenS, hta]
  refine wpS_of_wp ?_
  go_wp2
  cases c₀
  simp_all [bodyPostS, results, Try.results91]
set_option maxHeartbeats 1000000 in
theorem ochk_odd (p : Addr) (c0 : Value) (w : World) (hc : w.cell? p = some c0) (hz : w.frozen? p = false) (hp : p.block < w.heap.size) :
    CallsD Try.prog 91 #[.pointer (some p)] (.panicking oddC) w fun e u' w' => e = .returned (.tuple #[]) ∧ u' = .panicking [{ v := .iface 147 (.agg #[]), recovered := true }] ∧ w' = (w.alloc (.cells #[] 147)).setCell p (.int .i64 1) := by
  have hta := fun (w : World) => assert_odd w
  have hz2 : (w.alloc (.cells #[] 147)).frozen? p = false := by rw [((Below.refl w.heap.size w).alloc (Nat.le_refl _) _).frozen hp]; exact hz
  have hc2 : (w.alloc (.cells #[] 147)).cell? p = some c0 := by rw [((Below.refl w.heap.size w).alloc (Nat.le_refl _) _).cell hp]; exact hc
  refine callsD_of_wpS Try.func91 rfl fun c₀ cs hu => ?_
  apply wpS_seq
  apply wpS_region
  simp [wpOpsS, go_sem, recoverD, hu, Try.ntmps91, Exit.thenS, hta, oddC]
  refine wpS_of_wp ?_
  go_wp2
  cases c₀
  simp_all [bodyPostS, results, Try.results91]
def inB (x : Int × Int) : Bool := decide (0 ≤ x.1) && decide (x.1 ≤ x.2)
/-- pairs of numbers in cells -/
def pairC (l : List (Int × Int)) : List Value := l.flatMap fun x => [.int .i64 x.1, .int .i64 x.2]
theorem pairC_at : ∀ (l : List (Int × Int)) (i : Nat) (h : i < l.length), (pairC l)[i * 2]? = some (.int .i64 (l[i]'h).1) ∧ (pairC l)[i * 2 + 1]? = some (.int .i64 (l[i]'h).2)
  | x :: l, 0, _ => ⟨rfl, rfl⟩
  | x :: l, i + 1, h => by
    have := pairC_at l i (by simpa using h)
    rw [show (i + 1) * 2 = i * 2 + 1 + 1 by omega]
    exact this
set_option maxHeartbeats 2000000 in
theorem within_any (g n : Nat) (l : List (Int × Int)) (w : World) (hn : n = l.length) (hn9 : n ≤ 5) (hg : w.heap[g]? = some (.cells (pairC l).toArray 61 (0, 0))) :
    Calls Try.prog 92 #[.slice (some ⟨g, 0, none⟩) n n] w fun e w' => (l.all inB = true ∧ e = .returned (.tuple #[]) ∧ Below w.heap.size w w') ∨ (l.all inB = false ∧ e = .panicked oddC ∧ Below w.heap.size w w') := by
  obtain ⟨r, hr⟩ : ∃ r, r = l.all inB := ⟨_, rfl⟩
  rw [← hr]
  have HR := Lib.hid hr
  clear hr
  have HN := Lib.hid hn
  have HG := Lib.hid hg
  have HGL := Lib.hid (heap_lt hg)
  clear hn hg
  go_enter Try.func92, Try.ntmps92
  go_wp2_with (fail)
  go_loopw [6] (fun i wr => ∃ k : Nat, k ≤ n ∧ i = .int .i64 k ∧ Hid ((l.take k).all inB = true ∧ Below w.heap.size w wr)) (fun i _ => n - (intOf i).toNat)
  case atStart => exact ⟨0, by omega, rfl, rfl, Below.refl _ _⟩
  case round =>
    obtain ⟨k, hk, rfl, hst⟩ := hrel
    by_cases hlt : k < n
    · have hkl : k < l.length := by have := HN.out; omega
      have h1 := pairC_at l k hkl
      obtain ⟨x, hx⟩ : ∃ x, x = l[k].1 := ⟨_, rfl⟩
      obtain ⟨y, hy⟩ : ∃ y, y = l[k].2 := ⟨_, rfl⟩
      rw [← hx, ← hy] at h1
      have hgw : wr.heap[g]? = some (.cells (pairC l).toArray 61 (0, 0)) := (hst.out.2.block g HGL.out).trans HG.out
      have c0 := cellAt (i := k * 2) (v := .int .i64 x) hgw (by simpa using h1.1)
      have c1 := cellAt (i := k * 2 + 1) (v := .int .i64 y) hgw (by simpa using h1.2)
      have HX := Lib.hid hx
      have HY := Lib.hid hy
      clear h1 hgw hx hy
      have HALL : Hid ((l.take (k + 1)).all inB = ((l.take k).all inB && (decide (0 ≤ x) && decide (x ≤ y)))) := by
        show _ = _
        rw [List.take_succ_eq_append_getElem hkl, List.all_append, HX.out, HY.out]
        simp [inB]
      have HALLF : Hid ((decide (0 ≤ x) && decide (x ≤ y)) = false → r = false) := by
        refine Lib.hid fun h => ?_
        rw [HR.out]
        rw [List.all_eq_false]
        refine ⟨l[k], List.getElem_mem _, ?_⟩
        unfold inB
        rw [← HX.out, ← HY.out, h]; simp
      by_cases p0 : x < 0
      · have HB := Lib.hid (HALLF.out (by rw [decide_eq_false (by omega)]; rfl))
        go_wp2_with (fail)
        exact ⟨rfl, .inr ⟨HB.out, rfl, hst.out.2.alloc (by have := hst.out.2.size; omega) _⟩⟩
      · by_cases p1 : y < x
        · have HB := Lib.hid (HALLF.out (by rw [Bool.and_eq_false_iff]; exact .inr (decide_eq_false (by omega))))
          go_wp2_with (fail)
          exact ⟨rfl, .inr ⟨HB.out, rfl, hst.out.2.alloc (by have := hst.out.2.size; omega) _⟩⟩
        · have HB : Hid ((l.take (k + 1)).all inB = true) := by
            refine Lib.hid ?_
            rw [HALL.out, hst.out.1, decide_eq_true (by omega), decide_eq_true (by omega)]; rfl
          go_wp2_with (fail)
          exact ⟨⟨k + 1, by omega, by go_num, HB.out, hst.out.2.alloc (by have := hst.out.2.size; omega) _⟩, by simp [intOf] <;> omega⟩
    · obtain rfl : k = n := by omega
      go_wp2_with (fail)
      go_end0
      refine .inl ⟨?_, rfl, hst.out.2⟩
      have := hst.out.1
      rw [List.take_of_length_le (by have := HN.out; omega)] at this
      rw [HR.out]; exact this
theorem xor4 (n : Nat) (h : n < 9223372036854775808) : ∃ z : Nat, bits .xor .i64 (n : Int) 4 = (z : Int) ∧ (z = 0 ↔ n = 4) := by
  refine ⟨n ^^^ 4, i64_xor_nat n 4 h (by decide), ?_⟩
  constructor
  · intro hz
    have : n ^^^ 4 ^^^ 4 = 0 ^^^ 4 := by rw [hz]
    rw [Nat.xor_assoc, Nat.xor_self, Nat.xor_zero, Nat.zero_xor] at this
    exact this
  · rintro rfl; rfl
theorem chk_parts (tos id off ttl proto : Int) (df mf : Bool) (src dst opt : List UInt8) (z1 z2 : Nat) (h1 : z1 = 0 ↔ src.length = 4) (h2 : z2 = 0 ↔ dst.length = 4) :
    chk ⟨tos, id, off, ttl, proto, df, mf, src, dst, opt⟩ = ([(tos, 255), (ttl, 255), (proto, 255), (id, 65535), (off, 8191)].all inB && [((z1 : Int), (0 : Int)), ((z2 : Int), 0), ((opt.length : Int), 40), (((opt.length % 4 : Nat) : Int), 0)].all inB) := by
  rw [Bool.eq_iff_iff]
  unfold chk inB
  simp only [List.all_cons, List.all_nil, Bool.and_eq_true, decide_eq_true_eq, Bool.and_true]
  have e1 : ((z1 : Int) ≤ 0) ↔ src.length = 4 := by rw [← h1]; omega
  have e2 : ((z2 : Int) ≤ 0) ↔ dst.length = 4 := by rw [← h2]; omega
  rw [e1, e2]
  constructor
  · rintro ⟨⟨⟨⟨⟨⟨⟨⟨⟨⟨⟨⟨⟨a, b⟩, c⟩, d⟩, e⟩, f⟩, g⟩, i⟩, j⟩, k⟩, l⟩, m⟩, n⟩, o⟩
    refine ⟨⟨⟨a, b⟩, ⟨c, d⟩, ⟨e, f⟩, ⟨g, i⟩, ⟨j, k⟩⟩, ⟨by omega, l⟩, ⟨by omega, m⟩, ⟨by omega, by omega⟩, ⟨by omega, by omega⟩⟩
  · rintro ⟨⟨⟨a, b⟩, ⟨c, d⟩, ⟨e, f⟩, ⟨g, i⟩, ⟨j, k⟩⟩, ⟨_, l⟩, ⟨_, m⟩, ⟨_, n⟩, ⟨_, o⟩⟩
    exact ⟨⟨⟨⟨⟨⟨⟨⟨⟨⟨⟨⟨⟨a, b⟩, c⟩, d⟩, e⟩, f⟩, g⟩, i⟩, j⟩, k⟩, l⟩, m⟩, by omega⟩, by omega⟩
set_option maxHeartbeats 8000000 in
theorem check_h (h : H4) (w : World) (hl : h.src.length < 1000000000 ∧ h.dst.length < 1000000000 ∧ h.opt.length < 1000000000) :
    Calls Try.prog 73 #[hv h] w fun e w' => e = .returned (.int .i64 ((if chk h then 0 else 1 : Nat) : Int)) ∧ Below w.heap.size w w' := by
  obtain ⟨rr, hrr⟩ : ∃ r : Nat, r = (if chk h then 0 else 1) := ⟨_, rfl⟩
  rw [← hrr]
  obtain ⟨tos, id, off, ttl, proto, df, mf, src, dst, opt⟩ := h
  unfold hv hc
  simp only at hl ⊢
  obtain ⟨z1, hz1, iz1⟩ := xor4 src.length (by omega)
  obtain ⟨z2, hz2, iz2⟩ := xor4 dst.length (by omega)
  have hck := chk_parts tos id off ttl proto df mf src dst opt z1 z2 iz1 iz2
  obtain ⟨N, hN⟩ : ∃ N, N = w.heap.size := ⟨_, rfl⟩
  obtain ⟨W, hW⟩ : ∃ W, W = (w.alloc (.cells #[.int .i64 tos, .int .i64 id, .int .i64 off, .int .i64 ttl, .int .i64 proto, .bool df, .bool mf, .string (bs src), .string (bs dst), .string (bs opt)] 43)).alloc (.cells #[.int .i64 0] 28) := ⟨_, rfl⟩
  have hWs : W.heap.size = N + 2 := by rw [hW, World.size_alloc, World.size_alloc, hN]
  have HWE : Hid (W.heap[N + 1]? = some (.cells #[.int .i64 0] 28 (0, 0))) := by
    refine Lib.hid ?_
    have := alloc_new (w.alloc (.cells #[.int .i64 tos, .int .i64 id, .int .i64 off, .int .i64 ttl, .int .i64 proto, .bool df, .bool mf, .string (bs src), .string (bs dst), .string (bs opt)] 43)) (.cells #[.int .i64 0] 28)
    rw [hW, hN]; simpa using this
  have HWH : Hid (W.heap[N]? = some (.cells #[.int .i64 tos, .int .i64 id, .int .i64 off, .int .i64 ttl, .int .i64 proto, .bool df, .bool mf, .string (bs src), .string (bs dst), .string (bs opt)] 43 (0, 0))) := by
    refine Lib.hid ?_
    rw [hW, Below.heap_alloc _ _ _ (by rw [World.size_alloc]; omega), hN]; exact alloc_new _ _
  have HWB : Hid (Below w.heap.size w W) := by
    refine Lib.hid ?_
    rw [hW]; exact ((Below.refl _ _).alloc (Nat.le_refl _) _).alloc (by simp) _
  have CA := Lib.hid (within_any W.heap.size 5 [(tos, 255), (ttl, 255), (proto, 255), (id, 65535), (off, 8191)] (W.alloc (.cells #[.int .i64 tos, .int .i64 255, .int .i64 ttl, .int .i64 255, .int .i64 proto, .int .i64 255, .int .i64 id, .int .i64 65535, .int .i64 off, .int .i64 8191] 61)) rfl (by decide) (alloc_new _ _))
  have hmf := fun (fn : Fn) (first cap : Array Value) (w : World) => make_run fn first cap w
  have k0 := cellAt (i := 0) (v := .int .i64 tos) HWH.out rfl
  have k1 := cellAt (i := 1) (v := .int .i64 id) HWH.out rfl
  have k2 := cellAt (i := 2) (v := .int .i64 off) HWH.out rfl
  have k3 := cellAt (i := 3) (v := .int .i64 ttl) HWH.out rfl
  have k4 := cellAt (i := 4) (v := .int .i64 proto) HWH.out rfl
  have HCK := Lib.hid hck
  have HRR := Lib.hid hrr
  have HN := Lib.hid hN
  have zs : (bs src).size = src.length := bs_size _
  have zd : (bs dst).size = dst.length := bs_size _
  have zo : (bs opt).size = opt.length := bs_size _
  go_enter_defers Try.func73, Try.ntmps73
  go_upto_region 2 with (fail)
  rw [← hW, ← hN]
  clear hW hN hck hrr iz1 iz2
  rw [hWs] at CA
  go_wp2_with (fail)
  refine CA.out.mono ?_
  clear k0 k1 k2 k3 k4
  rintro e w3 (⟨ha, rfl, hb⟩ | ⟨ha, rfl, hb⟩)
  · have HA := Lib.hid ha
    have hE3 : w3.heap[N + 1]? = some (.cells #[.int .i64 0] 28 (0, 0)) := (hb.block (N + 1) (by rw [World.size_alloc]; omega)).trans ((Below.heap_alloc _ _ _ (by omega)).trans HWE.out)
    have hH3 : w3.heap[N]? = some (.cells #[.int .i64 tos, .int .i64 id, .int .i64 off, .int .i64 ttl, .int .i64 proto, .bool df, .bool mf, .string (bs src), .string (bs dst), .string (bs opt)] 43 (0, 0)) := (hb.block N (by rw [World.size_alloc]; omega)).trans ((Below.heap_alloc _ _ _ (by omega)).trans HWH.out)
    have hB3 : Below w.heap.size w w3 := (HWB.out.alloc (by have : N = w.heap.size := HN.out; omega) _).trans (hb.mono (by rw [World.size_alloc]; have : N = w.heap.size := HN.out; omega))
    have HE3 := Lib.hid hE3
    have HB3 := Lib.hid hB3
    have CB := Lib.hid (within_any w3.heap.size 4 [((z1 : Int), (0 : Int)), ((z2 : Int), 0), ((opt.length : Int), 40), (((opt.length % 4 : Nat) : Int), 0)] (w3.alloc (.cells #[.int .i64 z1, .int .i64 0, .int .i64 z2, .int .i64 0, .int .i64 opt.length, .int .i64 40, .int .i64 (opt.length % 4 : Nat), .int .i64 0] 61)) rfl (by decide) (alloc_new _ _))
    have k7 := cellAt (i := 7) (v := .string (bs src)) hH3 rfl
    have k8 := cellAt (i := 8) (v := .string (bs dst)) hH3 rfl
    have k9 := cellAt (i := 9) (v := .string (bs opt)) hH3 rfl
    clear ha hb hE3 hH3 hB3 CA
    go_wp2_with (fail)
    refine CB.out.mono ?_
    clear k7 k8 k9
    rintro e w4 (⟨ha, rfl, hb⟩ | ⟨ha, rfl, hb⟩)
    · have HA2 := Lib.hid ha
      have hE4 : w4.heap[N + 1]? = some (.cells #[.int .i64 0] 28 (0, 0)) := (hb.block (N + 1) (by rw [World.size_alloc]; have := heap_lt HE3.out; omega)).trans ((Below.heap_alloc _ _ _ (heap_lt HE3.out)).trans HE3.out)
      have hB4 : Below w.heap.size w w4 := (HB3.out.alloc (HB3.out.size) _).trans (hb.mono (by rw [World.size_alloc]; have := HB3.out.size; omega))
      have HB4 := Lib.hid hB4
      have HE4 := Lib.hid hE4
      have k0 := cellAt (i := 0) (v := .int .i64 0) hE4 rfl
      have f0 := Lib.frozen_of_heap hE4 0
      clear ha hb hE4 hB4 CB
      go_wp2_with (fail)
      have hr0 : rr = 0 := by
        have h1 := HRR.out
        rw [HCK.out, HA.out, HA2.out] at h1
        simpa using h1
      refine leaves_cons (f := 91) (args := #[.pointer (some ⟨N + 1, 0, none⟩)]) (by simp) (by simp [go_sem]) ?_
      refine (ochk_idle ⟨N + 1, 0, none⟩ _).mono ?_
      rintro e u' w'' ⟨rfl, rfl, rfl⟩
      have q2 : ((w4.setCell ⟨N + 1, 0, none⟩ (.int .i64 0)).alloc (.cells #[] 147)).heap[N + 1]? = some (.cells #[.int .i64 0] 28 (0, 0)) := by
        rw [Below.heap_alloc _ _ _ (by have := heap_lt HE4.out; simpa [World.setCell] using this)]
        exact heap_one HE4.out _
      have hcv := cellAt (i := 0) (v := .int .i64 0) q2 rfl
      have hfin : Below w.heap.size w ((w4.setCell ⟨N + 1, 0, none⟩ (.int .i64 0)).alloc (.cells #[] 147)) := (HB4.out.setCell (p := ⟨N + 1, 0, none⟩) (by have : N = w.heap.size := HN.out; simp only; omega) _).alloc (by have := HB4.out.size; simpa [World.setCell] using this) _
      simp only [Leaves, settle, results, Try.results73]
      simp [go_sem, hcv]
      exact ⟨by rw [hr0]; rfl, hfin⟩
    · have hE : w4.heap[N + 1]? = some (.cells #[.int .i64 0] 28 (0, 0)) := (hb.block (N + 1) (by rw [World.size_alloc]; have := heap_lt HE3.out; omega)).trans ((Below.heap_alloc _ _ _ (heap_lt HE3.out)).trans HE3.out)
      have hBB : Below w.heap.size w w4 := (HB3.out.alloc (HB3.out.size) _).trans (hb.mono (by rw [World.size_alloc]; have := HB3.out.size; omega))
      have q1 := hE
      have hcell : w4.cell? ⟨N + 1, 0, none⟩ = some (.int .i64 0) := cellAt q1 rfl
      have hfr : w4.frozen? ⟨N + 1, 0, none⟩ = false := Lib.frozen_of_heap q1 0
      have hlt : N + 1 < w4.heap.size := heap_lt q1
      have hBl : Below w.heap.size w w4 := hBB
      have hr1 : rr = 1 := by
        have h1 := HRR.out
        rw [HCK.out, ha, Bool.and_false] at h1
        simpa using h1
      refine leaves_cons (f := 91) (args := #[.pointer (some ⟨N + 1, 0, none⟩)]) (by simp) (by simp [go_sem]) ?_
      refine (ochk_odd ⟨N + 1, 0, none⟩ _ _ hcell hfr hlt).mono ?_
      rintro e u' w'' ⟨rfl, rfl, rfl⟩
      have q2 : (w4.alloc (.cells #[] 147)).heap[N + 1]? = some (.cells #[.int .i64 0] 28 (0, 0)) := by rw [Below.heap_alloc _ _ _ hlt]; exact q1
      have hcv := cell_one q2 (.int .i64 1)
      have hfin : Below w.heap.size w ((w4.alloc (.cells #[] 147)).setCell ⟨N + 1, 0, none⟩ (.int .i64 1)) := (hBl.alloc (by have := hBl.size; omega) _).setCell (p := ⟨N + 1, 0, none⟩) (by have : N = w.heap.size := HN.out; simp only; omega) _
      simp [Leaves, settle, results, Try.results73, go_sem, hcv]
      exact ⟨by rw [hr1]; rfl, hfin⟩
  · have hE : w3.heap[N + 1]? = some (.cells #[.int .i64 0] 28 (0, 0)) := (hb.block (N + 1) (by rw [World.size_alloc]; omega)).trans ((Below.heap_alloc _ _ _ (by omega)).trans HWE.out)
    have hBB : Below w.heap.size w w3 := (HWB.out.alloc (by have : N = w.heap.size := HN.out; omega) _).trans (hb.mono (by rw [World.size_alloc]; have : N = w.heap.size := HN.out; omega))
    have q1 := hE
    have hcell : w3.cell? ⟨N + 1, 0, none⟩ = some (.int .i64 0) := cellAt q1 rfl
    have hfr : w3.frozen? ⟨N + 1, 0, none⟩ = false := Lib.frozen_of_heap q1 0
    have hlt : N + 1 < w3.heap.size := heap_lt q1
    have hBl : Below w.heap.size w w3 := hBB
    have hr1 : rr = 1 := by
      have h1 := HRR.out
      rw [HCK.out, ha, Bool.false_and] at h1
      simpa using h1
    refine leaves_cons (f := 91) (args := #[.pointer (some ⟨N + 1, 0, none⟩)]) (by simp) (by simp [go_sem]) ?_
    refine (ochk_odd ⟨N + 1, 0, none⟩ _ _ hcell hfr hlt).mono ?_
    rintro e u' w'' ⟨rfl, rfl, rfl⟩
    have q2 : (w3.alloc (.cells #[] 147)).heap[N + 1]? = some (.cells #[.int .i64 0] 28 (0, 0)) := by rw [Below.heap_alloc _ _ _ hlt]; exact q1
    have hcv := cell_one q2 (.int .i64 1)
    have hfin : Below w.heap.size w ((w3.alloc (.cells #[] 147)).setCell ⟨N + 1, 0, none⟩ (.int .i64 1)) := (hBl.alloc (by have := hBl.size; omega) _).setCell (p := ⟨N + 1, 0, none⟩) (by have : N = w.heap.size := HN.out; simp only; omega) _
    simp [Leaves, settle, results, Try.results73, go_sem, hcv]
    exact ⟨by rw [hr1]; rfl, hfin⟩
end Go.Proofs.Ythdkbocokefdhaa
