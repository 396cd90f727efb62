import Derived.Test.YthdkbocokefdhaaPcF
/- A piece's methods, said of pieces. -/
namespace Go.Proofs.Ythdkbocokefdhaa
set_option maxRecDepth 100000
open Go.RowKit
theorem Psm.lo {p : Pc} (h : Psm p) : 8 * p.h.off = ((p.lo : Nat) : Int) := by
  have := h.off
  unfold Pc.lo; omega
theorem pv_eq {p : Pc} (h : Psm p) : pv p = .agg #[.int .i64 p.h.tos, .int .i64 p.h.id, .int .i64 p.h.off, .int .i64 p.h.ttl, .int .i64 p.h.proto, .bool p.h.df, .bool p.h.mf, .string (bs p.h.src), .string (bs p.h.dst), .string (bs p.h.opt), .int .i64 (p.lo : Nat), .string (bs p.s)] := by
  unfold pv; rw [h.lo]
theorem Psm.hi {p : Pc} (h : Psm p) : p.hi = p.lo + (bs p.s).size ∧ p.hi ≤ 1000000000 := by
  have h1 := h.off
  have h2 := h.len
  rw [bs_size]
  unfold Pc.hi
  refine ⟨rfl, ?_⟩
  unfold Pc.lo; omega
theorem Psm.of {p : Pc} {x : List UInt8} (h : getE x = .ok (p.h, p.s)) : Psm p := by
  obtain ⟨h1, h2, h3⟩ := getE_ok h
  exact ⟨h1.off, by omega⟩
theorem end_any {p : Pc} (h : Psm p) (w : World) : Calls Try.prog 61 #[pv p] w fun e w' => e = .returned (.int .i64 (p.hi : Nat)) ∧ Below w.heap.size w w' := by
  rw [pv_eq h]; exact end_c _ _ _ _ _ _ _ _ _ _ _ _ _ h.hi.1 h.hi.2 w
theorem last_any {p : Pc} (h : Psm p) (w : World) : Calls Try.prog 62 #[pv p] w fun e w' => e = .returned (.bool (!p.h.mf)) ∧ Below w.heap.size w w' := by
  rw [pv_eq h]; exact last_c _ _ _ _ _ _ _ _ _ _ _ _ w
theorem odd_any {p : Pc} (h : Psm p) (w : World) : Calls Try.prog 30 #[pv p] w fun e w' => e = .returned (.bool (oddB p)) ∧ Below w.heap.size w w' := by
  rw [pv_eq h]
  refine (odd_c p.h.tos p.h.id p.h.off p.h.ttl p.h.proto p.h.df p.h.mf _ _ _ (bs p.s) p.lo p.hi h.hi.1 h.hi.2 w).mono ?_
  rintro e w' ⟨rfl, hb⟩
  refine ⟨?_, hb⟩
  unfold oddB
  have e0 : decide ((bs p.s).size = 0) = decide (p.s = []) := decide_eq_decide.2 (by rw [bs_size]; exact List.length_eq_zero_iff)
  rw [e0, bs_size]
theorem like_any {p q : Pc} (h : Psm p) (h2 : Psm q) (w : World) : Calls Try.prog 32 #[pv p, pv q] w fun e w' => e = .returned (.bool (likeB p q)) ∧ Below w.heap.size w w' := by
  rw [pv_eq h, pv_eq h2]
  refine (like_c p.h.tos p.h.id p.h.off p.h.ttl p.h.proto q.h.tos q.h.id q.h.off q.h.ttl q.h.proto p.h.df p.h.mf q.h.df q.h.mf _ _ _ (bs p.s) _ _ _ (bs q.s) p.lo q.lo w).mono ?_
  rintro e w' ⟨rfl, hb⟩
  refine ⟨?_, hb⟩
  unfold likeB
  have e0 : decide (bs p.s = bs q.s) = decide (p.s = q.s) := decide_eq_decide.2 ⟨bs_inj, fun e => by rw [e]⟩
  rw [e0]
theorem fits_any {p q : Pc} (h : Psm p) (h2 : Psm q) (w : World) : Calls Try.prog 34 #[pv p, pv q] w fun e w' => e = .returned (.bool (fitB p q)) ∧ Below w.heap.size w w' := by
  rw [pv_eq h, pv_eq h2]
  refine (fits_c p.h.tos p.h.id p.h.off p.h.ttl p.h.proto q.h.tos q.h.id q.h.off q.h.ttl q.h.proto p.h.df p.h.mf q.h.df q.h.mf _ _ _ (bs p.s) _ _ _ (bs q.s) p.lo q.lo p.hi q.hi h.hi.1 h.hi.2 h2.hi.1 h2.hi.2 w).mono ?_
  rintro e w' ⟨rfl, hb⟩
  exact ⟨rfl, hb⟩
/-- the closure of Add that tells whether a piece does not fit to the one that came -/
theorem nofit_any {p q : Pc} (h : Psm p) (h2 : Psm q) (P : Nat) (w : World) (hP : w.heap[P]? = some (.cells (pcells p).toArray 74 (0, 0))) :
    Calls Try.prog 33 #[pv q, .pointer (some ⟨P, 0, none⟩)] w fun e w' => e = .returned (.bool (!fitB p q)) ∧ Below w.heap.size w w' := by
  have C : Hid (∀ V, Calls Try.prog 34 #[pv p, pv q] V fun e w' => e = .returned (.bool (fitB p q)) ∧ Below V.heap.size V w') := Lib.hid (fun V => fits_any h h2 V)
  obtain ⟨r, hr⟩ : ∃ r, r = fitB p q := ⟨_, rfl⟩
  rw [← hr] at C ⊢
  clear hr
  obtain ⟨⟨a0, a1, a2, a3, a4, a5, a6, a7, a8, a9⟩, sa⟩ := p
  obtain ⟨⟨b0, b1, b2, b3, b4, b5, b6, b7, b8, b9⟩, sb⟩ := q
  unfold pv at *
  unfold pcells at hP
  simp only at C hP ⊢
  obtain ⟨fa, hfa⟩ : ∃ x, x = 8 * a2 := ⟨_, rfl⟩
  obtain ⟨fb, hfb⟩ : ∃ x, x = 8 * b2 := ⟨_, rfl⟩
  rw [← hfa, ← hfb] at C
  rw [← hfa] at hP
  rw [← hfb]
  clear hfa hfb
  obtain ⟨W, hW⟩ : ∃ W, W = w.alloc (.cells #[.int .i64 b0, .int .i64 b1, .int .i64 b2, .int .i64 b3, .int .i64 b4, .bool b5, .bool b6, .string (bs b7), .string (bs b8), .string (bs b9), .int .i64 fb, .string (bs sb)] 74) := ⟨_, rfl⟩
  have hP2 : W.heap[P]? = some (.cells #[.int .i64 a0, .int .i64 a1, .int .i64 a2, .int .i64 a3, .int .i64 a4, .bool a5, .bool a6, .string (bs a7), .string (bs a8), .string (bs a9), .int .i64 fa, .string (bs sa)] 74 (0, 0)) := by rw [hW, Below.heap_alloc _ _ _ (heap_lt hP)]; exact hP
  have hQ2 : W.heap[w.heap.size]? = some (.cells #[.int .i64 b0, .int .i64 b1, .int .i64 b2, .int .i64 b3, .int .i64 b4, .bool b5, .bool b6, .string (bs b7), .string (bs b8), .string (bs b9), .int .i64 fb, .string (bs sb)] 74 (0, 0)) := by rw [hW]; exact alloc_new _ _
  have HB : Hid (Below w.heap.size w W) := Lib.hid (by rw [hW]; exact (Below.refl _ _).alloc (Nat.le_refl _) _)
  obtain ⟨Q, hQ⟩ : ∃ Q, Q = w.heap.size := ⟨_, rfl⟩
  rw [← hQ] at hQ2
  have k0 := cellAt (i := 0) (v := .int .i64 a0) hP2 rfl
  have k1 := cellAt (i := 1) (v := .int .i64 a1) hP2 rfl
  have k2 := cellAt (i := 2) (v := .int .i64 a2) hP2 rfl
  have k3 := cellAt (i := 3) (v := .int .i64 a3) hP2 rfl
  have k4 := cellAt (i := 4) (v := .int .i64 a4) hP2 rfl
  have k5 := cellAt (i := 5) (v := .bool a5) hP2 rfl
  have k6 := cellAt (i := 6) (v := .bool a6) hP2 rfl
  have k7 := cellAt (i := 7) (v := .string (bs a7)) hP2 rfl
  have k8 := cellAt (i := 8) (v := .string (bs a8)) hP2 rfl
  have k9 := cellAt (i := 9) (v := .string (bs a9)) hP2 rfl
  have k10 := cellAt (i := 10) (v := .int .i64 fa) hP2 rfl
  have k11 := cellAt (i := 11) (v := .string (bs sa)) hP2 rfl
  have l0 := cellAt (i := 0) (v := .int .i64 b0) hQ2 rfl
  have l1 := cellAt (i := 1) (v := .int .i64 b1) hQ2 rfl
  have l2 := cellAt (i := 2) (v := .int .i64 b2) hQ2 rfl
  have l3 := cellAt (i := 3) (v := .int .i64 b3) hQ2 rfl
  have l4 := cellAt (i := 4) (v := .int .i64 b4) hQ2 rfl
  have l5 := cellAt (i := 5) (v := .bool b5) hQ2 rfl
  have l6 := cellAt (i := 6) (v := .bool b6) hQ2 rfl
  have l7 := cellAt (i := 7) (v := .string (bs b7)) hQ2 rfl
  have l8 := cellAt (i := 8) (v := .string (bs b8)) hQ2 rfl
  have l9 := cellAt (i := 9) (v := .string (bs b9)) hQ2 rfl
  have l10 := cellAt (i := 10) (v := .int .i64 fb) hQ2 rfl
  have l11 := cellAt (i := 11) (v := .string (bs sb)) hQ2 rfl
  clear hP hP2 hQ2
  go_enter Try.func33, Try.ntmps33
  go_upto_region 1 with (fail)
  rw [← hW, ← hQ]
  clear hW hQ
  go_wp2_with (go_at_call 34; (with_reducible refine (C.out _).mono ?_); rintro e w1 ⟨rfl, hb1⟩)
  go_ret
  exact ⟨rfl, HB.out.trans (hb1.mono HB.out.size)⟩
end Go.Proofs.Ythdkbocokefdhaa
