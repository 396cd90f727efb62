import Derived.Test.YthdkbocokefdhaaPcM
/- Whether a row has a piece like one, or one that does not fit: slices.ContainsFunc. -/
namespace Go.Proofs.Ythdkbocokefdhaa
set_option maxRecDepth 100000
open Go.RowKit
set_option maxHeartbeats 4000000 in
theorem idxL_any (p : Pc) (hp : Psm p) (v : Value) (ps : List Pc) (w : World) (hrow : PRow 0 v ps w) (hps : ∀ q ∈ ps, Psm q) (hlen : ps.length ≤ 1000000) :
    Calls Try.prog 63 #[v, .func (.func 32) #[pv p] #[]] w fun e w' => ∃ z : Int, e = .returned (.int .i64 z) ∧ decide (0 ≤ z) = ps.any (likeB p) ∧ Below w.heap.size w w' := by
  obtain ⟨r, hr⟩ : ∃ r, r = ps.any (likeB p) := ⟨_, rfl⟩
  rw [← hr]
  have HR := Lib.hid hr
  clear hr
  obtain ⟨n, hn⟩ : ∃ n, n = ps.length := ⟨_, rfl⟩
  have HN := Lib.hid hn
  have hnl : n ≤ 1000000 := by omega
  obtain ⟨g, cap, hv⟩ : ∃ g cap, (v = .slice g n cap ∧ (n = 0 ∨ ∃ k, g = some ⟨k, 0, none⟩)) := by
    rcases hrow.2 with ⟨h1, h2⟩ | ⟨g, cap, cur, h1, _⟩
    · exact ⟨none, 0, by rw [hn, h2]; exact h1, .inl (by omega)⟩
    · exact ⟨_, cap, by rw [hn]; exact h1, .inr ⟨g, rfl⟩⟩
  obtain ⟨rfl, hg⟩ := hv
  have HROW := Lib.hid hrow
  have HPS := Lib.hid hps
  clear hn hrow hps hlen
  go_enter Try.func63, Try.ntmps63
  go_wp2_with (fail)
  go_loopw [8] (fun i wr => ∃ k : Nat, k ≤ n ∧ i = .int .i64 k ∧ Hid ((ps.take k).any (likeB p) = false ∧ Below w.heap.size w wr)) (fun i _ => n - (intOf i).toNat)
  case atStart => exact ⟨0, by omega, rfl, rfl, Below.refl _ _⟩
  case round =>
    obtain ⟨k, hk, rfl, hst⟩ := hrel
    by_cases hlt : k < n
    · obtain ⟨G, rfl⟩ : ∃ k, g = some ⟨k, 0, none⟩ := by
        rcases hg with h | h
        · omega
        · exact h
      have hkl : k < ps.length := by have := HN.out; omega
      have hq : Psm ps[k] := HPS.out _ (List.getElem_mem _)
      have HANY : Hid ((ps.take (k + 1)).any (likeB p) = likeB p ps[k]) := Lib.hid (by
        rw [List.take_succ_eq_append_getElem hkl, List.any_append, hst.out.1]; simp)
      have HTRUE : Hid (likeB p ps[k] = true → r = true) := Lib.hid (fun h => by rw [HR.out]; exact List.any_eq_true.2 ⟨_, List.getElem_mem hkl, h⟩)
      have cl : ∀ j x, (pcells ps[k])[j]? = some x → j < 12 → wr.cell? ⟨G, k * 12 + j, none⟩ = some x := fun j x hx hj => by
        have h1 := World.ownsRow.cells HROW.out rfl (k * 12 + j) x (by rw [prow_at ps k j hkl hj]; exact hx)
        have h2 : (⟨G, 0, none⟩ : Addr).add (k * 12 + j) = ⟨G, k * 12 + j, none⟩ := by unfold Addr.add; split <;> simp_all
        have h3 : w.cell? ⟨G, k * 12 + j, none⟩ = some x := by rw [← h2]; exact h1
        exact (hst.out.2.cell (p := ⟨G, k * 12 + j, none⟩) (World.ownsRow.lt HROW.out G rfl).2).trans h3
      have C : Hid (∀ V, Below w.heap.size w V → Calls Try.prog 32 #[pv p, pv ps[k]] V fun e w' => e = .returned (.bool (likeB p ps[k])) ∧ Below V.heap.size V w') := Lib.hid (fun V hV => like_any hp hq V)
      obtain ⟨q, hqe⟩ : ∃ q, q = ps[k] := ⟨_, rfl⟩
      rw [← hqe] at C HANY HTRUE cl
      obtain ⟨t, ht⟩ : ∃ t, t = likeB p q := ⟨_, rfl⟩
      have C2 := C
      have HT := Lib.hid ht
      clear hqe hq
      obtain ⟨⟨b0, b1, b2, b3, b4, b5, b6, b7, b8, b9⟩, sb⟩ := q
      unfold pcells at cl
      have hpv : pv ⟨⟨b0, b1, b2, b3, b4, b5, b6, b7, b8, b9⟩, sb⟩ = .agg #[.int .i64 b0, .int .i64 b1, .int .i64 b2, .int .i64 b3, .int .i64 b4, .bool b5, .bool b6, .string (bs b7), .string (bs b8), .string (bs b9), .int .i64 (8 * b2), .string (bs sb)] := rfl
      rw [hpv] at C2
      clear hpv
      simp only at cl
      obtain ⟨fb, hfb⟩ : ∃ x, x = 8 * b2 := ⟨_, rfl⟩
      rw [← hfb] at cl C2
      have l0 := cl 0 (.int .i64 b0) rfl (by decide)
      have l1 := cl 1 (.int .i64 b1) rfl (by decide)
      have l2 := cl 2 (.int .i64 b2) rfl (by decide)
      have l3 := cl 3 (.int .i64 b3) rfl (by decide)
      have l4 := cl 4 (.int .i64 b4) rfl (by decide)
      have l5 := cl 5 (.bool b5) rfl (by decide)
      have l6 := cl 6 (.bool b6) rfl (by decide)
      have l7 := cl 7 (.string (bs b7)) rfl (by decide)
      have l8 := cl 8 (.string (bs b8)) rfl (by decide)
      have l9 := cl 9 (.string (bs b9)) rfl (by decide)
      have l10 := cl 10 (.int .i64 fb) rfl (by decide)
      have l11 := cl 11 (.string (bs sb)) rfl (by decide)
      rw [Nat.add_zero] at l0
      rw [← ht] at C2
      clear cl C hfb hkl ht
      cases t with
      | true =>
        go_wp2_with (go_at_call 32; (with_reducible refine (C2.out _ hst.out.2).mono ?_); rintro e w1 ⟨rfl, hb1⟩)
        go_ret
        exact ⟨_, rfl, by rw [HTRUE.out HT.out.symm, decide_eq_true (by omega)], hst.out.2.trans (hb1.mono hst.out.2.size)⟩
      | false =>
        go_wp2_with (go_at_call 32; (with_reducible refine (C2.out _ hst.out.2).mono ?_); rintro e w1 ⟨rfl, hb1⟩)
        exact ⟨⟨k + 1, by omega, by go_num, by rw [HANY.out, HT.out], hst.out.2.trans (hb1.mono hst.out.2.size)⟩, by simp [intOf] <;> omega⟩
    · obtain rfl : k = n := by omega
      have HF : Hid (r = false) := Lib.hid (by
        have h1 := hst.out.1
        rw [List.take_of_length_le (by have := HN.out; omega)] at h1
        rw [HR.out]; exact h1)
      go_wp2_with (fail)
      go_ret
      exact ⟨_, rfl, by rw [HF.out]; rfl, hst.out.2⟩
set_option maxHeartbeats 1000000 in
theorem hasL_any (p : Pc) (hp : Psm p) (v : Value) (ps : List Pc) (w : World) (hrow : PRow 0 v ps w) (hps : ∀ q ∈ ps, Psm q) (hlen : ps.length ≤ 1000000) :
    Calls Try.prog 31 #[v, .func (.func 32) #[pv p] #[]] w fun e w' => e = .returned (.bool (ps.any (likeB p))) ∧ Below w.heap.size w w' := by
  have C := Lib.hid (idxL_any p hp v ps w hrow hps hlen)
  obtain ⟨r, hr⟩ : ∃ r, r = ps.any (likeB p) := ⟨_, rfl⟩
  rw [← hr] at C ⊢
  clear hr hrow hps hlen hp
  go_enter Try.func31, Try.ntmps31
  go_wp2_with (go_at_call 63; (with_reducible refine C.out.mono ?_); rintro e w1 ⟨z, rfl, hz, hb1⟩; have HZ := Lib.hid hz; clear hz)
  go_ret
  refine ⟨?_, hb1⟩
  rw [← HZ.out]
  rfl
set_option maxHeartbeats 4000000 in
theorem idxF_any (p : Pc) (hp : Psm p) (P : Nat) (v : Value) (ps : List Pc) (w : World) (hrow : PRow 0 v ps w) (hps : ∀ q ∈ ps, Psm q) (hlen : ps.length ≤ 1000000) (hP : w.heap[P]? = some (.cells (pcells p).toArray 74 (0, 0))) :
    Calls Try.prog 63 #[v, .func (.func 33) #[] #[.pointer (some ⟨P, 0, none⟩)]] w fun e w' => ∃ z : Int, e = .returned (.int .i64 z) ∧ decide (0 ≤ z) = ps.any (fun o => !fitB p o) ∧ Below w.heap.size w w' := by
  obtain ⟨r, hr⟩ : ∃ r, r = ps.any (fun o => !fitB p o) := ⟨_, rfl⟩
  rw [← hr]
  have HR := Lib.hid hr
  clear hr
  obtain ⟨n, hn⟩ : ∃ n, n = ps.length := ⟨_, rfl⟩
  have HN := Lib.hid hn
  have hnl : n ≤ 1000000 := by omega
  obtain ⟨g, cap, hv⟩ : ∃ g cap, (v = .slice g n cap ∧ (n = 0 ∨ ∃ k, g = some ⟨k, 0, none⟩)) := by
    rcases hrow.2 with ⟨h1, h2⟩ | ⟨g, cap, cur, h1, _⟩
    · exact ⟨none, 0, by rw [hn, h2]; exact h1, .inl (by omega)⟩
    · exact ⟨_, cap, by rw [hn]; exact h1, .inr ⟨g, rfl⟩⟩
  obtain ⟨rfl, hg⟩ := hv
  have HROW := Lib.hid hrow
  have HPS := Lib.hid hps
  have HPP := Lib.hid hP
  clear hP
  clear hn hrow hps hlen
  go_enter Try.func63, Try.ntmps63
  go_wp2_with (fail)
  go_loopw [8] (fun i wr => ∃ k : Nat, k ≤ n ∧ i = .int .i64 k ∧ Hid ((ps.take k).any (fun o => !fitB p o) = false ∧ Below w.heap.size w wr)) (fun i _ => n - (intOf i).toNat)
  case atStart => exact ⟨0, by omega, rfl, rfl, Below.refl _ _⟩
  case round =>
    obtain ⟨k, hk, rfl, hst⟩ := hrel
    by_cases hlt : k < n
    · obtain ⟨G, rfl⟩ : ∃ k, g = some ⟨k, 0, none⟩ := by
        rcases hg with h | h
        · omega
        · exact h
      have hkl : k < ps.length := by have := HN.out; omega
      have hq : Psm ps[k] := HPS.out _ (List.getElem_mem _)
      have HANY : Hid ((ps.take (k + 1)).any (fun o => !fitB p o) = (!fitB p ps[k])) := Lib.hid (by
        rw [List.take_succ_eq_append_getElem hkl, List.any_append, hst.out.1]; simp)
      have HTRUE : Hid ((!fitB p ps[k]) = true → r = true) := Lib.hid (fun h => by rw [HR.out]; exact List.any_eq_true.2 ⟨_, List.getElem_mem hkl, h⟩)
      have cl : ∀ j x, (pcells ps[k])[j]? = some x → j < 12 → wr.cell? ⟨G, k * 12 + j, none⟩ = some x := fun j x hx hj => by
        have h1 := World.ownsRow.cells HROW.out rfl (k * 12 + j) x (by rw [prow_at ps k j hkl hj]; exact hx)
        have h2 : (⟨G, 0, none⟩ : Addr).add (k * 12 + j) = ⟨G, k * 12 + j, none⟩ := by unfold Addr.add; split <;> simp_all
        have h3 : w.cell? ⟨G, k * 12 + j, none⟩ = some x := by rw [← h2]; exact h1
        exact (hst.out.2.cell (p := ⟨G, k * 12 + j, none⟩) (World.ownsRow.lt HROW.out G rfl).2).trans h3
      have C : Hid (∀ V, Below w.heap.size w V → Calls Try.prog 33 #[pv ps[k], .pointer (some ⟨P, 0, none⟩)] V fun e w' => e = .returned (.bool (!fitB p ps[k])) ∧ Below V.heap.size V w') := Lib.hid (fun V hV => nofit_any hp hq P V ((hV.block _ (heap_lt HPP.out)).trans HPP.out))
      obtain ⟨q, hqe⟩ : ∃ q, q = ps[k] := ⟨_, rfl⟩
      rw [← hqe] at C HANY HTRUE cl
      obtain ⟨t, ht⟩ : ∃ t, t = (!fitB p q) := ⟨_, rfl⟩
      have C2 := C
      have HT := Lib.hid ht
      clear hqe hq
      obtain ⟨⟨b0, b1, b2, b3, b4, b5, b6, b7, b8, b9⟩, sb⟩ := q
      unfold pcells at cl
      have hpv : pv ⟨⟨b0, b1, b2, b3, b4, b5, b6, b7, b8, b9⟩, sb⟩ = .agg #[.int .i64 b0, .int .i64 b1, .int .i64 b2, .int .i64 b3, .int .i64 b4, .bool b5, .bool b6, .string (bs b7), .string (bs b8), .string (bs b9), .int .i64 (8 * b2), .string (bs sb)] := rfl
      rw [hpv] at C2
      clear hpv
      simp only at cl
      obtain ⟨fb, hfb⟩ : ∃ x, x = 8 * b2 := ⟨_, rfl⟩
      rw [← hfb] at cl C2
      have l0 := cl 0 (.int .i64 b0) rfl (by decide)
      have l1 := cl 1 (.int .i64 b1) rfl (by decide)
      have l2 := cl 2 (.int .i64 b2) rfl (by decide)
      have l3 := cl 3 (.int .i64 b3) rfl (by decide)
      have l4 := cl 4 (.int .i64 b4) rfl (by decide)
      have l5 := cl 5 (.bool b5) rfl (by decide)
      have l6 := cl 6 (.bool b6) rfl (by decide)
      have l7 := cl 7 (.string (bs b7)) rfl (by decide)
      have l8 := cl 8 (.string (bs b8)) rfl (by decide)
      have l9 := cl 9 (.string (bs b9)) rfl (by decide)
      have l10 := cl 10 (.int .i64 fb) rfl (by decide)
      have l11 := cl 11 (.string (bs sb)) rfl (by decide)
      rw [Nat.add_zero] at l0
      rw [← ht] at C2
      clear cl C hfb hkl ht
      cases t with
      | true =>
        go_wp2_with (go_at_call 33; (with_reducible refine (C2.out _ hst.out.2).mono ?_); rintro e w1 ⟨rfl, hb1⟩)
        go_ret
        exact ⟨_, rfl, by rw [HTRUE.out HT.out.symm, decide_eq_true (by omega)], hst.out.2.trans (hb1.mono hst.out.2.size)⟩
      | false =>
        go_wp2_with (go_at_call 33; (with_reducible refine (C2.out _ hst.out.2).mono ?_); rintro e w1 ⟨rfl, hb1⟩)
        exact ⟨⟨k + 1, by omega, by go_num, by rw [HANY.out, HT.out], hst.out.2.trans (hb1.mono hst.out.2.size)⟩, by simp [intOf] <;> omega⟩
    · obtain rfl : k = n := by omega
      have HF : Hid (r = false) := Lib.hid (by
        have h1 := hst.out.1
        rw [List.take_of_length_le (by have := HN.out; omega)] at h1
        rw [HR.out]; exact h1)
      go_wp2_with (fail)
      go_ret
      exact ⟨_, rfl, by rw [HF.out]; rfl, hst.out.2⟩
set_option maxHeartbeats 1000000 in
theorem hasF_any (p : Pc) (hp : Psm p) (P : Nat) (v : Value) (ps : List Pc) (w : World) (hrow : PRow 0 v ps w) (hps : ∀ q ∈ ps, Psm q) (hlen : ps.length ≤ 1000000) (hP : w.heap[P]? = some (.cells (pcells p).toArray 74 (0, 0))) :
    Calls Try.prog 31 #[v, .func (.func 33) #[] #[.pointer (some ⟨P, 0, none⟩)]] w fun e w' => e = .returned (.bool (ps.any (fun o => !fitB p o))) ∧ Below w.heap.size w w' := by
  have C := Lib.hid (idxF_any p hp P v ps w hrow hps hlen hP)
  obtain ⟨r, hr⟩ : ∃ r, r = ps.any (fun o => !fitB p o) := ⟨_, rfl⟩
  rw [← hr] at C ⊢
  clear hr hrow hps hlen hp hP
  go_enter Try.func31, Try.ntmps31
  go_wp2_with (go_at_call 63; (with_reducible refine C.out.mono ?_); rintro e w1 ⟨z, rfl, hz, hb1⟩; have HZ := Lib.hid hz; clear hz)
  go_ret
  refine ⟨?_, hb1⟩
  rw [← HZ.out]
  rfl
end Go.Proofs.Ythdkbocokefdhaa
