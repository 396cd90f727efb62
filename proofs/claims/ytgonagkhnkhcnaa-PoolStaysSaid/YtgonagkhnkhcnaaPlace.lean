import Derived.Test.YtgonagkhnkhcnaaPlaceA
/- sort.Search, (*Ring).Place, Find, Len. -/
namespace Go.Proofs.Ytgonagkhnkhcnaa
set_option maxRecDepth 100000
open Go.RowKit
set_option maxRecDepth 100000 in
set_option maxHeartbeats 400000 in
theorem search_any (B R b1 b2 n : Nat) (v : Value) (ps : List (Nat × Nat)) (w : World) (h1 : w.cell? ⟨b1, 0, none⟩ = some (.pointer (some ⟨R, 0, none⟩))) (h2 : w.cell? ⟨b2, 0, none⟩ = some (.int .u64 n)) (hr : RingAt B R v ps w) (hs : ps.Pairwise ptle) (hl : ps.length ≤ 1000000) :
    Calls Try.prog 60 #[.int .i64 ps.length, .func (.func 61) #[] #[.pointer (some ⟨b1, 0, none⟩), .pointer (some ⟨b2, 0, none⟩)]] w fun e w' => e = .returned (.int .i64 (lb ps n)) ∧ Below w.heap.size w w' := by
  have HF : Hid (∀ W, Below w.heap.size w W → ∀ i (hi : i < ps.length), Calls Try.prog 61 #[.int .i64 i, .pointer (some ⟨b1, 0, none⟩), .pointer (some ⟨b2, 0, none⟩)] W fun e w' => e = .returned (.bool (decide (n ≤ ps[i].1))) ∧ Below w.heap.size w w') := fun W hW i hi => by
    have q1 := (hW.cell (World.block_lt_of_cell? w _ h1)).trans h1
    have q2 := (hW.cell (World.block_lt_of_cell? w _ h2)).trans h2
    refine (at_any B R b1 b2 n i v ps W q1 q2 (hr.below hW) hi).mono ?_
    rintro e w' ⟨rfl, hb⟩
    exact ⟨rfl, hW.trans (hb.mono hW.size)⟩
  have HS := Lib.hid hs
  clear h1 h2 hr hs
  go_enter Try.func60, Try.ntmps60
  go_wp2_with (fail)
  go_loopw [5, 6] (fun s5 s6 wr => ∃ lo hi : Nat, s5 = .int .i64 lo ∧ s6 = .int .i64 hi ∧ lo ≤ hi ∧ hi ≤ ps.length ∧ Below w.heap.size w wr ∧ Hid ((∀ t (h : t < ps.length), t < lo → ps[t].1 < n) ∧ (∀ t (h : t < ps.length), hi ≤ t → n ≤ ps[t].1))) (fun s5 s6 _ => ((intOf s6) - (intOf s5)).toNat)
  case atStart => exact ⟨0, ps.length, rfl, rfl, by omega, by omega, Below.refl _ _, fun t h h0 => by omega, fun t h h0 => by omega⟩
  case round =>
    obtain ⟨lo, hi, rfl, rfl, hlh, hin, hb, I⟩ := hrel
    by_cases hlt : lo < hi
    · obtain ⟨m, hm⟩ : ∃ m, m = (lo + hi) / 2 := ⟨_, rfl⟩
      have hmi : m < ps.length := by omega
      have hml : lo ≤ m := by omega
      have hmh : m < hi := by omega
      have C := HF.out wr hb m hmi
      have em : ((lo : Int) + (hi : Int)) / 2 = (m : Int) := by omega
      cases hp : decide (n ≤ ps[m].1) with
      | true =>
        rw [hp] at C
        have hp' := of_decide_eq_true hp
        have I2 : Hid ((∀ t (h : t < ps.length), t < lo → ps[t].1 < n) ∧ (∀ t (h : t < ps.length), m ≤ t → n ≤ ps[t].1)) := ⟨I.out.1, fun t h h0 => Nat.le_trans hp' (sorted_le HS.out h0 h)⟩
        clear hp hp' hm
        go_wp2_with (go_at_call 61; refine C.mono ?_; rintro e w1 ⟨rfl, hb1⟩)
        exact ⟨⟨lo, m, rfl, rfl, by omega, by omega, hb1, I2⟩, by simp [intOf]; omega⟩
      | false =>
        rw [hp] at C
        have hp' : ps[m].1 < n := by have := of_decide_eq_false hp; omega
        have I2 : Hid ((∀ t (h : t < ps.length), t < m + 1 → ps[t].1 < n) ∧ (∀ t (h : t < ps.length), hi ≤ t → n ≤ ps[t].1)) := ⟨fun t h h0 => Nat.lt_of_le_of_lt (sorted_le HS.out (by omega) hmi) hp', I.out.2⟩
        clear hp hp' hm
        go_wp2_with (go_at_call 61; refine C.mono ?_; rintro e w1 ⟨rfl, hb1⟩)
        exact ⟨⟨m + 1, hi, by go_num, rfl, by omega, by omega, hb1, I2⟩, by simp [intOf]; omega⟩
    · obtain rfl : hi = lo := by omega
      have e1 : Hid (lb ps n = hi) := lb_split ps n hi hin I.out.1 I.out.2
      go_wp2_with (fail)
      go_ret
      refine ⟨?_, hb⟩
      rw [e1.out]; simp
set_option maxRecDepth 100000 in
set_option maxHeartbeats 1000000 in
theorem place_any (B R n : Nat) (v : Value) (ps : List (Nat × Nat)) (w : World) (hr : RingAt B R v ps w) (hs : ps.Pairwise ptle) (hl : ps.length ≤ 1000000) :
    Calls Try.prog 41 #[.pointer (some ⟨R, 0, none⟩), .int .u64 n] w fun e w' => e = .returned (.int .i64 (lb ps n)) ∧ Below w.heap.size w w' := by
  obtain ⟨w2, hw2⟩ : ∃ w2, w2 = (w.alloc (.cells #[.pointer (some ⟨R, 0, none⟩)] 62)).alloc (.cells #[.int .u64 n] 40) := ⟨_, rfl⟩
  have hb1 : Below w.heap.size w (w.alloc (.cells #[.pointer (some ⟨R, 0, none⟩)] 62)) := (Below.refl _ w).alloc (Nat.le_refl _) _
  have hb2 : Below w.heap.size w w2 := by rw [hw2]; exact hb1.alloc hb1.size _
  have b0 : w2.heap[w.heap.size]? = some (.cells #[.pointer (some ⟨R, 0, none⟩)] 62 (0, 0)) := by
    rw [hw2, Below.heap_alloc _ _ _ (by rw [World.size_alloc]; omega)]; exact alloc_new _ _
  have b1 : w2.heap[w.heap.size + 1]? = some (.cells #[.int .u64 n] 40 (0, 0)) := by
    rw [hw2, show w.heap.size + 1 = (w.alloc (.cells #[.pointer (some ⟨R, 0, none⟩)] 62)).heap.size from (World.size_alloc _ _).symm]; exact alloc_new _ _
  have k0 : w2.cell? ⟨w.heap.size, 0, none⟩ = some (.pointer (some ⟨R, 0, none⟩)) := by rw [Lib.cell_of_heap b0]; rfl
  have k1 : w2.cell? ⟨w.heap.size + 1, 0, none⟩ = some (.int .u64 n) := by rw [Lib.cell_of_heap b1]; rfl
  have hr2 := hr.below hb2
  have C := Lib.hid (search_any B R w.heap.size (w.heap.size + 1) n v ps w2 k0 k1 hr2 hs hl)
  obtain ⟨a, c, rfl⟩ := hr.row.val
  have h3 := hr2.cR
  have HB := Lib.hid hb2
  have HW := Lib.hid hw2
  obtain ⟨len, hlen⟩ : ∃ len, len = ps.length := ⟨_, rfl⟩
  obtain ⟨r, hr9⟩ : ∃ r, r = lb ps n := ⟨_, rfl⟩
  rw [← hlen] at h3 C
  rw [← hr9] at C ⊢
  clear hr hs hl hb1 hb2 b0 b1 k1 hr2 hlen hr9 HW
  subst hw2
  go_enter Try.func41, Try.ntmps41
  go_wp2_with (go_at_call 60; refine C.out.mono ?_; rintro e w3 ⟨rfl, hb3⟩)
  go_ret
  exact ⟨rfl, HB.out.trans (hb3.mono HB.out.size)⟩
def own (ps : List (Nat × Nat)) (n : Nat) : Nat := if h : lb ps n % ps.length < ps.length then ps[lb ps n % ps.length].2 else 0
set_option maxRecDepth 100000 in
set_option maxHeartbeats 1000000 in
theorem find_none (B R n : Nat) (v : Value) (w : World) (hr : RingAt B R v [] w) :
    Calls Try.prog 29 #[.pointer (some ⟨R, 0, none⟩), .int .u64 n] w fun e w' => e = .returned (.tuple #[.int .i64 0, .bool false]) ∧ Below w.heap.size w w' := by
  obtain ⟨a, c, rfl⟩ := hr.row.val
  have h3 : w.cell? ⟨R, 0, none⟩ = some (.slice a 0 c) := hr.cR
  clear hr
  go_enter Try.func29, Try.ntmps29
  go_wp2_with (fail)
  go_ret2
  exact ⟨rfl, Below.refl _ _⟩
set_option maxRecDepth 100000 in
set_option maxHeartbeats 4000000 in
theorem find_some (B R n : Nat) (v : Value) (ps : List (Nat × Nat)) (w : World) (hr : RingAt B R v ps w) (hs : ps.Pairwise ptle) (hl : ps.length ≤ 1000000) (h0 : 0 < ps.length) :
    Calls Try.prog 29 #[.pointer (some ⟨R, 0, none⟩), .int .u64 n] w fun e w' => e = .returned (.tuple #[.int .i64 (own ps n), .bool true]) ∧ Below w.heap.size w w' := by
  have C := Lib.hid (fun W hW => place_any B R n v ps W (hr.below hW) hs hl)
  obtain ⟨g, c, rfl, hc⟩ := hr.row.shape h0
  have h3 := hr.cR
  obtain ⟨k, hk⟩ : ∃ k, k = lb ps n % ps.length := ⟨_, rfl⟩
  have hkl : k < ps.length := by rw [hk]; exact Nat.mod_lt _ h0
  have h4 := (hc k hkl).2
  have ho : Hid (own ps n = ps[k].2) := show own ps n = ps[k].2 by
    unfold own
    rw [dif_pos (by rw [← hk]; exact hkl)]
    simp only [hk]
  obtain ⟨r, hr9⟩ : ∃ r, r = ps[k].2 := ⟨_, rfl⟩
  rw [← hr9] at h4 ho
  obtain ⟨l, hl9⟩ : ∃ l, l = lb ps n := ⟨_, rfl⟩
  rw [← hl9] at C hk
  obtain ⟨len, hlen⟩ : ∃ len, len = ps.length := ⟨_, rfl⟩
  rw [← hlen] at h3 hk hkl h0
  have H4 := Lib.hid h4
  have H3 := Lib.hid h3
  rw [ho.out]
  have hrem : (l : Int).tmod (len : Int) = (k : Int) := by rw [hk]; exact (Int.ofNat_tmod l len).symm
  have hz : ((len : Int) == 0) = false := by rw [beq_eq_false_iff_ne]; omega
  have hkl' : (k : Int) < (len : Int) := by omega
  have hlz : ¬ len = 0 := by omega
  clear hr hc hs hl hr9 hl9 hlen hk h4 h0
  go_enter Try.func29, Try.ntmps29
  go_wp2_with (fail)
  have hR2 : Hid (∀ W, Below w.heap.size w W → W.cell? ⟨R, 0, none⟩ = some (.slice (some ⟨g, 0, none⟩) len c) ∧ W.cell? ⟨g, k * 2 + 1, none⟩ = some (.int .i64 r)) := fun W hW => ⟨(hW.cell (World.block_lt_of_cell? w _ H3.out)).trans H3.out, (hW.cell (World.block_lt_of_cell? w _ H4.out)).trans H4.out⟩
  go_region_law (go_simp; go_at_call 41; (with_reducible refine (C.out _ (Below.drew (Below.refl _ w))).mono ?_); rintro e w1 ⟨rfl, hb1⟩; obtain ⟨f1, f2⟩ := hR2.out w1 (Below.trans (Below.drew (Below.refl w.heap.size w)) hb1))
  all_goals (have hb2 := (Below.drew (Below.refl w.heap.size w)).trans hb1)
  all_goals (go_wp2; go_ret2; exact ⟨rfl, by first | exact hb2 | exact hb2.drew⟩)

end Go.Proofs.Ytgonagkhnkhcnaa
