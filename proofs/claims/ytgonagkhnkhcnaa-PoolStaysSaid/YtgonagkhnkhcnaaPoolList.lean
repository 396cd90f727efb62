import Derived.Test.YtgonagkhnkhcnaaPoolMap
/- (*Pool).List. -/
namespace Go.Proofs.Ytgonagkhnkhcnaa
set_option maxRecDepth 100000
open Go.RowKit
def risen (L : List Bk) : Prop := L.Pairwise (fun x y => x.id < y.id)
theorem risen_one : ∀ {xs ys : List Bk}, xs.Perm ys → xs.Pairwise (fun x y => x.id ≤ y.id) → risen ys → xs = ys := by
  intro xs
  induction xs with
  | nil => intro ys h _ _; exact (List.Perm.nil_eq h)
  | cons x t ih =>
    intro ys h hx hy
    cases ys with
    | nil => exact absurd h.length_eq (by simp)
    | cons y u =>
      rw [List.pairwise_cons] at hx
      have hy' := List.pairwise_cons.1 hy
      have e : x = y := by
        have m1 : x ∈ y :: u := h.mem_iff.1 (List.mem_cons_self ..)
        have m2 : y ∈ x :: t := h.mem_iff.2 (List.mem_cons_self ..)
        rcases List.mem_cons.1 m1 with rfl | m1
        · rfl
        · rcases List.mem_cons.1 m2 with rfl | m2
          · rfl
          · have h1 := hx.1 y m2
            have h2 := hy'.1 x m1
            omega
      subst e
      rw [ih (List.Perm.cons_inv h) hx.2 hy'.2]
theorem brow_append {B : Nat} {acc : List Bk} {b : Bk} {w1 : World} {v' : Value} (h : w1.ownsRow B 32 3 v' (acc.length + 1) (bflat acc ++ bcells b)) : BRow B v' (acc ++ [b]) w1 := by
  show w1.ownsRow B 32 3 v' (acc ++ [b]).length (bflat (acc ++ [b]))
  rw [List.length_append, bflat_app]
  exact h
theorem one_cells (w : World) (b : Bk) (t : TypeId) : ∀ (j : Nat) (u : Value), (bcells b)[j]? = some u → (w.alloc (.cells #[.int .i64 b.id, .string b.addr, .float .f64 b.wt] t)).cell? ((⟨w.heap.size, 0, none⟩ : Addr).add j) = some u := by
  intro j u hu
  have e : (⟨w.heap.size, 0, none⟩ : Addr).add j = ⟨w.heap.size, j, none⟩ := by unfold Addr.add; split <;> simp_all
  rw [e, Lib.cell_of_heap (alloc_new _ _)]
  unfold bcells at hu
  match j, hu with
  | 0, hu => exact hu
  | 1, hu => exact hu
  | 2, hu => exact hu
  | j + 3, hu => simp at hu
theorem one_bcell (b : Bk) : ∀ u ∈ bcells b, u.oneCell' = true := by
  intro u hu
  unfold bcells at hu
  simp at hu
  rcases hu with rfl | rfl | rfl <;> rfl
theorem Rg.below {M r : Nat} {L acc : List Bk} {cnt : Nat} {w w' : World} (h : Rg M r L acc cnt w) (hb : Below w.heap.size w w') : Rg M r L acc cnt w' := by
  obtain ⟨h1, h2, h3⟩ := h.ne
  obtain ⟨D, left, ⟨es, clock, since, seen, c0, f1, f2, f3, f4, f5, f6⟩, h4⟩ := h
  exact ⟨D, left, ⟨es, clock, since, seen, c0, by rw [hb.block M h3]; exact f1, f2, f3, f4, by rw [hb.block r h2]; exact f5, f6⟩, h4⟩
theorem BRow.mono {B B' : Nat} {v : Value} {bs : List Bk} {w : World} (h : BRow B' v bs w) (hB : B ≤ B') : BRow B v bs w := by
  obtain ⟨h1, h2⟩ := h
  refine ⟨h1, ?_⟩
  rcases h2 with h2 | ⟨g, cap, cur, e1, e2, e3⟩
  · exact .inl h2
  · exact .inr ⟨g, cap, cur, e1, Nat.le_trans hB e2, e3⟩
theorem keepGoal {p : Prop} (h : p ∧ True) : p := h.1
set_option maxHeartbeats 4000000 in
theorem list_any (P M : Nat) (L : List Bk) (w : World) (hc : w.cell? ⟨P, 0, none⟩ = some (.map (some M))) (h : PM M L w) (hl : L.length ≤ 1000) (hs : risen L) :
    Calls Try.prog 14 #[.pointer (some ⟨P, 0, none⟩)] w fun e w' => ∃ v, e = .returned v ∧ BRow w.heap.size v L w' ∧ Below w.heap.size w w' := by
  have HP := Lib.hid h
  have HS := Lib.hid hs
  have HL := Lib.hid hl
  obtain ⟨i0, hi, hz0, hz1, hz2⟩ := info30
  have HI := Lib.hid (And.intro hi (And.intro hz0 (And.intro hz1 hz2)))
  obtain ⟨r, hr⟩ : ∃ r, r = w.heap.size := ⟨_, rfl⟩
  have HR := Lib.hid hr
  have HM : Hid (M < r) := show M < r by rw [hr]; exact h.lt
  have hsf := fun (b : Nat) (W : World) (c : Addr) (m : Mode) => store_float W c b m
  clear h hs hl hi hz0 hz1 hz2 hr
  go_enter Try.func14, Try.ntmps14
  go_wp2_with (at_range; refine wpList_range_pool _ rfl _ rfl M L rfl HP.out ?_; intro w0 hrg0 hg0 hs0; rw [← HR.out] at hrg0 ⊢)
  have hb0 : Below r w w0 := by rw [HR.out]; exact (Below.refl _ w).grown hg0 (Nat.le_refl _) (fun _ h => by cases h)
  have hz0 : w0.heap.size = r + 1 := by rw [hs0, HR.out]
  have HZ0 := Lib.hid hz0
  have hrow0 : Hid (BRow (r + 1) (.slice none 0 0) [] w0) := World.ownsRow_nil _ _ _ _
  have HRG0 := Lib.hid hrg0
  clear hrg0 hg0 hs0 hz0 hc
  go_frame
  go_loopw [3] (fun v wr => ∃ (acc : List Bk) (cnt : Nat), Hid (Rg M r L acc cnt wr) ∧ Hid (BRow (r + 1) v acc wr) ∧ Hid (acc.length + cnt ≤ L.length) ∧ Below r w wr ∧ Hid (r + 1 ≤ wr.heap.size)) (fun _ wr => wr.rangeLeft M r)
  case atStart => exact ⟨[], L.length, HRG0, hrow0, (show 0 + L.length ≤ L.length by omega), hb0, (show r + 1 ≤ w0.heap.size by rw [HZ0.out]; omega)⟩
  case round =>
    obtain ⟨acc, cnt, hrg, hrow, hcnt, hb, hsz⟩ := hrel
    go_wp2_with (at_next; refine wpList_next_pool _ rfl _ rfl M r L acc cnt rfl hrg.out ?d ?m)
    case d =>
      intro h0 hp
      have HP2 := Lib.hid hp
      clear h0 hp
      rcases hrow.out.2 with ⟨rfl, _⟩ | ⟨g, cap, cur, rfl, hg2, hg3, hg4⟩
      · have hacc : acc = [] := List.eq_nil_of_length_eq_zero (by
          have h1 := hrow.out.1
          rcases Nat.eq_zero_or_pos acc.length with h | h
          · exact h
          · exfalso
            obtain ⟨g, c, e, _⟩ := World.ownsRow.form hrow.out h
            cases e)
        have hL : L = [] := by have := HP2.out; rw [hacc] at this; exact (List.Perm.nil_eq this).symm
        have SN := Lib.hid (fun W => bsort_none W)
        have HLL := Lib.hid hL
        clear hacc hL
        go_wp2_with (go_at_call 23; refine (SN.out _).mono ?_; rintro e w2 ⟨rfl, hb2⟩)
        go_ret
        exact ⟨_, rfl, by rw [HLL.out]; exact World.ownsRow_nil _ _ _ _, by rw [← HR.out]; exact hb.trans (hb2.mono (by have := hsz.out; omega))⟩
      · have SA := Lib.hid (bsort_any (r + 1) g cap acc wr hrow.out (by have := hcnt.out; have := HL.out; omega))
        have HG := Lib.hid hg2
        clear hg2 hg3 hg4
        go_wp2_with (go_at_call 23; refine SA.out.mono ?_; rintro e w2 ⟨rfl, ⟨bs', q1, q2, q3⟩, hb2, _⟩)
        go_ret
        obtain rfl : bs' = L := risen_one (q1.trans HP2.out) q2 HS.out
        exact ⟨_, rfl, by rw [← HR.out]; exact q3.mono (by omega), by rw [← HR.out]; exact hb.trans (hb2.mono (by have := HG.out; omega))⟩
    case m =>
      intro i s f w1 cnt1 hrg1 hlt1 hg1 hs1 hm1 hen1
      have HRG1 := Lib.hid hrg1
      have HLT1 := Lib.hid hlt1
      have hown0 : ∀ q, u3.ownBlock = some q → r + 1 ≤ q := fun q hq => (World.ownsRow.lt hrow.out q hq).1
      have HROW1 : Hid (BRow (r + 1) u3 acc w1) := World.ownsRow.kept hrow.out hg1 (by
        cases hu : u3.ownBlock with
        | none => exact .inl rfl
        | some q => exact .inr (fun e => by injection e with e; have := hown0 q hu; omega))
      have HB1 : Hid (Below r w w1) := show Below r w w1 from hb.grown hg1 (by have := hsz.out; omega) (fun q hq => by injection hq with hq; omega)
      have HSZ1 : Hid (r + 1 ≤ w1.heap.size) := show r + 1 ≤ w1.heap.size by rw [hs1]; exact hsz.out
      have HOWN0 := Lib.hid hown0
      have HCL : Hid (∀ j u, (bcells ⟨i, s, f⟩)[j]? = some u → ((w1.alloc (.cells #[.int .i64 i, .string s, .float .f64 f] 32)).alloc (.cells #[.int .i64 i, .string s, .float .f64 f] 32)).cell? ((⟨w1.heap.size + 1, 0, none⟩ : Addr).add j) = some u) := fun j u hu => by
        have h := one_cells (w1.alloc (.cells #[.int .i64 i, .string s, .float .f64 f] 32)) ⟨i, s, f⟩ 32 j u hu
        rw [World.size_alloc] at h
        exact h
      clear hrg1 hg1 hs1 hm1 hlt1 hown0 hb
      go_wp2_with (at_builtin; refine keepGoal ?_)
      refine ⟨?_, trivial⟩
      refine wpList_append_own_at _ rfl (.tmp 15) (.tmp 17) 38 rfl (r + 1) 32 i0 _ 3 32 Try.underlying38 HI.out.1 HI.out.2.1 HI.out.2.2.1 HI.out.2.2.2 rfl (by decide) _ _ _ rfl (World.ownsRow.alloc (World.ownsRow.alloc HROW1.out _) _) ⟨w1.heap.size + 1, 0, none⟩ 1 1 (bcells ⟨i, s, f⟩) rfl rfl HCL.out (one_bcell _) ?p1 ?p2 ?p3 ?_
      case p1 => have := hcnt.out; have := HL.out; unfold maxLen; omega
      case p2 => have := hcnt.out; have := HL.out; omega
      case p3 => have := HSZ1.out; simp; omega
      intro v' w3 hown' hgrow _ _
      have HOWN3 : Hid (BRow (r + 1) v' (acc ++ [⟨i, s, f⟩]) w3) := brow_append hown'
      have hbA : Below w1.heap.size w1 ((w1.alloc (.cells #[.int .i64 i, .string s, .float .f64 f] 32)).alloc (.cells #[.int .i64 i, .string s, .float .f64 f] 32)) := ((Below.refl _ w1).alloc (Nat.le_refl _) _).alloc (by rw [World.size_alloc]; omega) _
      have hrA := HRG1.out.below hbA
      have hownq : ∀ q, u3.ownBlock = some q → r + 1 ≤ q := HOWN0.out
      have HRG3 : Hid (Rg M r L (acc ++ [⟨i, s, f⟩]) cnt1 w3) := hrA.kept hgrow (fun e => by have := hownq M e.symm; have := HM.out; omega) (fun e => by have := hownq r e.symm; omega)
      have hbB : Below r w ((w1.alloc (.cells #[.int .i64 i, .string s, .float .f64 f] 32)).alloc (.cells #[.int .i64 i, .string s, .float .f64 f] 32)) := HB1.out.trans (hbA.mono (by have := HSZ1.out; omega))
      have HB3 := hbB.grown hgrow (by have := HSZ1.out; rw [World.size_alloc, World.size_alloc]; omega) (fun q hq => by have := hownq q hq; omega)
      have HSZ3 : Hid (r + 1 ≤ w3.heap.size) := show r + 1 ≤ w3.heap.size by
        have h1 := grown_size hgrow
        rw [World.size_alloc, World.size_alloc] at h1
        have := HSZ1.out
        omega
      have HC3 : Hid ((acc ++ [(⟨i, s, f⟩ : Bk)]).length + cnt1 ≤ L.length) := show (acc ++ [(⟨i, s, f⟩ : Bk)]).length + cnt1 ≤ L.length by
        rw [List.length_append]
        show acc.length + 1 + cnt1 ≤ L.length
        have := hcnt.out
        have := HLT1.out
        omega
      have HME : Hid (w3.rangeLeft M r < wr.rangeLeft M r) := show _ < _ by rw [HRG3.out.left_eq, hrg.out.left_eq]; exact HLT1.out
      clear hown' hgrow hbA hrA hownq hbB HRG1 HROW1 HCL
      go_wp2_with (fail)
      exact ⟨⟨acc ++ [⟨i, s, f⟩], cnt1, HRG3, HOWN3, HC3, HB3, HSZ3⟩, HME.out⟩
end Go.Proofs.Ytgonagkhnkhcnaa
