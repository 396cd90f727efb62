import Derived.Test.YtmeemajlcnpkeaaMade
import Derived.Lib.SliceRun
/- The ring's points, cloned; the statements' awake. -/
namespace Go.Proofs.Ytmeemajlcnpkeaa
open Go.RowKit
theorem eql_nil (w : World) (a : Option Addr) (n c : Nat) : (binOp .eql 36 (.slice a n c) (.slice none 0 0)).run Try.prog w = .ok (.bool a.isNone) w := by
  exact Lib.run_eql_slice_nil w 36 49 a n c 0 0 Try.underlying36
set_option maxRecDepth 100000 in
set_option maxHeartbeats 2000000 in
theorem clone_nil (w : World) : Calls Try.prog 36 #[.slice none 0 0] w fun e w' => e = .returned (.slice none 0 0) ∧ w' = w := by
  have hq := eql_nil w none 0 0
  go_enter Try.func36, Try.ntmps36
  go_wp2_with (fail)
  go_ret
  exact ⟨rfl, rfl⟩
set_option maxRecDepth 100000 in
set_option maxHeartbeats 2000000 in
theorem clone_zero (g c : Nat) (w : World) : Calls Try.prog 36 #[.slice (some ⟨g, 0, none⟩) 0 c] w fun e w' => e = .returned (.slice (some ⟨w.heap.size, 0, none⟩) 0 0) ∧ w' = w.alloc (.cells #[] 49) := by
  have hq := eql_nil w (some ⟨g, 0, none⟩) 0 c
  go_enter Try.func36, Try.ntmps36
  go_wp2_with (fail)
  go_ret
  exact ⟨rfl, rfl⟩
set_option maxRecDepth 100000 in
set_option maxHeartbeats 2000000 in
theorem clone_some (B g c : Nat) (ps : List (Nat × Nat)) (w : World) (h : Row B (.slice (some ⟨g, 0, none⟩) ps.length c) ps w) (h0 : 0 < ps.length) (hl : ps.length ≤ 1000000) :
    Calls Try.prog 36 #[.slice (some ⟨g, 0, none⟩) ps.length c] w fun e w' => ∃ v', e = .returned v' ∧ Row w.heap.size v' ps w' ∧ Below w.heap.size w w' := by
  have HR := Lib.hid h
  obtain ⟨i0, hi, hz0, hz1, hz2⟩ := info49
  have HI := Lib.hid (And.intro hi (And.intro hz0 (And.intro hz1 hz2)))
  obtain ⟨n, hn⟩ : ∃ n, n = ps.length := ⟨_, rfl⟩
  have hown : Hid ((w.alloc (.cells #[] 49)).ownsRow w.heap.size 49 2 (.slice (some ⟨w.heap.size, 0, none⟩) 0 0) 0 []) :=
    show World.ownsRow _ _ _ _ _ _ _ from ⟨rfl, .inr ⟨w.heap.size, 0, #[], rfl, Nat.le_refl _, alloc_new _ _, Nat.le_refl _, by unfold maxLen; omega, rfl, rfl⟩⟩
  have hcell : Hid (∀ j u, (flat ps)[j]? = some u → (w.alloc (.cells #[] 49)).cell? ((⟨g, 0, none⟩ : Addr).add j) = some u) := fun j u hu => by
    have h1 := World.ownsRow.cells h rfl j u hu
    have hb : Below w.heap.size w (w.alloc (.cells #[] 49)) := (Below.refl _ w).alloc (Nat.le_refl _) _
    exact (hb.cell (World.block_lt_of_cell? w _ h1)).trans h1
  rw [← hn] at h0 hl ⊢
  have hN := Lib.hid hn
  have hq := eql_nil w (some ⟨g, 0, none⟩) n c
  clear h hi hz0 hz1 hz2 hn
  go_enter Try.func36, Try.ntmps36
  go_wp2_with (at_builtin; refine wpList_append_own_at _ rfl (.tmp 5) (.tmp 6) 36 rfl w.heap.size 49 i0 (.agg #[.int .u64 0, .int .i64 0]) 2 16 Try.underlying36 HI.out.1 HI.out.2.1 HI.out.2.2.1 HI.out.2.2.2 rfl (by decide) _ _ _ rfl hown.out ⟨g, 0, none⟩ n c (flat ps) rfl ?c0 hcell.out ?c1 ?c2 ?c3 ?c4 ?_; rotate_left 5; intro v' w3 hown' hgrow _ _)
  case c0 => rw [flat_len, hN.out]
  case c1 =>
    intro u hu
    unfold flat at hu
    rw [List.mem_flatMap] at hu
    obtain ⟨p, _, hp⟩ := hu
    unfold pcells at hp
    simp at hp
    rcases hp with rfl | rfl <;> rfl
  case c2 => unfold maxLen; omega
  case c3 => omega
  case c4 => rw [World.size_alloc]; omega
  go_ret
  refine ⟨v', rfl, ?_, ((Below.refl _ w).alloc (Nat.le_refl _) _).grown hgrow (by rw [World.size_alloc]; omega) (fun q hq => ?_)⟩
  · show w3.ownsRow w.heap.size 49 2 v' ps.length (flat ps)
    rw [← hN.out]; simpa using hown'
  · injection hq with hq; rw [← hq]; exact Nat.le_refl _
theorem clone_any (B : Nat) (v : Value) (ps : List (Nat × Nat)) (w : World) (h : Row B v ps w) (hl : ps.length ≤ 1000000) :
    Calls Try.prog 36 #[v] w fun e w' => ∃ v', e = .returned v' ∧ Row w.heap.size v' ps w' ∧ Below w.heap.size w w' := by
  rcases Nat.eq_zero_or_pos ps.length with h0 | h0
  · obtain rfl : ps = [] := List.eq_nil_of_length_eq_zero h0
    rcases h.2 with ⟨rfl, _⟩ | ⟨g, cap, cur, rfl, _⟩
    · refine (clone_nil w).mono ?_
      rintro e w' ⟨rfl, rfl⟩
      exact ⟨_, rfl, World.ownsRow_nil _ _ _ _, Below.refl _ _⟩
    · refine (clone_zero g cap w).mono ?_
      rintro e w' ⟨rfl, rfl⟩
      exact ⟨_, rfl, ⟨rfl, .inr ⟨w.heap.size, 0, #[], rfl, Nat.le_refl _, alloc_new _ _, Nat.le_refl _, by unfold maxLen; omega, rfl, rfl⟩⟩, (Below.refl _ w).alloc (Nat.le_refl _) _⟩
  · obtain ⟨g, c, rfl, _⟩ := h.shape h0
    exact clone_some B g c ps w h h0 hl
set_option maxRecDepth 100000 in
set_option maxHeartbeats 1000000 in
theorem rpts_any (B R : Nat) (v : Value) (ps : List (Nat × Nat)) (w : World) (hr : RingAt B R v ps w) (hl : ps.length ≤ 1000000) :
    Calls Try.prog 21 #[.pointer (some ⟨R, 0, none⟩)] w fun e w' => ∃ v', e = .returned v' ∧ Row w.heap.size v' ps w' ∧ Below w.heap.size w w' := by
  have C := Lib.hid (clone_any B v ps w hr.row hl)
  obtain ⟨a, c, rfl⟩ := hr.row.val
  have h3 := hr.cR
  obtain ⟨len, hlen⟩ : ∃ len, len = ps.length := ⟨_, rfl⟩
  rw [← hlen] at h3 C
  clear hr hlen
  go_enter Try.func21, Try.ntmps21
  go_wp2_with (go_at_call 36; refine C.out.mono ?_; rintro e w1 ⟨v', rfl, h1, h2⟩)
  go_ret
  exact ⟨v', rfl, h1, h2⟩
/-! ### awake -/
def bs0 : List Bk := [⟨7, ⟨#[97, 98, 99, 100]⟩, 4607182418800017408⟩]
theorem may_le {x : Nat} (h : x ≤ 4625196817309499392) : FM.may x = true := by unfold FM.may; rw [decide_eq_true h, Bool.or_true]
theorem may_one : FM.may 4607182418800017408 = true := may_le (by decide)
theorem bs0_ok : newE bs0 = 0 := by
  have h1 : bs0.all bk_ok = true := by
    unfold bs0
    rw [List.all_cons, List.all_nil, Bool.and_true]
    unfold bk_ok
    simp only
    rw [may_one]; decide
  have h2 : dn (ids bs0) = 1 := by
    have : ids bs0 = [] ++ [7] := rfl
    rw [this, dn_snoc]; rfl
  unfold newE
  rw [if_pos h1, h2]; rfl
theorem bs0_pts : gath bs0 1 = pts ⟨7, ⟨#[97, 98, 99, 100]⟩, 4607182418800017408⟩ := by
  rw [gath_succ bs0 0 (by decide), if_pos ⟨by simp [ids], by show dn [] < 64; rw [dn_nil]; omega⟩]
  exact List.nil_append _
theorem own_all (ps : List (Nat × Nat)) (n q : Nat) (h0 : 0 < ps.length) (h : ∀ p ∈ ps, p.2 = q) : own ps n = q := by
  unfold own
  rw [dif_pos (Nat.mod_lt _ h0)]
  exact h _ (List.getElem_mem _)
theorem bs0_in (w : World) : BkIn (w.alloc (.cells #[.int .i64 7, .string ⟨#[97, 98, 99, 100]⟩, .float .f64 4607182418800017408] 30)) (some ⟨w.heap.size, 0, none⟩) bs0 := by
  intro j hj
  obtain rfl : j = 0 := by simp [bs0] at hj; omega
  have b0 := alloc_new w (.cells #[.int .i64 7, .string ⟨#[97, 98, 99, 100]⟩, .float .f64 4607182418800017408] 30)
  exact ⟨_, rfl, by rw [show (⟨w.heap.size, 0, none⟩ : Addr).add (0 * 3) = ⟨w.heap.size, 0, none⟩ from rfl, Lib.cell_of_heap b0]; rfl, by
    show World.cell? _ ⟨w.heap.size, 1, none⟩ = _
    rw [Lib.cell_of_heap b0]; rfl, by
    show World.cell? _ ⟨w.heap.size, 2, none⟩ = _
    rw [Lib.cell_of_heap b0]; rfl⟩
theorem bs0_good : BkOk bs0 := by
  intro b hb
  simp [bs0] at hb
  subst hb
  exact ⟨by show 4607182418800017408 < W64; unfold W64; omega, by unfold maxLen; decide, by decide⟩
theorem bs0_find (ps : List (Nat × Nat)) (h : ps.Perm (gath bs0 bs0.length)) : ps.length = 16 ∧ ∀ n, own ps n = 7 := by
  have e : gath bs0 bs0.length = pts ⟨7, ⟨#[97, 98, 99, 100]⟩, 4607182418800017408⟩ := bs0_pts
  rw [e] at h
  have hl : ps.length = 16 := by rw [h.length_eq, pts_len]; exact points_one
  refine ⟨hl, fun n => own_all ps n 7 (by omega) (fun p hp => ?_)⟩
  have := h.mem_iff.1 hp
  unfold pts at this
  obtain ⟨k, _, rfl⟩ := List.mem_map.1 this
  rfl
set_option maxRecDepth 100000 in
set_option maxHeartbeats 1000000 in
theorem awake_any (w : World) : Calls Try.prog 8 #[] w fun e w' => e = .returned (.bool true) ∧ Below w.heap.size w w' := by
  have N := Lib.hid (newA bs0 (some ⟨w.heap.size, 0, none⟩) 1 _ (by decide) (bs0_in w) bs0_good)
  have HB : Hid (Below w.heap.size w (w.alloc (.cells #[.int .i64 7, .string ⟨#[97, 98, 99, 100]⟩, .float .f64 4607182418800017408] 30))) := (Below.refl _ w).alloc (Nat.le_refl _) _
  have hlen : bs0.length = 1 := rfl
  rw [hlen] at N
  clear hlen
  have FF : Hid (∀ R v ps w1, RingAt (w.alloc (.cells #[.int .i64 7, .string ⟨#[97, 98, 99, 100]⟩, .float .f64 4607182418800017408] 30)).heap.size R v ps w1 → ps.Perm (gath bs0 bs0.length) → ps.Pairwise ptle → Hid (Calls Try.prog 15 #[.pointer (some ⟨R, 0, none⟩), .int .u64 5] w1 fun e w' => e = .returned (.tuple #[.int .i64 7, .bool true]) ∧ Below w1.heap.size w1 w') ∧ Hid (∀ w2, Below w1.heap.size w1 w2 → Calls Try.prog 17 #[.pointer (some ⟨R, 0, none⟩)] w2 fun e w' => e = .returned (.int .i64 16) ∧ w' = w2)) := fun R v ps w1 h1 h2 h3 => by
    obtain ⟨p1, p2⟩ := bs0_find ps h2
    refine ⟨?_, fun w2 hb => ?_⟩
    · have h := find_some _ R 5 v ps w1 h1 h3 (by omega) (by omega)
      rw [p2] at h; exact h
    · have h := len_any _ R v ps w2 (h1.below hb)
      rw [p1] at h; exact h
  go_enter Try.func8, Try.ntmps8
  go_wp2_with (first | (go_at_call 12; refine N.out.mono ?_; rintro e w1 ⟨hb, _, h0⟩; obtain ⟨R, v, ps, rfl, h1, h2, h3⟩ := h0 bs0_ok; obtain ⟨F1, F2⟩ := FF.out R v ps w1 h1 h2 h3) | (go_at_call 15; refine F1.out.mono ?_; rintro e w2 ⟨rfl, hb2⟩; have F3 := F2.out w2 hb2) | (go_at_call 17; refine F3.mono ?_; rintro e w3 ⟨rfl, rfl⟩))
  go_ret
  exact ⟨rfl, (HB.out.trans (hb.mono HB.out.size)).trans (hb2.mono (Nat.le_trans HB.out.size hb.size))⟩
end Go.Proofs.Ytmeemajlcnpkeaa
