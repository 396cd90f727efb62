import Derived.Test.YtgonagkhnkhcnaaPoolTurn
import Derived.Laws.ResultCell
/- The pool: New, Get, Len, Find. -/
namespace Go.Proofs.Ytgonagkhnkhcnaa
set_option maxRecDepth 100000
open Go.RowKit
theorem find_any (B R n : Nat) (v : Value) (ps : List (Nat × Nat)) (w : World) (hr : RingAt B R v ps w) (hs : ps.Pairwise ptle) (hl : ps.length ≤ 1000000) :
    Calls Try.prog 29 #[.pointer (some ⟨R, 0, none⟩), .int .u64 n] w fun e w' => e = .returned (.tuple #[.int .i64 (fA ps n), .bool (fB ps)]) ∧ Below w.heap.size w w' := by
  unfold fA fB
  by_cases h0 : ps.length = 0
  · obtain rfl : ps = [] := List.eq_nil_of_length_eq_zero h0
    exact find_none B R n v w hr
  · rw [if_neg h0, decide_eq_true (Nat.pos_of_ne_zero h0)]
    exact find_some B R n v ps w hr hs hl (Nat.pos_of_ne_zero h0)
def zb : Bk := ⟨0, ⟨#[]⟩, 0⟩
/-- what Get tells -/
def got (L : List Bk) (i : Int) : Bk := (get L i).getD zb
theorem PoolAt.cells {B P M : Nat} {L : List Bk} {ps : List (Nat × Nat)} {w : World} (h : PoolAt B P M L ps w) : w.cell? ⟨P, 0, none⟩ = some (.map (some M)) := by
  obtain ⟨R, u, h1, h2⟩ := h.ring
  rw [Lib.cell_of_heap h1]; rfl
set_option maxHeartbeats 2000000 in
theorem get_any (B P M : Nat) (L : List Bk) (ps : List (Nat × Nat)) (i : Int) (w : World) (h : PoolAt B P M L ps w) (hi : (Lit.int .i64 i).wf = true) :
    Calls Try.prog 10 #[.pointer (some ⟨P, 0, none⟩), .int .i64 i] w fun e w' => e = .returned (.tuple #[bkv (got L i), .bool (get L i).isSome]) ∧ Below w.heap.size w w' := by
  have hc0 := h.cells
  have HPM := Lib.hid (fun W (hW : Below w.heap.size w W) => (h.pm.below hW).look i hi)
  have hsf := fun (b : Nat) (W : World) (c : Addr) (m : Mode) => store_float W c b m
  have hC : ∀ o, (w.alloc o).cell? ⟨P, 0, none⟩ = some (.map (some M)) := fun o => by
    have hb : Below w.heap.size w (w.alloc o) := (Below.refl _ w).alloc (Nat.le_refl _) _
    exact (hb.cell (World.block_lt_of_cell? w _ hc0)).trans hc0
  have hL : ∀ o, (Instr.lookup 50 (.map (some M)) (.int .i64 i) true).run Try.prog (w.alloc o) = .ok (.tuple #[bkv (got L i), .bool (get L i).isSome]) (w.alloc o) := fun o =>
    HPM.out _ ((Below.refl _ w).alloc (Nat.le_refl _) _)
  obtain ⟨⟨gi, gs, gf⟩, hg⟩ : ∃ b, b = got L i := ⟨_, rfl⟩
  obtain ⟨is, his⟩ : ∃ b, b = (get L i).isSome := ⟨_, rfl⟩
  rw [← hg, ← his] at hL ⊢
  unfold bkv at hL ⊢
  simp only at hL ⊢
  clear h hc0 hi HPM hg his
  go_enter Try.func10, Try.ntmps10
  go_wp2_with (fail)
  refine bodyPost_ret (v := .tuple #[.agg #[.int .i64 gi, .string gs, .float .f64 gf], .bool is]) ?_ rfl ⟨rfl, ((Below.refl _ w).alloc (Nat.le_refl _) _).alloc (by rw [World.size_alloc]; omega) _⟩
  rw [results_cell_tmp rfl]
  go_simp
theorem plen_any (B P M : Nat) (L : List Bk) (ps : List (Nat × Nat)) (w : World) (h : PoolAt B P M L ps w) :
    Calls Try.prog 17 #[.pointer (some ⟨P, 0, none⟩)] w fun e w' => e = .returned (.int .i64 L.length) ∧ w' = w := by
  have hc0 := h.cells
  have hL := h.pm.len 3
  obtain ⟨len, hln⟩ : ∃ n, n = L.length := ⟨_, rfl⟩
  rw [← hln] at hL ⊢
  clear h hln
  go_enter Try.func17, Try.ntmps17
  go_wp2
  go_ret
  exact ⟨rfl, rfl⟩
theorem gath_few {L : List Bk} {ps : List (Nat × Nat)} (hg : Good L) (hp : ps.Perm (allPts L)) : ps.length ≤ 1000000 := by
  have h1 := gath_len L L.length (Nat.le_refl _)
  rw [gath_all L hg.zero] at h1
  have h2 := hp.length_eq
  have h3 := hg.few
  omega
theorem fA_wf {L : List Bk} {ps : List (Nat × Nat)} (hg : Good L) (hp : ps.Perm (allPts L)) (n : Nat) : (Lit.int .i64 ((fA ps n : Nat) : Int)).wf = true := by
  have e1 : IntKind.i64.min = -9223372036854775808 := rfl
  have e2 : IntKind.i64.max = 9223372036854775807 := rfl
  simp only [Lit.wf, Bool.and_eq_true, decide_eq_true_eq]
  unfold fA
  by_cases h0 : ps.length = 0
  · rw [if_pos h0]; omega
  · rw [if_neg h0, own_eq ps n _ (Nat.mod_lt _ (Nat.pos_of_ne_zero h0)) rfl]
    obtain ⟨i, hi⟩ : ∃ i, i = lb ps n % ps.length := ⟨_, rfl⟩
    have hm := hp.mem_iff.1 (List.getElem_mem (Nat.mod_lt (lb ps n) (Nat.pos_of_ne_zero h0)))
    unfold allPts at hm
    rw [List.mem_flatMap] at hm
    obtain ⟨b, hb, hm⟩ := hm
    rw [pts_id hm]
    have h1 := ok_id hg.ok hb
    have h2 := ok_wf (List.all_eq_true.1 hg.ok b hb)
    have h3 := h2.2
    simp only [Lit.wf, Bool.and_eq_true, decide_eq_true_eq] at h3
    omega
set_option maxHeartbeats 2000000 in
theorem pfind_any (B P M n : Nat) (L : List Bk) (ps : List (Nat × Nat)) (w : World) (h : PoolAt B P M L ps w) :
    Calls Try.prog 12 #[.pointer (some ⟨P, 0, none⟩), .int .u64 n] w fun e w' => e = .returned (.tuple #[bkv (got L (fA ps n)), .bool (get L (fA ps n)).isSome]) ∧ Below w.heap.size w w' := by
  obtain ⟨R, u, h1, h2⟩ := h.ring
  have FA := Lib.hid (fun W (hW : Below w.heap.size w W) => find_any B R n u ps W (h2.below hW) h.sorted (gath_few h.good h.perm))
  have G := Lib.hid (fun W (hW : Below w.heap.size w W) => get_any B P M L ps (fA ps n) W (h.below hW) (fA_wf h.good h.perm n))
  have hC : ∀ o, (w.alloc o).cell? ⟨P, 1, none⟩ = some (fnv R) := fun o => by
    have hb : Below w.heap.size w (w.alloc o) := (Below.refl _ w).alloc (Nat.le_refl _) _
    have h3 : (w.alloc o).heap[P]? = some (.cells #[.map (some M), fnv R] 53 (0, 0)) := by rw [hb.block P (heap_lt h1)]; exact h1
    rw [Lib.cell_of_heap h3]; rfl
  unfold fnv at hC
  have hsf := fun (b : Nat) (W : World) (c : Addr) (m : Mode) => store_float W c b m
  obtain ⟨x, hx⟩ : ∃ x, x = fA ps n := ⟨_, rfl⟩
  rw [← hx] at FA G ⊢
  obtain ⟨⟨gi, gs, gf⟩, hg⟩ : ∃ b, b = got L (x : Int) := ⟨_, rfl⟩
  obtain ⟨is, his⟩ : ∃ b, b = (get L (x : Int)).isSome := ⟨_, rfl⟩
  obtain ⟨y, hy⟩ : ∃ y, y = fB ps := ⟨_, rfl⟩
  rw [← hg, ← his] at G ⊢
  rw [← hy] at FA
  unfold bkv at G ⊢
  simp only at G ⊢
  have hb0 : Below w.heap.size w (w.alloc (.cells #[.int .i64 0, .string ⟨#[]⟩, .float .f64 0] 32)) := (Below.refl _ w).alloc (Nat.le_refl _) _
  have hn0 := alloc_new w (.cells #[.int .i64 0, .string ⟨#[]⟩, .float .f64 0] 32)
  have HB0 := Lib.hid hb0
  have HK : Hid (∀ w1 w2 : World, Below (w.alloc (.cells #[.int .i64 0, .string ⟨#[]⟩, .float .f64 0] 32)).heap.size (w.alloc (.cells #[.int .i64 0, .string ⟨#[]⟩, .float .f64 0] 32)) w1 → Below w1.heap.size w1 w2 →
      (w2.cell? ⟨w.heap.size, 0, none⟩ = some (.int .i64 0) ∧ w2.cell? ⟨w.heap.size, 1, none⟩ = some (.string ⟨#[]⟩) ∧ w2.cell? ⟨w.heap.size, 2, none⟩ = some (.float .f64 0)) ∧ (∀ j, w2.frozen? ⟨w.heap.size, j, none⟩ = false)) := fun w1 w2 h1 h2 => by
    have e1 : w1.heap[w.heap.size]? = some (.cells #[.int .i64 0, .string ⟨#[]⟩, .float .f64 0] 32 (0, 0)) := by rw [h1.block _ (heap_lt hn0)]; exact hn0
    have e2 : w2.heap[w.heap.size]? = some (.cells #[.int .i64 0, .string ⟨#[]⟩, .float .f64 0] 32 (0, 0)) := by rw [h2.block _ (heap_lt e1)]; exact e1
    exact ⟨⟨by rw [Lib.cell_of_heap e2]; rfl, by rw [Lib.cell_of_heap e2]; rfl, by rw [Lib.cell_of_heap e2]; rfl⟩, fun j => Lib.frozen_of_heap e2 j⟩
  clear h h1 h2 hx hg his hy hb0 hn0
  go_enter Try.func12, Try.ntmps12
  go_wp2_with (first | (go_at_call 29; (with_reducible refine (FA.out _ HB0.out).mono ?_); rintro e w1 ⟨rfl, hb1⟩; have hb01 := HB0.out.trans (hb1.mono HB0.out.size)) | (go_at_call 10; (with_reducible refine (G.out _ hb01).mono ?_); rintro e w2 ⟨rfl, hb2⟩; obtain ⟨⟨k0, k1, k2⟩, kz⟩ := HK.out w1 w2 hb1 hb2; have z0 := kz 0; have z1 := kz 1; have z2 := kz 2; clear kz))
  have hb02 := hb01.trans (hb2.mono hb01.size)
  refine bodyPost_ret (v := .tuple #[.agg #[.int .i64 gi, .string gs, .float .f64 gf], .bool is]) ?_ rfl ⟨rfl, ((hb02.setCell (p := ⟨w.heap.size, 0, none⟩) (Nat.le_refl _) _).setCell (p := ⟨w.heap.size, 1, none⟩) (Nat.le_refl _) _).setCell (p := ⟨w.heap.size, 2, none⟩) (Nat.le_refl _) _⟩
  rw [results_cell_tmp rfl]
  go_simp
theorem Good.nil : Good [] := ⟨List.Pairwise.nil, by simp, rfl, fun b hb => by simp at hb⟩
set_option maxHeartbeats 2000000 in
theorem pnew_any (w : World) : Calls Try.prog 8 #[] w fun e w' => ∃ P M ps, e = .returned (.pointer (some ⟨P, 0, none⟩)) ∧ PoolAt w.heap.size P M [] ps w' ∧ Below w.heap.size w w' := by
  have hmm := @run_makeMap Try.prog
  obtain ⟨W, hW⟩ : ∃ W, W = (w.alloc (.map #[] 0)).alloc (.cells #[.map (some w.heap.size), .nilFunc] 53) := ⟨_, rfl⟩
  have hb1 : Below w.heap.size w (w.alloc (.map #[] 0)) := (Below.refl _ w).alloc (Nat.le_refl _) _
  have hb2 : Below w.heap.size w W := by rw [hW]; exact hb1.alloc hb1.size _
  have hp : W.heap[w.heap.size + 1]? = some (.cells #[.map (some w.heap.size), .nilFunc] 53 (0, 0)) := by
    rw [hW, show w.heap.size + 1 = (w.alloc (.map #[] 0)).heap.size from (World.size_alloc _ _).symm]; exact alloc_new _ _
  have hm : PM w.heap.size [] W := by rw [hW]; exact (PM.made w).below ((Below.refl _ _).alloc (Nat.le_refl _) _)
  have T := Lib.hid (turn_any w.heap.size (w.heap.size + 1) w.heap.size .nilFunc [] W hp hm Good.nil (by omega) (Nat.le_refl _))
  have HW := Lib.hid hW
  have HB2 := Lib.hid hb2
  clear hb1 hb2 hp hm hW
  go_enter Try.func8, Try.ntmps8
  go_wp2_with (fail)
  rw [← HW.out]
  refine T.out.mono ?_
  rintro e w1 ⟨rfl, ⟨ps, h1⟩, h2, _⟩
  go_wp2_with (fail)
  go_ret
  exact ⟨_, _, ps, rfl, h1, HB2.out.trans h2⟩
end Go.Proofs.Ytgonagkhnkhcnaa
