import Derived.Test.YtgonagkhnkhcnaaPoolMovA
/- Same: two rows of the same backends; Signbit; one pool while another is changed. -/
namespace Go.Proofs.Ytgonagkhnkhcnaa
set_option maxRecDepth 100000
open Go.RowKit
set_option maxHeartbeats 2000000 in
theorem same_any (B1 B2 : Nat) (va vb : Value) (xs : List Bk) (w : World) (ha : BRow B1 va xs w) (hb : BRow B2 vb xs w) (hs : ∀ x ∈ xs, bkeq x x = true) :
    Calls Try.prog 16 #[va, vb] w fun e w' => e = .returned (.bool true) ∧ Below w.heap.size w w' := by
  have HA := Lib.hid ha
  have HB := Lib.hid hb
  have HS := Lib.hid hs
  obtain ⟨a1, c1, rfl, _⟩ := ha.open
  obtain ⟨a2, c2, rfl, _⟩ := hb.open
  obtain ⟨len, hln⟩ : ∃ n, n = xs.length := ⟨_, rfl⟩
  rw [← hln]
  have HL := Lib.hid hln
  have hmg := guard32
  clear ha hb hs hln
  go_enter Try.func16, Try.ntmps16
  go_wp2_with (fail)
  go_loopw [5] (fun i wr => ∃ k : Nat, k ≤ len ∧ i = .int .i64 k ∧ Below w.heap.size w wr) (fun i _ => len - (intOf i).toNat)
  case atStart => exact ⟨0, by omega, rfl, Below.refl _ _⟩
  case round =>
    obtain ⟨k, hk, rfl, hb⟩ := hrel
    by_cases hlt : k < len
    · have hk2 : k < xs.length := by rw [← HL.out]; exact hlt
      obtain ⟨g1, d1, e1, h1⟩ := HA.out.at (by omega)
      obtain ⟨g2, d2, e2, h2⟩ := HB.out.at (by omega)
      injection e1 with e1 _ e3
      injection e2 with e2 _ e4
      subst e1 e2 e3 e4
      obtain ⟨x0, x1, x2⟩ := h1 wr hb k hk2
      obtain ⟨y0, y1, y2⟩ := h2 wr hb k hk2
      have hself := HS.out xs[k] (List.getElem_mem hk2)
      obtain ⟨⟨i, s, f⟩, hb9⟩ : ∃ b, b = xs[k] := ⟨_, rfl⟩
      rw [← hb9] at x0 x1 x2 y0 y1 y2 hself
      simp only at x0 x1 x2 y0 y1 y2
      have hq : ∀ W, (binOp .neq 32 (.agg #[.int .i64 i, .string s, .float .f64 f]) (.agg #[.int .i64 i, .string s, .float .f64 f])).run Try.prog W = .ok (.bool false) W := fun W => by rw [bk_neq, hself]; rfl
      have h3 : (k : Int) < (len : Int) := by omega
      have h4 : (0 : Int) ≤ (k : Int) := by omega
      have HBB := Lib.hid hb
      have hbig : Hid (len ≤ 9223372036854775807) := show len ≤ 9223372036854775807 by
        have h9 := World.ownsRow.lt HA.out
        obtain ⟨_, hx⟩ := HA.out
        rcases hx with ⟨hx, _⟩ | ⟨g, cap, cur, hx, _, _, q1, q2, _⟩
        · cases hx
        · rw [HL.out]; unfold maxLen at q2; omega
      have hbig2 := hbig.out
      clear hb9 hself h1 h2 hb
      go_wp2_with (fail)
      go_quiet (fail)
      go_wp2_with (fail)
      exact ⟨⟨k + 1, by omega, by go_num, below_drewN HBB.out _⟩, by simp [intOf] <;> omega⟩
    · obtain rfl : k = len := by omega
      go_wp2_with (fail)
      go_ret
      exact ⟨rfl, hb⟩
theorem PoolAt.other {B P M : Nat} {L : List Bk} {ps : List (Nat × Nat)} {w w' : World} (h : PoolAt B P M L ps w) {P' M' : Nat} {L' : List Bk} {cur : Array Value} (hP' : w.heap[P']? = some (.cells cur 53 (0, 0))) (hM' : PM M' L' w) (hPP : P ≠ P') (hMM : M ≠ M')
    (hs : ∀ k, k < w.heap.size → k ≠ P' → k ≠ M' → w'.heap[k]? = w.heap[k]?) : PoolAt B P M L ps w' := by
  obtain ⟨R, u, h1, h2⟩ := h.ring
  obtain ⟨es, clock, e1⟩ := hM'.obj
  obtain ⟨es2, clock2, e2⟩ := h.pm.obj
  have n1 : P ≠ M' := fun e => by rw [← e, h1] at e1; cases e1
  have n2 : M ≠ P' := fun e => by rw [← e, e2] at hP'; cases hP'
  have n3 : R ≠ M' := fun e => by rw [← e, h2.hR] at e1; cases e1
  have n4 : R ≠ P' := fun e => by rw [← e, h2.hR] at hP'; injection hP' with hP'; injection hP' with _ hP' _; cases hP'
  have hk : ∀ k, u.ownBlock = some k → k < w.heap.size ∧ k ≠ P' ∧ k ≠ M' := fun k hk => by
    refine ⟨(h2.row.lt k hk).2, ?_, ?_⟩
    · rcases h2.row.2 with ⟨hx, _⟩ | ⟨g, cap, cur2, hx, _, hy, _⟩
      · rw [hx] at hk; cases hk
      · rw [hx] at hk
        have e : g = k := by simpa [Value.ownBlock] using hk
        intro e5
        rw [← e5, ← e, hy] at hP'
        injection hP' with hP'
        injection hP' with _ hP' _
        cases hP'
    · rcases h2.row.2 with ⟨hx, _⟩ | ⟨g, cap, cur2, hx, _, hy, _⟩
      · rw [hx] at hk; cases hk
      · rw [hx] at hk
        have e : g = k := by simpa [Value.ownBlock] using hk
        intro e5
        rw [← e5, ← e, hy] at e1
        cases e1
  refine ⟨⟨R, u, by rw [hs P (heap_lt h1) hPP n1]; exact h1, h2.same (hs R (heap_lt h2.hR) n4 n3) (fun k hk' => hs k (hk k hk').1 (hk k hk').2.1 (hk k hk').2.2)⟩, h.pm.same (hs M h.pm.lt n2 hMM), h.perm, h.sorted, h.good, h.bP, h.bM⟩
theorem plist_any (B P M : Nat) (L : List Bk) (ps : List (Nat × Nat)) (w : World) (h : PoolAt B P M L ps w) :
    Calls Try.prog 14 #[.pointer (some ⟨P, 0, none⟩)] w fun e w' => ∃ v, e = .returned v ∧ BRow w.heap.size v L w' ∧ Below w.heap.size w w' := list_any P M L w h.cells h.pm (by have := h.good.few; omega) h.good.risen
theorem signbit_any (b : Nat) (w : World) (h : b < 9223372036854775808) : Calls Try.prog 15 #[.float .f64 b] w fun e w' => e = .returned (.bool false) ∧ w' = w := by
  have h1 := bits_run b w
  have h2 : IntKind.i64.wrap (b : Int) = (b : Int) := by rw [IntKind.wrap_i64]; omega
  have h3 : ¬ (b : Int) < 0 := by omega
  clear h
  go_enter Try.func15, Try.ntmps15
  go_wp2
  go_ret
  exact ⟨rfl, rfl⟩
end Go.Proofs.Ytgonagkhnkhcnaa
