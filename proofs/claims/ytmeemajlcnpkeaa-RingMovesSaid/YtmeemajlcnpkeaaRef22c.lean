import Derived.Test.YtmeemajlcnpkeaaRef22b
import Derived.Test.YtmeemajlcnpkeaaSets
/- The document's points of backends. -/
namespace Go.Proofs.Ytmeemajlcnpkeaa
open Go.RowKit
theorem Row.append {B : Nat} {v : Value} {ps : List (Nat × Nat)} {w : World} (h : Row B v ps w) (hB : B ≤ w.heap.size) (ty : TypeId) (g c : Nat) (p : Nat × Nat) (hg : w.heap[g]? = some (.cells #[.int .u64 p.1, .int .i64 p.2] 49 (0, 0))) (hlen : ps.length ≤ 1000000) :
    ∃ v' w', (Builtin.append_ #[36, 36] ty #[v, .slice (some ⟨g, 0, none⟩) 1 c]).run Try.prog w = .ok v' w' ∧ (Row B v' (ps ++ [p]) w' ∧ Below B w w') := by
  obtain ⟨i0, hi, hz0, hz1, hz2⟩ := info49
  obtain ⟨v', w', hr, h2, h3, _, _⟩ := run_append_own_at (P := Try.prog) w B 36 ty 49 i0 _ 2 16 Try.underlying36 hi hz0 hz1 hz2 rfl (by decide) v ps.length (flat ps) h ⟨g, 0, none⟩ 1 c (pcells p) rfl
    (World.news_of_block hg) (fun u hu => by unfold pcells at hu; simp at hu; rcases hu with rfl | rfl <;> rfl) (by unfold maxLen; omega) (by omega) hB
  refine ⟨v', w', hr, ?_, (Below.refl _ w).grown h3 hB (fun q hq => (h.lt q hq).1)⟩
  show w'.ownsRow B 49 2 v' (ps ++ [p]).length (flat (ps ++ [p]))
  rw [List.length_append, flat_app]
  exact h2
/-- a row that grows, and the rest of memory -/
structure RB (B : Nat) (w0 : World) (v : Value) (ps : List (Nat × Nat)) (w : World) : Prop where
  row : Row B v ps w
  le : B ≤ w.heap.size
  bel : Below B w0 w
theorem RB.drew {B : Nat} {w0 : World} {v : Value} {ps : List (Nat × Nat)} {w : World} (h : RB B w0 v ps w) : RB B w0 v ps w.drew := ⟨h.row, h.le, h.bel.drew⟩
theorem RB.alloc {B : Nat} {w0 : World} {v : Value} {ps : List (Nat × Nat)} {w : World} (h : RB B w0 v ps w) (o : Obj) : RB B w0 v ps (w.alloc o) :=
  ⟨World.ownsRow.alloc h.row o, by rw [World.size_alloc]; have := h.le; omega, h.bel.alloc h.le o⟩
theorem RB.call {B : Nat} {w0 : World} {v : Value} {ps : List (Nat × Nat)} {w w' : World} (h : RB B w0 v ps w) (hb : Below w.heap.size w w') : RB B w0 v ps w' :=
  ⟨row_below h.row hb, Nat.le_trans h.le hb.size, h.bel.trans (hb.mono h.le)⟩
theorem RB.append {B : Nat} {w0 : World} {v : Value} {ps : List (Nat × Nat)} {w : World} (h : RB B w0 v ps w) (ty : TypeId) (g c : Nat) (p : Nat × Nat) (hg : w.heap[g]? = some (.cells #[.int .u64 p.1, .int .i64 p.2] 49 (0, 0))) (hlen : ps.length ≤ 1000000) :
    ∃ v' w', (Builtin.append_ #[36, 36] ty #[v, .slice (some ⟨g, 0, none⟩) 1 c]).run Try.prog w = .ok v' w' ∧ RB B w0 v' (ps ++ [p]) w' := by
  obtain ⟨v', w', hr, h1, h2⟩ := h.row.append h.le ty g c p hg hlen
  exact ⟨v', w', hr, h1, Nat.le_trans h.le h2.size, h.bel.trans h2⟩
theorem allPts_snoc (bs : List Bk) (b : Bk) : allPts (bs ++ [b]) = allPts bs ++ pts b := by unfold allPts; rw [List.flatMap_append]; simp
theorem allPts_len (bs : List Bk) (k : Nat) : (allPts (bs.take k)).length ≤ 256 * k := by
  induction k with
  | zero => simp [allPts]
  | succ k ih =>
    rcases Nat.lt_or_ge k bs.length with h | h
    · have h2 := FM.points_le bs[k].wt
      rw [take_one bs k h, allPts_snoc, List.length_append, pts_len]; omega
    · rw [List.take_of_length_le (by omega)]
      rw [List.take_of_length_le h] at ih
      omega
set_option maxRecDepth 100000 in
set_option maxHeartbeats 4000000 in
theorem rpoints22_any (bs : List Bk) (a : Option Addr) (cap : Nat) (w : World) (hl : bs.length ≤ 100) (hin : BkIn w a bs) (hok : BkOk bs) (hall : bs.all bk_ok = true) :
    Calls Try.prog 14 #[.slice a bs.length cap] w fun e w' => ∃ v', e = .returned v' ∧ Row w.heap.size v' (allPts bs) w' ∧ Below w.heap.size w w' := by
  have HI : Hid (∀ W, Below w.heap.size w W → BkIn W a bs) := fun W hW => hin.below hW
  have HO := Lib.hid hok
  have HA := Lib.hid hall
  obtain ⟨len, hln⟩ : ∃ len, len = bs.length := ⟨_, rfl⟩
  rw [← hln]
  have HLN := Lib.hid hln
  have hl2 : len ≤ 100 := by omega
  clear hin hok hl hln hall
  go_enter Try.func14, Try.ntmps14
  go_wp2_with (fail)
  go_loopw [3, 4] (fun v i wr => ∃ k : Nat, k ≤ len ∧ i = .int .i64 k ∧ Hid (Row w.heap.size v (allPts (bs.take k)) wr) ∧ Below w.heap.size w wr) (fun _ i _ => len - (intOf i).toNat)
  case atStart => exact ⟨0, by omega, rfl, World.ownsRow_nil _ _ _ _, Below.refl _ _⟩
  case round =>
    obtain ⟨k, hk, rfl, hrow, hb⟩ := hrel
    by_cases hlt : k < len
    · have hlt2 : k < bs.length := by rw [← HLN.out]; exact hlt
      obtain ⟨x, rfl, c0, c1, c2⟩ := HI.out wr hb k hlt2
      obtain ⟨o1, o2, o3⟩ := HO.out bs[k] (List.getElem_mem hlt2)
      have hbok : bk_ok bs[k] = true := List.all_eq_true.1 HA.out _ (List.getElem_mem hlt2)
      obtain ⟨i, hi9⟩ : ∃ i : Nat, bs[k].id = i := ⟨bs[k].id.toNat, by unfold bk_ok at hbok; simp at hbok; omega⟩
      have hi : i ≤ 65535 := by unfold bk_ok at hbok; simp at hbok; omega
      obtain ⟨wt, hwt⟩ : ∃ q, q = bs[k].wt := ⟨_, rfl⟩
      rw [← hwt] at c2 o1
      have C := Lib.hid (fun W => rpoints_any wt W o1)
      have hpl := FM.points_le wt
      obtain ⟨n, hn⟩ : ∃ n, n = FM.points wt := ⟨_, rfl⟩
      rw [← hn] at C hpl
      have hql := allPts_len bs k
      obtain ⟨q, hq⟩ : ∃ q, q = allPts (bs.take k) := ⟨_, rfl⟩
      rw [← hq] at hrow hql
      have HQ := Lib.hid hq
      have HP : Hid (∀ j, j < n → (pts bs[k]).take (j + 1) = (pts bs[k]).take j ++ [(hpt i j, i)]) := fun j hj => by
        have h := pts_succ bs[k] j (by rw [← hwt, ← hn]; exact hj)
        rw [hi9] at h; exact h
      have HPL : Hid ((pts bs[k]).length = n) := show _ = _ by rw [pts_len, ← hwt, hn]
      have HC0 : Hid (∀ W, Below w.heap.size w W → W.cell? (x.add (k * 3)) = some (.int .i64 i)) := fun W hW => by
        obtain ⟨x', hx', d0, _⟩ := HI.out W hW k hlt2
        obtain rfl := Option.some.inj hx'
        rw [hi9] at d0; exact d0
      have hkl : (k : Int) < (len : Int) := by omega
      clear c0 c1 o1 o2 o3 hbok hwt hn hq hi9
      go_wp2_with (go_at_call 31; refine (C.out _).mono ?_; rintro e w1 ⟨rfl, rfl⟩)
      go_loopw [3, 6] (fun v t wr => ∃ j : Nat, j ≤ n ∧ t = .int .i64 j ∧ Hid (RB w.heap.size w v (q ++ (pts bs[k]).take j) wr)) (fun _ t _ => n - (intOf t).toNat)
      case atStart => exact ⟨0, by omega, rfl, by rw [List.take_zero, List.append_nil]; exact ⟨hrow.out, hb.size, hb⟩⟩
      case round =>
        obtain ⟨j, hj, rfl, hrb⟩ := hrel
        by_cases hjn : j < n
        · have PT := Lib.hid (fun W => rpoint_any i j W (by omega) (by omega))
          obtain ⟨h, hh⟩ : ∃ h, h = hpt i j := ⟨_, rfl⟩
          rw [← hh] at PT
          have hp1 := HP.out j hjn
          rw [← hh] at hp1
          have HP1 := Lib.hid hp1
          have g0 := HC0.out wr hrb.out.bel
          have HLEN : Hid ((q ++ (pts bs[k]).take j).length ≤ 1000000) := show _ ≤ _ by rw [List.length_append, List.length_take]; omega
          clear hh hp1
          go_wp2_with (fail)
          go_region_law (first | (go_simp; go_at_call 32; (with_reducible refine (PT.out _).mono ?_); rintro e w1 ⟨rfl, hb1⟩; have hR1 := RB.call (RB.drew hrb.out) hb1; have g1 := HC0.out w1 hR1.bel; have g2 := HC0.out _ (RB.alloc hR1 (.cells #[.int .u64 h, .int .i64 i] 49)).bel; have HR1 := Lib.hid hR1; clear hR1 hb1) | (refine step_append_at (Operand.tmp 24) (Operand.tmp 38) 36 rfl rfl ?_; refine ex_mono (RB.append (B := w.heap.size) (w0 := w) (ps := q ++ (pts bs[k]).take j) ?_ _ _ _ (h, i) ?_ HLEN.out) ?_; (focus (repeat (first | exact HR1.out | refine RB.drew ?_ | refine RB.alloc ?_ _))); (focus (first | exact alloc_new _ _ | exact alloc_new_drew _ _)); intro v3 w3 hR3; have HR3 := Lib.hid hR3; clear hR3))
          all_goals (have HF : Hid (RB w.heap.size w v3 (q ++ (pts bs[k]).take (j + 1)) w3) := show RB _ _ _ _ _ by rw [HP1.out, ← List.append_assoc]; exact HR3.out)
          all_goals (clear HR3 HR1 g0 g1 g2)
          all_goals (go_wp2_with (fail))
          all_goals (exact ⟨⟨j + 1, by omega, by go_num, HF⟩, by simp [intOf] <;> omega⟩)
        · obtain rfl : j = n := by omega
          go_wp2_with (fail)
          refine ⟨⟨k + 1, by omega, by go_num, ?_, hrb.out.bel⟩, by simp [intOf] <;> omega⟩
          have h := hrb.out.row
          rw [List.take_of_length_le (by rw [HPL.out]; exact Nat.le_refl _)] at h
          show Row _ _ _ _
          rw [take_one bs k hlt2, allPts_snoc, ← HQ.out]
          exact h
    · obtain rfl : k = len := by omega
      go_wp2_with (fail)
      go_ret
      refine ⟨_, rfl, ?_, hb⟩
      have h := hrow.out
      rw [HLN.out, List.take_length] at h
      exact h
end Go.Proofs.Ytmeemajlcnpkeaa
