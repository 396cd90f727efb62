import Derived.Test.YtdhgmpggophcmaaRShare
import Derived.Maps.AppendAt
import Derived.Deep.RegionLaw
import Derived.Deep.RegionLawGrows
import Derived.RegionTactic
/- Sixteenths by their count; two rows of floats that are made side by side. -/
namespace Go.Proofs.Ytdhgmpggophcmaa
open Go.RowKit
/-- the word of z sixteenths, and the one just below (0's is itself) -/
noncomputable def w16 (z : Nat) : Nat := if h : z ≤ 256 then (sixteenth z h).choose else 0
noncomputable def b16 (z : Nat) : Nat := if z = 0 then w16 z else w16 z - 1
theorem w16_spec (z : Nat) (h : z ≤ 256) : w16 z ≤ 4625196817309499392 ∧ FM.val (w16 z) = z * FM.U ∧ ∀ W, (binOp .quo 25 (.float .f64 (floatOfInt .f64 (z : Int))) (.float .f64 4625196817309499392)).run Try.prog W = .ok (.float .f64 (w16 z)) W := by
  unfold w16
  rw [dif_pos h]
  exact (sixteenth z h).choose_spec
theorem w16_points (z : Nat) (h : z ≤ 256) : FM.may (w16 z) = true ∧ FM.points (w16 z) = z ∧ w16 z < W64 := by
  obtain ⟨h1, h2, _⟩ := w16_spec z h
  exact ⟨may_le h1, sixt_points _ _ h1 h2, by unfold W64; omega⟩
theorem b16_points (z : Nat) (h : z ≤ 256) : FM.may (b16 z) = true ∧ FM.points (b16 z) = z ∧ b16 z < W64 := by
  obtain ⟨h1, h2, _⟩ := w16_spec z h
  unfold b16
  by_cases h0 : z = 0
  · rw [if_pos h0]; exact w16_points z h
  · rw [if_neg h0]
    obtain ⟨d1, d2⟩ := sixt_down _ _ (Nat.pos_of_ne_zero h0) h1 h2
    exact ⟨may_le (by omega), d2, by unfold W64; omega⟩
theorem b16_next (z : Nat) (h : z ≤ 256) (h0 : 0 < z) (W : World) : Calls Try.prog 15 #[.float .f64 (w16 z), .float .f64 0] W fun e w' => e = .returned (.float .f64 (b16 z)) ∧ w' = W := by
  obtain ⟨h1, h2, _⟩ := w16_spec z h
  obtain ⟨d1, _⟩ := sixt_down _ _ h0 h1 h2
  have hs := srank_pos (b := w16 z) (by omega)
  unfold b16
  rw [if_neg (by omega)]
  exact next_down _ 0 W (nan_le h1) (by decide) (by rw [hs]; omega) (by rw [hs, show FM.srank 0 = 0 by decide]; omega) (by unfold W64; omega) d1
theorem allMay_map (f : Nat → Nat) (zs : List Nat) (h : ∀ z ∈ zs, FM.may (f z) = true) : allMay (zs.map f) = true := by
  unfold allMay
  rw [List.all_eq_true]
  intro y hy
  obtain ⟨z, hz, rfl⟩ := List.mem_map.1 hy
  exact h z hz
theorem sumP_map (f : Nat → Nat) (zs : List Nat) (h : ∀ z ∈ zs, FM.points (f z) = z) : sumP (zs.map f) = zs.sum := by
  induction zs with
  | nil => rfl
  | cons z t ih =>
    have e : sumP ((z :: t).map f) = FM.points (f z) + sumP (t.map f) := by simp [sumP]
    rw [e, ih (fun y hy => h y (List.mem_cons_of_mem _ hy)), h z (List.mem_cons_self ..)]
    simp
theorem sumP_app (a b : List Nat) : sumP (a ++ b) = sumP a + sumP b := by unfold sumP; rw [List.map_append, List.sum_append]
/-- the two lists' shares are alike -/
theorem lists_alike (zs : List Nat) (turn n : Nat) (hz : ∀ z ∈ zs, z ≤ 256) (hn : n ≤ 256) :
    shareV (w16 n) ((zs.map b16).drop turn ++ (zs.map b16).take turn ++ [0]) = shareV (w16 n) (zs.map w16) ∧
    shareE (w16 n) ((zs.map b16).drop turn ++ (zs.map b16).take turn ++ [0]) = shareE (w16 n) (zs.map w16) ∧
    shareE (w16 n) (zs.map w16) = (if zs.sum = 0 then 7 else 0) ∧ (shareE (w16 n) (zs.map w16) = 7 → shareV (w16 n) (zs.map w16) = 0) := by
  obtain ⟨m1, m2, _⟩ := w16_points n hn
  have a1 : allMay (zs.map w16) = true := allMay_map _ _ (fun z h => (w16_points z (hz z h)).1)
  have a2 : allMay (zs.map b16) = true := allMay_map _ _ (fun z h => (b16_points z (hz z h)).1)
  have s1 : sumP (zs.map w16) = zs.sum := sumP_map _ _ (fun z h => (w16_points z (hz z h)).2.1)
  have s2 : sumP (zs.map b16) = zs.sum := sumP_map _ _ (fun z h => (b16_points z (hz z h)).2.1)
  have s3 : sumP ((zs.map b16).drop turn ++ (zs.map b16).take turn ++ [0]) = zs.sum := by
    rw [sumP_app, sumP_app, show sumP [0] = 0 by simp [sumP, points_0], Nat.add_zero, Nat.add_comm, ← sumP_app, List.take_append_drop, s2]
  have a3 : allMay ((zs.map b16).drop turn ++ (zs.map b16).take turn ++ [0]) = true := by
    have h := a2
    rw [← List.take_append_drop turn (zs.map b16), allMay_app, Bool.and_eq_true] at h
    rw [allMay_app, allMay_app, h.1, h.2]; rfl
  have a4 : allMay (((zs.map b16).drop turn ++ (zs.map b16).take turn ++ [0]) ++ [w16 n]) = true := by rw [allMay_app, a3, allMay_one, m1]; rfl
  have a5 : allMay (zs.map w16 ++ [w16 n]) = true := by rw [allMay_app, a1, allMay_one, m1]; rfl
  unfold shareV shareE
  rw [if_pos a4, if_pos a5, if_pos a4, if_pos a5, s3, s1]
  refine ⟨rfl, rfl, rfl, fun h => ?_⟩
  by_cases h0 : zs.sum = 0
  · rw [if_pos h0]
  · rw [if_neg h0] at h; cases h
end Go.Proofs.Ytdhgmpggophcmaa
