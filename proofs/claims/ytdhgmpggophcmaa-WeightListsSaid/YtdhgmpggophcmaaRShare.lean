import Derived.Test.YtdhgmpggophcmaaShareN
/- The walk of the reference's Share. -/
namespace Go.Proofs.Ytdhgmpggophcmaa
open Go.RowKit
def rs0 (x : Nat) (ws : List Nat) : Int := if allMay (ws ++ [x]) then (if sumP ws = 0 then 0 else (FM.points x : Int)) else 0
def rs1 (x : Nat) (ws : List Nat) : Int := if allMay (ws ++ [x]) then (sumP ws : Int) else 0
theorem allMay_app (a b : List Nat) : allMay (a ++ b) = (allMay a && allMay b) := by unfold allMay; exact List.all_append
theorem allMay_one (x : Nat) : allMay [x] = FM.may x := by simp [allMay]
set_option maxRecDepth 100000 in
set_option maxHeartbeats 4000000 in
theorem rshare_any (x : Nat) (ws : List Nat) (A : Option Addr) (c : Nat) (w : World) (hx : x < W64) (hws : ∀ y ∈ ws, y < W64) (hn : ws.length ≤ 1000) (hA : ∀ j (h : j < ws.length), ∃ g, A = some ⟨g, 0, none⟩ ∧ w.cell? ⟨g, j, none⟩ = some (.float .f64 ws[j])) :
    Calls Try.prog 13 #[.float .f64 x, .slice A ws.length c] w fun e w' => e = .returned (.tuple #[.int .i64 (rs0 x ws), .int .i64 (rs1 x ws), .int .i64 (shareE x ws)]) ∧ w' = w := by
  have HA := Lib.hid hA
  have HW := Lib.hid hws
  have hPs := sumP_le ws
  have hPx := FM.points_le x
  obtain ⟨mx, hmx⟩ : ∃ mx, mx = FM.may x := ⟨_, rfl⟩
  have M : Hid (∀ W, Calls Try.prog 22 #[.float .f64 x] W fun e w' => e = .returned (.bool mx) ∧ w' = W) := fun W => by rw [hmx]; exact rmay_any x W hx
  have HM := Lib.hid hmx
  obtain ⟨r0, h0⟩ : ∃ r, r = rs0 x ws := ⟨_, rfl⟩
  obtain ⟨r1, h1⟩ : ∃ r, r = rs1 x ws := ⟨_, rfl⟩
  obtain ⟨r2, h2⟩ : ∃ r, r = shareE x ws := ⟨_, rfl⟩
  have H0 := Lib.hid h0
  have H1 := Lib.hid h1
  have H2 := Lib.hid h2
  rw [← h0, ← h1, ← h2]
  clear hA hws hmx h0 h1 h2
  go_enter Try.func13, Try.ntmps13
  go_wp2_with (go_at_call 22; (with_reducible refine (M.out _).mono ?_); rintro e w1 ⟨rfl, rfl⟩)
  go_loop [7, 8, 9] (fun o n i => ∃ (k : Nat) (ok : Bool) (s : Nat), k ≤ ws.length ∧ i = .int .i64 k ∧ o = .bool ok ∧ n = .int .i64 s ∧ ok = (mx && allMay (ws.take k)) ∧ s = sumP (ws.take k)) (fun _ _ i => ws.length - (intOf i).toNat)
  case atStart => exact ⟨0, mx, 0, by omega, rfl, rfl, rfl, by simp [allMay], rfl⟩
  case round =>
    obtain ⟨k, ok, s, hk, rfl, rfl, rfl, hok, hs⟩ := hrel
    have HK := Lib.hid hok
    have HS := Lib.hid hs
    clear hok hs
    by_cases hlt : k < ws.length
    · obtain ⟨g, rfl, hcell⟩ := HA.out k hlt
      have hy := HW.out ws[k] (List.getElem_mem hlt)
      have HT := Lib.hid (take_one ws k hlt)
      have hs1 := sumP_le (ws.take k)
      have hs3 : (s : Int) ≤ 256000 := by rw [← HS.out, List.length_take] at hs1; omega
      clear hs1
      obtain ⟨y, hyy⟩ : ∃ y, y = ws[k] := ⟨_, rfl⟩
      have HY := Lib.hid hyy
      rw [← hyy] at hcell hy
      obtain ⟨my, hmy⟩ : ∃ my, my = FM.may y := ⟨_, rfl⟩
      have M2 : Hid (∀ W, Calls Try.prog 22 #[.float .f64 y] W fun e w' => e = .returned (.bool my) ∧ w' = W) := fun W => by rw [hmy]; exact rmay_any y W hy
      have HMY := Lib.hid hmy
      obtain ⟨p, hp⟩ : ∃ p, p = FM.points y := ⟨_, rfl⟩
      have P : Hid (∀ W, Calls Try.prog 24 #[.float .f64 y] W fun e w' => e = .returned (.int .i64 p) ∧ w' = W) := fun W => by rw [hp]; exact rpoints_any y W hy
      have hp2 : (p : Int) ≤ 256 := by have := FM.points_le y; omega
      have HP := Lib.hid hp
      clear hy hyy hp hmy
      cases ok
      · go_wp2_with (first | (go_at_call 22; (with_reducible refine (M2.out _).mono ?_); rintro e w2 ⟨rfl, rfl⟩) | (go_at_call 24; refine (P.out _).mono ?_; rintro e w2 ⟨rfl, rfl⟩))
        go_round
        case rel => exact ⟨k + 1, false, s + p, by omega, by go_num, rfl, by go_num, by rw [HT.out, allMay_app, ← Bool.and_assoc, ← HK.out]; rfl, by rw [HT.out, sumP_snoc, ← HS.out, ← HY.out, ← HP.out]⟩
        case measure => simp [intOf]; omega
      · go_wp2_with (first | (go_at_call 22; (with_reducible refine (M2.out _).mono ?_); rintro e w2 ⟨rfl, rfl⟩) | (go_at_call 24; refine (P.out _).mono ?_; rintro e w2 ⟨rfl, rfl⟩))
        go_round
        case rel => exact ⟨k + 1, my, s + p, by omega, by go_num, rfl, by go_num, by rw [HT.out, allMay_app, ← Bool.and_assoc, ← HK.out, allMay_one, ← HY.out, ← HMY.out]; rfl, by rw [HT.out, sumP_snoc, ← HS.out, ← HY.out, ← HP.out]⟩
        case measure => simp [intOf]; omega
    · obtain rfl : k = ws.length := by omega
      have hfull : ws.take ws.length = ws := List.take_length
      have hsum : s = sumP ws := by rw [HS.out, hfull]
      have hokv : ok = allMay (ws ++ [x]) := by rw [HK.out, hfull, allMay_app, allMay_one, HM.out, Bool.and_comm]
      have hs2 : (s : Int) ≤ 256000 := by omega
      obtain ⟨p, hp⟩ : ∃ p, p = FM.points x := ⟨_, rfl⟩
      have P : Hid (∀ W, Calls Try.prog 24 #[.float .f64 x] W fun e w' => e = .returned (.int .i64 p) ∧ w' = W) := fun W => by rw [hp]; exact rpoints_any x W hx
      have H0' := H0.out
      have H1' := H1.out
      have H2' := H2.out
      unfold rs0 at H0'
      unfold rs1 at H1'
      unfold shareE at H2'
      rw [← hokv, ← hsum] at H0' H1' H2'
      rw [← hp] at H0'
      clear hfull hsum hokv hp hPs hPx
      cases ok
      · rw [if_neg (by decide)] at H0' H1' H2'
        subst H0' H1' H2'
        go_wp2_with (go_at_call 24; refine (P.out _).mono ?_; rintro e w2 ⟨rfl, rfl⟩)
        go_ret3
        exact ⟨rfl, rfl⟩
      · rw [if_pos rfl] at H0' H1' H2'
        by_cases hz : s = 0
        · rw [if_pos hz] at H0' H2'
          subst hz H0' H1' H2'
          have e0 : ((0 : Nat) : Int) = 0 := rfl
          go_wp2_with (go_at_call 24; refine (P.out _).mono ?_; rintro e w2 ⟨rfl, rfl⟩)
          go_ret3
          exact ⟨rfl, rfl⟩
        · rw [if_neg hz] at H0' H2'
          have hz' : ((s : Int) == 0) = false := by rw [beq_eq_false_iff_ne]; omega
          subst H0' H1' H2'
          clear hz
          go_wp2_with (go_at_call 24; refine (P.out _).mono ?_; rintro e w2 ⟨rfl, rfl⟩)
          go_ret3
          exact ⟨rfl, rfl⟩
end Go.Proofs.Ytdhgmpggophcmaa
