import Derived.Test.YtgonagkhnkhcnaaSixt
import Derived.ArgAppend
import Derived.Deep.AppendLies
import Derived.Lib.SmallJoins
import Derived.Laws.OwnMore
import Derived.OwnWalk
import Derived.KernelRfl
import Derived.RowKit3
import Derived.ProofKit
/- The walk of weight.Share. -/
namespace Go.Proofs.Ytgonagkhnkhcnaa
set_option maxRecDepth 100000
open Go.RowKit
theorem info25 : (Try.prog.info? 30).map (fun i => (i.zero, i.size, i.bytes)) = some (some (.float .f64 0), 1, 8) := by kernel_rfl
theorem info_parts25 : ∃ i, Try.prog.info? 30 = some i ∧ i.zero = some (.float .f64 0) ∧ i.size = 1 ∧ i.bytes = 8 := by
  have h := info25
  cases hi : Try.prog.info? 30 with
  | none => rw [hi] at h; cases h
  | some i =>
    rw [hi] at h
    simp only [Option.map_some, Option.some.injEq, Prod.mk.injEq] at h
    exact ⟨i, rfl, h.1, h.2.1, h.2.2⟩
def floats (ws : List Nat) : List Value := ws.map (.float .f64 ·)
theorem floats_len (ws : List Nat) : (floats ws).length = ws.length := by simp [floats]
theorem floats_app (ws : List Nat) (x : Nat) : floats ws ++ [.float .f64 x] = floats (ws ++ [x]) := by simp [floats]
theorem floats_get {ws : List Nat} {j : Nat} {u : Value} (h : (floats ws)[j]? = some u) : ∃ h : j < ws.length, u = .float .f64 ws[j] := by
  unfold floats at h
  rw [List.getElem?_map] at h
  rcases hl : ws[j]? with _ | y
  · rw [hl] at h; cases h
  · rw [hl] at h
    obtain ⟨h1, h2⟩ := List.getElem?_eq_some_iff.1 hl
    simp only [Option.map_some, Option.some.injEq] at h
    exact ⟨h1, by rw [h2]; exact h.symm⟩
def sumP (ws : List Nat) : Nat := (ws.map FM.points).sum
theorem sumP_snoc (ws : List Nat) (x : Nat) : sumP (ws ++ [x]) = sumP ws + FM.points x := by simp [sumP]
theorem sumP_le (ws : List Nat) : sumP ws ≤ 256 * ws.length := by
  induction ws with
  | nil => simp [sumP]
  | cons a t ih =>
    have := FM.points_le a
    have e : sumP (a :: t) = FM.points a + sumP t := by simp [sumP]
    rw [e, List.length_cons]; omega
theorem take_oneN (l : List Nat) (k : Nat) (h : k < l.length) : l.take (k + 1) = l.take k ++ [l[k]] := List.take_succ_eq_append_getElem h
/-- the quotient of two whole numbers, as float64 -/
def quoW (n m : Nat) : Nat := (FM.D.div (FM.D.nearest false n 0) (FM.D.nearest false m 0)).getD 0
theorem div_some (n m : Nat) (hn : n ≤ 4294967296) (hm : m ≤ 4294967296) (h0 : m ≠ 0) : FM.D.div (FM.D.nearest false n 0) (FM.D.nearest false m 0) = some (quoW n m) := by
  obtain ⟨a, p, h1, _⟩ := FM.is_nat n hn
  obtain ⟨b, q, h3, h4⟩ := FM.is_nat m hm
  have hb : b ≠ 0 := by
    rintro rfl
    rw [Nat.zero_mul] at h4
    have := Nat.mul_pos (Nat.pos_of_ne_zero h0) (FM.pow_pos 1074)
    omega
  have : ∃ r, FM.D.div (FM.D.nearest false n 0) (FM.D.nearest false m 0) = some r := by
    unfold Ieee.Format.div
    rw [h1, h3]
    unfold Ieee.Datum.quotient
    simp only
    rw [if_neg hb]
    exact ⟨_, rfl⟩
  obtain ⟨r, hr⟩ := this
  unfold quoW
  rw [hr]; rfl
theorem quo_run (n m : Nat) (hn : n ≤ 4294967296) (hm : m ≤ 4294967296) (h0 : m ≠ 0) (W : World) : (binOp .quo 30 (.float .f64 (floatOfInt .f64 (n : Int))) (.float .f64 (floatOfInt .f64 (m : Int)))).run Try.prog W = .ok (.float .f64 (quoW n m)) W := by
  have h : floatBits .quo .f64 (floatOfInt .f64 (n : Int)) (floatOfInt .f64 (m : Int)) = some (quoW n m) := by
    rw [fb_quo, of_nat, of_nat]; exact div_some n m hn hm h0
  exact run_float_arith W .quo 30 .f64 _ _ _ h
def allMay (ws : List Nat) : Bool := ws.all FM.may
def shareV (x : Nat) (ws : List Nat) : Nat := if allMay (ws ++ [x]) then (if sumP ws = 0 then 0 else quoW (FM.points x) (sumP ws)) else 0
def shareE (x : Nat) (ws : List Nat) : Int := if allMay (ws ++ [x]) then (if sumP ws = 0 then 7 else 0) else 1
theorem all_take {l : List Nat} (h : allMay l = true) (k : Nat) (hk : k < l.length) : FM.may l[k] = true := by
  unfold allMay at h
  rw [List.all_eq_true] at h
  exact h _ (List.getElem_mem hk)
theorem first_bad (l : List Nat) (h : allMay l = false) : ∃ k, ∃ hk : k < l.length, FM.may l[k] = false ∧ ∀ j (hj : j < k), FM.may (l[j]'(by omega)) = true := by
  induction l with
  | nil => simp [allMay] at h
  | cons a t ih =>
    cases ha : FM.may a
    · exact ⟨0, by simp, ha, fun j hj => by omega⟩
    · have ht : allMay t = false := by
        unfold allMay at h ⊢
        rw [List.all_cons, ha, Bool.true_and] at h; exact h
      obtain ⟨k, hk, h1, h2⟩ := ih ht
      refine ⟨k + 1, by simpa using hk, by simpa using h1, fun j hj => ?_⟩
      cases j with
      | zero => exact ha
      | succ j => simpa using h2 j (by omega)
def Owned (B : Nat) (v : Value) (l : List Nat) (w : World) : Prop := w.ownsRow B 30 1 v l.length (floats l)
theorem add_plain (g j : Nat) : (⟨g, 0, none⟩ : Addr).add j = ⟨g, j, none⟩ := by unfold Addr.add; split <;> simp_all
theorem Owned.shape {B : Nat} {v : Value} {l : List Nat} {w : World} (h : Owned B v l w) (hl : 0 < l.length) : ∃ g c, v = .slice (some ⟨g, 0, none⟩) l.length c ∧ ∀ j (hj : j < l.length), w.cell? ⟨g, j, none⟩ = some (.float .f64 l[j]) := by
  have h' : w.ownsRow B 30 1 v l.length (floats l) := h
  obtain ⟨g, cap, h1⟩ := Joins.ownsRow_form h' hl
  refine ⟨g, cap, h1, fun j hj => ?_⟩
  subst h1
  have := World.ownsRow.cells h' (g := g) rfl j (.float .f64 l[j]) (by unfold floats; rw [List.getElem?_map, List.getElem?_eq_getElem hj]; rfl)
  rw [add_plain] at this
  exact this
theorem btrS {w a b : World} (h : Below w.heap.size w a) (k : Below a.heap.size a b) : Below w.heap.size w b := h.trans (k.mono h.size)
theorem bal {w a : World} (h : Below w.heap.size w a) {o : Obj} : Below w.heap.size w (a.alloc o) := h.alloc h.size o
theorem bgr {w a b : World} (h : Below w.heap.size w a) (k : a.grownBy b none) : Below w.heap.size w b := h.grown k h.size (fun _ hk => by cases hk)
set_option maxRecDepth 100000 in
set_option maxHeartbeats 4000000 in
theorem share_some (x : Nat) (ws : List Nat) (g c : Nat) (w : World) (hx : x < W64) (hws : ∀ y ∈ ws, y < W64) (hn : ws.length ≤ 1000) (hc : ws.length ≤ c) (hcell : ∀ j (h : j < ws.length), w.cell? ⟨g, j, none⟩ = some (.float .f64 ws[j])) :
    Calls Try.prog 27 #[.float .f64 x, .slice (some ⟨g, 0, none⟩) ws.length c] w fun e w' => e = .returned (.tuple #[.float .f64 (shareV x ws), .int .i64 (shareE x ws)]) ∧ Below w.heap.size w w' := by
  have HC := Lib.hid hcell
  clear hcell
  obtain ⟨i0, hi, hz0, hz1, hz2⟩ := info_parts25
  have HI := Lib.hid (And.intro hi (And.intro hz0 (And.intro hz1 hz2)))
  obtain ⟨all, hall⟩ : ∃ all, all = ws ++ [x] := ⟨_, rfl⟩
  have hlen0 : all.length = ws.length + 1 := by rw [hall]; simp
  have HL := Lib.hid hlen0
  have HA : Hid (all = ws ++ [x]) := hall
  have HB : Hid (∀ y ∈ all, y < W64) := show ∀ y ∈ all, y < W64 by
    rw [hall]; intro y hy
    rw [List.mem_append, List.mem_singleton] at hy
    rcases hy with hy | rfl
    · exact hws y hy
    · exact hx
  have HS : Hid (sumP all = sumP ws + FM.points x) := show _ = _ by rw [hall, sumP_snoc]
  obtain ⟨rv, hrv⟩ : ∃ rv, rv = shareV x ws := ⟨_, rfl⟩
  obtain ⟨re, hre⟩ : ∃ re, re = shareE x ws := ⟨_, rfl⟩
  have HV := Lib.hid hrv
  have HE := Lib.hid hre
  rw [← hrv, ← hre]
  have hP := FM.points_le x
  have hPs := sumP_le ws
  clear hws hi hz0 hz1 hz2 hall hrv hre hlen0
  go_enter Try.func27, Try.ntmps27
  go_wp2_with (at_builtin; refine wpList_append_grows _ rfl (.tmp 14) (.tmp 16) 60 rfl 30 i0 (.float .f64 0) 1 8 Try.underlying60 HI.out.1 HI.out.2.1 HI.out.2.2.1 HI.out.2.2.2 rfl (by decide) (some ⟨g, 0, none⟩) ws.length ws.length (floats ws) rfl ?c1 ?c2 ?c3 ⟨w.heap.size, 0, none⟩ 1 1 [.float .f64 x] rfl rfl ?c4 ?c5 ?c6 ?c7 ?c8 ?_; rotate_left 8; intro v' w1 hown hgr; (rw [floats_app, ← HA.out, ← HL.out, World.size_alloc] at hown); have HO : Hid (Owned (w.heap.size + 1) v' all w1) := hown; obtain ⟨g1, c1, hv, hcells⟩ := HO.out.shape (by have := HL.out; omega); rw [HL.out] at hv; subst hv; have HC1 := Lib.hid hcells; have HG := Lib.hid hgr; clear hown hgr hcells)
  case c1 => intro h; cases h
  case c2 => rw [floats_len]; omega
  case c3 =>
    intro b hb j u hu
    obtain rfl : (⟨g, 0, none⟩ : Addr) = b := by injection hb
    obtain ⟨hj, rfl⟩ := floats_get hu
    rw [add_plain]
    have h0 := HC.out j hj
    exact ((bal (Below.refl _ w)).cell (World.block_lt_of_cell? w _ h0)).trans h0
  case c4 =>
    intro j u hu
    cases j with
    | zero => simp only [List.getElem?_cons_zero, Option.some.injEq] at hu; subst hu; rw [add_plain]; simp
    | succ j => simp at hu
  case c5 => intro u hu; rw [List.mem_singleton] at hu; subst hu; rfl
  case c6 => omega
  case c7 => unfold maxLen; omega
  case c8 => omega
  go_wp2_with (fail)
  have hbel : Below w.heap.size w w1 := bgr (bal (Below.refl _ _)) HG.out
  go_loop [6, 19] (fun t i => ∃ k : Nat, k ≤ all.length ∧ i = .int .i64 k ∧ t = .int .i64 (sumP (all.take k)) ∧ ∀ j (hj : j < k) (h2 : j < all.length), FM.may all[j] = true) (fun _ i => all.length - (intOf i).toNat)
  case atStart => exact ⟨0, by omega, rfl, rfl, fun j hj => by omega⟩
  case round =>
    obtain ⟨k, hk, rfl, rfl, hmk⟩ := hrel
    have HM := Lib.hid hmk
    clear hmk
    by_cases hlt : k < all.length
    · have hlt' : (k : Int) < (ws.length : Int) + 1 := by have := HL.out; omega
      have hcell1 : w1.cell? ⟨g1, k, none⟩ = some (.float .f64 all[k]) := HC1.out k hlt
      have hy := HB.out all[k] (List.getElem_mem hlt)
      have HT := Lib.hid (take_oneN all k hlt)
      have hs1 := sumP_le (all.take k)
      have hs2 : (all.take k).length = k := by rw [List.length_take]; omega
      have hk9 : (k : Int) ≤ 1000 := by have := HL.out; omega
      have hs3 : (sumP (all.take k) : Int) ≤ 256 * (k : Int) := by rw [hs2] at hs1; omega
      clear hs1 hs2
      obtain ⟨y, hyy⟩ : ∃ y, y = all[k] := ⟨_, rfl⟩
      have HY := Lib.hid hyy
      rw [← hyy] at hcell1 hy
      obtain ⟨s, hs⟩ : ∃ s, s = sumP (all.take k) := ⟨_, rfl⟩
      have HSk := Lib.hid hs
      rw [← hs] at hs3 ⊢
      cases hmy : FM.may y
      · have K : Hid (∀ W, Calls Try.prog 30 #[.float .f64 y] W fun e w' => e = .returned (.int .i64 1) ∧ w' = W) := fun W => check_no y W hy hmy
        have hbad : Hid (allMay (ws ++ [x]) = false) := show _ = _ by
          rw [← HA.out]
          cases hh : allMay all
          · rfl
          · have := all_take hh k hlt
            rw [← HY.out, hmy] at this; cases this
        clear hy hmy hyy hs
        go_wp2_with (go_at_call 30; refine (K.out _).mono ?_; rintro e w2 ⟨rfl, rfl⟩)
        go_ret2
        refine ⟨?_, ‹_›⟩
        rw [HV.out, HE.out]; unfold shareV shareE; rw [hbad.out, if_neg (by decide), if_neg (by decide)]; rfl
      · have K : Hid (∀ W, Calls Try.prog 30 #[.float .f64 y] W fun e w' => e = .returned (.int .i64 0) ∧ w' = W) := fun W => check_ok y W hy hmy
        obtain ⟨p, hp⟩ : ∃ p, p = FM.points y := ⟨_, rfl⟩
        have P : Hid (∀ W, Calls Try.prog 35 #[.float .f64 y] W fun e w' => e = .returned (.int .i64 p) ∧ w' = W) := fun W => by rw [hp]; exact points_any y W hy
        have hp2 : (p : Int) ≤ 256 := by have := FM.points_le y; omega
        have HP := Lib.hid hp
        have HMY := Lib.hid hmy
        clear hy hmy hyy hs hp
        go_wp2_with (first | (go_at_call 30; refine (K.out _).mono ?_; rintro e w2 ⟨rfl, rfl⟩) | (go_at_call 35; refine (P.out _).mono ?_; rintro e w2 ⟨rfl, rfl⟩))
        go_round
        case rel =>
          refine ⟨k + 1, by omega, by go_num, ?_, ?_⟩
          · rw [HT.out, sumP_snoc, ← HSk.out, ← HY.out, ← HP.out]; go_num
          · intro j hj h2
            by_cases hjk : j = k
            · subst hjk; rw [← HY.out]; exact HMY.out
            · exact HM.out j (by omega) h2
        case measure => simp [intOf]; omega
    · obtain rfl : k = ws.length + 1 := by have := HL.out; omega
      have hmx : FM.may x = true := by
        have := HM.out ws.length (by omega) (by have := HL.out; omega)
        have e : all[ws.length]'(by have := HL.out; omega) = x := by simp [HA.out]
        rw [e] at this; exact this
      have hgood : allMay (ws ++ [x]) = true := by
        rw [← HA.out]; unfold allMay; rw [List.all_eq_true]
        intro y hy
        obtain ⟨j, hj, rfl⟩ := List.getElem_of_mem hy
        exact HM.out j (by have := HL.out; omega) hj
      have hV : rv = if sumP ws = 0 then 0 else quoW (FM.points x) (sumP ws) := by rw [HV.out]; unfold shareV; rw [if_pos hgood]
      have hE : re = if sumP ws = 0 then 7 else 0 := by rw [HE.out]; unfold shareE; rw [if_pos hgood]
      obtain ⟨p, hp⟩ : ∃ p, p = FM.points x := ⟨_, rfl⟩
      obtain ⟨T, hT⟩ : ∃ T, T = sumP ws := ⟨_, rfl⟩
      have P : Hid (∀ W, Calls Try.prog 35 #[.float .f64 x] W fun e w' => e = .returned (.int .i64 p) ∧ w' = W) := fun W => by rw [hp]; exact points_any x W hx
      have hST : sumP all = T + p := by rw [hT, hp]; exact HS.out
      have htk : all.take (ws.length + 1) = all := by rw [← HL.out]; exact List.take_length
      rw [htk, hST]
      rw [← hT, ← hp] at hV
      rw [← hT] at hE
      have hp2 : (p : Int) ≤ 256 := by omega
      have hT2 : (T : Int) ≤ 256000 := by omega
      have hcast : ((T + p : Nat) : Int) = (T : Int) + (p : Int) := by omega
      rw [hcast]
      by_cases h0 : T = 0
      · rw [if_pos h0] at hV hE
        clear hmx hgood hp hT hST hcast hP hPs htk
        subst h0 hV hE
        have e0 : ((0 : Nat) : Int) = 0 := rfl
        go_wp2_with (go_at_call 35; refine (P.out _).mono ?_; rintro e w2 ⟨rfl, rfl⟩)
        go_ret2
        exact ⟨rfl, ‹_›⟩
      · rw [if_neg h0] at hV hE
        have hq := quo_run p T (by omega) (by omega) h0
        rw [← hV] at hq
        have h0' : ((T : Int) == 0) = false := by rw [beq_eq_false_iff_ne]; omega
        have hq' := hq w1
        clear hmx hgood hp hT hST hcast hP hPs hV h0 hq htk
        subst hE
        go_wp2_with (go_at_call 35; refine (P.out _).mono ?_; rintro e w2 ⟨rfl, rfl⟩)
        go_ret2
        exact ⟨rfl, ‹_›⟩

end Go.Proofs.Ytgonagkhnkhcnaa
