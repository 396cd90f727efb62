import Derived.Test.YtgonagkhnkhcnaaHash
import Derived.Maps.OwnSet
import Derived.Maps.OwnOps
import Derived.Maps.Views
import Derived.Maps.AppendAt
import Derived.ArgAppend
import Derived.Deep.AppendLies
import Derived.Deep.RegionLaw
import Derived.Lib.SmallJoins
import Derived.Laws.OwnMore
import Derived.OwnWalk
import Derived.KernelRfl
import Derived.RowKit3
import Derived.RegionTactic
/- Package ring: the check of a backend; what a ring is made of. -/
namespace Go.Proofs.Ytgonagkhnkhcnaa
set_option maxRecDepth 100000
open Go.RowKit
/-- a backend: its number, address, weight -/
structure Bk where
  id : Int
  addr : ByteArray
  wt : Nat
def bk_ok (b : Bk) : Bool := decide (1 ≤ b.id) && decide (b.id ≤ 65535) && decide (b.addr.size = 4) && FM.may b.wt
def bkv (b : Bk) : Value := .agg #[.int .i64 b.id, .string b.addr, .float .f64 b.wt]
set_option maxRecDepth 100000 in
set_option maxHeartbeats 1000000 in
theorem rcheck_any (b : Bk) (w : World) (hw : b.wt < W64) (hs : b.addr.size ≤ maxLen) :
    Calls Try.prog 21 #[bkv b] w fun e w' => e = .returned (.int .i64 (if bk_ok b then 0 else 1)) ∧ Below w.heap.size w w' := by
  obtain ⟨id, ad, wt⟩ := b
  unfold bkv
  simp only at hw hs ⊢
  obtain ⟨r, hr⟩ : ∃ r : Int, r = (if bk_ok ⟨id, ad, wt⟩ then 0 else 1) := ⟨_, rfl⟩
  rw [← hr]
  have HR := Lib.hid hr
  have C : Hid (∀ W, Calls Try.prog 30 #[.float .f64 wt] W fun e w' => e = .returned (.int .i64 (if FM.may wt then 0 else 1)) ∧ w' = W) := fun W => by
    cases hm : FM.may wt
    · exact check_no wt W hw hm
    · exact check_ok wt W hw hm
  obtain ⟨q, hq⟩ : ∃ q : Int, q = (if FM.may wt then 0 else 1) := ⟨_, rfl⟩
  rw [← hq] at C
  have HQ := Lib.hid hq
  clear hr hq hw
  by_cases h1 : id < 1
  · have e0 : r = 1 := by rw [HR.out]; unfold bk_ok; simp; omega
    subst e0
    go_enter Try.func21, Try.ntmps21
    go_wp2_with (fail)
    go_ret
    exact ⟨rfl, (Below.refl _ w).alloc (Nat.le_refl _) _⟩
  · by_cases h2 : 65535 < id
    · have e0 : r = 1 := by rw [HR.out]; unfold bk_ok; simp; omega
      subst e0
      go_enter Try.func21, Try.ntmps21
      go_wp2_with (fail)
      go_ret
      exact ⟨rfl, (Below.refl _ w).alloc (Nat.le_refl _) _⟩
    · by_cases h3 : ((ad.size : Int) != 4) = true
      · have h4 : ¬ ad.size = 4 := by intro h; rw [h] at h3; exact absurd h3 (by decide)
        have e0 : r = 1 := by rw [HR.out]; unfold bk_ok; simp; omega
        subst e0
        clear h4
        go_enter Try.func21, Try.ntmps21
        go_wp2_with (fail)
        go_ret
        exact ⟨rfl, (Below.refl _ w).alloc (Nat.le_refl _) _⟩
      · replace h3 : ((ad.size : Int) != 4) = false := by cases h : ((ad.size : Int) != 4) <;> simp_all
        have h4 : ad.size = 4 := by
          have := bne_eq_false_iff_eq.1 h3; omega
        have e1 : bk_ok ⟨id, ad, wt⟩ = FM.may wt := by
          unfold bk_ok
          simp only
          rw [decide_eq_true (show 1 ≤ id by omega), decide_eq_true (show id ≤ 65535 by omega), decide_eq_true h4]; rfl
        have e0 : r = q := by rw [HR.out, HQ.out, e1]
        subst e0
        clear h4
        go_enter Try.func21, Try.ntmps21
        go_wp2_with (go_at_call 30; refine (C.out _).mono ?_; rintro e w1 ⟨rfl, rfl⟩)
        go_ret
        exact ⟨rfl, (Below.refl _ w).alloc (Nat.le_refl _) _⟩
/-! ### the set of numbers that were seen -/
def kl (z : Int) : Lit := .int .i64 z
def seenD (ids : List Int) : DataW Unit := Maps.setOf (.lit (.bool true)) (ids.map kl)
def Seen (b : Nat) (ids : List Int) (w : World) : Prop := w.ownsMap Try.prog 3 (plainElem (H := Unit) Try.prog 4) b ids.length (seenD ids)
/-- how many different ones -/
def dn (ids : List Int) : Nat := Maps.size (seenD ids)
theorem law3 : Maps.Keyed Try.prog 3 := Maps.int_keyed Try.underlying3
theorem kl_key (z : Int) : WideAt.IsKeyLit (kl z) := trivial
theorem kl_keys (ids : List Int) : ∀ x ∈ ids.map kl, WideAt.IsKeyLit x := by
  intro x hx
  obtain ⟨z, _, rfl⟩ := List.mem_map.1 hx
  exact kl_key z
theorem kl_ne {x y : Int} (h : x ≠ y) : kl x ≠ kl y := by intro e; unfold kl at e; injection e with _ e; exact h e
theorem seenD_snoc (ids : List Int) (x : Int) : seenD (ids ++ [x]) = (seenD ids).put (kl x) (.lit (.bool true)) := by
  unfold seenD; rw [List.map_append, List.map_singleton, Maps.setOf_snoc]
theorem seenD_has (ids : List Int) (x : Int) : Maps.has (seenD ids) (kl x) = decide (x ∈ ids) := by
  unfold seenD
  rw [Maps.has_setOf _ _ _ (kl_keys ids), List.any_map]
  rw [Bool.eq_iff_iff, List.any_eq_true, decide_eq_true_iff]
  constructor
  · rintro ⟨y, hy, h⟩
    have h2 : decide (IntKind.i64 = IntKind.i64 ∧ y = x) = true := h
    have h3 := of_decide_eq_true h2
    exact h3.2 ▸ hy
  · intro h
    exact ⟨x, h, decide_eq_true ⟨rfl, rfl⟩⟩
theorem seenD_tidy (ids : List Int) : Maps.Tidy (seenD ids) := Maps.tidy_setOf _ _ (kl_keys ids)
theorem dn_nil : dn [] = 0 := rfl
theorem dn_snoc (ids : List Int) (x : Int) : dn (ids ++ [x]) = if x ∈ ids then dn ids else dn ids + 1 := by
  unfold dn
  rw [seenD_snoc, Maps.size_put (seenD_tidy ids), seenD_has]
  by_cases h : x ∈ ids <;> simp [h]
theorem snoc_ind {α : Type} {p : List α → Prop} (h0 : p []) (h1 : ∀ l x, p l → p (l ++ [x])) (l : List α) : p l := by
  rw [← List.reverse_reverse l]
  induction l.reverse with
  | nil => exact h0
  | cons a t ih => rw [List.reverse_cons]; exact h1 _ _ ih
theorem seenD_at (ids : List Int) (x : Int) : (seenD ids).atKey (kl x) (.lit (.bool false)) = .lit (.bool (decide (x ∈ ids))) := by
  induction ids using snoc_ind with
  | h0 => rfl
  | h1 l y ih =>
    rw [seenD_snoc]
    by_cases h : x = y
    · subst h
      rw [Maps.atKey_put_same (seenD_tidy l).isMap (kl_key x)]
      simp
    · rw [Maps.atKey_put_other (kl_ne h), ih]
      simp [h]
theorem dn_le (ids : List Int) : dn ids ≤ ids.length := by
  induction ids using snoc_ind with
  | h0 => exact Nat.le_refl _
  | h1 l y ih => rw [dn_snoc, List.length_append]; split <;> simp <;> omega
theorem dn_nodup (ids : List Int) : dn ids = ids.length ↔ ids.Nodup := by
  induction ids using snoc_ind with
  | h0 => simp [dn_nil]
  | h1 l y ih =>
    have h1 := dn_le l
    rw [dn_snoc, List.length_append, List.nodup_append]
    by_cases h : y ∈ l
    · rw [if_pos h]
      constructor
      · intro e; simp at e; omega
      · intro e; exact absurd rfl (e.2.2 y h y (by simp))
    · rw [if_neg h]
      constructor
      · intro e
        refine ⟨ih.1 (by simp at e; omega), by simp, ?_⟩
        intro a ha b hb; simp at hb; subst hb; intro e2; subst e2; exact h ha
      · intro e; have := ih.2 e.1; simp; omega
theorem wf_i64 {z : Int} (h1 : -9223372036854775808 ≤ z) (h2 : z ≤ 9223372036854775807) : (Lit.int .i64 z).wf = true := by
  have hmin : IntKind.i64.min = -9223372036854775808 := rfl
  have hmax : IntKind.i64.max = 9223372036854775807 := rfl
  simp only [Lit.wf, Bool.and_eq_true, decide_eq_true_eq]; omega
theorem seen_new (w : World) : Seen w.heap.size [] (w.alloc (.map #[] 0)) := World.ownsMap_made _ _ _ _
theorem plain_bool {P : Program} {e : TypeId} (he : P.underlying e = some .bool) {v : Value} {z : DataW Unit × List MemPlace} (h : plainElem P e v = some z) : ∃ a, v = .bool a ∧ z = (.lit (.bool a), []) := by
  unfold plainElem at h
  rw [he] at h
  cases v <;> simp at h
  rename_i a
  exact ⟨a, rfl, h.symm⟩
theorem seen_look (b : Nat) (ids : List Int) (w : World) (h : Seen b ids w) (x : Int) (hx : (Lit.int .i64 x).wf = true) :
    (Instr.lookup 72 (.map (some b)) (.int .i64 x) false).run Try.prog w = .ok (.bool (decide (x ∈ ids))) w := by
  obtain ⟨v, ps, h1, h2⟩ := World.ownsMap.lookup h law3 Try.underlying72 (z := .bool false) (by simp [Try.zeroValue4]) (zd := .lit (.bool false)) (zp := []) (plainElem_bool Try.underlying4 false) (Maps.keyOf_int_mk Try.underlying3 hx)
  rw [h1]
  have e : (seenD ids).atKey (.int .i64 x) (.lit (.bool false)) = .lit (.bool (decide (x ∈ ids))) := seenD_at ids x
  rw [e] at h2
  obtain ⟨c, rfl, hc⟩ := plain_bool Try.underlying4 h2
  simp only [Prod.mk.injEq, DataW.lit.injEq, Lit.bool.injEq] at hc
  rw [hc.1]
theorem seen_len (b : Nat) (ids : List Int) (w : World) (h : Seen b ids w) (ty : TypeId) : (Builtin.len_ #[72] ty #[.map (some b)]).run Try.prog w = .ok (.int .i64 (dn ids)) w :=
  World.ownsMap.len h Try.underlying72 ty
theorem seen_put (b : Nat) (ids : List Int) (w : World) (h : Seen b ids w) (x : Int) (hx : (Lit.int .i64 x).wf = true) (hn : ids.length ≤ 100000) :
    ∃ w', (Instr.mapUpdate 72 (.map (some b)) (.int .i64 x) (.bool true)).run Try.prog w = .ok () w' ∧ Seen b (ids ++ [x]) w' ∧ w.grownBy w' (some b) := by
  obtain ⟨w', h1, h2, h3⟩ := World.ownsMap.update h law3 Try.underlying72 (by unfold maxLen; omega) (Maps.keyOf_int_mk Try.underlying3 hx) (plainElem_bool Try.underlying4 true)
  refine ⟨w', h1, ?_, h3⟩
  unfold Seen
  rw [seenD_snoc, List.length_append]
  exact h2

end Go.Proofs.Ytgonagkhnkhcnaa
