import Derived.Test.YtgonagkhnkhcnaaPoolRem
/- What the statements of layer 23 call: do, few, one, awake; Same. -/
namespace Go.Proofs.Ytgonagkhnkhcnaa
set_option maxRecDepth 100000
open Go.RowKit
structure Ac where
  rem : Bool
  b : Bk
def ActIn (w : World) (a : Option Addr) (cs : List Ac) : Prop :=
  ∀ j (hj : j < cs.length), ∃ x, a = some x ∧ w.cell? (x.add (j * 4)) = some (.bool cs[j].rem) ∧ w.cell? { block := (x.add (j * 4)).block, off := (x.add (j * 4)).off + 1 } = some (.int .i64 cs[j].b.id) ∧
    w.cell? { block := (x.add (j * 4)).block, off := (x.add (j * 4)).off + 2 } = some (.string cs[j].b.addr) ∧ w.cell? { block := (x.add (j * 4)).block, off := (x.add (j * 4)).off + 3 } = some (.float .f64 cs[j].b.wt)
def ActOk (cs : List Ac) : Prop := ∀ c ∈ cs, c.b.wt < W64 ∧ c.b.addr.size ≤ maxLen ∧ (Lit.int .i64 c.b.id).wf = true
theorem ActIn.below {w w' : World} {a : Option Addr} {cs : List Ac} (h : ActIn w a cs) (hb : Below w.heap.size w w') : ActIn w' a cs := by
  intro j hj
  obtain ⟨x, hx, c0, c1, c2, c3⟩ := h j hj
  exact ⟨x, hx, (hb.cell (World.block_lt_of_cell? w _ c0)).trans c0, (hb.cell (World.block_lt_of_cell? w _ c1)).trans c1, (hb.cell (World.block_lt_of_cell? w _ c2)).trans c2, (hb.cell (World.block_lt_of_cell? w _ c3)).trans c3⟩
def doE (L : List Bk) (c : Ac) : Int := if c.rem then remE L c.b.id else addE L c.b
def doL (L : List Bk) (c : Ac) : List Bk := if c.rem then out L c.b.id else addL L c.b
def DoPost (B P M : Nat) (L' : List Bk) (E : Int) (w : World) (e : Ending) (w' : World) : Prop :=
  e = .returned (.int .i64 E) ∧ (∃ ps', PoolAt B P M L' ps' w') ∧ Below B w w' ∧ (∀ k, k < w.heap.size → k ≠ P → k ≠ M → w'.heap[k]? = w.heap[k]?)
set_option maxHeartbeats 1000000 in
theorem do_any (B P M : Nat) (L : List Bk) (ps : List (Nat × Nat)) (c : Ac) (w : World) (h : PoolAt B P M L ps w) (hw : c.b.wt < W64) (hs : c.b.addr.size ≤ maxLen) (hi : (Lit.int .i64 c.b.id).wf = true) :
    Calls Try.prog 9 #[.pointer (some ⟨P, 0, none⟩), .agg #[.bool c.rem, .int .i64 c.b.id, .string c.b.addr, .float .f64 c.b.wt]] w fun e w' => DoPost B P M (doL L c) (doE L c) w e w' := by
  obtain ⟨rem, ⟨id, ad, wt⟩⟩ := c
  simp only at hw hs hi ⊢
  obtain ⟨W0, hW0⟩ : ∃ W0, W0 = w.alloc (.cells #[.bool rem, .int .i64 id, .string ad, .float .f64 wt] 34) := ⟨_, rfl⟩
  have hb0 : Below w.heap.size w W0 := by rw [hW0]; exact (Below.refl _ w).alloc (Nat.le_refl _) _
  have h0 := h.below hb0
  have hBw : B ≤ w.heap.size := by
    obtain ⟨R, u, h1, _⟩ := h.ring
    have := heap_lt h1
    have := h.bP
    omega
  have A := Lib.hid (add_any B P M L ps ⟨id, ad, wt⟩ W0 h0 hw hs hi)
  have D := Lib.hid (rem_any B P M L ps id W0 h0 hi)
  unfold bkv at A
  rw [hW0] at A D
  simp only at A
  have HB0 := Lib.hid hb0
  have HBW := Lib.hid hBw
  have HW0 := Lib.hid hW0
  clear h h0 hb0 hBw hw hs hi hW0
  cases rem with
  | true =>
    go_enter Try.func9, Try.ntmps9
    go_wp2_with (go_at_call 11; refine D.out.mono ?_; rintro e w1 ⟨rfl, h1, h2, h3⟩)
    go_ret
    rw [← HW0.out] at h2 h3
    exact ⟨rfl, h1, (HB0.out.mono HBW.out).trans h2, fun k hk hp hm => by rw [h3 k (Nat.lt_of_lt_of_le hk HB0.out.size) hp hm, HB0.out.block k hk]⟩
  | false =>
    go_enter Try.func9, Try.ntmps9
    go_wp2_with (go_at_call 13; refine A.out.mono ?_; rintro e w1 ⟨rfl, h1, h2, h3⟩)
    go_ret
    rw [← HW0.out] at h2 h3
    exact ⟨rfl, h1, (HB0.out.mono HBW.out).trans h2, fun k hk hp hm => by rw [h3 k (Nat.lt_of_lt_of_le hk HB0.out.size) hp hm, HB0.out.block k hk]⟩
def fewA (cs : List Ac) : Bool := decide (cs.length ≤ 101) && cs.all (fun c => decide (c.b.addr.size ≤ 300))
set_option maxHeartbeats 2000000 in
theorem few_any (cs : List Ac) (a : Option Addr) (cap : Nat) (w : World) (hin : ActIn w a cs) (hok : ActOk cs) :
    Calls Try.prog 7 #[.slice a cs.length cap] w fun e w' => e = .returned (.bool (fewA cs)) ∧ w' = w := by
  have HI := Lib.hid hin
  have HO := Lib.hid hok
  clear hin hok
  go_enter Try.func7, Try.ntmps7
  go_wp2_with (fail)
  go_loop [3] (fun i => ∃ k : Nat, k ≤ cs.length ∧ i = .int .i64 k ∧ k ≤ 101 ∧ Hid ((cs.take k).all (fun c => decide (c.b.addr.size ≤ 300)) = true)) (fun i => cs.length - (intOf i).toNat)
  case atStart => exact ⟨0, by omega, rfl, by omega, rfl⟩
  case round =>
    obtain ⟨k, hk, rfl, hk81, hall⟩ := hrel
    by_cases hlt : k < cs.length
    · obtain ⟨x, rfl, _, _, c2, _⟩ := HI.out k hlt
      have hsz := (HO.out cs[k] (List.getElem_mem hlt)).2.1
      obtain ⟨ad, had⟩ : ∃ ad, ad = cs[k].b.addr := ⟨_, rfl⟩
      rw [← had] at c2 hsz
      have HAD := Lib.hid had
      clear had
      by_cases h3 : ad.size ≤ 300
      · have h3' : ¬ (300 : Int) < (ad.size : Int) := by omega
        by_cases h4 : k ≤ 100
        · have h4' : ¬ (100 : Int) < (k : Int) := by omega
          have A2 : Hid ((cs.take (k + 1)).all (fun c => decide (c.b.addr.size ≤ 300)) = true) := show _ = true by
            rw [take_one cs k hlt, List.all_append, hall.out, Bool.true_and, List.all_cons, List.all_nil, Bool.and_true, ← HAD.out]; exact decide_eq_true h3
          go_wp2_with (fail)
          exact ⟨⟨k + 1, by omega, by go_num, by omega, A2⟩, by simp [intOf] <;> omega⟩
        · have h4' : (100 : Int) < (k : Int) := by omega
          have e0 : Hid (fewA cs = false) := show fewA cs = false by
            unfold fewA; rw [decide_eq_false (by omega)]; rfl
          go_wp2_with (fail)
          go_ret
          exact ⟨by rw [e0.out]; rfl, rfl⟩
      · have h3' : (300 : Int) < (ad.size : Int) := by omega
        have e0 : Hid (fewA cs = false) := show fewA cs = false by
          unfold fewA
          rw [Bool.and_eq_false_iff]
          right
          rw [List.all_eq_false]
          exact ⟨cs[k], List.getElem_mem hlt, by rw [← HAD.out]; simpa using h3⟩
        go_wp2_with (fail)
        go_ret
        exact ⟨by rw [e0.out]; rfl, rfl⟩
    · obtain rfl : k = cs.length := by omega
      have e0 : Hid (fewA cs = true) := show fewA cs = true by
        have h := hall.out
        rw [List.take_length] at h
        unfold fewA; rw [decide_eq_true hk81, h]; rfl
      go_wp2_with (fail)
      go_ret
      exact ⟨by rw [e0.out]; rfl, rfl⟩
theorem results_cell1 {fn : Func} {p : Tmp} {ty : TypeId} (h : fn.results = #[.cell p ty]) (tmps : Array Value) (P : Program) (w : World) :
    (results fn tmps).run P w = ((asAddr (tmps.getD p undef)).run P w).andThen fun a w₁ => (loadVar ty a).run P w₁ := by
  simp only [results, h]
  simp [Sem.run_bind, Result.andThen]
theorem one_any (i : Int) (w : World) : Calls Try.prog 19 #[.int .i64 i] w fun e w' => e = .returned (.agg #[.int .i64 i, .string ⟨#[97, 98, 99, 100]⟩, .float .f64 4607182418800017408]) ∧ Below w.heap.size w w' := by
  have hsf := fun (b : Nat) (W : World) (c : Addr) (m : Mode) => store_float W c b m
  go_enter Try.func19, Try.ntmps19
  go_wp2_with (fail)
  refine bodyPost_ret (v := .agg #[.int .i64 i, .string ⟨#[97, 98, 99, 100]⟩, .float .f64 4607182418800017408]) ?_ rfl ⟨rfl, (Below.refl _ w).alloc (Nat.le_refl _) _⟩
  rw [results_cell1 rfl]
  go_simp
end Go.Proofs.Ytgonagkhnkhcnaa
