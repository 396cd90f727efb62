import Derived.Test.YthdkbocokefdhaaPcL
import Derived.Test.YthdkbocokefdhaaTk
/- Whether two pieces fit. -/
namespace Go.Proofs.Ythdkbocokefdhaa
set_option maxRecDepth 100000
open Go.RowKit
def fitV (ea al eb bl : Nat) (am bm : Bool) : Bool := (decide (ea ≤ bl) || decide (eb ≤ al)) && !(!am && !bm) && (am || decide (eb ≤ ea)) && (bm || decide (ea ≤ eb))
theorem load74 {X : Nat} {b0 b1 b2 b3 b4 : Int} {b5 b6 : Bool} {b7 b8 b9 sb : ByteArray} {bl : Nat} (ρ : Operand → Value) (o : Oper) (x : Operand) (V : World) (q : V.heap[X]? = some (.cells #[.int .i64 b0, .int .i64 b1, .int .i64 b2, .int .i64 b3, .int .i64 b4, .bool b5, .bool b6, .string b7, .string b8, .string b9, .int .i64 (bl : Nat), .string sb] 74 (0, 0)))
    (ho : o.op = .load 74 x) (hx : ρ x = .pointer (some ⟨X, 0, none⟩)) : (execOp ρ o).run Try.prog V = .ok (.value (.agg #[.int .i64 b0, .int .i64 b1, .int .i64 b2, .int .i64 b3, .int .i64 b4, .bool b5, .bool b6, .string b7, .string b8, .string b9, .int .i64 (bl : Nat), .string sb])) V := by
  unfold execOp
  rw [ho]
  have q0 := cellAt (i := 0) (v := .int .i64 b0) q rfl
  have q1 := cellAt (i := 1) (v := .int .i64 b1) q rfl
  have q2 := cellAt (i := 2) (v := .int .i64 b2) q rfl
  have q3 := cellAt (i := 3) (v := .int .i64 b3) q rfl
  have q4 := cellAt (i := 4) (v := .int .i64 b4) q rfl
  have q5 := cellAt (i := 5) (v := .bool b5) q rfl
  have q6 := cellAt (i := 6) (v := .bool b6) q rfl
  have q7 := cellAt (i := 7) (v := .string b7) q rfl
  have q8 := cellAt (i := 8) (v := .string b8) q rfl
  have q9 := cellAt (i := 9) (v := .string b9) q rfl
  have q10 := cellAt (i := 10) (v := .int .i64 (bl : Nat)) q rfl
  have q11 := cellAt (i := 11) (v := .string sb) q rfl
  simp only [hx]
  go_simp
structure FitSt (A B : Nat) (CA CB : Array Value) (w V : World) : Prop where
  a : V.heap[A]? = some (.cells CA 74 (0, 0))
  b : V.heap[B]? = some (.cells CB 74 (0, 0))
  bw : Below w.heap.size w V
theorem FitSt.far {A B : Nat} {CA CB : Array Value} {w V V' : World} (h : FitSt A B CA CB w V) (hb : Below V.heap.size V V') : FitSt A B CA CB w V' :=
  ⟨(hb.block _ (heap_lt h.a)).trans h.a, (hb.block _ (heap_lt h.b)).trans h.b, h.bw.trans (hb.mono h.bw.size)⟩
theorem FitSt.drew {A B : Nat} {CA CB : Array Value} {w V : World} (h : FitSt A B CA CB w V) : FitSt A B CA CB w V.drew := ⟨h.a, h.b, h.bw.drew⟩
theorem fit_start (w : World) (CA CB : Array Value) : FitSt w.heap.size (w.heap.size + 1) CA CB w ((w.alloc (.cells CA 74)).alloc (.cells CB 74)) := by
  refine ⟨?_, ?_, ((Below.refl _ _).alloc (Nat.le_refl _) _).alloc (by simp) _⟩
  · rw [Below.heap_alloc _ _ _ (by rw [World.size_alloc]; omega)]; exact alloc_new _ _
  · have := alloc_new (w.alloc (.cells CA 74)) (.cells CB 74)
    simpa using this
theorem fit_ff (ea al eb bl : Nat) : fitV ea al eb bl false false = false := by simp [fitV]
set_option maxHeartbeats 8000000 in
theorem fits_c (a0 a1 a2 a3 a4 b0 b1 b2 b3 b4 : Int) (a5 a6 b5 b6 : Bool) (a7 a8 a9 sa b7 b8 b9 sb : ByteArray) (al bl : Nat) (ea eb : Nat) (hea : ea = al + sa.size) (hla : ea ≤ 1000000000) (heb : eb = bl + sb.size) (hlb : eb ≤ 1000000000) (w : World) :
    Calls Try.prog 34 #[.agg #[.int .i64 a0, .int .i64 a1, .int .i64 a2, .int .i64 a3, .int .i64 a4, .bool a5, .bool a6, .string a7, .string a8, .string a9, .int .i64 (al : Nat), .string sa], .agg #[.int .i64 b0, .int .i64 b1, .int .i64 b2, .int .i64 b3, .int .i64 b4, .bool b5, .bool b6, .string b7, .string b8, .string b9, .int .i64 (bl : Nat), .string sb]] w fun e' w' => e' = .returned (.bool (fitV ea al eb bl a6 b6)) ∧ Below w.heap.size w w' := by
  obtain ⟨r, hr⟩ : ∃ r, r = fitV ea al eb bl a6 b6 := ⟨_, rfl⟩
  rw [← hr]
  have LA : Hid (∀ V, Calls Try.prog 62 #[.agg #[.int .i64 a0, .int .i64 a1, .int .i64 a2, .int .i64 a3, .int .i64 a4, .bool a5, .bool a6, .string a7, .string a8, .string a9, .int .i64 (al : Nat), .string sa]] V fun e' w' => e' = .returned (.bool (!a6)) ∧ Below V.heap.size V w') := Lib.hid (fun V => last_c a0 a1 a2 a3 a4 a5 a6 a7 a8 a9 sa al V)
  have LB : Hid (∀ V, Calls Try.prog 62 #[.agg #[.int .i64 b0, .int .i64 b1, .int .i64 b2, .int .i64 b3, .int .i64 b4, .bool b5, .bool b6, .string b7, .string b8, .string b9, .int .i64 (bl : Nat), .string sb]] V fun e' w' => e' = .returned (.bool (!b6)) ∧ Below V.heap.size V w') := Lib.hid (fun V => last_c b0 b1 b2 b3 b4 b5 b6 b7 b8 b9 sb bl V)
  have EA : Hid (∀ V, Calls Try.prog 61 #[.agg #[.int .i64 a0, .int .i64 a1, .int .i64 a2, .int .i64 a3, .int .i64 a4, .bool a5, .bool a6, .string a7, .string a8, .string a9, .int .i64 (al : Nat), .string sa]] V fun e' w' => e' = .returned (.int .i64 (ea : Nat)) ∧ Below V.heap.size V w') := Lib.hid (fun V => end_c a0 a1 a2 a3 a4 a5 a6 a7 a8 a9 sa al ea hea hla V)
  have EB : Hid (∀ V, Calls Try.prog 61 #[.agg #[.int .i64 b0, .int .i64 b1, .int .i64 b2, .int .i64 b3, .int .i64 b4, .bool b5, .bool b6, .string b7, .string b8, .string b9, .int .i64 (bl : Nat), .string sb]] V fun e' w' => e' = .returned (.int .i64 (eb : Nat)) ∧ Below V.heap.size V w') := Lib.hid (fun V => end_c b0 b1 b2 b3 b4 b5 b6 b7 b8 b9 sb bl eb heb hlb V)
  have H0 := Lib.hid (fit_start w #[.int .i64 a0, .int .i64 a1, .int .i64 a2, .int .i64 a3, .int .i64 a4, .bool a5, .bool a6, .string a7, .string a8, .string a9, .int .i64 (al : Nat), .string sa] #[.int .i64 b0, .int .i64 b1, .int .i64 b2, .int .i64 b3, .int .i64 b4, .bool b5, .bool b6, .string b7, .string b8, .string b9, .int .i64 (bl : Nat), .string sb])
  obtain ⟨c1, h1⟩ : ∃ c, decide (ea ≤ bl) = c := ⟨_, rfl⟩
  obtain ⟨c2, h2⟩ : ∃ c, decide (eb ≤ al) = c := ⟨_, rfl⟩
  obtain ⟨c3, h3⟩ : ∃ c, decide (eb ≤ ea) = c := ⟨_, rfl⟩
  obtain ⟨c4, h4⟩ : ∃ c, decide (ea ≤ eb) = c := ⟨_, rfl⟩
  have hr2 : r = ((c1 || c2) && !(!a6 && !b6) && (a6 || c3) && (b6 || c4)) := by rw [hr, ← h1, ← h2, ← h3, ← h4]; rfl
  have g1 : decide ((ea : Int) ≤ (bl : Int)) = c1 := by rw [← h1]; exact decide_eq_decide.2 Int.ofNat_le
  have g2 : decide ((eb : Int) ≤ (al : Int)) = c2 := by rw [← h2]; exact decide_eq_decide.2 Int.ofNat_le
  have g3 : decide ((eb : Int) ≤ (ea : Int)) = c3 := by rw [← h3]; exact decide_eq_decide.2 Int.ofNat_le
  have g4 : decide ((ea : Int) ≤ (eb : Int)) = c4 := by rw [← h4]; exact decide_eq_decide.2 Int.ofNat_le
  have HR := Lib.hid hr2
  clear hr hr2 hea hla heb hlb
  go_enter Try.func34, Try.ntmps34
  go_upto_region 1 with (fail)
  go_cut [5] (fun s5 wx => ∃ c, s5 = .bool c ∧ Hid (c = (c1 || c2) ∧ FitSt w.heap.size (w.heap.size + 1) #[.int .i64 a0, .int .i64 a1, .int .i64 a2, .int .i64 a3, .int .i64 a4, .bool a5, .bool a6, .string a7, .string a8, .string a9, .int .i64 (al : Nat), .string sa] #[.int .i64 b0, .int .i64 b1, .int .i64 b2, .int .i64 b3, .int .i64 b4, .bool b5, .bool b6, .string b7, .string b8, .string b9, .int .i64 (bl : Nat), .string sb] w wx))
  case first =>
    obtain ⟨W, hW⟩ : ∃ W, W = (w.alloc (.cells #[.int .i64 a0, .int .i64 a1, .int .i64 a2, .int .i64 a3, .int .i64 a4, .bool a5, .bool a6, .string a7, .string a8, .string a9, .int .i64 (al : Nat), .string sa] 74)).alloc (.cells #[.int .i64 b0, .int .i64 b1, .int .i64 b2, .int .i64 b3, .int .i64 b4, .bool b5, .bool b6, .string b7, .string b8, .string b9, .int .i64 (bl : Nat), .string sb] 74) := ⟨_, rfl⟩
    rw [← hW]
    have HS : Hid (FitSt w.heap.size (w.heap.size + 1) #[.int .i64 a0, .int .i64 a1, .int .i64 a2, .int .i64 a3, .int .i64 a4, .bool a5, .bool a6, .string a7, .string a8, .string a9, .int .i64 (al : Nat), .string sa] #[.int .i64 b0, .int .i64 b1, .int .i64 b2, .int .i64 b3, .int .i64 b4, .bool b5, .bool b6, .string b7, .string b8, .string b9, .int .i64 (bl : Nat), .string sb] w W.drew) := Lib.hid (by rw [hW]; exact H0.out.drew)
    clear hW
    cases c1
    all_goals refine wst (FitSt w.heap.size (w.heap.size + 1) #[.int .i64 a0, .int .i64 a1, .int .i64 a2, .int .i64 a3, .int .i64 a4, .bool a5, .bool a6, .string a7, .string a8, .string a9, .int .i64 (al : Nat), .string sa] #[.int .i64 b0, .int .i64 b1, .int .i64 b2, .int .i64 b3, .int .i64 b4, .bool b5, .bool b6, .string b7, .string b8, .string b9, .int .i64 (bl : Nat), .string sb] w) HS.out (fun hHeld => ?_)
    all_goals
      refine tv 0 (fun w h => load74 _ _ _ w h.a rfl rfl) ?_
      refine tk 2 ?_
      refine tv 3 (v := .int .i64 (bl : Nat)) ?_ ?_; (focus (intro w h; have q := cellAt (i := 10) (v := .int .i64 (bl : Nat)) h.b rfl; go_simp; first | done | with_reducible rfl))
      refine rd 1 (fun K hK => ?_); go_simp; (go_at_call 61; (with_reducible refine (EA.out _).mono ?_); rintro e w5 ⟨rfl, hb5⟩); go_simp; refine goon hK (hHeld.far hb5) (fun hHeld => ?_); clear hK K
      refine tk 4 ?_
      refine tk 5 ?_
      first | refine sk 6 ?_ | refine tv 6 (fun w h => load74 _ _ _ w h.b rfl rfl) ?_
      refine tk 8 ?_
      first | refine sk 9 ?_ | (refine tv 9 (v := .int .i64 (al : Nat)) ?_ ?_; (focus (intro w h; have q := cellAt (i := 10) (v := .int .i64 (al : Nat)) h.a rfl; go_simp; first | done | with_reducible rfl)))
      first | refine sk 7 ?_ | (refine rd 7 (fun K hK => ?_); go_simp; (go_at_call 61; (with_reducible refine (EB.out _).mono ?_); rintro e w5 ⟨rfl, hb5⟩); go_simp; refine goon hK (hHeld.far hb5) (fun hHeld => ?_); clear hK K)
      refine tk 10 ?_
      refine tk 11 ?_
      refine rd 12 (fun K hK => ?_); go_simp; refine goon hK hHeld (fun hHeld => ?_); clear hK K
      refine wpAnyH_done (by kernel_rfl) ?_ _
      simp only [Exit.then]
      go_wp2_with (fail)
      go_meet
      exact ⟨_, rfl, Lib.hid ⟨rfl, hHeld⟩⟩
  case rest =>
  obtain ⟨c, rfl, hz⟩ := hcut
  obtain ⟨hc, hS⟩ := hz.out
  clear hz H0
  have HR2 : Hid (r = (c && !(!a6 && !b6) && (a6 || c3) && (b6 || c4))) := Lib.hid (by rw [hc]; exact HR.out)
  clear HR hc
  have HS := Lib.hid hS.drew
  clear hS

  go_upto_region 2 with (fail)
  refine wst (FitSt w.heap.size (w.heap.size + 1) #[.int .i64 a0, .int .i64 a1, .int .i64 a2, .int .i64 a3, .int .i64 a4, .bool a5, .bool a6, .string a7, .string a8, .string a9, .int .i64 (al : Nat), .string sa] #[.int .i64 b0, .int .i64 b1, .int .i64 b2, .int .i64 b3, .int .i64 b4, .bool b5, .bool b6, .string b7, .string b8, .string b9, .int .i64 (bl : Nat), .string sb] w) HS.out (fun hHeld => ?_)
  cases c
  rotate_left
  cases a6 <;> cases b6
  rotate_left
  cases c3
  all_goals
    refine tk 0 ?_
    refine tk 1 ?_
    first | refine sk 2 ?_ | refine tv 2 (fun w h => load74 _ _ _ w h.a rfl rfl) ?_
    first | refine sk 3 ?_ | (refine rd 3 (fun K hK => ?_); go_simp; (go_at_call 62; (with_reducible refine (LA.out _).mono ?_); rintro e w5 ⟨rfl, hb5⟩); go_simp; refine goon hK (hHeld.far hb5) (fun hHeld => ?_); clear hK K)
    refine tk 4 ?_
    first | refine sk 5 ?_ | refine tv 5 (fun w h => load74 _ _ _ w h.b rfl rfl) ?_
    first | refine sk 6 ?_ | (refine rd 6 (fun K hK => ?_); go_simp; (go_at_call 62; (with_reducible refine (LB.out _).mono ?_); rintro e w5 ⟨rfl, hb5⟩); go_simp; refine goon hK (hHeld.far hb5) (fun hHeld => ?_); clear hK K)
    refine tk 7 ?_
    refine tk 8 ?_
    refine tk 9 ?_
    refine tk 10 ?_
    first | refine sk 11 ?_ | refine tv 11 (fun w h => load74 _ _ _ w h.a rfl rfl) ?_
    first | refine sk 12 ?_ | (refine rd 12 (fun K hK => ?_); go_simp; (go_at_call 62; (with_reducible refine (LA.out _).mono ?_); rintro e w5 ⟨rfl, hb5⟩); go_simp; refine goon hK (hHeld.far hb5) (fun hHeld => ?_); clear hK K)
    refine tk 13 ?_
    refine tk 14 ?_
    first | refine sk 15 ?_ | refine tv 15 (fun w h => load74 _ _ _ w h.b rfl rfl) ?_
    first | refine sk 17 ?_ | refine tv 17 (fun w h => load74 _ _ _ w h.a rfl rfl) ?_
    first | refine sk 16 ?_ | (refine rd 16 (fun K hK => ?_); go_simp; (go_at_call 61; (with_reducible refine (EB.out _).mono ?_); rintro e w5 ⟨rfl, hb5⟩); go_simp; refine goon hK (hHeld.far hb5) (fun hHeld => ?_); clear hK K)
    first | refine sk 18 ?_ | (refine rd 18 (fun K hK => ?_); go_simp; (go_at_call 61; (with_reducible refine (EA.out _).mono ?_); rintro e w5 ⟨rfl, hb5⟩); go_simp; refine goon hK (hHeld.far hb5) (fun hHeld => ?_); clear hK K)
    refine tk 19 ?_
    refine tk 20 ?_
    refine tk 21 ?_
    refine tk 22 ?_
    first | refine sk 23 ?_ | refine tv 23 (fun w h => load74 _ _ _ w h.b rfl rfl) ?_
    first | refine sk 24 ?_ | (refine rd 24 (fun K hK => ?_); go_simp; (go_at_call 62; (with_reducible refine (LB.out _).mono ?_); rintro e w5 ⟨rfl, hb5⟩); go_simp; refine goon hK (hHeld.far hb5) (fun hHeld => ?_); clear hK K)
    refine tk 25 ?_
    refine tk 26 ?_
    first | refine sk 27 ?_ | refine tv 27 (fun w h => load74 _ _ _ w h.a rfl rfl) ?_
    first | refine sk 29 ?_ | refine tv 29 (fun w h => load74 _ _ _ w h.b rfl rfl) ?_
    first | refine sk 28 ?_ | (refine rd 28 (fun K hK => ?_); go_simp; (go_at_call 61; (with_reducible refine (EA.out _).mono ?_); rintro e w5 ⟨rfl, hb5⟩); go_simp; refine goon hK (hHeld.far hb5) (fun hHeld => ?_); clear hK K)
    first | refine sk 30 ?_ | (refine rd 30 (fun K hK => ?_); go_simp; (go_at_call 61; (with_reducible refine (EB.out _).mono ?_); rintro e w5 ⟨rfl, hb5⟩); go_simp; refine goon hK (hHeld.far hb5) (fun hHeld => ?_); clear hK K)
    refine tk 31 ?_
    refine tk 32 ?_
    refine tk 33 ?_
    refine rd 34 (fun K hK => ?_); go_simp; refine goon hK hHeld (fun hHeld => ?_); clear hK K
    refine wpAnyH_done (by kernel_rfl) ?_ _
    simp only [Exit.then]
    go_wp2_with (fail)
    go_ret
    exact ⟨by rw [HR2.out]; first | rfl | simp, hHeld.bw⟩
end Go.Proofs.Ythdkbocokefdhaa
