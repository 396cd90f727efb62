import Derived.Test.YtmijfhfjhbckdaaOpen
/- What several acts' bytes tell; few. -/
namespace Go.Proofs.Ytmijfhfjhbckdaa
set_option maxRecDepth 100000
open Go.RowKit
/-- bytes that tell just these entries, whatever stands behind -/
def Told (tx : List UInt8) (done : List EntP) : Prop := ∀ r, entP (tx ++ r).length (tx ++ r) = done ++ entP r.length r
theorem told_nil : Told [] [] := fun r => by simp
theorem told_one {tx : List UInt8} {done : List EntP} (h : Told tx done) {kn : UInt8} {body : List UInt8} {bd : BodyP} (hk : kn.toNat < 11) (hg : ∀ r, getP kn.toNat (body ++ r) = some (bd, r)) : Told (tx ++ kn :: body) (done ++ [.ok (kn.toNat, bd)]) := fun r => by
  have e : tx ++ kn :: body ++ r = tx ++ (kn :: (body ++ r)) := by simp
  rw [e, h, List.append_assoc]
  congr 1
  rw [List.length_cons, entP, if_neg (by omega), hg r]
  simp only [List.singleton_append]
  congr 1
  exact entP_fuel _ _ _ (by simp) (Nat.le_refl _)
theorem told_all {tx : List UInt8} {done : List EntP} (h : Told tx done) : entP tx.length tx = done := by
  have := h []
  simpa [entP] using this
/-- what Put answers -/
theorem put_form (a : ActL) (h : a.ok) : ∃ (S : ByteArray) (c : Int), a.put = .tuple #[.string S, .int .i64 c] ∧ (c ≠ 0 ∨ c = 0 ∧ ∃ (kn : UInt8) (body : List UInt8) (bd : BodyP), S = bs (kn :: body) ∧ kn.toNat < 11 ∧ (∀ r, getP kn.toNat (body ++ r) = some (bd, r)) ∧ actC kn.toNat bd = a.C ∧ S.size ≤ a.p.size + a.ad.size + 20) := by
  have hform : ∃ (S : ByteArray) (c : Int), a.put = .tuple #[.string S, .int .i64 c] ∧ (c = 0 ∨ c ≠ 0) := by
    unfold ActL.put putR
    split
    · exact ⟨_, _, rfl, .inr (by omega)⟩
    · split
      · split
        · exact ⟨_, _, rfl, .inl rfl⟩
        · exact ⟨_, _, rfl, .inr (by omega)⟩
      · exact ⟨_, _, rfl, .inr (by omega)⟩
  obtain ⟨S, c, hp, hc⟩ := hform
  refine ⟨S, c, hp, ?_⟩
  rcases hc with rfl | hc
  · refine .inr ⟨rfl, ?_⟩
    obtain ⟨kn, body, bd, h1, h2, h3, h4⟩ := put_back a h S hp
    refine ⟨kn, body, bd, h1, h2, h3, h4, ?_⟩
    have hS : S = bs (be (u64 a.k) 1 ++ a.body) := by
      unfold ActL.put at hp
      by_cases hk : a.k < 0 ∨ 11 ≤ a.k
      · rw [if_pos hk] at hp; simp at hp
      · rw [if_neg hk] at hp; exact (putR_ok hp).2.2
    have hpl : a.p.data.toList.length = a.p.size := by simp
    have hal : a.ad.data.toList.length = a.ad.size := by simp
    rw [hS, bs_size, List.length_append, be_length]
    have : a.body.length ≤ a.p.size + a.ad.size + 10 := by
      unfold ActL.body
      repeat' split
      all_goals (simp only [List.length_append, be_length, tunB_length, List.length_nil, hpl, hal]; omega)
    omega
  · exact .inl hc
set_option maxHeartbeats 2000000 in
theorem few_any (a : ActL) (w : World) : Calls Try.prog 12 #[.agg a.C] w fun e w' => e = .returned (.bool (decide (a.p.size ≤ 70000) && decide (a.ad.size ≤ 300))) ∧ Below w.heap.size w w' := by
  obtain ⟨k, p, id, ad, wt, md, sm, ky, va, df, tl, ts, n, d⟩ := a
  unfold ActL.C
  simp only
  obtain ⟨W, hW⟩ : ∃ W, W = w.alloc (.cells #[.int .i64 k, .string p, .int .i64 id, .string ad, .float .f64 wt, .int .i64 md, .bool sm, .bool ky, .int .u32 (va : Nat), .bool df, .int .i64 tl, .int .i64 ts, .int .i64 n, .int .i64 d] 47) := ⟨_, rfl⟩
  obtain ⟨A, hA⟩ : ∃ x, x = w.heap.size := ⟨_, rfl⟩
  have gA : W.heap[A]? = some (.cells #[.int .i64 k, .string p, .int .i64 id, .string ad, .float .f64 wt, .int .i64 md, .bool sm, .bool ky, .int .u32 (va : Nat), .bool df, .int .i64 tl, .int .i64 ts, .int .i64 n, .int .i64 d] 47 (0, 0)) := by rw [hW, hA]; exact alloc_new _ _
  have bW : Below w.heap.size w W := by rw [hW]; exact (Below.refl _ _).alloc (Nat.le_refl _) _
  have a1 := cellAt (i := 1) (v := .string p) gA rfl
  have a3 := cellAt (i := 3) (v := .string ad) gA rfl
  have BW := Lib.hid bW
  obtain ⟨F, hF⟩ : ∃ F, F = decide (p.size ≤ 70000) := ⟨_, rfl⟩
  obtain ⟨G, hG⟩ : ∃ G, G = decide (ad.size ≤ 300) := ⟨_, rfl⟩
  have f1 : decide ((p.size : Int) ≤ 70000) = F := by rw [hF]; simp only [decide_eq_decide]; omega
  have f2 : decide (p.size ≤ 70000) = F := hF.symm
  have g1 : decide ((ad.size : Int) ≤ 300) = G := by rw [hG]; simp only [decide_eq_decide]; omega
  have g2 : decide (ad.size ≤ 300) = G := hG.symm
  rw [← hF, ← hG]
  clear gA bW hF hG
  go_enter Try.func12, Try.ntmps12
  go_upto_region 1 with (fail)
  rw [← hW, ← hA]
  clear hW hA
  cases F with
  | true =>
    go_wp2_with (fail)
    go_ret
    exact ⟨by cases G <;> rfl, BW.out⟩
  | false =>
    go_wp2_with (fail)
    go_ret
    exact ⟨rfl, BW.out⟩
end Go.Proofs.Ytmijfhfjhbckdaa
