import Derived.Test.YtfagkmmenfeppaaDoorRefGa
import Derived.Test.YtfagkmmenfeppaaDoorRefGb
import Derived.Test.YtfagkmmenfeppaaDoorRefGc
import Derived.Test.YtfagkmmenfeppaaDoorRefGd
/- The document's Get: every text. -/
namespace Go.Proofs.YtfagkmmenfeppaaDoor
set_option maxRecDepth 100000
theorem rget_any (b : ByteArray) (w : World) (hs : b.size ≤ 1000000) : Calls Tryd.prog 14 #[.string b] w (RGetPost b w) := by
  have key : ∀ (lc zb : Bool), (∀ (c d : UInt8) (T : List UInt8) (f : Fam), b.data.toList.drop 12 = c :: d :: T → famOf d = some f → (c.toNat % 16 == 0) = lc ∧ decide (0 < f.2.2) = zb) → Calls Tryd.prog 14 #[.string b] w (RGetPost b w) := by
    intro lc zb h
    cases lc with
    | true =>
      cases zb with
      | true => exact rget_c b w hs h
      | false => exact rget_a b w hs h
    | false =>
      cases zb with
      | true => exact rget_d b w hs h
      | false => exact rget_b b w hs h
  cases hl : b.data.toList.drop 12 with
  | nil => exact key true true (fun c d T f h => by rw [hl] at h; cases h)
  | cons c X =>
    cases X with
    | nil => exact key true true (fun c d T f h => by rw [hl] at h; cases h)
    | cons d T =>
      rcases famOf_opt d with e | ⟨f, e⟩
      · refine key true true (fun c' d' T' f' h hf => ?_)
        rw [hl] at h
        injection h with h1 h2
        injection h2 with h2 h3
        rw [← h2, e] at hf; cases hf
      · refine key (c.toNat % 16 == 0) (decide (0 < f.2.2)) (fun c' d' T' f' h hf => ?_)
        rw [hl] at h
        injection h with h1 h2
        injection h2 with h2 h3
        rw [← h2, e] at hf
        injection hf with hf
        rw [← h1, ← hf]
        exact ⟨rfl, rfl⟩
end Go.Proofs.YtfagkmmenfeppaaDoor
