import Derived.Test.YtgonagkhnkhcnaaNums
import Derived.ChangeArms
import Derived.OpenShut
import Derived.ShutString
import Derived.ChangeOld
/- A slice of numbers that came in, opened. -/
namespace Go.Proofs.Ytgonagkhnkhcnaa
set_option maxRecDepth 100000
open Go.RowKit
open Go.ChangeShapes Go.WideShapes Go.ChangeAt
theorem u64_nat' {a : Int} (h : (Lit.int .u64 a).wf = true) : ∃ b : Nat, a = b ∧ b < 18446744073709551616 := by
  have hmin : IntKind.u64.min = 0 := rfl
  have hmax : IntKind.u64.max = 18446744073709551615 := rfl
  simp only [Lit.wf, Bool.and_eq_true, decide_eq_true_eq] at h
  exact ⟨a.toNat, by omega, by omega⟩
theorem open_nums {H : Type} {enc : TypeId × Value → H} {w : World} {spare : Nat → Bool} {held : Bool} {fuel : Nat} {a : Option Addr} {len cap : Nat} {x : DataW H × List MemPlace} (h : DataW.trod enc Try.prog w 0 spare held fuel 23 [.slice a len cap] = some x) :
    ∃ zs : List Nat, zs.length = len ∧ NIn w a zs ∧ (a = none → zs = [] ∧ cap = 0) := by
  rcases open_ints Try.underlying23 Try.underlying40 (by kernel_rfl) h with ⟨hcs, _⟩ | ⟨y, l, c, zs, hcs, _, hl, hm, hz, _, hcell, hwz⟩
  · simp at hcs
    obtain ⟨rfl, rfl, rfl⟩ := hcs
    exact ⟨[], rfl, fun j hj => by simp at hj, fun _ => ⟨rfl, rfl⟩⟩
  · simp at hcs
    obtain ⟨rfl, rfl, rfl⟩ := hcs
    have hzl : len ≤ zs.length := by rw [hz]; split <;> omega
    refine ⟨(zs.take len).map Int.toNat, by simp; omega, fun j hj => ⟨y, rfl, ?_⟩, fun hc => by cases hc⟩
    have hjl : j < len := by simp at hj; omega
    have hjz : j < zs.length := by omega
    rw [hcell j hjz]
    have e1 : zs.getD j 0 = zs[j] := by rw [List.getD_eq_getElem?_getD, List.getElem?_eq_getElem hjz, Option.getD_some]
    obtain ⟨b, hb, _⟩ := u64_nat' (hwz zs[j] (List.getElem_mem hjz))
    have e2 : (((zs.take len).map Int.toNat)[j] : Nat) = b := by simp [hb]
    rw [e1, e2, hb]
end Go.Proofs.Ytgonagkhnkhcnaa
