import Derived.Test.YtgonagkhnkhcnaaProg
import Derived.Test.YtgonagkhnkhcnaaFMath2
import Derived.WalkKit
import Derived.WalkSpells
import Derived.WalkLawsBesides
import Derived.Below
import Derived.Outline
import Derived.Deep.DeepFit
import Derived.Lib.Hide
import Derived.Laws.Externs
import Derived.Laws.FloatArith
/- The walks of package weight and of what it calls: each function's contract. -/
namespace Go.Proofs.Ytgonagkhnkhcnaa
set_option maxRecDepth 100000
open Go.RowKit
theorem bits_run (b : Nat) (w : World) : (callFunc 26 #[.float .f64 b]).run Try.prog w = .ok (.value (.int .u64 b)) w := by
  rw [run_callFunc_extern (e := Extern.MathFloatBits.float64bits) Try.func26 (by kernel_rfl) (by kernel_rfl) (by kernel_rfl) (by kernel_rfl)]
  rfl
theorem from_run (b : Nat) (w : World) : (callFunc 43 #[.int .u64 b]).run Try.prog w = .ok (.value (.float .f64 b)) w := by
  rw [run_callFunc_extern (e := Extern.MathFloatBits.float64frombits) Try.func43 (by kernel_rfl) (by kernel_rfl) (by kernel_rfl) (by kernel_rfl)]
  rfl
theorem ceil_run (b d : Nat) (w : World) (h : ∀ s t, Ieee.double.read b ≠ .nan s t) (hd : Ieee.double.write ((Ieee.double.read b).integral .up) = d) : (callFunc 67 #[.float .f64 b]).run Try.prog w = .ok (.value (.float .f64 d)) w := by
  rw [run_callFunc_extern (e := Extern.MathFloor.toIntegral "math.archCeil" .up) Try.func67 (by kernel_rfl) (by kernel_rfl) (by kernel_rfl) (by kernel_rfl)]
  obtain ⟨F, hF⟩ : ∃ F : Bool → Nat → Sem Value, Extern.MathFloor.toIntegral "math.archCeil" .up #[.float .f64 b] = (match Ieee.double.read b with | .nan s t => F s t | d => pure (.float .f64 (Ieee.double.write (d.integral .up)))) := ⟨_, rfl⟩
  rw [hF]
  cases hr : Ieee.double.read b with
  | nan s t => exact absurd hr (h s t)
  | number s m p => rw [hr] at hd; rw [← hd]; rfl
  | infinity s => rw [hr] at hd; rw [← hd]; rfl
theorem isNaN_any (b : Nat) (w : World) : Calls Try.prog 42 #[.float .f64 b] w fun e w' => e = .returned (.bool (FM.nan b)) ∧ w' = w := by
  have h := FM.order_self b
  cases hn : FM.nan b
  · rw [hn] at h
    have h' : (FloatKind.f64.format.order b b != some .eq) = false := by rw [bne, show FloatKind.f64.format = Ieee.double from rfl, h]; rfl
    clear h
    go_enter Try.func42, Try.ntmps42
    go_wp2
    go_ret
    exact ⟨rfl, rfl⟩
  · rw [hn] at h
    have h' : (FloatKind.f64.format.order b b != some .eq) = true := by rw [bne, show FloatKind.f64.format = Ieee.double from rfl, h]; rfl
    clear h
    go_enter Try.func42, Try.ntmps42
    go_wp2
    go_ret
    exact ⟨rfl, rfl⟩


end Go.Proofs.Ytgonagkhnkhcnaa
