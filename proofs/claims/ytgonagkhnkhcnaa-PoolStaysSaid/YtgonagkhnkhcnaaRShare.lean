import Derived.Test.YtgonagkhnkhcnaaShareN
/- The walk of the reference's Share. -/
namespace Go.Proofs.Ytgonagkhnkhcnaa
set_option maxRecDepth 100000
open Go.RowKit
def rs0 (x : Nat) (ws : List Nat) : Int := if allMay (ws ++ [x]) then (if sumP ws = 0 then 0 else (FM.points x : Int)) else 0
def rs1 (x : Nat) (ws : List Nat) : Int := if allMay (ws ++ [x]) then (sumP ws : Int) else 0
theorem allMay_app (a b : List Nat) : allMay (a ++ b) = (allMay a && allMay b) := by unfold allMay; exact List.all_append
theorem allMay_one (x : Nat) : allMay [x] = FM.may x := by simp [allMay]
end Go.Proofs.Ytgonagkhnkhcnaa
