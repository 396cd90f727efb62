import Derived.Test.YtmeemajlcnpkeaaLawsB
/- RingPoints, as the row asks for it. -/
namespace Go.Proofs.Ytmeemajlcnpkeaa
open Go.RowKit
theorem points_walk (w : World) (bs : List Bk) (a : Option Addr) (cap : Nat) (hin : BkIn w a bs) (hok : BkOk bs) (_ : bs.length ≤ cap) (_ : cap ≤ maxLen) (_ : a = none → bs.length = 0 ∧ cap = 0) :
    Calls Try.prog 5 #[.slice a bs.length cap] w fun e w' => e = .returned (.bool true) ∧ Below w.heap.size w w' := pointsA bs a cap w hin hok
end Go.Proofs.Ytmeemajlcnpkeaa
