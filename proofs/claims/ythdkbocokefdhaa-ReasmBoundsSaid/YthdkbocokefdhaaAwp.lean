import Derived.Test.YthdkbocokefdhaaCutP
/- The document's example, reckoned. -/
namespace Go.Proofs.Ythdkbocokefdhaa
def ah (off : Int) (mf : Bool) : H4 := ⟨0, 0, off, 0, 0, false, mf, [97, 98, 99, 100], [101, 102, 103, 104], []⟩
def apay : List UInt8 := [48, 49, 50, 51, 52, 53, 54, 55, 56, 57, 97, 98, 99, 100, 101, 102]
def okL (x : Except Nat (List UInt8)) : List UInt8 := match x with | .ok l => l | .error _ => []
def apl : List UInt8 := okL (putE (ah 0 false) apay)
def ax0 : List UInt8 := okL (putE (ah 0 true) (apay.take 8))
def ax1 : List UInt8 := okL (putE (ah 1 false) (apay.drop 8))
def ast : Sto := ⟨64, 1048576, 64⟩
theorem apl_ok : putE (ah 0 false) apay = .ok apl := by kernel_rfl
theorem ax0_ok : putE (ah 0 true) (apay.take 8) = .ok ax0 := by kernel_rfl
theorem ax1_ok : putE (ah 1 false) (apay.drop 8) = .ok ax1 := by kernel_rfl
theorem apl_get : getE apl = .ok (ah 0 false, apay) := by kernel_rfl
theorem apl_len : apl.length = 36 := by kernel_rfl
theorem ax0_len : ax0.length = 28 := by kernel_rfl
theorem ax1_len : ax1.length = 28 := by kernel_rfl
theorem add1 : (addT ast [] ax1).1 = ([], 10) := by kernel_rfl
theorem add2 : (addT ast (addT ast [] ax1).2 ax0).1 = (apl, 0) := by kernel_rfl
theorem add3 : (addT ast (addT ast (addT ast [] ax1).2 ax0).2 ax0).1 = ([], 12) := by kernel_rfl
end Go.Proofs.Ythdkbocokefdhaa
