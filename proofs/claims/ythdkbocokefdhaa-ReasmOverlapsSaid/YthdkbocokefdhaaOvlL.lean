import Derived.Test.YthdkbocokefdhaaOvlA
import Derived.Test.YthdkbocokefdhaaOpens
/- ReasmOverlaps, at the law's arguments. -/
namespace Go.Proofs.Ythdkbocokefdhaa
set_option maxRecDepth 100000
open Go.RowKit
theorem u8_nat {a : Int} (h : (Lit.int .u8 a).wf = true) : ∃ b : Nat, a = b ∧ b < 256 := by
  have hmin : IntKind.u8.min = 0 := rfl
  have hmax : IntKind.u8.max = 255 := rfl
  simp only [Lit.wf, Bool.and_eq_true, decide_eq_true_eq] at h
  exact ⟨a.toNat, by omega, by omega⟩
theorem ovl_law (w : World) (g : H4) (hg : g.small) (s : ByteArray) (ws : s.size ≤ maxLen) (mtu : Int) (_ : (Lit.int .i64 mtu).wf = true) (ak : Int) (hak : (Lit.int .u8 ak).wf = true) (bz : Int) (hbz : (Lit.int .u8 bz).wf = true) :
    Calls Try.prog 6 #[hv g, .string s, .int .i64 mtu, .int .u8 ak, .int .u8 bz] w fun e w' => e = .returned (.bool true) ∧ Below w.heap.size w w' := by
  obtain ⟨b, rfl, hb⟩ := u8_nat hak
  obtain ⟨c, rfl, hc⟩ := u8_nat hbz
  have h := ovl_walk g s.data.toList mtu b hb (UInt8.ofNat c) w hg (by have e : s.data.toList.length = s.size := by simp
                                                                       unfold maxLen at ws; omega)
  have e : (UInt8.ofNat c).toNat = c := by rw [UInt8.toNat_ofNat']; exact Nat.mod_eq_of_lt hc
  rw [e] at h
  exact h
end Go.Proofs.Ythdkbocokefdhaa
