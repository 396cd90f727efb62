import Derived.Test.YtfagkmmenfeppaaDoorCrcWalkA
namespace Go.Proofs.YtfagkmmenfeppaaDoor.CrcW
set_option maxRecDepth 100000
open Go.RowKit
theorem not_u32 (x : BitVec 32) : bits .xor .u32 IntKind.u32.max (x.toNat : Int) = ((~~~x).toNat : Int) := by
  have h : IntKind.u32.max = ((BitVec.allOnes 32).toNat : Int) := by decide
  rw [h, xor_u32]
  rw [BitVec.allOnes_xor]
def cat (l : List ByteArray) (k : Nat) : List UInt8 := ((l.take k).map (·.data.toList)).flatten
theorem cat_succ (l : List ByteArray) (k : Nat) (h : k < l.length) : cat l (k + 1) = cat l k ++ l[k].data.toList := by
  unfold cat; rw [List.take_succ_eq_append_getElem h, List.map_append, List.flatten_append]; simp
theorem sum_unfold (l : List UInt8) : ~~~ Crc.over (4294967295#32) l = Crc.sum l := rfl
set_option maxRecDepth 100000 in
set_option maxHeartbeats 400000 in
theorem sum_any (l : List ByteArray) (b c : Nat) (w : World) (hn : l.length ≤ 100) (hc : ∀ j (h : j < l.length), w.cell? ⟨b, j, none⟩ = some (.string l[j])) (hs : ∀ s ∈ l, s.size ≤ 9223372036854775807) :
    Calls Tryd.prog 25 #[.slice (some ⟨b, 0, none⟩) l.length c] w fun e w' => e = .returned (.int .u32 (Crc.sum (cat l l.length)).toNat) ∧ Below w.heap.size w w' := by
  have Hc := Lib.hid hc
  have Hs := Lib.hid hs
  clear hc hs
  go_enter Tryd.func25, Tryd.ntmps25
  go_wp2_with (fail)
  go_loopw [3, 8] (fun v n wr => ∃ k : Nat, k ≤ l.length ∧ n = .int .i64 k ∧ v = .int .u32 (Crc.over (4294967295#32) (cat l k)).toNat ∧ Below w.heap.size w wr) (fun _ n _ => l.length - (intOf n).toNat)
  case atStart => exact ⟨0, by omega, rfl, rfl, Below.refl _ _⟩
  case round =>
    obtain ⟨k, hk, rfl, rfl, hb⟩ := hrel
    by_cases hlt : k < l.length
    · have hcell : wr.cell? ⟨b, k, none⟩ = some (.string l[k]) := by
        have h0 := Hc.out k hlt
        exact (hb.cell (World.block_lt_of_cell? w _ h0)).trans h0
      have hsz := Hs.out l[k] (List.getElem_mem hlt)
      have HR := Lib.hid (cat_succ l k hlt)
      go_wp2_with (go_at_call 45; refine (over_any _ _ _ hsz).mono ?_; rintro e w1 ⟨rfl, hb1⟩)
      go_roundw
      case rel => exact ⟨k + 1, by omega, by go_num, by rw [HR.out, Crc.over_append], hb.trans (hb1.mono hb.size)⟩
      case measure => simp [intOf]; omega
    · have hk2 : k = l.length := by omega
      subst hk2
      obtain ⟨r, hr⟩ : ∃ r, r = Crc.sum (cat l l.length) := ⟨_, rfl⟩
      obtain ⟨y, hy⟩ : ∃ y, y = Crc.over (4294967295#32) (cat l l.length) := ⟨_, rfl⟩
      have e2 : bits .xor .u32 IntKind.u32.max (y.toNat : Int) = (r.toNat : Int) := by rw [hr, hy]; exact not_u32 _
      rw [← hy]
      have HR := Lib.hid hr
      clear hr hy
      go_wp2
      go_ret
      exact ⟨by rw [← HR.out]; rfl, hb⟩
set_option maxRecDepth 100000 in
theorem sum_nil (w : World) : Calls Tryd.prog 25 #[.slice none 0 0] w fun e w' => e = .returned (.int .u32 0) ∧ Below w.heap.size w w' := by
  have e1 : bits BinOp.xor IntKind.u32 IntKind.u32.max 4294967295 = 0 := by decide
  go_enter Tryd.func25, Tryd.ntmps25
  go_wp2
  refine wp_loop_rounds 1 ?_
  rw [rounds_succ]
  go_wp2
  go_ret
  exact ⟨rfl, Below.refl _ _⟩

end Go.Proofs.YtfagkmmenfeppaaDoor.CrcW
