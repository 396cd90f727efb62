import Derived.Test.YtfagkmmenfeppaaDoorProg
import Derived.Test.YtfagkmmenfeppaaDoorCrcMath
import Derived.WalkKit
import Derived.WalkSpells
import Derived.WalkLawsBesides
import Derived.Deep.LoopGhost
import Derived.Deep.QuietTactic
import Derived.BigQuiet
import Derived.Below
import Derived.Outline
import Derived.Deep.DeepFit
import Derived.Laws.Rows
import Derived.Laws.BitsLemmas
import Derived.Laws.NewBlocks
import Derived.Lib.Hide
namespace Go.Proofs.YtfagkmmenfeppaaDoor.CrcW
set_option maxRecDepth 100000
open Go.RowKit
theorem xor_u32 (x y : BitVec 32) : bits .xor .u32 (x.toNat : Int) (y.toNat : Int) = ((x ^^^ y).toNat : Int) := by
  unfold bits
  simp only [IntKind.bits, IntKind.wrap_u32]
  rw [BitVec.ofInt_natCast, BitVec.ofInt_natCast, BitVec.ofNat_toNat, BitVec.ofNat_toNat]
  rw [BitVec.setWidth_eq, BitVec.setWidth_eq]
  have := (x ^^^ y).isLt
  show ((x ^^^ y).toNat : Int) % 4294967296 = _
  omega
theorem and_u32 (x y : BitVec 32) : bits .and .u32 (x.toNat : Int) (y.toNat : Int) = ((x &&& y).toNat : Int) := by
  unfold bits
  simp only [IntKind.bits, IntKind.wrap_u32]
  rw [BitVec.ofInt_natCast, BitVec.ofInt_natCast, BitVec.ofNat_toNat, BitVec.ofNat_toNat]
  rw [BitVec.setWidth_eq, BitVec.setWidth_eq]
  have := (x &&& y).isLt
  show ((x &&& y).toNat : Int) % 4294967296 = _
  omega
noncomputable def tabV (k : Nat) : Array Value := Array.ofFn fun i : Fin 16 => .int .u32 (if i.val < k then (Crc.tab i.val).toNat else 0)
theorem tabV0 : (#[.int .u32 0, .int .u32 0, .int .u32 0, .int .u32 0, .int .u32 0, .int .u32 0, .int .u32 0, .int .u32 0, .int .u32 0, .int .u32 0, .int .u32 0, .int .u32 0, .int .u32 0, .int .u32 0, .int .u32 0, .int .u32 0] : Array Value) = tabV 0 := by
  unfold tabV; rfl
theorem tabV16 : tabV 16 = #[.int .u32 0, .int .u32 274646895, .int .u32 549293790, .int .u32 820201905, .int .u32 1098587580, .int .u32 1361435347, .int .u32 1640403810, .int .u32 1905808397, .int .u32 2197175160, .int .u32 2460548119, .int .u32 2722870694, .int .u32 2987750089, .int .u32 3280807620, .int .u32 3553878443, .int .u32 3811616794, .int .u32 4084100981] := by
  unfold tabV; rfl
theorem tabV_set (k : Nat) (_h : k < 16) : (tabV k).setIfInBounds k (.int .u32 (Crc.tab k).toNat) = tabV (k + 1) := by
  unfold tabV
  apply Array.ext
  · simp
  · intro i h1 h2
    simp at h1
    rw [Array.getElem_setIfInBounds (by simpa using h1)]
    simp only [Array.getElem_ofFn]
    by_cases hik : k = i
    · subst hik; simp
    · simp only [hik, if_false]
      by_cases hlt : i < k
      · rw [if_pos hlt, if_pos (by omega)]
      · rw [if_neg hlt, if_neg (by omega)]
theorem tabV_at (k : Nat) (h : k < 16) : (tabV k)[k]? = some (.int .u32 0) := by
  unfold tabV; simp [h]
theorem tabV_size (k : Nat) : (tabV k).size = 16 := by unfold tabV; simp
theorem tabV16_at (i : Nat) (h : i < 16) : (tabV 16)[i]? = some (.int .u32 (Crc.tab i).toNat) := by
  unfold tabV; simp [h]
/-- one step of the table's own loop, as the walk has it -/
theorem st_walk (x : BitVec 32) : bits .xor .u32 ((x.toNat : Int) / 2) ((bits .and .u32 (x.toNat : Int) 1 * 2197175160) % 4294967296) = ((Crc.st x).toNat : Int) := by
  have h1 : bits .and .u32 (x.toNat : Int) 1 = ((x &&& 1#32).toNat : Int) := and_u32 x 1#32
  have h2 : ((x.toNat : Int) / (2 : Int)) = ((x >>> 1).toNat : Int) := by rw [BitVec.toNat_ushiftRight, Nat.shiftRight_eq_div_pow]; show _ = ((x.toNat / 2 : Nat) : Int); omega
  rw [h1]
  have h3 : (((x &&& 1#32).toNat : Int) * 2197175160) % 4294967296 = ((if x.getLsbD 0 then Crc.poly else 0#32 : BitVec 32).toNat : Int) := by
    have : (x &&& 1#32).toNat = if x.getLsbD 0 then 1 else 0 := by
      rw [BitVec.toNat_and]
      show x.toNat &&& 1 = _
      rw [Nat.and_one_is_mod, BitVec.getLsbD, Nat.testBit_zero]
      rcases Nat.mod_two_eq_zero_or_one x.toNat with h | h <;> simp [h]
    rw [this]
    cases x.getLsbD 0 <;> rfl
  rw [h3]; rw [h2, xor_u32]; rfl
set_option maxRecDepth 100000 in
set_option maxHeartbeats 400000 in
theorem table_any (w : World) : Calls Tryd.prog 57 #[] w fun e w' => e = .returned (.agg (tabV 16)) ∧ Below w.heap.size w w' := by
  go_enter Tryd.func57, Tryd.ntmps57
  go_wp2
  rw [tabV0]
  go_loopw [4] (fun v wr => ∃ k : Nat, k ≤ 16 ∧ v = .int .i64 k ∧ wr = (w.alloc (.cells (tabV 0) 105)).alloc (.cells (tabV k) 105)) (fun v _ => 16 - (intOf v).toNat)
  case atStart => exact ⟨0, by omega, rfl, rfl⟩
  case round =>
    obtain ⟨k, hk, rfl, rfl⟩ := hrel
    by_cases hlt : k < 16
    · have hck : (tabV k)[k]? = some (.int .u32 0) := tabV_at k hlt
      go_wp2
      go_loop [3, 9] (fun x v => ∃ j : Nat, j ≤ 4 ∧ v = .int .i64 j ∧ x = .int .u32 (Crc.sn j (BitVec.ofNat 32 k)).toNat) (fun _ v => 4 - (intOf v).toNat)
      case atStart => exact ⟨0, by omega, rfl, by simp only [Crc.sn]; rw [BitVec.toNat_ofNat, Nat.mod_eq_of_lt (by omega)]⟩
      case round =>
        obtain ⟨j, hj, rfl, rfl⟩ := hrel
        by_cases hlj : j < 4
        · go_wp2
          go_round
          case rel => exact ⟨j + 1, by omega, by go_num, by rw [st_walk, Crc.sn_succ']⟩
          case measure => simp [intOf]; omega
        · have hj4 : Hid (j = 4) := show j = 4 by omega
          go_wp2
          go_roundw
          case rel => exact ⟨k + 1, by omega, by go_num, by rw [hj4.out]; show _ = (w.alloc (.cells (tabV 0) 105)).alloc (Obj.cells (tabV (k + 1)) 105); rw [← tabV_set k hlt]; rfl⟩
          case measure => simp [intOf]; omega
    · obtain rfl : k = 16 := by omega
      rw [tabV16, ← tabV0]
      go_wp2_with (refine wpList_load_row rfl 105 _ rfl (w.heap.size + 1) rfl 105 _ (0, 0) _ (heap_alloc2_new _ _ _) Tryd.underlying105 rfl (by kernel_rfl) ?_)
      refine bodyPost_ret (v := .agg (tabV 16)) (by rw [tabV16]; exact results_cell_row Tryd.results57 _ _ w.heap.size 105 _ (0, 0) _ rfl (heap_alloc2_old _ _ _) Tryd.underlying105 rfl (by kernel_rfl)) rfl ⟨rfl, ?_⟩
      exact ((Below.refl _ _).alloc (Nat.le_refl _) _).alloc (by simp) _
theorem below_mono_alloc {w w1 : World} (hb : Below w.heap.size w w1) {o : Obj} : Below w.heap.size w (w1.alloc o) := hb.alloc hb.size o
theorem take_snoc (s : ByteArray) (k : Nat) (h : k < s.size) : s.data.toList.take (k + 1) = s.data.toList.take k ++ [s[k]] := by
  rw [List.take_succ_eq_append_getElem (by simpa using h)]; rfl
theorem nib_walk (z : BitVec 32) : ∃ (i : Nat) (t z2 : BitVec 32), i < 16 ∧ bits .and .u32 (z.toNat : Int) 15 = (i : Int) ∧ (tabV 16)[i]? = some (.int .u32 t.toNat) ∧ bits .xor .u32 ((z.toNat : Int) / 16) (t.toNat : Int) = (z2.toNat : Int) ∧ z2 = Crc.sn 4 z := by
  have h1 : bits .and .u32 (z.toNat : Int) 15 = ((z &&& 15#32).toNat : Int) := and_u32 z 15#32
  have hlt : (z &&& 15#32).toNat < 16 := by
    rw [BitVec.toNat_and]
    exact Nat.lt_succ_of_le (Nat.and_le_right)
  have h2 : ((z.toNat : Int) / (16 : Int)) = ((z >>> 4).toNat : Int) := by rw [BitVec.toNat_ushiftRight, Nat.shiftRight_eq_div_pow]; show _ = ((z.toNat / 16 : Nat) : Int); omega
  refine ⟨_, Crc.tab (z &&& 15#32).toNat, _, hlt, h1, tabV16_at _ hlt, ?_, rfl⟩
  rw [h2, xor_u32, Crc.nib]
theorem byte_walk (y : BitVec 32) (b : UInt8) : bits .xor .u32 (y.toNat : Int) ((b.toNat : Int) % 4294967296) = ((y ^^^ b.toBitVec.setWidth 32).toNat : Int) := by
  rw [← xor_u32]
  congr 1
  have := b.toNat_lt
  rw [BitVec.toNat_setWidth]
  show _ = ((b.toNat % 2 ^ 32 : Nat) : Int)
  omega
set_option maxRecDepth 100000 in
set_option maxHeartbeats 400000 in
theorem over_any (x : BitVec 32) (s : ByteArray) (w : World) (hs : s.size ≤ 9223372036854775807) : Calls Tryd.prog 45 #[.int .u32 x.toNat, .string s] w fun e w' => e = .returned (.int .u32 (Crc.over x s.data.toList).toNat) ∧ Below w.heap.size w w' := by
  go_enter Tryd.func45, Tryd.ntmps45
  go_wp2_with (go_at_call 57; refine (table_any _).mono ?_; rintro e w1 ⟨he, hb⟩; rw [tabV16] at he; subst he)
  rw [← tabV16]
  go_loop [0, 10] (fun v n => ∃ k : Nat, k ≤ s.size ∧ n = .int .i64 k ∧ v = .int .u32 (Crc.over x (s.data.toList.take k)).toNat) (fun _ n => s.size - (intOf n).toNat)
  case atStart => exact ⟨0, by omega, rfl, rfl⟩
  case round =>
    obtain ⟨k, hk, rfl, rfl⟩ := hrel
    by_cases hlt : k < s.size
    · obtain ⟨y, hy⟩ : ∃ y, y = Crc.over x (s.data.toList.take k) := ⟨_, rfl⟩
      have Hy := Lib.hid hy
      rw [← hy]
      clear hy
      obtain ⟨z, hz⟩ : ∃ z, z = y ^^^ (s[k]).toBitVec.setWidth 32 := ⟨_, rfl⟩
      have e1 : bits .xor .u32 (y.toNat : Int) ((s[k].toNat : Int) % 4294967296) = (z.toNat : Int) := by rw [hz]; exact byte_walk y s[k]
      have Hz := Lib.hid hz
      clear hz
      obtain ⟨i, t, z2, hi, e2, hc, e3, hz2⟩ := nib_walk z
      have Hz2 := Lib.hid hz2
      clear hz2
      obtain ⟨i', t', z3, hi', e2', hc', e3', hz3⟩ := nib_walk z2
      have Hz3 := Lib.hid hz3
      clear hz3
      go_wp2
      go_round
      case rel => exact ⟨k + 1, by omega, by go_num, by rw [take_snoc s k hlt, Crc.over_append, ← Hy.out, Hz3.out, Hz2.out, Hz.out, Crc.byte_nib]; rfl⟩
      case measure => simp [intOf]; omega
    · go_wp2
      go_ret
      refine ⟨?_, ?_⟩
      · rw [List.take_of_length_le (by simp; omega)]; rfl
      · exact below_mono_alloc hb

end Go.Proofs.YtfagkmmenfeppaaDoor.CrcW
