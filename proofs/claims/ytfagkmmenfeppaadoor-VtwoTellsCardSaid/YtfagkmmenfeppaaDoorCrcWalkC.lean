import Derived.Test.YtfagkmmenfeppaaDoorCrcWalkB
namespace Go.Proofs.YtfagkmmenfeppaaDoor.CrcW
set_option maxRecDepth 100000
open Go.RowKit
theorem st_ref (x : BitVec 32) : (Crc.st x).toNat = if x.toNat % 2 = 1 then (x.toNat / 2) ^^^ 2197175160 else x.toNat / 2 := by
  unfold Crc.st
  rw [BitVec.toNat_xor, BitVec.toNat_ushiftRight, Nat.shiftRight_eq_div_pow, BitVec.getLsbD, Nat.testBit_zero]
  rcases Nat.mod_two_eq_zero_or_one x.toNat with h | h
  · simp [h]
  · simp only [h, decide_true, if_true]; rfl
theorem step_any (x : BitVec 32) (w : World) : Calls Tryd.prog 58 #[.int .u32 x.toNat] w fun e w' => e = .returned (.int .u32 (Crc.st x).toNat) ∧ w' = w := by
  have hx := x.isLt
  by_cases h : x.toNat % 2 = 1
  · have e1 : bits .xor .u32 ((x.toNat : Int) / 2) 2197175160 = ((Crc.st x).toNat : Int) := by
      have h2 : ((x.toNat : Int) / (2 : Int)) = ((x >>> 1).toNat : Int) := by rw [BitVec.toNat_ushiftRight, Nat.shiftRight_eq_div_pow]; show _ = ((x.toNat / 2 : Nat) : Int); omega
      rw [h2]
      refine (xor_u32 (x >>> 1) Crc.poly).trans ?_
      rw [st_ref, if_pos h, BitVec.toNat_xor, BitVec.toNat_ushiftRight, Nat.shiftRight_eq_div_pow]; rfl
    have h1 : ((x.toNat : Int) % 2 == 1) = true := by rw [beq_iff_eq]; omega
    go_enter Tryd.func58, Tryd.ntmps58
    go_wp2
    go_ret
    exact ⟨rfl, rfl⟩
  · have e1 : Hid ((x.toNat : Int) / 2 = ((Crc.st x).toNat : Int)) := show (x.toNat : Int) / 2 = _ by rw [st_ref, if_neg h]; omega
    have h1 : ((x.toNat : Int) % 2 == 1) = false := by rw [beq_eq_false_iff_ne]; omega
    go_enter Tryd.func58, Tryd.ntmps58
    go_wp2
    go_ret
    exact ⟨by rw [← e1.out]; rfl, rfl⟩
theorem sub_u32 (x : BitVec 32) : 4294967295 - (x.toNat : Int) = ((~~~x).toNat : Int) := by
  have := x.isLt
  rw [BitVec.toNat_not]; omega
set_option maxRecDepth 100000 in
set_option maxHeartbeats 400000 in
theorem refupd_any (x : BitVec 32) (s : ByteArray) (w : World) (hs : s.size ≤ 9223372036854775807) : Calls Tryd.prog 46 #[.int .u32 x.toNat, .string s] w fun e w' => e = .returned (.int .u32 (Crc.upd x s.data.toList).toNat) ∧ w' = w := by
  have hx := x.isLt
  obtain ⟨nx, hnx⟩ : ∃ nx, nx = ~~~x := ⟨_, rfl⟩
  have e1 : 4294967295 - (x.toNat : Int) = (nx.toNat : Int) := by rw [hnx]; exact sub_u32 x
  have Hnx := Lib.hid hnx
  clear hnx
  go_enter Tryd.func46, Tryd.ntmps46
  go_wp2
  go_loop [5, 6] (fun v n => ∃ k : Nat, k ≤ s.size ∧ n = .int .i64 k ∧ v = .int .u32 (Crc.over nx (s.data.toList.take k)).toNat) (fun _ n => s.size - (intOf n).toNat)
  case atStart => exact ⟨0, by omega, rfl, rfl⟩
  case round =>
    obtain ⟨k, hk, rfl, rfl⟩ := hrel
    by_cases hlt : k < s.size
    · obtain ⟨y, hy⟩ : ∃ y, y = Crc.over nx (s.data.toList.take k) := ⟨_, rfl⟩
      have Hy := Lib.hid hy
      rw [← hy]
      clear hy
      obtain ⟨z, hz⟩ : ∃ z, z = y ^^^ (s[k]).toBitVec.setWidth 32 := ⟨_, rfl⟩
      have e2 : bits .xor .u32 (y.toNat : Int) ((s[k].toNat : Int) % 4294967296) = (z.toNat : Int) := by rw [hz]; exact byte_walk y s[k]
      have Hz := Lib.hid hz
      clear hz
      go_wp2
      go_loop [5, 7] (fun v n => ∃ j : Nat, j ≤ 8 ∧ n = .int .i64 j ∧ v = .int .u32 (Crc.sn j z).toNat) (fun _ n => 8 - (intOf n).toNat)
      case atStart => exact ⟨0, by omega, rfl, rfl⟩
      case round =>
        obtain ⟨j, hj, rfl, rfl⟩ := hrel
        by_cases hlj : j < 8
        · go_wp2_with (go_at_call 58; refine (step_any _ _).mono ?_; rintro e w1 ⟨rfl, rfl⟩)
          go_round
          case rel => exact ⟨j + 1, by omega, by go_num, by rw [Crc.sn_succ']⟩
          case measure => simp [intOf]; omega
        · have hj8 : Hid (j = 8) := show j = 8 by omega
          go_wp2
          go_round
          case rel => exact ⟨k + 1, by omega, by go_num, by rw [hj8.out, take_snoc s k hlt, Crc.over_append, ← Hy.out, Hz.out]; rfl⟩
          case measure => simp [intOf]; omega
    · obtain rfl : k = s.size := by omega
      obtain ⟨y, hy⟩ : ∃ y, y = Crc.over nx (s.data.toList.take s.size) := ⟨_, rfl⟩
      have Hy := Lib.hid hy
      have hyl := y.isLt
      rw [← hy]
      clear hy
      go_wp2
      go_ret
      refine ⟨?_, rfl⟩
      have : Crc.upd x s.data.toList = ~~~y := by rw [Hy.out, List.take_of_length_le (by simp), Hnx.out]; rfl
      rw [this, ← sub_u32]; rfl
theorem refsum_any (s : ByteArray) (w : World) (hs : s.size ≤ 9223372036854775807) : Calls Tryd.prog 31 #[.string s] w fun e w' => e = .returned (.int .u32 (Crc.sum s.data.toList).toNat) ∧ w' = w := by
  have H : ∀ W, Calls Tryd.prog 46 #[.int .u32 0, .string s] W fun e w' => e = .returned (.int .u32 (Crc.sum s.data.toList).toNat) ∧ w' = W := fun W => refupd_any 0#32 s W hs
  have H' := Lib.hid H
  clear H
  go_enter Tryd.func31, Tryd.ntmps31
  go_wp2_with (go_at_call 46; refine (H'.out _).mono ?_; rintro e w1 ⟨rfl, rfl⟩)
  go_ret
  exact ⟨rfl, rfl⟩
theorem sum_one (s : ByteArray) (b c : Nat) (w : World) (hc : w.cell? ⟨b, 0, none⟩ = some (.string s)) (hs : s.size ≤ 9223372036854775807) :
    Calls Tryd.prog 25 #[.slice (some ⟨b, 0, none⟩) 1 c] w fun e w' => e = .returned (.int .u32 (Crc.sum s.data.toList).toNat) ∧ Below w.heap.size w w' := by
  have h := sum_any [s] b c w (by simp) (fun j h => by obtain rfl : j = 0 := by simpa using h
                                                       exact hc) (by simpa using hs)
  have e : cat [s] [s].length = s.data.toList := by simp [cat]
  rw [e] at h; exact h
theorem sum_two (s t : ByteArray) (b c : Nat) (w : World) (hc : w.cell? ⟨b, 0, none⟩ = some (.string s)) (hd : w.cell? ⟨b, 1, none⟩ = some (.string t)) (hs : s.size ≤ 9223372036854775807) (ht : t.size ≤ 9223372036854775807) :
    Calls Tryd.prog 25 #[.slice (some ⟨b, 0, none⟩) 2 c] w fun e w' => e = .returned (.int .u32 (Crc.sum (s.data.toList ++ t.data.toList)).toNat) ∧ Below w.heap.size w w' := by
  have h := sum_any [s, t] b c w (by simp) (fun j h => by
    have : j = 0 ∨ j = 1 := by simp at h; omega
    rcases this with rfl | rfl
    · exact hc
    · exact hd) (by simp; exact ⟨hs, ht⟩)
  have e : cat [s, t] [s, t].length = s.data.toList ++ t.data.toList := by simp [cat]
  rw [e] at h; exact h
theorem btr {w a b : World} (h : Below w.heap.size w a) (k : Below a.heap.size a b) : Below w.heap.size w b := h.trans (k.mono h.size)
theorem bal {w a : World} (h : Below w.heap.size w a) {o : Obj} : Below w.heap.size w (a.alloc o) := h.alloc h.size o
theorem bdr {w a : World} (h : Below w.heap.size w a) : Below w.heap.size w a.drew := h.drew
theorem u32_bv {a : Int} (h : (Lit.int .u32 a).wf = true) : ∃ x : BitVec 32, a = x.toNat := by
  have hmin : IntKind.u32.min = 0 := rfl
  have hmax : IntKind.u32.max = 4294967295 := rfl
  simp only [Lit.wf, Bool.and_eq_true, decide_eq_true_eq] at h
  refine ⟨BitVec.ofNat 32 a.toNat, ?_⟩
  rw [BitVec.toNat_ofNat]
  omega
def nine : ByteArray := ⟨#[49, 50, 51, 52, 53, 54, 55, 56, 57]⟩
theorem nine_sum : Crc.sum nine.data.toList = 3808858755#32 := by decide +kernel
end Go.Proofs.YtfagkmmenfeppaaDoor.CrcW
