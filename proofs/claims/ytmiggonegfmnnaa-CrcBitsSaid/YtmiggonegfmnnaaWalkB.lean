import Derived.Test.YtmiggonegfmnnaaWalkA
namespace Go.Proofs.Ytmiggonegfmnnaa
open Go.RowKit
theorem not_u32 (x : BitVec 32) : bits .xor .u32 IntKind.u32.max (x.toNat : Int) = ((~~~x).toNat : Int) := by
  have h : IntKind.u32.max = ((BitVec.allOnes 32).toNat : Int) := by decide
  rw [h, xor_u32]
  rw [BitVec.allOnes_xor]
def cat (l : List ByteArray) (k : Nat) : List UInt8 := ((l.take k).map (·.data.toList)).flatten
theorem cat_succ (l : List ByteArray) (k : Nat) (h : k < l.length) : cat l (k + 1) = cat l k ++ l[k].data.toList := by
  unfold cat; rw [List.take_succ_eq_append_getElem h, List.map_append, List.flatten_append]; simp
theorem sum_unfold (l : List UInt8) : ~~~ Crc.over (4294967295#32) l = Crc.sum l := rfl
set_option maxRecDepth 100000 in
set_option maxHeartbeats 400000 in
theorem update_any (x : BitVec 32) (s : ByteArray) (w : World) (hs : s.size ≤ 9223372036854775807) : Calls Try.prog 10 #[.int .u32 x.toNat, .string s] w fun e w' => e = .returned (.int .u32 (Crc.upd x s.data.toList).toNat) ∧ Below w.heap.size w w' := by
  obtain ⟨nx, hnx⟩ : ∃ nx, nx = ~~~x := ⟨_, rfl⟩
  have e1 : bits .xor .u32 IntKind.u32.max (x.toNat : Int) = (nx.toNat : Int) := by rw [hnx]; exact not_u32 x
  obtain ⟨r, hr⟩ : ∃ r, r = Crc.upd x s.data.toList := ⟨_, rfl⟩
  obtain ⟨y, hy⟩ : ∃ y, y = Crc.over nx s.data.toList := ⟨_, rfl⟩
  have e2 : bits .xor .u32 IntKind.u32.max (y.toNat : Int) = (r.toNat : Int) := by rw [hr, hy, hnx]; exact not_u32 _
  have Hy := Lib.hid hy
  rw [← hr]
  clear hr hy hnx
  go_enter Try.func10, Try.ntmps10
  have HO : ∀ W, Calls Try.prog 12 #[.int .u32 nx.toNat, .string s] W fun e w' => e = .returned (.int .u32 y.toNat) ∧ Below W.heap.size W w' := fun W => by rw [Hy.out]; exact over_any nx s W hs
  have HO' := Lib.hid HO
  clear HO
  have hsg : IntKind.u32.signed = false := rfl
  go_wp2_with (go_at_call 12; refine (HO'.out _).mono ?_; rintro e w1 ⟨rfl, hb⟩)
  go_ret
  exact ⟨rfl, ‹_›⟩
set_option maxRecDepth 100000 in
set_option maxHeartbeats 400000 in
theorem sum_any (l : List ByteArray) (b c : Nat) (w : World) (hn : l.length ≤ 100) (hc : ∀ j (h : j < l.length), w.cell? ⟨b, j, none⟩ = some (.string l[j])) (hs : ∀ s ∈ l, s.size ≤ 9223372036854775807) :
    Calls Try.prog 8 #[.slice (some ⟨b, 0, none⟩) l.length c] w fun e w' => e = .returned (.int .u32 (Crc.sum (cat l l.length)).toNat) ∧ Below w.heap.size w w' := by
  have Hc := Lib.hid hc
  have Hs := Lib.hid hs
  clear hc hs
  go_enter Try.func8, Try.ntmps8
  go_wp2_with (fail)
  go_loopw [3, 8] (fun v n wr => ∃ k : Nat, k ≤ l.length ∧ n = .int .i64 k ∧ v = .int .u32 (Crc.over (4294967295#32) (cat l k)).toNat ∧ Below w.heap.size w wr) (fun _ n _ => l.length - (intOf n).toNat)
  case atStart => exact ⟨0, by omega, rfl, rfl, Below.refl _ _⟩
  case round =>
    obtain ⟨k, hk, rfl, rfl, hb⟩ := hrel
    by_cases hlt : k < l.length
    · have hcell : wr.cell? ⟨b, k, none⟩ = some (.string l[k]) := by
        have h0 := Hc.out k hlt
        exact (hb.cell (World.block_lt_of_cell? w _ h0)).trans h0
      have hsz := Hs.out l[k] (List.getElem_mem hlt)
      have HR := Lib.hid (cat_succ l k hlt)
      go_wp2_with (go_at_call 12; refine (over_any _ _ _ hsz).mono ?_; rintro e w1 ⟨rfl, hb1⟩)
      go_roundw
      case rel => exact ⟨k + 1, by omega, by go_num, by rw [HR.out, Crc.over_append], hb.trans (hb1.mono hb.size)⟩
      case measure => simp [intOf]; omega
    · have hk2 : k = l.length := by omega
      subst hk2
      obtain ⟨r, hr⟩ : ∃ r, r = Crc.sum (cat l l.length) := ⟨_, rfl⟩
      obtain ⟨y, hy⟩ : ∃ y, y = Crc.over (4294967295#32) (cat l l.length) := ⟨_, rfl⟩
      have e2 : bits .xor .u32 IntKind.u32.max (y.toNat : Int) = (r.toNat : Int) := by rw [hr, hy]; exact not_u32 _
      rw [← hy]
      have HR := Lib.hid hr
      clear hr hy
      go_wp2
      go_ret
      exact ⟨by rw [← HR.out]; rfl, hb⟩
set_option maxRecDepth 100000 in
theorem sum_nil (w : World) : Calls Try.prog 8 #[.slice none 0 0] w fun e w' => e = .returned (.int .u32 0) ∧ Below w.heap.size w w' := by
  have e1 : bits BinOp.xor IntKind.u32 IntKind.u32.max 4294967295 = 0 := by decide
  go_enter Try.func8, Try.ntmps8
  go_wp2
  refine wp_loop_rounds 1 ?_
  rw [rounds_succ]
  go_wp2
  go_ret
  exact ⟨rfl, Below.refl _ _⟩
end Go.Proofs.Ytmiggonegfmnnaa
