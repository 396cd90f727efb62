
import Derived.Test.YthdkbocokefdhaaReader
import Derived.Lib.ConvBytes
/- The reader's numbers. -/
namespace Go.Proofs.Ythdkbocokefdhaa
set_option maxRecDepth 100000
set_option maxRecDepth 100000
open Go.RowKit
/-- bytes as a number, the greatest first -/
def bv (l : List UInt8) : Nat := l.foldl (fun n c => n * 256 + c.toNat) 0
theorem bv_snoc (l : List UInt8) (c : UInt8) : bv (l ++ [c]) = bv l * 256 + c.toNat := by unfold bv; rw [List.foldl_append]; rfl
theorem bv_lt (l : List UInt8) : bv l < 256 ^ l.length := by
  have h : ∀ n (m : List UInt8), m.length = n → bv m < 256 ^ n := by
    intro n
    induction n with
    | zero => intro m hm; rw [List.length_eq_zero_iff.1 hm]; decide
    | succ n ih =>
      intro m hm
      have h0 : m ≠ [] := fun e => by rw [e] at hm; simp at hm
      have := ih m.dropLast (by rw [List.length_dropLast]; omega)
      rw [← List.dropLast_concat_getLast h0, bv_snoc, Nat.pow_succ]
      have := (m.getLast h0).toNat_lt
      omega
  exact h _ l rfl
theorem take_snoc (l : List UInt8) (k : Nat) (h : k < l.length) : l.take (k + 1) = l.take k ++ [l[k]] := by
  rw [List.take_succ_eq_append_getElem h]
theorem or_u64 (x y : BitVec 64) : bits .or .u64 (x.toNat : Int) (y.toNat : Int) = ((x ||| y).toNat : Int) := by
  unfold bits
  simp only [IntKind.bits, IntKind.wrap_u64]
  rw [BitVec.ofInt_natCast, BitVec.ofInt_natCast, BitVec.ofNat_toNat, BitVec.ofNat_toNat]
  rw [BitVec.setWidth_eq, BitVec.setWidth_eq]
  have := (x ||| y).isLt
  show ((x ||| y).toNat : Int) % 18446744073709551616 = _
  omega
theorem or_byte (v c : Nat) (hv : v < 72057594037927936) (hc : c < 256) : bits .or .u64 ((v : Int) * 256) (c : Int) = ((v * 256 + c : Nat) : Int) := by
  have e1 : ((v : Int) * 256) = ((BitVec.ofNat 64 (v * 256)).toNat : Int) := by rw [BitVec.toNat_ofNat]; omega
  have e2 : (c : Int) = ((BitVec.ofNat 64 c).toNat : Int) := by rw [BitVec.toNat_ofNat]; omega
  rw [e1, e2, or_u64, BitVec.toNat_or, BitVec.toNat_ofNat, BitVec.toNat_ofNat, Nat.mod_eq_of_lt (by omega), Nat.mod_eq_of_lt (by omega)]
  have := Nat.two_pow_add_eq_or_of_lt (i := 8) (b := c) (by simpa using hc) v
  rw [show v * 256 = 2 ^ 8 * v by omega, ← this]
set_option maxHeartbeats 2000000 in
theorem num_ok (b : Nat) (s : ByteArray) (a n t : Nat) (w : World) (h : Rd b s a w) (ht : t = a + n) (ha : t ≤ s.size) (hn : n ≤ 8) (hs : s.size ≤ 9223372036854775807) :
    Calls Try.prog 78 #[.pointer (some ⟨b, 0, none⟩), .int .i64 n] w fun e w' => e = .returned (.int .u64 (bv (s.extract a t).data.toList : Nat)) ∧ Rd b s t w' ∧ But b w w' := by
  have C := Lib.hid (take_to b s a n t w h ht ha hs)
  obtain ⟨x, hx⟩ : ∃ x, x = s.extract a t := ⟨_, rfl⟩
  have hxs : x.size = n := by rw [hx, ByteArray.size_extract]; omega
  rw [← hx] at C ⊢
  have HX := Lib.hid hxs
  clear hx hxs ht h
  go_enter Try.func78, Try.ntmps78
  go_wp2_with (go_at_call 59; refine C.out.mono ?_)
  rintro e w1 ⟨rfl, h1, hb1⟩
  have hcv := Lib.run_convert_string_bytes (P := Try.prog) w1 9 53 5 x Try.underlying9 Try.underlying53 Try.underlying5
  go_wp2_with (fail)
  have hbig := hb1.size
  have HW1 := Lib.hid h1
  have HB1 := Lib.hid hb1
  have HCe : Hid (∀ j, j < x.size → (Lib.bytesWorld w1 5 x).cell? ⟨w1.heap.size, j, none⟩ = some (.int .u8 (x.data.toList.getD j 0).toNat)) := fun j hj => Lib.bytesWorld_cell w1 5 x j hj
  have HRd : Hid (Rd b s t (Lib.bytesWorld w1 5 x)) := by
    have := h1.lt
    unfold Rd at h1 ⊢
    rw [Lib.bytesWorld_at_old _ _ _ _ this]; exact h1
  have HBt : Hid (But b w (Lib.bytesWorld w1 5 x)) := by
    refine hb1.trans ⟨rfl, rfl, rfl, by rw [Lib.bytesWorld_size]; omega, fun k hk _ => Lib.bytesWorld_at_old _ _ _ _ hk⟩
  obtain ⟨g, hg⟩ : ∃ g, g = w1.heap.size := ⟨_, rfl⟩
  obtain ⟨cp, hcp⟩ : ∃ g, g = grownCap w1 x.size 0 5 := ⟨_, rfl⟩
  rw [← hg] at HCe ⊢
  rw [← hcp]
  generalize Lib.bytesWorld w1 5 x = W at *
  obtain ⟨m, hm⟩ : ∃ m, m = x.size := ⟨_, rfl⟩
  have hm8 : m ≤ 8 := by have := HX.out; omega
  rw [← hm] at HCe ⊢
  have HM := Lib.hid hm
  clear hg hcp hm h1 hb1 hcv hbig
  go_loop [5, 7, 13] (fun o c i => ∃ k : Nat, k ≤ m ∧ i = .int .i64 k ∧ o = .int .u64 ((bv (x.data.toList.take k) : Nat) : Int)) (fun _ _ i => m - (intOf i).toNat)
  case atStart => exact ⟨0, by omega, rfl, rfl⟩
  case round =>
    obtain ⟨k, hk, rfl, rfl⟩ := hrel
    by_cases hlt : k < m
    · have c0 := HCe.out k hlt
      have hl : k < x.data.toList.length := by have := HM.out; simpa using (show k < x.size by omega)
      obtain ⟨v, hv⟩ : ∃ v, v = bv (x.data.toList.take k) := ⟨_, rfl⟩
      obtain ⟨c, hc⟩ : ∃ c, c = (x.data.toList.getD k 0) := ⟨_, rfl⟩
      have hc8 := c.toNat_lt
      have hv8 : v < 72057594037927936 := by
        have h1 := bv_lt (x.data.toList.take k)
        have h2 : (x.data.toList.take k).length ≤ 7 := by rw [List.length_take]; omega
        have h3 : 256 ^ (x.data.toList.take k).length ≤ 256 ^ 7 := Nat.pow_le_pow_right (by omega) h2
        rw [hv]; exact Nat.lt_of_lt_of_le h1 h3
      have HV : Hid (bv (x.data.toList.take (k + 1)) = v * 256 + c.toNat) := by
        show bv _ = _
        rw [take_snoc _ _ hl, bv_snoc, ← hv, hc, List.getD_eq_getElem?_getD, List.getElem?_eq_getElem hl]; rfl
      rw [← hc] at c0
      rw [← hv]
      clear hc hv
      go_wp2_with (fail)
      exact ⟨⟨k + 1, by omega, by go_num, by rw [or_byte v _ hv8 (by omega), HV.out]⟩, by simp [intOf]; omega⟩
    · obtain rfl : k = m := by omega
      have HE : Hid (x.data.toList.take k = x.data.toList) := by
        have := HM.out
        exact List.take_of_length_le (by simp; omega)
      rw [HE.out]
      go_wp2_with (fail)
      go_ret
      exact ⟨rfl, HRd.out, HBt.out⟩
set_option maxHeartbeats 2000000 in
theorem num_no (b : Nat) (s : ByteArray) (a n : Nat) (w : World) (h : Rd b s a w) (ha : a ≤ s.size) (hn : s.size - a < n) (hs : s.size ≤ 9223372036854775807) :
    Calls Try.prog 78 #[.pointer (some ⟨b, 0, none⟩), .int .i64 n] w fun e w' => e = .panicked (stopped 2) ∧ Rd b s a w' ∧ But b w w' := by
  have C := Lib.hid (take_no b s a n w h ha (.inr (by omega)) hs)
  clear h
  go_enter Try.func78, Try.ntmps78
  go_wp2_with (go_at_call 59; refine C.out.mono ?_)
  rintro e w1 ⟨rfl, h1, hb1⟩
  exact ⟨rfl, rfl, h1, hb1⟩
theorem bv_le (s : ByteArray) (a n t : Nat) (ht : t = a + n) (h : t ≤ s.size) : bv (s.extract a t).data.toList < 256 ^ n := by
  have h1 := bv_lt (s.extract a t).data.toList
  have h2 : (s.extract a t).data.toList.length = n := by
    have : (s.extract a t).size = n := by rw [ByteArray.size_extract]; omega
    rw [Array.length_toList]; exact this
  rw [h2] at h1; exact h1
set_option maxHeartbeats 1000000 in
theorem u8_ok (b : Nat) (s : ByteArray) (a t : Nat) (w : World) (h : Rd b s a w) (ht : t = a + 1) (ha : t ≤ s.size) (hs : s.size ≤ 9223372036854775807) :
    Calls Try.prog 56 #[.pointer (some ⟨b, 0, none⟩)] w fun e w' => e = .returned (.int .i64 (bv (s.extract a t).data.toList : Nat)) ∧ Rd b s t w' ∧ But b w w' := by
  have C := Lib.hid (num_ok b s a 1 t w h ht ha (by omega) hs)
  obtain ⟨v, hv⟩ : ∃ v, v = bv (s.extract a t).data.toList := ⟨_, rfl⟩
  have hvl : v < 256 := by rw [hv]; exact bv_le s a 1 t ht ha
  rw [← hv] at C ⊢
  clear h hv ht
  go_enter Try.func56, Try.ntmps56
  go_wp2_with (go_at_call 78; refine C.out.mono ?_; rintro e w1 ⟨rfl, h1, hb1⟩; have H1 := Lib.hid h1; clear h1)
  go_ret
  exact ⟨rfl, H1.out, hb1⟩
set_option maxHeartbeats 1000000 in
theorem u8_no (b : Nat) (s : ByteArray) (a : Nat) (w : World) (h : Rd b s a w) (ha : a ≤ s.size) (hn : s.size - a < 1) (hs : s.size ≤ 9223372036854775807) :
    Calls Try.prog 56 #[.pointer (some ⟨b, 0, none⟩)] w fun e w' => e = .panicked (stopped 2) ∧ Rd b s a w' ∧ But b w w' := by
  have C := Lib.hid (num_no b s a 1 w h ha hn hs)
  clear h
  go_enter Try.func56, Try.ntmps56
  go_wp2_with (go_at_call 78; refine C.out.mono ?_)
  rintro e w1 ⟨rfl, h1, hb1⟩
  exact ⟨rfl, rfl, h1, hb1⟩
set_option maxHeartbeats 1000000 in
theorem u16_ok (b : Nat) (s : ByteArray) (a t : Nat) (w : World) (h : Rd b s a w) (ht : t = a + 2) (ha : t ≤ s.size) (hs : s.size ≤ 9223372036854775807) :
    Calls Try.prog 57 #[.pointer (some ⟨b, 0, none⟩)] w fun e w' => e = .returned (.int .i64 (bv (s.extract a t).data.toList : Nat)) ∧ Rd b s t w' ∧ But b w w' := by
  have C := Lib.hid (num_ok b s a 2 t w h ht ha (by omega) hs)
  obtain ⟨v, hv⟩ : ∃ v, v = bv (s.extract a t).data.toList := ⟨_, rfl⟩
  have hvl : v < 65536 := by rw [hv]; exact bv_le s a 2 t ht ha
  rw [← hv] at C ⊢
  clear h hv ht
  go_enter Try.func57, Try.ntmps57
  go_wp2_with (go_at_call 78; refine C.out.mono ?_; rintro e w1 ⟨rfl, h1, hb1⟩; have H1 := Lib.hid h1; clear h1)
  go_ret
  exact ⟨rfl, H1.out, hb1⟩
set_option maxHeartbeats 1000000 in
theorem u16_no (b : Nat) (s : ByteArray) (a : Nat) (w : World) (h : Rd b s a w) (ha : a ≤ s.size) (hn : s.size - a < 2) (hs : s.size ≤ 9223372036854775807) :
    Calls Try.prog 57 #[.pointer (some ⟨b, 0, none⟩)] w fun e w' => e = .panicked (stopped 2) ∧ Rd b s a w' ∧ But b w w' := by
  have C := Lib.hid (num_no b s a 2 w h ha hn hs)
  clear h
  go_enter Try.func57, Try.ntmps57
  go_wp2_with (go_at_call 78; refine C.out.mono ?_)
  rintro e w1 ⟨rfl, h1, hb1⟩
  exact ⟨rfl, rfl, h1, hb1⟩
set_option maxHeartbeats 1000000 in
theorem rest_any (b : Nat) (s : ByteArray) (a : Nat) (w : World) (h : Rd b s a w) (ha : a ≤ s.size) (hs : s.size ≤ 9223372036854775807) :
    Calls Try.prog 60 #[.pointer (some ⟨b, 0, none⟩)] w fun e w' => e = .returned (.string (s.extract a s.size)) ∧ Rd b s s.size w' ∧ But b w w' := by
  have L := Lib.hid (left_any b s a w h ha hs)
  have C : Hid (∀ m, Calls Try.prog 59 #[.pointer (some ⟨b, 0, none⟩), .int .i64 ((s.size - a : Nat) : Int)] (w.drewN m) fun e w' => e = .returned (.string (s.extract a s.size)) ∧ Rd b s s.size w' ∧ But b (w.drewN m) w') :=
    fun m => take_to b s a (s.size - a) s.size (w.drewN m) h (by omega) (Nat.le_refl _) hs
  clear h
  go_enter Try.func60, Try.ntmps60
  go_wp2_with (first | (go_at_call 79; refine L.out.mono ?_; rintro e w1 ⟨rfl, m, rfl⟩) | (go_at_call 59; refine (C.out _).mono ?_; rintro e w1 ⟨rfl, h1, hb1⟩; have H1 := Lib.hid h1; clear h1))
  go_ret
  exact ⟨rfl, H1.out, ((But.refl b w).drewN m).trans hb1⟩
end Go.Proofs.Ythdkbocokefdhaa
