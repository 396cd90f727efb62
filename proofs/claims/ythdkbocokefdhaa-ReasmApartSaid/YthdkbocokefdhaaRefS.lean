import Derived.Test.YthdkbocokefdhaaRefV
import Derived.Test.YthdkbocokefdhaaSum
import Derived.Deep.RegionHeld
import Derived.Deep.RegionHeld3
import Derived.Deep.DeepCutAuto
/- The document's sum: palanquinref02. -/
namespace Go.Proofs.Ythdkbocokefdhaa
set_option maxRecDepth 100000
open Go.RowKit
set_option maxHeartbeats 1000000 in
theorem down_any (n : Nat) (w : World) (hn : n < 9223372036854775808) : Calls Try.prog 71 #[.int .i64 (n : Int)] w fun e w' => e = .returned (.int .i64 (dn n : Nat)) ∧ w' = w := by
  go_enter Try.func71, Try.ntmps71
  go_wp2_with (fail)
  go_loop [0] (fun x => ∃ k : Nat, x = .int .i64 (k : Int) ∧ k < 9223372036854775808 ∧ Hid (dn k = dn n)) (fun x => (intOf x).toNat)
  case atStart => exact ⟨n, rfl, hn, rfl⟩
  case round =>
    obtain ⟨k, rfl, hk, hd⟩ := hrel
    by_cases h : 65535 < k
    · obtain ⟨q, hq⟩ : ∃ q, q = k / 65536 := ⟨_, rfl⟩
      obtain ⟨r, hr⟩ : ∃ r, r = k % 65536 := ⟨_, rfl⟩
      have e1 : (k : Int) % 65536 = (r : Int) := by omega
      have e3 : (k : Int) / 65536 = (q : Int) := by omega
      have h1 : (k : Int) ≥ 65536 := by omega
      have h2 : (65536 : Int) ≤ k := by omega
      have hl : r + q < k := by omega
      have hd2 : Hid (dn (r + q) = dn n) := Lib.hid (by rw [hr, hq, dn_step h]; exact hd.out)
      clear hq hr
      go_wp2_with (fail)
      exact ⟨⟨r + q, by go_num, by omega, hd2⟩, by simp [intOf]; omega⟩
    · have h1 : ¬ (k : Int) ≥ 65536 := by omega
      have h2 : ¬ (65536 : Int) ≤ k := by omega
      have HE : Hid (dn n = k) := Lib.hid (by rw [← hd.out, dn_small (by omega)])
      clear hd
      go_wp2_with (fail)
      go_ret
      exact ⟨by rw [HE.out]; rfl, rfl⟩
theorem tot_two (l : List UInt8) (i : Nat) (hi : i + 1 < l.length) (he : i % 2 = 0) : tot (l.take (i + 2)) = tot (l.take i) + (l[i].toNat * 256 + l[i + 1].toNat) := by
  rw [show i + 2 = (i + 1) + 1 from rfl, List.take_succ_eq_append_getElem (by omega), List.take_succ_eq_append_getElem (by omega), List.append_assoc, tot_app _ _ (by rw [List.length_take]; omega)]
  rfl
theorem sm_pad (l : List UInt8) (h : l.length % 2 = 1) : sm (l ++ [0]) = sm l := by
  unfold sm
  rw [tot_snoc, decide_eq_true h]; rfl
set_option maxHeartbeats 8000000 in
theorem rsum_any (s0 : ByteArray) (w0 : World) (hs0 : s0.size ≤ 1000000) :
    Calls Try.prog 47 #[.string s0] w0 fun e w' => e = .returned (.int .i64 (sm s0.data.toList : Nat)) ∧ Below w0.heap.size w0 w' := by
  obtain ⟨R, hR⟩ : ∃ R, R = sm s0.data.toList := ⟨_, rfl⟩
  rw [← hR]
  have HR0 := Lib.hid hR
  clear hR
  obtain ⟨ob, hob⟩ : ∃ b, b = decide (s0.size % 2 = 1) := ⟨_, rfl⟩
  have h0 : ((s0.size : Int) % 2 == 1) = ob := by rw [hob, Bool.eq_iff_iff, beq_iff_eq, decide_eq_true_eq]; omega
  have HOB := Lib.hid hob
  clear hob
  go_enter Try.func47, Try.ntmps47
  go_upto_if 8 with (fail)
  go_cut [0] (fun x wx => ∃ z : ByteArray, x = .string z ∧ Hid (z.size % 2 = 0 ∧ z.size ≤ 1000001 ∧ sm z.data.toList = R ∧ Below w0.heap.size w0 wx))
  case first =>
    cases ob with
    | true =>
      have hcv : (convert 53 9 (.slice (some ⟨w0.heap.size, 0, none⟩) 1 1)).run Try.prog (w0.alloc (.cells #[.int .u8 0] 5)) = .ok (.string ⟨#[0]⟩) (w0.alloc (.cells #[.int .u8 0] 5)) := one_str w0 0 (by decide)
      have hsz : s0.data.toList.length % 2 = 1 := by have := HOB.out; have h1 : s0.data.toList.length = s0.size := by simp
                                                     rw [h1]; simpa using this.symm
      have hst : ∀ wx, (Op.stringOp .add s0 ⟨#[0]⟩).run Try.prog wx = .ok (.string (s0 ++ ⟨#[0]⟩)) wx := fun wx => run_string_add_sum wx _ _ (by show s0.size + 1 ≤ _; omega)
      have HZ : Hid ((s0 ++ (⟨#[0]⟩ : ByteArray)).size % 2 = 0 ∧ (s0 ++ (⟨#[0]⟩ : ByteArray)).size ≤ 1000001 ∧ sm (s0 ++ (⟨#[0]⟩ : ByteArray)).data.toList = R) := Lib.hid (by
        have e1 : (s0 ++ (⟨#[0]⟩ : ByteArray)).size = s0.size + 1 := by rw [ByteArray.size_append']; rfl
        have e2 : (s0 ++ (⟨#[0]⟩ : ByteArray)).data.toList = s0.data.toList ++ [0] := by simp
        have e3 : s0.data.toList.length = s0.size := by simp
        rw [e1, e2, sm_pad _ hsz, HR0.out]
        exact ⟨by omega, by omega, rfl⟩)
      clear hsz
      go_wp2_with (fail)
      go_meet
      exact ⟨_, rfl, HZ.out.1, HZ.out.2.1, HZ.out.2.2, (Below.refl _ _).alloc (Nat.le_refl _) _⟩
    | false =>
      have HZ : Hid (s0.size % 2 = 0) := Lib.hid (by have := HOB.out; have h2 : ¬ s0.size % 2 = 1 := by simpa using this.symm
                                                     omega)
      go_wp2_with (fail)
      go_meet
      exact ⟨_, rfl, HZ.out, by omega, HR0.out.symm, Below.refl _ _⟩
  case rest =>
  obtain ⟨s, rfl, hz⟩ := hcut
  obtain ⟨hze, hs, hzs, hbw⟩ := hz.out
  have HEV := Lib.hid hze
  have HR : Hid (R = sm s.data.toList) := Lib.hid hzs.symm
  have HBW := Lib.hid hbw
  clear hze hzs hbw hz h0
  go_wp2_with (fail)
  go_loopw [3, 4] (fun x i wr => ∃ k : Nat, k ≤ s.size ∧ k % 2 = 0 ∧ i = .int .i64 (k : Int) ∧ x = .int .i64 (tot (s.data.toList.take k) : Nat) ∧ Below w0.heap.size w0 wr) (fun _ i _ => s.size - (intOf i).toNat)
  case atStart => exact ⟨0, by omega, rfl, rfl, rfl, HBW.out⟩
  case round =>
    obtain ⟨k, hk, hke, rfl, rfl, hb9⟩ := hrel
    by_cases hlt : k < s.size
    · have hk1 : k + 1 < s.size := by have : s.size % 2 = 0 := HEV.out; omega
      have hT := tot_two s.data.toList k (by simpa using hk1) hke
      have hb := tot_le (s.data.toList.take k)
      have hb2 : (s.data.toList.take k).length ≤ 1000001 := by rw [List.length_take]; simp; omega
      obtain ⟨t, ht⟩ : ∃ t, t = tot (s.data.toList.take k) := ⟨_, rfl⟩
      obtain ⟨t2, ht2⟩ : ∃ t, t = tot (s.data.toList.take (k + 2)) := ⟨_, rfl⟩
      rw [← ht] at hT hb ⊢
      rw [← ht2] at hT
      have HT2 := Lib.hid ht2
      have c1 := (s[k]'hlt).toNat_lt
      have c2 := (s[k + 1]'hk1).toNat_lt
      have hT3 : t2 = t + ((s[k]'hlt).toNat * 256 + (s[k + 1]'hk1).toNat) := hT
      have hw1 : IntKind.i64.wrap (k + 1 : Int) = ((k + 1 : Nat) : Int) := by rw [IntWalk.i64_in _ (by omega)]; rfl
      have hi1 : (k : Int) + 1 < (s.size : Int) := by omega
      have hi0 : (0 : Int) ≤ (k : Int) + 1 := by omega
      have q1 : IntKind.i64.wrap ((s[k]'hlt).toNat : Int) = ((s[k]'hlt).toNat : Int) := IntWalk.i64_in _ (by omega)
      have q2 : IntKind.i64.wrap (((s[k]'hlt).toNat : Int) * 256) = ((s[k]'hlt).toNat : Int) * 256 := IntWalk.i64_in _ (by omega)
      have q3 : IntKind.i64.wrap ((t : Int) + ((s[k]'hlt).toNat : Int) * 256) = (t : Int) + ((s[k]'hlt).toNat : Int) * 256 := IntWalk.i64_in _ (by omega)
      have q4 : IntKind.i64.wrap ((s[k + 1]'hk1).toNat : Int) = ((s[k + 1]'hk1).toNat : Int) := IntWalk.i64_in _ (by omega)
      have q5 : IntKind.i64.wrap ((t : Int) + ((s[k]'hlt).toNat : Int) * 256 + ((s[k + 1]'hk1).toNat : Int)) = (t : Int) + ((s[k]'hlt).toNat : Int) * 256 + ((s[k + 1]'hk1).toNat : Int) := IntWalk.i64_in _ (by omega)
      have HT3 := Lib.hid hT3
      clear ht ht2 hT hT3
      go_wp2_with (fail)
      refine wp_region_held_drew (S := fun V => V = wr.drew) (by kernel_rfl) rfl (fun hHeld => ?_)
      refine wpAnyH_take (i := 0) (oi := { dst := some 19, op := Op.move (Operand.tmp 3), type := 3, pos := "ref.go:21", after := #[], guard := none }) (v := ?_) rfl (by kernel_rfl) (by kernel_rfl) (by kernel_rfl) (fun _ _ _ h => h) (Or.inl ⟨by rfl, ?_⟩) (by assumption) ?_
      rotate_left 1
      · intro w hSw
        go_simp
        first | done | with_reducible rfl
      try simp only [Act.put, List.setIfInBounds_toArray, List.set_cons_zero, List.set_cons_succ]
      refine wpAnyH_take (i := 1) (oi := { dst := some 20, op := Op.move (Operand.tmp 0), type := 9, pos := "ref.go:21", after := #[], guard := none }) (v := ?_) rfl (by kernel_rfl) (by kernel_rfl) (by kernel_rfl) (fun _ _ _ h => h) (Or.inl ⟨by rfl, ?_⟩) (by assumption) ?_
      rotate_left 1
      · intro w hSw
        go_simp
        first | done | with_reducible rfl
      try simp only [Act.put, List.setIfInBounds_toArray, List.set_cons_zero, List.set_cons_succ]
      refine wpAnyH_take (i := 2) (oi := { dst := some 21, op := Op.move (Operand.tmp 4), type := 3, pos := "ref.go:21", after := #[], guard := none }) (v := ?_) rfl (by kernel_rfl) (by kernel_rfl) (by kernel_rfl) (fun _ _ _ h => h) (Or.inl ⟨by rfl, ?_⟩) (by assumption) ?_
      rotate_left 1
      · intro w hSw
        go_simp
        first | done | with_reducible rfl
      try simp only [Act.put, List.setIfInBounds_toArray, List.set_cons_zero, List.set_cons_succ]
      refine wpAnyH_take (i := 3) (oi := { dst := some 22, op := Op.index 9 (Operand.tmp 20) (Operand.tmp 21), type := 5, pos := "ref.go:21", after := #[{ on := 1, ground := Ground.data }, { on := 2, ground := Ground.data }], guard := none }) (v := ?_) rfl (by kernel_rfl) (by kernel_rfl) (by kernel_rfl) (fun _ _ _ h => h) (Or.inl ⟨by rfl, ?_⟩) (by assumption) ?_
      rotate_left 1
      · intro w hSw
        go_simp
        first | done | with_reducible rfl
      try simp only [Act.put, List.setIfInBounds_toArray, List.set_cons_zero, List.set_cons_succ]
      refine wpAnyH_take (i := 4) (oi := { dst := some 23, op := Op.convert 5 3 (Operand.tmp 22), type := 3, pos := "ref.go:21", after := #[{ on := 3, ground := Ground.data }], guard := none }) (v := ?_) rfl (by kernel_rfl) (by kernel_rfl) (by kernel_rfl) (fun _ _ _ h => h) (Or.inl ⟨by rfl, ?_⟩) (by assumption) ?_
      rotate_left 1
      · intro w hSw
        go_simp
        first | done | with_reducible rfl
      try simp only [Act.put, List.setIfInBounds_toArray, List.set_cons_zero, List.set_cons_succ]
      refine wpAnyH_take (i := 5) (oi := { dst := some 24, op := Op.binOp BinOp.mul 3 (Operand.tmp 23) (Operand.const (Value.int IntKind.i64 256)) 3, type := 3, pos := "ref.go:21", after := #[{ on := 4, ground := Ground.data }], guard := none }) (v := ?_) rfl (by kernel_rfl) (by kernel_rfl) (by kernel_rfl) (fun _ _ _ h => h) (Or.inl ⟨by rfl, ?_⟩) (by assumption) ?_
      rotate_left 1
      · intro w hSw
        go_simp
        first | done | with_reducible rfl
      try simp only [Act.put, List.setIfInBounds_toArray, List.set_cons_zero, List.set_cons_succ]
      refine wpAnyH_take (i := 6) (oi := { dst := some 25, op := Op.binOp BinOp.add 3 (Operand.tmp 19) (Operand.tmp 24) 3, type := 3, pos := "ref.go:21", after := #[{ on := 0, ground := Ground.data }, { on := 5, ground := Ground.data }], guard := none }) (v := ?_) rfl (by kernel_rfl) (by kernel_rfl) (by kernel_rfl) (fun _ _ _ h => h) (Or.inl ⟨by rfl, ?_⟩) (by assumption) ?_
      rotate_left 1
      · intro w hSw
        go_simp
        first | done | with_reducible rfl
      try simp only [Act.put, List.setIfInBounds_toArray, List.set_cons_zero, List.set_cons_succ]
      refine wpAnyH_take (i := 7) (oi := { dst := some 26, op := Op.move (Operand.tmp 0), type := 9, pos := "ref.go:21", after := #[], guard := none }) (v := ?_) rfl (by kernel_rfl) (by kernel_rfl) (by kernel_rfl) (fun _ _ _ h => h) (Or.inl ⟨by rfl, ?_⟩) (by assumption) ?_
      rotate_left 1
      · intro w hSw
        go_simp
        first | done | with_reducible rfl
      try simp only [Act.put, List.setIfInBounds_toArray, List.set_cons_zero, List.set_cons_succ]
      refine wpAnyH_take (i := 8) (oi := { dst := some 27, op := Op.move (Operand.tmp 4), type := 3, pos := "ref.go:21", after := #[], guard := none }) (v := ?_) rfl (by kernel_rfl) (by kernel_rfl) (by kernel_rfl) (fun _ _ _ h => h) (Or.inl ⟨by rfl, ?_⟩) (by assumption) ?_
      rotate_left 1
      · intro w hSw
        go_simp
        first | done | with_reducible rfl
      try simp only [Act.put, List.setIfInBounds_toArray, List.set_cons_zero, List.set_cons_succ]
      refine wpAnyH_take (i := 9) (oi := { dst := some 28, op := Op.binOp BinOp.add 3 (Operand.tmp 27) (Operand.const (Value.int IntKind.i64 1)) 3, type := 3, pos := "ref.go:21", after := #[{ on := 8, ground := Ground.data }], guard := none }) (v := ?_) rfl (by kernel_rfl) (by kernel_rfl) (by kernel_rfl) (fun _ _ _ h => h) (Or.inl ⟨by rfl, ?_⟩) (by assumption) ?_
      rotate_left 1
      · intro w hSw
        go_simp
        first | done | with_reducible rfl
      try simp only [Act.put, List.setIfInBounds_toArray, List.set_cons_zero, List.set_cons_succ]
      refine wpAnyH_take (i := 10) (oi := { dst := some 29, op := Op.index 9 (Operand.tmp 26) (Operand.tmp 28), type := 5, pos := "ref.go:21", after := #[{ on := 7, ground := Ground.data }, { on := 9, ground := Ground.data }], guard := none }) (v := ?_) rfl (by kernel_rfl) (by kernel_rfl) (by kernel_rfl) (fun _ _ _ h => h) (Or.inl ⟨by rfl, ?_⟩) (by assumption) ?_
      rotate_left 1
      · intro w hSw
        go_simp
        first | done | with_reducible rfl
      try simp only [Act.put, List.setIfInBounds_toArray, List.set_cons_zero, List.set_cons_succ]
      refine wpAnyH_take (i := 11) (oi := { dst := some 30, op := Op.convert 5 3 (Operand.tmp 29), type := 3, pos := "ref.go:21", after := #[{ on := 10, ground := Ground.data }], guard := none }) (v := ?_) rfl (by kernel_rfl) (by kernel_rfl) (by kernel_rfl) (fun _ _ _ h => h) (Or.inl ⟨by rfl, ?_⟩) (by assumption) ?_
      rotate_left 1
      · intro w hSw
        go_simp
        first | done | with_reducible rfl
      try simp only [Act.put, List.setIfInBounds_toArray, List.set_cons_zero, List.set_cons_succ]
      refine wpAnyH_take (i := 12) (oi := { dst := some 31, op := Op.binOp BinOp.add 3 (Operand.tmp 25) (Operand.tmp 30) 3, type := 3, pos := "ref.go:21", after := #[{ on := 6, ground := Ground.data }, { on := 11, ground := Ground.data }], guard := none }) (v := ?_) rfl (by kernel_rfl) (by kernel_rfl) (by kernel_rfl) (fun _ _ _ h => h) (Or.inl ⟨by rfl, ?_⟩) (by assumption) ?_
      rotate_left 1
      · intro w hSw
        go_simp
        first | done | with_reducible rfl
      try simp only [Act.put, List.setIfInBounds_toArray, List.set_cons_zero, List.set_cons_succ]
      refine wpAnyH_ready (rs := [13]) (by kernel_rfl) (by simp) ?_
      refine AllReadyH.cons (o := { dst := some 3, op := Op.assign (Operand.tmp 31), type := 3, pos := "ref.go:21", after := #[{ on := 12, ground := Ground.data }, { on := 0, ground := Ground.phase }, { on := 1, ground := Ground.phase }, { on := 2, ground := Ground.phase }, { on := 3, ground := Ground.phase }, { on := 4, ground := Ground.phase }, { on := 5, ground := Ground.phase }, { on := 6, ground := Ground.phase }, { on := 7, ground := Ground.phase }, { on := 8, ground := Ground.phase }, { on := 9, ground := Ground.phase }, { on := 10, ground := Ground.phase }, { on := 11, ground := Ground.phase }, { on := 12, ground := Ground.phase }], guard := none }) rfl (fun K hK => ?_) AllReadyH.nil
      go_simp
      refine hK.out _ _ hHeld (fun hHeld => ?_)
      clear hK K
      try simp only [Act.put, List.setIfInBounds_toArray, List.set_cons_zero, List.set_cons_succ]
      refine wpAnyH_done (by kernel_rfl) ?_ _
      try simp only [Exit.then]
      go_wp2_with (fail)
      exact ⟨⟨k + 2, by omega, by omega, by go_num, (by rw [← HT2.out, HT3.out]; refine congrArg (Value.int .i64) ?_; omega), hb9.drew⟩, by simp [intOf] <;> omega⟩
    · obtain rfl : k = s.size := by omega
      have HT : Hid (tot (s.data.toList.take s.size) = tot s.data.toList) := Lib.hid (by rw [List.take_of_length_le (by simp)])
      obtain ⟨t, ht⟩ : ∃ t, t = tot (s.data.toList.take s.size) := ⟨_, rfl⟩
      have hb := tot_le s.data.toList
      have hb2 : s.data.toList.length ≤ 1000001 := by simp; omega
      have ht9 : t ≤ 65535 * s.data.toList.length := by rw [ht, HT.out]; exact hb
      rw [← ht]
      have CD := Lib.hid (fun V => down_any t V (by omega))
      have hd := dn_le t
      obtain ⟨z, hz⟩ : ∃ z, z = dn t := ⟨_, rfl⟩
      rw [← hz] at CD hd
      have hz2 : (65535 : Int) - (z : Int) = ((65535 - z : Nat) : Int) := by omega
      have HRR : Hid (R = 65535 - z) := Lib.hid (by rw [HR.out, hz, ht]; unfold sm; rw [HT.out])
      obtain ⟨y, hy⟩ : ∃ y, y = 65535 - z := ⟨_, rfl⟩
      have HY := Lib.hid hy
      rw [← hy] at hz2
      have hyw : IntKind.i64.wrap (y : Int) = (y : Int) := IntWalk.i64_in _ (by omega)
      have HB9 := Lib.hid hb9
      clear ht hz hy hb hb2 ht9 hb9
      go_wp2_with (go_at_call 71; (with_reducible refine (CD.out _).mono ?_); rintro e w1 ⟨rfl, rfl⟩)
      go_ret
      exact ⟨by rw [HRR.out, ← HY.out]; rfl, HB9.out⟩
end Go.Proofs.Ythdkbocokefdhaa
