import Derived.Test.YtmijfhfjhbckdaaByt
import Derived.Test.YtmijfhfjhbckdaaRPCfg
/- The document's Bytes. -/
namespace Go.Proofs.Ytmijfhfjhbckdaa
set_option maxRecDepth 100000
open Go.RowKit
structure RS (y : Addr) (r : RepL) (w V : World) : Prop where
  at_ : RepAt V y r
  bl : Below w.heap.size w V
theorem RS.below {y : Addr} {r : RepL} {w V W : World} (h : RS y r w V) (hb : Below V.heap.size V W) : RS y r w W := ⟨h.at_.below hb, h.bl.trans (hb.mono h.bl.size)⟩
theorem RS.drew {y : Addr} {r : RepL} {w V : World} (h : RS y r w V) : RS y r w V.drew := h.below (Below.refl _ _).drew
set_option maxHeartbeats 16000000 in
theorem repbytes_any (l : List RepL) (a : Option Addr) (cap : Nat) (w : World) (hin : RepIn w a l) (hfew : ∀ r ∈ l, r.few) (hl : l.length ≤ 40) :
    Calls Try.prog 18 #[.slice a l.length cap] w fun e w' => e = .returned (.string (bs (repsB l))) ∧ Below w.heap.size w w' := by
  have HIN : Hid (∀ V, Below w.heap.size w V → RepIn V a l) := fun V h => hin.below h
  obtain ⟨n, hn⟩ : ∃ n, n = l.length := ⟨_, rfl⟩
  rw [← hn]
  have HN := Lib.hid hn
  have HFEW := Lib.hid hfew
  have hn40 : n ≤ 40 := by omega
  clear hin hfew hn hl
  go_enter Try.func18, Try.ntmps18
  go_wp2_with (fail)
  go_loopw [3, 4] (fun t3 t4 wr => ∃ j : Nat, j ≤ n ∧ t4 = .int .i64 j ∧ t3 = .string (bs (repsB (l.take j))) ∧ Hid (Below w.heap.size w wr)) (fun _ t4 _ => n - (intOf t4).toNat)
  case atStart => exact ⟨0, by omega, rfl, rfl, Below.refl _ _⟩
  case round =>
    obtain ⟨j, hj, rfl, rfl, hbl⟩ := hrel
    by_cases hlt : j < n
    · have hlt' : (j : Int) < (n : Int) := by omega
      have hjl : j < l.length := by rw [← HN.out]; exact hlt
      have few := HFEW.out l[j] (List.getElem_mem hjl)
      have hsn := repsB_snoc l j hjl
      obtain ⟨x, hx⟩ : ∃ x, a = some x := by obtain ⟨x, h, _⟩ := HIN.out _ hbl.out j hjl; exact ⟨x, h⟩
      obtain ⟨y, hy⟩ : ∃ y, y = x.add (j * 4) := ⟨_, rfl⟩
      obtain ⟨r, hr⟩ : ∃ r, r = l[j] := ⟨_, rfl⟩
      have ATV : Hid (∀ V, Below w.heap.size w V → RepAt V y r) := fun V hV => by
        obtain ⟨x', hx', a1⟩ := HIN.out _ hV j hjl
        rw [hx] at hx'
        obtain rfl := Option.some.inj hx'
        rw [hy, hr]
        exact a1
      rw [← hr] at few hsn
      have htl : (repsB (l.take j)).length ≤ 200000000 := by
        have := repsB_len (l.take j) (fun y hy => HFEW.out y (List.mem_of_mem_take hy))
        rw [List.length_take] at this
        omega
      obtain ⟨acc, hacc⟩ : ∃ z, z = repsB (l.take j) := ⟨_, rfl⟩
      rw [← hacc] at htl hsn
      rw [← hacc]
      have hy' := hy.symm
      obtain ⟨e, nn, cs, ca, cc, os, oa, oc⟩ := r
      obtain ⟨mc, hmc⟩ : ∃ m, m = cs.length := ⟨_, rfl⟩
      obtain ⟨mo, hmo⟩ : ∃ m, m = os.length := ⟨_, rfl⟩
      have hmc9 : mc ≤ 600 := by have := few.c; simp only at this; omega
      have hmo9 : mo ≤ 60 := by have := few.o; simp only at this; omega
      rw [hx]
      obtain ⟨A0, hA0⟩ : ∃ s, s = bs acc := ⟨_, rfl⟩
      have zA0 : A0.size = acc.length := by rw [hA0, bs_size]
      obtain ⟨s1, hs1⟩ : ∃ s, s = bs (be (lo64 e) 1) := ⟨_, rfl⟩
      obtain ⟨s2, hs2⟩ : ∃ s, s = bs (be (lo64 nn) 4) := ⟨_, rfl⟩
      obtain ⟨s3, hs3⟩ : ∃ s, s = bs (be (lo64 (mc : Int)) 2) := ⟨_, rfl⟩
      have zs1 : s1.size = 1 := by rw [hs1, bs_size, be_length]
      have zs2 : s2.size = 4 := by rw [hs2, bs_size, be_length]
      have zs3 : s3.size = 2 := by rw [hs3, bs_size, be_length]
      have N1 : Hid (∀ V, Calls Try.prog 44 #[.int .i64 e, .int .i64 1] V fun e w' => e = .returned (.string s1) ∧ Below V.heap.size V w') := fun V => by rw [hs1]; exact rnum_any e 1 V (by omega)
      have N2 : Hid (∀ V, Calls Try.prog 44 #[.int .i64 nn, .int .i64 4] V fun e w' => e = .returned (.string s2) ∧ Below V.heap.size V w') := fun V => by rw [hs2]; exact rnum_any nn 4 V (by omega)
      have N3 : Hid (∀ V, Calls Try.prog 44 #[.int .i64 (mc : Nat), .int .i64 2] V fun e w' => e = .returned (.string s3) ∧ Below V.heap.size V w') := fun V => by rw [hs3]; exact rnum_any (mc : Int) 2 V (by omega)
      obtain ⟨c1, k1⟩ : ∃ c, c = A0 ++ s1 := ⟨_, rfl⟩
      obtain ⟨c2, k2⟩ : ∃ c, c = c1 ++ s2 := ⟨_, rfl⟩
      obtain ⟨c3, k3⟩ : ∃ c, c = c2 ++ s3 := ⟨_, rfl⟩
      have x1 : c1.size = A0.size + 1 := by rw [k1, ByteArray.size_append, zs1]
      have x2 : c2.size = A0.size + 5 := by rw [k2, ByteArray.size_append, x1, zs2]
      have r1 := cat_run A0 s1 c1 k1 (by omega)
      have r2 := cat_run c1 s2 c2 k2 (by omega)
      have r3 := cat_run c2 s3 c3 k3 (by omega)
      obtain ⟨pre, hpre⟩ : ∃ z, z = acc ++ be (lo64 e) 1 ++ be (lo64 nn) 4 ++ be (lo64 (mc : Int)) 2 := ⟨_, rfl⟩
      have HC3 : Hid (c3 = bs pre) := by show _ = _; rw [k3, k2, k1, hA0, hs1, hs2, hs3, bs_append, bs_append, bs_append, hpre]
      have HPL : Hid (pre.length ≤ 200000010) := by show _ ≤ _; rw [hpre]; simp only [List.length_append, be_length]; omega
      have HPRE := Lib.hid hpre
      have HSN := Lib.hid hsn
      have FEW := Lib.hid few
      have HMC := Lib.hid hmc
      have HMO := Lib.hid hmo
      have RS0 : Hid (RS y ⟨e, nn, cs, ca, cc, os, oa, oc⟩ w wr) := ⟨ATV.out _ hbl.out, hbl.out⟩
      have hmcr := hmc.symm
      rw [← hA0]
      clear hbl hsn few hy hr htl hacc hA0 zA0 hs1 hs2 hs3 zs1 zs2 zs3 k1 k2 k3 x1 x2 hpre hmc hmo hx hjl
      go_upto_region 5 with (fail)
      refine wp_region_noPanic ?_
      refine wp_region_held_drew (S := RS y ⟨e, nn, cs, ca, cc, os, oa, oc⟩ w) (by kernel_rfl) RS0.out.drew (fun hHeld => ?_)
      refine wpAnyH_take (i := 0) (oi := { dst := some 14, op := Op.move (Operand.tmp 3), type := 9, pos := "ref.go:180", after := #[], guard := none }) (v := ?_) rfl (by kernel_rfl) (by kernel_rfl) (by kernel_rfl) (fun _ _ _ h => h) (Or.inl ⟨by rfl, ?_⟩) (by assumption) ?_
      rotate_left 1
      · intro w hSw
        go_simp
        first | done | with_reducible rfl
      try simp only [Act.put, List.setIfInBounds_toArray, List.set_cons_zero, List.set_cons_succ]
      refine wpAnyH_take (i := 1) (oi := { dst := some 15, op := Op.move (Operand.tmp 0), type := 54, pos := "ref.go:180", after := #[], guard := none }) (v := ?_) rfl (by kernel_rfl) (by kernel_rfl) (by kernel_rfl) (fun _ _ _ h => h) (Or.inl ⟨by rfl, ?_⟩) (by assumption) ?_
      rotate_left 1
      · intro w hSw
        go_simp
        first | done | with_reducible rfl
      try simp only [Act.put, List.setIfInBounds_toArray, List.set_cons_zero, List.set_cons_succ]
      refine wpAnyH_take (i := 2) (oi := { dst := some 16, op := Op.move (Operand.tmp 4), type := 3, pos := "ref.go:180", after := #[], guard := none }) (v := ?_) rfl (by kernel_rfl) (by kernel_rfl) (by kernel_rfl) (fun _ _ _ h => h) (Or.inl ⟨by rfl, ?_⟩) (by assumption) ?_
      rotate_left 1
      · intro w hSw
        go_simp
        first | done | with_reducible rfl
      try simp only [Act.put, List.setIfInBounds_toArray, List.set_cons_zero, List.set_cons_succ]
      refine wpAnyH_take (i := 3) (oi := { dst := some 17, op := Op.indexAddr 54 (Operand.tmp 15) (Operand.tmp 16), type := 0, pos := "ref.go:180", after := #[{ on := 1, ground := Ground.data }, { on := 2, ground := Ground.data }], guard := none }) (v := ?_) rfl (by kernel_rfl) (by kernel_rfl) (by kernel_rfl) (fun _ _ _ h => h) (Or.inl ⟨by rfl, ?_⟩) (by assumption) ?_
      rotate_left 1
      · intro w hSw
        go_simp
        first | done | with_reducible rfl
      try simp only [Act.put, List.setIfInBounds_toArray, List.set_cons_zero, List.set_cons_succ]
      refine wpAnyH_take (i := 4) (oi := { dst := some 18, op := Op.fieldAddr 58 (Operand.tmp 17) 0, type := 0, pos := "ref.go:180", after := #[{ on := 3, ground := Ground.data }], guard := none }) (v := ?_) rfl (by kernel_rfl) (by kernel_rfl) (by kernel_rfl) (fun _ _ _ h => h) (Or.inl ⟨by rfl, ?_⟩) (by assumption) ?_
      rotate_left 1
      · intro w hSw
        go_simp
        first | done | with_reducible rfl
      try simp only [Act.put, List.setIfInBounds_toArray, List.set_cons_zero, List.set_cons_succ]
      refine wpAnyH_take (i := 5) (oi := { dst := some 19, op := Op.load 30 (Operand.tmp 18), type := 30, pos := "ref.go:180", after := #[{ on := 4, ground := Ground.data }], guard := none }) (v := ?_) rfl (by kernel_rfl) (by kernel_rfl) (by kernel_rfl) (fun _ _ _ h => h) (Or.inl ⟨by rfl, ?_⟩) (by assumption) ?_
      rotate_left 1
      · intro w hSw
        have q0 := hSw.at_.c0
        simp only at q0
        go_simp
        first | done | with_reducible rfl
      try simp only [Act.put, List.setIfInBounds_toArray, List.set_cons_zero, List.set_cons_succ]
      refine wpAnyH_take (i := 8) (oi := { dst := some 22, op := Op.move (Operand.tmp 0), type := 54, pos := "ref.go:180", after := #[], guard := none }) (v := ?_) rfl (by kernel_rfl) (by kernel_rfl) (by kernel_rfl) (fun _ _ _ h => h) (Or.inl ⟨by rfl, ?_⟩) (by assumption) ?_
      rotate_left 1
      · intro w hSw
        go_simp
        first | done | with_reducible rfl
      try simp only [Act.put, List.setIfInBounds_toArray, List.set_cons_zero, List.set_cons_succ]
      refine wpAnyH_take (i := 9) (oi := { dst := some 23, op := Op.move (Operand.tmp 4), type := 3, pos := "ref.go:180", after := #[], guard := none }) (v := ?_) rfl (by kernel_rfl) (by kernel_rfl) (by kernel_rfl) (fun _ _ _ h => h) (Or.inl ⟨by rfl, ?_⟩) (by assumption) ?_
      rotate_left 1
      · intro w hSw
        go_simp
        first | done | with_reducible rfl
      try simp only [Act.put, List.setIfInBounds_toArray, List.set_cons_zero, List.set_cons_succ]
      refine wpAnyH_take (i := 10) (oi := { dst := some 24, op := Op.indexAddr 54 (Operand.tmp 22) (Operand.tmp 23), type := 0, pos := "ref.go:180", after := #[{ on := 8, ground := Ground.data }, { on := 9, ground := Ground.data }], guard := none }) (v := ?_) rfl (by kernel_rfl) (by kernel_rfl) (by kernel_rfl) (fun _ _ _ h => h) (Or.inl ⟨by rfl, ?_⟩) (by assumption) ?_
      rotate_left 1
      · intro w hSw
        go_simp
        first | done | with_reducible rfl
      try simp only [Act.put, List.setIfInBounds_toArray, List.set_cons_zero, List.set_cons_succ]
      refine wpAnyH_take (i := 11) (oi := { dst := some 25, op := Op.fieldAddr 58 (Operand.tmp 24) 1, type := 0, pos := "ref.go:180", after := #[{ on := 10, ground := Ground.data }], guard := none }) (v := ?_) rfl (by kernel_rfl) (by kernel_rfl) (by kernel_rfl) (fun _ _ _ h => h) (Or.inl ⟨by rfl, ?_⟩) (by assumption) ?_
      rotate_left 1
      · intro w hSw
        go_simp
        first | done | with_reducible rfl
      try simp only [Act.put, List.setIfInBounds_toArray, List.set_cons_zero, List.set_cons_succ]
      refine wpAnyH_take (i := 12) (oi := { dst := some 26, op := Op.load 3 (Operand.tmp 25), type := 3, pos := "ref.go:180", after := #[{ on := 11, ground := Ground.data }], guard := none }) (v := ?_) rfl (by kernel_rfl) (by kernel_rfl) (by kernel_rfl) (fun _ _ _ h => h) (Or.inl ⟨by rfl, ?_⟩) (by assumption) ?_
      rotate_left 1
      · intro w hSw
        have q0 := hSw.at_.c1
        simp only at q0
        go_simp
        first | done | with_reducible rfl
      try simp only [Act.put, List.setIfInBounds_toArray, List.set_cons_zero, List.set_cons_succ]
      refine wpAnyH_take (i := 15) (oi := { dst := some 29, op := Op.move (Operand.tmp 0), type := 54, pos := "ref.go:180", after := #[], guard := none }) (v := ?_) rfl (by kernel_rfl) (by kernel_rfl) (by kernel_rfl) (fun _ _ _ h => h) (Or.inl ⟨by rfl, ?_⟩) (by assumption) ?_
      rotate_left 1
      · intro w hSw
        go_simp
        first | done | with_reducible rfl
      try simp only [Act.put, List.setIfInBounds_toArray, List.set_cons_zero, List.set_cons_succ]
      refine wpAnyH_take (i := 16) (oi := { dst := some 30, op := Op.move (Operand.tmp 4), type := 3, pos := "ref.go:180", after := #[], guard := none }) (v := ?_) rfl (by kernel_rfl) (by kernel_rfl) (by kernel_rfl) (fun _ _ _ h => h) (Or.inl ⟨by rfl, ?_⟩) (by assumption) ?_
      rotate_left 1
      · intro w hSw
        go_simp
        first | done | with_reducible rfl
      try simp only [Act.put, List.setIfInBounds_toArray, List.set_cons_zero, List.set_cons_succ]
      refine wpAnyH_take (i := 17) (oi := { dst := some 31, op := Op.indexAddr 54 (Operand.tmp 29) (Operand.tmp 30), type := 0, pos := "ref.go:180", after := #[{ on := 15, ground := Ground.data }, { on := 16, ground := Ground.data }], guard := none }) (v := ?_) rfl (by kernel_rfl) (by kernel_rfl) (by kernel_rfl) (fun _ _ _ h => h) (Or.inl ⟨by rfl, ?_⟩) (by assumption) ?_
      rotate_left 1
      · intro w hSw
        go_simp
        first | done | with_reducible rfl
      try simp only [Act.put, List.setIfInBounds_toArray, List.set_cons_zero, List.set_cons_succ]
      refine wpAnyH_take (i := 18) (oi := { dst := some 32, op := Op.fieldAddr 58 (Operand.tmp 31) 2, type := 0, pos := "ref.go:180", after := #[{ on := 17, ground := Ground.data }], guard := none }) (v := ?_) rfl (by kernel_rfl) (by kernel_rfl) (by kernel_rfl) (fun _ _ _ h => h) (Or.inl ⟨by rfl, ?_⟩) (by assumption) ?_
      rotate_left 1
      · intro w hSw
        go_simp
        first | done | with_reducible rfl
      try simp only [Act.put, List.setIfInBounds_toArray, List.set_cons_zero, List.set_cons_succ]
      refine wpAnyH_take (i := 19) (oi := { dst := some 33, op := Op.load 55 (Operand.tmp 32), type := 55, pos := "ref.go:180", after := #[{ on := 18, ground := Ground.data }], guard := none }) (v := ?_) rfl (by kernel_rfl) (by kernel_rfl) (by kernel_rfl) (fun _ _ _ h => h) (Or.inl ⟨by rfl, ?_⟩) (by assumption) ?_
      rotate_left 1
      · intro w hSw
        have q0 := hSw.at_.c2
        simp only at q0
        go_simp
        first | done | with_reducible rfl
      try simp only [Act.put, List.setIfInBounds_toArray, List.set_cons_zero, List.set_cons_succ]
      refine wpAnyH_take (i := 20) (oi := { dst := some 34, op := Op.call { callee := Callee.builtin Builtin.len, args := #[Operand.tmp 33], argTypes := #[55] }, type := 3, pos := "ref.go:180", after := #[{ on := 19, ground := Ground.data }], guard := none }) (v := ?_) rfl (by kernel_rfl) (by kernel_rfl) (by kernel_rfl) (fun _ _ _ h => h) (Or.inl ⟨by rfl, ?_⟩) (by assumption) ?_
      rotate_left 1
      · intro w hSw
        go_simp
        first | done | with_reducible rfl
      try simp only [Act.put, List.setIfInBounds_toArray, List.set_cons_zero, List.set_cons_succ]
      refine wpAnyH_ready (rs := [6]) (by kernel_rfl) (by simp) ?_
      refine AllReadyH.cons (o := { dst := some 20, op := Op.call { callee := Callee.value (Operand.func 44), args := #[Operand.tmp 19, Operand.const (Value.int IntKind.i64 1)], argTypes := #[3, 3] }, type := 9, pos := "ref.go:180", after := #[{ on := 5, ground := Ground.data }], guard := none }) rfl (fun K hK => ?_) AllReadyH.nil
      go_simp
      (go_at_call 44; (with_reducible refine (N1.out _).mono ?_); rintro e1 w5 ⟨rfl, hb5⟩)
      go_simp
      refine hK.out _ _ (hHeld.below hb5) (fun hHeld => ?_)
      clear hK K
      try simp only [Act.put, List.setIfInBounds_toArray, List.set_cons_zero, List.set_cons_succ]
      refine wpAnyH_take (i := 7) (oi := { dst := some 21, op := Op.binOp BinOp.add 9 (Operand.tmp 14) (Operand.tmp 20) 9, type := 9, pos := "ref.go:180", after := #[{ on := 0, ground := Ground.data }, { on := 6, ground := Ground.data }], guard := none }) (v := ?_) rfl (by kernel_rfl) (by kernel_rfl) (by kernel_rfl) (fun _ _ _ h => h) (Or.inl ⟨by rfl, ?_⟩) (by assumption) ?_
      rotate_left 1
      · intro w hSw
        go_simp
        first | done | with_reducible rfl
      try simp only [Act.put, List.setIfInBounds_toArray, List.set_cons_zero, List.set_cons_succ]
      refine wpAnyH_ready (rs := [13]) (by kernel_rfl) (by simp) ?_
      refine AllReadyH.cons (o := { dst := some 27, op := Op.call { callee := Callee.value (Operand.func 44), args := #[Operand.tmp 26, Operand.const (Value.int IntKind.i64 4)], argTypes := #[3, 3] }, type := 9, pos := "ref.go:180", after := #[{ on := 12, ground := Ground.data }, { on := 6, ground := Ground.chain }], guard := none }) rfl (fun K hK => ?_) AllReadyH.nil
      go_simp
      (go_at_call 44; (with_reducible refine (N2.out _).mono ?_); rintro e1 w5 ⟨rfl, hb5⟩)
      go_simp
      refine hK.out _ _ (hHeld.below hb5) (fun hHeld => ?_)
      clear hK K
      try simp only [Act.put, List.setIfInBounds_toArray, List.set_cons_zero, List.set_cons_succ]
      refine wpAnyH_take (i := 14) (oi := { dst := some 28, op := Op.binOp BinOp.add 9 (Operand.tmp 21) (Operand.tmp 27) 9, type := 9, pos := "ref.go:180", after := #[{ on := 7, ground := Ground.data }, { on := 13, ground := Ground.data }], guard := none }) (v := ?_) rfl (by kernel_rfl) (by kernel_rfl) (by kernel_rfl) (fun _ _ _ h => h) (Or.inl ⟨by rfl, ?_⟩) (by assumption) ?_
      rotate_left 1
      · intro w hSw
        go_simp
        first | done | with_reducible rfl
      try simp only [Act.put, List.setIfInBounds_toArray, List.set_cons_zero, List.set_cons_succ]
      refine wpAnyH_ready (rs := [21]) (by kernel_rfl) (by simp) ?_
      refine AllReadyH.cons (o := { dst := some 35, op := Op.call { callee := Callee.value (Operand.func 44), args := #[Operand.tmp 34, Operand.const (Value.int IntKind.i64 2)], argTypes := #[3, 3] }, type := 9, pos := "ref.go:180", after := #[{ on := 20, ground := Ground.data }, { on := 13, ground := Ground.chain }], guard := none }) rfl (fun K hK => ?_) AllReadyH.nil
      go_simp
      (go_at_call 44; (with_reducible refine (N3.out _).mono ?_); rintro e1 w5 ⟨rfl, hb5⟩)
      go_simp
      refine hK.out _ _ (hHeld.below hb5) (fun hHeld => ?_)
      clear hK K
      try simp only [Act.put, List.setIfInBounds_toArray, List.set_cons_zero, List.set_cons_succ]
      refine wpAnyH_take (i := 22) (oi := { dst := some 36, op := Op.binOp BinOp.add 9 (Operand.tmp 28) (Operand.tmp 35) 9, type := 9, pos := "ref.go:180", after := #[{ on := 14, ground := Ground.data }, { on := 21, ground := Ground.data }], guard := none }) (v := ?_) rfl (by kernel_rfl) (by kernel_rfl) (by kernel_rfl) (fun _ _ _ h => h) (Or.inl ⟨by rfl, ?_⟩) (by assumption) ?_
      rotate_left 1
      · intro w hSw
        go_simp
        first | done | with_reducible rfl
      try simp only [Act.put, List.setIfInBounds_toArray, List.set_cons_zero, List.set_cons_succ]
      refine wpAnyH_ready (rs := [23]) (by kernel_rfl) (by simp) ?_
      refine AllReadyH.cons (o := { dst := some 3, op := Op.assign (Operand.tmp 36), type := 9, pos := "ref.go:180", after := #[{ on := 22, ground := Ground.data }, { on := 21, ground := Ground.chain }, { on := 0, ground := Ground.phase }, { on := 1, ground := Ground.phase }, { on := 2, ground := Ground.phase }, { on := 3, ground := Ground.phase }, { on := 4, ground := Ground.phase }, { on := 5, ground := Ground.phase }, { on := 6, ground := Ground.phase }, { on := 7, ground := Ground.phase }, { on := 8, ground := Ground.phase }, { on := 9, ground := Ground.phase }, { on := 10, ground := Ground.phase }, { on := 11, ground := Ground.phase }, { on := 12, ground := Ground.phase }, { on := 13, ground := Ground.phase }, { on := 14, ground := Ground.phase }, { on := 15, ground := Ground.phase }, { on := 16, ground := Ground.phase }, { on := 17, ground := Ground.phase }, { on := 18, ground := Ground.phase }, { on := 19, ground := Ground.phase }, { on := 20, ground := Ground.phase }, { on := 21, ground := Ground.phase }, { on := 22, ground := Ground.phase }], guard := none }) rfl (fun K hK => ?_) AllReadyH.nil
      go_simp
      refine hK.out _ _ hHeld (fun hHeld => ?_)
      clear hK K
      try simp only [Act.put, List.setIfInBounds_toArray, List.set_cons_zero, List.set_cons_succ]
      refine wpAnyH_done (by kernel_rfl) ?_ _
      refine NoPanic.normal ?_
      have RS5 : Hid (RS y ⟨e, nn, cs, ca, cc, os, oa, oc⟩ w w5) := hHeld
      clear hHeld N1 N2 N3 hb5
      try simp only [Exit.then]
      have hc3b : c3 = bs pre := HC3.out
      rw [hc3b]
      clear hc3b
      go_wp2_with (fail)
      go_loopw [3, 5] (fun t3 t5 wr => ∃ i : Nat, i ≤ mc ∧ t5 = .int .i64 i ∧ t3 = .string (bs (pre ++ codB (cs.take i))) ∧ Hid (Below w.heap.size w wr)) (fun _ t5 _ => mc - (intOf t5).toNat)
      case atStart => exact ⟨0, by omega, rfl, by rw [List.take_zero]; show Value.string (bs pre) = Value.string (bs (pre ++ [])); rw [List.append_nil], RS5.out.bl⟩
      case round =>
        obtain ⟨i, hi, rfl, rfl, hbl⟩ := hrel
        have at1 := ATV.out _ hbl.out
        have c2 := at1.c2
        simp only at c2
        rw [← HMC.out] at c2
        obtain ⟨A1, hA1⟩ : ∃ s, s = bs (pre ++ codB (cs.take i)) := ⟨_, rfl⟩
        have hA1s : A1.size ≤ 200000700 := by rw [hA1, bs_size]; have := HPL.out; simp only [List.length_append, codB_len, List.length_take]; omega
        rw [← hA1]
        by_cases hli : i < mc
        · have hli' : (i : Int) < (mc : Int) := by omega
          have hil : i < cs.length := by rw [← HMC.out]; exact hli
          obtain ⟨z, hz, cz⟩ := at1.ci i hil
          simp only at hz cz
          obtain ⟨cv, hcv⟩ : ∃ c, c = cs[i] := ⟨_, rfl⟩
          rw [← hcv] at cz
          have hsn := codB_snoc cs i hil
          rw [← hcv] at hsn
          obtain ⟨s4, hs4⟩ : ∃ s, s = bs (be (lo64 cv) 1) := ⟨_, rfl⟩
          have zs4 : s4.size = 1 := by rw [hs4, bs_size, be_length]
          obtain ⟨c4, kc4⟩ : ∃ c, c = A1 ++ s4 := ⟨_, rfl⟩
          have rc4 := cat_run A1 s4 c4 kc4 (by omega)
          have N4 : Hid (∀ V, Calls Try.prog 44 #[.int .i64 cv, .int .i64 1] V fun e w' => e = .returned (.string s4) ∧ Below V.heap.size V w') := fun V => by rw [hs4]; exact rnum_any cv 1 V (by omega)
          have HC4 : Hid (c4 = bs (pre ++ codB (cs.take (i + 1)))) := by
            show _ = _
            rw [kc4, hA1, hs4, bs_append, hsn, List.append_assoc]
          have BL := Lib.hid hbl.out
          subst hz
          clear hbl at1 hA1 hA1s hcv hsn hs4 zs4 kc4 hil
          go_wp2_with (fail)
          (with_reducible refine (N4.out _).mono ?_)
          clear N4
          rintro e1 w6 ⟨rfl, hb6⟩
          have BL6 := Lib.hid (BL.out.trans (hb6.mono BL.out.size))
          clear hb6 BL
          go_wp2_with (fail)
          exact ⟨⟨i + 1, by omega, by go_num, by rw [HC4.out], BL6.out⟩, by simp [intOf] <;> omega⟩
        · have hie : mc = i := by omega
          subst hie
          have c3' := at1.c3
          simp only at c3'
          rw [← HMO.out] at c3'
          have hA2 : Hid (A1 = bs (pre ++ codB cs)) := by
            show _ = _
            rw [hA1]
            have e : cs.take mc = cs := by rw [HMC.out, List.take_length]
            rw [e]
          obtain ⟨s5, hs5⟩ : ∃ s, s = bs (be (lo64 (mo : Int)) 2) := ⟨_, rfl⟩
          have zs5 : s5.size = 2 := by rw [hs5, bs_size, be_length]
          obtain ⟨c5, kc5⟩ : ∃ c, c = A1 ++ s5 := ⟨_, rfl⟩
          have rc5 := cat_run A1 s5 c5 kc5 (by omega)
          have N5 : Hid (∀ V, Calls Try.prog 44 #[.int .i64 (mo : Nat), .int .i64 2] V fun e w' => e = .returned (.string s5) ∧ Below V.heap.size V w') := fun V => by rw [hs5]; exact rnum_any (mo : Int) 2 V (by omega)
          obtain ⟨pr2, hpr2⟩ : ∃ z, z = pre ++ codB cs ++ be (lo64 (mo : Int)) 2 := ⟨_, rfl⟩
          have hc5b : c5 = bs pr2 := by rw [kc5, hA2.out, hs5, bs_append, hpr2]
          have hpl2 : pr2.length ≤ 200001000 := by rw [hpr2]; have := HPL.out; have := HMC.out; simp only [List.length_append, be_length, codB_len]; omega
          have HPL2 := Lib.hid hpl2
          have HPR2 := Lib.hid hpr2
          have HC5 := Lib.hid hc5b
          have BL := Lib.hid hbl.out
          clear hbl at1 hA1 hA1s hs5 zs5 kc5 hpr2 hc5b hpl2 hli
          go_wp2_with (fail)
          (with_reducible refine (N5.out _).mono ?_)
          clear N5
          rintro e1 w7 ⟨rfl, hb7⟩
          have BL7 := Lib.hid (BL.out.trans (hb7.mono BL.out.size))
          clear hb7 BL
          go_wp2_with (fail)
          go_loopw [3, 6] (fun t3 t6 wr => ∃ i : Nat, i ≤ mo ∧ t6 = .int .i64 i ∧ t3 = .string (bs (pr2 ++ outB (os.take i))) ∧ Hid (Below w.heap.size w wr)) (fun _ t6 _ => mo - (intOf t6).toNat)
          case atStart => exact ⟨0, by omega, rfl, by rw [List.take_zero, HC5.out]; show Value.string (bs pr2) = Value.string (bs (pr2 ++ [])); rw [List.append_nil], BL7.out⟩
          case round =>
            obtain ⟨i, hi, rfl, rfl, hbl⟩ := hrel
            have at1 := ATV.out _ hbl.out
            have c3 := at1.c3
            simp only at c3
            rw [← HMO.out] at c3
            obtain ⟨A1, hA1⟩ : ∃ s, s = bs (pr2 ++ outB (os.take i)) := ⟨_, rfl⟩
            have hol2 := outB_len (os.take i)
            rw [List.length_take] at hol2
            have hA1s : A1.size ≤ 210000000 := by rw [hA1, bs_size]; have := HPL2.out; simp only [List.length_append]; omega
            rw [← hA1]
            by_cases hli : i < mo
            · have hli' : (i : Int) < (mo : Int) := by omega
              have hil : i < os.length := by rw [← HMO.out]; exact hli
              obtain ⟨z, hz, cz⟩ := at1.oi i hil
              simp only at hz cz
              obtain ⟨q, hq⟩ : ∃ c, c = os[i] := ⟨_, rfl⟩
              have hq7 : q.size ≤ 70000 := by rw [hq]; exact FEW.out.p _ (List.getElem_mem hil)
              rw [← hq] at cz
              have hsn := outB_snoc os i hil
              rw [← hq] at hsn
              obtain ⟨qs, hqs⟩ : ∃ s, s = q.extract 0 (min q.size 65535) := ⟨_, rfl⟩
              have hqz : qs.size = min q.size 65535 := by rw [hqs, ByteArray.size_extract]; omega
              have hql : qs.data.toList = q.data.toList.take 65535 := by
                rw [hqs, extract_bs, List.drop_zero, Nat.sub_zero]
                show q.data.toList.take (min q.size 65535) = _
                have hqq : q.data.toList.length = q.size := by simp
                by_cases h5 : q.size ≤ 65535
                · rw [Nat.min_eq_left h5, List.take_of_length_le (by omega), List.take_of_length_le (by omega)]
                · rw [Nat.min_eq_right (by omega)]
              obtain ⟨s6, hs6⟩ : ∃ s, s = bs (be (lo64 (qs.size : Int)) 2) := ⟨_, rfl⟩
              have zs6 : s6.size = 2 := by rw [hs6, bs_size, be_length]
              obtain ⟨c6, kc6⟩ : ∃ c, c = A1 ++ s6 := ⟨_, rfl⟩
              have yc6 : c6.size = A1.size + 2 := by rw [kc6, ByteArray.size_append, zs6]
              obtain ⟨c7, kc7⟩ : ∃ c, c = c6 ++ qs := ⟨_, rfl⟩
              have rc6 := cat_run A1 s6 c6 kc6 (by omega)
              have rc7 := cat_run c6 qs c7 kc7 (by omega)
              have N6 : Hid (∀ V, Calls Try.prog 44 #[.int .i64 (qs.size : Nat), .int .i64 2] V fun e w' => e = .returned (.string s6) ∧ Below V.heap.size V w') := fun V => by rw [hs6]; exact rnum_any (qs.size : Int) 2 V (by omega)
              have HC7 : Hid (c7 = bs (pr2 ++ outB (os.take (i + 1)))) := by
                show _ = _
                have e : lo64 (qs.size : Int) = min q.size 65535 := by rw [hqz]; exact u64_nat _ (by omega)
                rw [kc7, kc6, hA1, hs6, bs_append, hsn, e]
                rw [← bs_of qs, bs_append, hql]
                simp only [List.append_assoc]
              have BL := Lib.hid hbl.out
              have hQ : ∀ m : Nat, m = min q.size 65535 → q.extract 0 m = qs := fun m hm => by rw [hqs, hm]
              subst hz
              by_cases h5 : q.size ≤ 65535
              · have hqq : qs = q := by
                  rw [← hQ q.size (by omega)]
                  exact (extract_bs q 0 q.size).trans (by rw [List.drop_zero, List.take_of_length_le (by simp)]; rfl)
                have hx2 : ¬ (q.size : Int) > 65535 := by omega
                have hx3 : decide ((65535 : Int) < (q.size : Int)) = false := decide_eq_false (by omega)
                have hx4 : decide (65535 < q.size) = false := decide_eq_false (by omega)
                rw [hqq] at rc7 N6
                clear hbl at1 hA1 hA1s hq hsn hqs hqz hql hs6 zs6 kc6 yc6 kc7 hil hQ hqq hol2
                go_wp2_with (fail)
                (with_reducible refine (N6.out _).mono ?_)
                clear N6
                rintro e1 w8 ⟨rfl, hb8⟩
                have BL8 := Lib.hid (BL.out.trans (hb8.mono BL.out.size))
                clear hb8 BL
                go_wp2_with (fail)
                exact ⟨⟨i + 1, by omega, by go_num, by rw [HC7.out], BL8.out⟩, by simp [intOf] <;> omega⟩
              · have hx1 : q.extract 0 65535 = qs := hQ 65535 (by omega)
                have hx2 : (q.size : Int) > 65535 := by omega
                have hx3 : decide ((65535 : Int) < (q.size : Int)) = true := decide_eq_true (by omega)
                have hx4 : decide (65535 < q.size) = true := decide_eq_true (by omega)
                have hx5 : (65535 : Int) ≤ (q.size : Int) := by omega
                have hx6 : 65535 ≤ q.size := by omega
                clear hbl at1 hA1 hA1s hq hsn hqs hqz hql hs6 zs6 kc6 yc6 kc7 hil hQ hol2
                go_wp2_with (fail)
                (with_reducible refine (N6.out _).mono ?_)
                clear N6
                rintro e1 w8 ⟨rfl, hb8⟩
                have BL8 := Lib.hid (BL.out.trans (hb8.mono BL.out.size))
                clear hb8 BL
                go_wp2_with (fail)
                exact ⟨⟨i + 1, by omega, by go_num, by rw [HC7.out], BL8.out⟩, by simp [intOf] <;> omega⟩
            · have hie : mo = i := by omega
              subst hie
              have HFIN : Hid (A1 = bs (repsB (l.take (j + 1)))) := by
                show _ = _
                rw [hA1]
                have e : os.take mo = os := by rw [HMO.out, List.take_length]
                have e1 : lo64 (mc : Int) = cs.length := by rw [HMC.out]; exact u64_nat _ (by have := HMC.out; omega)
                have e2 : lo64 (mo : Int) = os.length := by rw [HMO.out]; exact u64_nat _ (by have := HMO.out; omega)
                rw [e, HSN.out, HPR2.out, HPRE.out, e1, e2]
                unfold repB
                simp only [List.append_assoc]
              have BL := Lib.hid hbl.out
              clear hbl at1 hA1 hA1s hol2
              go_wp2_with (fail)
              exact ⟨⟨j + 1, by omega, by go_num, by rw [HFIN.out], BL.out⟩, by simp [intOf] <;> omega⟩
    · obtain rfl : j = n := by omega
      have e : repsB (l.take j) = repsB l := by rw [HN.out, List.take_length]
      have BL := Lib.hid hbl.out
      rw [e]
      clear hbl e
      go_wp2_with (fail)
      go_ret
      exact ⟨rfl, BL.out⟩
end Go.Proofs.Ytmijfhfjhbckdaa
