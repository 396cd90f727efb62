import Derived.Test.YthdkbocokefdhaaLs
import Derived.Deep.QuietTactic
import Derived.BigQuiet
import Derived.Deep.Slices
import Derived.ChangeArms
import Derived.OpenShut
import Derived.ProofKit
/- ReasmBounds: the walk. -/
namespace Go.Proofs.Ythdkbocokefdhaa
set_option maxRecDepth 100000
open Go.RowKit
theorem LS.box {W V : World} {Tb M : Nat} {st : Sto} {L : List En} (h : LS W Tb M st L V) {k : Nat} {o : Obj} (hB : W.heap[k]? = some o) : V.heap[k]? = some o := (h.2.block _ (heap_lt hB)).trans hB
set_option maxHeartbeats 16000000 in
theorem bounds_walk (a b c : Int) (g : Option Addr) (l : List ByteArray) (cap : Nat) (w : World) (hin : StrIn w g l) (hsz : ∀ x ∈ l, x.size ≤ 9223372036854775807) (hlen : l.length ≤ 9223372036854775807) :
    Calls Try.prog 4 #[.agg #[.int .i64 a, .int .i64 b, .int .i64 c], .slice g l.length cap] w fun e w' => e = .returned (.bool true) ∧ Below w.heap.size w w' := by
  obtain ⟨Bx, hBx⟩ : ∃ k, k = w.heap.size := ⟨_, rfl⟩
  obtain ⟨W1, hW1⟩ : ∃ W, W = w.alloc (.cells #[.int .i64 a, .int .i64 b, .int .i64 c] 23) := ⟨_, rfl⟩
  have HW1 : Hid (W1.heap[Bx]? = some (.cells #[.int .i64 a, .int .i64 b, .int .i64 c] 23 (0, 0)) ∧ Below w.heap.size w W1) := Lib.hid (by rw [hW1, hBx]; exact ⟨alloc_new _ _, (Below.refl _ _).alloc (Nat.le_refl _) _⟩)
  have HIN := Lib.hid hin
  have HSZ := Lib.hid hsz
  have CA := Lib.hid awake_any
  have CF := Lib.hid (fun V (h : StrIn V g l) => few_any g l cap V h hsz hlen)
  have CN := Lib.hid (fun V => new_ls a b c V)
  obtain ⟨n, hn⟩ : ∃ n, n = l.length := ⟨_, rfl⟩
  have HN := Lib.hid hn
  rw [← hn] at hlen CF ⊢
  clear hin hsz hn
  go_enter Try.func4, Try.ntmps4
  go_upto_region 1 with (fail)
  rw [← hW1, ← hBx]
  clear hW1 hBx
  go_upto_region 3 with (go_at_call 9; (with_reducible refine (CA.out _).mono ?_); rintro e W2 ⟨rfl, hb2⟩)
  have HW2 : Hid (W2.heap[Bx]? = some (.cells #[.int .i64 a, .int .i64 b, .int .i64 c] 23 (0, 0)) ∧ Below w.heap.size w W2 ∧ StrIn W2 g l) := Lib.hid (by
    have hb := HW1.out.2.trans (hb2.mono HW1.out.2.size)
    exact ⟨(hb2.block _ (heap_lt HW1.out.1)).trans HW1.out.1, hb, HIN.out.below hb⟩)
  clear hb2
  go_upto_region 5 with (go_at_call 10; (with_reducible refine (CF.out _ HW2.out.2.2).mono ?_); rintro e W3 ⟨fb, rfl, hfb, rfl⟩; cases fb)
  · go_ret
    exact ⟨rfl, HW2.out.2.1⟩
  have hn9 : n ≤ 1000 := hfb (by first | rfl | trivial)
  have k0 := cellAt (i := 0) (v := .int .i64 a) HW2.out.1 rfl
  have k1 := cellAt (i := 1) (v := .int .i64 b) HW2.out.1 rfl
  have k2 := cellAt (i := 2) (v := .int .i64 c) HW2.out.1 rfl
  clear hfb
  go_upto_region 8 with (go_at_call 11; (with_reducible refine (CN.out _).mono ?_); rintro e W4 (⟨ho, rfl, hb4⟩ | ⟨ho, Tb, M, rfl, hLS⟩))
  · go_ret
    exact ⟨rfl, HW2.out.2.1.trans (hb4.mono HW2.out.2.1.size)⟩
  have hok : (1 ≤ a ∧ a ≤ 64) ∧ (1 ≤ b ∧ b ≤ 1048576) ∧ (1 ≤ c ∧ c ≤ 64) := of_decide_eq_true ho
  obtain ⟨en, rfl⟩ : ∃ n : Nat, a = n := ⟨a.toNat, by omega⟩
  obtain ⟨bt, rfl⟩ : ∃ n : Nat, b = n := ⟨b.toNat, by omega⟩
  obtain ⟨lf, rfl⟩ : ∃ n : Nat, c = n := ⟨c.toNat, by omega⟩
  obtain ⟨ST, hST⟩ : ∃ s, s = (⟨en, bt, lf⟩ : Sto) := ⟨_, rfl⟩
  have HST := Lib.hid hST
  have hLS0 : Hid (LS W3 Tb M ST [] W4) := Lib.hid (by rw [hST]; exact hLS)
  have HOK : Hid (ST.ents ≤ 64 ∧ ST.bts ≤ 1048576 ∧ ST.life ≤ 64 ∧ 0 < ST.life) := Lib.hid (by rw [hST]; show en ≤ 64 ∧ bt ≤ 1048576 ∧ lf ≤ 64 ∧ 0 < lf; omega)
  have hen9 : en ≤ 64 := by omega
  have hbt9 : bt ≤ 1048576 := by omega
  have hlf9 : lf ≤ 64 := by omega
  clear ho hok hST hLS k0 k1 k2 CN CA CF
  go_wp2_with (fail)
  go_loopw [7] (fun i V => ∃ (j : Nat) (L : List En), j ≤ n ∧ i = .int .i64 (j : Int) ∧ Hid (LS W3 Tb M ST L V) ∧ Hid (GoodT ST L ∧ AgeT ST L)) (fun i _ => n - (intOf i).toNat)
  case atStart => exact ⟨0, [], by omega, rfl, hLS0, Lib.hid ⟨GoodT.nil _, AgeT.nil _⟩⟩
  case round =>
    obtain ⟨j, L, hj, rfl, hls, hgood⟩ := hrel
    by_cases hlt : j < n
    · obtain ⟨nl, hnl⟩ : ∃ k, k = L.length := ⟨_, rfl⟩
      obtain ⟨bl, hbl⟩ : ∃ k, k = btsL L := ⟨_, rfl⟩
      obtain ⟨ol, hol⟩ : ∃ k, k = opnL L := ⟨_, rfl⟩
      have CL : Hid (∀ V, LS W3 Tb M ST L V → Calls Try.prog 17 #[.pointer (some ⟨Tb, 0, none⟩)] V fun e w' => e = .returned (.int .i64 (nl : Nat)) ∧ w' = V) := Lib.hid (fun V h => by rw [hnl]; exact h.len)
      have CB : Hid (∀ V, LS W3 Tb M ST L V → Calls Try.prog 18 #[.pointer (some ⟨Tb, 0, none⟩)] V fun e w' => e = .returned (.int .i64 (bl : Nat)) ∧ w' = V) := Lib.hid (fun V h => by rw [hbl]; exact h.bytes)
      have CO : Hid (∀ V, LS W3 Tb M ST L V → Calls Try.prog 20 #[.pointer (some ⟨Tb, 0, none⟩)] V fun e w' => e = .returned (.int .i64 (ol : Nat)) ∧ LS W3 Tb M ST L w') := Lib.hid (fun V h => by rw [hol]; exact h.open (by have := hgood.out.1.few; have := HOK.out.1; omega))
      have HOLD : Hid (nl = L.length ∧ bl = btsL L ∧ ol = opnL L) := Lib.hid ⟨hnl, hbl, hol⟩
      clear hnl hbl hol
      go_upto_region 12 with (first | (go_at_call 17; (with_reducible refine (CL.out _ hls.out).mono ?_); rintro e w5 ⟨rfl, hw5⟩; replace hw5 := hw5.symm; subst hw5) | (go_at_call 18; (with_reducible refine (CB.out _ hls.out).mono ?_); rintro e w5 ⟨rfl, hw5⟩; replace hw5 := hw5.symm; subst hw5) | (go_at_call 20; (with_reducible refine (CO.out _ hls.out).mono ?_); rintro e W5 ⟨rfl, hls5⟩))
      have HLS5 := Lib.hid hls5
      clear hls5
      obtain ⟨A, hA, hc0⟩ := (HW2.out.2.2.below HLS5.out.below) j (by rw [← HN.out]; exact hlt)
      subst hA
      obtain ⟨x, hx⟩ : ∃ x, x = l[j]'(by rw [← HN.out]; exact hlt) := ⟨_, rfl⟩
      rw [← hx] at hc0
      have hxs := HSZ.out x (by rw [hx]; exact List.getElem_mem _)
      obtain ⟨L2, hL2⟩ : ∃ y, y = (addT ST L x.data.toList).2 := ⟨_, rfl⟩
      obtain ⟨f, hf⟩ : ∃ y, y = (addT ST L x.data.toList).1.2 := ⟨_, rfl⟩
      obtain ⟨X, hX⟩ : ∃ y, y = bs (addT ST L x.data.toList).1.1 := ⟨_, rfl⟩
      have AD : Hid (Calls Try.prog 15 #[.pointer (some ⟨Tb, 0, none⟩), .string x] W5 fun e w' => e = .returned (.tuple #[.string X, .int .i64 (f : Nat)]) ∧ LS W3 Tb M ST L2 w') := Lib.hid (by
        rw [hL2, hf, hX]; exact HLS5.out.add hgood.out.1 ⟨HOK.out.1, HOK.out.2.1⟩ x hxs)
      have HG2 : Hid (GoodT ST L2 ∧ AgeT ST L2) := Lib.hid (by rw [hL2]; exact ⟨addT_good hgood.out.1, hgood.out.2.add hgood.out.1 _⟩)
      have hbd := addT_bounds (st := ST) (x := x.data.toList) hgood.out.1
      rw [← hL2, ← hf] at hbd
      have hxe : X.data.toList = (addT ST L x.data.toList).1.1 := by rw [hX, bs_list]
      rw [← hxe] at hbd
      have HBD := Lib.hid hbd
      clear hbd hxe hL2 hf hX hx hxs
      go_upto_region 13 with (go_at_call 15; (with_reducible refine (AD.out).mono ?_); rintro e W6 ⟨rfl, hls6⟩)
      have HLS6 := Lib.hid hls6
      have HLS6d := Lib.hid hls6.drew
      clear hls6
      obtain ⟨n2, hn2⟩ : ∃ k, k = L2.length := ⟨_, rfl⟩
      obtain ⟨b2, hb2⟩ : ∃ k, k = btsL L2 := ⟨_, rfl⟩
      obtain ⟨o2, ho2⟩ : ∃ k, k = opnL L2 := ⟨_, rfl⟩
      have CL2 : Hid (∀ V, LS W3 Tb M ST L2 V → Calls Try.prog 17 #[.pointer (some ⟨Tb, 0, none⟩)] V fun e w' => e = .returned (.int .i64 (n2 : Nat)) ∧ w' = V) := Lib.hid (fun V h => by rw [hn2]; exact h.len)
      have CB2 : Hid (∀ V, LS W3 Tb M ST L2 V → Calls Try.prog 18 #[.pointer (some ⟨Tb, 0, none⟩)] V fun e w' => e = .returned (.int .i64 (b2 : Nat)) ∧ w' = V) := Lib.hid (fun V h => by rw [hb2]; exact h.bytes)
      have CO2 : Hid (∀ V, LS W3 Tb M ST L2 V → Calls Try.prog 20 #[.pointer (some ⟨Tb, 0, none⟩)] V fun e w' => e = .returned (.int .i64 (o2 : Nat)) ∧ LS W3 Tb M ST L2 w') := Lib.hid (fun V h => by rw [ho2]; exact h.open (by have := HG2.out.1.few; have := HOK.out.1; omega))
      have HNEW : Hid (n2 = L2.length ∧ b2 = btsL L2 ∧ o2 = opnL L2) := Lib.hid ⟨hn2, hb2, ho2⟩
      have q1 : n2 ≤ en := by rw [hn2]; have := HG2.out.1.few; rw [HST.out] at this; exact this
      have q2 : b2 ≤ bt := by rw [hb2]; have := HG2.out.1.small; rw [HST.out] at this; exact this
      have q3 : o2 ≤ n2 := by rw [ho2, hn2]; exact opn_le L2
      have d4 : decide ((n2 : Int) > (en : Int)) = false := decide_eq_false (by omega)
      have d10 : decide ((b2 : Int) > (bt : Int)) = false := decide_eq_false (by omega)
      have d17 : decide ((o2 : Int) > (n2 : Int)) = false := decide_eq_false (by omega)
      have d22 : decide ((b2 : Int) < 0) = false := decide_eq_false (by omega)
      have e4 : ¬ (n2 : Int) > (en : Int) := by omega
      have e10 : ¬ (b2 : Int) > (bt : Int) := by omega
      have e17 : ¬ (o2 : Int) > (n2 : Int) := by omega
      have e22 : ¬ (b2 : Int) < 0 := by omega
      clear hn2 hb2 ho2
      have hw1 : IntKind.i64.wrap ((j : Int) + 1) = ((j + 1 : Nat) : Int) := by rw [IntWalk.i64_in _ (by omega)]; rfl
      by_cases hf0 : f = 0
      · have hXe : X.data.toList.isEmpty = false := by
          have h1 := HBD.out.1.1 hf0
          cases hx : X.data.toList with
          | nil => exact absurd hx h1
          | cons _ _ => rfl
        have hXl : ¬ X.toList = [] := by rw [ByteArray.toList_eq]; exact HBD.out.1.1 hf0
        have hfe : ((f : Int) == 0) = true := by rw [beq_iff_eq]; omega
        have hfn : ((f : Int) != 0) = false := by rw [bne_eq_false_iff_eq]; omega
        refine wp_region_held_drew (S := fun V => Hid (LS W3 Tb M ST L2 V)) (by kernel_rfl) HLS6d (fun hHeld => ?_)
        refine wpAnyH_take (i := 0) (oi := { dst := some 53, op := Op.move (Operand.tmp 5), type := 27, pos := "law.go:92", after := #[], guard := none }) (v := ?_) rfl (by kernel_rfl) (by kernel_rfl) (by kernel_rfl) (fun _ _ _ h => h) (Or.inl ⟨by rfl, ?_⟩) (by assumption) ?_
        rotate_left 1
        · intro w hSw
          go_simp
          first | done | with_reducible rfl
        try simp only [Act.put, List.setIfInBounds_toArray, List.set_cons_zero, List.set_cons_succ]
        refine wpAnyH_take (i := 2) (oi := { dst := some 55, op := Op.fieldAddr 23 (Operand.tmp 2) 0, type := 0, pos := "law.go:92", after := #[], guard := none }) (v := ?_) rfl (by kernel_rfl) (by kernel_rfl) (by kernel_rfl) (fun _ _ _ h => h) (Or.inl ⟨by rfl, ?_⟩) (by assumption) ?_
        rotate_left 1
        · intro w hSw
          go_simp
          first | done | with_reducible rfl
        try simp only [Act.put, List.setIfInBounds_toArray, List.set_cons_zero, List.set_cons_succ]
        refine wpAnyH_take (i := 3) (oi := { dst := some 56, op := Op.load 3 (Operand.tmp 55), type := 3, pos := "law.go:92", after := #[{ on := 2, ground := Ground.data }], guard := none }) (v := ?_) rfl (by kernel_rfl) (by kernel_rfl) (by kernel_rfl) (fun _ _ _ h => h) (Or.inl ⟨by rfl, ?_⟩) (by assumption) ?_
        rotate_left 1
        · intro w hSw
          have j := cellAt (i := 0) (v := .int .i64 (en : Nat)) (hSw.out.box HW2.out.1) rfl
          go_simp
          first | done | with_reducible rfl
        try simp only [Act.put, List.setIfInBounds_toArray, List.set_cons_zero, List.set_cons_succ]
        refine wpAnyH_ready (rs := [1]) (by kernel_rfl) (by simp) ?_
        refine AllReadyH.cons (o := { dst := some 54, op := Op.call { callee := Callee.value (Operand.func 17), args := #[Operand.tmp 53], argTypes := #[27] }, type := 3, pos := "law.go:92", after := #[{ on := 0, ground := Ground.data }], guard := none }) rfl (fun K hK => ?_) AllReadyH.nil
        go_simp
        (go_at_call 17; (with_reducible refine (CL2.out _ hHeld.out).mono ?_); rintro e w5 ⟨rfl, hw5⟩; replace hw5 := hw5.symm; subst hw5)
        go_simp
        refine hK.out _ _ hHeld (fun hHeld => ?_)
        clear hK K
        try simp only [Act.put, List.setIfInBounds_toArray, List.set_cons_zero, List.set_cons_succ]
        refine wpAnyH_take (i := 4) (oi := { dst := some 57, op := Op.binOp BinOp.gtr 3 (Operand.tmp 54) (Operand.tmp 56) 3, type := 4, pos := "law.go:92", after := #[{ on := 1, ground := Ground.data }, { on := 3, ground := Ground.data }], guard := none }) (v := .bool false) rfl (by kernel_rfl) (by kernel_rfl) (by kernel_rfl) (fun _ _ _ h => h) (Or.inl ⟨by rfl, ?_⟩) (by assumption) ?_
        · intro w hSw
          go_simp
          first | done | with_reducible rfl
        try simp only [Act.put, List.setIfInBounds_toArray, List.set_cons_zero, List.set_cons_succ]
        refine wpAnyH_take (i := 5) (oi := { dst := some 58, op := Op.move (Operand.tmp 57), type := 4, pos := "law.go:92", after := #[{ on := 4, ground := Ground.data }, { on := 1, ground := Ground.chain }], guard := none }) (v := .bool false) rfl (by kernel_rfl) (by kernel_rfl) (by kernel_rfl) (fun _ _ _ h => h) (Or.inl ⟨by rfl, ?_⟩) (by assumption) ?_
        · intro w hSw
          go_simp
          first | done | with_reducible rfl
        try simp only [Act.put, List.setIfInBounds_toArray, List.set_cons_zero, List.set_cons_succ]
        refine wpAnyH_take (i := 6) (oi := { dst := some 59, op := Op.move (Operand.tmp 5), type := 27, pos := "law.go:92", after := #[{ on := 5, ground := Ground.guard }], guard := some (5, false) }) (v := ?_) rfl (by kernel_rfl) (by kernel_rfl) (by kernel_rfl) (fun _ _ _ h => h) (Or.inl ⟨by rfl, ?_⟩) (by assumption) ?_
        rotate_left 1
        · intro w hSw
          go_simp
          first | done | with_reducible rfl
        try simp only [Act.put, List.setIfInBounds_toArray, List.set_cons_zero, List.set_cons_succ]
        refine wpAnyH_take (i := 8) (oi := { dst := some 61, op := Op.fieldAddr 23 (Operand.tmp 2) 1, type := 0, pos := "law.go:92", after := #[{ on := 5, ground := Ground.guard }], guard := some (5, false) }) (v := ?_) rfl (by kernel_rfl) (by kernel_rfl) (by kernel_rfl) (fun _ _ _ h => h) (Or.inl ⟨by rfl, ?_⟩) (by assumption) ?_
        rotate_left 1
        · intro w hSw
          go_simp
          first | done | with_reducible rfl
        try simp only [Act.put, List.setIfInBounds_toArray, List.set_cons_zero, List.set_cons_succ]
        refine wpAnyH_take (i := 9) (oi := { dst := some 62, op := Op.load 3 (Operand.tmp 61), type := 3, pos := "law.go:92", after := #[{ on := 8, ground := Ground.data }, { on := 5, ground := Ground.guard }], guard := some (5, false) }) (v := ?_) rfl (by kernel_rfl) (by kernel_rfl) (by kernel_rfl) (fun _ _ _ h => h) (Or.inl ⟨by rfl, ?_⟩) (by assumption) ?_
        rotate_left 1
        · intro w hSw
          have j := cellAt (i := 1) (v := .int .i64 (bt : Nat)) (hSw.out.box HW2.out.1) rfl
          go_simp
          first | done | with_reducible rfl
        try simp only [Act.put, List.setIfInBounds_toArray, List.set_cons_zero, List.set_cons_succ]
        refine wpAnyH_ready (rs := [7]) (by kernel_rfl) (by simp) ?_
        refine AllReadyH.cons (o := { dst := some 60, op := Op.call { callee := Callee.value (Operand.func 18), args := #[Operand.tmp 59], argTypes := #[27] }, type := 3, pos := "law.go:92", after := #[{ on := 6, ground := Ground.data }, { on := 5, ground := Ground.chain }, { on := 5, ground := Ground.guard }], guard := some (5, false) }) rfl (fun K hK => ?_) AllReadyH.nil
        go_simp
        (go_at_call 18; (with_reducible refine (CB2.out _ hHeld.out).mono ?_); rintro e w5 ⟨rfl, hw5⟩; replace hw5 := hw5.symm; subst hw5)
        go_simp
        refine hK.out _ _ hHeld (fun hHeld => ?_)
        clear hK K
        try simp only [Act.put, List.setIfInBounds_toArray, List.set_cons_zero, List.set_cons_succ]
        refine wpAnyH_take (i := 10) (oi := { dst := some 63, op := Op.binOp BinOp.gtr 3 (Operand.tmp 60) (Operand.tmp 62) 3, type := 4, pos := "law.go:92", after := #[{ on := 7, ground := Ground.data }, { on := 9, ground := Ground.data }, { on := 5, ground := Ground.guard }], guard := some (5, false) }) (v := .bool false) rfl (by kernel_rfl) (by kernel_rfl) (by kernel_rfl) (fun _ _ _ h => h) (Or.inl ⟨by rfl, ?_⟩) (by assumption) ?_
        · intro w hSw
          go_simp
          first | done | with_reducible rfl
        try simp only [Act.put, List.setIfInBounds_toArray, List.set_cons_zero, List.set_cons_succ]
        refine wpAnyH_take (i := 11) (oi := { dst := some 64, op := Op.pick (Operand.tmp 58) (Operand.const (Value.bool true)) (Operand.tmp 63), type := 4, pos := "law.go:92", after := #[{ on := 5, ground := Ground.data }, { on := 10, ground := Ground.data }], guard := none }) (v := .bool false) rfl (by kernel_rfl) (by kernel_rfl) (by kernel_rfl) (fun _ _ _ h => h) (Or.inl ⟨by rfl, ?_⟩) (by assumption) ?_
        · intro w hSw
          go_simp
          first | done | with_reducible rfl
        try simp only [Act.put, List.setIfInBounds_toArray, List.set_cons_zero, List.set_cons_succ]
        refine wpAnyH_take (i := 12) (oi := { dst := some 65, op := Op.move (Operand.tmp 64), type := 4, pos := "law.go:92", after := #[{ on := 11, ground := Ground.data }, { on := 7, ground := Ground.chain }], guard := none }) (v := .bool false) rfl (by kernel_rfl) (by kernel_rfl) (by kernel_rfl) (fun _ _ _ h => h) (Or.inl ⟨by rfl, ?_⟩) (by assumption) ?_
        · intro w hSw
          go_simp
          first | done | with_reducible rfl
        try simp only [Act.put, List.setIfInBounds_toArray, List.set_cons_zero, List.set_cons_succ]
        refine wpAnyH_take (i := 13) (oi := { dst := some 66, op := Op.move (Operand.tmp 5), type := 27, pos := "law.go:92", after := #[{ on := 12, ground := Ground.guard }], guard := some (12, false) }) (v := ?_) rfl (by kernel_rfl) (by kernel_rfl) (by kernel_rfl) (fun _ _ _ h => h) (Or.inl ⟨by rfl, ?_⟩) (by assumption) ?_
        rotate_left 1
        · intro w hSw
          go_simp
          first | done | with_reducible rfl
        try simp only [Act.put, List.setIfInBounds_toArray, List.set_cons_zero, List.set_cons_succ]
        refine wpAnyH_take (i := 15) (oi := { dst := some 68, op := Op.move (Operand.tmp 5), type := 27, pos := "law.go:92", after := #[{ on := 12, ground := Ground.guard }], guard := some (12, false) }) (v := ?_) rfl (by kernel_rfl) (by kernel_rfl) (by kernel_rfl) (fun _ _ _ h => h) (Or.inl ⟨by rfl, ?_⟩) (by assumption) ?_
        rotate_left 1
        · intro w hSw
          go_simp
          first | done | with_reducible rfl
        try simp only [Act.put, List.setIfInBounds_toArray, List.set_cons_zero, List.set_cons_succ]
        refine wpAnyH_ready (rs := [14]) (by kernel_rfl) (by simp) ?_
        refine AllReadyH.cons (o := { dst := some 67, op := Op.call { callee := Callee.value (Operand.func 20), args := #[Operand.tmp 66], argTypes := #[27] }, type := 3, pos := "law.go:92", after := #[{ on := 13, ground := Ground.data }, { on := 12, ground := Ground.chain }, { on := 12, ground := Ground.guard }], guard := some (12, false) }) rfl (fun K hK => ?_) AllReadyH.nil
        go_simp
        (go_at_call 20; (with_reducible refine (CO2.out _ hHeld.out).mono ?_); rintro e W7 ⟨rfl, hls7⟩)
        have HLS7 := Lib.hid hls7
        clear hls7
        go_simp
        refine hK.out _ _ HLS7 (fun hHeld => ?_)
        clear hK K
        try simp only [Act.put, List.setIfInBounds_toArray, List.set_cons_zero, List.set_cons_succ]
        refine wpAnyH_ready (rs := [16]) (by kernel_rfl) (by simp) ?_
        refine AllReadyH.cons (o := { dst := some 69, op := Op.call { callee := Callee.value (Operand.func 17), args := #[Operand.tmp 68], argTypes := #[27] }, type := 3, pos := "law.go:92", after := #[{ on := 15, ground := Ground.data }, { on := 14, ground := Ground.chain }, { on := 12, ground := Ground.guard }], guard := some (12, false) }) rfl (fun K hK => ?_) AllReadyH.nil
        go_simp
        (go_at_call 17; (with_reducible refine (CL2.out _ hHeld.out).mono ?_); rintro e w5 ⟨rfl, hw5⟩; replace hw5 := hw5.symm; subst hw5)
        go_simp
        refine hK.out _ _ hHeld (fun hHeld => ?_)
        clear hK K
        try simp only [Act.put, List.setIfInBounds_toArray, List.set_cons_zero, List.set_cons_succ]
        refine wpAnyH_take (i := 17) (oi := { dst := some 70, op := Op.binOp BinOp.gtr 3 (Operand.tmp 67) (Operand.tmp 69) 3, type := 4, pos := "law.go:92", after := #[{ on := 14, ground := Ground.data }, { on := 16, ground := Ground.data }, { on := 12, ground := Ground.guard }], guard := some (12, false) }) (v := .bool false) rfl (by kernel_rfl) (by kernel_rfl) (by kernel_rfl) (fun _ _ _ h => h) (Or.inl ⟨by rfl, ?_⟩) (by assumption) ?_
        · intro w hSw
          go_simp
          first | done | with_reducible rfl
        try simp only [Act.put, List.setIfInBounds_toArray, List.set_cons_zero, List.set_cons_succ]
        refine wpAnyH_take (i := 18) (oi := { dst := some 71, op := Op.pick (Operand.tmp 65) (Operand.const (Value.bool true)) (Operand.tmp 70), type := 4, pos := "law.go:92", after := #[{ on := 12, ground := Ground.data }, { on := 17, ground := Ground.data }], guard := none }) (v := .bool false) rfl (by kernel_rfl) (by kernel_rfl) (by kernel_rfl) (fun _ _ _ h => h) (Or.inl ⟨by rfl, ?_⟩) (by assumption) ?_
        · intro w hSw
          go_simp
          first | done | with_reducible rfl
        try simp only [Act.put, List.setIfInBounds_toArray, List.set_cons_zero, List.set_cons_succ]
        refine wpAnyH_take (i := 19) (oi := { dst := some 72, op := Op.move (Operand.tmp 71), type := 4, pos := "law.go:92", after := #[{ on := 18, ground := Ground.data }, { on := 16, ground := Ground.chain }], guard := none }) (v := .bool false) rfl (by kernel_rfl) (by kernel_rfl) (by kernel_rfl) (fun _ _ _ h => h) (Or.inl ⟨by rfl, ?_⟩) (by assumption) ?_
        · intro w hSw
          go_simp
          first | done | with_reducible rfl
        try simp only [Act.put, List.setIfInBounds_toArray, List.set_cons_zero, List.set_cons_succ]
        refine wpAnyH_take (i := 20) (oi := { dst := some 73, op := Op.move (Operand.tmp 5), type := 27, pos := "law.go:92", after := #[{ on := 19, ground := Ground.guard }], guard := some (19, false) }) (v := ?_) rfl (by kernel_rfl) (by kernel_rfl) (by kernel_rfl) (fun _ _ _ h => h) (Or.inl ⟨by rfl, ?_⟩) (by assumption) ?_
        rotate_left 1
        · intro w hSw
          go_simp
          first | done | with_reducible rfl
        try simp only [Act.put, List.setIfInBounds_toArray, List.set_cons_zero, List.set_cons_succ]
        refine wpAnyH_ready (rs := [21]) (by kernel_rfl) (by simp) ?_
        refine AllReadyH.cons (o := { dst := some 74, op := Op.call { callee := Callee.value (Operand.func 18), args := #[Operand.tmp 73], argTypes := #[27] }, type := 3, pos := "law.go:92", after := #[{ on := 20, ground := Ground.data }, { on := 19, ground := Ground.chain }, { on := 19, ground := Ground.guard }], guard := some (19, false) }) rfl (fun K hK => ?_) AllReadyH.nil
        go_simp
        (go_at_call 18; (with_reducible refine (CB2.out _ hHeld.out).mono ?_); rintro e w5 ⟨rfl, hw5⟩; replace hw5 := hw5.symm; subst hw5)
        go_simp
        refine hK.out _ _ hHeld (fun hHeld => ?_)
        clear hK K
        try simp only [Act.put, List.setIfInBounds_toArray, List.set_cons_zero, List.set_cons_succ]
        refine wpAnyH_take (i := 22) (oi := { dst := some 75, op := Op.binOp BinOp.lss 3 (Operand.tmp 74) (Operand.const (Value.int IntKind.i64 0)) 3, type := 4, pos := "law.go:92", after := #[{ on := 21, ground := Ground.data }, { on := 19, ground := Ground.guard }], guard := some (19, false) }) (v := .bool false) rfl (by kernel_rfl) (by kernel_rfl) (by kernel_rfl) (fun _ _ _ h => h) (Or.inl ⟨by rfl, ?_⟩) (by assumption) ?_
        · intro w hSw
          go_simp
          first | done | with_reducible rfl
        try simp only [Act.put, List.setIfInBounds_toArray, List.set_cons_zero, List.set_cons_succ]
        refine wpAnyH_take (i := 23) (oi := { dst := some 76, op := Op.pick (Operand.tmp 72) (Operand.const (Value.bool true)) (Operand.tmp 75), type := 4, pos := "law.go:92", after := #[{ on := 19, ground := Ground.data }, { on := 22, ground := Ground.data }], guard := none }) (v := .bool false) rfl (by kernel_rfl) (by kernel_rfl) (by kernel_rfl) (fun _ _ _ h => h) (Or.inl ⟨by rfl, ?_⟩) (by assumption) ?_
        · intro w hSw
          go_simp
          first | done | with_reducible rfl
        try simp only [Act.put, List.setIfInBounds_toArray, List.set_cons_zero, List.set_cons_succ]
        refine wpAnyH_take (i := 24) (oi := { dst := some 77, op := Op.move (Operand.tmp 76), type := 4, pos := "law.go:92", after := #[{ on := 23, ground := Ground.data }, { on := 21, ground := Ground.chain }], guard := none }) (v := .bool false) rfl (by kernel_rfl) (by kernel_rfl) (by kernel_rfl) (fun _ _ _ h => h) (Or.inl ⟨by rfl, ?_⟩) (by assumption) ?_
        · intro w hSw
          go_simp
          first | done | with_reducible rfl
        try simp only [Act.put, List.setIfInBounds_toArray, List.set_cons_zero, List.set_cons_succ]
        refine wpAnyH_take (i := 25) (oi := { dst := some 78, op := Op.move (Operand.tmp 12), type := 28, pos := "law.go:92", after := #[{ on := 24, ground := Ground.guard }], guard := some (24, false) }) (v := ?_) rfl (by kernel_rfl) (by kernel_rfl) (by kernel_rfl) (fun _ _ _ h => h) (Or.inl ⟨by rfl, ?_⟩) (by assumption) ?_
        rotate_left 1
        · intro w hSw
          go_simp
          first | done | with_reducible rfl
        try simp only [Act.put, List.setIfInBounds_toArray, List.set_cons_zero, List.set_cons_succ]
        refine wpAnyH_take (i := 26) (oi := { dst := some 79, op := Op.binOp BinOp.eql 28 (Operand.tmp 78) (Operand.const (Value.int IntKind.i64 0)) 28, type := 4, pos := "law.go:92", after := #[{ on := 25, ground := Ground.data }, { on := 24, ground := Ground.guard }], guard := some (24, false) }) (v := .bool true) rfl (by kernel_rfl) (by kernel_rfl) (by kernel_rfl) (fun _ _ _ h => h) (Or.inl ⟨by rfl, ?_⟩) (by assumption) ?_
        · intro w hSw
          go_simp
          first | done | with_reducible rfl
        try simp only [Act.put, List.setIfInBounds_toArray, List.set_cons_zero, List.set_cons_succ]
        refine wpAnyH_take (i := 27) (oi := { dst := some 80, op := Op.move (Operand.tmp 11), type := 9, pos := "law.go:92", after := #[{ on := 24, ground := Ground.guard }], guard := some (24, false) }) (v := ?_) rfl (by kernel_rfl) (by kernel_rfl) (by kernel_rfl) (fun _ _ _ h => h) (Or.inl ⟨by rfl, ?_⟩) (by assumption) ?_
        rotate_left 1
        · intro w hSw
          go_simp
          first | done | with_reducible rfl
        try simp only [Act.put, List.setIfInBounds_toArray, List.set_cons_zero, List.set_cons_succ]
        refine wpAnyH_take (i := 28) (oi := { dst := some 81, op := Op.binOp BinOp.neq 9 (Operand.tmp 80) (Operand.const (Value.string { data := #[] })) 9, type := 4, pos := "law.go:92", after := #[{ on := 27, ground := Ground.data }, { on := 24, ground := Ground.guard }], guard := some (24, false) }) (v := .bool true) rfl (by kernel_rfl) (by kernel_rfl) (by kernel_rfl) (fun _ _ _ h => h) (Or.inl ⟨by rfl, ?_⟩) (by assumption) ?_
        · intro w hSw
          go_simp
          first | done | with_reducible rfl
        try simp only [Act.put, List.setIfInBounds_toArray, List.set_cons_zero, List.set_cons_succ]
        refine wpAnyH_take (i := 29) (oi := { dst := some 82, op := Op.binOp BinOp.neq 4 (Operand.tmp 79) (Operand.tmp 81) 4, type := 4, pos := "law.go:92", after := #[{ on := 26, ground := Ground.data }, { on := 28, ground := Ground.data }, { on := 24, ground := Ground.guard }], guard := some (24, false) }) (v := .bool false) rfl (by kernel_rfl) (by kernel_rfl) (by kernel_rfl) (fun _ _ _ h => h) (Or.inl ⟨by rfl, ?_⟩) (by assumption) ?_
        · intro w hSw
          go_simp
          first | done | with_reducible rfl
        try simp only [Act.put, List.setIfInBounds_toArray, List.set_cons_zero, List.set_cons_succ]
        refine wpAnyH_take (i := 30) (oi := { dst := some 83, op := Op.pick (Operand.tmp 77) (Operand.const (Value.bool true)) (Operand.tmp 82), type := 4, pos := "law.go:92", after := #[{ on := 24, ground := Ground.data }, { on := 29, ground := Ground.data }], guard := none }) (v := .bool false) rfl (by kernel_rfl) (by kernel_rfl) (by kernel_rfl) (fun _ _ _ h => h) (Or.inl ⟨by rfl, ?_⟩) (by assumption) ?_
        · intro w hSw
          go_simp
          first | done | with_reducible rfl
        try simp only [Act.put, List.setIfInBounds_toArray, List.set_cons_zero, List.set_cons_succ]
        refine wpAnyH_done (by kernel_rfl) ?_ _
        try simp only [Exit.then]
        clear hHeld
        go_wp2_with (fail)
        exact ⟨⟨j + 1, L2, by omega, by go_num, HLS7, HG2⟩, by simp [intOf] <;> omega⟩
      · have hXe : X.data.toList.isEmpty = true := by
          rcases Classical.em (X.data.toList = []) with h | h
          · rw [h]; rfl
          · exact absurd (HBD.out.1.2 h) hf0
        have hXl : X.toList = [] := by
          rw [ByteArray.toList_eq]
          rcases Classical.em (X.data.toList = []) with h | h
          · exact h
          · exact absurd (HBD.out.1.2 h) hf0
        have hfe : ((f : Int) == 0) = false := by rw [beq_eq_false_iff_ne]; omega
        have hfn : ((f : Int) != 0) = true := by rw [bne_iff_ne]; omega
        refine wp_region_held_drew (S := fun V => Hid (LS W3 Tb M ST L2 V)) (by kernel_rfl) HLS6d (fun hHeld => ?_)
        refine wpAnyH_take (i := 0) (oi := { dst := some 53, op := Op.move (Operand.tmp 5), type := 27, pos := "law.go:92", after := #[], guard := none }) (v := ?_) rfl (by kernel_rfl) (by kernel_rfl) (by kernel_rfl) (fun _ _ _ h => h) (Or.inl ⟨by rfl, ?_⟩) (by assumption) ?_
        rotate_left 1
        · intro w hSw
          go_simp
          first | done | with_reducible rfl
        try simp only [Act.put, List.setIfInBounds_toArray, List.set_cons_zero, List.set_cons_succ]
        refine wpAnyH_take (i := 2) (oi := { dst := some 55, op := Op.fieldAddr 23 (Operand.tmp 2) 0, type := 0, pos := "law.go:92", after := #[], guard := none }) (v := ?_) rfl (by kernel_rfl) (by kernel_rfl) (by kernel_rfl) (fun _ _ _ h => h) (Or.inl ⟨by rfl, ?_⟩) (by assumption) ?_
        rotate_left 1
        · intro w hSw
          go_simp
          first | done | with_reducible rfl
        try simp only [Act.put, List.setIfInBounds_toArray, List.set_cons_zero, List.set_cons_succ]
        refine wpAnyH_take (i := 3) (oi := { dst := some 56, op := Op.load 3 (Operand.tmp 55), type := 3, pos := "law.go:92", after := #[{ on := 2, ground := Ground.data }], guard := none }) (v := ?_) rfl (by kernel_rfl) (by kernel_rfl) (by kernel_rfl) (fun _ _ _ h => h) (Or.inl ⟨by rfl, ?_⟩) (by assumption) ?_
        rotate_left 1
        · intro w hSw
          have j := cellAt (i := 0) (v := .int .i64 (en : Nat)) (hSw.out.box HW2.out.1) rfl
          go_simp
          first | done | with_reducible rfl
        try simp only [Act.put, List.setIfInBounds_toArray, List.set_cons_zero, List.set_cons_succ]
        refine wpAnyH_ready (rs := [1]) (by kernel_rfl) (by simp) ?_
        refine AllReadyH.cons (o := { dst := some 54, op := Op.call { callee := Callee.value (Operand.func 17), args := #[Operand.tmp 53], argTypes := #[27] }, type := 3, pos := "law.go:92", after := #[{ on := 0, ground := Ground.data }], guard := none }) rfl (fun K hK => ?_) AllReadyH.nil
        go_simp
        (go_at_call 17; (with_reducible refine (CL2.out _ hHeld.out).mono ?_); rintro e w5 ⟨rfl, hw5⟩; replace hw5 := hw5.symm; subst hw5)
        go_simp
        refine hK.out _ _ hHeld (fun hHeld => ?_)
        clear hK K
        try simp only [Act.put, List.setIfInBounds_toArray, List.set_cons_zero, List.set_cons_succ]
        refine wpAnyH_take (i := 4) (oi := { dst := some 57, op := Op.binOp BinOp.gtr 3 (Operand.tmp 54) (Operand.tmp 56) 3, type := 4, pos := "law.go:92", after := #[{ on := 1, ground := Ground.data }, { on := 3, ground := Ground.data }], guard := none }) (v := .bool false) rfl (by kernel_rfl) (by kernel_rfl) (by kernel_rfl) (fun _ _ _ h => h) (Or.inl ⟨by rfl, ?_⟩) (by assumption) ?_
        · intro w hSw
          go_simp
          first | done | with_reducible rfl
        try simp only [Act.put, List.setIfInBounds_toArray, List.set_cons_zero, List.set_cons_succ]
        refine wpAnyH_take (i := 5) (oi := { dst := some 58, op := Op.move (Operand.tmp 57), type := 4, pos := "law.go:92", after := #[{ on := 4, ground := Ground.data }, { on := 1, ground := Ground.chain }], guard := none }) (v := .bool false) rfl (by kernel_rfl) (by kernel_rfl) (by kernel_rfl) (fun _ _ _ h => h) (Or.inl ⟨by rfl, ?_⟩) (by assumption) ?_
        · intro w hSw
          go_simp
          first | done | with_reducible rfl
        try simp only [Act.put, List.setIfInBounds_toArray, List.set_cons_zero, List.set_cons_succ]
        refine wpAnyH_take (i := 6) (oi := { dst := some 59, op := Op.move (Operand.tmp 5), type := 27, pos := "law.go:92", after := #[{ on := 5, ground := Ground.guard }], guard := some (5, false) }) (v := ?_) rfl (by kernel_rfl) (by kernel_rfl) (by kernel_rfl) (fun _ _ _ h => h) (Or.inl ⟨by rfl, ?_⟩) (by assumption) ?_
        rotate_left 1
        · intro w hSw
          go_simp
          first | done | with_reducible rfl
        try simp only [Act.put, List.setIfInBounds_toArray, List.set_cons_zero, List.set_cons_succ]
        refine wpAnyH_take (i := 8) (oi := { dst := some 61, op := Op.fieldAddr 23 (Operand.tmp 2) 1, type := 0, pos := "law.go:92", after := #[{ on := 5, ground := Ground.guard }], guard := some (5, false) }) (v := ?_) rfl (by kernel_rfl) (by kernel_rfl) (by kernel_rfl) (fun _ _ _ h => h) (Or.inl ⟨by rfl, ?_⟩) (by assumption) ?_
        rotate_left 1
        · intro w hSw
          go_simp
          first | done | with_reducible rfl
        try simp only [Act.put, List.setIfInBounds_toArray, List.set_cons_zero, List.set_cons_succ]
        refine wpAnyH_take (i := 9) (oi := { dst := some 62, op := Op.load 3 (Operand.tmp 61), type := 3, pos := "law.go:92", after := #[{ on := 8, ground := Ground.data }, { on := 5, ground := Ground.guard }], guard := some (5, false) }) (v := ?_) rfl (by kernel_rfl) (by kernel_rfl) (by kernel_rfl) (fun _ _ _ h => h) (Or.inl ⟨by rfl, ?_⟩) (by assumption) ?_
        rotate_left 1
        · intro w hSw
          have j := cellAt (i := 1) (v := .int .i64 (bt : Nat)) (hSw.out.box HW2.out.1) rfl
          go_simp
          first | done | with_reducible rfl
        try simp only [Act.put, List.setIfInBounds_toArray, List.set_cons_zero, List.set_cons_succ]
        refine wpAnyH_ready (rs := [7]) (by kernel_rfl) (by simp) ?_
        refine AllReadyH.cons (o := { dst := some 60, op := Op.call { callee := Callee.value (Operand.func 18), args := #[Operand.tmp 59], argTypes := #[27] }, type := 3, pos := "law.go:92", after := #[{ on := 6, ground := Ground.data }, { on := 5, ground := Ground.chain }, { on := 5, ground := Ground.guard }], guard := some (5, false) }) rfl (fun K hK => ?_) AllReadyH.nil
        go_simp
        (go_at_call 18; (with_reducible refine (CB2.out _ hHeld.out).mono ?_); rintro e w5 ⟨rfl, hw5⟩; replace hw5 := hw5.symm; subst hw5)
        go_simp
        refine hK.out _ _ hHeld (fun hHeld => ?_)
        clear hK K
        try simp only [Act.put, List.setIfInBounds_toArray, List.set_cons_zero, List.set_cons_succ]
        refine wpAnyH_take (i := 10) (oi := { dst := some 63, op := Op.binOp BinOp.gtr 3 (Operand.tmp 60) (Operand.tmp 62) 3, type := 4, pos := "law.go:92", after := #[{ on := 7, ground := Ground.data }, { on := 9, ground := Ground.data }, { on := 5, ground := Ground.guard }], guard := some (5, false) }) (v := .bool false) rfl (by kernel_rfl) (by kernel_rfl) (by kernel_rfl) (fun _ _ _ h => h) (Or.inl ⟨by rfl, ?_⟩) (by assumption) ?_
        · intro w hSw
          go_simp
          first | done | with_reducible rfl
        try simp only [Act.put, List.setIfInBounds_toArray, List.set_cons_zero, List.set_cons_succ]
        refine wpAnyH_take (i := 11) (oi := { dst := some 64, op := Op.pick (Operand.tmp 58) (Operand.const (Value.bool true)) (Operand.tmp 63), type := 4, pos := "law.go:92", after := #[{ on := 5, ground := Ground.data }, { on := 10, ground := Ground.data }], guard := none }) (v := .bool false) rfl (by kernel_rfl) (by kernel_rfl) (by kernel_rfl) (fun _ _ _ h => h) (Or.inl ⟨by rfl, ?_⟩) (by assumption) ?_
        · intro w hSw
          go_simp
          first | done | with_reducible rfl
        try simp only [Act.put, List.setIfInBounds_toArray, List.set_cons_zero, List.set_cons_succ]
        refine wpAnyH_take (i := 12) (oi := { dst := some 65, op := Op.move (Operand.tmp 64), type := 4, pos := "law.go:92", after := #[{ on := 11, ground := Ground.data }, { on := 7, ground := Ground.chain }], guard := none }) (v := .bool false) rfl (by kernel_rfl) (by kernel_rfl) (by kernel_rfl) (fun _ _ _ h => h) (Or.inl ⟨by rfl, ?_⟩) (by assumption) ?_
        · intro w hSw
          go_simp
          first | done | with_reducible rfl
        try simp only [Act.put, List.setIfInBounds_toArray, List.set_cons_zero, List.set_cons_succ]
        refine wpAnyH_take (i := 13) (oi := { dst := some 66, op := Op.move (Operand.tmp 5), type := 27, pos := "law.go:92", after := #[{ on := 12, ground := Ground.guard }], guard := some (12, false) }) (v := ?_) rfl (by kernel_rfl) (by kernel_rfl) (by kernel_rfl) (fun _ _ _ h => h) (Or.inl ⟨by rfl, ?_⟩) (by assumption) ?_
        rotate_left 1
        · intro w hSw
          go_simp
          first | done | with_reducible rfl
        try simp only [Act.put, List.setIfInBounds_toArray, List.set_cons_zero, List.set_cons_succ]
        refine wpAnyH_take (i := 15) (oi := { dst := some 68, op := Op.move (Operand.tmp 5), type := 27, pos := "law.go:92", after := #[{ on := 12, ground := Ground.guard }], guard := some (12, false) }) (v := ?_) rfl (by kernel_rfl) (by kernel_rfl) (by kernel_rfl) (fun _ _ _ h => h) (Or.inl ⟨by rfl, ?_⟩) (by assumption) ?_
        rotate_left 1
        · intro w hSw
          go_simp
          first | done | with_reducible rfl
        try simp only [Act.put, List.setIfInBounds_toArray, List.set_cons_zero, List.set_cons_succ]
        refine wpAnyH_ready (rs := [14]) (by kernel_rfl) (by simp) ?_
        refine AllReadyH.cons (o := { dst := some 67, op := Op.call { callee := Callee.value (Operand.func 20), args := #[Operand.tmp 66], argTypes := #[27] }, type := 3, pos := "law.go:92", after := #[{ on := 13, ground := Ground.data }, { on := 12, ground := Ground.chain }, { on := 12, ground := Ground.guard }], guard := some (12, false) }) rfl (fun K hK => ?_) AllReadyH.nil
        go_simp
        (go_at_call 20; (with_reducible refine (CO2.out _ hHeld.out).mono ?_); rintro e W7 ⟨rfl, hls7⟩)
        have HLS7 := Lib.hid hls7
        clear hls7
        go_simp
        refine hK.out _ _ HLS7 (fun hHeld => ?_)
        clear hK K
        try simp only [Act.put, List.setIfInBounds_toArray, List.set_cons_zero, List.set_cons_succ]
        refine wpAnyH_ready (rs := [16]) (by kernel_rfl) (by simp) ?_
        refine AllReadyH.cons (o := { dst := some 69, op := Op.call { callee := Callee.value (Operand.func 17), args := #[Operand.tmp 68], argTypes := #[27] }, type := 3, pos := "law.go:92", after := #[{ on := 15, ground := Ground.data }, { on := 14, ground := Ground.chain }, { on := 12, ground := Ground.guard }], guard := some (12, false) }) rfl (fun K hK => ?_) AllReadyH.nil
        go_simp
        (go_at_call 17; (with_reducible refine (CL2.out _ hHeld.out).mono ?_); rintro e w5 ⟨rfl, hw5⟩; replace hw5 := hw5.symm; subst hw5)
        go_simp
        refine hK.out _ _ hHeld (fun hHeld => ?_)
        clear hK K
        try simp only [Act.put, List.setIfInBounds_toArray, List.set_cons_zero, List.set_cons_succ]
        refine wpAnyH_take (i := 17) (oi := { dst := some 70, op := Op.binOp BinOp.gtr 3 (Operand.tmp 67) (Operand.tmp 69) 3, type := 4, pos := "law.go:92", after := #[{ on := 14, ground := Ground.data }, { on := 16, ground := Ground.data }, { on := 12, ground := Ground.guard }], guard := some (12, false) }) (v := .bool false) rfl (by kernel_rfl) (by kernel_rfl) (by kernel_rfl) (fun _ _ _ h => h) (Or.inl ⟨by rfl, ?_⟩) (by assumption) ?_
        · intro w hSw
          go_simp
          first | done | with_reducible rfl
        try simp only [Act.put, List.setIfInBounds_toArray, List.set_cons_zero, List.set_cons_succ]
        refine wpAnyH_take (i := 18) (oi := { dst := some 71, op := Op.pick (Operand.tmp 65) (Operand.const (Value.bool true)) (Operand.tmp 70), type := 4, pos := "law.go:92", after := #[{ on := 12, ground := Ground.data }, { on := 17, ground := Ground.data }], guard := none }) (v := .bool false) rfl (by kernel_rfl) (by kernel_rfl) (by kernel_rfl) (fun _ _ _ h => h) (Or.inl ⟨by rfl, ?_⟩) (by assumption) ?_
        · intro w hSw
          go_simp
          first | done | with_reducible rfl
        try simp only [Act.put, List.setIfInBounds_toArray, List.set_cons_zero, List.set_cons_succ]
        refine wpAnyH_take (i := 19) (oi := { dst := some 72, op := Op.move (Operand.tmp 71), type := 4, pos := "law.go:92", after := #[{ on := 18, ground := Ground.data }, { on := 16, ground := Ground.chain }], guard := none }) (v := .bool false) rfl (by kernel_rfl) (by kernel_rfl) (by kernel_rfl) (fun _ _ _ h => h) (Or.inl ⟨by rfl, ?_⟩) (by assumption) ?_
        · intro w hSw
          go_simp
          first | done | with_reducible rfl
        try simp only [Act.put, List.setIfInBounds_toArray, List.set_cons_zero, List.set_cons_succ]
        refine wpAnyH_take (i := 20) (oi := { dst := some 73, op := Op.move (Operand.tmp 5), type := 27, pos := "law.go:92", after := #[{ on := 19, ground := Ground.guard }], guard := some (19, false) }) (v := ?_) rfl (by kernel_rfl) (by kernel_rfl) (by kernel_rfl) (fun _ _ _ h => h) (Or.inl ⟨by rfl, ?_⟩) (by assumption) ?_
        rotate_left 1
        · intro w hSw
          go_simp
          first | done | with_reducible rfl
        try simp only [Act.put, List.setIfInBounds_toArray, List.set_cons_zero, List.set_cons_succ]
        refine wpAnyH_ready (rs := [21]) (by kernel_rfl) (by simp) ?_
        refine AllReadyH.cons (o := { dst := some 74, op := Op.call { callee := Callee.value (Operand.func 18), args := #[Operand.tmp 73], argTypes := #[27] }, type := 3, pos := "law.go:92", after := #[{ on := 20, ground := Ground.data }, { on := 19, ground := Ground.chain }, { on := 19, ground := Ground.guard }], guard := some (19, false) }) rfl (fun K hK => ?_) AllReadyH.nil
        go_simp
        (go_at_call 18; (with_reducible refine (CB2.out _ hHeld.out).mono ?_); rintro e w5 ⟨rfl, hw5⟩; replace hw5 := hw5.symm; subst hw5)
        go_simp
        refine hK.out _ _ hHeld (fun hHeld => ?_)
        clear hK K
        try simp only [Act.put, List.setIfInBounds_toArray, List.set_cons_zero, List.set_cons_succ]
        refine wpAnyH_take (i := 22) (oi := { dst := some 75, op := Op.binOp BinOp.lss 3 (Operand.tmp 74) (Operand.const (Value.int IntKind.i64 0)) 3, type := 4, pos := "law.go:92", after := #[{ on := 21, ground := Ground.data }, { on := 19, ground := Ground.guard }], guard := some (19, false) }) (v := .bool false) rfl (by kernel_rfl) (by kernel_rfl) (by kernel_rfl) (fun _ _ _ h => h) (Or.inl ⟨by rfl, ?_⟩) (by assumption) ?_
        · intro w hSw
          go_simp
          first | done | with_reducible rfl
        try simp only [Act.put, List.setIfInBounds_toArray, List.set_cons_zero, List.set_cons_succ]
        refine wpAnyH_take (i := 23) (oi := { dst := some 76, op := Op.pick (Operand.tmp 72) (Operand.const (Value.bool true)) (Operand.tmp 75), type := 4, pos := "law.go:92", after := #[{ on := 19, ground := Ground.data }, { on := 22, ground := Ground.data }], guard := none }) (v := .bool false) rfl (by kernel_rfl) (by kernel_rfl) (by kernel_rfl) (fun _ _ _ h => h) (Or.inl ⟨by rfl, ?_⟩) (by assumption) ?_
        · intro w hSw
          go_simp
          first | done | with_reducible rfl
        try simp only [Act.put, List.setIfInBounds_toArray, List.set_cons_zero, List.set_cons_succ]
        refine wpAnyH_take (i := 24) (oi := { dst := some 77, op := Op.move (Operand.tmp 76), type := 4, pos := "law.go:92", after := #[{ on := 23, ground := Ground.data }, { on := 21, ground := Ground.chain }], guard := none }) (v := .bool false) rfl (by kernel_rfl) (by kernel_rfl) (by kernel_rfl) (fun _ _ _ h => h) (Or.inl ⟨by rfl, ?_⟩) (by assumption) ?_
        · intro w hSw
          go_simp
          first | done | with_reducible rfl
        try simp only [Act.put, List.setIfInBounds_toArray, List.set_cons_zero, List.set_cons_succ]
        refine wpAnyH_take (i := 25) (oi := { dst := some 78, op := Op.move (Operand.tmp 12), type := 28, pos := "law.go:92", after := #[{ on := 24, ground := Ground.guard }], guard := some (24, false) }) (v := ?_) rfl (by kernel_rfl) (by kernel_rfl) (by kernel_rfl) (fun _ _ _ h => h) (Or.inl ⟨by rfl, ?_⟩) (by assumption) ?_
        rotate_left 1
        · intro w hSw
          go_simp
          first | done | with_reducible rfl
        try simp only [Act.put, List.setIfInBounds_toArray, List.set_cons_zero, List.set_cons_succ]
        refine wpAnyH_take (i := 26) (oi := { dst := some 79, op := Op.binOp BinOp.eql 28 (Operand.tmp 78) (Operand.const (Value.int IntKind.i64 0)) 28, type := 4, pos := "law.go:92", after := #[{ on := 25, ground := Ground.data }, { on := 24, ground := Ground.guard }], guard := some (24, false) }) (v := .bool false) rfl (by kernel_rfl) (by kernel_rfl) (by kernel_rfl) (fun _ _ _ h => h) (Or.inl ⟨by rfl, ?_⟩) (by assumption) ?_
        · intro w hSw
          go_simp
          first | done | with_reducible rfl
        try simp only [Act.put, List.setIfInBounds_toArray, List.set_cons_zero, List.set_cons_succ]
        refine wpAnyH_take (i := 27) (oi := { dst := some 80, op := Op.move (Operand.tmp 11), type := 9, pos := "law.go:92", after := #[{ on := 24, ground := Ground.guard }], guard := some (24, false) }) (v := ?_) rfl (by kernel_rfl) (by kernel_rfl) (by kernel_rfl) (fun _ _ _ h => h) (Or.inl ⟨by rfl, ?_⟩) (by assumption) ?_
        rotate_left 1
        · intro w hSw
          go_simp
          first | done | with_reducible rfl
        try simp only [Act.put, List.setIfInBounds_toArray, List.set_cons_zero, List.set_cons_succ]
        refine wpAnyH_take (i := 28) (oi := { dst := some 81, op := Op.binOp BinOp.neq 9 (Operand.tmp 80) (Operand.const (Value.string { data := #[] })) 9, type := 4, pos := "law.go:92", after := #[{ on := 27, ground := Ground.data }, { on := 24, ground := Ground.guard }], guard := some (24, false) }) (v := .bool false) rfl (by kernel_rfl) (by kernel_rfl) (by kernel_rfl) (fun _ _ _ h => h) (Or.inl ⟨by rfl, ?_⟩) (by assumption) ?_
        · intro w hSw
          go_simp
          first | done | with_reducible rfl
        try simp only [Act.put, List.setIfInBounds_toArray, List.set_cons_zero, List.set_cons_succ]
        refine wpAnyH_take (i := 29) (oi := { dst := some 82, op := Op.binOp BinOp.neq 4 (Operand.tmp 79) (Operand.tmp 81) 4, type := 4, pos := "law.go:92", after := #[{ on := 26, ground := Ground.data }, { on := 28, ground := Ground.data }, { on := 24, ground := Ground.guard }], guard := some (24, false) }) (v := .bool false) rfl (by kernel_rfl) (by kernel_rfl) (by kernel_rfl) (fun _ _ _ h => h) (Or.inl ⟨by rfl, ?_⟩) (by assumption) ?_
        · intro w hSw
          go_simp
          first | done | with_reducible rfl
        try simp only [Act.put, List.setIfInBounds_toArray, List.set_cons_zero, List.set_cons_succ]
        refine wpAnyH_take (i := 30) (oi := { dst := some 83, op := Op.pick (Operand.tmp 77) (Operand.const (Value.bool true)) (Operand.tmp 82), type := 4, pos := "law.go:92", after := #[{ on := 24, ground := Ground.data }, { on := 29, ground := Ground.data }], guard := none }) (v := .bool false) rfl (by kernel_rfl) (by kernel_rfl) (by kernel_rfl) (fun _ _ _ h => h) (Or.inl ⟨by rfl, ?_⟩) (by assumption) ?_
        · intro w hSw
          go_simp
          first | done | with_reducible rfl
        try simp only [Act.put, List.setIfInBounds_toArray, List.set_cons_zero, List.set_cons_succ]
        refine wpAnyH_done (by kernel_rfl) ?_ _
        try simp only [Exit.then]
        clear hHeld
        by_cases h10 : f = 10
        · have c10 : ((f : Int) != 10) = false := by rw [bne_eq_false_iff_eq]; omega
          go_wp2_with (fail)
          exact ⟨⟨j + 1, L2, by omega, by go_num, HLS7, HG2⟩, by simp [intOf] <;> omega⟩
        have c10 : ((f : Int) != 10) = true := by rw [bne_iff_ne]; omega
        by_cases h4 : f = 4
        · have c4 : ((f : Int) != 4) = false := by rw [bne_eq_false_iff_eq]; omega
          go_wp2_with (fail)
          exact ⟨⟨j + 1, L2, by omega, by go_num, HLS7, HG2⟩, by simp [intOf] <;> omega⟩
        have c4 : ((f : Int) != 4) = true := by rw [bne_iff_ne]; omega
        have hLL := HBD.out.2 hf0 h10 h4
        have hN := HNEW.out
        rw [hLL] at hN
        have hO := HOLD.out
        have r1 : ((n2 : Int) != (nl : Int)) = false := by rw [bne_eq_false_iff_eq]; omega
        have r2 : ((b2 : Int) != (bl : Int)) = false := by rw [bne_eq_false_iff_eq]; omega
        have r3 : ((o2 : Int) != (ol : Int)) = false := by rw [bne_eq_false_iff_eq]; omega
        clear hN hO hLL
        go_wp2_with (first | (go_at_call 17; (with_reducible refine (CL2.out _ HLS7.out).mono ?_); rintro e w5 ⟨rfl, hw5⟩; replace hw5 := hw5.symm; subst hw5) | (go_at_call 18; (with_reducible refine (CB2.out _ HLS7.out).mono ?_); rintro e w5 ⟨rfl, hw5⟩; replace hw5 := hw5.symm; subst hw5) | (go_at_call 20; (with_reducible refine (CO2.out _ HLS7.out).mono ?_); rintro e W8 ⟨rfl, hls8⟩; have HLS8 := Lib.hid hls8; clear hls8))
        exact ⟨⟨j + 1, L2, by omega, by go_num, HLS8, HG2⟩, by simp [intOf] <;> omega⟩
    · obtain rfl : j = n := by omega
      go_wp2_with (fail)
      go_loopw [13] (fun i V => ∃ (k : Nat) (L' : List En), k ≤ lf ∧ i = .int .i64 (k : Int) ∧ Hid (L' = ticks ST k L) ∧ Hid (LS W3 Tb M ST L' V) ∧ Hid (GoodT ST L' ∧ AgeT ST L')) (fun i _ => lf - (intOf i).toNat)
      case atStart => exact ⟨0, L, by omega, rfl, Lib.hid rfl, hls, hgood⟩
      case round =>
        obtain ⟨k, L', hk, rfl, htk, hl2, hg2⟩ := hrel
        have kb := cellAt (i := 2) (v := .int .i64 (lf : Nat)) (hl2.out.box HW2.out.1) rfl
        by_cases hkl : k < lf
        · have hw1 : IntKind.i64.wrap ((k : Int) + 1) = ((k + 1 : Nat) : Int) := by rw [IntWalk.i64_in _ (by omega)]; rfl
          have TK := Lib.hid (hl2.out.tick hg2.out.1 hg2.out.2 ⟨HOK.out.1, HOK.out.2.1, HOK.out.2.2.1⟩)
          have HTN : Hid (tickL ST L' = ticks ST (k + 1) L) := Lib.hid (by rw [htk.out]; rfl)
          have HGN : Hid (GoodT ST (tickL ST L') ∧ AgeT ST (tickL ST L')) := Lib.hid ⟨tick_good hg2.out.1, hg2.out.2.tick⟩
          go_wp2_with (go_at_call 13; (with_reducible refine (TK.out).mono ?_); rintro e W9 ⟨z, rfl, hls9⟩)
          exact ⟨⟨k + 1, tickL ST L', by omega, by go_num, HTN, Lib.hid hls9, HGN⟩, by simp [intOf] <;> omega⟩
        · obtain rfl : k = lf := by omega
          have hnil : L' = [] := by
            rw [htk.out]
            have h1 : k = ST.life := by rw [HST.out]
            rw [h1]; exact ticks_end HOK.out.2.2.2
          subst hnil
          have C1 : Hid (∀ V, LS W3 Tb M ST [] V → Calls Try.prog 17 #[.pointer (some ⟨Tb, 0, none⟩)] V fun e w' => e = .returned (.int .i64 0) ∧ w' = V) := Lib.hid (fun V h => h.len)
          have C2 : Hid (∀ V, LS W3 Tb M ST [] V → Calls Try.prog 18 #[.pointer (some ⟨Tb, 0, none⟩)] V fun e w' => e = .returned (.int .i64 0) ∧ w' = V) := Lib.hid (fun V h => h.bytes)
          have C3 : Hid (∀ V, LS W3 Tb M ST [] V → Calls Try.prog 20 #[.pointer (some ⟨Tb, 0, none⟩)] V fun e w' => e = .returned (.int .i64 0) ∧ LS W3 Tb M ST [] w') := Lib.hid (fun V h => h.open (by decide))
          go_wp2_with (first | (go_at_call 17; (with_reducible refine (C1.out _ hl2.out).mono ?_); rintro e w5 ⟨rfl, hw5⟩; replace hw5 := hw5.symm; subst hw5) | (go_at_call 18; (with_reducible refine (C2.out _ hl2.out).mono ?_); rintro e w5 ⟨rfl, hw5⟩; replace hw5 := hw5.symm; subst hw5) | (go_at_call 20; (with_reducible refine (C3.out _ hl2.out).mono ?_); rintro e W9 ⟨rfl, hls9⟩))
          go_ret
          exact ⟨rfl, HW2.out.2.1.trans (hls9.below.mono HW2.out.2.1.size)⟩
open Go.ChangeShapes Go.WideShapes
theorem cells9c : Try.prog.cellsOf 9 = 1 := by kernel_rfl
theorem cells3c : Try.prog.cellsOf 3 = 1 := by kernel_rfl
def StrsIn (w : World) (a : Option Addr) (l : List ByteArray) : Prop := StrIn w a l ∧ (∀ x ∈ l, x.size ≤ 9223372036854775807) ∧ l.length ≤ 9223372036854775807
theorem open_strs {H : Type} {enc : TypeId × Value → H} {w : World} {spare : Nat → Bool} {held : Bool} {fuel : Nat} {x : DataW H × List MemPlace} {a : Option Addr} {len cap : Nat} (h : DataW.trod enc Try.prog w 0 spare held fuel 24 [.slice a len cap] = some x) : ∃ l : List ByteArray, l.length = len ∧ StrsIn w a l := by
  rcases Go.Deep.open_slice Try.underlying24 h with ⟨h0, _⟩ | ⟨b, len', c, m, n, D, Pl, h0, hb, hl, hm, hmm, _, hx⟩
  · simp at h0
    obtain ⟨rfl, rfl, rfl⟩ := h0
    exact ⟨[], rfl, fun j hj => by simp at hj, (fun x hx => by simp at hx), by simp⟩
  · simp at h0
    obtain ⟨rfl, rfl, rfl⟩ := h0
    have hlm : len ≤ m := by rw [hmm]; split <;> omega
    have each : ∀ i, i < len → ∃ q : ByteArray, w.cell? (b.add i) = some (.string q) ∧ q.size ≤ 9223372036854775807 := by
      intro i hi
      obtain ⟨cs', h1, h2⟩ := hx i (by omega)
      rw [cells9c] at h1
      obtain ⟨_, hlen, hcell⟩ := World.cells?_some h1
      obtain ⟨r, e0, _, hr⟩ := DataW.trod_string Try.underlying9 h2
      subst e0
      have e := hcell 0 (by omega)
      exact ⟨r, by simpa [Addr.add] using e, by unfold maxLen at hr; omega⟩
    obtain ⟨q, hq⟩ := Go.Deep.choose_lt each
    refine ⟨(List.range len).map q, by simp, ?_, ?_, ?_⟩
    · intro j hj
      have hj' : j < len := by simpa using hj
      exact ⟨b, rfl, by simpa using (hq j hj').1⟩
    · intro x hx
      obtain ⟨j, hj, rfl⟩ := List.mem_map.1 hx
      exact (hq j (List.mem_range.1 hj)).2
    · unfold maxLen at hm; simp; omega
structure StoL where
  z0 : Int
  z1 : Int
  z2 : Int
def StoL.V (s : StoL) : Value := .agg #[.int .i64 s.z0, .int .i64 s.z1, .int .i64 s.z2]
theorem fs23 : ∃ f0 f1 f2, Try.prog.underlying 23 = some (.struct #[f0, f1, f2]) ∧ (f0.offset = 0 ∧ f1.offset = 1 ∧ f2.offset = 2) ∧ f0.type = 3 ∧ f1.type = 3 ∧ f2.type = 3 :=
  ⟨_, _, _, Try.underlying23, ⟨rfl, rfl, rfl⟩, rfl, rfl, rfl⟩
theorem cells23c : Try.prog.cellsOf 23 = 3 := by kernel_rfl
theorem sto_cells {H : Type} {enc : TypeId × Value → H} {w : World} {base : Nat} {spare : Nat → Bool} {held : Bool} {fuel : Nat} {x : DataW H × List MemPlace} {cs : List Value} (h : DataW.trod enc Try.prog w base spare held fuel 23 cs = some x) :
    ∃ (z0 z1 z2 : Int), cs = [.int .i64 z0, .int .i64 z1, .int .i64 z2] := by
  obtain ⟨f0, f1, f2, he, ⟨o0, o1, o2⟩, q0, q1, q2⟩ := fs23
  obtain ⟨xs, k, hk, hxy, hlen, hxl, hg⟩ := DataW.trod_struct he h
  rw [cells23c] at hlen
  match xs, hxl, cs, hlen with
  | [y0, y1, y2], _, [v0, v1, v2], _ =>
    have g0 := hg 0 f0 rfl
    have g1 := hg 1 f1 rfl
    have g2 := hg 2 f2 rfl
    simp [o0, o1, o2, q0, q1, q2, cells3c] at g0 g1 g2
    obtain ⟨r0, e0, _, w0⟩ := DataW.trod_int Try.underlying3 g0
    obtain ⟨r1, e1, _, w1⟩ := DataW.trod_int Try.underlying3 g1
    obtain ⟨r2, e2, _, w2⟩ := DataW.trod_int Try.underlying3 g2
    simp at e0 e1 e2
    subst e0 e1 e2
    exact ⟨r0, r1, r2, rfl⟩
theorem open_sto {H : Type} {enc : TypeId × Value → H} {w : World} {base : Nat} {v : Value} {d : DataW H} {p : List MemPlace} (hv : Value.okWide Try.prog w .any base 23 v) (h : DataW.Trod enc Try.prog w 0 (fun _ => true) true 23 v d p) : ∃ g : StoL, v = g.V ∧ True := by
  obtain ⟨cs, rfl, hsz⟩ := okWide_struct Try.underlying23 hv
  obtain ⟨fuel, hf⟩ := h
  obtain ⟨z0, z1, z2, e⟩ := sto_cells hf
  obtain ⟨l⟩ := cs
  simp only [Value.cells] at e
  exact ⟨⟨z0, z1, z2⟩, by rw [show l = _ from e]; rfl, trivial⟩
theorem bounds_law (w : World) (g : StoL) (_ : True) (l : List ByteArray) (a : Option Addr) (cap : Nat) (hin : StrsIn w a l) :
    Calls Try.prog 4 #[g.V, .slice a l.length cap] w fun e w' => e = .returned (.bool true) ∧ Below w.heap.size w w' :=
  bounds_walk g.z0 g.z1 g.z2 a l cap w hin.1 hin.2.1 hin.2.2
end Go.Proofs.Ythdkbocokefdhaa
