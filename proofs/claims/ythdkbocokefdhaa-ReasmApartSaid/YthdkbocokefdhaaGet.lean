import Derived.Test.YthdkbocokefdhaaPut
import Derived.Test.YthdkbocokefdhaaReadL
import Derived.Test.YthdkbocokefdhaaRefV
import Derived.StillTailTactics
import Derived.Deep.RegionHeld
import Derived.Deep.RegionHeld3
/- The reading of an IPv4 packet: the closure of ip4.Get. -/
namespace Go.Proofs.Ythdkbocokefdhaa
set_option maxRecDepth 100000
open Go.RowKit
/-- the walk's state -/
structure GSt (b P H Y : Nat) (s : ByteArray) (l : List UInt8) (C : Array Value) (w0 w : World) : Prop where
  rd : Rl b s l w
  hP : w.heap[P]? = some (.cells #[.string s] 9 (0, 0))
  hH : w.heap[H]? = some (.cells C 43 (0, 0))
  hY : w.heap[Y]? = some (.cells #[.string ⟨#[]⟩] 9 (0, 0))
  ne : P ≠ b ∧ H ≠ b ∧ Y ≠ b ∧ P ≠ H ∧ P ≠ Y ∧ H ≠ Y
  sv : Save [b, H, Y] w0 w
section
variable {b P H Y : Nat} {s : ByteArray} {l l' : List UInt8} {C C' : Array Value} {w0 w w' : World}
theorem GSt.but (h : GSt b P H Y s l C w0 w) (hb : But b w w') (hr : Rl b s l' w') : GSt b P H Y s l' C w0 w' :=
  ⟨hr, (hb.block _ (heap_lt h.hP) h.ne.1).trans h.hP, (hb.block _ (heap_lt h.hH) h.ne.2.1).trans h.hH, (hb.block _ (heap_lt h.hY) h.ne.2.2.1).trans h.hY, h.ne, h.sv.trans (hb.save (by simp))⟩
theorem GSt.drew (h : GSt b P H Y s l C w0 w) : GSt b P H Y s l C w0 w.drew := ⟨h.rd, h.hP, h.hH, h.hY, h.ne, h.sv.drew⟩
theorem GSt.below (h : GSt b P H Y s l C w0 w) (hb : Below w.heap.size w w') : GSt b P H Y s l C w0 w' :=
  ⟨h.rd.same (hb.block _ h.rd.lt), (hb.block _ (heap_lt h.hP)).trans h.hP, (hb.block _ (heap_lt h.hH)).trans h.hH, (hb.block _ (heap_lt h.hY)).trans h.hY, h.ne, h.sv.trans (Save.of_below hb)⟩
theorem GSt.set (h : GSt b P H Y s l C w0 w) (i : Nat) (hi : i < C.size) (v : Value) (hC : C' = C.set i v hi) : GSt b P H Y s l C' w0 (w.setCell ⟨H, i, none⟩ v) := by
  obtain ⟨n1, n2, n3, n4, n5, n6⟩ := h.ne
  refine ⟨h.rd.same (Below.heap_setCell _ _ _ _ (fun e => n2 e.symm)), heap_other h.hP n4 _ _, ?_, heap_other h.hY (fun e => n6 e.symm) _ _, h.ne, h.sv.set (.inl (by simp)) _⟩
  rw [hC]; exact heap_set h.hH hi v
end
def GetPost (H Y : Nat) (bad : List Nat) (L : List UInt8) (w : World) (e : Ending) (w' : World) : Prop :=
  (∃ c, getE L = .error c ∧ e = .panicked (stopped c) ∧ Save bad w w') ∨ (∃ h pl, getE L = .ok (h, pl) ∧ e = .returned (.tuple #[]) ∧ w'.heap[H]? = some (.cells (hc h) 43 (0, 0)) ∧ w'.heap[Y]? = some (.cells #[.string (bs pl)] 9 (0, 0)) ∧ Save bad w w')
theorem right_one (g : Nat) (s : ByteArray) (w : World) (hg : w.heap[g]? = some (.cells #[.string s] 9 (0, 0))) (hs : s.size ≤ 1000000) (r : Bool) (hr : r = decide (sm s.data.toList = 0)) :
    Calls Try.prog 58 #[.slice (some ⟨g, 0, none⟩) 1 1] w fun e w' => e = .returned (.bool r) ∧ Below w.heap.size w w' := by
  have C := Lib.hid (sum_one g s w hg hs)
  obtain ⟨z, hz⟩ : ∃ z, z = sm s.data.toList := ⟨_, rfl⟩
  rw [← hz] at C hr
  have hb : ((z : Int) == 0) = r := by rw [hr, Bool.eq_iff_iff]; simp
  clear hr
  go_enter Try.func58, Try.ntmps58
  go_wp2_with (go_at_call 75; (with_reducible refine C.out.mono ?_); rintro e w1 ⟨rfl, hb1⟩)
  go_ret
  exact ⟨by rw [← hb, hz]; rfl, hb1⟩
theorem need_noI (p : Value) (c : Nat) (ci : Int) (hci : ci = c) (w : World) : Calls Try.prog 55 #[p, .bool false, .int .i64 ci] w fun e w' => e = .panicked (stopped c) ∧ w' = w := by
  subst hci; exact need_no p c w
abbrev zeroH : Array Value := #[.int .i64 0, .int .i64 0, .int .i64 0, .int .i64 0, .int .i64 0, .bool false, .bool false, .string ⟨#[]⟩, .string ⟨#[]⟩, .string ⟨#[]⟩]
set_option maxHeartbeats 16000000 in
theorem get1_any (b P H Y : Nat) (s : ByteArray) (w : World) (hs : s.size ≤ 9223372036854775807) (h : GSt b P H Y s s.data.toList #[.int .i64 0, .int .i64 0, .int .i64 0, .int .i64 0, .int .i64 0, .bool false, .bool false, .string ⟨#[]⟩, .string ⟨#[]⟩, .string ⟨#[]⟩] w w) :
    Calls Try.prog 54 #[.pointer (some ⟨b, 0, none⟩), .pointer (some ⟨P, 0, none⟩), .pointer (some ⟨H, 0, none⟩), .pointer (some ⟨Y, 0, none⟩)] w (GetPost H Y [b, H, Y] s.data.toList w) := by
  obtain ⟨L, hL⟩ : ∃ L, L = s.data.toList := ⟨_, rfl⟩
  have hLs : L.length = s.size := by rw [hL]; simp
  rw [← hL] at h ⊢
  have G0 := Lib.hid h
  have hmx : s.size ≤ MX := by unfold MX; omega
  have HLS := Lib.hid hLs
  have HL := Lib.hid hL
  have HE := Lib.hid (rfl : getE L = getE L)
  have k0 := cellAt (i := 0) (v := .string s) h.hP rfl
  clear h hL
  by_cases e1 : L.length < 20
  · have hE : Hid (getE L = .error 2) := Lib.hid (by unfold getE; rw [if_pos e1])
    have e2 : ¬ (s.size : Int) ≥ 20 := by omega
    have e3 : decide ((s.size : Int) ≥ 20) = false := decide_eq_false e2
    clear e1 hLs
    go_enter Try.func54, Try.ntmps54
    go_wp2_with (go_at_call 55; (with_reducible refine (need_noI _ 2 2 rfl _).mono ?_); rintro e w1 ⟨rfl, rfl⟩)
    exact ⟨rfl, .inl ⟨2, hE.out, rfl, G0.out.sv⟩⟩
  have e2 : (s.size : Int) ≥ 20 := by omega
  have e3 : decide ((s.size : Int) ≥ 20) = true := decide_eq_true e2
  obtain ⟨v0, hv0⟩ : ∃ v, v = bv (L.take 1) := ⟨_, rfl⟩
  have hv0l : v0 < 256 := by rw [hv0]; exact bv_tk1 L
  have U0 : Hid (Calls Try.prog 56 #[.pointer (some ⟨b, 0, none⟩)] w fun e w' => e = .returned (.int .i64 (v0 : Nat)) ∧ Rl b s (L.drop 1) w' ∧ But b w w') := Lib.hid (by rw [hv0]; exact u8_l b s L w G0.out.rd (by omega) hmx)
  obtain ⟨r, hr⟩ : ∃ r, r = v0 % 16 := ⟨_, rfl⟩
  obtain ⟨n, hn⟩ : ∃ n, n = r * 4 := ⟨_, rfl⟩
  obtain ⟨q, hq⟩ : ∃ q, q = v0 / 16 := ⟨_, rfl⟩
  have m1 : bits .and .i64 (v0 : Int) 15 = (r : Int) := by rw [hr]; exact i64_mask4 v0 (by omega)
  have m2 : (4 : Int) * (r : Int) = (n : Int) := by omega
  have m3 : (v0 : Int) / 16 = (q : Int) := by omega
  have HN : Hid (n = bv (L.take 1) % 16 * 4) := Lib.hid (by omega)
  have HQ : Hid (q = bv (L.take 1) / 16) := Lib.hid (by omega)
  have hn9 : n < 64 := by omega
  clear hr hn hv0 hq
  by_cases e4 : q = 4
  rotate_left
  · have hE : Hid (getE L = .error 3) := Lib.hid (by unfold getE; rw [if_neg e1, ← HQ.out, if_pos e4])
    have e5 : ((q : Int) == 4) = false := by rw [beq_eq_false_iff_ne]; omega
    clear e1 hLs
    go_enter Try.func54, Try.ntmps54
    go_wp2_with (first | (go_at_call 55; (with_reducible refine (need_yes _ _ _).mono ?_); rintro e w1 ⟨rfl, rfl⟩) | (go_at_call 56; (with_reducible refine U0.out.mono ?_); rintro e w1 ⟨rfl, hr1, hb1⟩; have G1 := Lib.hid (G0.out.but hb1 hr1); clear hr1 hb1) | (go_at_call 55; (with_reducible refine (need_noI _ 3 3 rfl _).mono ?_); rintro e w1 ⟨rfl, rfl⟩))
    exact ⟨rfl, .inl ⟨3, hE.out, rfl, G1.out.sv⟩⟩
  have e5 : ((q : Int) == 4) = true := by rw [beq_iff_eq]; omega
  go_enter Try.func54, Try.ntmps54
  go_upto_region 4 with (first | (go_at_call 55; (with_reducible refine (need_yes _ _ _).mono ?_); rintro e w1 ⟨rfl, hw1⟩; replace hw1 := hw1.symm; subst hw1) | (go_at_call 56; (with_reducible refine U0.out.mono ?_); rintro e w1 ⟨rfl, hr1, hb1⟩; have G1 := Lib.hid (G0.out.but hb1 hr1); clear hr1 hb1))
  obtain ⟨tos, htos⟩ : ∃ v, v = bv ((L.drop 1).take 1) := ⟨_, rfl⟩
  have U1 : Hid (∀ V, Rl b s (L.drop 1) V → Calls Try.prog 56 #[.pointer (some ⟨b, 0, none⟩)] V fun e w' => e = .returned (.int .i64 (tos : Nat)) ∧ Rl b s (L.drop 2) w' ∧ But b V w') := Lib.hid (fun V hV => by have := u8_l b s (L.drop 1) V hV (by simp only [List.length_drop]; omega) hmx; rw [← htos, List.drop_drop] at this; exact this)
  have HTOS := Lib.hid htos
  clear htos k0 HE
  go_upto_region 5 with (go_at_call 56; (with_reducible refine (U1.out _ G1.out.rd).mono ?_); rintro e w2 ⟨rfl, hr1, hb1⟩; have G2a := Lib.hid (G1.out.but hb1 hr1); clear hr1 hb1; have k0 := cellAt (i := 0) (v := .int .i64 0) G2a.out.hH rfl; have f0 := Lib.frozen_of_heap G2a.out.hH 0)
  obtain ⟨W2, hW2⟩ : ∃ W, W = w2.setCell ⟨H, 0, none⟩ (.int .i64 (tos : Nat)) := ⟨_, rfl⟩
  have G2 : Hid (GSt b P H Y s (L.drop 2) #[.int .i64 (tos : Nat), .int .i64 0, .int .i64 0, .int .i64 0, .int .i64 0, .bool false, .bool false, .string ⟨#[]⟩, .string ⟨#[]⟩, .string ⟨#[]⟩] w W2) := Lib.hid (by rw [hW2]; exact G2a.out.set 0 (show 0 < 10 by decide) _ rfl)
  rw [← hW2]
  clear hW2 k0 f0 G2a
  by_cases e6 : n < 20
  · have hE : Hid (getE L = .error 4) := Lib.hid (by unfold getE; rw [if_neg e1, ← HQ.out, if_neg (by omega), ← HN.out, if_pos (.inl e6)])
    have e7 : ¬ (n : Int) ≥ 20 := by omega
    have e8 : decide ((n : Int) ≥ 20) = false := decide_eq_false e7
    refine wp_region_held_drew (S := fun V => V.heap[P]? = some (.cells #[.string s] 9 (0, 0))) (by kernel_rfl) G2.out.hP (fun hHeld => ?_)
    refine wpAnyH_take (i := 0) (oi := { dst := some 26, op := Op.move (Operand.tmp 0), type := 102, pos := "ip4.go:82", after := #[], guard := none }) (v := ?_) rfl (by kernel_rfl) (by kernel_rfl) (by kernel_rfl) (fun _ _ _ h => h) (Or.inl ⟨by rfl, ?_⟩) (by assumption) ?_
    rotate_left 1
    · intro w hSw
      go_simp
      first | done | with_reducible rfl
    try simp only [Act.put, List.setIfInBounds_toArray, List.set_cons_zero, List.set_cons_succ]
    refine wpAnyH_take (i := 1) (oi := { dst := some 27, op := Op.move (Operand.tmp 6), type := 3, pos := "ip4.go:82", after := #[], guard := none }) (v := ?_) rfl (by kernel_rfl) (by kernel_rfl) (by kernel_rfl) (fun _ _ _ h => h) (Or.inl ⟨by rfl, ?_⟩) (by assumption) ?_
    rotate_left 1
    · intro w hSw
      go_simp
      first | done | with_reducible rfl
    try simp only [Act.put, List.setIfInBounds_toArray, List.set_cons_zero, List.set_cons_succ]
    refine wpAnyH_take (i := 2) (oi := { dst := some 28, op := Op.binOp BinOp.geq 3 (Operand.tmp 27) (Operand.const (Value.int IntKind.i64 20)) 3, type := 4, pos := "ip4.go:82", after := #[{ on := 1, ground := Ground.data }], guard := none }) (v := .bool false) rfl (by kernel_rfl) (by kernel_rfl) (by kernel_rfl) (fun _ _ _ h => h) (Or.inl ⟨by rfl, ?_⟩) (by assumption) ?_
    · intro w hSw
      go_simp
      first | done | with_reducible rfl
    try simp only [Act.put, List.setIfInBounds_toArray, List.set_cons_zero, List.set_cons_succ]
    refine wpAnyH_take (i := 3) (oi := { dst := some 29, op := Op.move (Operand.tmp 28), type := 4, pos := "ip4.go:82", after := #[{ on := 2, ground := Ground.data }], guard := none }) (v := .bool false) rfl (by kernel_rfl) (by kernel_rfl) (by kernel_rfl) (fun _ _ _ h => h) (Or.inl ⟨by rfl, ?_⟩) (by assumption) ?_
    · intro w hSw
      go_simp
      first | done | with_reducible rfl
    try simp only [Act.put, List.setIfInBounds_toArray, List.set_cons_zero, List.set_cons_succ]
    refine wpAnyH_take (i := 4) (oi := { dst := some 30, op := Op.move (Operand.tmp 6), type := 3, pos := "ip4.go:82", after := #[{ on := 3, ground := Ground.guard }], guard := some (3, true) }) (v := undef) rfl (by kernel_rfl) (by kernel_rfl) (by kernel_rfl) (fun _ _ _ h => h) (Or.inr ⟨by rfl, rfl⟩) (by assumption) ?_
    try simp only [Act.put, List.setIfInBounds_toArray, List.set_cons_zero, List.set_cons_succ]
    refine wpAnyH_take (i := 5) (oi := { dst := some 31, op := Op.load 9 (Operand.tmp 1), type := 9, pos := "ip4.go:82", after := #[{ on := 3, ground := Ground.guard }], guard := some (3, true) }) (v := undef) rfl (by kernel_rfl) (by kernel_rfl) (by kernel_rfl) (fun _ _ _ h => h) (Or.inr ⟨by rfl, rfl⟩) (by assumption) ?_
    try simp only [Act.put, List.setIfInBounds_toArray, List.set_cons_zero, List.set_cons_succ]
    refine wpAnyH_take (i := 6) (oi := { dst := some 32, op := Op.call { callee := Callee.builtin Builtin.len, args := #[Operand.tmp 31], argTypes := #[9] }, type := 3, pos := "ip4.go:82", after := #[{ on := 5, ground := Ground.data }, { on := 3, ground := Ground.guard }], guard := some (3, true) }) (v := undef) rfl (by kernel_rfl) (by kernel_rfl) (by kernel_rfl) (fun _ _ _ h => h) (Or.inr ⟨by rfl, rfl⟩) (by assumption) ?_
    try simp only [Act.put, List.setIfInBounds_toArray, List.set_cons_zero, List.set_cons_succ]
    refine wpAnyH_take (i := 7) (oi := { dst := some 33, op := Op.binOp BinOp.leq 3 (Operand.tmp 30) (Operand.tmp 32) 3, type := 4, pos := "ip4.go:82", after := #[{ on := 4, ground := Ground.data }, { on := 6, ground := Ground.data }, { on := 3, ground := Ground.guard }], guard := some (3, true) }) (v := undef) rfl (by kernel_rfl) (by kernel_rfl) (by kernel_rfl) (fun _ _ _ h => h) (Or.inr ⟨by rfl, rfl⟩) (by assumption) ?_
    try simp only [Act.put, List.setIfInBounds_toArray, List.set_cons_zero, List.set_cons_succ]
    refine wpAnyH_take (i := 8) (oi := { dst := some 34, op := Op.pick (Operand.tmp 29) (Operand.tmp 33) (Operand.const (Value.bool false)), type := 4, pos := "ip4.go:82", after := #[{ on := 3, ground := Ground.data }, { on := 7, ground := Ground.data }], guard := none }) (v := .bool false) rfl (by kernel_rfl) (by kernel_rfl) (by kernel_rfl) (fun _ _ _ h => h) (Or.inl ⟨by rfl, ?_⟩) (by assumption) ?_
    · intro w hSw
      go_simp
      first | done | with_reducible rfl
    try simp only [Act.put, List.setIfInBounds_toArray, List.set_cons_zero, List.set_cons_succ]
    refine wpAnyH_take (i := 9) (oi := { dst := some 35, op := Op.move (Operand.tmp 34), type := 4, pos := "ip4.go:82", after := #[{ on := 8, ground := Ground.data }, { on := 3, ground := Ground.chain }], guard := none }) (v := .bool false) rfl (by kernel_rfl) (by kernel_rfl) (by kernel_rfl) (fun _ _ _ h => h) (Or.inl ⟨by rfl, ?_⟩) (by assumption) ?_
    · intro w hSw
      go_simp
      first | done | with_reducible rfl
    try simp only [Act.put, List.setIfInBounds_toArray, List.set_cons_zero, List.set_cons_succ]
    refine wpAnyH_take (i := 10) (oi := { dst := some 36, op := Op.move (Operand.tmp 0), type := 102, pos := "ip4.go:82", after := #[{ on := 9, ground := Ground.guard }], guard := some (9, true) }) (v := undef) rfl (by kernel_rfl) (by kernel_rfl) (by kernel_rfl) (fun _ _ _ h => h) (Or.inr ⟨by rfl, rfl⟩) (by assumption) ?_
    try simp only [Act.put, List.setIfInBounds_toArray, List.set_cons_zero, List.set_cons_succ]
    refine wpAnyH_take (i := 11) (oi := { dst := some 37, op := Op.call { callee := Callee.value (Operand.func 57), args := #[Operand.tmp 36], argTypes := #[102] }, type := 3, pos := "ip4.go:82", after := #[{ on := 10, ground := Ground.data }, { on := 9, ground := Ground.chain }, { on := 9, ground := Ground.guard }], guard := some (9, true) }) (v := undef) rfl (by kernel_rfl) (by kernel_rfl) (by kernel_rfl) (fun _ _ _ h => h) (Or.inr ⟨by rfl, rfl⟩) (by assumption) ?_
    try simp only [Act.put, List.setIfInBounds_toArray, List.set_cons_zero, List.set_cons_succ]
    refine wpAnyH_take (i := 12) (oi := { dst := some 38, op := Op.load 9 (Operand.tmp 1), type := 9, pos := "ip4.go:82", after := #[{ on := 9, ground := Ground.guard }], guard := some (9, true) }) (v := undef) rfl (by kernel_rfl) (by kernel_rfl) (by kernel_rfl) (fun _ _ _ h => h) (Or.inr ⟨by rfl, rfl⟩) (by assumption) ?_
    try simp only [Act.put, List.setIfInBounds_toArray, List.set_cons_zero, List.set_cons_succ]
    refine wpAnyH_take (i := 13) (oi := { dst := some 39, op := Op.call { callee := Callee.builtin Builtin.len, args := #[Operand.tmp 38], argTypes := #[9] }, type := 3, pos := "ip4.go:82", after := #[{ on := 12, ground := Ground.data }, { on := 9, ground := Ground.guard }], guard := some (9, true) }) (v := undef) rfl (by kernel_rfl) (by kernel_rfl) (by kernel_rfl) (fun _ _ _ h => h) (Or.inr ⟨by rfl, rfl⟩) (by assumption) ?_
    try simp only [Act.put, List.setIfInBounds_toArray, List.set_cons_zero, List.set_cons_succ]
    refine wpAnyH_take (i := 14) (oi := { dst := some 40, op := Op.binOp BinOp.eql 3 (Operand.tmp 37) (Operand.tmp 39) 3, type := 4, pos := "ip4.go:82", after := #[{ on := 11, ground := Ground.data }, { on := 13, ground := Ground.data }, { on := 9, ground := Ground.guard }], guard := some (9, true) }) (v := undef) rfl (by kernel_rfl) (by kernel_rfl) (by kernel_rfl) (fun _ _ _ h => h) (Or.inr ⟨by rfl, rfl⟩) (by assumption) ?_
    try simp only [Act.put, List.setIfInBounds_toArray, List.set_cons_zero, List.set_cons_succ]
    refine wpAnyH_take (i := 15) (oi := { dst := some 41, op := Op.pick (Operand.tmp 35) (Operand.tmp 40) (Operand.const (Value.bool false)), type := 4, pos := "ip4.go:82", after := #[{ on := 9, ground := Ground.data }, { on := 14, ground := Ground.data }], guard := none }) (v := .bool false) rfl (by kernel_rfl) (by kernel_rfl) (by kernel_rfl) (fun _ _ _ h => h) (Or.inl ⟨by rfl, ?_⟩) (by assumption) ?_
    · intro w hSw
      go_simp
      first | done | with_reducible rfl
    try simp only [Act.put, List.setIfInBounds_toArray, List.set_cons_zero, List.set_cons_succ]
    refine wpAnyH_ready (rs := [16]) (by kernel_rfl) (by simp) ?_
    refine AllReadyH.cons (o := { dst := some 42, op := Op.call { callee := Callee.value (Operand.func 55), args := #[Operand.tmp 26, Operand.tmp 41, Operand.const (Value.int IntKind.i64 4)], argTypes := #[102, 4, 28] }, type := 0, pos := "ip4.go:82", after := #[{ on := 0, ground := Ground.data }, { on := 15, ground := Ground.data }, { on := 11, ground := Ground.chain }], guard := none }) rfl (fun K hK => ?_) AllReadyH.nil
    go_simp
    (go_at_call 55; (with_reducible refine (need_noI _ 4 4 rfl _).mono ?_); rintro e w9 ⟨rfl, rfl⟩)
    exact ⟨rfl, .inl ⟨4, hE.out, rfl, G2.out.sv.drew⟩⟩
  have e7 : (n : Int) ≥ 20 := by omega
  have e8 : decide ((n : Int) ≥ 20) = true := decide_eq_true e7
  by_cases e9 : s.size < n
  · have hE : Hid (getE L = .error 4) := Lib.hid (by unfold getE; rw [if_neg e1, ← HQ.out, if_neg (by omega), ← HN.out, if_pos (.inr (.inl (by omega)))])
    have e10 : ¬ (n : Int) ≤ (s.size : Int) := by omega
    have e11 : decide ((n : Int) ≤ (s.size : Int)) = false := decide_eq_false e10
    refine wp_region_held_drew (S := fun V => V.heap[P]? = some (.cells #[.string s] 9 (0, 0))) (by kernel_rfl) G2.out.hP (fun hHeld => ?_)
    refine wpAnyH_take (i := 0) (oi := { dst := some 26, op := Op.move (Operand.tmp 0), type := 102, pos := "ip4.go:82", after := #[], guard := none }) (v := ?_) rfl (by kernel_rfl) (by kernel_rfl) (by kernel_rfl) (fun _ _ _ h => h) (Or.inl ⟨by rfl, ?_⟩) (by assumption) ?_
    rotate_left 1
    · intro w hSw
      go_simp
      first | done | with_reducible rfl
    try simp only [Act.put, List.setIfInBounds_toArray, List.set_cons_zero, List.set_cons_succ]
    refine wpAnyH_take (i := 1) (oi := { dst := some 27, op := Op.move (Operand.tmp 6), type := 3, pos := "ip4.go:82", after := #[], guard := none }) (v := ?_) rfl (by kernel_rfl) (by kernel_rfl) (by kernel_rfl) (fun _ _ _ h => h) (Or.inl ⟨by rfl, ?_⟩) (by assumption) ?_
    rotate_left 1
    · intro w hSw
      go_simp
      first | done | with_reducible rfl
    try simp only [Act.put, List.setIfInBounds_toArray, List.set_cons_zero, List.set_cons_succ]
    refine wpAnyH_take (i := 2) (oi := { dst := some 28, op := Op.binOp BinOp.geq 3 (Operand.tmp 27) (Operand.const (Value.int IntKind.i64 20)) 3, type := 4, pos := "ip4.go:82", after := #[{ on := 1, ground := Ground.data }], guard := none }) (v := .bool true) rfl (by kernel_rfl) (by kernel_rfl) (by kernel_rfl) (fun _ _ _ h => h) (Or.inl ⟨by rfl, ?_⟩) (by assumption) ?_
    · intro w hSw
      go_simp
      first | done | with_reducible rfl
    try simp only [Act.put, List.setIfInBounds_toArray, List.set_cons_zero, List.set_cons_succ]
    refine wpAnyH_take (i := 3) (oi := { dst := some 29, op := Op.move (Operand.tmp 28), type := 4, pos := "ip4.go:82", after := #[{ on := 2, ground := Ground.data }], guard := none }) (v := .bool true) rfl (by kernel_rfl) (by kernel_rfl) (by kernel_rfl) (fun _ _ _ h => h) (Or.inl ⟨by rfl, ?_⟩) (by assumption) ?_
    · intro w hSw
      go_simp
      first | done | with_reducible rfl
    try simp only [Act.put, List.setIfInBounds_toArray, List.set_cons_zero, List.set_cons_succ]
    refine wpAnyH_take (i := 4) (oi := { dst := some 30, op := Op.move (Operand.tmp 6), type := 3, pos := "ip4.go:82", after := #[{ on := 3, ground := Ground.guard }], guard := some (3, true) }) (v := ?_) rfl (by kernel_rfl) (by kernel_rfl) (by kernel_rfl) (fun _ _ _ h => h) (Or.inl ⟨by rfl, ?_⟩) (by assumption) ?_
    rotate_left 1
    · intro w hSw
      go_simp
      first | done | with_reducible rfl
    try simp only [Act.put, List.setIfInBounds_toArray, List.set_cons_zero, List.set_cons_succ]
    refine wpAnyH_take (i := 5) (oi := { dst := some 31, op := Op.load 9 (Operand.tmp 1), type := 9, pos := "ip4.go:82", after := #[{ on := 3, ground := Ground.guard }], guard := some (3, true) }) (v := ?_) rfl (by kernel_rfl) (by kernel_rfl) (by kernel_rfl) (fun _ _ _ h => h) (Or.inl ⟨by rfl, ?_⟩) (by assumption) ?_
    rotate_left 1
    · intro w hSw
      have q0 := cellAt (i := 0) (v := .string s) hSw rfl
      go_simp
      first | done | with_reducible rfl
    try simp only [Act.put, List.setIfInBounds_toArray, List.set_cons_zero, List.set_cons_succ]
    refine wpAnyH_take (i := 6) (oi := { dst := some 32, op := Op.call { callee := Callee.builtin Builtin.len, args := #[Operand.tmp 31], argTypes := #[9] }, type := 3, pos := "ip4.go:82", after := #[{ on := 5, ground := Ground.data }, { on := 3, ground := Ground.guard }], guard := some (3, true) }) (v := ?_) rfl (by kernel_rfl) (by kernel_rfl) (by kernel_rfl) (fun _ _ _ h => h) (Or.inl ⟨by rfl, ?_⟩) (by assumption) ?_
    rotate_left 1
    · intro w hSw
      go_simp
      first | done | with_reducible rfl
    try simp only [Act.put, List.setIfInBounds_toArray, List.set_cons_zero, List.set_cons_succ]
    refine wpAnyH_take (i := 7) (oi := { dst := some 33, op := Op.binOp BinOp.leq 3 (Operand.tmp 30) (Operand.tmp 32) 3, type := 4, pos := "ip4.go:82", after := #[{ on := 4, ground := Ground.data }, { on := 6, ground := Ground.data }, { on := 3, ground := Ground.guard }], guard := some (3, true) }) (v := .bool false) rfl (by kernel_rfl) (by kernel_rfl) (by kernel_rfl) (fun _ _ _ h => h) (Or.inl ⟨by rfl, ?_⟩) (by assumption) ?_
    · intro w hSw
      go_simp
      first | done | with_reducible rfl
    try simp only [Act.put, List.setIfInBounds_toArray, List.set_cons_zero, List.set_cons_succ]
    refine wpAnyH_take (i := 8) (oi := { dst := some 34, op := Op.pick (Operand.tmp 29) (Operand.tmp 33) (Operand.const (Value.bool false)), type := 4, pos := "ip4.go:82", after := #[{ on := 3, ground := Ground.data }, { on := 7, ground := Ground.data }], guard := none }) (v := .bool false) rfl (by kernel_rfl) (by kernel_rfl) (by kernel_rfl) (fun _ _ _ h => h) (Or.inl ⟨by rfl, ?_⟩) (by assumption) ?_
    · intro w hSw
      go_simp
      first | done | with_reducible rfl
    try simp only [Act.put, List.setIfInBounds_toArray, List.set_cons_zero, List.set_cons_succ]
    refine wpAnyH_take (i := 9) (oi := { dst := some 35, op := Op.move (Operand.tmp 34), type := 4, pos := "ip4.go:82", after := #[{ on := 8, ground := Ground.data }, { on := 3, ground := Ground.chain }], guard := none }) (v := .bool false) rfl (by kernel_rfl) (by kernel_rfl) (by kernel_rfl) (fun _ _ _ h => h) (Or.inl ⟨by rfl, ?_⟩) (by assumption) ?_
    · intro w hSw
      go_simp
      first | done | with_reducible rfl
    try simp only [Act.put, List.setIfInBounds_toArray, List.set_cons_zero, List.set_cons_succ]
    refine wpAnyH_take (i := 10) (oi := { dst := some 36, op := Op.move (Operand.tmp 0), type := 102, pos := "ip4.go:82", after := #[{ on := 9, ground := Ground.guard }], guard := some (9, true) }) (v := undef) rfl (by kernel_rfl) (by kernel_rfl) (by kernel_rfl) (fun _ _ _ h => h) (Or.inr ⟨by rfl, rfl⟩) (by assumption) ?_
    try simp only [Act.put, List.setIfInBounds_toArray, List.set_cons_zero, List.set_cons_succ]
    refine wpAnyH_take (i := 11) (oi := { dst := some 37, op := Op.call { callee := Callee.value (Operand.func 57), args := #[Operand.tmp 36], argTypes := #[102] }, type := 3, pos := "ip4.go:82", after := #[{ on := 10, ground := Ground.data }, { on := 9, ground := Ground.chain }, { on := 9, ground := Ground.guard }], guard := some (9, true) }) (v := undef) rfl (by kernel_rfl) (by kernel_rfl) (by kernel_rfl) (fun _ _ _ h => h) (Or.inr ⟨by rfl, rfl⟩) (by assumption) ?_
    try simp only [Act.put, List.setIfInBounds_toArray, List.set_cons_zero, List.set_cons_succ]
    refine wpAnyH_take (i := 12) (oi := { dst := some 38, op := Op.load 9 (Operand.tmp 1), type := 9, pos := "ip4.go:82", after := #[{ on := 9, ground := Ground.guard }], guard := some (9, true) }) (v := undef) rfl (by kernel_rfl) (by kernel_rfl) (by kernel_rfl) (fun _ _ _ h => h) (Or.inr ⟨by rfl, rfl⟩) (by assumption) ?_
    try simp only [Act.put, List.setIfInBounds_toArray, List.set_cons_zero, List.set_cons_succ]
    refine wpAnyH_take (i := 13) (oi := { dst := some 39, op := Op.call { callee := Callee.builtin Builtin.len, args := #[Operand.tmp 38], argTypes := #[9] }, type := 3, pos := "ip4.go:82", after := #[{ on := 12, ground := Ground.data }, { on := 9, ground := Ground.guard }], guard := some (9, true) }) (v := undef) rfl (by kernel_rfl) (by kernel_rfl) (by kernel_rfl) (fun _ _ _ h => h) (Or.inr ⟨by rfl, rfl⟩) (by assumption) ?_
    try simp only [Act.put, List.setIfInBounds_toArray, List.set_cons_zero, List.set_cons_succ]
    refine wpAnyH_take (i := 14) (oi := { dst := some 40, op := Op.binOp BinOp.eql 3 (Operand.tmp 37) (Operand.tmp 39) 3, type := 4, pos := "ip4.go:82", after := #[{ on := 11, ground := Ground.data }, { on := 13, ground := Ground.data }, { on := 9, ground := Ground.guard }], guard := some (9, true) }) (v := undef) rfl (by kernel_rfl) (by kernel_rfl) (by kernel_rfl) (fun _ _ _ h => h) (Or.inr ⟨by rfl, rfl⟩) (by assumption) ?_
    try simp only [Act.put, List.setIfInBounds_toArray, List.set_cons_zero, List.set_cons_succ]
    refine wpAnyH_take (i := 15) (oi := { dst := some 41, op := Op.pick (Operand.tmp 35) (Operand.tmp 40) (Operand.const (Value.bool false)), type := 4, pos := "ip4.go:82", after := #[{ on := 9, ground := Ground.data }, { on := 14, ground := Ground.data }], guard := none }) (v := .bool false) rfl (by kernel_rfl) (by kernel_rfl) (by kernel_rfl) (fun _ _ _ h => h) (Or.inl ⟨by rfl, ?_⟩) (by assumption) ?_
    · intro w hSw
      go_simp
      first | done | with_reducible rfl
    try simp only [Act.put, List.setIfInBounds_toArray, List.set_cons_zero, List.set_cons_succ]
    refine wpAnyH_ready (rs := [16]) (by kernel_rfl) (by simp) ?_
    refine AllReadyH.cons (o := { dst := some 42, op := Op.call { callee := Callee.value (Operand.func 55), args := #[Operand.tmp 26, Operand.tmp 41, Operand.const (Value.int IntKind.i64 4)], argTypes := #[102, 4, 28] }, type := 0, pos := "ip4.go:82", after := #[{ on := 0, ground := Ground.data }, { on := 15, ground := Ground.data }, { on := 11, ground := Ground.chain }], guard := none }) rfl (fun K hK => ?_) AllReadyH.nil
    go_simp
    (go_at_call 55; (with_reducible refine (need_noI _ 4 4 rfl _).mono ?_); rintro e w9 ⟨rfl, rfl⟩)
    exact ⟨rfl, .inl ⟨4, hE.out, rfl, G2.out.sv.drew⟩⟩
  have e10 : (n : Int) ≤ (s.size : Int) := by omega
  have e11 : decide ((n : Int) ≤ (s.size : Int)) = true := decide_eq_true e10
  obtain ⟨t, ht⟩ : ∃ v, v = bv ((L.drop 2).take 2) := ⟨_, rfl⟩
  have UT : Hid (Calls Try.prog 57 #[.pointer (some ⟨b, 0, none⟩)] W2.drew fun e w' => e = .returned (.int .i64 (t : Nat)) ∧ Rl b s (L.drop 4) w' ∧ But b W2.drew w') := Lib.hid (by have := u16_l b s (L.drop 2) W2.drew G2.out.drew.rd (by simp only [List.length_drop]; omega) hmx; rw [← ht, List.drop_drop] at this; exact this)
  by_cases e12 : t = s.size
  rotate_left
  · have hE : Hid (getE L = .error 4) := Lib.hid (by unfold getE; rw [if_neg e1, ← HQ.out, if_neg (by omega), ← HN.out, if_pos (.inr (.inr (by rw [← ht, hLs]; exact e12)))])
    have e13 : ((t : Int) == (s.size : Int)) = false := by rw [beq_eq_false_iff_ne]; omega
    have HT := Lib.hid ht
    clear ht
    refine wp_region_held_drew (S := fun V => V.heap[P]? = some (.cells #[.string s] 9 (0, 0))) (by kernel_rfl) G2.out.hP (fun hHeld => ?_)
    refine wpAnyH_take (i := 0) (oi := { dst := some 26, op := Op.move (Operand.tmp 0), type := 102, pos := "ip4.go:82", after := #[], guard := none }) (v := ?_) rfl (by kernel_rfl) (by kernel_rfl) (by kernel_rfl) (fun _ _ _ h => h) (Or.inl ⟨by rfl, ?_⟩) (by assumption) ?_
    rotate_left 1
    · intro w hSw
      go_simp
      first | done | with_reducible rfl
    try simp only [Act.put, List.setIfInBounds_toArray, List.set_cons_zero, List.set_cons_succ]
    refine wpAnyH_take (i := 1) (oi := { dst := some 27, op := Op.move (Operand.tmp 6), type := 3, pos := "ip4.go:82", after := #[], guard := none }) (v := ?_) rfl (by kernel_rfl) (by kernel_rfl) (by kernel_rfl) (fun _ _ _ h => h) (Or.inl ⟨by rfl, ?_⟩) (by assumption) ?_
    rotate_left 1
    · intro w hSw
      go_simp
      first | done | with_reducible rfl
    try simp only [Act.put, List.setIfInBounds_toArray, List.set_cons_zero, List.set_cons_succ]
    refine wpAnyH_take (i := 2) (oi := { dst := some 28, op := Op.binOp BinOp.geq 3 (Operand.tmp 27) (Operand.const (Value.int IntKind.i64 20)) 3, type := 4, pos := "ip4.go:82", after := #[{ on := 1, ground := Ground.data }], guard := none }) (v := .bool true) rfl (by kernel_rfl) (by kernel_rfl) (by kernel_rfl) (fun _ _ _ h => h) (Or.inl ⟨by rfl, ?_⟩) (by assumption) ?_
    · intro w hSw
      go_simp
      first | done | with_reducible rfl
    try simp only [Act.put, List.setIfInBounds_toArray, List.set_cons_zero, List.set_cons_succ]
    refine wpAnyH_take (i := 3) (oi := { dst := some 29, op := Op.move (Operand.tmp 28), type := 4, pos := "ip4.go:82", after := #[{ on := 2, ground := Ground.data }], guard := none }) (v := .bool true) rfl (by kernel_rfl) (by kernel_rfl) (by kernel_rfl) (fun _ _ _ h => h) (Or.inl ⟨by rfl, ?_⟩) (by assumption) ?_
    · intro w hSw
      go_simp
      first | done | with_reducible rfl
    try simp only [Act.put, List.setIfInBounds_toArray, List.set_cons_zero, List.set_cons_succ]
    refine wpAnyH_take (i := 4) (oi := { dst := some 30, op := Op.move (Operand.tmp 6), type := 3, pos := "ip4.go:82", after := #[{ on := 3, ground := Ground.guard }], guard := some (3, true) }) (v := ?_) rfl (by kernel_rfl) (by kernel_rfl) (by kernel_rfl) (fun _ _ _ h => h) (Or.inl ⟨by rfl, ?_⟩) (by assumption) ?_
    rotate_left 1
    · intro w hSw
      go_simp
      first | done | with_reducible rfl
    try simp only [Act.put, List.setIfInBounds_toArray, List.set_cons_zero, List.set_cons_succ]
    refine wpAnyH_take (i := 5) (oi := { dst := some 31, op := Op.load 9 (Operand.tmp 1), type := 9, pos := "ip4.go:82", after := #[{ on := 3, ground := Ground.guard }], guard := some (3, true) }) (v := ?_) rfl (by kernel_rfl) (by kernel_rfl) (by kernel_rfl) (fun _ _ _ h => h) (Or.inl ⟨by rfl, ?_⟩) (by assumption) ?_
    rotate_left 1
    · intro w hSw
      have q0 := cellAt (i := 0) (v := .string s) hSw rfl
      go_simp
      first | done | with_reducible rfl
    try simp only [Act.put, List.setIfInBounds_toArray, List.set_cons_zero, List.set_cons_succ]
    refine wpAnyH_take (i := 6) (oi := { dst := some 32, op := Op.call { callee := Callee.builtin Builtin.len, args := #[Operand.tmp 31], argTypes := #[9] }, type := 3, pos := "ip4.go:82", after := #[{ on := 5, ground := Ground.data }, { on := 3, ground := Ground.guard }], guard := some (3, true) }) (v := ?_) rfl (by kernel_rfl) (by kernel_rfl) (by kernel_rfl) (fun _ _ _ h => h) (Or.inl ⟨by rfl, ?_⟩) (by assumption) ?_
    rotate_left 1
    · intro w hSw
      go_simp
      first | done | with_reducible rfl
    try simp only [Act.put, List.setIfInBounds_toArray, List.set_cons_zero, List.set_cons_succ]
    refine wpAnyH_take (i := 7) (oi := { dst := some 33, op := Op.binOp BinOp.leq 3 (Operand.tmp 30) (Operand.tmp 32) 3, type := 4, pos := "ip4.go:82", after := #[{ on := 4, ground := Ground.data }, { on := 6, ground := Ground.data }, { on := 3, ground := Ground.guard }], guard := some (3, true) }) (v := .bool true) rfl (by kernel_rfl) (by kernel_rfl) (by kernel_rfl) (fun _ _ _ h => h) (Or.inl ⟨by rfl, ?_⟩) (by assumption) ?_
    · intro w hSw
      go_simp
      first | done | with_reducible rfl
    try simp only [Act.put, List.setIfInBounds_toArray, List.set_cons_zero, List.set_cons_succ]
    refine wpAnyH_take (i := 8) (oi := { dst := some 34, op := Op.pick (Operand.tmp 29) (Operand.tmp 33) (Operand.const (Value.bool false)), type := 4, pos := "ip4.go:82", after := #[{ on := 3, ground := Ground.data }, { on := 7, ground := Ground.data }], guard := none }) (v := .bool true) rfl (by kernel_rfl) (by kernel_rfl) (by kernel_rfl) (fun _ _ _ h => h) (Or.inl ⟨by rfl, ?_⟩) (by assumption) ?_
    · intro w hSw
      go_simp
      first | done | with_reducible rfl
    try simp only [Act.put, List.setIfInBounds_toArray, List.set_cons_zero, List.set_cons_succ]
    refine wpAnyH_take (i := 9) (oi := { dst := some 35, op := Op.move (Operand.tmp 34), type := 4, pos := "ip4.go:82", after := #[{ on := 8, ground := Ground.data }, { on := 3, ground := Ground.chain }], guard := none }) (v := .bool true) rfl (by kernel_rfl) (by kernel_rfl) (by kernel_rfl) (fun _ _ _ h => h) (Or.inl ⟨by rfl, ?_⟩) (by assumption) ?_
    · intro w hSw
      go_simp
      first | done | with_reducible rfl
    try simp only [Act.put, List.setIfInBounds_toArray, List.set_cons_zero, List.set_cons_succ]
    refine wpAnyH_take (i := 10) (oi := { dst := some 36, op := Op.move (Operand.tmp 0), type := 102, pos := "ip4.go:82", after := #[{ on := 9, ground := Ground.guard }], guard := some (9, true) }) (v := ?_) rfl (by kernel_rfl) (by kernel_rfl) (by kernel_rfl) (fun _ _ _ h => h) (Or.inl ⟨by rfl, ?_⟩) (by assumption) ?_
    rotate_left 1
    · intro w hSw
      go_simp
      first | done | with_reducible rfl
    try simp only [Act.put, List.setIfInBounds_toArray, List.set_cons_zero, List.set_cons_succ]
    refine wpAnyH_take (i := 12) (oi := { dst := some 38, op := Op.load 9 (Operand.tmp 1), type := 9, pos := "ip4.go:82", after := #[{ on := 9, ground := Ground.guard }], guard := some (9, true) }) (v := ?_) rfl (by kernel_rfl) (by kernel_rfl) (by kernel_rfl) (fun _ _ _ h => h) (Or.inl ⟨by rfl, ?_⟩) (by assumption) ?_
    rotate_left 1
    · intro w hSw
      have q0 := cellAt (i := 0) (v := .string s) hSw rfl
      go_simp
      first | done | with_reducible rfl
    try simp only [Act.put, List.setIfInBounds_toArray, List.set_cons_zero, List.set_cons_succ]
    refine wpAnyH_take (i := 13) (oi := { dst := some 39, op := Op.call { callee := Callee.builtin Builtin.len, args := #[Operand.tmp 38], argTypes := #[9] }, type := 3, pos := "ip4.go:82", after := #[{ on := 12, ground := Ground.data }, { on := 9, ground := Ground.guard }], guard := some (9, true) }) (v := ?_) rfl (by kernel_rfl) (by kernel_rfl) (by kernel_rfl) (fun _ _ _ h => h) (Or.inl ⟨by rfl, ?_⟩) (by assumption) ?_
    rotate_left 1
    · intro w hSw
      go_simp
      first | done | with_reducible rfl
    try simp only [Act.put, List.setIfInBounds_toArray, List.set_cons_zero, List.set_cons_succ]
    refine wpAnyH_ready (rs := [11]) (by kernel_rfl) (by simp) ?_
    refine AllReadyH.cons (o := { dst := some 37, op := Op.call { callee := Callee.value (Operand.func 57), args := #[Operand.tmp 36], argTypes := #[102] }, type := 3, pos := "ip4.go:82", after := #[{ on := 10, ground := Ground.data }, { on := 9, ground := Ground.chain }, { on := 9, ground := Ground.guard }], guard := some (9, true) }) rfl (fun K hK => ?_) AllReadyH.nil
    go_simp
    (go_at_call 57; (with_reducible refine UT.out.mono ?_); rintro e w5 ⟨rfl, hr5, hb5⟩; have G3 := Lib.hid (G2.out.drew.but hb5 hr5); clear hr5 hb5)
    go_simp
    refine hK.out _ _ G3.out.hP (fun hHeld => ?_)
    clear hK K
    try simp only [Act.put, List.setIfInBounds_toArray, List.set_cons_zero, List.set_cons_succ]
    refine wpAnyH_take (i := 14) (oi := { dst := some 40, op := Op.binOp BinOp.eql 3 (Operand.tmp 37) (Operand.tmp 39) 3, type := 4, pos := "ip4.go:82", after := #[{ on := 11, ground := Ground.data }, { on := 13, ground := Ground.data }, { on := 9, ground := Ground.guard }], guard := some (9, true) }) (v := .bool false) rfl (by kernel_rfl) (by kernel_rfl) (by kernel_rfl) (fun _ _ _ h => h) (Or.inl ⟨by rfl, ?_⟩) (by assumption) ?_
    · intro w hSw
      go_simp
      first | done | with_reducible rfl
    try simp only [Act.put, List.setIfInBounds_toArray, List.set_cons_zero, List.set_cons_succ]
    refine wpAnyH_take (i := 15) (oi := { dst := some 41, op := Op.pick (Operand.tmp 35) (Operand.tmp 40) (Operand.const (Value.bool false)), type := 4, pos := "ip4.go:82", after := #[{ on := 9, ground := Ground.data }, { on := 14, ground := Ground.data }], guard := none }) (v := .bool false) rfl (by kernel_rfl) (by kernel_rfl) (by kernel_rfl) (fun _ _ _ h => h) (Or.inl ⟨by rfl, ?_⟩) (by assumption) ?_
    · intro w hSw
      go_simp
      first | done | with_reducible rfl
    try simp only [Act.put, List.setIfInBounds_toArray, List.set_cons_zero, List.set_cons_succ]
    refine wpAnyH_ready (rs := [16]) (by kernel_rfl) (by simp) ?_
    refine AllReadyH.cons (o := { dst := some 42, op := Op.call { callee := Callee.value (Operand.func 55), args := #[Operand.tmp 26, Operand.tmp 41, Operand.const (Value.int IntKind.i64 4)], argTypes := #[102, 4, 28] }, type := 0, pos := "ip4.go:82", after := #[{ on := 0, ground := Ground.data }, { on := 15, ground := Ground.data }, { on := 11, ground := Ground.chain }], guard := none }) rfl (fun K hK => ?_) AllReadyH.nil
    go_simp
    (go_at_call 55; (with_reducible refine (need_noI _ 4 4 rfl _).mono ?_); rintro e w9 ⟨rfl, rfl⟩)
    exact ⟨rfl, .inl ⟨4, hE.out, rfl, G3.out.sv⟩⟩
  have e13 : ((t : Int) == (s.size : Int)) = true := by rw [beq_iff_eq]; omega
  have HT := Lib.hid ht
  clear ht
  refine wp_region_held_drew (S := fun V => V.heap[P]? = some (.cells #[.string s] 9 (0, 0))) (by kernel_rfl) G2.out.hP (fun hHeld => ?_)
  refine wpAnyH_take (i := 0) (oi := { dst := some 26, op := Op.move (Operand.tmp 0), type := 102, pos := "ip4.go:82", after := #[], guard := none }) (v := ?_) rfl (by kernel_rfl) (by kernel_rfl) (by kernel_rfl) (fun _ _ _ h => h) (Or.inl ⟨by rfl, ?_⟩) (by assumption) ?_
  rotate_left 1
  · intro w hSw
    go_simp
    first | done | with_reducible rfl
  try simp only [Act.put, List.setIfInBounds_toArray, List.set_cons_zero, List.set_cons_succ]
  refine wpAnyH_take (i := 1) (oi := { dst := some 27, op := Op.move (Operand.tmp 6), type := 3, pos := "ip4.go:82", after := #[], guard := none }) (v := ?_) rfl (by kernel_rfl) (by kernel_rfl) (by kernel_rfl) (fun _ _ _ h => h) (Or.inl ⟨by rfl, ?_⟩) (by assumption) ?_
  rotate_left 1
  · intro w hSw
    go_simp
    first | done | with_reducible rfl
  try simp only [Act.put, List.setIfInBounds_toArray, List.set_cons_zero, List.set_cons_succ]
  refine wpAnyH_take (i := 2) (oi := { dst := some 28, op := Op.binOp BinOp.geq 3 (Operand.tmp 27) (Operand.const (Value.int IntKind.i64 20)) 3, type := 4, pos := "ip4.go:82", after := #[{ on := 1, ground := Ground.data }], guard := none }) (v := .bool true) rfl (by kernel_rfl) (by kernel_rfl) (by kernel_rfl) (fun _ _ _ h => h) (Or.inl ⟨by rfl, ?_⟩) (by assumption) ?_
  · intro w hSw
    go_simp
    first | done | with_reducible rfl
  try simp only [Act.put, List.setIfInBounds_toArray, List.set_cons_zero, List.set_cons_succ]
  refine wpAnyH_take (i := 3) (oi := { dst := some 29, op := Op.move (Operand.tmp 28), type := 4, pos := "ip4.go:82", after := #[{ on := 2, ground := Ground.data }], guard := none }) (v := .bool true) rfl (by kernel_rfl) (by kernel_rfl) (by kernel_rfl) (fun _ _ _ h => h) (Or.inl ⟨by rfl, ?_⟩) (by assumption) ?_
  · intro w hSw
    go_simp
    first | done | with_reducible rfl
  try simp only [Act.put, List.setIfInBounds_toArray, List.set_cons_zero, List.set_cons_succ]
  refine wpAnyH_take (i := 4) (oi := { dst := some 30, op := Op.move (Operand.tmp 6), type := 3, pos := "ip4.go:82", after := #[{ on := 3, ground := Ground.guard }], guard := some (3, true) }) (v := ?_) rfl (by kernel_rfl) (by kernel_rfl) (by kernel_rfl) (fun _ _ _ h => h) (Or.inl ⟨by rfl, ?_⟩) (by assumption) ?_
  rotate_left 1
  · intro w hSw
    go_simp
    first | done | with_reducible rfl
  try simp only [Act.put, List.setIfInBounds_toArray, List.set_cons_zero, List.set_cons_succ]
  refine wpAnyH_take (i := 5) (oi := { dst := some 31, op := Op.load 9 (Operand.tmp 1), type := 9, pos := "ip4.go:82", after := #[{ on := 3, ground := Ground.guard }], guard := some (3, true) }) (v := ?_) rfl (by kernel_rfl) (by kernel_rfl) (by kernel_rfl) (fun _ _ _ h => h) (Or.inl ⟨by rfl, ?_⟩) (by assumption) ?_
  rotate_left 1
  · intro w hSw
    have q0 := cellAt (i := 0) (v := .string s) hSw rfl
    go_simp
    first | done | with_reducible rfl
  try simp only [Act.put, List.setIfInBounds_toArray, List.set_cons_zero, List.set_cons_succ]
  refine wpAnyH_take (i := 6) (oi := { dst := some 32, op := Op.call { callee := Callee.builtin Builtin.len, args := #[Operand.tmp 31], argTypes := #[9] }, type := 3, pos := "ip4.go:82", after := #[{ on := 5, ground := Ground.data }, { on := 3, ground := Ground.guard }], guard := some (3, true) }) (v := ?_) rfl (by kernel_rfl) (by kernel_rfl) (by kernel_rfl) (fun _ _ _ h => h) (Or.inl ⟨by rfl, ?_⟩) (by assumption) ?_
  rotate_left 1
  · intro w hSw
    go_simp
    first | done | with_reducible rfl
  try simp only [Act.put, List.setIfInBounds_toArray, List.set_cons_zero, List.set_cons_succ]
  refine wpAnyH_take (i := 7) (oi := { dst := some 33, op := Op.binOp BinOp.leq 3 (Operand.tmp 30) (Operand.tmp 32) 3, type := 4, pos := "ip4.go:82", after := #[{ on := 4, ground := Ground.data }, { on := 6, ground := Ground.data }, { on := 3, ground := Ground.guard }], guard := some (3, true) }) (v := .bool true) rfl (by kernel_rfl) (by kernel_rfl) (by kernel_rfl) (fun _ _ _ h => h) (Or.inl ⟨by rfl, ?_⟩) (by assumption) ?_
  · intro w hSw
    go_simp
    first | done | with_reducible rfl
  try simp only [Act.put, List.setIfInBounds_toArray, List.set_cons_zero, List.set_cons_succ]
  refine wpAnyH_take (i := 8) (oi := { dst := some 34, op := Op.pick (Operand.tmp 29) (Operand.tmp 33) (Operand.const (Value.bool false)), type := 4, pos := "ip4.go:82", after := #[{ on := 3, ground := Ground.data }, { on := 7, ground := Ground.data }], guard := none }) (v := .bool true) rfl (by kernel_rfl) (by kernel_rfl) (by kernel_rfl) (fun _ _ _ h => h) (Or.inl ⟨by rfl, ?_⟩) (by assumption) ?_
  · intro w hSw
    go_simp
    first | done | with_reducible rfl
  try simp only [Act.put, List.setIfInBounds_toArray, List.set_cons_zero, List.set_cons_succ]
  refine wpAnyH_take (i := 9) (oi := { dst := some 35, op := Op.move (Operand.tmp 34), type := 4, pos := "ip4.go:82", after := #[{ on := 8, ground := Ground.data }, { on := 3, ground := Ground.chain }], guard := none }) (v := .bool true) rfl (by kernel_rfl) (by kernel_rfl) (by kernel_rfl) (fun _ _ _ h => h) (Or.inl ⟨by rfl, ?_⟩) (by assumption) ?_
  · intro w hSw
    go_simp
    first | done | with_reducible rfl
  try simp only [Act.put, List.setIfInBounds_toArray, List.set_cons_zero, List.set_cons_succ]
  refine wpAnyH_take (i := 10) (oi := { dst := some 36, op := Op.move (Operand.tmp 0), type := 102, pos := "ip4.go:82", after := #[{ on := 9, ground := Ground.guard }], guard := some (9, true) }) (v := ?_) rfl (by kernel_rfl) (by kernel_rfl) (by kernel_rfl) (fun _ _ _ h => h) (Or.inl ⟨by rfl, ?_⟩) (by assumption) ?_
  rotate_left 1
  · intro w hSw
    go_simp
    first | done | with_reducible rfl
  try simp only [Act.put, List.setIfInBounds_toArray, List.set_cons_zero, List.set_cons_succ]
  refine wpAnyH_take (i := 12) (oi := { dst := some 38, op := Op.load 9 (Operand.tmp 1), type := 9, pos := "ip4.go:82", after := #[{ on := 9, ground := Ground.guard }], guard := some (9, true) }) (v := ?_) rfl (by kernel_rfl) (by kernel_rfl) (by kernel_rfl) (fun _ _ _ h => h) (Or.inl ⟨by rfl, ?_⟩) (by assumption) ?_
  rotate_left 1
  · intro w hSw
    have q0 := cellAt (i := 0) (v := .string s) hSw rfl
    go_simp
    first | done | with_reducible rfl
  try simp only [Act.put, List.setIfInBounds_toArray, List.set_cons_zero, List.set_cons_succ]
  refine wpAnyH_take (i := 13) (oi := { dst := some 39, op := Op.call { callee := Callee.builtin Builtin.len, args := #[Operand.tmp 38], argTypes := #[9] }, type := 3, pos := "ip4.go:82", after := #[{ on := 12, ground := Ground.data }, { on := 9, ground := Ground.guard }], guard := some (9, true) }) (v := ?_) rfl (by kernel_rfl) (by kernel_rfl) (by kernel_rfl) (fun _ _ _ h => h) (Or.inl ⟨by rfl, ?_⟩) (by assumption) ?_
  rotate_left 1
  · intro w hSw
    go_simp
    first | done | with_reducible rfl
  try simp only [Act.put, List.setIfInBounds_toArray, List.set_cons_zero, List.set_cons_succ]
  refine wpAnyH_ready (rs := [11]) (by kernel_rfl) (by simp) ?_
  refine AllReadyH.cons (o := { dst := some 37, op := Op.call { callee := Callee.value (Operand.func 57), args := #[Operand.tmp 36], argTypes := #[102] }, type := 3, pos := "ip4.go:82", after := #[{ on := 10, ground := Ground.data }, { on := 9, ground := Ground.chain }, { on := 9, ground := Ground.guard }], guard := some (9, true) }) rfl (fun K hK => ?_) AllReadyH.nil
  go_simp
  (go_at_call 57; (with_reducible refine UT.out.mono ?_); rintro e w5 ⟨rfl, hr5, hb5⟩; have G3 := Lib.hid (G2.out.drew.but hb5 hr5); clear hr5 hb5)
  go_simp
  refine hK.out _ _ G3.out.hP (fun hHeld => ?_)
  clear hK K
  try simp only [Act.put, List.setIfInBounds_toArray, List.set_cons_zero, List.set_cons_succ]
  refine wpAnyH_take (i := 14) (oi := { dst := some 40, op := Op.binOp BinOp.eql 3 (Operand.tmp 37) (Operand.tmp 39) 3, type := 4, pos := "ip4.go:82", after := #[{ on := 11, ground := Ground.data }, { on := 13, ground := Ground.data }, { on := 9, ground := Ground.guard }], guard := some (9, true) }) (v := .bool true) rfl (by kernel_rfl) (by kernel_rfl) (by kernel_rfl) (fun _ _ _ h => h) (Or.inl ⟨by rfl, ?_⟩) (by assumption) ?_
  · intro w hSw
    go_simp
    first | done | with_reducible rfl
  try simp only [Act.put, List.setIfInBounds_toArray, List.set_cons_zero, List.set_cons_succ]
  refine wpAnyH_take (i := 15) (oi := { dst := some 41, op := Op.pick (Operand.tmp 35) (Operand.tmp 40) (Operand.const (Value.bool false)), type := 4, pos := "ip4.go:82", after := #[{ on := 9, ground := Ground.data }, { on := 14, ground := Ground.data }], guard := none }) (v := .bool true) rfl (by kernel_rfl) (by kernel_rfl) (by kernel_rfl) (fun _ _ _ h => h) (Or.inl ⟨by rfl, ?_⟩) (by assumption) ?_
  · intro w hSw
    go_simp
    first | done | with_reducible rfl
  try simp only [Act.put, List.setIfInBounds_toArray, List.set_cons_zero, List.set_cons_succ]
  refine wpAnyH_ready (rs := [16]) (by kernel_rfl) (by simp) ?_
  refine AllReadyH.cons (o := { dst := some 42, op := Op.call { callee := Callee.value (Operand.func 55), args := #[Operand.tmp 26, Operand.tmp 41, Operand.const (Value.int IntKind.i64 4)], argTypes := #[102, 4, 28] }, type := 0, pos := "ip4.go:82", after := #[{ on := 0, ground := Ground.data }, { on := 15, ground := Ground.data }, { on := 11, ground := Ground.chain }], guard := none }) rfl (fun K hK => ?_) AllReadyH.nil
  go_simp
  (go_at_call 55; (with_reducible refine (need_yes _ _ _).mono ?_); rintro e w9 ⟨rfl, hw9⟩; replace hw9 := hw9.symm; subst hw9)
  go_simp
  refine hK.out _ _ hHeld (fun hHeld => ?_)
  clear hK K
  try simp only [Act.put, List.setIfInBounds_toArray, List.set_cons_zero, List.set_cons_succ]
  refine wpAnyH_done (by kernel_rfl) ?_ _
  simp only [Exit.then]
  clear hHeld e3 e5 e7 e11
  obtain ⟨x, hx⟩ : ∃ x, x = s.extract 0 n := ⟨_, rfl⟩
  have hxl : x.data.toList = L.take n := by rw [hx, ext_list, ← HL.out, List.drop_zero, Nat.sub_zero]
  have hxs : x.size ≤ 1000000 := by rw [hx, ByteArray.size_extract]; have := HN.out; omega
  obtain ⟨rb, hrb⟩ : ∃ r, r = decide (sm (L.take n) = 0) := ⟨_, rfl⟩
  have RT : Hid (∀ V g, V.heap[g]? = some (.cells #[.string (s.extract 0 n)] 9 (0, 0)) → Calls Try.prog 58 #[.slice (some ⟨g, 0, none⟩) 1 1] V fun e w' => e = .returned (.bool rb) ∧ Below V.heap.size V w') := Lib.hid (fun V g hg => by rw [← hx] at hg; exact right_one g x V hg hxs rb (by rw [hrb, hxl]))
  have k0 := cellAt (i := 0) (v := .string s) G3.out.hP rfl
  have n0 : (0 : Int) ≤ (n : Int) := by omega
  have n1 : (n : Int).toNat = n := by omega
  have n2 : n ≤ s.size := by omega
  clear hx hxl hxs
  cases rb with
  | false =>
    have hE : Hid (getE L = .error 5) := Lib.hid (by unfold getE; rw [if_neg e1, ← HQ.out, if_neg (by omega), ← HN.out, if_neg (by rw [← HT.out, hLs]; omega), if_pos (by have := hrb.symm; simpa using this)])
    clear hrb
    go_wp2_with (first | (go_at_call 58; (with_reducible refine (RT.out _ _ (alloc_new _ _)).mono ?_); rintro e w6 ⟨rfl, hb6⟩) | (go_at_call 55; (with_reducible refine (need_noI _ 5 5 rfl _).mono ?_); rintro e w9 ⟨rfl, rfl⟩))
    exact ⟨rfl, .inl ⟨5, hE.out, rfl, ((G3.out.below ((Below.refl _ _).alloc (Nat.le_refl _) _)).below hb6).sv⟩⟩
  | true =>
  have HSM : Hid (sm (L.take n) = 0) := Lib.hid (by have := hrb.symm; simpa using this)
  clear hrb
  go_upto_region 7 with (first | (go_at_call 58; (with_reducible refine (RT.out _ _ (alloc_new _ _)).mono ?_); rintro e w6 ⟨rfl, hb6⟩; have G4 := Lib.hid ((G3.out.below ((Below.refl _ _).alloc (Nat.le_refl _) _)).below hb6); clear hb6) | (go_at_call 55; (with_reducible refine (need_yes _ _ _).mono ?_); rintro e w9 ⟨rfl, hw9⟩; replace hw9 := hw9.symm; subst hw9))
  clear RT k0 n0 n1
  obtain ⟨id, hid⟩ : ∃ v, v = bv ((L.drop 4).take 2) := ⟨_, rfl⟩
  have U2 : Hid (∀ V, Rl b s (L.drop 4) V → Calls Try.prog 57 #[.pointer (some ⟨b, 0, none⟩)] V fun e w' => e = .returned (.int .i64 (id : Nat)) ∧ Rl b s (L.drop 6) w' ∧ But b V w') := Lib.hid (fun V hV => by have := u16_l b s (L.drop 4) V hV (by simp only [List.length_drop]; omega) hmx; rw [← hid, List.drop_drop] at this; exact this)
  have HID := Lib.hid hid
  obtain ⟨fl, hfl⟩ : ∃ v, v = bv ((L.drop 6).take 2) := ⟨_, rfl⟩
  have U3 : Hid (∀ V, Rl b s (L.drop 6) V → Calls Try.prog 57 #[.pointer (some ⟨b, 0, none⟩)] V fun e w' => e = .returned (.int .i64 (fl : Nat)) ∧ Rl b s (L.drop 8) w' ∧ But b V w') := Lib.hid (fun V hV => by have := u16_l b s (L.drop 6) V hV (by simp only [List.length_drop]; omega) hmx; rw [← hfl, List.drop_drop] at this; exact this)
  have HFL := Lib.hid hfl
  have fll : fl < 65536 := by rw [hfl]; exact bv_tk2 _
  clear hid hfl
  go_upto_region 8 with (go_at_call 57; (with_reducible refine (U2.out _ G4.out.rd).mono ?_); rintro e w7 ⟨rfl, hr1, hb1⟩; have G5a := Lib.hid (G4.out.but hb1 hr1); clear hr1 hb1; have k1 := cellAt (i := 1) (v := .int .i64 0) G5a.out.hH rfl; have f1 := Lib.frozen_of_heap G5a.out.hH 1)
  obtain ⟨W7, hW7⟩ : ∃ W, W = w7.setCell ⟨H, 1, none⟩ (.int .i64 (id : Nat)) := ⟨_, rfl⟩
  have G5 : Hid (GSt b P H Y s (L.drop 6) #[.int .i64 (tos : Nat), .int .i64 (id : Nat), .int .i64 0, .int .i64 0, .int .i64 0, .bool false, .bool false, .string ⟨#[]⟩, .string ⟨#[]⟩, .string ⟨#[]⟩] w W7) := Lib.hid (by rw [hW7]; exact G5a.out.set 1 (show 1 < 10 by decide) _ rfl)
  rw [← hW7]
  clear hW7 k1 f1 G5a
  obtain ⟨q15, hq15⟩ : ∃ q, q = fl / 32768 := ⟨_, rfl⟩
  have i15 : (fl : Int) / 32768 = (q15 : Int) := by omega
  by_cases e14 : q15 = 0
  rotate_left
  · have hE : Hid (getE L = .error 9) := Lib.hid (by unfold getE; rw [if_neg e1, ← HQ.out, if_neg (by omega), ← HN.out, if_neg (by rw [← HT.out, hLs]; omega), if_neg (by rw [HSM.out]; simp), if_pos (by rw [← HFL.out]; omega)])
    have e15 : ((q15 : Int) == 0) = false := by rw [beq_eq_false_iff_ne]; omega
    clear hq15
    go_wp2_with (first | (go_at_call 57; (with_reducible refine (U3.out _ G5.out.rd).mono ?_); rintro e w8 ⟨rfl, hr1, hb1⟩; have G6 := Lib.hid (G5.out.but hb1 hr1); clear hr1 hb1) | (go_at_call 55; (with_reducible refine (need_noI _ 9 9 rfl _).mono ?_); rintro e w9 ⟨rfl, rfl⟩))
    exact ⟨rfl, .inl ⟨9, hE.out, rfl, G6.out.sv⟩⟩
  have hE : Hid (getE L = .ok (hdG L n fl, L.drop n)) := Lib.hid (by unfold getE; rw [if_neg e1, ← HQ.out, if_neg (by omega), ← HN.out, if_neg (by rw [← HT.out, hLs]; omega), if_neg (by rw [HSM.out]; simp), if_neg (by rw [← HFL.out]; omega), ← HFL.out])
  have e15 : ((q15 : Int) == 0) = true := by rw [beq_iff_eq]; omega
  clear hq15
  go_upto_region 10 with (first | (go_at_call 57; (with_reducible refine (U3.out _ G5.out.rd).mono ?_); rintro e w8 ⟨rfl, hr1, hb1⟩; have G6 := Lib.hid (G5.out.but hb1 hr1); clear hr1 hb1) | (go_at_call 55; (with_reducible refine (need_yes _ _ _).mono ?_); rintro e w9 ⟨rfl, hw9⟩; replace hw9 := hw9.symm; subst hw9))
  clear e15 i15
  obtain ⟨q14, hq14⟩ : ∃ q, q = fl / 16384 := ⟨_, rfl⟩
  obtain ⟨q13, hq13⟩ : ∃ q, q = fl / 8192 := ⟨_, rfl⟩
  have i14 : (fl : Int) / 16384 = (q14 : Int) := by omega
  have i13 : (fl : Int) / 8192 = (q13 : Int) := by omega
  obtain ⟨r14, hr14⟩ : ∃ q, q = q14 % 2 := ⟨_, rfl⟩
  obtain ⟨r13, hr13⟩ : ∃ q, q = q13 % 2 := ⟨_, rfl⟩
  obtain ⟨off, hoff⟩ : ∃ q, q = fl % 8192 := ⟨_, rfl⟩
  have j14 : bits .and .i64 (q14 : Int) 1 = (r14 : Int) := by rw [hr14]; exact i64_mask1 q14 (by omega)
  have j13 : bits .and .i64 (q13 : Int) 1 = (r13 : Int) := by rw [hr13]; exact i64_mask1 q13 (by omega)
  have joff : bits .and .i64 (fl : Int) 8191 = (off : Int) := by rw [hoff]; exact i64_mask13 fl (by omega)
  obtain ⟨df, hdf⟩ : ∃ b, b = decide (r14 = 1) := ⟨_, rfl⟩
  obtain ⟨mf, hmf⟩ : ∃ b, b = decide (r13 = 1) := ⟨_, rfl⟩
  have l14 : ((r14 : Int) == 1) = df := by rw [hdf, Bool.eq_iff_iff, beq_iff_eq, decide_eq_true_eq]; omega
  have l13 : ((r13 : Int) == 1) = mf := by rw [hmf, Bool.eq_iff_iff, beq_iff_eq, decide_eq_true_eq]; omega
  have HDF : Hid (df = decide (fl / 16384 % 2 = 1)) := Lib.hid (by rw [hdf, hr14, hq14])
  have HMF : Hid (mf = decide (fl / 8192 % 2 = 1)) := Lib.hid (by rw [hmf, hr13, hq13])
  have HOFF := Lib.hid hoff
  have k5 := cellAt (i := 5) (v := .bool false) G6.out.hH rfl
  have k6 := cellAt (i := 6) (v := .bool false) G6.out.hH rfl
  have k2 := cellAt (i := 2) (v := .int .i64 0) G6.out.hH rfl
  have f5 := Lib.frozen_of_heap G6.out.hH 5
  have f6 := Lib.frozen_of_heap G6.out.hH 6
  have f2 := Lib.frozen_of_heap G6.out.hH 2
  clear hq14 hq13 hr14 hr13 hoff hdf hmf
  go_upto_region 11 with (fail)
  obtain ⟨W8, hW8⟩ : ∃ W, W = ((w8.setCell ⟨H, 5, none⟩ (.bool df)).setCell ⟨H, 6, none⟩ (.bool mf)).setCell ⟨H, 2, none⟩ (.int .i64 (off : Nat)) := ⟨_, rfl⟩
  have G7 : Hid (GSt b P H Y s (L.drop 8) #[.int .i64 (tos : Nat), .int .i64 (id : Nat), .int .i64 (off : Nat), .int .i64 0, .int .i64 0, .bool df, .bool mf, .string ⟨#[]⟩, .string ⟨#[]⟩, .string ⟨#[]⟩] w W8) := Lib.hid (by rw [hW8]; exact ((G6.out.set (C' := #[.int .i64 (tos : Nat), .int .i64 (id : Nat), .int .i64 0, .int .i64 0, .int .i64 0, .bool df, .bool false, .string ⟨#[]⟩, .string ⟨#[]⟩, .string ⟨#[]⟩]) 5 (show 5 < 10 by decide) _ rfl).set (C' := #[.int .i64 (tos : Nat), .int .i64 (id : Nat), .int .i64 0, .int .i64 0, .int .i64 0, .bool df, .bool mf, .string ⟨#[]⟩, .string ⟨#[]⟩, .string ⟨#[]⟩]) 6 (show 6 < 10 by decide) _ rfl).set 2 (show 2 < 10 by decide) _ rfl)
  rw [← hW8]
  clear hW8 k5 k6 k2 f5 f6 f2 i14 i13 j14 j13 joff l14 l13
  obtain ⟨ttl, httl⟩ : ∃ v, v = bv ((L.drop 8).take 1) := ⟨_, rfl⟩
  have U4 : Hid (∀ V, Rl b s (L.drop 8) V → Calls Try.prog 56 #[.pointer (some ⟨b, 0, none⟩)] V fun e w' => e = .returned (.int .i64 (ttl : Nat)) ∧ Rl b s (L.drop 9) w' ∧ But b V w') := Lib.hid (fun V hV => by have := u8_l b s (L.drop 8) V hV (by simp only [List.length_drop]; omega) hmx; rw [← httl, List.drop_drop] at this; exact this)
  have HTTL := Lib.hid httl
  obtain ⟨proto, hproto⟩ : ∃ v, v = bv ((L.drop 9).take 1) := ⟨_, rfl⟩
  have U5 : Hid (∀ V, Rl b s (L.drop 9) V → Calls Try.prog 56 #[.pointer (some ⟨b, 0, none⟩)] V fun e w' => e = .returned (.int .i64 (proto : Nat)) ∧ Rl b s (L.drop 10) w' ∧ But b V w') := Lib.hid (fun V hV => by have := u8_l b s (L.drop 9) V hV (by simp only [List.length_drop]; omega) hmx; rw [← hproto, List.drop_drop] at this; exact this)
  have HPROTO := Lib.hid hproto
  obtain ⟨ck, hck⟩ : ∃ v, v = bv ((L.drop 10).take 2) := ⟨_, rfl⟩
  have U6 : Hid (∀ V, Rl b s (L.drop 10) V → Calls Try.prog 57 #[.pointer (some ⟨b, 0, none⟩)] V fun e w' => e = .returned (.int .i64 (ck : Nat)) ∧ Rl b s (L.drop 12) w' ∧ But b V w') := Lib.hid (fun V hV => by have := u16_l b s (L.drop 10) V hV (by simp only [List.length_drop]; omega) hmx; rw [← hck, List.drop_drop] at this; exact this)
  have HCK := Lib.hid hck
  clear httl hproto hck
  go_upto_region 12 with (first | (go_at_call 56; (with_reducible refine (U4.out _ G7.out.rd).mono ?_); rintro e w9 ⟨rfl, hr1, hb1⟩; have G8 := Lib.hid (G7.out.but hb1 hr1); clear hr1 hb1) | (go_at_call 56; (with_reducible refine (U5.out _ G8.out.rd).mono ?_); rintro e w10 ⟨rfl, hr1, hb1⟩; have G9a := Lib.hid (G8.out.but hb1 hr1); clear hr1 hb1; have k3 := cellAt (i := 3) (v := .int .i64 0) G9a.out.hH rfl; have f3 := Lib.frozen_of_heap G9a.out.hH 3; have k4 := cellAt (i := 4) (v := .int .i64 0) G9a.out.hH rfl; have f4 := Lib.frozen_of_heap G9a.out.hH 4))
  obtain ⟨W10, hW10⟩ : ∃ W, W = (w10.setCell ⟨H, 3, none⟩ (.int .i64 (ttl : Nat))).setCell ⟨H, 4, none⟩ (.int .i64 (proto : Nat)) := ⟨_, rfl⟩
  have G9 : Hid (GSt b P H Y s (L.drop 10) #[.int .i64 (tos : Nat), .int .i64 (id : Nat), .int .i64 (off : Nat), .int .i64 (ttl : Nat), .int .i64 (proto : Nat), .bool df, .bool mf, .string ⟨#[]⟩, .string ⟨#[]⟩, .string ⟨#[]⟩] w W10) := Lib.hid (by rw [hW10]; exact (G9a.out.set (C' := #[.int .i64 (tos : Nat), .int .i64 (id : Nat), .int .i64 (off : Nat), .int .i64 (ttl : Nat), .int .i64 0, .bool df, .bool mf, .string ⟨#[]⟩, .string ⟨#[]⟩, .string ⟨#[]⟩]) 3 (show 3 < 10 by decide) _ rfl).set 4 (show 4 < 10 by decide) _ rfl)
  rw [← hW10]
  clear hW10 k3 f3 k4 f4 G9a
  go_upto_region 13 with (go_at_call 57; (with_reducible refine (U6.out _ G9.out.rd).mono ?_); rintro e w11 ⟨rfl, hr1, hb1⟩; have G10 := Lib.hid (G9.out.but hb1 hr1); clear hr1 hb1)
  obtain ⟨sr, hsr⟩ : ∃ x, x = bs ((L.drop 12).take 4) := ⟨_, rfl⟩
  obtain ⟨ds, hds⟩ : ∃ x, x = bs ((L.drop 16).take 4) := ⟨_, rfl⟩
  obtain ⟨op, hop⟩ : ∃ x, x = bs ((L.drop 20).take (n - 20)) := ⟨_, rfl⟩
  obtain ⟨rs, hrs⟩ : ∃ x, x = bs (L.drop n) := ⟨_, rfl⟩
  have U7 : Hid (∀ V, Rl b s (L.drop 12) V → Calls Try.prog 59 #[.pointer (some ⟨b, 0, none⟩), .int .i64 4] V fun e w' => e = .returned (.string sr) ∧ Rl b s (L.drop 16) w' ∧ But b V w') := Lib.hid (fun V hV => by have := take_l b 4 s (L.drop 12) V hV (by simp only [List.length_drop]; omega) hmx; rw [← hsr, List.drop_drop] at this; exact this)
  have U8 : Hid (∀ V, Rl b s (L.drop 16) V → Calls Try.prog 59 #[.pointer (some ⟨b, 0, none⟩), .int .i64 4] V fun e w' => e = .returned (.string ds) ∧ Rl b s (L.drop 20) w' ∧ But b V w') := Lib.hid (fun V hV => by have := take_l b 4 s (L.drop 16) V hV (by simp only [List.length_drop]; omega) hmx; rw [← hds, List.drop_drop] at this; exact this)
  obtain ⟨m, hm⟩ : ∃ m, m = n - 20 := ⟨_, rfl⟩
  have hmi : (n : Int) - 20 = (m : Int) := by omega
  have U9 : Hid (∀ V, Rl b s (L.drop 20) V → Calls Try.prog 59 #[.pointer (some ⟨b, 0, none⟩), .int .i64 (m : Nat)] V fun e w' => e = .returned (.string op) ∧ Rl b s (L.drop n) w' ∧ But b V w') := Lib.hid (fun V hV => by have := take_l b m s (L.drop 20) V hV (by simp only [List.length_drop]; omega) hmx; rw [List.drop_drop, show 20 + m = n by omega, hm, ← hop] at this; rw [hm]; exact this)
  have U10 : Hid (∀ V, Rl b s (L.drop n) V → Calls Try.prog 60 #[.pointer (some ⟨b, 0, none⟩)] V fun e w' => e = .returned (.string rs) ∧ Rl b s [] w' ∧ But b V w') := Lib.hid (fun V hV => by have := rest_l b s (L.drop n) V hV hmx; rw [← hrs] at this; exact this)
  have HSR := Lib.hid hsr
  have HDS := Lib.hid hds
  have HOP := Lib.hid hop
  have HRS := Lib.hid hrs
  clear hsr hds hop hrs hm
  go_upto_region 14 with (first | (go_at_call 59; (with_reducible refine (U7.out _ G10.out.rd).mono ?_); rintro e w12 ⟨rfl, hr1, hb1⟩; have G11 := Lib.hid (G10.out.but hb1 hr1); clear hr1 hb1) | (go_at_call 59; (with_reducible refine (U8.out _ G11.out.rd).mono ?_); rintro e w13 ⟨rfl, hr1, hb1⟩; have G12a := Lib.hid (G11.out.but hb1 hr1); clear hr1 hb1; have k7 := cellAt (i := 7) (v := .string ⟨#[]⟩) G12a.out.hH rfl; have f7 := Lib.frozen_of_heap G12a.out.hH 7; have k8 := cellAt (i := 8) (v := .string ⟨#[]⟩) G12a.out.hH rfl; have f8 := Lib.frozen_of_heap G12a.out.hH 8))
  obtain ⟨W13, hW13⟩ : ∃ W, W = (w13.setCell ⟨H, 7, none⟩ (.string sr)).setCell ⟨H, 8, none⟩ (.string ds) := ⟨_, rfl⟩
  have G12 : Hid (GSt b P H Y s (L.drop 20) #[.int .i64 (tos : Nat), .int .i64 (id : Nat), .int .i64 (off : Nat), .int .i64 (ttl : Nat), .int .i64 (proto : Nat), .bool df, .bool mf, .string sr, .string ds, .string ⟨#[]⟩] w W13) := Lib.hid (by rw [hW13]; exact (G12a.out.set (C' := #[.int .i64 (tos : Nat), .int .i64 (id : Nat), .int .i64 (off : Nat), .int .i64 (ttl : Nat), .int .i64 (proto : Nat), .bool df, .bool mf, .string sr, .string ⟨#[]⟩, .string ⟨#[]⟩]) 7 (show 7 < 10 by decide) _ rfl).set 8 (show 8 < 10 by decide) _ rfl)
  rw [← hW13]
  clear hW13 k7 f7 k8 f8 G12a
  have hYH : Y ≠ H := fun e => G12.out.ne.2.2.2.2.2 e.symm
  go_wp2_with (first | (go_at_call 59; (with_reducible refine (U9.out _ G12.out.rd).mono ?_); rintro e w14 ⟨rfl, hr1, hb1⟩; have G13 := Lib.hid (G12.out.but hb1 hr1); clear hr1 hb1) | (go_at_call 60; (with_reducible refine (U10.out _ G13.out.rd).mono ?_); rintro e w15 ⟨rfl, hr1, hb1⟩; have G14 := Lib.hid (G13.out.but hb1 hr1); clear hr1 hb1; have k9 := cellAt (i := 9) (v := .string ⟨#[]⟩) G14.out.hH rfl; have f9 := Lib.frozen_of_heap G14.out.hH 9; have ky := cellAt (i := 0) (v := .string ⟨#[]⟩) G14.out.hY rfl; have fy := Lib.frozen_of_heap G14.out.hY 0))
  go_end0
  have g9 := G14.out.set (C' := #[.int .i64 (tos : Nat), .int .i64 (id : Nat), .int .i64 (off : Nat), .int .i64 (ttl : Nat), .int .i64 (proto : Nat), .bool df, .bool mf, .string sr, .string ds, .string op]) 9 (show 9 < 10 by decide) (.string op) rfl
  refine .inr ⟨_, _, hE.out, rfl, ?_, ?_, g9.sv.set (.inl (by simp)) _⟩
  · refine (heap_other g9.hH (fun e => hYH e.symm) _ _).trans ?_
    unfold hdG hc
    simp only
    rw [← HTOS.out, ← HID.out, ← HTTL.out, ← HPROTO.out, ← HDF.out, ← HMF.out, ← HOFF.out, HSR.out, HDS.out, HOP.out]
  · rw [← HRS.out]; exact heap_one g9.hY _
end Go.Proofs.Ythdkbocokefdhaa
