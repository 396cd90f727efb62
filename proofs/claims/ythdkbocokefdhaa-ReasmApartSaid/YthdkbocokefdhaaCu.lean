import Derived.Test.YthdkbocokefdhaaR05g
import Derived.Test.YthdkbocokefdhaaStr
import Derived.Deep.QuietTactic
import Derived.BigQuiet
/- The document's Cut of layer 15, where it makes two pieces. -/
namespace Go.Proofs.Ythdkbocokefdhaa
set_option maxRecDepth 100000
open Go.RowKit
theorem part_any (w : World) : Calls Try.prog 52 #[.int .i64 20, .int .i64 28] w fun e w' => e = .returned (.int .i64 8) ∧ w' = w := by
  go_enter Try.func52, Try.ntmps52
  go_wp2_with (fail)
  go_ret
  exact ⟨rfl, rfl⟩
def szOf : Value → Nat
  | .string s => s.size
  | _ => 0
/-- the header and its copy, while pieces are cut -/
structure CSt (H C : Nat) (w : World) (A B : Array Value) (V : World) : Prop where
  h : V.heap[H]? = some (.cells A 43 (0, 0))
  c : V.heap[C]? = some (.cells B 43 (0, 0))
  b : Below w.heap.size w V
  hH : w.heap.size ≤ H
  hC : w.heap.size ≤ C
  ne : H ≠ C
theorem CSt.set {H C : Nat} {w : World} {A B : Array Value} {V : World} (s : CSt H C w A B V) (B' : Array Value) (i : Nat) (v : Value) (hB : B' = B.setIfInBounds i v) : CSt H C w A B' (V.setCell ⟨C, i, none⟩ v) :=
  ⟨heap_other s.h s.ne i v, by rw [hB]; simp [World.setCell, Array.getElem?_modify, s.c], s.b.setCell (p := ⟨C, i, none⟩) s.hC _, s.hH, s.hC, s.ne⟩
theorem CSt.below {H C : Nat} {w : World} {A B : Array Value} {V V' : World} (s : CSt H C w A B V) (hb : Below V.heap.size V V') : CSt H C w A B V' :=
  ⟨(hb.block _ (heap_lt s.h)).trans s.h, (hb.block _ (heap_lt s.c)).trans s.c, s.b.trans (hb.mono s.b.size), s.hH, s.hC, s.ne⟩
theorem CSt.drew {H C : Nat} {w : World} {A B : Array Value} {V : World} (s : CSt H C w A B V) : CSt H C w A B V.drew := ⟨s.h, s.c, s.b.drew, s.hH, s.hC, s.ne⟩
theorem CSt.grown {H C : Nat} {w : World} {A B : Array Value} {V V' : World} (s : CSt H C w A B V) {m : Option Nat} (hg : V.grownBy V' m) (hm : ∀ b, m = some b → w.heap.size ≤ b ∧ b ≠ H ∧ b ≠ C) : CSt H C w A B V' :=
  ⟨(hg.block _ (heap_lt s.h) (fun e => (hm _ e.symm).2.1 rfl)).trans s.h, (hg.block _ (heap_lt s.c) (fun e => (hm _ e.symm).2.2 rfl)).trans s.c, s.b.grown hg s.b.size (fun b hb => (hm b hb).1), s.hH, s.hC, s.ne⟩
set_option maxHeartbeats 16000000 in
theorem cut2_any (p : ByteArray) (tos id ttl proto : Int) (src dst s x0 x1 : List UInt8) (w : World) (he : getE p.data.toList = .ok (⟨tos, id, 0, ttl, proto, false, false, src, dst, []⟩, s)) (hs : s.length = 16) (hp : p.size = 36)
    (e0 : putE ⟨tos, id, 0, ttl, proto, false, true, src, dst, []⟩ (s.take 8) = .ok x0) (e1 : putE ⟨tos, id, 1, ttl, proto, false, false, src, dst, []⟩ (s.drop 8) = .ok x1) (hl : src.length < 1000000000 ∧ dst.length < 1000000000) :
    Calls Try.prog 27 #[.string p, .int .i64 28] w fun e w' => ∃ v, e = .returned (.tuple #[v, .int .i64 0]) ∧ SRow w.heap.size v [bs x0, bs x1] w' ∧ Below w.heap.size w w' := by
  have hpi : (p.size : Int) = 36 := by omega
  obtain ⟨S, hS⟩ : ∃ S, S = bs s := ⟨_, rfl⟩
  obtain ⟨S0, hS0⟩ : ∃ S, S = bs (s.take 8) := ⟨_, rfl⟩
  obtain ⟨S1, hS1⟩ : ∃ S, S = bs (s.drop 8) := ⟨_, rfl⟩
  have hSz : S.size = 16 := by rw [hS, bs_size]; exact hs
  have hSi : (S.size : Int) = 16 := by omega
  have hS1z : S1.size = 8 := by rw [hS1, bs_size, List.length_drop]; omega
  have hS1i : (S1.size : Int) = 8 := by omega
  have x08 : S.extract 0 8 = S0 := by rw [hS, hS0, bs_extract, List.drop_zero]
  have x8n : S.extract 8 S.size = S1 := by rw [hSz, hS, hS1, bs_extract, List.take_of_length_le (by rw [List.length_drop]; omega)]
  have x8m : S.extract 8 16 = S1 := by rw [← hSz]; exact x8n
  have GG : Hid (∀ V, Calls Try.prog 25 #[.string p] V fun e w' => e = .returned (.tuple #[.agg #[.int .i64 tos, .int .i64 id, .int .i64 0, .int .i64 ttl, .int .i64 proto, .bool false, .bool false, .string (bs src), .string (bs dst), .string ⟨#[]⟩], .string S, .int .i64 0]) ∧ Below V.heap.size V w') := Lib.hid (fun V => by
    have h1 := rget_any p V (by omega)
    rw [he] at h1
    rw [hS]; exact h1)
  have PP : Hid (∀ V, Calls Try.prog 52 #[.int .i64 20, .int .i64 28] V fun e w' => e = .returned (.int .i64 8) ∧ w' = V) := Lib.hid part_any
  have P0 : Hid (∀ V, Calls Try.prog 22 #[.agg #[.int .i64 tos, .int .i64 id, .int .i64 0, .int .i64 ttl, .int .i64 proto, .bool false, .bool true, .string (bs src), .string (bs dst), .string ⟨#[]⟩], .string S0] V fun e w' => e = .returned (.tuple #[.string (bs x0), .int .i64 0]) ∧ Below V.heap.size V w') := Lib.hid (fun V => by
    have h1 := rput_any ⟨tos, id, 0, ttl, proto, false, true, src, dst, []⟩ (s.take 8) V ⟨Nat.lt_trans hl.1 (by decide), Nat.lt_trans hl.2 (by decide), (by show 0 < 9223372036854775808; decide)⟩ (by rw [List.length_take]; omega)
    rw [e0] at h1
    rw [hS0]; exact h1)
  have P1 : Hid (∀ V, Calls Try.prog 22 #[.agg #[.int .i64 tos, .int .i64 id, .int .i64 1, .int .i64 ttl, .int .i64 proto, .bool false, .bool false, .string (bs src), .string (bs dst), .string ⟨#[]⟩], .string S1] V fun e w' => e = .returned (.tuple #[.string (bs x1), .int .i64 0]) ∧ Below V.heap.size V w') := Lib.hid (fun V => by
    have h1 := rput_any ⟨tos, id, 1, ttl, proto, false, false, src, dst, []⟩ (s.drop 8) V ⟨Nat.lt_trans hl.1 (by decide), Nat.lt_trans hl.2 (by decide), (by show 0 < 9223372036854775808; decide)⟩ (by rw [List.length_drop]; omega)
    rw [e1] at h1
    rw [hS1]; exact h1)
  clear he e0 e1 hl hs hp hS hS0 hS1
  obtain ⟨X0, hX0⟩ : ∃ X, X = bs x0 := ⟨_, rfl⟩
  obtain ⟨X1, hX1⟩ : ∃ X, X = bs x1 := ⟨_, rfl⟩
  rw [← hX0] at P0 ⊢
  rw [← hX1] at P1 ⊢
  clear hX0 hX1
  go_enter Try.func27, Try.ntmps27
  go_upto_region 4 with (go_at_call 25; (with_reducible refine (GG.out _).mono ?_); rintro e w1 ⟨rfl, hb1⟩)
  obtain ⟨H, hH⟩ : ∃ H, H = w1.heap.size := ⟨_, rfl⟩
  obtain ⟨W1, hW1⟩ : ∃ W, W = w1.alloc (.cells #[.int .i64 tos, .int .i64 id, .int .i64 0, .int .i64 ttl, .int .i64 proto, .bool false, .bool false, .string (bs src), .string (bs dst), .string ⟨#[]⟩] 43) := ⟨_, rfl⟩
  have HW1 : Hid (W1.heap[H]? = some (.cells #[.int .i64 tos, .int .i64 id, .int .i64 0, .int .i64 ttl, .int .i64 proto, .bool false, .bool false, .string (bs src), .string (bs dst), .string ⟨#[]⟩] 43 (0, 0)) ∧ Below w.heap.size w W1 ∧ w.heap.size ≤ H) := Lib.hid (by
    rw [hW1, hH]; exact ⟨alloc_new _ _, hb1.alloc hb1.size _, hb1.size⟩)
  rw [← hW1, ← hH]
  clear hW1 hH hb1
  have k0 := cellAt (i := 0) (v := .int .i64 tos) HW1.out.1 rfl
  have k1 := cellAt (i := 1) (v := .int .i64 id) HW1.out.1 rfl
  have k2 := cellAt (i := 2) (v := .int .i64 0) HW1.out.1 rfl
  have k3 := cellAt (i := 3) (v := .int .i64 ttl) HW1.out.1 rfl
  have k4 := cellAt (i := 4) (v := .int .i64 proto) HW1.out.1 rfl
  have k5 := cellAt (i := 5) (v := .bool false) HW1.out.1 rfl
  have k6 := cellAt (i := 6) (v := .bool false) HW1.out.1 rfl
  have k7 := cellAt (i := 7) (v := .string (bs src)) HW1.out.1 rfl
  have k8 := cellAt (i := 8) (v := .string (bs dst)) HW1.out.1 rfl
  have k9 := cellAt (i := 9) (v := .string ⟨#[]⟩) HW1.out.1 rfl
  go_upto_region 13 with (go_at_call 52; (with_reducible refine (PP.out _).mono ?_); rintro e w5 ⟨rfl, hw5⟩; replace hw5 := hw5.symm; subst hw5)
  obtain ⟨C, hC⟩ : ∃ C, C = W1.heap.size := ⟨_, rfl⟩
  obtain ⟨W2, hW2⟩ : ∃ W, W = W1.alloc (.cells #[.int .i64 tos, .int .i64 id, .int .i64 0, .int .i64 ttl, .int .i64 proto, .bool false, .bool false, .string (bs src), .string (bs dst), .string ⟨#[]⟩] 43) := ⟨_, rfl⟩
  have HW2 : Hid (CSt H C w #[.int .i64 tos, .int .i64 id, .int .i64 0, .int .i64 ttl, .int .i64 proto, .bool false, .bool false, .string (bs src), .string (bs dst), .string ⟨#[]⟩] #[.int .i64 tos, .int .i64 id, .int .i64 0, .int .i64 ttl, .int .i64 proto, .bool false, .bool false, .string (bs src), .string (bs dst), .string ⟨#[]⟩] W2) := Lib.hid (by
    rw [hW2, hC]
    exact ⟨by rw [Below.heap_alloc _ _ _ (heap_lt HW1.out.1)]; exact HW1.out.1, alloc_new _ _, HW1.out.2.1.alloc HW1.out.2.1.size _, HW1.out.2.2, HW1.out.2.1.size, by have := heap_lt HW1.out.1; omega⟩)
  go_wp2_with (fail)
  rw [← hW2, ← hC]
  clear hW2 hC k0 k1 k2 k3 k4 k5 k6 k7 k8 k9

  go_loopw [10, 11] (fun v rest wr => (Hid (v = .slice none 0 0) ∧ rest = .string S ∧ Hid (CSt H C w #[.int .i64 tos, .int .i64 id, .int .i64 0, .int .i64 ttl, .int .i64 proto, .bool false, .bool false, .string (bs src), .string (bs dst), .string ⟨#[]⟩] #[.int .i64 tos, .int .i64 id, .int .i64 0, .int .i64 ttl, .int .i64 proto, .bool false, .bool false, .string (bs src), .string (bs dst), .string ⟨#[]⟩] wr)) ∨ (rest = .string S1 ∧ Hid (SRow w.heap.size v [X0] wr) ∧ Hid (CSt H C w #[.int .i64 tos, .int .i64 id, .int .i64 0, .int .i64 ttl, .int .i64 proto, .bool false, .bool false, .string (bs src), .string (bs dst), .string ⟨#[]⟩] #[.int .i64 tos, .int .i64 id, .int .i64 1, .int .i64 ttl, .int .i64 proto, .bool false, .bool true, .string (bs src), .string (bs dst), .string ⟨#[]⟩] wr))) (fun _ rest _ => szOf rest)
  case atStart => exact .inl ⟨Lib.hid rfl, rfl, HW2⟩
  case round =>
    rcases hrel with ⟨hv0, rfl, hst⟩ | ⟨rfl, hrow, hst⟩
    · have f6 := Lib.frozen_of_heap hst.out.c 6
      have j6 := cellAt (i := 6) (v := .bool false) hst.out.c rfl
      go_upto_region 18 with (fail)
      obtain ⟨V1, hV1⟩ : ∃ V, V = wr.setCell ⟨C, 6, none⟩ (.bool true) := ⟨_, rfl⟩
      have HV1 : Hid (CSt H C w #[.int .i64 tos, .int .i64 id, .int .i64 0, .int .i64 ttl, .int .i64 proto, .bool false, .bool false, .string (bs src), .string (bs dst), .string ⟨#[]⟩] #[.int .i64 tos, .int .i64 id, .int .i64 0, .int .i64 ttl, .int .i64 proto, .bool false, .bool true, .string (bs src), .string (bs dst), .string ⟨#[]⟩] V1) := Lib.hid (by
        rw [hV1]; exact hst.out.set #[.int .i64 tos, .int .i64 id, .int .i64 0, .int .i64 ttl, .int .i64 proto, .bool false, .bool true, .string (bs src), .string (bs dst), .string ⟨#[]⟩] 6 (.bool true) rfl)
      rw [← hV1]
      clear hV1 f6 j6
      refine wp_region_held_drew (S := fun V => V.heap[C]? = some (.cells #[.int .i64 tos, .int .i64 id, .int .i64 0, .int .i64 ttl, .int .i64 proto, .bool false, .bool true, .string (bs src), .string (bs dst), .string ⟨#[]⟩] 43 (0, 0))) (by kernel_rfl) HV1.out.c (fun hHeld => ?_)
      refine wpAnyH_take (i := 0) (oi := { dst := some 56, op := Op.load 43 (Operand.tmp 12), type := 43, pos := "ref.go:46", after := #[], guard := none }) (v := ?_) rfl (by kernel_rfl) (by kernel_rfl) (by kernel_rfl) (fun _ _ _ h => h) (Or.inl ⟨by rfl, ?_⟩) (by assumption) ?_
      rotate_left 1
      · intro w hSw
        have j0 := cellAt (i := 0) (v := .int .i64 tos) hSw rfl
        have j1 := cellAt (i := 1) (v := .int .i64 id) hSw rfl
        have j2 := cellAt (i := 2) (v := .int .i64 0) hSw rfl
        have j3 := cellAt (i := 3) (v := .int .i64 ttl) hSw rfl
        have j4 := cellAt (i := 4) (v := .int .i64 proto) hSw rfl
        have j5 := cellAt (i := 5) (v := .bool false) hSw rfl
        have j6 := cellAt (i := 6) (v := .bool true) hSw rfl
        have j7 := cellAt (i := 7) (v := .string (bs src)) hSw rfl
        have j8 := cellAt (i := 8) (v := .string (bs dst)) hSw rfl
        have j9 := cellAt (i := 9) (v := .string ⟨#[]⟩) hSw rfl
        go_simp
        first | done | with_reducible rfl
      try simp only [Act.put, List.setIfInBounds_toArray, List.set_cons_zero, List.set_cons_succ]
      refine wpAnyH_take (i := 1) (oi := { dst := some 57, op := Op.move (Operand.tmp 11), type := 9, pos := "ref.go:46", after := #[], guard := none }) (v := ?_) rfl (by kernel_rfl) (by kernel_rfl) (by kernel_rfl) (fun _ _ _ h => h) (Or.inl ⟨by rfl, ?_⟩) (by assumption) ?_
      rotate_left 1
      · intro w hSw
        go_simp
        first | done | with_reducible rfl
      try simp only [Act.put, List.setIfInBounds_toArray, List.set_cons_zero, List.set_cons_succ]
      refine wpAnyH_take (i := 2) (oi := { dst := some 58, op := Op.move (Operand.tmp 9), type := 3, pos := "ref.go:46", after := #[], guard := none }) (v := ?_) rfl (by kernel_rfl) (by kernel_rfl) (by kernel_rfl) (fun _ _ _ h => h) (Or.inl ⟨by rfl, ?_⟩) (by assumption) ?_
      rotate_left 1
      · intro w hSw
        go_simp
        first | done | with_reducible rfl
      try simp only [Act.put, List.setIfInBounds_toArray, List.set_cons_zero, List.set_cons_succ]
      refine wpAnyH_take (i := 3) (oi := { dst := some 59, op := Op.slice 9 (Operand.tmp 57) none (some (Operand.tmp 58)) none, type := 9, pos := "ref.go:46", after := #[{ on := 1, ground := Ground.data }, { on := 2, ground := Ground.data }], guard := none }) (v := ?_) rfl (by kernel_rfl) (by kernel_rfl) (by kernel_rfl) (fun _ _ _ h => h) (Or.inl ⟨by rfl, ?_⟩) (by assumption) ?_
      rotate_left 1
      · intro w hSw
        go_simp
        first | done | with_reducible rfl
      try simp only [Act.put, List.setIfInBounds_toArray, List.set_cons_zero, List.set_cons_succ]
      refine wpAnyH_ready (rs := [4]) (by kernel_rfl) (by simp) ?_
      refine AllReadyH.cons (o := { dst := some 60, op := Op.call { callee := Callee.value (Operand.func 22), args := #[Operand.tmp 56, Operand.tmp 59], argTypes := #[43, 9] }, type := 39, pos := "ref.go:46", after := #[{ on := 0, ground := Ground.data }, { on := 3, ground := Ground.data }], guard := none }) rfl (fun K hK => ?_) AllReadyH.nil
      go_simp
      (go_at_call 22; (with_reducible refine (P0.out _).mono ?_); rintro e w5 ⟨rfl, hw5⟩)
      have hc5 := (hw5.block _ (heap_lt HV1.out.c)).trans HV1.out.c
      have HV5 := Lib.hid (HV1.out.drew.below hw5)
      clear hw5
      go_simp
      refine hK.out _ _ hc5 (fun hHeld => ?_)
      clear hK K
      try simp only [Act.put, List.setIfInBounds_toArray, List.set_cons_zero, List.set_cons_succ]
      refine wpAnyH_take (i := 5) (oi := { dst := some 55, op := Op.move (Operand.tmp 60), type := 39, pos := "ref.go:46", after := #[{ on := 4, ground := Ground.data }], guard := none }) (v := ?_) rfl (by kernel_rfl) (by kernel_rfl) (by kernel_rfl) (fun _ _ _ h => h) (Or.inl ⟨by rfl, ?_⟩) (by assumption) ?_
      rotate_left 1
      · intro w hSw
        go_simp
        first | done | with_reducible rfl
      try simp only [Act.put, List.setIfInBounds_toArray, List.set_cons_zero, List.set_cons_succ]
      refine wpAnyH_take (i := 6) (oi := { dst := some 61, op := Op.extract (Operand.tmp 55) 0, type := 9, pos := "ref.go:46", after := #[{ on := 5, ground := Ground.data }], guard := none }) (v := ?_) rfl (by kernel_rfl) (by kernel_rfl) (by kernel_rfl) (fun _ _ _ h => h) (Or.inl ⟨by rfl, ?_⟩) (by assumption) ?_
      rotate_left 1
      · intro w hSw
        go_simp
        first | done | with_reducible rfl
      try simp only [Act.put, List.setIfInBounds_toArray, List.set_cons_zero, List.set_cons_succ]
      refine wpAnyH_take (i := 7) (oi := { dst := some 62, op := Op.extract (Operand.tmp 55) 1, type := 3, pos := "ref.go:46", after := #[{ on := 5, ground := Ground.data }, { on := 8, ground := Ground.gcOnly Departure.lateStores }], guard := none }) (v := ?_) rfl (by kernel_rfl) (by kernel_rfl) (by kernel_rfl) (fun _ _ _ h => h) (Or.inl ⟨by rfl, ?_⟩) (by assumption) ?_
      rotate_left 1
      · intro w hSw
        go_simp
        first | done | with_reducible rfl
      try simp only [Act.put, List.setIfInBounds_toArray, List.set_cons_zero, List.set_cons_succ]
      refine wpAnyH_ready (rs := [8]) (by kernel_rfl) (by simp) ?_
      refine AllReadyH.cons (o := { dst := some 13, op := Op.assign (Operand.tmp 61), type := 9, pos := "ref.go:46", after := #[{ on := 6, ground := Ground.data }, { on := 4, ground := Ground.chain }, { on := 0, ground := Ground.phase }, { on := 1, ground := Ground.phase }, { on := 2, ground := Ground.phase }, { on := 3, ground := Ground.phase }, { on := 4, ground := Ground.phase }, { on := 5, ground := Ground.phase }, { on := 6, ground := Ground.phase }, { on := 7, ground := Ground.textOnly Departure.lateStores }], guard := none }) rfl (fun K hK => ?_) AllReadyH.nil
      go_simp
      refine hK.out _ _ hHeld (fun hHeld => ?_)
      clear hK K
      try simp only [Act.put, List.setIfInBounds_toArray, List.set_cons_zero, List.set_cons_succ]
      refine wpAnyH_ready (rs := [9]) (by kernel_rfl) (by simp) ?_
      refine AllReadyH.cons (o := { dst := some 14, op := Op.assign (Operand.tmp 62), type := 3, pos := "ref.go:46", after := #[{ on := 7, ground := Ground.data }, { on := 8, ground := Ground.chain }, { on := 0, ground := Ground.phase }, { on := 1, ground := Ground.phase }, { on := 2, ground := Ground.phase }, { on := 3, ground := Ground.phase }, { on := 4, ground := Ground.phase }, { on := 5, ground := Ground.phase }, { on := 6, ground := Ground.phase }, { on := 7, ground := Ground.phase }, { on := 8, ground := Ground.phase }], guard := none }) rfl (fun K hK => ?_) AllReadyH.nil
      go_simp
      refine hK.out _ _ hHeld (fun hHeld => ?_)
      clear hK K
      try simp only [Act.put, List.setIfInBounds_toArray, List.set_cons_zero, List.set_cons_succ]
      refine wpAnyH_done (by kernel_rfl) ?_ _
      simp only [Exit.then]
      obtain ⟨v6, w6, hr6, hrow6, hg6, _⟩ := app_s (SRow.nil w.heap.size (w5.alloc (.cells #[.string X0] 9))) X0 w5.heap.size (alloc_new _ _) (by decide) (by rw [World.size_alloc]; have := HV5.out.b.size; omega)
      rw [← hv0.out] at hr6 hg6
      have HR6 : Hid (SRow w.heap.size v6 [X0] w6) := Lib.hid hrow6
      have H6 : Hid (CSt H C w #[.int .i64 tos, .int .i64 id, .int .i64 0, .int .i64 ttl, .int .i64 proto, .bool false, .bool false, .string (bs src), .string (bs dst), .string ⟨#[]⟩] #[.int .i64 tos, .int .i64 id, .int .i64 0, .int .i64 ttl, .int .i64 proto, .bool false, .bool true, .string (bs src), .string (bs dst), .string ⟨#[]⟩] w6) := Lib.hid ((HV5.out.below ((Below.refl _ _).alloc (Nat.le_refl _) _)).grown hg6 (fun b h => by rw [hv0.out] at h; cases h))
      have HE : Hid (CSt H C w #[.int .i64 tos, .int .i64 id, .int .i64 0, .int .i64 ttl, .int .i64 proto, .bool false, .bool false, .string (bs src), .string (bs dst), .string ⟨#[]⟩] #[.int .i64 tos, .int .i64 id, .int .i64 1, .int .i64 ttl, .int .i64 proto, .bool false, .bool true, .string (bs src), .string (bs dst), .string ⟨#[]⟩] (w6.setCell ⟨C, 2, none⟩ (.int .i64 1))) := Lib.hid (H6.out.set #[.int .i64 tos, .int .i64 id, .int .i64 1, .int .i64 ttl, .int .i64 proto, .bool false, .bool true, .string (bs src), .string (bs dst), .string ⟨#[]⟩] 2 (.int .i64 1) rfl)
      have m2 := cellAt (i := 2) (v := .int .i64 0) H6.out.c rfl
      have f2 := Lib.frozen_of_heap H6.out.c 2
      clear hrow6 hg6 hc5 hHeld
      have HR0 := Lib.hid hr6
      clear hr6
      go_wp2_with (at_builtin; refine wpList_append_ok rfl (.tmp 63) (.tmp 65) 24 rfl _ _ _ _ rfl rfl HR0.out ?_)
      exact ⟨.inr ⟨rfl, Lib.hid (HR6.out.set H6.out.c (by decide) 2 _), HE⟩, by show S1.size < S.size; omega⟩

    · have kh := cellAt (i := 6) (v := .bool false) hst.out.h rfl
      have f6 := Lib.frozen_of_heap hst.out.c 6
      have j6 := cellAt (i := 6) (v := .bool true) hst.out.c rfl
      go_upto_region 25 with (fail)
      obtain ⟨V1, hV1⟩ : ∃ V, V = wr.setCell ⟨C, 6, none⟩ (.bool false) := ⟨_, rfl⟩
      have HV1 : Hid (CSt H C w #[.int .i64 tos, .int .i64 id, .int .i64 0, .int .i64 ttl, .int .i64 proto, .bool false, .bool false, .string (bs src), .string (bs dst), .string ⟨#[]⟩] #[.int .i64 tos, .int .i64 id, .int .i64 1, .int .i64 ttl, .int .i64 proto, .bool false, .bool false, .string (bs src), .string (bs dst), .string ⟨#[]⟩] V1) := Lib.hid (by
        rw [hV1]; exact hst.out.set #[.int .i64 tos, .int .i64 id, .int .i64 1, .int .i64 ttl, .int .i64 proto, .bool false, .bool false, .string (bs src), .string (bs dst), .string ⟨#[]⟩] 6 (.bool false) rfl)
      have HRV : Hid (SRow w.heap.size u10 [X0] V1) := Lib.hid (by rw [hV1]; exact hrow.out.set hst.out.c (by decide) 6 _)
      rw [← hV1]
      clear hV1 kh f6 j6
      have j0 := cellAt (i := 0) (v := .int .i64 tos) HV1.out.c rfl
      have j1 := cellAt (i := 1) (v := .int .i64 id) HV1.out.c rfl
      have j2 := cellAt (i := 2) (v := .int .i64 1) HV1.out.c rfl
      have j3 := cellAt (i := 3) (v := .int .i64 ttl) HV1.out.c rfl
      have j4 := cellAt (i := 4) (v := .int .i64 proto) HV1.out.c rfl
      have j5 := cellAt (i := 5) (v := .bool false) HV1.out.c rfl
      have j6 := cellAt (i := 6) (v := .bool false) HV1.out.c rfl
      have j7 := cellAt (i := 7) (v := .string (bs src)) HV1.out.c rfl
      have j8 := cellAt (i := 8) (v := .string (bs dst)) HV1.out.c rfl
      have j9 := cellAt (i := 9) (v := .string ⟨#[]⟩) HV1.out.c rfl
      go_upto_region 26 with (go_at_call 22; (with_reducible refine (P1.out _).mono ?_); rintro e w5 ⟨rfl, hw5⟩; have HV5 := Lib.hid (HV1.out.below hw5); have HRV5 := Lib.hid (HRV.out.below hw5); clear hw5)
      obtain ⟨v6, w6, hr6, hrow6, hg6, _⟩ := app_s (w := w5.alloc (.cells #[.string X1] 9)) (HRV5.out.below ((Below.refl _ _).alloc (Nat.le_refl _) _)) X1 w5.heap.size (alloc_new _ _) (by show 1 ≤ 1000000; omega) (by rw [World.size_alloc]; have := HV5.out.b.size; omega)
      have HR6 : Hid (SRow w.heap.size v6 [X0, X1] w6) := Lib.hid hrow6
      have HB6 : Hid (Below w.heap.size w w6) := Lib.hid ((HV5.out.b.alloc HV5.out.b.size _).grown hg6 (by rw [World.size_alloc]; have := HV5.out.b.size; omega) (fun b hb => HRV5.out.le hb))
      have HR0 := Lib.hid hr6
      clear hr6 hrow6 hg6
      go_wp2_with (at_builtin; refine wpList_append_ok rfl (.tmp 88) (.tmp 90) 24 rfl _ _ _ _ rfl rfl HR0.out ?_)
      go_ret2
      exact ⟨_, rfl, HR6.out, HB6.out⟩
end Go.Proofs.Ythdkbocokefdhaa
