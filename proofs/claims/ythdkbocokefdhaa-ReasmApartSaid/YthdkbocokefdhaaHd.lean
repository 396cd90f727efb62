import Derived.Test.YthdkbocokefdhaaWri
import Derived.Test.YthdkbocokefdhaaSum
/- The writing of an IPv4 header: ip4.header. -/
namespace Go.Proofs.Ythdkbocokefdhaa
set_option maxRecDepth 100000
open Go.RowKit
/-- a header as a value -/
def hc (h : H4) : Array Value := #[.int .i64 h.tos, .int .i64 h.id, .int .i64 h.off, .int .i64 h.ttl, .int .i64 h.proto, .bool h.df, .bool h.mf, .string (bs h.src), .string (bs h.dst), .string (bs h.opt)]
def hv (h : H4) : Value := .agg (hc h)
set_option maxHeartbeats 1000000 in
theorem bit_any (b : Bool) (n : Nat) (hn : n = 13 ∨ n = 14) (w : World) : Calls Try.prog 95 #[.bool b, .int .i64 n] w fun e w' => e = .returned (.int .i64 ((if b then 2 ^ n else 0 : Nat) : Int)) ∧ w' = w := by
  rcases hn with rfl | rfl <;> cases b
  all_goals
    go_enter Try.func95, Try.ntmps95
    go_wp2_with (fail)
    go_ret
    exact ⟨rfl, rfl⟩
theorem flags_or (df mf : Bool) (off : Nat) (h : off < 8192) : bits .or .i64 (bits .or .i64 ((if df then 2 ^ 14 else 0 : Nat) : Int) ((if mf then 2 ^ 13 else 0 : Nat) : Int)) (off : Int) = ((off + (if mf then 8192 else 0) + (if df then 16384 else 0) : Nat) : Int) := by
  rw [i64_join 14 _ _ (by cases df <;> decide) (by cases mf <;> decide) (by cases df <;> decide) (by cases mf <;> decide)]
  rw [i64_join 13 _ _ (by cases df <;> cases mf <;> decide) (by omega) (by cases df <;> cases mf <;> decide) (by omega)]
  cases df <;> cases mf <;> simp <;> omega
theorem ver_or (n : Nat) (h : n < 16) : bits .or .i64 64 (n : Int) = ((64 + n : Nat) : Int) := i64_join 4 64 n (by decide) (by omega) (by decide) (by omega)
/-- the walk's state -/
structure HSt (B : Nat) (C : Array Value) (l : List UInt8) (W w : World) : Prop where
  hC : w.heap[B]? = some (.cells C 43 (0, 0))
  hW : IsW (B + 1) l w
  ap : Apart (B + 1) B w
  kp : Keeps (B + 1) W w
theorem HSt.drew {B : Nat} {C : Array Value} {l : List UInt8} {W w : World} (h : HSt B C l W w) : HSt B C l W w.drew := ⟨h.hC, h.hW, h.ap, ⟨h.kp.os, h.kp.tape, h.kp.output, h.kp.size, h.kp.block⟩⟩
theorem HSt.step {B : Nat} {C : Array Value} {l l' : List UInt8} {W w w' : World} (h : HSt B C l W w) (h1 : IsW (B + 1) l' w') (h2 : Keeps (B + 1) w w') : HSt B C l' W w' :=
  ⟨(h2.block B h.ap).1.trans h.hC, h1, (h2.block B h.ap).2, h.kp.trans h2⟩
set_option maxHeartbeats 8000000 in
theorem header_nat (tos id off ttl proto t c : Nat) (df mf : Bool) (src dst opt : List UInt8) (h1 : tos < 256) (h2 : id < 65536) (h3 : off < 8192) (h4 : ttl < 256) (h5 : proto < 256) (h6 : src.length = 4) (h7 : dst.length = 4) (h8 : opt.length ≤ 40) (h9 : t < 65536) (h10 : c < 65536) (w : World) :
    Calls Try.prog 74 #[.agg #[.int .i64 tos, .int .i64 id, .int .i64 off, .int .i64 ttl, .int .i64 proto, .bool df, .bool mf, .string (bs src), .string (bs dst), .string (bs opt)], .int .i64 t, .int .i64 c] w fun e w' =>
      e = .returned (.string (bs (be (64 + (20 + opt.length) / 4) 1 ++ be tos 1 ++ be t 2 ++ be id 2 ++ be (off + (if mf then 8192 else 0) + (if df then 16384 else 0)) 2 ++ be ttl 1 ++ be proto 1 ++ be c 2 ++ (src ++ dst ++ opt)))) ∧ Below w.heap.size w w' := by
  obtain ⟨R, hR⟩ : ∃ R, R = bs (be (64 + (20 + opt.length) / 4) 1 ++ be tos 1 ++ be t 2 ++ be id 2 ++ be (off + (if mf then 8192 else 0) + (if df then 16384 else 0)) 2 ++ be ttl 1 ++ be proto 1 ++ be c 2 ++ (src ++ dst ++ opt)) := ⟨_, rfl⟩
  rw [← hR]
  have HR := Lib.hid hR
  clear hR
  obtain ⟨B, hB0⟩ : ∃ x, x = w.heap.size := ⟨_, rfl⟩
  obtain ⟨W, hW⟩ : ∃ x, x = (w.alloc (.cells #[.int .i64 tos, .int .i64 id, .int .i64 off, .int .i64 ttl, .int .i64 proto, .bool df, .bool mf, .string (bs src), .string (bs dst), .string (bs opt)] 43)).alloc (.cells #[.pointer none, .slice none 0 0] 151) := ⟨_, rfl⟩
  have hsz : (w.alloc (.cells #[.int .i64 tos, .int .i64 id, .int .i64 off, .int .i64 ttl, .int .i64 proto, .bool df, .bool mf, .string (bs src), .string (bs dst), .string (bs opt)] 43)).heap.size = B + 1 := by rw [World.size_alloc, hB0]
  have HA : Hid (∀ x, x < B + 1 → Apart (B + 1) x W) := Lib.hid (fun x hx => by rw [hW]; exact fresh_apart _ hsz hx)
  have S0 : Hid (HSt B #[.int .i64 tos, .int .i64 id, .int .i64 off, .int .i64 ttl, .int .i64 proto, .bool df, .bool mf, .string (bs src), .string (bs dst), .string (bs opt)] [] W W) := by
    refine ⟨?_, by rw [hW]; exact IsW.fresh _ hsz, HA.out B (by omega), Keeps.refl _ _⟩
    rw [hW, Below.heap_alloc _ _ _ (by rw [hsz]; omega), hB0]; exact alloc_new _ _
  have HB : Hid (Below w.heap.size w W) := by
    show Below _ _ _
    rw [hW]; exact ((Below.refl _ _).alloc (Nat.le_refl _) _).alloc (by simp) _
  have HB0 := Lib.hid hB0
  have e0 : 20 + opt.length ≤ 60 := by omega
  have z0 : (bs opt).size = opt.length := bs_size opt
  obtain ⟨q, hq⟩ : ∃ q, q = (20 + opt.length) / 4 := ⟨_, rfl⟩
  obtain ⟨v1, hv1⟩ : ∃ v, v = 64 + q := ⟨_, rfl⟩
  obtain ⟨f1, hf1⟩ : ∃ f, f = off + (if mf then 8192 else 0) + (if df then 16384 else 0) := ⟨_, rfl⟩
  have v1l : v1 < 256 := by omega
  have f1l : f1 < 65536 := by rw [hf1]; split <;> split <;> omega
  have z1 : ((20 : Int) + (opt.length : Int)) / 4 = (q : Int) := by omega
  have z2 : bits .or .i64 64 (q : Int) = (v1 : Int) := by rw [hv1]; exact ver_or q (by omega)
  obtain ⟨x14, hx14⟩ : ∃ x, x = (if df then 2 ^ 14 else 0 : Nat) := ⟨_, rfl⟩
  obtain ⟨x13, hx13⟩ : ∃ x, x = (if mf then 2 ^ 13 else 0 : Nat) := ⟨_, rfl⟩
  have z3 : bits .or .i64 (bits .or .i64 (x14 : Int) (x13 : Int)) (off : Int) = (f1 : Int) := by rw [hf1, hx14, hx13]; exact flags_or df mf off h3
  have HV1 : Hid (v1 = 64 + (20 + opt.length) / 4) := Lib.hid (by omega)
  have HF1 := Lib.hid hf1
  clear hq hv1 hf1
  have BT1 : Hid (∀ V, Calls Try.prog 95 #[.bool df, .int .i64 14] V fun e w' => e = .returned (.int .i64 (x14 : Int)) ∧ w' = V) := Lib.hid (fun V => by rw [hx14]; exact bit_any df 14 (.inr rfl) V)
  have BT2 : Hid (∀ V, Calls Try.prog 95 #[.bool mf, .int .i64 13] V fun e w' => e = .returned (.int .i64 (x13 : Int)) ∧ w' = V) := Lib.hid (fun V => by rw [hx13]; exact bit_any mf 13 (.inl rfl) V)
  clear hx14 hx13
  go_enter Try.func74, Try.ntmps74
  go_upto_region 2 with (fail)
  have hB1 : w.heap.size + 1 = B + 1 := by omega
  rw [← hW, hB1, ← hB0]
  clear hW hB0 hsz hB1
  have C2 := Lib.hid (w8_k (B + 1) (v1) ([]) W (v1l) S0.out.hW (by simp only [List.length_append, be_length, List.length_nil]; omega))
  have k2 := cellAt (i := 9) (v := .string (bs opt)) S0.out.hC rfl
  go_upto_region 3 with (go_at_call 93; (with_reducible refine C2.out.mono ?_); rintro e w2 ⟨rfl, g1, g2⟩)
  have S1 := Lib.hid (S0.out.step g1 g2)
  clear g1 g2 C2
  clear k2
  have C3 := Lib.hid (w8_k (B + 1) (tos) (be v1 1) w2 (h1) S1.out.hW (by simp only [List.length_append, be_length, List.length_nil]; omega))
  have k3 := cellAt (i := 0) (v := .int .i64 tos) S1.out.hC rfl
  go_upto_region 4 with (go_at_call 93; (with_reducible refine C3.out.mono ?_); rintro e w3 ⟨rfl, g1, g2⟩)
  have S2 := Lib.hid (S1.out.step g1 g2)
  clear g1 g2 C3
  clear k3
  have C4 := Lib.hid (w16_k (B + 1) (t) (be v1 1 ++ be tos 1) w3 (h9) S2.out.hW (by simp only [List.length_append, be_length, List.length_nil]; omega))
  go_upto_region 5 with (go_at_call 94; (with_reducible refine C4.out.mono ?_); rintro e w4 ⟨rfl, g1, g2⟩)
  have S3 := Lib.hid (S2.out.step g1 g2)
  clear g1 g2 C4
  have C5 := Lib.hid (w16_k (B + 1) (id) (be v1 1 ++ be tos 1 ++ be t 2) w4 (h2) S3.out.hW (by simp only [List.length_append, be_length, List.length_nil]; omega))
  have k5 := cellAt (i := 1) (v := .int .i64 id) S3.out.hC rfl
  go_upto_region 6 with (go_at_call 94; (with_reducible refine C5.out.mono ?_); rintro e w5 ⟨rfl, g1, g2⟩)
  have S4 := Lib.hid (S3.out.step g1 g2)
  clear g1 g2 C5
  clear k5
  have C6 := Lib.hid (w16_k (B + 1) (f1) (be v1 1 ++ be tos 1 ++ be t 2 ++ be id 2) w5.drew (f1l) S4.out.hW (by simp only [List.length_append, be_length, List.length_nil]; omega))
  refine wp_region_noPanic ?_
  refine wp_region_held_drew (S := fun w => w.heap[B]? = some (.cells #[.int .i64 tos, .int .i64 id, .int .i64 off, .int .i64 ttl, .int .i64 proto, .bool df, .bool mf, .string (bs src), .string (bs dst), .string (bs opt)] 43 (0, 0))) (by kernel_rfl) S4.out.hC (fun hHeld => ?_)
  refine wpAnyH_take (i := 0) (oi := { dst := some 23, op := Op.fieldAddr 43 (Operand.tmp 3) 5, type := 0, pos := "ip4.go:52", after := #[], guard := none }) (v := ?_) rfl (by kernel_rfl) (by kernel_rfl) (by kernel_rfl) (fun _ _ _ h => h) (Or.inl ⟨by rfl, ?_⟩) (by assumption) ?_
  rotate_left 1
  · intro w hSw
    go_simp
    first | done | with_reducible rfl
  try simp only [Act.put, List.setIfInBounds_toArray, List.set_cons_zero, List.set_cons_succ]
  refine wpAnyH_take (i := 1) (oi := { dst := some 24, op := Op.load 4 (Operand.tmp 23), type := 4, pos := "ip4.go:52", after := #[{ on := 0, ground := Ground.data }], guard := none }) (v := ?_) rfl (by kernel_rfl) (by kernel_rfl) (by kernel_rfl) (fun _ _ _ h => h) (Or.inl ⟨by rfl, ?_⟩) (by assumption) ?_
  rotate_left 1
  · intro w hSw
    have q0 := cellAt (i := 5) (v := .bool df) hSw rfl
    go_simp
    first | done | with_reducible rfl
  try simp only [Act.put, List.setIfInBounds_toArray, List.set_cons_zero, List.set_cons_succ]
  refine wpAnyH_take (i := 3) (oi := { dst := some 26, op := Op.fieldAddr 43 (Operand.tmp 3) 6, type := 0, pos := "ip4.go:52", after := #[], guard := none }) (v := ?_) rfl (by kernel_rfl) (by kernel_rfl) (by kernel_rfl) (fun _ _ _ h => h) (Or.inl ⟨by rfl, ?_⟩) (by assumption) ?_
  rotate_left 1
  · intro w hSw
    go_simp
    first | done | with_reducible rfl
  try simp only [Act.put, List.setIfInBounds_toArray, List.set_cons_zero, List.set_cons_succ]
  refine wpAnyH_take (i := 4) (oi := { dst := some 27, op := Op.load 4 (Operand.tmp 26), type := 4, pos := "ip4.go:52", after := #[{ on := 3, ground := Ground.data }], guard := none }) (v := ?_) rfl (by kernel_rfl) (by kernel_rfl) (by kernel_rfl) (fun _ _ _ h => h) (Or.inl ⟨by rfl, ?_⟩) (by assumption) ?_
  rotate_left 1
  · intro w hSw
    have q0 := cellAt (i := 6) (v := .bool mf) hSw rfl
    go_simp
    first | done | with_reducible rfl
  try simp only [Act.put, List.setIfInBounds_toArray, List.set_cons_zero, List.set_cons_succ]
  refine wpAnyH_take (i := 7) (oi := { dst := some 30, op := Op.fieldAddr 43 (Operand.tmp 3) 2, type := 0, pos := "ip4.go:52", after := #[], guard := none }) (v := ?_) rfl (by kernel_rfl) (by kernel_rfl) (by kernel_rfl) (fun _ _ _ h => h) (Or.inl ⟨by rfl, ?_⟩) (by assumption) ?_
  rotate_left 1
  · intro w hSw
    go_simp
    first | done | with_reducible rfl
  try simp only [Act.put, List.setIfInBounds_toArray, List.set_cons_zero, List.set_cons_succ]
  refine wpAnyH_take (i := 8) (oi := { dst := some 31, op := Op.load 3 (Operand.tmp 30), type := 3, pos := "ip4.go:52", after := #[{ on := 7, ground := Ground.data }], guard := none }) (v := ?_) rfl (by kernel_rfl) (by kernel_rfl) (by kernel_rfl) (fun _ _ _ h => h) (Or.inl ⟨by rfl, ?_⟩) (by assumption) ?_
  rotate_left 1
  · intro w hSw
    have q0 := cellAt (i := 2) (v := .int .i64 off) hSw rfl
    go_simp
    first | done | with_reducible rfl
  try simp only [Act.put, List.setIfInBounds_toArray, List.set_cons_zero, List.set_cons_succ]
  refine wpAnyH_ready (rs := [2]) (by kernel_rfl) (by simp) ?_
  refine AllReadyH.cons (o := { dst := some 25, op := Op.call { callee := Callee.value (Operand.func 95), args := #[Operand.tmp 24, Operand.const (Value.int IntKind.i64 14)], argTypes := #[4, 3] }, type := 3, pos := "ip4.go:52", after := #[{ on := 1, ground := Ground.data }], guard := none }) rfl (fun K hK => ?_) AllReadyH.nil
  go_simp
  (go_at_call 95; (with_reducible refine (BT1.out _).mono ?_); rintro e w5 ⟨rfl, hw5⟩; replace hw5 := hw5.symm; subst hw5)
  go_simp
  refine hK.out _ _ hHeld (fun hHeld => ?_)
  clear hK K
  try simp only [Act.put, List.setIfInBounds_toArray, List.set_cons_zero, List.set_cons_succ]
  refine wpAnyH_ready (rs := [5]) (by kernel_rfl) (by simp) ?_
  refine AllReadyH.cons (o := { dst := some 28, op := Op.call { callee := Callee.value (Operand.func 95), args := #[Operand.tmp 27, Operand.const (Value.int IntKind.i64 13)], argTypes := #[4, 3] }, type := 3, pos := "ip4.go:52", after := #[{ on := 4, ground := Ground.data }, { on := 2, ground := Ground.chain }], guard := none }) rfl (fun K hK => ?_) AllReadyH.nil
  go_simp
  (go_at_call 95; (with_reducible refine (BT2.out _).mono ?_); rintro e w5 ⟨rfl, hw5⟩; replace hw5 := hw5.symm; subst hw5)
  go_simp
  refine hK.out _ _ hHeld (fun hHeld => ?_)
  clear hK K
  try simp only [Act.put, List.setIfInBounds_toArray, List.set_cons_zero, List.set_cons_succ]
  refine wpAnyH_take (i := 6) (oi := { dst := some 29, op := Op.binOp BinOp.or 3 (Operand.tmp 25) (Operand.tmp 28) 3, type := 3, pos := "ip4.go:52", after := #[{ on := 2, ground := Ground.data }, { on := 5, ground := Ground.data }], guard := none }) (v := ?_) rfl (by kernel_rfl) (by kernel_rfl) (by kernel_rfl) (fun _ _ _ h => h) (Or.inl ⟨by rfl, ?_⟩) (by assumption) ?_
  rotate_left 1
  · intro w hSw
    go_simp
    first | done | with_reducible rfl
  try simp only [Act.put, List.setIfInBounds_toArray, List.set_cons_zero, List.set_cons_succ]
  refine wpAnyH_take (i := 9) (oi := { dst := some 32, op := Op.binOp BinOp.or 3 (Operand.tmp 29) (Operand.tmp 31) 3, type := 3, pos := "ip4.go:52", after := #[{ on := 6, ground := Ground.data }, { on := 8, ground := Ground.data }], guard := none }) (v := ?_) rfl (by kernel_rfl) (by kernel_rfl) (by kernel_rfl) (fun _ _ _ h => h) (Or.inl ⟨by rfl, ?_⟩) (by assumption) ?_
  rotate_left 1
  · intro w hSw
    go_simp
    first | done | with_reducible rfl
  try simp only [Act.put, List.setIfInBounds_toArray, List.set_cons_zero, List.set_cons_succ]
  refine wpAnyH_ready (rs := [10]) (by kernel_rfl) (by simp) ?_
  refine AllReadyH.cons (o := { dst := some 33, op := Op.call { callee := Callee.value (Operand.func 94), args := #[Operand.tmp 7, Operand.tmp 32], argTypes := #[151, 3] }, type := 0, pos := "ip4.go:52", after := #[{ on := 9, ground := Ground.data }, { on := 5, ground := Ground.chain }], guard := none }) rfl (fun K hK => ?_) AllReadyH.nil
  go_simp
  (go_at_call 94; (with_reducible refine C6.out.mono ?_); rintro e w6 ⟨rfl, g1, g2⟩)
  go_simp
  refine hK.out _ _ (S4.out.drew.step g1 g2).hC (fun hHeld => ?_)
  clear hK K
  try simp only [Act.put, List.setIfInBounds_toArray, List.set_cons_zero, List.set_cons_succ]
  refine wpAnyH_done (by kernel_rfl) ?_ _
  refine NoPanic.normal ?_
  simp only [Exit.then]
  clear hHeld z3 BT1 BT2
  have S5 := Lib.hid (S4.out.drew.step g1 g2)
  clear g1 g2 C6
  have C7 := Lib.hid (w8_k (B + 1) (ttl) (be v1 1 ++ be tos 1 ++ be t 2 ++ be id 2 ++ be f1 2) w6 (h4) S5.out.hW (by simp only [List.length_append, be_length, List.length_nil]; omega))
  have k7 := cellAt (i := 3) (v := .int .i64 ttl) S5.out.hC rfl
  go_upto_region 8 with (go_at_call 93; (with_reducible refine C7.out.mono ?_); rintro e w7 ⟨rfl, g1, g2⟩)
  have S6 := Lib.hid (S5.out.step g1 g2)
  clear g1 g2 C7
  clear k7
  have C8 := Lib.hid (w8_k (B + 1) (proto) (be v1 1 ++ be tos 1 ++ be t 2 ++ be id 2 ++ be f1 2 ++ be ttl 1) w7 (h5) S6.out.hW (by simp only [List.length_append, be_length, List.length_nil]; omega))
  have k8 := cellAt (i := 4) (v := .int .i64 proto) S6.out.hC rfl
  go_upto_region 9 with (go_at_call 93; (with_reducible refine C8.out.mono ?_); rintro e w8 ⟨rfl, g1, g2⟩)
  have S7 := Lib.hid (S6.out.step g1 g2)
  clear g1 g2 C8
  clear k8
  have C9 := Lib.hid (w16_k (B + 1) (c) (be v1 1 ++ be tos 1 ++ be t 2 ++ be id 2 ++ be f1 2 ++ be ttl 1 ++ be proto 1) w8 (h10) S7.out.hW (by simp only [List.length_append, be_length, List.length_nil]; omega))
  go_upto_region 10 with (go_at_call 94; (with_reducible refine C9.out.mono ?_); rintro e w9 ⟨rfl, g1, g2⟩)
  have S8 := Lib.hid (S7.out.step g1 g2)
  clear g1 g2 C9
  have k7 := cellAt (i := 7) (v := .string (bs src)) S8.out.hC rfl
  have k8 := cellAt (i := 8) (v := .string (bs dst)) S8.out.hC rfl
  have k9 := cellAt (i := 9) (v := .string (bs opt)) S8.out.hC rfl
  have t1 : ∀ wx, (Op.stringOp .add (bs src) (bs dst)).run Try.prog wx = .ok (.string (bs src ++ bs dst)) wx := fun wx => run_string_add_sum wx _ _ (by rw [bs_size, bs_size]; omega)
  have t2 : ∀ wx, (Op.stringOp .add (bs src ++ bs dst) (bs opt)).run Try.prog wx = .ok (.string (bs src ++ bs dst ++ bs opt)) wx := fun wx => run_string_add_sum wx _ _ (by rw [bs_append, bs_size, bs_size, List.length_append]; omega)
  have CT := Lib.hid (text_k (B + 1) (be v1 1 ++ be tos 1 ++ be t 2 ++ be id 2 ++ be f1 2 ++ be ttl 1 ++ be proto 1 ++ be c 2) (bs src ++ bs dst ++ bs opt) w9 S8.out.hW (by simp only [List.length_append, be_length]; omega) (by rw [bs_append, bs_append, bs_size, List.length_append, List.length_append]; omega))
  go_upto_region 11 with (go_at_call 96; (with_reducible refine CT.out.mono ?_); rintro e w10 ⟨rfl, g1, g2⟩)
  have S9 := Lib.hid (S8.out.step g1 g2)
  clear g1 g2 CT k7 k8 k9 t1 t2
  have CS := Lib.hid (string_k (B + 1) _ w10 S9.out.hW)
  go_wp2_with (go_at_call 97; (with_reducible refine CS.out.mono ?_); rintro e w11 ⟨rfl, g2⟩)
  go_ret
  refine ⟨?_, ?_⟩
  · rw [HR.out, ← HV1.out, ← HF1.out]
    refine congrArg (fun x => Ending.returned (.string (bs x))) ?_
    simp only [List.append_assoc, bs_append, bs_list]
  · exact HB.out.trans ((S9.out.kp.trans g2).below (fun x hx => HA.out x (by rw [← HB0.out] at hx; omega)))
theorem header_any (h : H4) (ho : h.ok) (t c : Nat) (ht : t < 65536) (hcc : c < 65536) (w : World) : Calls Try.prog 74 #[hv h, .int .i64 t, .int .i64 c] w fun e w' => e = .returned (.string (bs (hdB h t c))) ∧ Below w.heap.size w w' := by
  have o1 := ho.tos
  have o2 := ho.id
  have o3 := ho.off
  have o4 := ho.ttl
  have o5 := ho.proto
  have o6 := ho.src
  have o7 := ho.dst
  have o8 := ho.opt
  obtain ⟨tos, id, off, ttl, proto, df, mf, src, dst, opt⟩ := h
  simp only at o1 o2 o3 o4 o5 o6 o7 o8
  obtain ⟨a1, rfl⟩ := Int.eq_ofNat_of_zero_le o1.1
  obtain ⟨a2, rfl⟩ := Int.eq_ofNat_of_zero_le o2.1
  obtain ⟨a3, rfl⟩ := Int.eq_ofNat_of_zero_le o3.1
  obtain ⟨a4, rfl⟩ := Int.eq_ofNat_of_zero_le o4.1
  obtain ⟨a5, rfl⟩ := Int.eq_ofNat_of_zero_le o5.1
  exact header_nat a1 a2 a3 a4 a5 t c df mf src dst opt (by omega) (by omega) (by omega) (by omega) (by omega) o6 o7 o8.1 ht hcc w
end Go.Proofs.Ythdkbocokefdhaa
