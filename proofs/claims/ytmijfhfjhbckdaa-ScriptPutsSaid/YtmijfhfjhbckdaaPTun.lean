import Derived.Test.YtmijfhfjhbckdaaBits
/- putTunnel. -/
namespace Go.Proofs.Ytmijfhfjhbckdaa
set_option maxRecDepth 100000
open Go.RowKit
/-- a writer, and a block beside it -/
structure PSt (b X : Nat) (C : Array Value) (T : TypeId) (w0 : World) (l : List UInt8) (w : World) : Prop where
  wr : IsW b l w
  hX : w.heap[X]? = some (.cells C T (0, 0))
  ap : Apart b X w
  kp : Keeps b w0 w
section
variable {b X : Nat} {C : Array Value} {T : TypeId} {w0 w w' : World} {l l' : List UInt8}
theorem PSt.put (h : PSt b X C T w0 l w) (h1 : IsW b l' w') (h2 : Keeps b w w') : PSt b X C T w0 l' w' := ⟨h1, ((h2.block X h.ap).1).trans h.hX, (h2.block X h.ap).2, h.kp.trans h2⟩
theorem PSt.start (h : IsW b l w) (C : Array Value) (T : TypeId) : PSt b w.heap.size C T w l (w.alloc (.cells C T)) :=
  have hb : Below w.heap.size w (w.alloc (.cells C T)) := (Below.refl _ _).alloc (Nat.le_refl _) _
  ⟨h.keep hb, alloc_new _ _, h.apart rfl _, Keeps.of_below hb h.lt⟩
theorem PSt.below (h : PSt b X C T w0 l w) (hb : Below w.heap.size w w') : PSt b X C T w0 l w' := h.put (h.wr.keep hb) (Keeps.of_below hb h.wr.lt)
end
def tbits (B1 B2 B4 : Bool) : Nat := (if B1 then 1 else 0) + (if B2 then 2 else 0) + (if B4 then 4 else 0)
theorem tbits_lt (B1 B2 B4 : Bool) : tbits B1 B2 B4 < 8 := by cases B1 <;> cases B2 <;> cases B4 <;> decide
def tbn (B1 B2 B4 : Bool) : Nat → Nat
  | 0 => 0
  | 1 => tbits B1 false false
  | 2 => tbits B1 B2 false
  | _ => tbits B1 B2 B4
def tunB (m : Int) (B1 B2 : Bool) (va : Nat) (B4 : Bool) (tt tz : Int) : List UInt8 := be (u64 m) 1 ++ (be (tbits B1 B2 B4) 1 ++ (be va 4 ++ (be (u64 tt) 1 ++ be (u64 tz) 1)))
set_option maxHeartbeats 4000000 in
theorem ptun_any (b : Nat) (m : Int) (B1 B2 : Bool) (va : Nat) (B4 : Bool) (tt tz : Int) (l : List UInt8) (w : World) (h : IsW b l w) (hlen : l.length ≤ 800000000000) (hva : va < 4294967296) (hm : inI m) (ht : inI tt) (hz : inI tz) :
    Calls Try.prog 37 #[.pointer (some ⟨b, 0, none⟩), .agg #[.int .i64 m, .bool B1, .bool B2, .int .u32 (va : Nat), .bool B4, .int .i64 tt, .int .i64 tz]] w fun e w' => e = .returned (.bool (byte3 m tt tz)) ∧ IsW b (l ++ tunB m B1 B2 va B4 tt tz) w' ∧ Keeps b w w' := by
  have S0 := PSt.start h #[.int .i64 m, .bool B1, .bool B2, .int .u32 (va : Nat), .bool B4, .int .i64 tt, .int .i64 tz] 25
  obtain ⟨X, hX⟩ : ∃ X, X = w.heap.size := ⟨_, rfl⟩
  obtain ⟨W, hW⟩ : ∃ W, W = w.alloc (.cells #[.int .i64 m, .bool B1, .bool B2, .int .u32 (va : Nat), .bool B4, .int .i64 tt, .int .i64 tz] 25) := ⟨_, rfl⟩
  rw [← hX, ← hW] at S0
  have ok := byte3_eq m tt tz hm ht hz
  obtain ⟨R, hR⟩ : ∃ R, R = byte3 m tt tz := ⟨_, rfl⟩
  rw [← hR]
  rw [← hR] at ok
  have PS := Lib.hid S0
  have a0 := cellAt (i := 0) (v := .int .i64 m) S0.hX rfl
  have a1 := cellAt (i := 1) (v := .bool B1) S0.hX rfl
  have a2 := cellAt (i := 2) (v := .bool B2) S0.hX rfl
  have a3 := cellAt (i := 3) (v := .int .u32 (va : Nat)) S0.hX rfl
  have a4 := cellAt (i := 4) (v := .bool B4) S0.hX rfl
  have a5 := cellAt (i := 5) (v := .int .i64 tt) S0.hX rfl
  have a6 := cellAt (i := 6) (v := .int .i64 tz) S0.hX rfl
  have o1 : bits .or .i64 0 1 = 1 := by decide
  have o2 : bits .or .i64 0 2 = 2 := by decide
  have o3 : bits .or .i64 1 2 = 3 := by decide
  have o4 : bits .or .i64 0 4 = 4 := by decide
  have o5 : bits .or .i64 1 4 = 5 := by decide
  have o6 : bits .or .i64 2 4 = 6 := by decide
  have o7 : bits .or .i64 3 4 = 7 := by decide
  have ix0 : ∀ V : World, (Instr.index 117 (.agg #[.bool B1, .bool B2, .bool B4]) (.int .i64 0)).run Try.prog V = .ok (.bool B1) V := fun V => by rfl
  have ix1 : ∀ V : World, (Instr.index 117 (.agg #[.bool B1, .bool B2, .bool B4]) (.int .i64 1)).run Try.prog V = .ok (.bool B2) V := fun V => by rfl
  have ix2 : ∀ V : World, (Instr.index 117 (.agg #[.bool B1, .bool B2, .bool B4]) (.int .i64 2)).run Try.prog V = .ok (.bool B4) V := fun V => by rfl
  have HL := Lib.hid hlen
  have HV := Lib.hid hva
  have HR := Lib.hid hR
  clear h S0 hlen hva hm ht hz hR
  go_enter Try.func37, Try.ntmps37
  go_upto_region 2 with (fail)
  rw [← hW, ← hX]
  clear hW hX
  go_wp2_with (fail)
  go_loop [5, 15] (fun bts k => ∃ j : Nat, j ≤ 3 ∧ k = .int .i64 j ∧ bts = .int .i64 (tbn B1 B2 B4 j : Nat)) (fun _ k => 3 - (intOf k).toNat)
  case atStart => exact ⟨0, by omega, rfl, rfl⟩
  case round =>
    obtain ⟨j, hj, rfl, rfl⟩ := hrel
    have hj4 : j = 0 ∨ j = 1 ∨ j = 2 ∨ j = 3 := by omega
    rcases hj4 with rfl | rfl | rfl | rfl
    · have e : ((tbn B1 B2 B4 0 : Nat) : Int) = 0 := rfl
      rw [e]
      clear ix1 ix2
      cases B1 <;> (go_wp2_with (fail); exact ⟨⟨1, by omega, rfl, rfl⟩, by simp [intOf]⟩)
    · clear ix0 ix2
      cases B1 <;> cases B2 <;> (simp only [tbn, tbits]; go_wp2_with (fail); exact ⟨⟨2, by omega, rfl, rfl⟩, by simp [intOf]⟩)
    · clear ix0 ix1
      cases B1 <;> cases B2 <;> cases B4 <;> (simp only [tbn, tbits]; go_wp2_with (fail); exact ⟨⟨3, by omega, rfl, rfl⟩, by simp [intOf]⟩)
    · obtain ⟨t, ht⟩ : ∃ t, t = tbits B1 B2 B4 := ⟨_, rfl⟩
      have e : ((tbn B1 B2 B4 3 : Nat) : Int) = (t : Int) := by rw [ht]; rfl
      have ht8 : t < 8 := by rw [ht]; exact tbits_lt _ _ _
      have HT := Lib.hid ht
      rw [e]
      clear ix0 ix1 ix2 e ht
      have ht9 : u64 (t : Int) = t := u64_nat t (by omega)
      have HT9 := Lib.hid ht9
      clear ht9
      have W1 : Hid (Calls Try.prog 35 #[.pointer (some ⟨b, 0, none⟩), .int .i64 m] W fun e w' => e = .returned (.tuple #[]) ∧ IsW b (l ++ be (u64 m) 1) w' ∧ Keeps b W w') := w8_z b m l W PS.out.wr (by have := HL.out; omega)
      go_wp2_with (fail)
      (with_reducible refine W1.out.mono ?_)
      clear W1
      rintro e w1 ⟨rfl, h1, h2⟩
      have P1 := Lib.hid (PS.out.put h1 h2)
      clear h1 h2
      have b13 := cellAt (i := 3) (v := .int .u32 (va : Nat)) P1.out.hX rfl
      have W2 : Hid (Calls Try.prog 35 #[.pointer (some ⟨b, 0, none⟩), .int .i64 (t : Nat)] w1 fun e w' => e = .returned (.tuple #[]) ∧ IsW b ((l ++ be (u64 m) 1) ++ be (u64 (t : Int)) 1) w' ∧ Keeps b w1 w') := w8_z b (t : Int) _ w1 P1.out.wr (by have := HL.out; simp only [List.length_append, be_length]; omega)
      go_wp2_with (fail)
      (with_reducible refine W2.out.mono ?_)
      clear W2
      rintro e w2 ⟨rfl, h1, h2⟩
      have P2 := Lib.hid (P1.out.put h1 h2)
      clear h1 h2
      have b23 := cellAt (i := 3) (v := .int .u32 (va : Nat)) P2.out.hX rfl
      have W3 : Hid (Calls Try.prog 40 #[.pointer (some ⟨b, 0, none⟩), .int .u32 (va : Nat)] w2 fun e w' => e = .returned (.tuple #[]) ∧ IsW b (((l ++ be (u64 m) 1) ++ be (u64 (t : Int)) 1) ++ be va 4) w' ∧ Keeps b w2 w') := w32_k b va _ w2 HV.out P2.out.wr (by have := HL.out; simp only [List.length_append, be_length]; omega)
      go_wp2_with (fail)
      (with_reducible refine W3.out.mono ?_)
      clear W3
      rintro e w3 ⟨rfl, h1, h2⟩
      have P3 := Lib.hid (P2.out.put h1 h2)
      clear h1 h2
      have b35 := cellAt (i := 5) (v := .int .i64 tt) P3.out.hX rfl
      have W4 : Hid (Calls Try.prog 35 #[.pointer (some ⟨b, 0, none⟩), .int .i64 tt] w3 fun e w' => e = .returned (.tuple #[]) ∧ IsW b ((((l ++ be (u64 m) 1) ++ be (u64 (t : Int)) 1) ++ be va 4) ++ be (u64 tt) 1) w' ∧ Keeps b w3 w') := w8_z b tt _ w3 P3.out.wr (by have := HL.out; simp only [List.length_append, be_length]; omega)
      go_wp2_with (fail)
      (with_reducible refine W4.out.mono ?_)
      clear W4
      rintro e w4 ⟨rfl, h1, h2⟩
      have P4 := Lib.hid (P3.out.put h1 h2)
      clear h1 h2
      have b46 := cellAt (i := 6) (v := .int .i64 tz) P4.out.hX rfl
      have W5 : Hid (Calls Try.prog 35 #[.pointer (some ⟨b, 0, none⟩), .int .i64 tz] w4 fun e w' => e = .returned (.tuple #[]) ∧ IsW b (((((l ++ be (u64 m) 1) ++ be (u64 (t : Int)) 1) ++ be va 4) ++ be (u64 tt) 1) ++ be (u64 tz) 1) w' ∧ Keeps b w4 w') := w8_z b tz _ w4 P4.out.wr (by have := HL.out; simp only [List.length_append, be_length]; omega)
      go_wp2_with (fail)
      (with_reducible refine W5.out.mono ?_)
      clear W5
      rintro e w5 ⟨rfl, h1, h2⟩
      have P5 := Lib.hid (P4.out.put h1 h2)
      clear h1 h2
      have b50 := cellAt (i := 0) (v := .int .i64 m) P5.out.hX rfl
      have b55 := cellAt (i := 5) (v := .int .i64 tt) P5.out.hX rfl
      have b56 := cellAt (i := 6) (v := .int .i64 tz) P5.out.hX rfl
      go_wp2_with (fail)
      go_ret
      have e9 : (((((l ++ be (u64 m) 1) ++ be (u64 (t : Int)) 1) ++ be va 4) ++ be (u64 tt) 1) ++ be (u64 tz) 1) = l ++ tunB m B1 B2 va B4 tt tz := by
        unfold tunB
        rw [HT9.out, ← HT.out]
        simp only [List.append_assoc]
      have q := P5.out.wr
      rw [e9] at q
      exact ⟨rfl, q, P5.out.kp⟩
end Go.Proofs.Ytmijfhfjhbckdaa
