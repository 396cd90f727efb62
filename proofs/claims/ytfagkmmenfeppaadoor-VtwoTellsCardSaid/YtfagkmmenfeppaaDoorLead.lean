import Derived.Test.YtfagkmmenfeppaaDoorFind
import Derived.Test.YtfagkmmenfeppaaDoorReadL
import Derived.StillTailTactics
import Derived.Deep.RegionHeld3
import Derived.Deep.RegionWith
import Derived.RegionDies
/- The families asked for, by number and by byte; lead. -/
namespace Go.Proofs.YtfagkmmenfeppaaDoor
set_option maxRecDepth 100000
open Go.RowKit
/-- all old blocks but those of a list are as they were -/
structure Save (l : List Nat) (w w' : World) : Prop where
  os : w'.os = w.os
  tape : w'.tape = w.tape
  output : w'.output = w.output
  size : w.heap.size ≤ w'.heap.size
  block : ∀ k, k < w.heap.size → k ∉ l → w'.heap[k]? = w.heap[k]?
theorem Save.refl (l : List Nat) (w : World) : Save l w w := ⟨rfl, rfl, rfl, Nat.le_refl _, fun _ _ _ => rfl⟩
theorem Save.trans {l : List Nat} {w w1 w2 : World} (h : Save l w w1) (k : Save l w1 w2) : Save l w w2 :=
  ⟨k.os.trans h.os, k.tape.trans h.tape, k.output.trans h.output, Nat.le_trans h.size k.size, fun i hi hn => (k.block i (Nat.lt_of_lt_of_le hi h.size) hn).trans (h.block i hi hn)⟩
theorem Save.mono {l m : List Nat} {w w' : World} (h : Save l w w') (hm : ∀ k, k ∈ l → k ∈ m) : Save m w w' := ⟨h.os, h.tape, h.output, h.size, fun k hk hn => h.block k hk (fun hl => hn (hm k hl))⟩
theorem Save.of_below {l : List Nat} {w w' : World} (h : Below w.heap.size w w') : Save l w w' := ⟨h.os, h.tape, h.output, h.size, fun k hk _ => h.block k hk⟩
theorem But.save {b : Nat} {l : List Nat} {w w' : World} (h : But b w w') (hb : b ∈ l) : Save l w w' := ⟨h.os, h.tape, h.output, h.size, fun k hk hn => h.block k hk (fun e => hn (e ▸ hb))⟩
theorem Save.drew {l : List Nat} {w w' : World} (h : Save l w w') : Save l w w'.drew := ⟨h.os, h.tape, h.output, h.size, h.block⟩
theorem Save.drewN {l : List Nat} {w w' : World} (h : Save l w w') (n : Nat) : Save l w (w'.drewN n) := ⟨h.os, h.tape, h.output, h.size, h.block⟩
theorem Save.set {l : List Nat} {w w' : World} (h : Save l w w') {p : Addr} (hp : p.block ∈ l ∨ w.heap.size ≤ p.block) (v : Value) : Save l w (w'.setCell p v) :=
  ⟨h.os, h.tape, h.output, by simpa [World.setCell] using h.size, fun k hk hn => by
    rw [Below.heap_setCell _ _ _ _ (fun e => by
      rcases hp with h1 | h1
      · exact hn (e ▸ h1)
      · omega)]
    exact h.block k hk hn⟩
theorem Save.alloc {l : List Nat} {w w' : World} (h : Save l w w') (o : Obj) : Save l w (w'.alloc o) :=
  h.trans (Save.of_below ((Below.refl _ _).alloc (Nat.le_refl _) _))
theorem Save.below {l : List Nat} {B : Nat} {w w' : World} (h : Save l w w') (h1 : ∀ k ∈ l, B ≤ k) (h2 : B ≤ w.heap.size) : Below B w w' :=
  ⟨h.os, h.tape, h.output, h.size, fun k hk => h.block k (by omega) (fun hl => by have := h1 k hl; omega)⟩
theorem heap_lt {w : World} {k : Nat} {o : Obj} (h : w.heap[k]? = some o) : k < w.heap.size := by
  rcases Nat.lt_or_ge k w.heap.size with h' | h'
  · exact h'
  · simp [Array.getElem?_eq_none h'] at h
set_option maxHeartbeats 1000000 in
theorem is40 (S : Nat) (fam : Int) (f : Fam) (w : World) (h : w.cell? ⟨S, 1, none⟩ = some (.int .i64 fam)) (hS : S < w.heap.size) :
    Calls Tryd.prog 40 (#[famV f] ++ #[.pointer (some ⟨S, 0, none⟩)]) w fun e w' => e = .returned (.bool ((f.1 : Int) == fam)) ∧ Below w.heap.size w w' := by
  obtain ⟨fn, fc, fz⟩ := f
  have h2 : (w.alloc (.cells #[.int .i64 fn, .int .i64 fc, .int .i64 fz] 48)).cell? ⟨S, 1, none⟩ = some (.int .i64 fam) := by
    rw [((Below.refl w.heap.size w).alloc (Nat.le_refl _) _).cell (p := ⟨S, 1, none⟩) hS]; exact h
  clear h
  show Calls Tryd.prog 40 #[.agg #[.int .i64 fn, .int .i64 fc, .int .i64 fz], .pointer (some ⟨S, 0, none⟩)] w _
  go_enter Tryd.func40, Tryd.ntmps40
  go_wp2_with (fail)
  go_ret
  exact ⟨rfl, (Below.refl _ _).alloc (Nat.le_refl _) _⟩
set_option maxHeartbeats 1000000 in
theorem is18 (S : Nat) (fam : Int) (f : Fam) (w : World) (h : w.cell? ⟨S, 1, none⟩ = some (.int .i64 fam)) (hS : S < w.heap.size) :
    Calls Tryd.prog 18 (#[famV f] ++ #[.pointer (some ⟨S, 0, none⟩)]) w fun e w' => e = .returned (.bool ((f.1 : Int) == fam)) ∧ Below w.heap.size w w' := by
  obtain ⟨fn, fc, fz⟩ := f
  have h2 : (w.alloc (.cells #[.int .i64 fn, .int .i64 fc, .int .i64 fz] 48)).cell? ⟨S, 1, none⟩ = some (.int .i64 fam) := by
    rw [((Below.refl w.heap.size w).alloc (Nat.le_refl _) _).cell (p := ⟨S, 1, none⟩) hS]; exact h
  clear h
  show Calls Tryd.prog 18 #[.agg #[.int .i64 fn, .int .i64 fc, .int .i64 fz], .pointer (some ⟨S, 0, none⟩)] w _
  go_enter Tryd.func18, Tryd.ntmps18
  go_wp2_with (fail)
  go_ret
  exact ⟨rfl, (Below.refl _ _).alloc (Nat.le_refl _) _⟩
set_option maxHeartbeats 1000000 in
theorem is50 (S : Nat) (fam : Int) (f : Fam) (w : World) (h : w.cell? ⟨S, 0, none⟩ = some (.int .i64 fam)) (hS : S < w.heap.size) :
    Calls Tryd.prog 50 (#[famV f] ++ #[.pointer (some ⟨S, 0, none⟩)]) w fun e w' => e = .returned (.bool ((f.2.1 : Int) == fam)) ∧ Below w.heap.size w w' := by
  obtain ⟨fn, fc, fz⟩ := f
  have h2 : (w.alloc (.cells #[.int .i64 fn, .int .i64 fc, .int .i64 fz] 48)).cell? ⟨S, 0, none⟩ = some (.int .i64 fam) := by
    rw [((Below.refl w.heap.size w).alloc (Nat.le_refl _) _).cell (p := ⟨S, 0, none⟩) hS]; exact h
  clear h
  show Calls Tryd.prog 50 #[.agg #[.int .i64 fn, .int .i64 fc, .int .i64 fz], .pointer (some ⟨S, 0, none⟩)] w _
  go_enter Tryd.func50, Tryd.ntmps50
  go_wp2_with (fail)
  go_ret
  exact ⟨rfl, (Below.refl _ _).alloc (Nat.le_refl _) _⟩
def famOf (d : UInt8) : Option Fam := fams.find? (fun f => (f.2.1 : Int) == d.toNat)
def leadT (k : Nat) : List UInt8 → Except Nat (Bool × Fam × Nat)
  | [] => .error 2
  | d :: l => match famOf d with
    | none => .error 6
    | some f => if l.length < 2 then .error 2 else .ok (k == 0, f, bv (l.take 2))
def leadE : List UInt8 → Except Nat (Bool × Fam × Nat)
  | [] => .error 2
  | c :: l => if c.toNat / 16 ≠ 2 then .error 3 else if 2 ≤ c.toNat % 16 then .error 9 else leadT (c.toNat % 16) l
theorem cellAt {w : World} {X i : Nat} {C : Array Value} {t : TypeId} {v : Value} (h : w.heap[X]? = some (.cells C t (0, 0))) (hi : C[i]? = some v) : w.cell? ⟨X, i, none⟩ = some v := by
  rw [Lib.cell_of_heap h]; exact hi
theorem bv_one (c : UInt8) (l : List UInt8) : bv ((c :: l).take 1) = c.toNat := by simp [bv]
theorem and15 (c : Nat) (hc : c < 256) : bits .and .i64 (c : Int) 15 = ((c % 16 : Nat) : Int) := by
  have : ∀ c : Nat, c < 256 → bits .and .i64 (c : Int) 15 = ((c % 16 : Nat) : Int) := by decide +kernel
  exact this c hc
theorem heap_set {w : World} {X i : Nat} {C : Array Value} {t : TypeId} (h : w.heap[X]? = some (.cells C t (0, 0))) (hi : i < C.size) (v : Value) : (w.setCell ⟨X, i, none⟩ v).heap[X]? = some (.cells (C.set i v) t (0, 0)) := by
  simp [World.setCell, Array.getElem?_modify, h, hi]
  rw [Array.setIfInBounds_def, dif_pos hi]
theorem call50 (args : Array Value) (W : World) : (callFunc 50 args).run Tryd.prog W = .ok (.enter 50 args) W := rfl
theorem call40 (args : Array Value) (W : World) : (callFunc 40 args).run Tryd.prog W = .ok (.enter 40 args) W := rfl
theorem call18 (args : Array Value) (W : World) : (callFunc 18 args).run Tryd.prog W = .ok (.enter 18 args) W := rfl
theorem FamAt.save {l : List Nat} {w w' : World} (h : FamAt w) (hs : Save l w w') (h0 : 0 ∉ l) : FamAt w' := by
  have hp := h.pos
  obtain ⟨t, fr, h⟩ := h
  exact ⟨t, fr, by rw [hs.block 0 hp h0]; exact h⟩
theorem find50 (K : Nat) (d : UInt8) (w : World) (hf : FamAt w) (hK : w.heap[K]? = some (.cells #[.int .i64 (d.toNat : Int)] 3 (0, 0))) :
    Calls Tryd.prog 17 #[.func (.func 50) #[] #[.pointer (some ⟨K, 0, none⟩)]] w fun e w' => e = .returned (.tuple #[famV ((famOf d).getD (0, 0, 0)), .bool (famOf d).isSome]) ∧ Below w.heap.size w w' :=
  find_any 50 _ (fun f => (f.2.1 : Int) == d.toNat) w hf call50 (fun f _ W hW => is50 K d.toNat f W (by rw [hW.cell (p := ⟨K, 0, none⟩) (heap_lt hK)]; exact cellAt hK rfl) (Nat.lt_of_lt_of_le (heap_lt hK) hW.size))
theorem lead_end {O n fn fc fz : Nat} {W : World} {tmps : Array Value} (h2 : tmps.getD 4 undef = .pointer (some ⟨O, 0, none⟩)) (h3 : tmps.getD 5 undef = .int .i64 n)
    (h : W.heap[O]? = some (.cells #[.int .i64 fn, .int .i64 fc, .int .i64 fz] 48 (0, 0))) : (results Tryd.f36 tmps).run Tryd.prog W = .ok (.tuple #[famV (fn, fc, fz), .int .i64 n]) W := by
  have c0 : W.cell? ⟨O, 0, none⟩ = some (.int .i64 fn) := cellAt h rfl
  have c1 : W.cell? ⟨O, 1, none⟩ = some (.int .i64 fc) := cellAt h rfl
  have c2 : W.cell? ⟨O, 2, none⟩ = some (.int .i64 fz) := cellAt h rfl
  simp at h2 h3
  simp [results, Tryd.results36, go_sem, h2, h3, c0, c1, c2, famV]
def LeadPost (X R : Nat) (s : ByteArray) (l : List UInt8) (V : Array Value) (w : World) (e : Ending) (w' : World) : Prop :=
  (∃ c, leadE l = .error c ∧ e = .panicked (stopped c) ∧ Save [X, R] w w') ∨
  (∃ loc f n, leadE l = .ok (loc, f, n) ∧ e = .returned (.tuple #[famV f, .int .i64 (n : Nat)]) ∧ Rl R s (l.drop 4) w' ∧ w'.heap[X]? = some (.cells (V.set! 0 (.bool loc)) 74 (0, 0)) ∧ Save [X, R] w w')
set_option maxHeartbeats 8000000 in
theorem lead_any (X R : Nat) (s : ByteArray) (l : List UInt8) (v0 v1 v2 v3 v4 v5 v6 v7 v8 : Value) (w : World) (hR : Rl R s l w) (hX : w.heap[X]? = some (.cells #[v0, v1, v2, v3, v4, v5, v6, v7, v8] 74 (0, 0))) (hXR : X ≠ R) (hf : FamAt w) (h0 : X ≠ 0) (h0' : R ≠ 0) (hs : s.size ≤ MX) :
    Calls Tryd.prog 36 #[.pointer (some ⟨X, 0, none⟩), .pointer (some ⟨R, 0, none⟩)] w (LeadPost X R s l #[v0, v1, v2, v3, v4, v5, v6, v7, v8] w) := by
  have HX := Lib.hid hX
  have HF := Lib.hid hf
  have HRlt := Lib.hid hR.lt
  have hal := (Below.refl w.heap.size w).alloc (Nat.le_refl _) (.cells #[.int .i64 0, .int .i64 0, .int .i64 0] 48)
  have hR1 : Rl R s l (w.alloc (.cells #[.int .i64 0, .int .i64 0, .int .i64 0] 48)) := hR.same (hal.block R hR.lt)
  have hX1 := (hal.block X (heap_lt hX)).trans hX
  have HA := Lib.hid hal
  clear hX hf hal
  rcases l with _ | ⟨c, l⟩
  · have C := Lib.hid (u8_l_no R s [] _ hR1 (by simp) hs)
    clear hR hR1 hX1
    go_enter Tryd.func36, Tryd.ntmps36
    go_wp2_with (go_at_call 49; refine C.out.mono ?_)
    rintro e w1 ⟨rfl, h1, hb1⟩
    exact ⟨rfl, .inl ⟨2, rfl, rfl, (Save.of_below HA.out).trans (hb1.save (by simp))⟩⟩
  · have C := u8_l R s (c :: l) _ hR1 (by simp) hs
    rw [bv_one] at C
    have C := Lib.hid C
    have HX1 := Lib.hid hX1
    have hc := c.toNat_lt
    obtain ⟨k, hk⟩ : ∃ k, k = c.toNat % 16 := ⟨_, rfl⟩
    have h15 := and15 c.toNat hc
    rw [← hk] at h15
    have HK := Lib.hid hk
    clear hR hR1 hX1 hk
    by_cases hv : c.toNat / 16 = 2
    · have hv1 : (((c.toNat : Int) / 16) == 2) = true := by rw [beq_iff_eq]; omega
      have hv2 := Lib.hid hv
      clear hv
      by_cases hk2 : k < 2
      · have hk3 : decide ((k : Int) < 2) = true := decide_eq_true (by omega)
        have HL : Hid (leadE (c :: l) = leadT k l) := by
          show leadE _ = _
          simp only [leadE]
          rw [if_neg (by have := hv2.out; omega), if_neg (by rw [← HK.out]; omega), ← HK.out]
        go_enter Tryd.func36, Tryd.ntmps36
        go_wp2_with (first | (go_at_call 49; (with_reducible refine C.out.mono ?_); rintro e w1 ⟨rfl, h1, hb1⟩; clear C; have H1 := Lib.hid h1; have hX1 := (hb1.block X (heap_lt HX1.out) hXR).trans HX1.out; have hXf := Lib.frozen_of_heap hX1 0; have hXc := cellAt (i := 0) hX1 rfl; have hX2 := Lib.hid hX1; clear h1 hX1) | (go_at_call 34; (with_reducible refine (need_yes _ _ _).mono ?_); rintro e w1 ⟨rfl, rfl⟩))
        obtain ⟨w2, hw2⟩ : ∃ w2, w2 = w1.setCell ⟨X, 0, none⟩ (.bool ((k : Int) == 0)) := ⟨_, rfl⟩
        have S1 : Save [X, R] (w.alloc (.cells #[.int .i64 0, .int .i64 0, .int .i64 0] 48)) w1 := hb1.save (by simp)
        have S2 : Save [X, R] (w.alloc (.cells #[.int .i64 0, .int .i64 0, .int .i64 0] 48)) w2 := by rw [hw2]; exact S1.set (.inl (by simp)) _
        have X2 : w2.heap[X]? = some (.cells #[.bool ((k : Int) == 0), v1, v2, v3, v4, v5, v6, v7, v8] 74 (0, 0)) := by rw [hw2]; exact heap_set hX2.out (by simp) _
        have R2 : Rl R s l w2 := H1.out.same (by rw [hw2]; exact Below.heap_setCell _ _ _ _ (fun e => hXR e.symm))
        rw [← hw2]
        have HS2 := Lib.hid S2
        have HX2 := Lib.hid X2
        clear hw2 S1 S2 X2 hX2 H1 hXf hXc hb1
        rcases l with _ | ⟨d, l⟩
        · have C2 := Lib.hid (u8_l_no R s [] _ R2 (by simp) hs)
          clear R2
          refine C2.out.mono ?_
          rintro e w3 ⟨rfl, h3, hb3⟩
          exact ⟨rfl, .inl ⟨2, HL.out, rfl, (Save.of_below HA.out).trans (HS2.out.trans (hb3.save (by simp)))⟩⟩
        · have C2 := u8_l R s (d :: l) _ R2 (by simp) hs
          rw [bv_one] at C2
          have C2 := Lib.hid C2
          have hd := d.toNat_lt
          clear R2
          refine C2.out.mono ?_
          clear C2
          rintro e w3 ⟨rfl, h3, hb3⟩
          have h3 : Rl R s l w3 := h3
          have S3 := HS2.out.trans (hb3.save (l := [X, R]) (by simp))
          have X3 := (hb3.block X (heap_lt HX2.out) hXR).trans HX2.out
          have hK := alloc_new w3 (.cells #[.int .i64 (d.toNat : Int)] 3)
          have S4 := S3.alloc (.cells #[.int .i64 (d.toNat : Int)] 3)
          have hal3 := (Below.refl w3.heap.size w3).alloc (Nat.le_refl _) (.cells #[.int .i64 (d.toNat : Int)] 3)
          have R4 : Rl R s l (w3.alloc (.cells #[.int .i64 (d.toNat : Int)] 3)) := h3.same (hal3.block R h3.lt)
          have X4 := (hal3.block X (heap_lt X3)).trans X3
          have F := Lib.hid (find50 w3.heap.size d _ (((HF.out.below HF.out.pos HA.out)).save S4 (by simp; omega)) hK)
          have HS4 := Lib.hid S4
          have HR4 := Lib.hid R4
          have HX4 := Lib.hid X4
          have hmf := fun (fn : Fn) (first cap : Array Value) (w : World) => make_run fn first cap w
          clear h3 S3 X3 hK S4 hal3 R4 X4 hb3
          cases hfo : famOf d with
          | none =>
            rw [hfo] at F
            have HE : Hid (leadE (c :: d :: l) = .error 6) := by
              show leadE _ = _
              rw [HL.out]; simp only [leadT]; rw [hfo]
            simp only [Option.getD_none, Option.isSome_none, famV] at F
            clear hfo
            go_wp2_with (first | (go_at_call 17; (with_reducible refine F.out.mono ?_); rintro e w5 ⟨rfl, hb5⟩) | (go_at_call 34; refine (need_no _ 6 _).mono ?_; rintro e w6 ⟨rfl, rfl⟩))
            exact ⟨rfl, .inl ⟨6, HE.out, rfl, (Save.of_below HA.out).trans ((HS4.out.trans (Save.of_below hb5)).alloc _)⟩⟩
          | some f =>
            obtain ⟨fn, fc, fz⟩ := f
            rw [hfo] at F
            have HL2 : Hid (leadE (c :: d :: l) = if l.length < 2 then .error 2 else .ok (k == 0, (fn, fc, fz), bv (l.take 2))) := by
              show leadE _ = _
              rw [HL.out]; simp only [leadT]; rw [hfo]
            simp only [Option.getD_some, Option.isSome_some, famV] at F
            clear hfo
            go_wp2_with (first | (go_at_call 17; (with_reducible refine F.out.mono ?_); rintro e w5 ⟨rfl, hb5⟩) | (go_at_call 34; (with_reducible refine (need_yes _ _ _).mono ?_); rintro e w6 ⟨rfl, rfl⟩))
            have S6 := (HS4.out.trans (Save.of_below hb5)).alloc (.cells #[.int .i64 fn, .int .i64 fc, .int .i64 fz] 48)
            have B6 := hb5.trans ((Below.refl _ w5).alloc hb5.size (.cells #[.int .i64 fn, .int .i64 fc, .int .i64 fz] 48))
            have R6 := HR4.out.same (B6.block R HR4.out.lt)
            have X6 := (B6.block X (heap_lt HX4.out)).trans HX4.out
            have F6 := alloc_new w5 (.cells #[.int .i64 fn, .int .i64 fc, .int .i64 fz] 48)
            have O6 := (S6.block w.heap.size (heap_lt (alloc_new w _)) (by have := heap_lt HX.out; have := HRlt.out; simp; omega)).trans (alloc_new w (.cells #[.int .i64 0, .int .i64 0, .int .i64 0] 48))
            have hF : w5.heap.size ≠ R := by have := HR4.out.lt; have := hb5.size; omega
            have hO : w.heap.size ≠ R := by have := HRlt.out; omega
            have hgO : ¬ w5.heap.size = w.heap.size := by have := S6.size; have := hb5.size; have h := HR4.out.lt; have := HS4.out.size; simp at *; omega
            have hO5 : w.heap.size ≠ X := by have := heap_lt HX.out; omega
            obtain ⟨g, hg⟩ : ∃ g, g = w5.heap.size := ⟨_, rfl⟩
            rw [← hg] at F6 hF hgO
            have hgO2 : ¬ w.heap.size = g := fun e => hgO e.symm
            rw [← hg]
            generalize w5.alloc (.cells #[.int .i64 fn, .int .i64 fc, .int .i64 fz] 48) = w6 at *
            have HS6 := Lib.hid S6
            have HX6 := Lib.hid X6
            have HF6 := Lib.hid F6
            have HO6 := Lib.hid O6
            have c0 := cellAt (i := 0) F6 rfl
            have c1 := cellAt (i := 1) F6 rfl
            have c2 := cellAt (i := 2) F6 rfl
            simp at c0 c1 c2
            by_cases hl : l.length < 2
            · have C3 := Lib.hid (u16_l_no R s l w6.drew R6 hl hs)
              rw [if_pos hl] at HL2
              clear S6 B6 R6 X6 F6 O6 hb5 F HS4 HR4 HX4 hg
              go_region_dies
              all_goals ((with_reducible refine C3.out.mono ?_); rintro e w8 ⟨rfl, h8, hb8⟩; exact ⟨rfl, .inl ⟨2, HL2.out, rfl, (Save.of_below HA.out).trans (HS6.out.drew.trans (hb8.save (List.mem_cons_of_mem _ (List.mem_singleton.2 rfl))))⟩⟩)
            · have C3 := Lib.hid (u16_l R s l w6.drew R6 (by omega) hs)
              rw [if_neg hl] at HL2
              have hkeep : Hid (∀ W, But R w6.drew W → W.cell? ⟨g, 0, none⟩ = some (.int .i64 fn) ∧ W.cell? ⟨g, 1, none⟩ = some (.int .i64 fc) ∧ W.cell? ⟨g, 2, none⟩ = some (.int .i64 fz) ∧ W.cell? ⟨w.heap.size, 0, none⟩ = some (.int .i64 0) ∧ W.cell? ⟨w.heap.size, 1, none⟩ = some (.int .i64 0) ∧ W.cell? ⟨w.heap.size, 2, none⟩ = some (.int .i64 0) ∧ W.frozen? ⟨w.heap.size, 0, none⟩ = false ∧ W.frozen? ⟨w.heap.size, 1, none⟩ = false ∧ W.frozen? ⟨w.heap.size, 2, none⟩ = false) := fun W hW => by
                have h := (hW.block g (heap_lt F6) hF).trans F6
                have h' := (hW.block w.heap.size (heap_lt O6) hO).trans O6
                exact ⟨cellAt h rfl, cellAt h rfl, cellAt h rfl, cellAt h' rfl, cellAt h' rfl, cellAt h' rfl, Lib.frozen_of_heap h' 0, Lib.frozen_of_heap h' 1, Lib.frozen_of_heap h' 2⟩
              clear S6 B6 R6 X6 F6 O6 hb5 F HS4 HR4 HX4 hg
              go_region_held3 (fun w' => w'.cell? ⟨g, 0, none⟩ = some (.int .i64 fn) ∧ w'.cell? ⟨g, 1, none⟩ = some (.int .i64 fc) ∧ w'.cell? ⟨g, 2, none⟩ = some (.int .i64 fz)) (go_keep) ((go_simp; go_at_call 51; (with_reducible refine C3.out.mono ?_); rintro e w8 ⟨rfl, h8, hb8⟩; obtain ⟨k0, k1, k2, k3, k4, k5, k6, k7, k8⟩ := hkeep.out w8 hb8))
              simp only [Exit.then]
              go_wp2_with (fail)
              have O8 := (hb8.block w.heap.size (heap_lt HO6.out) hO).trans HO6.out
              have X8 := (hb8.block X (heap_lt HX6.out) hXR).trans HX6.out
              refine bodyPost_ret (lead_end (O := w.heap.size) (fn := fn) (fc := fc) (fz := fz) (n := bv (l.take 2)) rfl rfl (set3 O8)) rfl (.inr ⟨_, _, _, HL2.out, rfl, ?_, ?_, ?_⟩)
              · refine h8.same ?_
                rw [Below.heap_setCell _ _ _ _ (fun e => hO e.symm), Below.heap_setCell _ _ _ _ (fun e => hO e.symm), Below.heap_setCell _ _ _ _ (fun e => hO e.symm)]
              · rw [Below.heap_setCell _ _ _ _ (fun e => hO5 e.symm), Below.heap_setCell _ _ _ _ (fun e => hO5 e.symm), Below.heap_setCell _ _ _ _ (fun e => hO5 e.symm), X8, show ((k : Int) == 0) = (k == 0) by rw [Bool.eq_iff_iff]; simp]
                rfl
              · have S8 := HS6.out.drew.trans (hb8.save (l := [X, R]) (by simp))
                have S9 := (Save.of_below HA.out).trans S8
                exact ((S9.set (p := ⟨w.heap.size, 0, none⟩) (.inr (Nat.le_refl _)) _).set (p := ⟨w.heap.size, 1, none⟩) (.inr (Nat.le_refl _)) _).set (p := ⟨w.heap.size, 2, none⟩) (.inr (Nat.le_refl _)) _
      · have hk3 : decide ((k : Int) < 2) = false := decide_eq_false (by omega)
        have HE : Hid (leadE (c :: l) = .error 9) := by
          show leadE _ = _
          simp only [leadE]
          rw [if_neg (by have := hv2.out; omega), if_pos (by rw [← HK.out]; omega)]
        go_enter Tryd.func36, Tryd.ntmps36
        go_wp2_with (first | (go_at_call 49; refine C.out.mono ?_; rintro e w1 ⟨rfl, h1, hb1⟩; have H1 := Lib.hid h1; clear h1) | (go_at_call 34; (with_reducible refine (need_yes _ _ _).mono ?_); rintro e w1 ⟨rfl, rfl⟩) | (go_at_call 34; refine (need_no _ 9 _).mono ?_; rintro e w1 ⟨rfl, rfl⟩))
        exact ⟨rfl, .inl ⟨9, HE.out, rfl, (Save.of_below HA.out).trans (hb1.save (by simp))⟩⟩
    · have hv1 : (((c.toNat : Int) / 16) == 2) = false := by rw [beq_eq_false_iff_ne]; omega
      have HE : Hid (leadE (c :: l) = .error 3) := by show leadE _ = _; simp only [leadE]; rw [if_pos hv]
      clear hv
      go_enter Tryd.func36, Tryd.ntmps36
      go_wp2_with (first | (go_at_call 49; refine C.out.mono ?_; rintro e w1 ⟨rfl, h1, hb1⟩; have H1 := Lib.hid h1; clear h1) | (go_at_call 34; refine (need_no _ 3 _).mono ?_; rintro e w1 ⟨rfl, rfl⟩))
      exact ⟨rfl, .inl ⟨3, HE.out, rfl, (Save.of_below HA.out).trans (hb1.save (by simp))⟩⟩
end Go.Proofs.YtfagkmmenfeppaaDoor
