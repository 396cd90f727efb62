import Derived.Test.YtfagkmmenfeppaaDoorFields
import Derived.Test.YtfagkmmenfeppaaDoorPlain
import Derived.Test.YtfagkmmenfeppaaDoorCrcWalkC
import Derived.Deep.RegionHeld2
import Derived.Deep.DeepCutAuto
/- follow: what follows. -/
namespace Go.Proofs.YtfagkmmenfeppaaDoor
set_option maxRecDepth 100000
open Go.RowKit
/-- a header's fields but its Fields: family, source, target, ports -/
abbrev Hd := Nat × List UInt8 × List UInt8 × Nat × Nat
def headE (loc : Bool) (f : Fam) (l : List UInt8) : Except Nat (Hd × List UInt8) :=
  if 0 < f.2.2 then
    if l.length < 2 * f.2.2 + 4 then .error 4
    else .ok (if loc then (0, [], [], 0, 0) else (f.1, l.take f.2.2, (l.drop f.2.2).take f.2.2, bv (((l.drop f.2.2).drop f.2.2).take 2), bv ((((l.drop f.2.2).drop f.2.2).drop 2).take 2)), (((l.drop f.2.2).drop f.2.2).drop 2).drop 2)
  else .ok (if loc then (0, [], [], 0, 0) else (f.1, [], [], 0, 0), l)
def sealOk (b : List UInt8) (at' sn : Nat) : Bool := decide ((Crc.sum (b.take at' ++ [0, 0, 0, 0] ++ b.drop (at' + 4))).toNat = sn)
def tailE (b : List UInt8) (h : Hd) (l : List UInt8) : Except Nat (Hd × List Fd × Nat) :=
  match flE l.length b.length l [] 0 0 false with
  | .error e => .error e
  | .ok (fs, a, n) => if 0 < a then (if sealOk b a n then .ok (h, fs, a) else .error 5) else .ok (h, fs, a)
def follE (b : List UInt8) (loc : Bool) (f : Fam) : Except Nat (Hd × List Fd × Nat) :=
  match headE loc f (b.drop 16) with
  | .error e => .error e
  | .ok (h, l) => tailE b h l
theorem flE_at (tot : Nat) : ∀ (k : Nat) (l : List UInt8) (fs : List Fd) (a n : Nat) (tw : Bool) (fs' : List Fd) (a' n' : Nat), l.length ≤ tot → (a = 0 ∨ a + 4 ≤ tot) → flE k tot l fs a n tw = .ok (fs', a', n') → a' = 0 ∨ a' + 4 ≤ tot := by
  intro k
  induction k with
  | zero =>
    intro l fs a n tw fs' a' n' hl ha h
    rw [flE] at h
    cases tw <;> simp at h
    obtain ⟨_, rfl, _⟩ := h; exact ha
  | succ k ih =>
    intro l fs a n tw fs' a' n' hl ha h
    rw [flE] at h
    split at h
    · cases tw <;> simp at h
      obtain ⟨_, rfl, _⟩ := h; exact ha
    · split at h
      · cases h
      · split at h
        · cases h
        · split at h
          · exact ih _ _ _ _ _ _ _ _ (by simp only [List.length_drop]; omega) ha h
          · split at h
            · cases h
            · rename_i h0 h3 hn hc h4
              refine ih _ _ _ _ _ _ _ _ (by simp only [List.length_drop]; omega) ?_ h
              right
              have : 4 ≤ (l.drop 3).length := by omega
              have : (l.drop 3).length = l.length - 3 := List.length_drop
              omega
/-- what follow's reading goes by -/
structure GSt (F PX PB X R : Nat) (w0 : World) (b : ByteArray) (f : Fam) (C : Array Value) (l : List UInt8) (w : World) : Prop where
  hF : w.heap[F]? = some (.cells #[.int .i64 f.1, .int .i64 f.2.1, .int .i64 f.2.2] 48 (0, 0))
  hPX : w.heap[PX]? = some (.cells #[.pointer (some ⟨X, 0, none⟩)] 99 (0, 0))
  hPB : w.heap[PB]? = some (.cells #[.string b] 9 (0, 0))
  hX : w.heap[X]? = some (.cells C 74 (0, 0))
  rd : Rl R b l w
  XR : X ≠ R
  XF : F ∉ [X, R]
  XP : PX ∉ [X, R]
  XB : PB ∉ [X, R]
  sv : Save [X, R] w0 w
theorem row_mono {w : World} {B B' : Nat} {e : TypeId} {z n : Nat} {v : Value} {xs : List Value} (h : w.ownsRow B e z v n xs) (hB : B' ≤ B) : w.ownsRow B' e z v n xs := by
  obtain ⟨h1, h2⟩ := h
  refine ⟨h1, ?_⟩
  rcases h2 with h2 | ⟨g, cap, cur, e1, e2, e3⟩
  · exact .inl h2
  · exact .inr ⟨g, cap, cur, e1, Nat.le_trans hB e2, e3⟩
section
variable {F PX PB X R : Nat} {w0 : World} {b : ByteArray} {f : Fam} {C : Array Value} {l : List UInt8} {w : World}
theorem GSt.save {C' : Array Value} {l' : List UInt8} {w' : World} (h : GSt F PX PB X R w0 b f C l w) (hs : Save [X, R] w w') (hX : w'.heap[X]? = some (.cells C' 74 (0, 0))) (hr : Rl R b l' w') : GSt F PX PB X R w0 b f C' l' w' :=
  ⟨(hs.block F (heap_lt h.hF) h.XF).trans h.hF, (hs.block PX (heap_lt h.hPX) h.XP).trans h.hPX, (hs.block PB (heap_lt h.hPB) h.XB).trans h.hPB, hX, hr, h.XR, h.XF, h.XP, h.XB, h.sv.trans hs⟩
theorem GSt.but {l' : List UInt8} {w' : World} (h : GSt F PX PB X R w0 b f C l w) (hb : But R w w') (hr : Rl R b l' w') : GSt F PX PB X R w0 b f C l' w' :=
  h.save (hb.save (by simp)) ((hb.block X (heap_lt h.hX) h.XR).trans h.hX) hr
theorem GSt.drewN (h : GSt F PX PB X R w0 b f C l w) (n : Nat) : GSt F PX PB X R w0 b f C l (w.drewN n) := ⟨h.hF, h.hPX, h.hPB, h.hX, h.rd.drewN n, h.XR, h.XF, h.XP, h.XB, h.sv.drewN n⟩
theorem GSt.drew (h : GSt F PX PB X R w0 b f C l w) : GSt F PX PB X R w0 b f C l w.drew := ⟨h.hF, h.hPX, h.hPB, h.hX, h.rd.drewN 1, h.XR, h.XF, h.XP, h.XB, h.sv.drew⟩
theorem GSt.set (h : GSt F PX PB X R w0 b f C l w) (i : Nat) (hi : i < C.size) (v : Value) : GSt F PX PB X R w0 b f (C.set i v) l (w.setCell ⟨X, i, none⟩ v) :=
  h.save ((Save.refl _ _).set (.inl (by simp)) _) (heap_set h.hX hi v) (h.rd.same (Below.heap_setCell _ _ _ _ (fun e => h.XR e.symm)))
theorem GSt.cF (h : GSt F PX PB X R w0 b f C l w) : w.cell? ⟨F, 0, none⟩ = some (.int .i64 f.1) ∧ w.cell? ⟨F, 2, none⟩ = some (.int .i64 f.2.2) := ⟨cellAt h.hF rfl, cellAt h.hF rfl⟩
theorem GSt.cPX (h : GSt F PX PB X R w0 b f C l w) : w.cell? ⟨PX, 0, none⟩ = some (.pointer (some ⟨X, 0, none⟩)) := cellAt h.hPX rfl
theorem GSt.cPB (h : GSt F PX PB X R w0 b f C l w) : w.cell? ⟨PB, 0, none⟩ = some (.string b) := cellAt h.hPB rfl
theorem GSt.cX (h : GSt F PX PB X R w0 b f C l w) {i : Nat} {v : Value} (hi : C[i]? = some v) : w.cell? ⟨X, i, none⟩ = some v := cellAt h.hX hi
theorem GSt.fX (h : GSt F PX PB X R w0 b f C l w) (i : Nat) : w.frozen? ⟨X, i, none⟩ = false := Lib.frozen_of_heap h.hX i
end
theorem alloc_lt (w : World) (o : Obj) : w.heap.size < (w.alloc o).heap.size := by rw [World.size_alloc]; omega
def X0 (loc : Bool) : Array Value := #[.bool loc, .int .i64 0, .string ⟨#[]⟩, .string ⟨#[]⟩, .int .i64 0, .int .i64 0, .slice none 0 0, .int .i64 0, .int .u32 0]
def FollPost (X R : Nat) (b : ByteArray) (loc : Bool) (f : Fam) (w : World) (e : Ending) (w' : World) : Prop :=
  (∃ c, follE b.data.toList loc f = .error c ∧ e = .panicked (stopped c) ∧ Save [X, R] w w') ∨
  (∃ (h : Hd) (fs : List Fd) (a n : Nat) (v : Value), follE b.data.toList loc f = .ok (h, fs, a) ∧ e = .returned (.tuple #[]) ∧ Save [X, R] w w' ∧
    w'.heap[X]? = some (.cells #[.bool loc, .int .i64 h.1, .string (bs h.2.1), .string (bs h.2.2.1), .int .i64 h.2.2.2.1, .int .i64 h.2.2.2.2, v, .int .i64 a, .int .u32 n] 74 (0, 0)) ∧ w'.ownsRow w.heap.size 45 2 v fs.length (fflat fs))
/-- what never is, behind a name -/
structure Never : Prop where
  out : False
theorem rep4 (W : World) : Calls Tryd.prog 54 #[.string ⟨#[0]⟩, .int .i64 4] W fun e w' => e = .returned (.string (bs [0, 0, 0, 0])) ∧ Below W.heap.size W w' := by
  have h := Tryd.strings_Repeat_main ⟨#[0]⟩ 4 W (by omega) (by omega) (by decide) (by decide)
  exact h
theorem csum3 (s1 s2 s3 : ByteArray) (W : World) (g c : Nat) (hg : W.heap[g]? = some (.cells #[.string s1, .string s2, .string s3] 9 (0, 0))) (h1 : s1.size ≤ 9223372036854775807) (h2 : s2.size ≤ 9223372036854775807) (h3 : s3.size ≤ 9223372036854775807) :
    Calls Tryd.prog 25 #[.slice (some ⟨g, 0, none⟩) 3 c] W fun e w' => e = .returned (.int .u32 (Crc.sum (s1.data.toList ++ s2.data.toList ++ s3.data.toList)).toNat) ∧ Below W.heap.size W w' := by
  have h := CrcW.sum_any [s1, s2, s3] g c W (by simp) (fun j hj => by
    have : j = 0 ∨ j = 1 ∨ j = 2 := by simp at hj; omega
    rcases this with rfl | rfl | rfl
    · exact cellAt hg rfl
    · exact cellAt hg rfl
    · exact cellAt hg rfl) (by simp; exact ⟨h1, h2, h3⟩)
  have e : CrcW.cat [s1, s2, s3] [s1, s2, s3].length = s1.data.toList ++ s2.data.toList ++ s3.data.toList := by simp [CrcW.cat]
  rw [e] at h; exact h
theorem csum1 (s1 : ByteArray) (W : World) (g c : Nat) (hg : W.heap[g]? = some (.cells #[.string s1] 9 (0, 0))) (h1 : s1.size ≤ 9223372036854775807) :
    Calls Tryd.prog 25 #[.slice (some ⟨g, 0, none⟩) 1 c] W fun e w' => e = .returned (.int .u32 (Crc.sum s1.data.toList).toNat) ∧ Below W.heap.size W w' := by
  have h := CrcW.sum_any [s1] g c W (by simp) (fun j hj => by
    obtain rfl : j = 0 := by simpa using hj
    exact cellAt hg rfl) (by simpa using h1)
  have e : CrcW.cat [s1] [s1].length = s1.data.toList := by simp [CrcW.cat]
  rw [e] at h; exact h
theorem need_f (p : Value) (c : Nat) (ci : Int) (hc : (c : Int) = ci) (w : World) : Calls Tryd.prog 34 #[p, .bool false, .int .i64 ci] w fun e w' => (e = .returned (.tuple #[]) ∧ Never) ∨ (e = .panicked (stopped c) ∧ w' = w) := by
  rw [← hc]; exact (need_no p c w).mono fun _ _ h => .inr h
set_option maxHeartbeats 8000000 in
theorem foll1_any (F PX PB X R : Nat) (b : ByteArray) (loc : Bool) (f : Fam) (w : World) (st : GSt F PX PB X R w b f (X0 loc) b.data.toList w) (hb16 : 16 ≤ b.size) (hs : b.size ≤ 1000000) (hz : f.2.2 ≤ 1000) :
    Calls Tryd.prog 52 (#[.pointer (some ⟨R, 0, none⟩)] ++ #[.pointer (some ⟨F, 0, none⟩), .pointer (some ⟨PX, 0, none⟩), .pointer (some ⟨PB, 0, none⟩)]) w (FollPost X R b loc f w) := by
  show Calls Tryd.prog 52 #[.pointer (some ⟨R, 0, none⟩), .pointer (some ⟨F, 0, none⟩), .pointer (some ⟨PX, 0, none⟩), .pointer (some ⟨PB, 0, none⟩)] w _
  obtain ⟨fn, fc, z⟩ := f
  have hs2 : b.size ≤ MX := by show b.size ≤ 9223372036854775807; omega
  have C16 : Hid (∀ W, Rl R b b.data.toList W → Calls Tryd.prog 35 #[.pointer (some ⟨R, 0, none⟩), .int .i64 16] W fun e w' => e = .returned (.string (bs (b.data.toList.take 16))) ∧ Rl R b (b.data.toList.drop 16) w' ∧ But R W w') := fun W h => take_l R 16 b _ W h (by simpa using hb16) hs2
  obtain ⟨l, hl⟩ : ∃ x, x = b.data.toList.drop 16 := ⟨_, rfl⟩
  rw [← hl] at C16
  have HE : Hid (follE b.data.toList loc (fn, fc, z) = match headE loc (fn, fc, z) l with
    | .error e => .error e
    | .ok (h, l) => tailE b.data.toList h l) := by rw [hl]; rfl
  have ST := Lib.hid st
  obtain ⟨t16, ht16⟩ : ∃ x, x = bs (b.data.toList.take 16) := ⟨_, rfl⟩
  rw [← ht16] at C16
  clear st hl ht16
  go_enter Tryd.func52, Tryd.ntmps52
  go_upto_if 13 with (go_at_call 35; (with_reducible refine (C16.out _ ST.out.rd).mono ?_); rintro e w1 ⟨rfl, hr, hb⟩; have ST2 := Lib.hid (ST.out.but hb hr); clear ST hr hb; obtain ⟨k0, k1⟩ := ST2.out.cF; have k2 := ST2.out.cPX)
  go_cut [] (fun wx => ∃ (fm sp dp : Nat) (src dst l' : List UInt8), Hid (headE loc (fn, fc, z) l = .ok ((fm, src, dst, sp, dp), l')) ∧ Hid (GSt F PX PB X R w b (fn, fc, z) #[.bool loc, .int .i64 0, .string (bs src), .string (bs dst), .int .i64 sp, .int .i64 dp, .slice none 0 0, .int .i64 0, .int .u32 0] l' wx) ∧ Hid (fm = if loc then 0 else fn))
  case first =>
    by_cases hz0 : 0 < z
    · have hz1 : (z : Int) > 0 := by omega
      have e1 : IntKind.i64.wrap (2 * (z : Int)) = 2 * (z : Int) := IntWalk.i64_in _ (by omega)
      have e2 : IntKind.i64.wrap (2 * (z : Int) + 4) = 2 * (z : Int) + 4 := IntWalk.i64_in _ (by omega)
      have CL : Hid (∀ W, Rl R b l W → Calls Tryd.prog 48 #[.pointer (some ⟨R, 0, none⟩)] W fun e w' => e = .returned (.int .i64 (l.length : Int)) ∧ Rl R b l w' ∧ But R W w') := fun W h => left_b R b l W h hs2
      have hK : Hid (∀ W, But R w1.drew W → W.cell? ⟨F, 2, none⟩ = some (.int .i64 (z : Int))) := fun W hW => by
        have h := (hW.block F (heap_lt ST2.out.hF) (fun e => ST2.out.XF (by simp [e]))).trans ST2.out.hF
        exact cellAt h rfl
      by_cases hls : l.length < 2 * z + 4
      · have d1 : decide (2 * (z : Int) + 4 ≤ (l.length : Int)) = false := decide_eq_false (by omega)
        have hE : Hid (headE loc (fn, fc, z) l = .error 4) := by show headE _ _ _ = _; rw [headE, if_pos hz0, if_pos hls]
        have d2 : ¬ (l.length : Int) ≥ 2 * (z : Int) + 4 := by omega
        clear hls
        go_wp2_with (fail)
        go_region_held2 (fun w' => w'.cell? ⟨F, 2, none⟩ = some (.int .i64 (z : Int))) (first | go_keep | exact hF.out.elim) (first | (go_simp; go_at_call 48; (with_reducible refine (CL.out _ ST2.out.drew.rd).mono ?_); rintro e w5 ⟨rfl, hr5, hb5⟩; have k5 := hK.out w5 hb5) | (go_simp; go_at_call 34; (with_reducible refine (need_f _ 4 4 rfl _).mono ?_); rintro e w9 (⟨rfl, hF⟩ | ⟨rfl, rfl⟩); rotate_left; (focus (exact ⟨rfl, .inl ⟨4, by rw [HE.out, hE.out], rfl, (ST2.out.drew.but hb5 hr5).sv⟩⟩))))
        all_goals exact hF.out.elim
      · have d1 : decide (2 * (z : Int) + 4 ≤ (l.length : Int)) = true := decide_eq_true (by omega)
        have d2 : (l.length : Int) ≥ 2 * (z : Int) + 4 := by omega
        obtain ⟨l1, hl1⟩ : ∃ x, x = l.drop z := ⟨_, rfl⟩
        obtain ⟨l2, hl2⟩ : ∃ x, x = l1.drop z := ⟨_, rfl⟩
        obtain ⟨l3, hl3⟩ : ∃ x, x = l2.drop 2 := ⟨_, rfl⟩
        obtain ⟨l4, hl4⟩ : ∃ x, x = l3.drop 2 := ⟨_, rfl⟩
        obtain ⟨src, hsrc⟩ : ∃ x, x = l.take z := ⟨_, rfl⟩
        obtain ⟨dst, hdst⟩ : ∃ x, x = l1.take z := ⟨_, rfl⟩
        obtain ⟨sp, hsp⟩ : ∃ x, x = bv (l2.take 2) := ⟨_, rfl⟩
        obtain ⟨dp, hdp⟩ : ∃ x, x = bv (l3.take 2) := ⟨_, rfl⟩
        have n1 : l1.length = l.length - z := by rw [hl1, List.length_drop]
        have n2 : l2.length = l1.length - z := by rw [hl2, List.length_drop]
        have n3 : l3.length = l2.length - 2 := by rw [hl3, List.length_drop]
        have hE : Hid (headE loc (fn, fc, z) l = .ok (if loc then (0, [], [], 0, 0) else (fn, src, dst, sp, dp), l4)) := by
          show headE _ _ _ = _
          rw [headE, if_pos hz0, if_neg hls, hl4, hl3, hl2, hl1, hsrc, hdst, hsp, hdp, hl3, hl2, hl1]
        have T1 : Hid (∀ W, Rl R b l W → Calls Tryd.prog 35 #[.pointer (some ⟨R, 0, none⟩), .int .i64 (z : Int)] W fun e w' => e = .returned (.string (bs src)) ∧ Rl R b l1 w' ∧ But R W w') := fun W h => by
          have h := take_l R z b l W h (by omega) hs2
          rw [← hl1, ← hsrc] at h; exact h
        have T2 : Hid (∀ W, Rl R b l1 W → Calls Tryd.prog 35 #[.pointer (some ⟨R, 0, none⟩), .int .i64 (z : Int)] W fun e w' => e = .returned (.string (bs dst)) ∧ Rl R b l2 w' ∧ But R W w') := fun W h => by
          have h := take_l R z b l1 W h (by omega) hs2
          rw [← hl2, ← hdst] at h; exact h
        have T3 : Hid (∀ W, Rl R b l2 W → Calls Tryd.prog 51 #[.pointer (some ⟨R, 0, none⟩)] W fun e w' => e = .returned (.int .i64 (sp : Int)) ∧ Rl R b l3 w' ∧ But R W w') := fun W h => by
          have h := u16_l R b l2 W h (by omega) hs2
          rw [← hl3, ← hsp] at h; exact h
        have T4 : Hid (∀ W, Rl R b l3 W → Calls Tryd.prog 51 #[.pointer (some ⟨R, 0, none⟩)] W fun e w' => e = .returned (.int .i64 (dp : Int)) ∧ Rl R b l4 w' ∧ But R W w') := fun W h => by
          have h := u16_l R b l3 W h (by omega) hs2
          rw [← hl4, ← hdp] at h; exact h
        clear hls hl1 hl2 hl3 hl4 hsrc hdst hsp hdp n1 n2 n3
        go_wp2_with (fail)
        go_region_held3 (fun w' => w'.cell? ⟨F, 2, none⟩ = some (.int .i64 (z : Int))) (go_keep) (first | (go_simp; go_at_call 48; (with_reducible refine (CL.out _ ST2.out.drew.rd).mono ?_); rintro e w5 ⟨rfl, hr5, hb5⟩; have ST5 := Lib.hid (ST2.out.drew.but hb5 hr5); clear hr5 hb5; have k5 := ST5.out.cF.2) | (go_simp; go_at_call 34; (with_reducible refine (need_yes _ _ _).mono ?_); rintro e w9 ⟨rfl, rfl⟩))
        simp only [Exit.then]
        go_wp2_with (fail)
        go_region_held3 (fun w' => w'.cell? ⟨F, 2, none⟩ = some (.int .i64 (z : Int))) (go_keep) (first | (go_simp; go_at_call 51; (with_reducible refine (T4.out _ STc.out.rd).mono ?_); rintro e w6 ⟨rfl, hr, hb⟩; have STd := Lib.hid (STc.out.but hb hr); clear hr hb STc; have k6 := STd.out.cF.2) | (go_simp; go_at_call 51; (with_reducible refine (T3.out _ STb.out.rd).mono ?_); rintro e w6 ⟨rfl, hr, hb⟩; have STc := Lib.hid (STb.out.but hb hr); clear hr hb STb; have k6 := STc.out.cF.2) | (go_simp; go_at_call 35; (with_reducible refine (T2.out _ STa.out.rd).mono ?_); rintro e w6 ⟨rfl, hr, hb⟩; have STb := Lib.hid (STa.out.but hb hr); clear hr hb STa; have k6 := STb.out.cF.2) | (go_simp; go_at_call 35; (with_reducible refine (T1.out _ ST5.out.drew.rd).mono ?_); rintro e w6 ⟨rfl, hr, hb⟩; have STa := Lib.hid (ST5.out.drew.but hb hr); clear hr hb ST5; have k6 := STa.out.cF.2))
        simp only [Exit.then]
        have q0 := STd.out.cPX
        cases loc with
        | true =>
          have q1 := STd.out.cX (i := 0) (v := .bool true) rfl
          go_wp2_with (fail)
          go_meet
          exact ⟨0, 0, 0, [], [], l4, hE.out, STd.out, rfl⟩
        | false =>
          have q1 := STd.out.cX (i := 0) (v := .bool false) rfl
          have q2 := STd.out.cX (i := 2) (v := .string ⟨#[]⟩) rfl
          have q3 := STd.out.cX (i := 3) (v := .string ⟨#[]⟩) rfl
          have q4 := STd.out.cX (i := 4) (v := .int .i64 0) rfl
          have q5 := STd.out.cX (i := 5) (v := .int .i64 0) rfl
          have f2 := STd.out.fX 2
          have f3 := STd.out.fX 3
          have f4 := STd.out.fX 4
          have f5 := STd.out.fX 5
          go_wp2_with (fail)
          go_meet
          exact ⟨fn, sp, dp, src, dst, l4, hE.out, ((((STd.out.set 2 (by decide) _).set 3 (by simp [X0]) _).set 4 (by simp [X0]) _).set 5 (by simp [X0]) _), rfl⟩
    · obtain rfl : z = 0 := by omega
      have hE : Hid (headE loc (fn, fc, 0) l = .ok (if loc then (0, [], [], 0, 0) else (fn, [], [], 0, 0), l)) := by show headE _ _ _ = _; rw [headE, if_neg hz0]
      go_wp2_with (fail)
      go_meet
      cases loc with
      | true => exact ⟨0, 0, 0, [], [], l, hE.out, ST2.out, rfl⟩
      | false => exact ⟨fn, 0, 0, [], [], l, hE.out, ST2.out, rfl⟩
  case rest =>
    obtain ⟨fm, sp, dp, src, dst, l', hE, ST, hfm⟩ := hcut
    have HT : Hid (follE b.data.toList loc (fn, fc, z) = tailE b.data.toList (fm, src, dst, sp, dp) l') := by show follE _ _ _ = _; rw [HE.out, hE.out]
    have q0 := ST.out.cPX
    have q1 := ST.out.cX (i := 0) (v := .bool loc) rfl
    clear HE hE C16 k0 k1 k2 ST2
    go_upto_if 66 with (fail)
    go_cut [] (fun wx => Hid (GSt F PX PB X R w b (fn, fc, z) #[.bool loc, .int .i64 fm, .string (bs src), .string (bs dst), .int .i64 sp, .int .i64 dp, .slice none 0 0, .int .i64 0, .int .u32 0] l' wx))
    case first =>
      cases loc with
      | true =>
        obtain rfl : fm = 0 := hfm.out
        go_wp2_with (fail)
        go_meet
        exact ST.out
      | false =>
        obtain rfl : fm = fn := hfm.out
        have q2 := ST.out.cX (i := 1) (v := .int .i64 0) rfl
        have f1 := ST.out.fX 1
        have q3 := ST.out.cF.1
        go_wp2_with (fail)
        go_meet
        exact ST.out.set 1 (by simp) _
    case rest =>
      have ST := hcut
      clear hcut q0 q1 hfm
      have q0 := ST.out.cPX
      have CF := Lib.hid (fields_any X R b l' _ _ _ _ _ _ _ ST.out.rd ST.out.hX ST.out.XR hs)
      go_wp2_with (go_at_call 53; (with_reducible refine CF.out.mono ?_))
      rintro e w3 (⟨c, h1, rfl, hs3⟩ | ⟨fs, a, n, v, h1, rfl, fst⟩)
      · exact ⟨rfl, .inl ⟨c, by rw [HT.out, tailE, show b.data.toList.length = b.size from by simp, h1], rfl, ST.out.sv.trans hs3⟩⟩
      · have G := ST.out.save fst.sv fst.hX fst.rd
        have hrow : Hid (w3.ownsRow w.heap.size 45 2 v fs.length (fflat fs)) := row_mono fst.row ST.out.sv.size
        have HG := Lib.hid G
        have r0 := G.cPX
        have r7 := G.cX (i := 7) (v := .int .i64 a) rfl
        have r8 := G.cX (i := 8) (v := .int .u32 n) rfl
        have rB := G.cPB
        have hat : a = 0 ∨ a + 4 ≤ b.size := flE_at b.size _ _ _ _ _ _ _ _ _ ST.out.rd.len (.inl rfl) h1
        have HT2 : Hid (follE b.data.toList loc (fn, fc, z) = if 0 < a then (if sealOk b.data.toList a n then .ok ((fm, src, dst, sp, dp), fs, a) else .error 5) else .ok ((fm, src, dst, sp, dp), fs, a)) := by
          show follE _ _ _ = _
          rw [HT.out, tailE, show b.data.toList.length = b.size from by simp, h1]
        clear G fst h1 HT q0
        rcases Nat.eq_zero_or_pos a with rfl | ha
        · have HE : Hid (follE b.data.toList loc (fn, fc, z) = .ok ((fm, src, dst, sp, dp), fs, 0)) := HT2.out
          clear hat HT2
          go_wp2_with (fail)
          go_end0
          exact .inr ⟨_, fs, 0, n, v, HE.out, rfl, HG.out.sv, HG.out.hX, hrow.out⟩
        · have ha1 : (a : Int) > 0 := by omega
          have ha4 : (a : Int) + 4 ≤ b.size := by omega
          have ha0 : (a : Int) ≤ b.size := by omega
          have ha5 : (0 : Int) ≤ (a : Int) + 4 := by omega
          have ha6 : (b.size : Int) ≤ b.size := by omega
          have ha7 : (0 : Int) ≤ b.size := by omega
          have e4 : IntKind.i64.wrap ((a : Int) + 4) = (a : Int) + 4 := IntWalk.i64_in _ (by omega)
          have e5 : ((a : Int) + 4).toNat = a + 4 := by omega
          have HK : Hid (∀ W, Below w3.heap.size w3.drew W → W.cell? ⟨PB, 0, none⟩ = some (.string b) ∧ W.cell? ⟨PX, 0, none⟩ = some (.pointer (some ⟨X, 0, none⟩)) ∧ W.cell? ⟨X, 7, none⟩ = some (.int .i64 a) ∧ W.cell? ⟨X, 8, none⟩ = some (.int .u32 n)) := fun W hW => by
            have g := HG.out
            exact ⟨cellAt ((hW.block PB (heap_lt g.hPB)).trans g.hPB) rfl, cellAt ((hW.block PX (heap_lt g.hPX)).trans g.hPX) rfl, cellAt ((hW.block X (heap_lt g.hX)).trans g.hX) rfl, cellAt ((hW.block X (heap_lt g.hX)).trans g.hX) rfl⟩
          have CR := Lib.hid rep4
          obtain ⟨cv, hcv⟩ : ∃ x, x = (Crc.sum (b.data.toList.take a ++ [0, 0, 0, 0] ++ b.data.toList.drop (a + 4))).toNat := ⟨_, rfl⟩
          have hok : sealOk b.data.toList a n = decide (cv = n) := by rw [sealOk, hcv]
          have CS : Hid (∀ (W : World) (g c : Nat), W.heap[g]? = some (.cells #[.string (b.extract 0 a), .string (bs [0, 0, 0, 0]), .string (b.extract (a + 4) b.size)] 9 (0, 0)) → Calls Tryd.prog 25 #[.slice (some ⟨g, 0, none⟩) 3 c] W fun e w' => e = .returned (.int .u32 (cv : Int)) ∧ Below W.heap.size W w') := fun W g c hg => by
            have h := csum3 _ _ _ W g c hg (by rw [ByteArray.size_extract]; omega) (by decide) (by rw [ByteArray.size_extract]; omega)
            have e : (b.extract 0 a).data.toList ++ (bs [0, 0, 0, 0]).data.toList ++ (b.extract (a + 4) b.size).data.toList = b.data.toList.take a ++ [0, 0, 0, 0] ++ b.data.toList.drop (a + 4) := by
              rw [extract_bs, extract_bs, bs_list, bs_list, bs_list, List.drop_zero, Nat.sub_zero]
              congr 1
              rw [List.take_of_length_le (by simp)]
            rw [e, ← hcv] at h; exact h
          clear hcv
          by_cases hcn : cv = n
          · have HE : Hid (follE b.data.toList loc (fn, fc, z) = .ok ((fm, src, dst, sp, dp), fs, a)) := by
              show follE _ _ _ = _
              rw [HT2.out, if_pos ha, if_pos (by rw [hok]; exact decide_eq_true hcn)]
            have hb1 : ((cv : Int) == n) = true := by rw [beq_iff_eq]; omega
            clear hcn hok HT2 hat ha
            go_wp2_with (fail)
            go_region_held3 (fun w' => w'.cell? ⟨PB, 0, none⟩ = some (.string b) ∧ w'.cell? ⟨PX, 0, none⟩ = some (.pointer (some ⟨X, 0, none⟩)) ∧ w'.cell? ⟨X, 7, none⟩ = some (.int .i64 a) ∧ w'.cell? ⟨X, 8, none⟩ = some (.int .u32 n)) (go_keep) (first | (go_simp; go_at_call 54; (with_reducible refine (CR.out _).mono ?_); rintro e w5 ⟨rfl, hb5⟩; obtain ⟨m0, m1, m2, m3⟩ := HK.out w5 hb5; obtain ⟨g0, g1, g2, g3⟩ := HK.out (w5.alloc (.cells #[.string (b.extract 0 a), .string (bs [0, 0, 0, 0]), .string (b.extract (a + 4) b.size)] 9)) (hb5.alloc hb5.size _)) | (go_simp; go_at_call 25; (with_reducible refine (CS.out _ _ _ ?_).mono ?_); (focus (exact alloc_new _ _)); rintro e w6 ⟨rfl, hb6⟩; have hb7 := (hb5.alloc hb5.size (.cells #[.string (b.extract 0 a), .string (bs [0, 0, 0, 0]), .string (b.extract (a + 4) b.size)] 9)).trans (hb6.mono (Nat.le_trans hb5.size (Nat.le_of_lt (alloc_lt _ _)))); obtain ⟨k0, k1, k2, k3⟩ := HK.out w6 hb7) | (go_simp; go_at_call 34; (with_reducible refine (need_yes _ _ _).mono ?_); rintro e w9 ⟨rfl, rfl⟩))
            all_goals (go_end0; exact .inr ⟨_, fs, a, n, v, HE.out, rfl, HG.out.sv.drew.trans (Save.of_below hb7), (hb7.block X (heap_lt HG.out.hX)).trans HG.out.hX, row_save (l := []) (w := w3.drew) hrow.out (Save.of_below hb7) (fun k hk => by cases hk)⟩)
          · have HE : Hid (follE b.data.toList loc (fn, fc, z) = .error 5) := by
              show follE _ _ _ = _
              rw [HT2.out, if_pos ha, if_neg (by rw [hok]; simp [hcn])]
            have hb1 : ((cv : Int) == n) = false := by rw [beq_eq_false_iff_ne]; omega
            clear hcn hok HT2 hat ha
            go_wp2_with (fail)
            go_region_held2 (fun w' => w'.cell? ⟨PB, 0, none⟩ = some (.string b) ∧ w'.cell? ⟨PX, 0, none⟩ = some (.pointer (some ⟨X, 0, none⟩)) ∧ w'.cell? ⟨X, 7, none⟩ = some (.int .i64 a) ∧ w'.cell? ⟨X, 8, none⟩ = some (.int .u32 n)) (first | go_keep | exact hF.out.elim) (first | (go_simp; go_at_call 54; (with_reducible refine (CR.out _).mono ?_); rintro e w5 ⟨rfl, hb5⟩; obtain ⟨m0, m1, m2, m3⟩ := HK.out w5 hb5; obtain ⟨g0, g1, g2, g3⟩ := HK.out (w5.alloc (.cells #[.string (b.extract 0 a), .string (bs [0, 0, 0, 0]), .string (b.extract (a + 4) b.size)] 9)) (hb5.alloc hb5.size _)) | (go_simp; go_at_call 25; (with_reducible refine (CS.out _ _ _ ?_).mono ?_); (focus (exact alloc_new _ _)); rintro e w6 ⟨rfl, hb6⟩; have hb7 := (hb5.alloc hb5.size (.cells #[.string (b.extract 0 a), .string (bs [0, 0, 0, 0]), .string (b.extract (a + 4) b.size)] 9)).trans (hb6.mono (Nat.le_trans hb5.size (Nat.le_of_lt (alloc_lt _ _)))); obtain ⟨k0, k1, k2, k3⟩ := HK.out w6 hb7) | (go_simp; go_at_call 34; (with_reducible refine (need_f _ 5 5 rfl _).mono ?_); rintro e w9 (⟨rfl, hF⟩ | ⟨rfl, rfl⟩); rotate_left; (focus (exact ⟨rfl, .inl ⟨5, HE.out, rfl, (HG.out.sv.drew.trans (Save.of_below hb7))⟩⟩))))
            all_goals exact hF.out.elim
theorem call52 (args : Array Value) (W : World) : (callFunc 52 args).run Tryd.prog W = .ok (.enter 52 args) W := rfl
def FolPost (X : Nat) (b : ByteArray) (loc : Bool) (f : Fam) (w : World) (e : Ending) (w' : World) : Prop :=
  ∃ c : Nat, e = .returned (.int .i64 c) ∧ Save [X] w w' ∧
    ((c ≠ 0 ∧ follE b.data.toList loc f = .error c) ∨
     (c = 0 ∧ ∃ (h : Hd) (fs : List Fd) (a n : Nat) (v : Value), follE b.data.toList loc f = .ok (h, fs, a) ∧
    w'.heap[X]? = some (.cells #[.bool loc, .int .i64 h.1, .string (bs h.2.1), .string (bs h.2.2.1), .int .i64 h.2.2.2.1, .int .i64 h.2.2.2.2, v, .int .i64 a, .int .u32 n] 74 (0, 0)) ∧ w'.ownsRow w.heap.size 45 2 v fs.length (fflat fs)))
end Go.Proofs.YtfagkmmenfeppaaDoor
