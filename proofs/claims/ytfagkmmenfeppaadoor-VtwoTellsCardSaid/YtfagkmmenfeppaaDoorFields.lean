import Derived.Test.YtfagkmmenfeppaaDoorLead
import Derived.Deep.LoopGhost
import Derived.Deep.RegionLaw
import Derived.Deep.RegionLawGrows
import Derived.Deep.AppendLies
/- (*reading).fields. -/
namespace Go.Proofs.YtfagkmmenfeppaaDoor
set_option maxRecDepth 100000
open Go.RowKit
/-- a field: its type, its text -/
abbrev Fd := Nat × List UInt8
def fcells (f : Fd) : List Value := [.int .i64 f.1, .string (bs f.2)]
def fflat (fs : List Fd) : List Value := fs.flatMap fcells
theorem fflat_app (a b : List Fd) : fflat (a ++ b) = fflat a ++ fflat b := by unfold fflat; rw [List.flatMap_append]
def flE : Nat → Nat → List UInt8 → List Fd → Nat → Nat → Bool → Except Nat (List Fd × Nat × Nat)
  | 0, _, _, fs, at', sn, tw => if tw then .error 12 else .ok (fs, at', sn)
  | k + 1, tot, l, fs, at', sn, tw =>
    if l.length = 0 then (if tw then .error 12 else .ok (fs, at', sn))
    else if l.length < 3 then .error 4
    else if (l.drop 3).length < bv ((l.drop 1).take 2) then .error 4
    else if bv (l.take 1) ≠ 3 then flE k tot ((l.drop 3).drop (bv ((l.drop 1).take 2))) (fs ++ [(bv (l.take 1), (l.drop 3).take (bv ((l.drop 1).take 2)))]) at' sn tw
    else if bv ((l.drop 1).take 2) ≠ 4 then .error 4
    else flE k tot ((l.drop 3).drop 4) fs (tot - (l.drop 3).length) (bv ((l.drop 3).take 4)) (tw || decide (0 < at'))
/-- the reading in block X and the reader in block R, while fields are read -/
structure FSt (B X R : Nat) (w0 : World) (s : ByteArray) (h0 h1 h2 h3 h4 h5 : Value) (l : List UInt8) (v : Value) (fs : List Fd) (at' sn : Nat) (w : World) : Prop where
  hX : w.heap[X]? = some (.cells #[h0, h1, h2, h3, h4, h5, v, .int .i64 at', .int .u32 sn] 74 (0, 0))
  row : w.ownsRow B 45 2 v fs.length (fflat fs)
  rd : Rl R s l w
  XR : X ≠ R
  bX : X < B
  bR : R < B
  le : B ≤ w.heap.size
  le0 : w0.heap.size ≤ B
  sv : Save [X, R] w0 w
theorem row_save {B : Nat} {l : List Nat} {e : TypeId} {z n : Nat} {v : Value} {xs : List Value} {w w' : World} (h : w.ownsRow B e z v n xs) (hs : Save l w w') (hl : ∀ k ∈ l, k < B) : w'.ownsRow B e z v n xs := by
  rcases h with ⟨h1, h2⟩
  refine ⟨h1, ?_⟩
  rcases h2 with h2 | ⟨g, cap, cur, e1, e2, e3, e4⟩
  · exact .inl h2
  · exact .inr ⟨g, cap, cur, e1, e2, by rw [hs.block g (heap_lt e3) (fun hg => by have := hl g hg; omega)]; exact e3, e4⟩
theorem Save.grown {l : List Nat} {w0 w w' : World} {row : Option Nat} (h : Save l w0 w) (hg : w.grownBy w' row) (hr : ∀ k, row = some k → w0.heap.size ≤ k) : Save l w0 w' :=
  ⟨hg.os.trans h.os, hg.tape.trans h.tape, hg.output.trans h.output, Nat.le_trans h.size hg.size, fun k hk hn => (hg.block k (Nat.lt_of_lt_of_le hk h.size) (fun e => by have := hr k e.symm; omega)).trans (h.block k hk hn)⟩
section
variable {B X R : Nat} {w0 : World} {s : ByteArray} {h0 h1 h2 h3 h4 h5 : Value} {l : List UInt8} {v : Value} {fs : List Fd} {at' sn : Nat} {w : World}
theorem FSt.but {l' : List UInt8} {w' : World} (h : FSt B X R w0 s h0 h1 h2 h3 h4 h5 l v fs at' sn w) (hb : But R w w') (hr : Rl R s l' w') : FSt B X R w0 s h0 h1 h2 h3 h4 h5 l' v fs at' sn w' :=
  ⟨(hb.block X (heap_lt h.hX) h.XR).trans h.hX, row_save h.row (hb.save (l := [R]) (by simp)) (fun k hk => by simp at hk; rw [hk]; exact h.bR), hr, h.XR, h.bX, h.bR, Nat.le_trans h.le hb.size, h.le0, h.sv.trans (hb.save (by simp))⟩
theorem FSt.drew (h : FSt B X R w0 s h0 h1 h2 h3 h4 h5 l v fs at' sn w) : FSt B X R w0 s h0 h1 h2 h3 h4 h5 l v fs at' sn w.drew := ⟨h.hX, h.row, h.rd, h.XR, h.bX, h.bR, h.le, h.le0, h.sv.drew⟩
theorem FSt.alloc (h : FSt B X R w0 s h0 h1 h2 h3 h4 h5 l v fs at' sn w) (o : Obj) : FSt B X R w0 s h0 h1 h2 h3 h4 h5 l v fs at' sn (w.alloc o) := by
  have hb := (Below.refl w.heap.size w).alloc (Nat.le_refl _) o
  exact ⟨(hb.block X (heap_lt h.hX)).trans h.hX, World.ownsRow.alloc h.row o, h.rd.same (hb.block R h.rd.lt), h.XR, h.bX, h.bR, Nat.le_trans h.le hb.size, h.le0, h.sv.alloc o⟩
theorem FSt.c6 (h : FSt B X R w0 s h0 h1 h2 h3 h4 h5 l v fs at' sn w) : w.cell? ⟨X, 6, none⟩ = some v := cellAt h.hX rfl
theorem FSt.c7 (h : FSt B X R w0 s h0 h1 h2 h3 h4 h5 l v fs at' sn w) : w.cell? ⟨X, 7, none⟩ = some (.int .i64 at') := cellAt h.hX rfl
theorem FSt.c8 (h : FSt B X R w0 s h0 h1 h2 h3 h4 h5 l v fs at' sn w) : w.cell? ⟨X, 8, none⟩ = some (.int .u32 sn) := cellAt h.hX rfl
theorem FSt.f (h : FSt B X R w0 s h0 h1 h2 h3 h4 h5 l v fs at' sn w) (i : Nat) : w.frozen? ⟨X, i, none⟩ = false := Lib.frozen_of_heap h.hX i
/-- behind the append, ahead of the store -/
structure FMid (B X R : Nat) (w0 : World) (s : ByteArray) (h0 h1 h2 h3 h4 h5 : Value) (l : List UInt8) (v : Value) (fs : List Fd) (at' sn : Nat) (w : World) : Prop where
  hX : ∃ u, w.heap[X]? = some (.cells #[h0, h1, h2, h3, h4, h5, u, .int .i64 at', .int .u32 sn] 74 (0, 0))
  row : w.ownsRow B 45 2 v fs.length (fflat fs)
  rd : Rl R s l w
  XR : X ≠ R
  bX : X < B
  bR : R < B
  le : B ≤ w.heap.size
  le0 : w0.heap.size ≤ B
  sv : Save [X, R] w0 w
theorem FMid.drew (h : FMid B X R w0 s h0 h1 h2 h3 h4 h5 l v fs at' sn w) : FMid B X R w0 s h0 h1 h2 h3 h4 h5 l v fs at' sn w.drew := ⟨h.hX, h.row, h.rd, h.XR, h.bX, h.bR, h.le, h.le0, h.sv.drew⟩
theorem FMid.c6 (h : FMid B X R w0 s h0 h1 h2 h3 h4 h5 l v fs at' sn w) : ∃ u, w.cell? ⟨X, 6, none⟩ = some u := by
  obtain ⟨u, hu⟩ := h.hX
  exact ⟨u, cellAt hu rfl⟩
theorem FMid.f (h : FMid B X R w0 s h0 h1 h2 h3 h4 h5 l v fs at' sn w) (i : Nat) : w.frozen? ⟨X, i, none⟩ = false := by
  obtain ⟨u, hu⟩ := h.hX
  exact Lib.frozen_of_heap hu i
theorem own_ne {w : World} {B X : Nat} {e : TypeId} {z n : Nat} {v : Value} {xs : List Value} (h : w.ownsRow B e z v n xs) (hX : X < B) : v.ownBlock ≠ some X := fun hk => by
  have := (World.ownsRow.lt h X hk).1; omega
theorem FMid.store (h : FMid B X R w0 s h0 h1 h2 h3 h4 h5 l v fs at' sn w) : FSt B X R w0 s h0 h1 h2 h3 h4 h5 l v fs at' sn (w.setCell ⟨X, 6, none⟩ v) := by
  obtain ⟨u, hu⟩ := h.hX
  have hsv : Save [X] w (w.setCell ⟨X, 6, none⟩ v) := (Save.refl _ _).set (.inl (by simp)) _
  exact ⟨heap_set hu (i := 6) (by simp) v, row_save h.row hsv (fun k hk => by simp at hk; rw [hk]; exact h.bX), h.rd.same (Below.heap_setCell _ _ _ _ (fun e => h.XR e.symm)), h.XR, h.bX, h.bR, by simpa [World.setCell] using h.le, h.le0, h.sv.set (.inl (by simp)) _⟩
theorem FSt.setSeal (h : FSt B X R w0 s h0 h1 h2 h3 h4 h5 l v fs at' sn w) (n : Nat) : FSt B X R w0 s h0 h1 h2 h3 h4 h5 l v fs at' n (w.setCell ⟨X, 8, none⟩ (.int .u32 n)) := by
  have hsv : Save [X] w (w.setCell ⟨X, 8, none⟩ (.int .u32 n)) := (Save.refl _ _).set (.inl (by simp)) _
  exact ⟨heap_set h.hX (i := 8) (by simp) _, row_save h.row hsv (fun k hk => by simp at hk; rw [hk]; exact h.bX), h.rd.same (Below.heap_setCell _ _ _ _ (fun e => h.XR e.symm)), h.XR, h.bX, h.bR, by simpa [World.setCell] using h.le, h.le0, h.sv.set (.inl (by simp)) _⟩
theorem FSt.setAt (h : FSt B X R w0 s h0 h1 h2 h3 h4 h5 l v fs at' sn w) (n : Nat) : FSt B X R w0 s h0 h1 h2 h3 h4 h5 l v fs n sn (w.setCell ⟨X, 7, none⟩ (.int .i64 n)) := by
  have hsv : Save [X] w (w.setCell ⟨X, 7, none⟩ (.int .i64 n)) := (Save.refl _ _).set (.inl (by simp)) _
  exact ⟨heap_set h.hX (i := 7) (by simp) _, row_save h.row hsv (fun k hk => by simp at hk; rw [hk]; exact h.bX), h.rd.same (Below.heap_setCell _ _ _ _ (fun e => h.XR e.symm)), h.XR, h.bX, h.bR, by simpa [World.setCell] using h.le, h.le0, h.sv.set (.inl (by simp)) _⟩
theorem info45 : ∃ i, Tryd.prog.info? 45 = some i ∧ i.zero = some (.agg #[.int .i64 0, .string ⟨#[]⟩]) ∧ i.size = 2 ∧ i.bytes = 24 := by
  have h : (Tryd.prog.info? 45).map (fun i => (i.zero, i.size, i.bytes)) = some (some (.agg #[.int .i64 0, .string ⟨#[]⟩]), 2, 24) := by kernel_rfl
  exact info_parts h
/-- the field that was laid, put behind the row -/
theorem FSt.append (h : FSt B X R w0 s h0 h1 h2 h3 h4 h5 l v fs at' sn w) (ty : TypeId) (g c : Nat) (f : Fd) (hg : w.heap[g]? = some (.cells #[.int .i64 f.1, .string (bs f.2)] 45 (0, 0))) (hlen : fs.length ≤ 1000000) :
    ∃ v' w', (Builtin.append_ #[22, 22] ty #[v, .slice (some ⟨g, 0, none⟩) 1 c]).run Tryd.prog w = .ok v' w' ∧ (FMid B X R w0 s h0 h1 h2 h3 h4 h5 l v' (fs ++ [f]) at' sn w' ∧ ∃ g cap, v' = .slice (some ⟨g, 0, none⟩) (fs.length + 1) cap) := by
  obtain ⟨i0, hi, hz0, hz1, hz2⟩ := info45
  obtain ⟨g', cap, w', hr, h2', h3', h4', h5'⟩ := run_append_lies (P := Tryd.prog) w 22 ty B 45 i0 _ 2 24 Tryd.underlying22 hi hz0 hz1 hz2 rfl (by decide) v fs.length (fflat fs) h.row ⟨g, 0, none⟩ 1 c (fcells f) rfl
    (World.news_of_block hg) (fun u hu => by unfold fcells at hu; simp at hu; rcases hu with rfl | rfl <;> rfl) (by omega) (by unfold maxLen; omega) (by omega) h.le _ rfl
  have hlt : ∀ {b : Nat} {o : Obj}, w.heap[b]? = some o → v.ownBlock ≠ some b → w'.heap[b]? = some o := fun hb hne => (h3'.block _ (heap_lt hb) (fun e => hne e.symm)).trans hb
  refine ⟨_, w', hr, ⟨⟨v, hlt h.hX (own_ne h.row h.bX)⟩, ?_, ?_, h.XR, h.bX, h.bR, Nat.le_trans h.le h3'.size, h.le0, ?_⟩, g', cap, rfl⟩
  · rw [List.length_append, fflat_app]
    exact h2'
  · obtain ⟨a, r1, r2, r3⟩ := h.rd
    exact ⟨a, hlt r1 (own_ne h.row h.bR), r2, r3⟩
  · exact h.sv.grown h3' (fun k hk => Nat.le_trans h.le0 (World.ownsRow.lt h.row k hk).1)
end
theorem need_3 (p : Value) (w : World) : Calls Tryd.prog 34 #[p, .bool false, .int .i64 3] w fun e w' => e = .panicked (stopped 3) ∧ w' = w := need_no p 3 w
theorem need_4 (p : Value) (w : World) : Calls Tryd.prog 34 #[p, .bool false, .int .i64 4] w fun e w' => e = .panicked (stopped 4) ∧ w' = w := need_no p 4 w
theorem need_5 (p : Value) (w : World) : Calls Tryd.prog 34 #[p, .bool false, .int .i64 5] w fun e w' => e = .panicked (stopped 5) ∧ w' = w := need_no p 5 w
theorem need_6 (p : Value) (w : World) : Calls Tryd.prog 34 #[p, .bool false, .int .i64 6] w fun e w' => e = .panicked (stopped 6) ∧ w' = w := need_no p 6 w
theorem need_9 (p : Value) (w : World) : Calls Tryd.prog 34 #[p, .bool false, .int .i64 9] w fun e w' => e = .panicked (stopped 9) ∧ w' = w := need_no p 9 w
theorem need_12 (p : Value) (w : World) : Calls Tryd.prog 34 #[p, .bool false, .int .i64 12] w fun e w' => e = .panicked (stopped 12) ∧ w' = w := need_no p 12 w
theorem need_13 (p : Value) (w : World) : Calls Tryd.prog 34 #[p, .bool false, .int .i64 13] w fun e w' => e = .panicked (stopped 13) ∧ w' = w := need_no p 13 w
theorem left_b (b : Nat) (s : ByteArray) (l : List UInt8) (w : World) (h : Rl b s l w) (hs : s.size ≤ MX) :
    Calls Tryd.prog 48 #[.pointer (some ⟨b, 0, none⟩)] w fun e w' => e = .returned (.int .i64 (l.length : Int)) ∧ Rl b s l w' ∧ But b w w' :=
  (left_l b s l w h hs).mono fun _ _ ⟨he, n, hn⟩ => ⟨he, hn ▸ h.drewN n, hn ▸ (But.refl b w).drewN n⟩
theorem step_append_at {P : Program} {ops : Array Oper} {o : Oper} {a : Act} {w : World} {K : Act → World → Prop} {Q : Exit → Act → World → Prop} {E : Prop}
    (s x : Operand) (t : TypeId) (hg : o.guard = none) (hop : o.op = Op.call { callee := Callee.builtin Builtin.append, args := #[s, x], argTypes := #[t, t] })
    (h : ∃ v' w', (Builtin.append_ #[t, t] o.type #[a.eval s, a.eval x]).run P w = .ok v' w' ∧ K (a.put o.dst v') w') :
    if Region.wanted o (yielded ops a.tmps) = true then Oper.wp P o a w K Q else E := by
  have hw : Region.wanted o (yielded ops a.tmps) = true := by simp [Region.wanted, hg]
  rw [if_pos hw]
  obtain ⟨v', w', h1, h2⟩ := h
  unfold Oper.wp
  simp [execOp, hop, resolve, invoke, builtin, h1, Result.andThen]
  exact h2
theorem ex_mono {P R K : Value → World → Prop} (h : ∃ v' w', P v' w' ∧ R v' w') (hk : ∀ v' w', R v' w' → K v' w') : ∃ v' w', P v' w' ∧ K v' w' := by
  obtain ⟨v', w', h1, h2⟩ := h
  exact ⟨v', w', h1, hk _ _ h2⟩
theorem alloc_new_drew (w : World) (o : Obj) : (w.alloc o).drew.heap[w.heap.size]? = some o := alloc_new w o
theorem flE_nil (k tot : Nat) (fs : List Fd) (a n : Nat) (tw : Bool) : flE k tot [] fs a n tw = if tw then .error 12 else .ok (fs, a, n) := by
  cases k <;> simp [flE]
def FieldsPost (X R : Nat) (s : ByteArray) (l : List UInt8) (h0 h1 h2 h3 h4 h5 : Value) (w : World) (e : Ending) (w' : World) : Prop :=
  (∃ c, flE l.length s.size l [] 0 0 false = .error c ∧ e = .panicked (stopped c) ∧ Save [X, R] w w') ∨
  (∃ fs a n v, flE l.length s.size l [] 0 0 false = .ok (fs, a, n) ∧ e = .returned (.tuple #[]) ∧ FSt w.heap.size X R w s h0 h1 h2 h3 h4 h5 [] v fs a n w')
set_option maxHeartbeats 8000000 in
theorem fields_any (X R : Nat) (s : ByteArray) (l : List UInt8) (h0 h1 h2 h3 h4 h5 : Value) (w : World) (hR : Rl R s l w) (hX : w.heap[X]? = some (.cells #[h0, h1, h2, h3, h4, h5, .slice none 0 0, .int .i64 0, .int .u32 0] 74 (0, 0))) (hXR : X ≠ R) (hs : s.size ≤ 1000000) :
    Calls Tryd.prog 53 #[.pointer (some ⟨X, 0, none⟩), .pointer (some ⟨R, 0, none⟩)] w (FieldsPost X R s l h0 h1 h2 h3 h4 h5 w) := by
  have ST0 : FSt w.heap.size X R w s h0 h1 h2 h3 h4 h5 l (.slice none 0 0) [] 0 0 w := ⟨hX, World.ownsRow_nil _ _ _ _, hR, hXR, heap_lt hX, hR.lt, Nat.le_refl _, Nat.le_refl _, Save.refl _ _⟩
  obtain ⟨F, hF⟩ : ∃ F, F = flE l.length s.size l [] 0 0 false := ⟨_, rfl⟩
  have HF := Lib.hid hF
  have hs2 : s.size ≤ MX := by show s.size ≤ 9223372036854775807; omega
  clear hR hX hF
  go_enter Tryd.func53, Tryd.ntmps53
  go_wp2_with (fail)
  go_loopg [4, 5, 6] l.length (fun k t4 t5 t6 wr => ∃ (m : List UInt8) (fs : List Fd) (a n : Nat) (tw : Bool) (v : Value), m.length ≤ k ∧ t4 = .bool tw ∧ fs.length + m.length ≤ s.size ∧ Hid (F = flE k s.size m fs a n tw) ∧ FSt w.heap.size X R w s h0 h1 h2 h3 h4 h5 m v fs a n wr)
  case atStart => exact ⟨l, [], 0, 0, false, _, Nat.le_refl _, rfl, by have := ST0.rd.len; simpa using this, HF.out, ST0⟩
  case round =>
    obtain ⟨m, fs, a, n, tw, v, hm, rfl, hfl, hF, st⟩ := hrel
    by_cases hm0 : m.length = 0
    · obtain rfl : m = [] := List.length_eq_zero_iff.1 hm0
      have hF2 : Hid (F = if tw then .error 12 else .ok (fs, a, n)) := by show F = _; rw [hF.out, flE_nil]
      have CL : Hid (∀ W, Rl R s [] W → Calls Tryd.prog 48 #[.pointer (some ⟨R, 0, none⟩)] W fun e w' => e = .returned (.int .i64 0) ∧ Rl R s [] w' ∧ But R W w') := fun W h => left_b R s [] W h hs2
      have ST := Lib.hid st
      clear hF st hm0 hm
      cases tw with
      | true =>
        go_wp2_with (first | (go_at_call 48; (with_reducible refine (CL.out _ ST.out.rd).mono ?_); rintro e w1 ⟨rfl, hr, hb⟩) | (go_at_call 34; (with_reducible refine (need_12 _ _).mono ?_); rintro e w6 ⟨rfl, rfl⟩))
        exact ⟨rfl, .inl ⟨12, by rw [← HF.out, hF2.out]; rfl, rfl, (ST.out.but hb hr).sv⟩⟩
      | false =>
        go_wp2_with (first | (go_at_call 48; (with_reducible refine (CL.out _ ST.out.rd).mono ?_); rintro e w1 ⟨rfl, hr, hb⟩) | (go_at_call 34; (with_reducible refine (need_yes _ _ _).mono ?_); rintro e w6 ⟨rfl, rfl⟩))
        go_end0
        exact .inr ⟨fs, a, n, v, by rw [← HF.out, hF2.out]; rfl, rfl, ST.out.but hb hr⟩
    · have hm1 : (m.length : Int) > 0 := by omega
      have hm2 : 0 < m.length := by omega
      obtain ⟨k, rfl⟩ : ∃ k, gk = k + 1 := ⟨gk - 1, by omega⟩
      have CL : Hid (∀ W, Rl R s m W → Calls Tryd.prog 48 #[.pointer (some ⟨R, 0, none⟩)] W fun e w' => e = .returned (.int .i64 (m.length : Int)) ∧ Rl R s m w' ∧ But R W w') := fun W h => left_b R s m W h hs2
      have hFu : Hid (F = flE (k + 1) s.size m fs a n tw) := hF
      by_cases h3 : m.length < 3
      · have hF2 : Hid (F = .error 4) := by show F = _; rw [hF.out, flE, if_neg hm0, if_pos h3]
        have h3' : ¬ (m.length : Int) ≥ 3 := by omega
        have h3'' : decide ((3 : Int) ≤ (m.length : Int)) = false := decide_eq_false (by omega)
        have ST := Lib.hid st
        clear hF hFu st hm0
        go_wp2_with (first | (go_at_call 48; (with_reducible refine (CL.out _ ST.out.rd).mono ?_); rintro e w1 ⟨rfl, hr, hb⟩; have ST2 := Lib.hid (ST.out.but hb hr); clear ST hr hb; have ST := ST2; clear ST2) | (go_at_call 34; (with_reducible refine (need_4 _ _).mono ?_); rintro e w6 ⟨rfl, rfl⟩))
        exact ⟨rfl, .inl ⟨4, by rw [← HF.out, hF2.out], rfl, ST.out.sv⟩⟩
      · have h3' : (m.length : Int) ≥ 3 := by omega
        have h3'' : decide ((3 : Int) ≤ (m.length : Int)) = true := decide_eq_true (by omega)
        obtain ⟨m1, hm1e⟩ : ∃ x, x = m.drop 1 := ⟨_, rfl⟩
        obtain ⟨m3, hm3e⟩ : ∃ x, x = m.drop 3 := ⟨_, rfl⟩
        obtain ⟨c, hc⟩ : ∃ x, x = bv (m.take 1) := ⟨_, rfl⟩
        obtain ⟨nn, hnn⟩ : ∃ x, x = bv (m1.take 2) := ⟨_, rfl⟩
        have hm3l : m3.length = m.length - 3 := by rw [hm3e, List.length_drop]
        have C8 : Hid (∀ W, Rl R s m W → Calls Tryd.prog 49 #[.pointer (some ⟨R, 0, none⟩)] W fun e w' => e = .returned (.int .i64 (c : Int)) ∧ Rl R s m1 w' ∧ But R W w') := fun W h => by
          have h := u8_l R s m W h (by omega) hs2
          rw [← hc, ← hm1e] at h; exact h
        have C16 : Hid (∀ W, Rl R s m1 W → Calls Tryd.prog 51 #[.pointer (some ⟨R, 0, none⟩)] W fun e w' => e = .returned (.int .i64 (nn : Int)) ∧ Rl R s m3 w' ∧ But R W w') := fun W h => by
          have h := u16_l R s m1 W h (by rw [hm1e, List.length_drop]; omega) hs2
          rw [← hnn, show m1.drop 2 = m3 by rw [hm1e, List.drop_drop, hm3e]] at h; exact h
        have CL3 : Hid (∀ W, Rl R s m3 W → Calls Tryd.prog 48 #[.pointer (some ⟨R, 0, none⟩)] W fun e w' => e = .returned (.int .i64 (m3.length : Int)) ∧ Rl R s m3 w' ∧ But R W w') := fun W h => left_b R s m3 W h hs2
        have hF1 : Hid (F = if m3.length < nn then .error 4
            else if c ≠ 3 then flE k s.size (m3.drop nn) (fs ++ [(c, m3.take nn)]) a n tw
            else if nn ≠ 4 then .error 4
            else flE k s.size (m3.drop 4) fs (s.size - m3.length) (bv (m3.take 4)) (tw || decide (0 < a))) := by
          show F = _
          rw [hF.out, flE, if_neg hm0, if_neg h3, ← hm1e, ← hm3e, ← hc, ← hnn]
        have hm3s : m3.length + 3 ≤ s.size := by omega
        have hk3 : m3.length + 3 ≤ k + 1 := by omega
        have hfl3 : fs.length + m3.length + 3 ≤ s.size := by omega
        have ST := Lib.hid st
        clear hF hFu st hm0 hm1e hm3e hc hnn h3 hm hfl hm3l
        by_cases hn : m3.length < nn
        · have hF2 : Hid (F = .error 4) := by show F = _; rw [hF1.out, if_pos hn]
          have hn1 : decide ((nn : Int) ≤ (m3.length : Int)) = false := decide_eq_false (by omega)
          have hn2 : decide (nn ≤ m3.length) = false := decide_eq_false (by omega)
          go_wp2_with (first | (go_at_call 48; (with_reducible refine (CL.out _ ST.out.rd).mono ?_); rintro e w1 ⟨rfl, hr, hb⟩; have ST2 := Lib.hid (ST.out.but hb hr); clear ST hr hb; have ST := ST2; clear ST2) | (go_at_call 34; (with_reducible refine (need_yes _ _ _).mono ?_); rintro e w6 ⟨rfl, rfl⟩) | (go_at_call 49; (with_reducible refine (C8.out _ ST.out.rd).mono ?_); rintro e w1 ⟨rfl, hr, hb⟩; have ST2 := Lib.hid (ST.out.but hb hr); clear ST hr hb; have ST := ST2; clear ST2) | (go_at_call 51; (with_reducible refine (C16.out _ ST.out.rd).mono ?_); rintro e w1 ⟨rfl, hr, hb⟩; have ST2 := Lib.hid (ST.out.but hb hr); clear ST hr hb; have ST := ST2; clear ST2) | (go_at_call 48; (with_reducible refine (CL3.out _ ST.out.rd).mono ?_); rintro e w1 ⟨rfl, hr, hb⟩; have ST2 := Lib.hid (ST.out.but hb hr); clear ST hr hb; have ST := ST2; clear ST2) | (go_at_call 34; (with_reducible refine (need_4 _ _).mono ?_); rintro e w6 ⟨rfl, rfl⟩))
          exact ⟨rfl, .inl ⟨4, by rw [← HF.out, hF2.out], rfl, ST.out.sv⟩⟩
        · have hn1 : decide ((nn : Int) ≤ (m3.length : Int)) = true := decide_eq_true (by omega)
          have hn2 : decide (nn ≤ m3.length) = true := decide_eq_true (by omega)
          by_cases hc3 : c = 3
          · have hc1 : ((c : Int) != 3) = false := by simp; omega
            by_cases hn4 : nn = 4
            · subst hn4
              have hn3 : decide ((4 : Int) ≤ (m3.length : Int)) = true := decide_eq_true (by omega)
              obtain ⟨m5, hm5⟩ : ∃ x, x = m3.drop 4 := ⟨_, rfl⟩
              obtain ⟨sv, hsv⟩ : ∃ x, x = bv (m3.take 4) := ⟨_, rfl⟩
              have hm5l : m5.length = m3.length - 4 := by rw [hm5, List.length_drop]
              have hF2 : Hid (F = flE k s.size m5 fs (s.size - m3.length) sv (tw || decide (0 < a))) := by show F = _; rw [hF1.out, if_neg hn, if_neg (by omega), if_neg (by omega), hm5, hsv]
              have CA : Hid (∀ W, Rl R s m3 W → Calls Tryd.prog 60 #[.pointer (some ⟨R, 0, none⟩)] W fun e w' => e = .returned (.int .i64 ((s.size - m3.length : Nat) : Int)) ∧ w' = W) := fun W h => at_l R s m3 W h
              have C32 : Hid (∀ W, Rl R s m3 W → Calls Tryd.prog 61 #[.pointer (some ⟨R, 0, none⟩)] W fun e w' => e = .returned (.int .u32 (sv : Int)) ∧ Rl R s m5 w' ∧ But R W w') := fun W h => by
                have h := u32_l R s m3 W h (by omega) hs2
                rw [← hsv, ← hm5] at h; exact h
              obtain ⟨a2, ha2⟩ : ∃ x, x = s.size - m3.length := ⟨_, rfl⟩
              rw [← ha2] at hF2 CA
              clear hF1 hc3 hm5 hsv ha2
              cases tw with
              | true =>
                go_wp2_with (first | (go_at_call 48; (with_reducible refine (CL.out _ ST.out.rd).mono ?_); rintro e w1 ⟨rfl, hr, hb⟩; have ST2 := Lib.hid (ST.out.but hb hr); clear ST hr hb; have ST := ST2; clear ST2) | (go_at_call 34; (with_reducible refine (need_yes _ _ _).mono ?_); rintro e w6 ⟨rfl, rfl⟩) | (go_at_call 49; (with_reducible refine (C8.out _ ST.out.rd).mono ?_); rintro e w1 ⟨rfl, hr, hb⟩; have ST2 := Lib.hid (ST.out.but hb hr); clear ST hr hb; have ST := ST2; clear ST2) | (go_at_call 51; (with_reducible refine (C16.out _ ST.out.rd).mono ?_); rintro e w1 ⟨rfl, hr, hb⟩; have ST2 := Lib.hid (ST.out.but hb hr); clear ST hr hb; have ST := ST2; clear ST2) | (go_at_call 48; (with_reducible refine (CL3.out _ ST.out.rd).mono ?_); rintro e w1 ⟨rfl, hr, hb⟩; have ST2 := Lib.hid (ST.out.but hb hr); clear ST hr hb; have ST := ST2; clear ST2; have k7 := ST.out.c7; have k7f := ST.out.f 7) | (go_at_call 60; (with_reducible refine (CA.out _ ST.out.rd).mono ?_); rintro e w7 ⟨rfl, rfl⟩))
                have ST7 := Lib.hid (ST.out.setAt a2)
                clear ST k7 k7f
                refine (C32.out _ ST7.out.rd).mono ?_
                rintro e w8 ⟨rfl, hr, hb⟩
                have ST8 := Lib.hid (ST7.out.but hb hr)
                have k8 := ST8.out.c8
                have k8f := ST8.out.f 8
                clear ST7 hr hb
                go_wp2_with (fail)
                go_roundg k
                any_goals (exact Nat.lt_succ_self k)
                exact ⟨m5, fs, a2, sv, true, v, by omega, rfl, by omega, (hF2.out : F = flE k s.size m5 fs a2 sv true), ST8.out.setSeal sv⟩
              | false =>
                by_cases ha : 0 < a
                · have ha1 : decide ((0 : Int) < (a : Int)) = true := decide_eq_true (by omega)
                  have ha2 : (a : Int) > 0 := by omega
                  have ha3 : decide (0 < a) = true := decide_eq_true ha
                  go_wp2_with (first | (go_at_call 48; (with_reducible refine (CL.out _ ST.out.rd).mono ?_); rintro e w1 ⟨rfl, hr, hb⟩; have ST2 := Lib.hid (ST.out.but hb hr); clear ST hr hb; have ST := ST2; clear ST2) | (go_at_call 34; (with_reducible refine (need_yes _ _ _).mono ?_); rintro e w6 ⟨rfl, rfl⟩) | (go_at_call 49; (with_reducible refine (C8.out _ ST.out.rd).mono ?_); rintro e w1 ⟨rfl, hr, hb⟩; have ST2 := Lib.hid (ST.out.but hb hr); clear ST hr hb; have ST := ST2; clear ST2) | (go_at_call 51; (with_reducible refine (C16.out _ ST.out.rd).mono ?_); rintro e w1 ⟨rfl, hr, hb⟩; have ST2 := Lib.hid (ST.out.but hb hr); clear ST hr hb; have ST := ST2; clear ST2) | (go_at_call 48; (with_reducible refine (CL3.out _ ST.out.rd).mono ?_); rintro e w1 ⟨rfl, hr, hb⟩; have ST2 := Lib.hid (ST.out.but hb hr); clear ST hr hb; have ST := ST2; clear ST2; have k7 := ST.out.c7; have k7f := ST.out.f 7) | (go_at_call 60; (with_reducible refine (CA.out _ ST.out.rd).mono ?_); rintro e w7 ⟨rfl, rfl⟩))
                  have ST7 := Lib.hid (ST.out.setAt a2)
                  clear ST k7 k7f
                  refine (C32.out _ ST7.out.rd).mono ?_
                  rintro e w8 ⟨rfl, hr, hb⟩
                  have ST8 := Lib.hid (ST7.out.but hb hr)
                  have k8 := ST8.out.c8
                  have k8f := ST8.out.f 8
                  clear ST7 hr hb
                  go_wp2_with (fail)
                  go_roundg k
                  any_goals (exact Nat.lt_succ_self k)
                  exact ⟨m5, fs, a2, sv, true, v, by omega, rfl, by omega, (by have h := hF2.out; rw [ha3] at h; exact h), ST8.out.setSeal sv⟩
                · have ha1 : decide ((0 : Int) < (a : Int)) = false := decide_eq_false (by omega)
                  have ha2 : ¬ (a : Int) > 0 := by omega
                  have ha3 : decide (0 < a) = false := decide_eq_false ha
                  go_wp2_with (first | (go_at_call 48; (with_reducible refine (CL.out _ ST.out.rd).mono ?_); rintro e w1 ⟨rfl, hr, hb⟩; have ST2 := Lib.hid (ST.out.but hb hr); clear ST hr hb; have ST := ST2; clear ST2) | (go_at_call 34; (with_reducible refine (need_yes _ _ _).mono ?_); rintro e w6 ⟨rfl, rfl⟩) | (go_at_call 49; (with_reducible refine (C8.out _ ST.out.rd).mono ?_); rintro e w1 ⟨rfl, hr, hb⟩; have ST2 := Lib.hid (ST.out.but hb hr); clear ST hr hb; have ST := ST2; clear ST2) | (go_at_call 51; (with_reducible refine (C16.out _ ST.out.rd).mono ?_); rintro e w1 ⟨rfl, hr, hb⟩; have ST2 := Lib.hid (ST.out.but hb hr); clear ST hr hb; have ST := ST2; clear ST2) | (go_at_call 48; (with_reducible refine (CL3.out _ ST.out.rd).mono ?_); rintro e w1 ⟨rfl, hr, hb⟩; have ST2 := Lib.hid (ST.out.but hb hr); clear ST hr hb; have ST := ST2; clear ST2; have k7 := ST.out.c7; have k7f := ST.out.f 7) | (go_at_call 60; (with_reducible refine (CA.out _ ST.out.rd).mono ?_); rintro e w7 ⟨rfl, rfl⟩))
                  have ST7 := Lib.hid (ST.out.setAt a2)
                  clear ST k7 k7f
                  refine (C32.out _ ST7.out.rd).mono ?_
                  rintro e w8 ⟨rfl, hr, hb⟩
                  have ST8 := Lib.hid (ST7.out.but hb hr)
                  have k8 := ST8.out.c8
                  have k8f := ST8.out.f 8
                  clear ST7 hr hb
                  go_wp2_with (fail)
                  go_roundg k
                  any_goals (exact Nat.lt_succ_self k)
                  exact ⟨m5, fs, a2, sv, false, v, by omega, rfl, by omega, (by have h := hF2.out; rw [ha3] at h; exact h), ST8.out.setSeal sv⟩
            · have hF2 : Hid (F = .error 4) := by show F = _; rw [hF1.out, if_neg hn, if_neg (by omega), if_pos hn4]
              have hn3 : ((nn : Int) == 4) = false := by rw [beq_eq_false_iff_ne]; omega
              clear hF1 hc3 hn4
              go_wp2_with (first | (go_at_call 48; (with_reducible refine (CL.out _ ST.out.rd).mono ?_); rintro e w1 ⟨rfl, hr, hb⟩; have ST2 := Lib.hid (ST.out.but hb hr); clear ST hr hb; have ST := ST2; clear ST2) | (go_at_call 34; (with_reducible refine (need_yes _ _ _).mono ?_); rintro e w6 ⟨rfl, rfl⟩) | (go_at_call 49; (with_reducible refine (C8.out _ ST.out.rd).mono ?_); rintro e w1 ⟨rfl, hr, hb⟩; have ST2 := Lib.hid (ST.out.but hb hr); clear ST hr hb; have ST := ST2; clear ST2) | (go_at_call 51; (with_reducible refine (C16.out _ ST.out.rd).mono ?_); rintro e w1 ⟨rfl, hr, hb⟩; have ST2 := Lib.hid (ST.out.but hb hr); clear ST hr hb; have ST := ST2; clear ST2) | (go_at_call 48; (with_reducible refine (CL3.out _ ST.out.rd).mono ?_); rintro e w1 ⟨rfl, hr, hb⟩; have ST2 := Lib.hid (ST.out.but hb hr); clear ST hr hb; have ST := ST2; clear ST2) | (go_at_call 34; (with_reducible refine (need_4 _ _).mono ?_); rintro e w6 ⟨rfl, rfl⟩))
              exact ⟨rfl, .inl ⟨4, by rw [← HF.out, hF2.out], rfl, ST.out.sv⟩⟩
          · have hc1 : ((c : Int) != 3) = true := by rw [bne_iff_ne]; omega
            have hnm : nn ≤ m3.length := by omega
            have hF2 : Hid (F = flE k s.size (m3.drop nn) (fs ++ [(c, m3.take nn)]) a n tw) := by show F = _; rw [hF1.out, if_neg hn, if_pos hc3]
            have CT : Hid (∀ W, Rl R s m3 W → Calls Tryd.prog 35 #[.pointer (some ⟨R, 0, none⟩), .int .i64 (nn : Int)] W fun e w' => e = .returned (.string (bs (m3.take nn))) ∧ Rl R s (m3.drop nn) w' ∧ But R W w') := fun W h => take_l R nn s m3 W h hnm hs2
            obtain ⟨m4, hm4⟩ : ∃ x, x = m3.drop nn := ⟨_, rfl⟩
            obtain ⟨tx, htx⟩ : ∃ x, x = m3.take nn := ⟨_, rfl⟩
            have hm4l : m4.length ≤ m3.length := by rw [hm4, List.length_drop]; omega
            rw [← hm4, ← htx] at hF2 CT
            clear hF1 hc3 hm4 htx
            go_wp2_with (first | (go_at_call 48; (with_reducible refine (CL.out _ ST.out.rd).mono ?_); rintro e w1 ⟨rfl, hr, hb⟩; have ST2 := Lib.hid (ST.out.but hb hr); clear ST hr hb; have ST := ST2; clear ST2) | (go_at_call 34; (with_reducible refine (need_yes _ _ _).mono ?_); rintro e w6 ⟨rfl, rfl⟩) | (go_at_call 49; (with_reducible refine (C8.out _ ST.out.rd).mono ?_); rintro e w1 ⟨rfl, hr, hb⟩; have ST2 := Lib.hid (ST.out.but hb hr); clear ST hr hb; have ST := ST2; clear ST2) | (go_at_call 51; (with_reducible refine (C16.out _ ST.out.rd).mono ?_); rintro e w1 ⟨rfl, hr, hb⟩; have ST2 := Lib.hid (ST.out.but hb hr); clear ST hr hb; have ST := ST2; clear ST2) | (go_at_call 48; (with_reducible refine (CL3.out _ ST.out.rd).mono ?_); rintro e w1 ⟨rfl, hr, hb⟩; have ST2 := Lib.hid (ST.out.but hb hr); clear ST hr hb; have ST := ST2; clear ST2))
            have k6 := ST.out.c6
            have k6f := ST.out.f 6
            have hlen : Hid (fs.length ≤ 1000000) := by show fs.length ≤ _; omega
            go_region_law (first | (go_simp; go_at_call 35; (with_reducible refine (CT.out _ ST.out.drew.rd).mono ?_); rintro e w5 ⟨rfl, hr, hb⟩; have st5 := ST.out.drew.but hb hr; have g1 := st5.c6; have g2 := st5.f 6; have g3 := (st5.alloc (.cells #[.int .i64 c, .string (bs tx)] 45)).c6; have g4 := (st5.alloc (.cells #[.int .i64 c, .string (bs tx)] 45)).f 6; have ST5 := Lib.hid st5; clear st5 hr hb) | (refine step_append_at (Operand.tmp 32) (Operand.tmp 38) 22 rfl rfl ?_; refine ex_mono (FSt.append (B := w.heap.size) (X := X) (R := R) (w0 := w) (s := s) (h0 := h0) (h1 := h1) (h2 := h2) (h3 := h3) (h4 := h4) (h5 := h5) (l := m4) (v := v) (fs := fs) (at' := a) (sn := n) ?_ _ _ _ (c, tx) ?_ hlen.out) ?_; (focus (repeat (first | exact ST5.out | refine FSt.drew ?_ | refine FSt.alloc ?_ _))); (focus (first | exact alloc_new _ _ | exact alloc_new_drew _ _)); rintro v3 w3 ⟨hM, g9, c9, rfl⟩; obtain ⟨u3, m0⟩ := hM.c6; have mf := hM.f 6; have HM := Lib.hid hM; clear hM))
            all_goals (have HS := Lib.hid HM.out.store; clear HM m0 mf ST5 g1 g2 g3 g4; simp only [Exit.then]; go_wp2_with (fail))
            all_goals (go_roundg k)
            any_goals (exact Nat.lt_succ_self k)
            all_goals (exact ⟨m4, fs ++ [(c, tx)], a, n, tw, _, by omega, rfl, by rw [List.length_append]; simp; omega, hF2.out, by have h := HS.out; exact h⟩)
end Go.Proofs.YtfagkmmenfeppaaDoor
