import Derived.Test.YthdkbocokefdhaaMidB
import Derived.Test.YthdkbocokefdhaaGetR
import Derived.Deep.RegionHeld
import Derived.Deep.RegionHeld3
import Derived.Deep.DeepCutAuto
/- A piece is added to a table: Add. -/
namespace Go.Proofs.Ythdkbocokefdhaa
set_option maxRecDepth 100000
open Go.RowKit
/-- what Add tells, and leaves -/
def AddPost (F : Nat → Prop) (Tb M : Nat) (st : Sto) (L : List En) (x : List UInt8) (w : World) (e : Ending) (w' : World) : Prop :=
  e = .returned (.tuple #[.string (bs (addT st L x).1.1), .int .i64 ((addT st L x).1.2 : Nat)]) ∧ (∃ loc row, Tab F Tb M st loc row (addT st L x).2 w') ∧ Kp F w w'
theorem getE_okH {x : List UInt8} {h : H4} {s : List UInt8} (e : getE x = .ok (h, s)) : h.ok := (getE_ok e).1
theorem kok_of {h : H4} (ho : h.ok) : Kok (kyOf h) := ⟨ho.src, ho.dst, ho.proto.1, ho.proto.2, ho.id.1, ho.id.2⟩
set_option maxHeartbeats 16000000 in
theorem add_go (F : Nat → Prop) (Tb M : Nat) (st : Sto) (loc : Ky → Nat) (row : Ky → Value) (L : List En) (x : ByteArray) (w : World) (h : Tab F Tb M st loc row L w) (hg : GoodT st L) (hst : st.ents ≤ 64 ∧ st.bts ≤ 1048576) (hx : x.size ≤ 9223372036854775807) :
    Calls Try.prog 15 #[.pointer (some ⟨Tb, 0, none⟩), .string x] w (AddPost F Tb M st L x.data.toList w) := by
  obtain ⟨r, hr⟩ : ∃ r, r = getE x.data.toList := ⟨_, rfl⟩
  have G0 := get_any x w hx
  rw [← hr] at G0
  obtain ⟨hh, sl, cc, hgr, hcc⟩ : ∃ (hh : H4) (sl : List UInt8) (cc : Nat), getR r = .tuple #[hv hh, .string (bs sl), .int .i64 (cc : Nat)] ∧ ((cc = 0 ∧ r = .ok (hh, sl)) ∨ (cc ≠ 0 ∧ r = .error cc ∧ hh = zH ∧ sl = [])) := by
    cases hrr : r with
    | ok p => exact ⟨p.1, p.2, 0, rfl, .inl ⟨rfl, rfl⟩⟩
    | error c => exact ⟨zH, [], c, rfl, .inr ⟨by rw [hr] at hrr; have := getE_code hrr; omega, rfl, rfl, rfl⟩⟩
  rw [hgr] at G0
  have hoff : 0 ≤ hh.off ∧ hh.off ≤ 8191 := by
    rcases hcc with ⟨_, h1⟩ | ⟨_, _, h1, _⟩
    · rw [h1] at hr; exact (getE_okH hr.symm).off
    · rw [h1]; decide
  have HR := Lib.hid hr
  have HCC := Lib.hid hcc
  have HG := Lib.hid hg
  have HT := Lib.hid h
  have HST := Lib.hid hst
  clear hr hcc hg hgr
  obtain ⟨P, hP⟩ : ∃ P : Pc, P = ⟨hh, sl⟩ := ⟨_, rfl⟩
  have HPP := Lib.hid hP
  clear hP
  have HHE := Lib.hid (rfl : hh = hh)
  obtain ⟨b0, b1, b2, b3, b4, b5, b6, c7, c8, c9⟩ := hh
  unfold hv hc at G0
  simp only at G0 hoff
  obtain ⟨b7, hb7⟩ : ∃ x, x = bs c7 := ⟨_, rfl⟩
  obtain ⟨b8, hb8⟩ : ∃ x, x = bs c8 := ⟨_, rfl⟩
  obtain ⟨b9, hb9⟩ : ∃ x, x = bs c9 := ⟨_, rfl⟩
  obtain ⟨ss, hss⟩ : ∃ x, x = bs sl := ⟨_, rfl⟩
  rw [← hb7, ← hb8, ← hb9, ← hss] at G0
  obtain ⟨fo, hfo⟩ : ∃ x, x = 8 * b2 := ⟨_, rfl⟩
  have hwf : IntKind.i64.wrap (8 * b2) = fo := by rw [hfo]; exact IntWalk.i64_in _ (by omega)
  have HSTR := Lib.hid (And.intro hb7 (And.intro hb8 (And.intro hb9 (And.intro hss hfo))))
  have G := Lib.hid G0
  clear hb7 hb8 hb9 hss hfo G0 h hst
  go_enter Try.func15, Try.ntmps15
  go_upto_region 1 with (fail)
  go_upto_region 2 with (go_at_call 29; (with_reducible refine G.out.mono ?_); rintro e w1 ⟨rfl, hb1⟩; have HB1 := Lib.hid hb1; clear hb1)
  obtain ⟨H1, hH1⟩ : ∃ H, H = w1.heap.size := ⟨_, rfl⟩
  obtain ⟨W2, hW2⟩ : ∃ W, W = w1.alloc (.cells #[.int .i64 b0, .int .i64 b1, .int .i64 b2, .int .i64 b3, .int .i64 b4, .bool b5, .bool b6, .string b7, .string b8, .string b9] 43) := ⟨_, rfl⟩
  have HW2 : Hid (W2.heap[H1]? = some (.cells #[.int .i64 b0, .int .i64 b1, .int .i64 b2, .int .i64 b3, .int .i64 b4, .bool b5, .bool b6, .string b7, .string b8, .string b9] 43 (0, 0)) ∧ Below w.heap.size w W2 ∧ w.heap.size ≤ H1) := Lib.hid ⟨by rw [hW2, hH1]; exact alloc_new _ _, by rw [hW2]; exact HB1.out.alloc HB1.out.size _, by rw [hH1]; exact HB1.out.size⟩
  have m0 := cellAt (i := 0) (v := .int .i64 b0) HW2.out.1 rfl
  have m1 := cellAt (i := 1) (v := .int .i64 b1) HW2.out.1 rfl
  have m2 := cellAt (i := 2) (v := .int .i64 b2) HW2.out.1 rfl
  have m3 := cellAt (i := 3) (v := .int .i64 b3) HW2.out.1 rfl
  have m4 := cellAt (i := 4) (v := .int .i64 b4) HW2.out.1 rfl
  have m5 := cellAt (i := 5) (v := .bool b5) HW2.out.1 rfl
  have m6 := cellAt (i := 6) (v := .bool b6) HW2.out.1 rfl
  have m7 := cellAt (i := 7) (v := .string b7) HW2.out.1 rfl
  have m8 := cellAt (i := 8) (v := .string b8) HW2.out.1 rfl
  have m9 := cellAt (i := 9) (v := .string b9) HW2.out.1 rfl
  rw [← hW2, ← hH1]
  clear hW2 hH1
  obtain ⟨P1, hP1⟩ : ∃ H, H = W2.heap.size := ⟨_, rfl⟩
  obtain ⟨W3, hW3⟩ : ∃ W, W = W2.alloc (.cells #[.int .i64 b0, .int .i64 b1, .int .i64 b2, .int .i64 b3, .int .i64 b4, .bool b5, .bool b6, .string b7, .string b8, .string b9, .int .i64 fo, .string ss] 74) := ⟨_, rfl⟩
  have HW3 : Hid (W3.heap[H1]? = some (.cells #[.int .i64 b0, .int .i64 b1, .int .i64 b2, .int .i64 b3, .int .i64 b4, .bool b5, .bool b6, .string b7, .string b8, .string b9] 43 (0, 0)) ∧ W3.heap[P1]? = some (.cells #[.int .i64 b0, .int .i64 b1, .int .i64 b2, .int .i64 b3, .int .i64 b4, .bool b5, .bool b6, .string b7, .string b8, .string b9, .int .i64 fo, .string ss] 74 (0, 0)) ∧ Below w.heap.size w W3 ∧ w.heap.size ≤ H1 ∧ w.heap.size ≤ P1) := Lib.hid ⟨by rw [hW3, Below.heap_alloc _ _ _ (heap_lt HW2.out.1)]; exact HW2.out.1, by rw [hW3, hP1]; exact alloc_new _ _, by rw [hW3]; exact HW2.out.2.1.alloc HW2.out.2.1.size _, HW2.out.2.2, by rw [hP1]; exact HW2.out.2.1.size⟩
  have n0 := cellAt (i := 0) (v := .int .i64 b0) HW3.out.2.1 rfl
  have n1 := cellAt (i := 1) (v := .int .i64 b1) HW3.out.2.1 rfl
  have n2 := cellAt (i := 2) (v := .int .i64 b2) HW3.out.2.1 rfl
  have n3 := cellAt (i := 3) (v := .int .i64 b3) HW3.out.2.1 rfl
  have n4 := cellAt (i := 4) (v := .int .i64 b4) HW3.out.2.1 rfl
  have n5 := cellAt (i := 5) (v := .bool b5) HW3.out.2.1 rfl
  have n6 := cellAt (i := 6) (v := .bool b6) HW3.out.2.1 rfl
  have n7 := cellAt (i := 7) (v := .string b7) HW3.out.2.1 rfl
  have n8 := cellAt (i := 8) (v := .string b8) HW3.out.2.1 rfl
  have n9 := cellAt (i := 9) (v := .string b9) HW3.out.2.1 rfl
  have n10 := cellAt (i := 10) (v := .int .i64 fo) HW3.out.2.1 rfl
  have n11 := cellAt (i := 11) (v := .string ss) HW3.out.2.1 rfl
  have HPV : Hid (pv P = .agg #[.int .i64 b0, .int .i64 b1, .int .i64 b2, .int .i64 b3, .int .i64 b4, .bool b5, .bool b6, .string b7, .string b8, .string b9, .int .i64 fo, .string ss] ∧ pcells P = (#[.int .i64 b0, .int .i64 b1, .int .i64 b2, .int .i64 b3, .int .i64 b4, .bool b5, .bool b6, .string b7, .string b8, .string b9, .int .i64 fo, .string ss] : Array Value).toList) := Lib.hid (by
    obtain ⟨e1, e2, e3, e4, e5⟩ := HSTR.out
    rw [HPP.out, e1, e2, e3, e4, e5]; exact ⟨rfl, rfl⟩)
  go_upto_region 3 with (fail)
  rw [← hW3, ← hP1]
  clear hW3 hP1 m0 m1 m2 m3 m4 m5 m6 m7 m8 m9
  by_cases hc0 : cc = 0
  rotate_left
  · have i0 : ((cc : Int) != 0) = true := by rw [bne_iff_ne]; omega
    have hR : Hid (addT st L x.data.toList = (([], cc), L)) := Lib.hid (by
      rcases HCC.out with ⟨h1, _⟩ | ⟨_, h1, _⟩
      · exact absurd h1 hc0
      · unfold addT; rw [← HR.out, h1])
    clear n0 n1 n2 n3 n4 n5 n6 n7 n8 n9 n10 n11
    go_wp2_with (fail)
    go_ret2
    refine ⟨by rw [hR.out]; rfl, ⟨loc, row, ?_⟩, Kp.of_below HW3.out.2.2.1 HT.out.lt⟩
    rw [hR.out]; exact HT.out.below HW3.out.2.2.1
  subst hc0
  have HOKR : Hid (getE x.data.toList = .ok (P.h, P.s)) := Lib.hid (by
    rcases HCC.out with ⟨_, h1⟩ | ⟨h1, _⟩
    · rw [← HR.out, h1, HPP.out]
    · exact absurd rfl h1)
  have HPSM : Hid (Psm P) := Lib.hid (Psm.of HOKR.out)
  obtain ⟨ob, hob⟩ : ∃ b, b = oddB P := ⟨_, rfl⟩
  have CO : Hid (∀ V, Calls Try.prog 30 #[.agg #[.int .i64 b0, .int .i64 b1, .int .i64 b2, .int .i64 b3, .int .i64 b4, .bool b5, .bool b6, .string b7, .string b8, .string b9, .int .i64 fo, .string ss]] V fun e w' => e = .returned (.bool ob) ∧ Below V.heap.size V w') := Lib.hid (fun V => by rw [← HPV.out.1, hob]; exact odd_any HPSM.out V)
  have HOB := Lib.hid hob
  clear hob
  cases ob with
  | true =>
    have hR : Hid (addT st L x.data.toList = (([], 4), L)) := Lib.hid (by unfold addT; rw [HOKR.out]; simp only; rw [if_pos HOB.out.symm])
    go_wp2_with (go_at_call 30; (with_reducible refine (CO.out _).mono ?_); rintro e w4 ⟨rfl, hb4⟩)
    go_ret2
    have hbb := HW3.out.2.2.1.trans (hb4.mono HW3.out.2.2.1.size)
    refine ⟨by rw [hR.out]; rfl, ⟨loc, row, ?_⟩, Kp.of_below hbb HT.out.lt⟩
    rw [hR.out]; exact HT.out.below hbb
  | false =>
  go_upto_region 7 with (go_at_call 30; (with_reducible refine (CO.out _).mono ?_); rintro e w4 ⟨rfl, hb4⟩; have HB4 := Lib.hid hb4; clear hb4)
  have HW4 : Hid (w4.heap[H1]? = some (.cells #[.int .i64 b0, .int .i64 b1, .int .i64 b2, .int .i64 b3, .int .i64 b4, .bool b5, .bool b6, .string b7, .string b8, .string b9] 43 (0, 0)) ∧ w4.heap[P1]? = some (.cells #[.int .i64 b0, .int .i64 b1, .int .i64 b2, .int .i64 b3, .int .i64 b4, .bool b5, .bool b6, .string b7, .string b8, .string b9, .int .i64 fo, .string ss] 74 (0, 0)) ∧ Below w.heap.size w w4) := Lib.hid ⟨(HB4.out.block _ (heap_lt HW3.out.1)).trans HW3.out.1, (HB4.out.block _ (heap_lt HW3.out.2.1)).trans HW3.out.2.1, HW3.out.2.2.1.trans (HB4.out.mono HW3.out.2.2.1.size)⟩
  clear n0 n1 n2 n3 n4 n5 n6 n7 n8 n9 n10 n11 CO
  have m1 := cellAt (i := 1) (v := .int .i64 b1) HW4.out.1 rfl
  have m4 := cellAt (i := 4) (v := .int .i64 b4) HW4.out.1 rfl
  have m7 := cellAt (i := 7) (v := .string b7) HW4.out.1 rfl
  have m8 := cellAt (i := 8) (v := .string b8) HW4.out.1 rfl
  obtain ⟨K1, hK1⟩ : ∃ H, H = w4.heap.size := ⟨_, rfl⟩
  obtain ⟨W5, hW5⟩ : ∃ W, W = w4.alloc (.cells #[.string b7, .string b8, .int .i64 b4, .int .i64 b1] 68) := ⟨_, rfl⟩
  obtain ⟨k, hk⟩ : ∃ k, k = kyOf P.h := ⟨_, rfl⟩
  have HK := Lib.hid hk
  have HKV : Hid (kv k = .agg #[.string b7, .string b8, .int .i64 b4, .int .i64 b1] ∧ Kok k) := Lib.hid (by
    obtain ⟨e1, e2, e3, e4, e5⟩ := HSTR.out
    refine ⟨?_, by rw [hk]; exact kok_of (getE_ok HOKR.out).1⟩
    rw [hk, HPP.out, e1, e2]; rfl)
  have HW5 : Hid (W5.heap[P1]? = some (.cells #[.int .i64 b0, .int .i64 b1, .int .i64 b2, .int .i64 b3, .int .i64 b4, .bool b5, .bool b6, .string b7, .string b8, .string b9, .int .i64 fo, .string ss] 74 (0, 0)) ∧ W5.heap[K1]? = some (.cells #[.string b7, .string b8, .int .i64 b4, .int .i64 b1] 68 (0, 0)) ∧ Below w.heap.size w W5 ∧ w.heap.size ≤ P1 ∧ w.heap.size ≤ K1 ∧ P1 ≠ K1) := Lib.hid ⟨by rw [hW5, Below.heap_alloc _ _ _ (heap_lt HW4.out.2.1)]; exact HW4.out.2.1, by rw [hW5, hK1]; exact alloc_new _ _, by rw [hW5]; exact HW4.out.2.2.alloc HW4.out.2.2.size _, HW3.out.2.2.2.2, by rw [hK1]; exact HW4.out.2.2.size, by have := heap_lt HW4.out.2.1; omega⟩
  go_upto_region 8 with (fail)
  rw [← hW5, ← hK1]
  clear hW5 hK1 hk m1 m4 m7 m8
  have T5 : Hid (Tab F Tb M st loc row L W5) := Lib.hid (HT.out.below HW5.out.2.2.1)
  have kT := cellAt (i := 3) (v := .map (some M)) T5.out.drew.tb rfl
  have k0 := cellAt (i := 0) (v := .string b7) (show W5.drew.heap[K1]? = _ from HW5.out.2.1) rfl
  have k1 := cellAt (i := 1) (v := .string b8) (show W5.drew.heap[K1]? = _ from HW5.out.2.1) rfl
  have k2 := cellAt (i := 2) (v := .int .i64 b4) (show W5.drew.heap[K1]? = _ from HW5.out.2.1) rfl
  have k3 := cellAt (i := 3) (v := .int .i64 b1) (show W5.drew.heap[K1]? = _ from HW5.out.2.1) rfl
  obtain ⟨gk, hgk⟩ : ∃ g, g = getK (L.map fun e => (e.k, loc e.k)) k := ⟨_, rfl⟩
  have hlk : (Instr.lookup 63 (.map (some M)) (.agg #[.string b7, .string b8, .int .i64 b4, .int .i64 b1]) true).run Try.prog W5.drew = .ok (.tuple #[ptV gk, .bool gk.isSome]) W5.drew := by
    rw [hgk, ← HKV.out.1]; exact T5.out.drew.pm.look k HKV.out.2
  have HGK := Lib.hid hgk
  clear hgk
  obtain ⟨pvv, hpvv⟩ : ∃ v, v = ptV gk := ⟨_, rfl⟩
  obtain ⟨okb, hokb⟩ : ∃ v, v = gk.isSome := ⟨_, rfl⟩
  rw [← hpvv, ← hokb] at hlk
  have HPVV := Lib.hid hpvv
  have HOKB := Lib.hid hokb
  clear hpvv hokb
  refine wp_region_held_drew (S := fun V => V = W5.drew) (by kernel_rfl) rfl (fun hHeld => ?_)
  refine wpAnyH_take (i := 0) (oi := { dst := some 42, op := Op.move (Operand.tmp 0), type := 27, pos := "reasm.go:109", after := #[], guard := none }) (v := ?_) rfl (by kernel_rfl) (by kernel_rfl) (by kernel_rfl) (fun _ _ _ h => h) (Or.inl ⟨by rfl, ?_⟩) (by assumption) ?_
  rotate_left 1
  · intro w hSw
    go_simp
    first | done | with_reducible rfl
  try simp only [Act.put, List.setIfInBounds_toArray, List.set_cons_zero, List.set_cons_succ]
  refine wpAnyH_take (i := 1) (oi := { dst := some 43, op := Op.nilCheck (Operand.tmp 42), type := 0, pos := "reasm.go:109", after := #[{ on := 0, ground := Ground.data }], guard := none }) (v := ?_) rfl (by kernel_rfl) (by kernel_rfl) (by kernel_rfl) (fun _ _ _ h => h) (Or.inl ⟨by rfl, ?_⟩) (by assumption) ?_
  rotate_left 1
  · intro w hSw
    go_simp
    first | done | with_reducible rfl
  try simp only [Act.put, List.setIfInBounds_toArray, List.set_cons_zero, List.set_cons_succ]
  refine wpAnyH_take (i := 2) (oi := { dst := some 44, op := Op.fieldAddr 65 (Operand.tmp 43) 1, type := 0, pos := "reasm.go:109", after := #[{ on := 1, ground := Ground.data }], guard := none }) (v := ?_) rfl (by kernel_rfl) (by kernel_rfl) (by kernel_rfl) (fun _ _ _ h => h) (Or.inl ⟨by rfl, ?_⟩) (by assumption) ?_
  rotate_left 1
  · intro w hSw
    go_simp
    first | done | with_reducible rfl
  try simp only [Act.put, List.setIfInBounds_toArray, List.set_cons_zero, List.set_cons_succ]
  refine wpAnyH_take (i := 3) (oi := { dst := some 45, op := Op.load 63 (Operand.tmp 44), type := 63, pos := "reasm.go:109", after := #[{ on := 2, ground := Ground.data }], guard := none }) (v := ?_) rfl (by kernel_rfl) (by kernel_rfl) (by kernel_rfl) (fun _ _ _ h => h) (Or.inl ⟨by rfl, ?_⟩) (by assumption) ?_
  rotate_left 1
  · intro w hSw
    subst hSw
    go_simp
    first | done | with_reducible rfl
  try simp only [Act.put, List.setIfInBounds_toArray, List.set_cons_zero, List.set_cons_succ]
  refine wpAnyH_take (i := 4) (oi := { dst := some 46, op := Op.load 68 (Operand.tmp 10), type := 68, pos := "reasm.go:109", after := #[], guard := none }) (v := ?_) rfl (by kernel_rfl) (by kernel_rfl) (by kernel_rfl) (fun _ _ _ h => h) (Or.inl ⟨by rfl, ?_⟩) (by assumption) ?_
  rotate_left 1
  · intro w hSw
    subst hSw
    go_simp
    first | done | with_reducible rfl
  try simp only [Act.put, List.setIfInBounds_toArray, List.set_cons_zero, List.set_cons_succ]
  refine wpAnyH_take (i := 5) (oi := { dst := some 47, op := Op.lookup 63 (Operand.tmp 45) (Operand.tmp 46) true, type := 80, pos := "reasm.go:109", after := #[{ on := 3, ground := Ground.data }, { on := 4, ground := Ground.data }], guard := none }) (v := ?_) rfl (by kernel_rfl) (by kernel_rfl) (by kernel_rfl) (fun _ _ _ h => h) (Or.inl ⟨by rfl, ?_⟩) (by assumption) ?_
  rotate_left 1
  · intro w hSw
    subst hSw
    go_simp
    first | done | with_reducible rfl
  try simp only [Act.put, List.setIfInBounds_toArray, List.set_cons_zero, List.set_cons_succ]
  refine wpAnyH_take (i := 6) (oi := { dst := some 41, op := Op.move (Operand.tmp 47), type := 80, pos := "reasm.go:109", after := #[{ on := 5, ground := Ground.data }], guard := none }) (v := ?_) rfl (by kernel_rfl) (by kernel_rfl) (by kernel_rfl) (fun _ _ _ h => h) (Or.inl ⟨by rfl, ?_⟩) (by assumption) ?_
  rotate_left 1
  · intro w hSw
    go_simp
    first | done | with_reducible rfl
  try simp only [Act.put, List.setIfInBounds_toArray, List.set_cons_zero, List.set_cons_succ]
  refine wpAnyH_take (i := 7) (oi := { dst := some 48, op := Op.extract (Operand.tmp 41) 0, type := 69, pos := "reasm.go:109", after := #[{ on := 6, ground := Ground.data }], guard := none }) (v := ?_) rfl (by kernel_rfl) (by kernel_rfl) (by kernel_rfl) (fun _ _ _ h => h) (Or.inl ⟨by rfl, ?_⟩) (by assumption) ?_
  rotate_left 1
  · intro w hSw
    go_simp
    first | done | with_reducible rfl
  try simp only [Act.put, List.setIfInBounds_toArray, List.set_cons_zero, List.set_cons_succ]
  refine wpAnyH_take (i := 8) (oi := { dst := some 49, op := Op.extract (Operand.tmp 41) 1, type := 4, pos := "reasm.go:109", after := #[{ on := 6, ground := Ground.data }, { on := 9, ground := Ground.gcOnly Departure.lateStores }], guard := none }) (v := ?_) rfl (by kernel_rfl) (by kernel_rfl) (by kernel_rfl) (fun _ _ _ h => h) (Or.inl ⟨by rfl, ?_⟩) (by assumption) ?_
  rotate_left 1
  · intro w hSw
    go_simp
    first | done | with_reducible rfl
  try simp only [Act.put, List.setIfInBounds_toArray, List.set_cons_zero, List.set_cons_succ]
  refine wpAnyH_ready (rs := [9]) (by kernel_rfl) (by simp) ?_
  refine AllReadyH.cons (o := { dst := some 11, op := Op.assign (Operand.tmp 48), type := 69, pos := "reasm.go:109", after := #[{ on := 7, ground := Ground.data }, { on := 0, ground := Ground.phase }, { on := 1, ground := Ground.phase }, { on := 2, ground := Ground.phase }, { on := 3, ground := Ground.phase }, { on := 4, ground := Ground.phase }, { on := 5, ground := Ground.phase }, { on := 6, ground := Ground.phase }, { on := 7, ground := Ground.phase }, { on := 8, ground := Ground.textOnly Departure.lateStores }], guard := none }) rfl (fun K hK => ?_) AllReadyH.nil
  go_simp
  refine hK.out _ _ hHeld (fun hHeld => ?_)
  clear hK K
  try simp only [Act.put, List.setIfInBounds_toArray, List.set_cons_zero, List.set_cons_succ]
  refine wpAnyH_ready (rs := [10]) (by kernel_rfl) (by simp) ?_
  refine AllReadyH.cons (o := { dst := some 12, op := Op.assign (Operand.tmp 49), type := 4, pos := "reasm.go:109", after := #[{ on := 8, ground := Ground.data }, { on := 9, ground := Ground.chain }, { on := 0, ground := Ground.phase }, { on := 1, ground := Ground.phase }, { on := 2, ground := Ground.phase }, { on := 3, ground := Ground.phase }, { on := 4, ground := Ground.phase }, { on := 5, ground := Ground.phase }, { on := 6, ground := Ground.phase }, { on := 7, ground := Ground.phase }, { on := 8, ground := Ground.phase }, { on := 9, ground := Ground.phase }], guard := none }) rfl (fun K hK => ?_) AllReadyH.nil
  go_simp
  refine hK.out _ _ hHeld (fun hHeld => ?_)
  clear hK K
  try simp only [Act.put, List.setIfInBounds_toArray, List.set_cons_zero, List.set_cons_succ]
  refine wpAnyH_done (by kernel_rfl) ?_ _
  simp only [Exit.then]
  have hBx : Below w.heap.size w W5.drew := HW5.out.2.2.1.drew
  have HBX := Lib.hid hBx
  clear hlk kT k0 k1 k2 k3 hHeld hBx
  go_upto_if 51 with (fail)
  go_cut [11] (fun s11 wx => ∃ p : Nat, s11 = .pointer (some ⟨p, 0, none⟩) ∧ Hid (Below w.heap.size w wx ∧ ∃ loc row, MidS F Tb M st L k p P1 K1 #[.int .i64 b0, .int .i64 b1, .int .i64 b2, .int .i64 b3, .int .i64 b4, .bool b5, .bool b6, .string b7, .string b8, .string b9, .int .i64 fo, .string ss] #[.string b7, .string b8, .int .i64 b4, .int .i64 b1] loc row wx))
  case first =>
    have hgk : gk = if k ∈ keysL L then some (loc k) else none := by rw [HGK.out]; exact getK_loc L loc k
    cases okb with
    | true =>
      have hk : k ∈ keysL L := by
        have h1 := HOKB.out
        rw [hgk] at h1
        by_cases h2 : k ∈ keysL L
        · exact h2
        · rw [if_neg h2] at h1; cases h1
      have hp : pvv = .pointer (some ⟨loc k, 0, none⟩) := by rw [HPVV.out, hgk, if_pos hk]; rfl
      have HMS : Hid (MidS F Tb M st L k (loc k) P1 K1 #[.int .i64 b0, .int .i64 b1, .int .i64 b2, .int .i64 b3, .int .i64 b4, .bool b5, .bool b6, .string b7, .string b8, .string b9, .int .i64 fo, .string ss] #[.string b7, .string b8, .int .i64 b4, .int .i64 b1] loc row W5.drew) := Lib.hid (MidS.found HT.out hk HBX.out HW5.out.1 HW5.out.2.1 HW5.out.2.2.2.1 HW5.out.2.2.2.2.1)
      clear hgk hk
      subst hp
      go_wp2_with (fail)
      go_meet
      exact ⟨loc k, rfl, HBX.out, loc, row, HMS.out⟩
    | false =>
      have hk : k ∉ keysL L := by
        have h1 := HOKB.out
        rw [hgk] at h1
        intro h2
        rw [if_pos h2] at h1; cases h1
      have HMS : Hid (MidS F Tb M st L k W5.drew.heap.size P1 K1 #[.int .i64 b0, .int .i64 b1, .int .i64 b2, .int .i64 b3, .int .i64 b4, .bool b5, .bool b6, .string b7, .string b8, .string b9, .int .i64 fo, .string ss] #[.string b7, .string b8, .int .i64 b4, .int .i64 b1] (updL loc k W5.drew.heap.size) (updV row k (.slice none 0 0)) (W5.drew.alloc (.cells #[.slice none 0 0, .bool false, .int .i64 ((0 : Nat) : Int)] 72))) := Lib.hid (MidS.fresh HT.out hk HBX.out HW5.out.1 HW5.out.2.1 HW5.out.2.2.2.1 HW5.out.2.2.2.2.1)
      clear hgk hk
      go_wp2_with (fail)
      go_meet
      exact ⟨W5.drew.heap.size, rfl, HBX.out.alloc HBX.out.size _, _, _, HMS.out⟩
  case rest =>
  obtain ⟨p, rfl, hmid⟩ := hcut
  obtain ⟨hbx, loc', row', hms⟩ := hmid.out
  have HB6 := Lib.hid hbx
  have HM6 := Lib.hid hms
  have HOK2 : Hid (okb = decide (k ∈ keysL L)) := Lib.hid (by
    rw [HOKB.out, HGK.out, getK_loc]
    by_cases h2 : k ∈ keysL L
    · rw [if_pos h2, decide_eq_true h2]; rfl
    · rw [if_neg h2, decide_eq_false h2]; rfl)
  have HAT : Hid (∀ c, addT st L x.data.toList = (([], c), L) → ∀ V, MidS F Tb M st L k p P1 K1 #[.int .i64 b0, .int .i64 b1, .int .i64 b2, .int .i64 b3, .int .i64 b4, .bool b5, .bool b6, .string b7, .string b8, .string b9, .int .i64 fo, .string ss] #[.string b7, .string b8, .int .i64 b4, .int .i64 b1] loc' row' V → Below w.heap.size w V → AddPost F Tb M st L x.data.toList w (.returned (.tuple #[.string ⟨#[]⟩, .int .i64 (c : Nat)])) V) := Lib.hid (fun c hc V hV hb => by
    refine ⟨by rw [hc]; rfl, ⟨loc', row', ?_⟩, Kp.of_below hb HT.out.lt⟩
    rw [hc]; exact hV.tab)
  have HADD : Hid (addT st L x.data.toList = (if (eOf L k).done then (([], 12), L) else if (eOf L k).ps.any (likeB P) then (([], 10), L) else if (eOf L k).ps.any (fun o => !fitB P o) then (([], 14), L) else if ((findL L k).isNone && decide (st.ents ≤ L.length)) || decide (st.bts < btsL L + P.s.length) then (([], 11), L) else if wholeB (insP P (eOf L k).ps) then (finE (insP P (eOf L k).ps), putL L ⟨k, [], true, (eOf L k).age⟩) else (([], 10), putL L ⟨k, insP P (eOf L k).ps, false, (eOf L k).age⟩))) := Lib.hid (by
    unfold addT
    rw [HOKR.out]
    simp only
    rw [if_neg (by rw [← HOB.out]; simp), ← HK.out]
    rfl)
  have HEPS : Hid (∀ q ∈ (eOf L k).ps, Psm q ∧ q.h.ok) := Lib.hid (fun q hq => by
    have he : PcOk q := by
      unfold eOf at hq
      cases hf : findL L k with
      | none => rw [hf] at hq; cases hq
      | some e => rw [hf] at hq; exact ((HG.out.ens e (findL_mem hf).1).ps q hq).1
    refine ⟨⟨he.ok.off, ?_⟩, he.ok⟩
    have h1 := he.odd
    unfold oddB at h1
    simp only [Bool.or_eq_false_iff, decide_eq_false_iff_not] at h1
    have h2 := h1.1.1
    unfold Pc.hi at h2; omega)
  obtain ⟨v, hv9⟩ : ∃ v, v = row' k := ⟨_, rfl⟩
  have HV := Lib.hid hv9
  obtain ⟨dn, hdn⟩ : ∃ v, v = (eOf L k).done := ⟨_, rfl⟩
  obtain ⟨ag, hag⟩ : ∃ v, v = (eOf L k).age := ⟨_, rfl⟩
  obtain ⟨ps, hps⟩ : ∃ v, v = (eOf L k).ps := ⟨_, rfl⟩
  have HEN : Hid (∀ V, MidS F Tb M st L k p P1 K1 #[.int .i64 b0, .int .i64 b1, .int .i64 b2, .int .i64 b3, .int .i64 b4, .bool b5, .bool b6, .string b7, .string b8, .string b9, .int .i64 fo, .string ss] #[.string b7, .string b8, .int .i64 b4, .int .i64 b1] loc' row' V → V.heap[p]? = some (.cells #[v, .bool dn, .int .i64 (ag : Nat)] 72 (0, 0)) ∧ PRow 0 v ps V) := Lib.hid (fun V hV => by rw [hv9, hdn, hag, hps]; exact ⟨hV.ent, hV.rowp⟩)
  rw [← hdn, ← hps, ← hag] at HADD
  rw [← hps] at HEPS
  have HDN := Lib.hid hdn
  have HAG := Lib.hid hag
  have HPS := Lib.hid hps
  clear hmid hbx hms hdn hag hps hv9
  have e0 := cellAt (i := 0) (v := v) (HEN.out _ HM6.out).1 rfl
  have e1 := cellAt (i := 1) (v := .bool dn) (HEN.out _ HM6.out).1 rfl
  cases dn with
  | true =>
    go_wp2_with (fail)
    go_ret2
    exact HAT.out 12 (by rw [HADD.out]; rfl) _ HM6.out HB6.out
  | false =>
  go_upto_region 13 with (fail)
  have n0 := cellAt (i := 0) (v := .int .i64 b0) HM6.out.drew.hP rfl
  have n1 := cellAt (i := 1) (v := .int .i64 b1) HM6.out.drew.hP rfl
  have n2 := cellAt (i := 2) (v := .int .i64 b2) HM6.out.drew.hP rfl
  have n3 := cellAt (i := 3) (v := .int .i64 b3) HM6.out.drew.hP rfl
  have n4 := cellAt (i := 4) (v := .int .i64 b4) HM6.out.drew.hP rfl
  have n5 := cellAt (i := 5) (v := .bool b5) HM6.out.drew.hP rfl
  have n6 := cellAt (i := 6) (v := .bool b6) HM6.out.drew.hP rfl
  have n7 := cellAt (i := 7) (v := .string b7) HM6.out.drew.hP rfl
  have n8 := cellAt (i := 8) (v := .string b8) HM6.out.drew.hP rfl
  have n9 := cellAt (i := 9) (v := .string b9) HM6.out.drew.hP rfl
  have n10 := cellAt (i := 10) (v := .int .i64 fo) HM6.out.drew.hP rfl
  have n11 := cellAt (i := 11) (v := .string ss) HM6.out.drew.hP rfl
  have HPL : Hid (p < wc.drew.heap.size) := Lib.hid (heap_lt (HEN.out _ HM6.out.drew).1)
  have HP1L : Hid (P1 < wc.drew.heap.size) := Lib.hid (heap_lt HM6.out.drew.hP)
  have HPLEN : Hid (ps.length ≤ 100000) := Lib.hid (by have h1 := eOf_ok HG.out k; have h2 := few_pcs h1.1 (fun q hq => (h1.2.1 q hq).ok); rw [HPS.out]; omega)
  obtain ⟨lb, hlb⟩ : ∃ b, b = ps.any (likeB P) := ⟨_, rfl⟩
  obtain ⟨fb, hfb⟩ : ∃ b, b = ps.any (fun o => !fitB P o) := ⟨_, rfl⟩
  have CL : Hid (∀ V, MidS F Tb M st L k p P1 K1 #[.int .i64 b0, .int .i64 b1, .int .i64 b2, .int .i64 b3, .int .i64 b4, .bool b5, .bool b6, .string b7, .string b8, .string b9, .int .i64 fo, .string ss] #[.string b7, .string b8, .int .i64 b4, .int .i64 b1] loc' row' V → Calls Try.prog 31 #[v, .func (.func 32) #[.agg #[.int .i64 b0, .int .i64 b1, .int .i64 b2, .int .i64 b3, .int .i64 b4, .bool b5, .bool b6, .string b7, .string b8, .string b9, .int .i64 fo, .string ss]] #[]] V fun e w' => e = .returned (.bool lb) ∧ Below V.heap.size V w') := Lib.hid (fun V hV => by
    rw [hlb, ← HPV.out.1]; exact hasL_any P HPSM.out v ps V (HEN.out V hV).2 (fun q hq => (HEPS.out q hq).1) (Nat.le_trans HPLEN.out (by decide)))
  have CF : Hid (∀ V, MidS F Tb M st L k p P1 K1 #[.int .i64 b0, .int .i64 b1, .int .i64 b2, .int .i64 b3, .int .i64 b4, .bool b5, .bool b6, .string b7, .string b8, .string b9, .int .i64 fo, .string ss] #[.string b7, .string b8, .int .i64 b4, .int .i64 b1] loc' row' V → Calls Try.prog 31 #[v, .func (.func 33) #[] #[.pointer (some ⟨P1, 0, none⟩)]] V fun e w' => e = .returned (.bool fb) ∧ Below V.heap.size V w') := Lib.hid (fun V hV => by
    rw [hfb]; exact hasF_any P HPSM.out P1 v ps V (HEN.out V hV).2 (fun q hq => (HEPS.out q hq).1) (Nat.le_trans HPLEN.out (by decide)) (by rw [HPV.out.2]; exact hV.hP))
  rw [← hlb, ← hfb] at HADD
  have HFBE := Lib.hid hfb
  clear hlb hfb
  have hmf := fun (fn : Fn) (first cap : Array Value) (w : World) => make_run fn first cap w
  refine wp_region_held_drew (S := fun V => Below wc.drew.heap.size wc.drew V) (by kernel_rfl) (Below.refl _ _) (fun hHeld => ?_)
  refine wpAnyH_take (i := 0) (oi := { dst := some 60, op := Op.move (Operand.tmp 11), type := 69, pos := "reasm.go:116", after := #[], guard := none }) (v := ?_) rfl (by kernel_rfl) (by kernel_rfl) (by kernel_rfl) (fun _ _ _ h => h) (Or.inl ⟨by rfl, ?_⟩) (by assumption) ?_
  rotate_left 1
  · intro w hSw
    go_simp
    first | done | with_reducible rfl
  try simp only [Act.put, List.setIfInBounds_toArray, List.set_cons_zero, List.set_cons_succ]
  refine wpAnyH_take (i := 1) (oi := { dst := some 61, op := Op.nilCheck (Operand.tmp 60), type := 0, pos := "reasm.go:116", after := #[{ on := 0, ground := Ground.data }], guard := none }) (v := ?_) rfl (by kernel_rfl) (by kernel_rfl) (by kernel_rfl) (fun _ _ _ h => h) (Or.inl ⟨by rfl, ?_⟩) (by assumption) ?_
  rotate_left 1
  · intro w hSw
    go_simp
    first | done | with_reducible rfl
  try simp only [Act.put, List.setIfInBounds_toArray, List.set_cons_zero, List.set_cons_succ]
  refine wpAnyH_take (i := 2) (oi := { dst := some 62, op := Op.fieldAddr 72 (Operand.tmp 61) 0, type := 0, pos := "reasm.go:116", after := #[{ on := 1, ground := Ground.data }], guard := none }) (v := ?_) rfl (by kernel_rfl) (by kernel_rfl) (by kernel_rfl) (fun _ _ _ h => h) (Or.inl ⟨by rfl, ?_⟩) (by assumption) ?_
  rotate_left 1
  · intro w hSw
    go_simp
    first | done | with_reducible rfl
  try simp only [Act.put, List.setIfInBounds_toArray, List.set_cons_zero, List.set_cons_succ]
  refine wpAnyH_take (i := 3) (oi := { dst := some 63, op := Op.load 70 (Operand.tmp 62), type := 70, pos := "reasm.go:116", after := #[{ on := 2, ground := Ground.data }], guard := none }) (v := ?_) rfl (by kernel_rfl) (by kernel_rfl) (by kernel_rfl) (fun _ _ _ h => h) (Or.inl ⟨by rfl, ?_⟩) (by assumption) ?_
  rotate_left 1
  · intro w hSw
    have q0 := (hSw.cell (p := ⟨p, 0, none⟩) HPL.out).trans e0
    go_simp
    first | done | with_reducible rfl
  try simp only [Act.put, List.setIfInBounds_toArray, List.set_cons_zero, List.set_cons_succ]
  refine wpAnyH_take (i := 4) (oi := { dst := some 64, op := Op.load 74 (Operand.tmp 9), type := 74, pos := "reasm.go:116", after := #[], guard := none }) (v := ?_) rfl (by kernel_rfl) (by kernel_rfl) (by kernel_rfl) (fun _ _ _ h => h) (Or.inl ⟨by rfl, ?_⟩) (by assumption) ?_
  rotate_left 1
  · intro w hSw
    have q0 := (hSw.cell (p := ⟨P1, 0, none⟩) HP1L.out).trans n0
    have q1 := (hSw.cell (p := ⟨P1, 1, none⟩) HP1L.out).trans n1
    have q2 := (hSw.cell (p := ⟨P1, 2, none⟩) HP1L.out).trans n2
    have q3 := (hSw.cell (p := ⟨P1, 3, none⟩) HP1L.out).trans n3
    have q4 := (hSw.cell (p := ⟨P1, 4, none⟩) HP1L.out).trans n4
    have q5 := (hSw.cell (p := ⟨P1, 5, none⟩) HP1L.out).trans n5
    have q6 := (hSw.cell (p := ⟨P1, 6, none⟩) HP1L.out).trans n6
    have q7 := (hSw.cell (p := ⟨P1, 7, none⟩) HP1L.out).trans n7
    have q8 := (hSw.cell (p := ⟨P1, 8, none⟩) HP1L.out).trans n8
    have q9 := (hSw.cell (p := ⟨P1, 9, none⟩) HP1L.out).trans n9
    have q10 := (hSw.cell (p := ⟨P1, 10, none⟩) HP1L.out).trans n10
    have q11 := (hSw.cell (p := ⟨P1, 11, none⟩) HP1L.out).trans n11
    go_simp
    first | done | with_reducible rfl
  try simp only [Act.put, List.setIfInBounds_toArray, List.set_cons_zero, List.set_cons_succ]
  refine wpAnyH_take (i := 5) (oi := { dst := some 65, op := Op.makeFunc (Fn.func 32) #[Operand.tmp 64] #[], type := 82, pos := "reasm.go:116", after := #[{ on := 4, ground := Ground.data }], guard := none }) (v := ?_) rfl (by kernel_rfl) (by kernel_rfl) (by kernel_rfl) (fun _ _ _ h => h) (Or.inl ⟨by rfl, ?_⟩) (by assumption) ?_
  rotate_left 1
  · intro w hSw
    go_simp
    first | done | with_reducible rfl
  try simp only [Act.put, List.setIfInBounds_toArray, List.set_cons_zero, List.set_cons_succ]
  refine wpAnyH_ready (rs := [6]) (by kernel_rfl) (by simp) ?_
  refine AllReadyH.cons (o := { dst := some 66, op := Op.call { callee := Callee.value (Operand.func 31), args := #[Operand.tmp 63, Operand.tmp 65], argTypes := #[70, 82] }, type := 4, pos := "reasm.go:116", after := #[{ on := 3, ground := Ground.data }, { on := 5, ground := Ground.data }], guard := none }) rfl (fun K hK => ?_) AllReadyH.nil
  go_simp
  (go_at_call 31; (with_reducible refine (CL.out _ (HM6.out.drew.below hHeld)).mono ?_); rintro e w5 ⟨rfl, hb5⟩)
  go_simp
  refine hK.out _ _ (hHeld.trans (hb5.mono hHeld.size)) (fun hHeld => ?_)
  clear hK K
  try simp only [Act.put, List.setIfInBounds_toArray, List.set_cons_zero, List.set_cons_succ]
  refine wpAnyH_ready (rs := [7]) (by kernel_rfl) (by simp) ?_
  refine AllReadyH.cons (o := { dst := some 59, op := Op.assign (Operand.tmp 66), type := 4, pos := "reasm.go:116", after := #[{ on := 6, ground := Ground.data }, { on := 6, ground := Ground.chain }], guard := none }) rfl (fun K hK => ?_) AllReadyH.nil
  go_simp
  refine hK.out _ _ hHeld (fun hHeld => ?_)
  clear hK K
  try simp only [Act.put, List.setIfInBounds_toArray, List.set_cons_zero, List.set_cons_succ]
  refine wpAnyH_done (by kernel_rfl) ?_ _
  simp only [Exit.then]
  have HM7 := Lib.hid (HM6.out.drew.below hHeld)
  have HB7 : Hid (Below w.heap.size w w5) := Lib.hid (HB6.out.drew.trans (hHeld.mono HB6.out.drew.size))
  clear hHeld hb5 n0 n1 n2 n3 n4 n5 n6 n7 n8 n9 n10 n11 e0 e1 CL
  cases lb with
  | true =>
    go_wp2_with (fail)
    go_ret2
    exact HAT.out 10 (by rw [HADD.out]; rfl) _ HM7.out HB7.out
  | false =>
  have e0 := cellAt (i := 0) (v := v) (HEN.out _ HM7.out).1 rfl
  cases fb with
  | true =>
    go_wp2_with (go_at_call 31; (with_reducible refine (CF.out _ HM7.out).mono ?_); rintro e w6 ⟨rfl, hb6⟩; have HM8 := Lib.hid (HM7.out.below hb6); have HB8 := Lib.hid (HB7.out.trans (hb6.mono HB7.out.size)); clear hb6)
    go_ret2
    exact HAT.out 14 (by rw [HADD.out]; rfl) _ HM8.out HB8.out
  | false =>
  go_upto_region 17 with (go_at_call 31; (with_reducible refine (CF.out _ HM7.out).mono ?_); rintro e w6 ⟨rfl, hb6⟩; have HM8 := Lib.hid (HM7.out.below hb6); have HB8 := Lib.hid (HB7.out.trans (hb6.mono HB7.out.size)); clear hb6)
  clear e0 CF
  obtain ⟨ent, hent⟩ : ∃ x, x = st.ents := ⟨_, rfl⟩
  obtain ⟨btn, hbtn⟩ : ∃ x, x = st.bts := ⟨_, rfl⟩
  obtain ⟨lif, hlif⟩ : ∃ x, x = st.life := ⟨_, rfl⟩
  obtain ⟨bt, hbt⟩ : ∃ x, x = btsL L := ⟨_, rfl⟩
  obtain ⟨nn, hnn⟩ : ∃ x, x = L.length := ⟨_, rfl⟩
  obtain ⟨zs, hzs⟩ : ∃ x, x = ss.size := ⟨_, rfl⟩
  obtain ⟨q, hq⟩ : ∃ x, x = bt + zs := ⟨_, rfl⟩
  have hzsl : zs = P.s.length := by rw [hzs, HSTR.out.2.2.2.1, bs_size, HPP.out]
  have hbtl : bt ≤ 1048576 := by have h1 := HG.out.small; have h2 := HST.out.2; omega
  have hzl9 : zs ≤ 65535 := by rw [hzsl]; exact HPSM.out.len
  have hnnl : nn ≤ 64 := by have h1 := HG.out.few; have h2 := HST.out.1; omega
  have hqi : (bt : Int) + (zs : Int) = (q : Int) := by omega
  have hqw : IntKind.i64.wrap (q : Int) = (q : Int) := IntWalk.i64_in _ (by omega)
  have zss : ss.size = zs := hzs.symm
  obtain ⟨fu, hfu⟩ : ∃ b, b = (((findL L k).isNone && decide (st.ents ≤ L.length)) || decide (st.bts < btsL L + P.s.length)) := ⟨_, rfl⟩
  rw [← hfu] at HADD
  have hfu2 : fu = ((!okb && decide (ent ≤ nn)) || decide (btn < q)) := by
    have hno : (findL L k).isNone = !okb := by rw [HOK2.out, ← isSome_keys]; cases findL L k <;> rfl
    rw [hfu, hno, hent, hnn, hbtn, hq, hbt, hzsl]
  have HQ : Hid (q = btsL L + P.s.length) := Lib.hid (by rw [hq, hbt, hzsl])
  have HTB8 : Hid (w6.heap[Tb]? = some (.cells #[.int .i64 (ent : Nat), .int .i64 (btn : Nat), .int .i64 (lif : Nat), .map (some M), .int .i64 (bt : Nat)] 65 (0, 0))) := Lib.hid (by rw [hent, hbtn, hlif, hbt]; exact HM8.out.tb)
  have t0 := cellAt (i := 0) (v := .int .i64 (ent : Nat)) (show w6.drew.heap[Tb]? = _ from HTB8.out) rfl
  have t1 := cellAt (i := 1) (v := .int .i64 (btn : Nat)) (show w6.drew.heap[Tb]? = _ from HTB8.out) rfl
  have t3 := cellAt (i := 3) (v := .map (some M)) (show w6.drew.heap[Tb]? = _ from HTB8.out) rfl
  have t4 := cellAt (i := 4) (v := .int .i64 (bt : Nat)) (show w6.drew.heap[Tb]? = _ from HTB8.out) rfl
  have hln : (Builtin.len_ #[63] 3 #[.map (some M)]).run Try.prog w6.drew = .ok (.int .i64 (nn : Nat)) w6.drew := by
    have h1 := HM8.out.drew.pm.len 3
    rw [List.length_map, ← hnn] at h1; exact h1
  have HST9 := Lib.hid (And.intro hent (And.intro hbtn (And.intro hlif (And.intro hbt hnn))))
  clear hent hbtn hlif hbt hnn hzs hq hzsl hfu
  go_cut [74] (fun s74 wx => s74 = .bool fu ∧ wx = w6.drew)
  case first =>
    cases okb with
    | true =>
      by_cases p28 : btn < q
      · have HFB : Hid (fu = true) := Lib.hid (by rw [hfu2, decide_eq_true p28, Bool.or_true])
        have i28 : (q : Int) > (btn : Int) := by omega
        have i28d : decide ((q : Int) > (btn : Int)) = true := decide_eq_true i28
        refine wp_region_held_drew (S := fun V => V = w6.drew) (by kernel_rfl) rfl (fun hHeld => ?_)
        refine wpAnyH_take (i := 0) (oi := { dst := some 75, op := Op.move (Operand.tmp 12), type := 4, pos := "reasm.go:120", after := #[], guard := none }) (v := .bool true) rfl (by kernel_rfl) (by kernel_rfl) (by kernel_rfl) (fun _ _ _ h => h) (Or.inl ⟨by rfl, ?_⟩) (by assumption) ?_
        · intro w hSw
          go_simp
          first | done | with_reducible rfl
        try simp only [Act.put, List.setIfInBounds_toArray, List.set_cons_zero, List.set_cons_succ]
        refine wpAnyH_take (i := 1) (oi := { dst := some 76, op := Op.unOp UnOp.not 4 (Operand.tmp 75), type := 4, pos := "reasm.go:120", after := #[{ on := 0, ground := Ground.data }], guard := none }) (v := .bool false) rfl (by kernel_rfl) (by kernel_rfl) (by kernel_rfl) (fun _ _ _ h => h) (Or.inl ⟨by rfl, ?_⟩) (by assumption) ?_
        · intro w hSw
          go_simp
          first | done | with_reducible rfl
        try simp only [Act.put, List.setIfInBounds_toArray, List.set_cons_zero, List.set_cons_succ]
        refine wpAnyH_take (i := 2) (oi := { dst := some 77, op := Op.move (Operand.tmp 76), type := 4, pos := "reasm.go:120", after := #[{ on := 1, ground := Ground.data }], guard := none }) (v := .bool false) rfl (by kernel_rfl) (by kernel_rfl) (by kernel_rfl) (fun _ _ _ h => h) (Or.inl ⟨by rfl, ?_⟩) (by assumption) ?_
        · intro w hSw
          go_simp
          first | done | with_reducible rfl
        try simp only [Act.put, List.setIfInBounds_toArray, List.set_cons_zero, List.set_cons_succ]
        refine wpAnyH_take (i := 3) (oi := { dst := some 78, op := Op.move (Operand.tmp 0), type := 27, pos := "reasm.go:120", after := #[{ on := 2, ground := Ground.guard }], guard := some (2, true) }) (v := undef) rfl (by kernel_rfl) (by kernel_rfl) (by kernel_rfl) (fun _ _ _ h => h) (Or.inr ⟨by rfl, rfl⟩) (by assumption) ?_
        try simp only [Act.put, List.setIfInBounds_toArray, List.set_cons_zero, List.set_cons_succ]
        refine wpAnyH_take (i := 4) (oi := { dst := some 79, op := Op.nilCheck (Operand.tmp 78), type := 0, pos := "reasm.go:120", after := #[{ on := 3, ground := Ground.data }, { on := 2, ground := Ground.guard }], guard := some (2, true) }) (v := undef) rfl (by kernel_rfl) (by kernel_rfl) (by kernel_rfl) (fun _ _ _ h => h) (Or.inr ⟨by rfl, rfl⟩) (by assumption) ?_
        try simp only [Act.put, List.setIfInBounds_toArray, List.set_cons_zero, List.set_cons_succ]
        refine wpAnyH_take (i := 5) (oi := { dst := some 80, op := Op.fieldAddr 65 (Operand.tmp 79) 1, type := 0, pos := "reasm.go:120", after := #[{ on := 4, ground := Ground.data }, { on := 2, ground := Ground.guard }], guard := some (2, true) }) (v := undef) rfl (by kernel_rfl) (by kernel_rfl) (by kernel_rfl) (fun _ _ _ h => h) (Or.inr ⟨by rfl, rfl⟩) (by assumption) ?_
        try simp only [Act.put, List.setIfInBounds_toArray, List.set_cons_zero, List.set_cons_succ]
        refine wpAnyH_take (i := 6) (oi := { dst := some 81, op := Op.load 63 (Operand.tmp 80), type := 63, pos := "reasm.go:120", after := #[{ on := 5, ground := Ground.data }, { on := 2, ground := Ground.guard }], guard := some (2, true) }) (v := undef) rfl (by kernel_rfl) (by kernel_rfl) (by kernel_rfl) (fun _ _ _ h => h) (Or.inr ⟨by rfl, rfl⟩) (by assumption) ?_
        try simp only [Act.put, List.setIfInBounds_toArray, List.set_cons_zero, List.set_cons_succ]
        refine wpAnyH_take (i := 7) (oi := { dst := some 82, op := Op.call { callee := Callee.builtin Builtin.len, args := #[Operand.tmp 81], argTypes := #[63] }, type := 3, pos := "reasm.go:120", after := #[{ on := 6, ground := Ground.data }, { on := 2, ground := Ground.chain }, { on := 2, ground := Ground.guard }], guard := some (2, true) }) (v := undef) rfl (by kernel_rfl) (by kernel_rfl) (by kernel_rfl) (fun _ _ _ h => h) (Or.inr ⟨by rfl, rfl⟩) (by assumption) ?_
        try simp only [Act.put, List.setIfInBounds_toArray, List.set_cons_zero, List.set_cons_succ]
        refine wpAnyH_take (i := 8) (oi := { dst := some 83, op := Op.move (Operand.tmp 0), type := 27, pos := "reasm.go:120", after := #[{ on := 2, ground := Ground.guard }], guard := some (2, true) }) (v := undef) rfl (by kernel_rfl) (by kernel_rfl) (by kernel_rfl) (fun _ _ _ h => h) (Or.inr ⟨by rfl, rfl⟩) (by assumption) ?_
        try simp only [Act.put, List.setIfInBounds_toArray, List.set_cons_zero, List.set_cons_succ]
        refine wpAnyH_take (i := 9) (oi := { dst := some 84, op := Op.nilCheck (Operand.tmp 83), type := 0, pos := "reasm.go:120", after := #[{ on := 8, ground := Ground.data }, { on := 2, ground := Ground.guard }], guard := some (2, true) }) (v := undef) rfl (by kernel_rfl) (by kernel_rfl) (by kernel_rfl) (fun _ _ _ h => h) (Or.inr ⟨by rfl, rfl⟩) (by assumption) ?_
        try simp only [Act.put, List.setIfInBounds_toArray, List.set_cons_zero, List.set_cons_succ]
        refine wpAnyH_take (i := 10) (oi := { dst := some 85, op := Op.fieldAddr 65 (Operand.tmp 84) 0, type := 0, pos := "reasm.go:120", after := #[{ on := 9, ground := Ground.data }, { on := 2, ground := Ground.guard }], guard := some (2, true) }) (v := undef) rfl (by kernel_rfl) (by kernel_rfl) (by kernel_rfl) (fun _ _ _ h => h) (Or.inr ⟨by rfl, rfl⟩) (by assumption) ?_
        try simp only [Act.put, List.setIfInBounds_toArray, List.set_cons_zero, List.set_cons_succ]
        refine wpAnyH_take (i := 11) (oi := { dst := some 86, op := Op.fieldAddr 23 (Operand.tmp 85) 0, type := 0, pos := "reasm.go:120", after := #[{ on := 10, ground := Ground.data }, { on := 2, ground := Ground.guard }], guard := some (2, true) }) (v := undef) rfl (by kernel_rfl) (by kernel_rfl) (by kernel_rfl) (fun _ _ _ h => h) (Or.inr ⟨by rfl, rfl⟩) (by assumption) ?_
        try simp only [Act.put, List.setIfInBounds_toArray, List.set_cons_zero, List.set_cons_succ]
        refine wpAnyH_take (i := 12) (oi := { dst := some 87, op := Op.load 3 (Operand.tmp 86), type := 3, pos := "reasm.go:120", after := #[{ on := 11, ground := Ground.data }, { on := 2, ground := Ground.guard }], guard := some (2, true) }) (v := undef) rfl (by kernel_rfl) (by kernel_rfl) (by kernel_rfl) (fun _ _ _ h => h) (Or.inr ⟨by rfl, rfl⟩) (by assumption) ?_
        try simp only [Act.put, List.setIfInBounds_toArray, List.set_cons_zero, List.set_cons_succ]
        refine wpAnyH_take (i := 13) (oi := { dst := some 88, op := Op.binOp BinOp.geq 3 (Operand.tmp 82) (Operand.tmp 87) 3, type := 4, pos := "reasm.go:120", after := #[{ on := 7, ground := Ground.data }, { on := 12, ground := Ground.data }, { on := 2, ground := Ground.guard }], guard := some (2, true) }) (v := undef) rfl (by kernel_rfl) (by kernel_rfl) (by kernel_rfl) (fun _ _ _ h => h) (Or.inr ⟨by rfl, rfl⟩) (by assumption) ?_
        try simp only [Act.put, List.setIfInBounds_toArray, List.set_cons_zero, List.set_cons_succ]
        refine wpAnyH_take (i := 14) (oi := { dst := some 89, op := Op.pick (Operand.tmp 77) (Operand.tmp 88) (Operand.const (Value.bool false)), type := 4, pos := "reasm.go:120", after := #[{ on := 2, ground := Ground.data }, { on := 13, ground := Ground.data }], guard := none }) (v := .bool false) rfl (by kernel_rfl) (by kernel_rfl) (by kernel_rfl) (fun _ _ _ h => h) (Or.inl ⟨by rfl, ?_⟩) (by assumption) ?_
        · intro w hSw
          go_simp
          first | done | with_reducible rfl
        try simp only [Act.put, List.setIfInBounds_toArray, List.set_cons_zero, List.set_cons_succ]
        refine wpAnyH_take (i := 15) (oi := { dst := some 90, op := Op.move (Operand.tmp 89), type := 4, pos := "reasm.go:120", after := #[{ on := 14, ground := Ground.data }, { on := 7, ground := Ground.chain }], guard := none }) (v := .bool false) rfl (by kernel_rfl) (by kernel_rfl) (by kernel_rfl) (fun _ _ _ h => h) (Or.inl ⟨by rfl, ?_⟩) (by assumption) ?_
        · intro w hSw
          go_simp
          first | done | with_reducible rfl
        try simp only [Act.put, List.setIfInBounds_toArray, List.set_cons_zero, List.set_cons_succ]
        refine wpAnyH_take (i := 16) (oi := { dst := some 91, op := Op.move (Operand.tmp 0), type := 27, pos := "reasm.go:120", after := #[{ on := 15, ground := Ground.guard }], guard := some (15, false) }) (v := ?_) rfl (by kernel_rfl) (by kernel_rfl) (by kernel_rfl) (fun _ _ _ h => h) (Or.inl ⟨by rfl, ?_⟩) (by assumption) ?_
        rotate_left 1
        · intro w hSw
          go_simp
          first | done | with_reducible rfl
        try simp only [Act.put, List.setIfInBounds_toArray, List.set_cons_zero, List.set_cons_succ]
        refine wpAnyH_take (i := 17) (oi := { dst := some 92, op := Op.nilCheck (Operand.tmp 91), type := 0, pos := "reasm.go:120", after := #[{ on := 16, ground := Ground.data }, { on := 15, ground := Ground.guard }], guard := some (15, false) }) (v := ?_) rfl (by kernel_rfl) (by kernel_rfl) (by kernel_rfl) (fun _ _ _ h => h) (Or.inl ⟨by rfl, ?_⟩) (by assumption) ?_
        rotate_left 1
        · intro w hSw
          go_simp
          first | done | with_reducible rfl
        try simp only [Act.put, List.setIfInBounds_toArray, List.set_cons_zero, List.set_cons_succ]
        refine wpAnyH_take (i := 18) (oi := { dst := some 93, op := Op.fieldAddr 65 (Operand.tmp 92) 2, type := 0, pos := "reasm.go:120", after := #[{ on := 17, ground := Ground.data }, { on := 15, ground := Ground.guard }], guard := some (15, false) }) (v := ?_) rfl (by kernel_rfl) (by kernel_rfl) (by kernel_rfl) (fun _ _ _ h => h) (Or.inl ⟨by rfl, ?_⟩) (by assumption) ?_
        rotate_left 1
        · intro w hSw
          go_simp
          first | done | with_reducible rfl
        try simp only [Act.put, List.setIfInBounds_toArray, List.set_cons_zero, List.set_cons_succ]
        refine wpAnyH_take (i := 19) (oi := { dst := some 94, op := Op.load 3 (Operand.tmp 93), type := 3, pos := "reasm.go:120", after := #[{ on := 18, ground := Ground.data }, { on := 15, ground := Ground.guard }], guard := some (15, false) }) (v := ?_) rfl (by kernel_rfl) (by kernel_rfl) (by kernel_rfl) (fun _ _ _ h => h) (Or.inl ⟨by rfl, ?_⟩) (by assumption) ?_
        rotate_left 1
        · intro w hSw
          subst hSw
          go_simp
          first | done | with_reducible rfl
        try simp only [Act.put, List.setIfInBounds_toArray, List.set_cons_zero, List.set_cons_succ]
        refine wpAnyH_take (i := 20) (oi := { dst := some 95, op := Op.move (Operand.tmp 7), type := 9, pos := "reasm.go:120", after := #[{ on := 15, ground := Ground.guard }], guard := some (15, false) }) (v := ?_) rfl (by kernel_rfl) (by kernel_rfl) (by kernel_rfl) (fun _ _ _ h => h) (Or.inl ⟨by rfl, ?_⟩) (by assumption) ?_
        rotate_left 1
        · intro w hSw
          go_simp
          first | done | with_reducible rfl
        try simp only [Act.put, List.setIfInBounds_toArray, List.set_cons_zero, List.set_cons_succ]
        refine wpAnyH_take (i := 21) (oi := { dst := some 96, op := Op.call { callee := Callee.builtin Builtin.len, args := #[Operand.tmp 95], argTypes := #[9] }, type := 3, pos := "reasm.go:120", after := #[{ on := 20, ground := Ground.data }, { on := 15, ground := Ground.guard }], guard := some (15, false) }) (v := ?_) rfl (by kernel_rfl) (by kernel_rfl) (by kernel_rfl) (fun _ _ _ h => h) (Or.inl ⟨by rfl, ?_⟩) (by assumption) ?_
        rotate_left 1
        · intro w hSw
          subst hSw
          go_simp
          first | done | with_reducible rfl
        try simp only [Act.put, List.setIfInBounds_toArray, List.set_cons_zero, List.set_cons_succ]
        refine wpAnyH_take (i := 22) (oi := { dst := some 97, op := Op.binOp BinOp.add 3 (Operand.tmp 94) (Operand.tmp 96) 3, type := 3, pos := "reasm.go:120", after := #[{ on := 19, ground := Ground.data }, { on := 21, ground := Ground.data }, { on := 15, ground := Ground.guard }], guard := some (15, false) }) (v := ?_) rfl (by kernel_rfl) (by kernel_rfl) (by kernel_rfl) (fun _ _ _ h => h) (Or.inl ⟨by rfl, ?_⟩) (by assumption) ?_
        rotate_left 1
        · intro w hSw
          go_simp
          first | done | with_reducible rfl
        try simp only [Act.put, List.setIfInBounds_toArray, List.set_cons_zero, List.set_cons_succ]
        refine wpAnyH_take (i := 23) (oi := { dst := some 98, op := Op.move (Operand.tmp 0), type := 27, pos := "reasm.go:120", after := #[{ on := 15, ground := Ground.guard }], guard := some (15, false) }) (v := ?_) rfl (by kernel_rfl) (by kernel_rfl) (by kernel_rfl) (fun _ _ _ h => h) (Or.inl ⟨by rfl, ?_⟩) (by assumption) ?_
        rotate_left 1
        · intro w hSw
          go_simp
          first | done | with_reducible rfl
        try simp only [Act.put, List.setIfInBounds_toArray, List.set_cons_zero, List.set_cons_succ]
        refine wpAnyH_take (i := 24) (oi := { dst := some 99, op := Op.nilCheck (Operand.tmp 98), type := 0, pos := "reasm.go:120", after := #[{ on := 23, ground := Ground.data }, { on := 15, ground := Ground.guard }], guard := some (15, false) }) (v := ?_) rfl (by kernel_rfl) (by kernel_rfl) (by kernel_rfl) (fun _ _ _ h => h) (Or.inl ⟨by rfl, ?_⟩) (by assumption) ?_
        rotate_left 1
        · intro w hSw
          go_simp
          first | done | with_reducible rfl
        try simp only [Act.put, List.setIfInBounds_toArray, List.set_cons_zero, List.set_cons_succ]
        refine wpAnyH_take (i := 25) (oi := { dst := some 100, op := Op.fieldAddr 65 (Operand.tmp 99) 0, type := 0, pos := "reasm.go:120", after := #[{ on := 24, ground := Ground.data }, { on := 15, ground := Ground.guard }], guard := some (15, false) }) (v := ?_) rfl (by kernel_rfl) (by kernel_rfl) (by kernel_rfl) (fun _ _ _ h => h) (Or.inl ⟨by rfl, ?_⟩) (by assumption) ?_
        rotate_left 1
        · intro w hSw
          go_simp
          first | done | with_reducible rfl
        try simp only [Act.put, List.setIfInBounds_toArray, List.set_cons_zero, List.set_cons_succ]
        refine wpAnyH_take (i := 26) (oi := { dst := some 101, op := Op.fieldAddr 23 (Operand.tmp 100) 1, type := 0, pos := "reasm.go:120", after := #[{ on := 25, ground := Ground.data }, { on := 15, ground := Ground.guard }], guard := some (15, false) }) (v := ?_) rfl (by kernel_rfl) (by kernel_rfl) (by kernel_rfl) (fun _ _ _ h => h) (Or.inl ⟨by rfl, ?_⟩) (by assumption) ?_
        rotate_left 1
        · intro w hSw
          go_simp
          first | done | with_reducible rfl
        try simp only [Act.put, List.setIfInBounds_toArray, List.set_cons_zero, List.set_cons_succ]
        refine wpAnyH_take (i := 27) (oi := { dst := some 102, op := Op.load 3 (Operand.tmp 101), type := 3, pos := "reasm.go:120", after := #[{ on := 26, ground := Ground.data }, { on := 15, ground := Ground.guard }], guard := some (15, false) }) (v := ?_) rfl (by kernel_rfl) (by kernel_rfl) (by kernel_rfl) (fun _ _ _ h => h) (Or.inl ⟨by rfl, ?_⟩) (by assumption) ?_
        rotate_left 1
        · intro w hSw
          subst hSw
          go_simp
          first | done | with_reducible rfl
        try simp only [Act.put, List.setIfInBounds_toArray, List.set_cons_zero, List.set_cons_succ]
        refine wpAnyH_take (i := 28) (oi := { dst := some 103, op := Op.binOp BinOp.gtr 3 (Operand.tmp 97) (Operand.tmp 102) 3, type := 4, pos := "reasm.go:120", after := #[{ on := 22, ground := Ground.data }, { on := 27, ground := Ground.data }, { on := 15, ground := Ground.guard }], guard := some (15, false) }) (v := .bool true) rfl (by kernel_rfl) (by kernel_rfl) (by kernel_rfl) (fun _ _ _ h => h) (Or.inl ⟨by rfl, ?_⟩) (by assumption) ?_
        · intro w hSw
          go_simp
          first | done | with_reducible rfl
        try simp only [Act.put, List.setIfInBounds_toArray, List.set_cons_zero, List.set_cons_succ]
        refine wpAnyH_take (i := 29) (oi := { dst := some 104, op := Op.pick (Operand.tmp 90) (Operand.const (Value.bool true)) (Operand.tmp 103), type := 4, pos := "reasm.go:120", after := #[{ on := 15, ground := Ground.data }, { on := 28, ground := Ground.data }], guard := none }) (v := .bool true) rfl (by kernel_rfl) (by kernel_rfl) (by kernel_rfl) (fun _ _ _ h => h) (Or.inl ⟨by rfl, ?_⟩) (by assumption) ?_
        · intro w hSw
          go_simp
          first | done | with_reducible rfl
        try simp only [Act.put, List.setIfInBounds_toArray, List.set_cons_zero, List.set_cons_succ]
        refine wpAnyH_ready (rs := [30]) (by kernel_rfl) (by simp) ?_
        refine AllReadyH.cons (o := { dst := some 74, op := Op.assign (Operand.tmp 104), type := 4, pos := "reasm.go:120", after := #[{ on := 29, ground := Ground.data }, { on := 15, ground := Ground.chain }], guard := none }) rfl (fun K hK => ?_) AllReadyH.nil
        go_simp
        refine hK.out _ _ hHeld (fun hHeld => ?_)
        clear hK K
        try simp only [Act.put, List.setIfInBounds_toArray, List.set_cons_zero, List.set_cons_succ]
        refine wpAnyH_done (by kernel_rfl) ?_ _
        simp only [Exit.then]
        go_wp2_with (fail)
        go_meet
        exact ⟨by rw [HFB.out], rfl⟩
      · have HFB : Hid (fu = false) := Lib.hid (by rw [hfu2, decide_eq_false p28]; rfl)
        have i28 : ¬ (q : Int) > (btn : Int) := by omega
        have i28d : decide ((q : Int) > (btn : Int)) = false := decide_eq_false i28
        refine wp_region_held_drew (S := fun V => V = w6.drew) (by kernel_rfl) rfl (fun hHeld => ?_)
        refine wpAnyH_take (i := 0) (oi := { dst := some 75, op := Op.move (Operand.tmp 12), type := 4, pos := "reasm.go:120", after := #[], guard := none }) (v := .bool true) rfl (by kernel_rfl) (by kernel_rfl) (by kernel_rfl) (fun _ _ _ h => h) (Or.inl ⟨by rfl, ?_⟩) (by assumption) ?_
        · intro w hSw
          go_simp
          first | done | with_reducible rfl
        try simp only [Act.put, List.setIfInBounds_toArray, List.set_cons_zero, List.set_cons_succ]
        refine wpAnyH_take (i := 1) (oi := { dst := some 76, op := Op.unOp UnOp.not 4 (Operand.tmp 75), type := 4, pos := "reasm.go:120", after := #[{ on := 0, ground := Ground.data }], guard := none }) (v := .bool false) rfl (by kernel_rfl) (by kernel_rfl) (by kernel_rfl) (fun _ _ _ h => h) (Or.inl ⟨by rfl, ?_⟩) (by assumption) ?_
        · intro w hSw
          go_simp
          first | done | with_reducible rfl
        try simp only [Act.put, List.setIfInBounds_toArray, List.set_cons_zero, List.set_cons_succ]
        refine wpAnyH_take (i := 2) (oi := { dst := some 77, op := Op.move (Operand.tmp 76), type := 4, pos := "reasm.go:120", after := #[{ on := 1, ground := Ground.data }], guard := none }) (v := .bool false) rfl (by kernel_rfl) (by kernel_rfl) (by kernel_rfl) (fun _ _ _ h => h) (Or.inl ⟨by rfl, ?_⟩) (by assumption) ?_
        · intro w hSw
          go_simp
          first | done | with_reducible rfl
        try simp only [Act.put, List.setIfInBounds_toArray, List.set_cons_zero, List.set_cons_succ]
        refine wpAnyH_take (i := 3) (oi := { dst := some 78, op := Op.move (Operand.tmp 0), type := 27, pos := "reasm.go:120", after := #[{ on := 2, ground := Ground.guard }], guard := some (2, true) }) (v := undef) rfl (by kernel_rfl) (by kernel_rfl) (by kernel_rfl) (fun _ _ _ h => h) (Or.inr ⟨by rfl, rfl⟩) (by assumption) ?_
        try simp only [Act.put, List.setIfInBounds_toArray, List.set_cons_zero, List.set_cons_succ]
        refine wpAnyH_take (i := 4) (oi := { dst := some 79, op := Op.nilCheck (Operand.tmp 78), type := 0, pos := "reasm.go:120", after := #[{ on := 3, ground := Ground.data }, { on := 2, ground := Ground.guard }], guard := some (2, true) }) (v := undef) rfl (by kernel_rfl) (by kernel_rfl) (by kernel_rfl) (fun _ _ _ h => h) (Or.inr ⟨by rfl, rfl⟩) (by assumption) ?_
        try simp only [Act.put, List.setIfInBounds_toArray, List.set_cons_zero, List.set_cons_succ]
        refine wpAnyH_take (i := 5) (oi := { dst := some 80, op := Op.fieldAddr 65 (Operand.tmp 79) 1, type := 0, pos := "reasm.go:120", after := #[{ on := 4, ground := Ground.data }, { on := 2, ground := Ground.guard }], guard := some (2, true) }) (v := undef) rfl (by kernel_rfl) (by kernel_rfl) (by kernel_rfl) (fun _ _ _ h => h) (Or.inr ⟨by rfl, rfl⟩) (by assumption) ?_
        try simp only [Act.put, List.setIfInBounds_toArray, List.set_cons_zero, List.set_cons_succ]
        refine wpAnyH_take (i := 6) (oi := { dst := some 81, op := Op.load 63 (Operand.tmp 80), type := 63, pos := "reasm.go:120", after := #[{ on := 5, ground := Ground.data }, { on := 2, ground := Ground.guard }], guard := some (2, true) }) (v := undef) rfl (by kernel_rfl) (by kernel_rfl) (by kernel_rfl) (fun _ _ _ h => h) (Or.inr ⟨by rfl, rfl⟩) (by assumption) ?_
        try simp only [Act.put, List.setIfInBounds_toArray, List.set_cons_zero, List.set_cons_succ]
        refine wpAnyH_take (i := 7) (oi := { dst := some 82, op := Op.call { callee := Callee.builtin Builtin.len, args := #[Operand.tmp 81], argTypes := #[63] }, type := 3, pos := "reasm.go:120", after := #[{ on := 6, ground := Ground.data }, { on := 2, ground := Ground.chain }, { on := 2, ground := Ground.guard }], guard := some (2, true) }) (v := undef) rfl (by kernel_rfl) (by kernel_rfl) (by kernel_rfl) (fun _ _ _ h => h) (Or.inr ⟨by rfl, rfl⟩) (by assumption) ?_
        try simp only [Act.put, List.setIfInBounds_toArray, List.set_cons_zero, List.set_cons_succ]
        refine wpAnyH_take (i := 8) (oi := { dst := some 83, op := Op.move (Operand.tmp 0), type := 27, pos := "reasm.go:120", after := #[{ on := 2, ground := Ground.guard }], guard := some (2, true) }) (v := undef) rfl (by kernel_rfl) (by kernel_rfl) (by kernel_rfl) (fun _ _ _ h => h) (Or.inr ⟨by rfl, rfl⟩) (by assumption) ?_
        try simp only [Act.put, List.setIfInBounds_toArray, List.set_cons_zero, List.set_cons_succ]
        refine wpAnyH_take (i := 9) (oi := { dst := some 84, op := Op.nilCheck (Operand.tmp 83), type := 0, pos := "reasm.go:120", after := #[{ on := 8, ground := Ground.data }, { on := 2, ground := Ground.guard }], guard := some (2, true) }) (v := undef) rfl (by kernel_rfl) (by kernel_rfl) (by kernel_rfl) (fun _ _ _ h => h) (Or.inr ⟨by rfl, rfl⟩) (by assumption) ?_
        try simp only [Act.put, List.setIfInBounds_toArray, List.set_cons_zero, List.set_cons_succ]
        refine wpAnyH_take (i := 10) (oi := { dst := some 85, op := Op.fieldAddr 65 (Operand.tmp 84) 0, type := 0, pos := "reasm.go:120", after := #[{ on := 9, ground := Ground.data }, { on := 2, ground := Ground.guard }], guard := some (2, true) }) (v := undef) rfl (by kernel_rfl) (by kernel_rfl) (by kernel_rfl) (fun _ _ _ h => h) (Or.inr ⟨by rfl, rfl⟩) (by assumption) ?_
        try simp only [Act.put, List.setIfInBounds_toArray, List.set_cons_zero, List.set_cons_succ]
        refine wpAnyH_take (i := 11) (oi := { dst := some 86, op := Op.fieldAddr 23 (Operand.tmp 85) 0, type := 0, pos := "reasm.go:120", after := #[{ on := 10, ground := Ground.data }, { on := 2, ground := Ground.guard }], guard := some (2, true) }) (v := undef) rfl (by kernel_rfl) (by kernel_rfl) (by kernel_rfl) (fun _ _ _ h => h) (Or.inr ⟨by rfl, rfl⟩) (by assumption) ?_
        try simp only [Act.put, List.setIfInBounds_toArray, List.set_cons_zero, List.set_cons_succ]
        refine wpAnyH_take (i := 12) (oi := { dst := some 87, op := Op.load 3 (Operand.tmp 86), type := 3, pos := "reasm.go:120", after := #[{ on := 11, ground := Ground.data }, { on := 2, ground := Ground.guard }], guard := some (2, true) }) (v := undef) rfl (by kernel_rfl) (by kernel_rfl) (by kernel_rfl) (fun _ _ _ h => h) (Or.inr ⟨by rfl, rfl⟩) (by assumption) ?_
        try simp only [Act.put, List.setIfInBounds_toArray, List.set_cons_zero, List.set_cons_succ]
        refine wpAnyH_take (i := 13) (oi := { dst := some 88, op := Op.binOp BinOp.geq 3 (Operand.tmp 82) (Operand.tmp 87) 3, type := 4, pos := "reasm.go:120", after := #[{ on := 7, ground := Ground.data }, { on := 12, ground := Ground.data }, { on := 2, ground := Ground.guard }], guard := some (2, true) }) (v := undef) rfl (by kernel_rfl) (by kernel_rfl) (by kernel_rfl) (fun _ _ _ h => h) (Or.inr ⟨by rfl, rfl⟩) (by assumption) ?_
        try simp only [Act.put, List.setIfInBounds_toArray, List.set_cons_zero, List.set_cons_succ]
        refine wpAnyH_take (i := 14) (oi := { dst := some 89, op := Op.pick (Operand.tmp 77) (Operand.tmp 88) (Operand.const (Value.bool false)), type := 4, pos := "reasm.go:120", after := #[{ on := 2, ground := Ground.data }, { on := 13, ground := Ground.data }], guard := none }) (v := .bool false) rfl (by kernel_rfl) (by kernel_rfl) (by kernel_rfl) (fun _ _ _ h => h) (Or.inl ⟨by rfl, ?_⟩) (by assumption) ?_
        · intro w hSw
          go_simp
          first | done | with_reducible rfl
        try simp only [Act.put, List.setIfInBounds_toArray, List.set_cons_zero, List.set_cons_succ]
        refine wpAnyH_take (i := 15) (oi := { dst := some 90, op := Op.move (Operand.tmp 89), type := 4, pos := "reasm.go:120", after := #[{ on := 14, ground := Ground.data }, { on := 7, ground := Ground.chain }], guard := none }) (v := .bool false) rfl (by kernel_rfl) (by kernel_rfl) (by kernel_rfl) (fun _ _ _ h => h) (Or.inl ⟨by rfl, ?_⟩) (by assumption) ?_
        · intro w hSw
          go_simp
          first | done | with_reducible rfl
        try simp only [Act.put, List.setIfInBounds_toArray, List.set_cons_zero, List.set_cons_succ]
        refine wpAnyH_take (i := 16) (oi := { dst := some 91, op := Op.move (Operand.tmp 0), type := 27, pos := "reasm.go:120", after := #[{ on := 15, ground := Ground.guard }], guard := some (15, false) }) (v := ?_) rfl (by kernel_rfl) (by kernel_rfl) (by kernel_rfl) (fun _ _ _ h => h) (Or.inl ⟨by rfl, ?_⟩) (by assumption) ?_
        rotate_left 1
        · intro w hSw
          go_simp
          first | done | with_reducible rfl
        try simp only [Act.put, List.setIfInBounds_toArray, List.set_cons_zero, List.set_cons_succ]
        refine wpAnyH_take (i := 17) (oi := { dst := some 92, op := Op.nilCheck (Operand.tmp 91), type := 0, pos := "reasm.go:120", after := #[{ on := 16, ground := Ground.data }, { on := 15, ground := Ground.guard }], guard := some (15, false) }) (v := ?_) rfl (by kernel_rfl) (by kernel_rfl) (by kernel_rfl) (fun _ _ _ h => h) (Or.inl ⟨by rfl, ?_⟩) (by assumption) ?_
        rotate_left 1
        · intro w hSw
          go_simp
          first | done | with_reducible rfl
        try simp only [Act.put, List.setIfInBounds_toArray, List.set_cons_zero, List.set_cons_succ]
        refine wpAnyH_take (i := 18) (oi := { dst := some 93, op := Op.fieldAddr 65 (Operand.tmp 92) 2, type := 0, pos := "reasm.go:120", after := #[{ on := 17, ground := Ground.data }, { on := 15, ground := Ground.guard }], guard := some (15, false) }) (v := ?_) rfl (by kernel_rfl) (by kernel_rfl) (by kernel_rfl) (fun _ _ _ h => h) (Or.inl ⟨by rfl, ?_⟩) (by assumption) ?_
        rotate_left 1
        · intro w hSw
          go_simp
          first | done | with_reducible rfl
        try simp only [Act.put, List.setIfInBounds_toArray, List.set_cons_zero, List.set_cons_succ]
        refine wpAnyH_take (i := 19) (oi := { dst := some 94, op := Op.load 3 (Operand.tmp 93), type := 3, pos := "reasm.go:120", after := #[{ on := 18, ground := Ground.data }, { on := 15, ground := Ground.guard }], guard := some (15, false) }) (v := ?_) rfl (by kernel_rfl) (by kernel_rfl) (by kernel_rfl) (fun _ _ _ h => h) (Or.inl ⟨by rfl, ?_⟩) (by assumption) ?_
        rotate_left 1
        · intro w hSw
          subst hSw
          go_simp
          first | done | with_reducible rfl
        try simp only [Act.put, List.setIfInBounds_toArray, List.set_cons_zero, List.set_cons_succ]
        refine wpAnyH_take (i := 20) (oi := { dst := some 95, op := Op.move (Operand.tmp 7), type := 9, pos := "reasm.go:120", after := #[{ on := 15, ground := Ground.guard }], guard := some (15, false) }) (v := ?_) rfl (by kernel_rfl) (by kernel_rfl) (by kernel_rfl) (fun _ _ _ h => h) (Or.inl ⟨by rfl, ?_⟩) (by assumption) ?_
        rotate_left 1
        · intro w hSw
          go_simp
          first | done | with_reducible rfl
        try simp only [Act.put, List.setIfInBounds_toArray, List.set_cons_zero, List.set_cons_succ]
        refine wpAnyH_take (i := 21) (oi := { dst := some 96, op := Op.call { callee := Callee.builtin Builtin.len, args := #[Operand.tmp 95], argTypes := #[9] }, type := 3, pos := "reasm.go:120", after := #[{ on := 20, ground := Ground.data }, { on := 15, ground := Ground.guard }], guard := some (15, false) }) (v := ?_) rfl (by kernel_rfl) (by kernel_rfl) (by kernel_rfl) (fun _ _ _ h => h) (Or.inl ⟨by rfl, ?_⟩) (by assumption) ?_
        rotate_left 1
        · intro w hSw
          subst hSw
          go_simp
          first | done | with_reducible rfl
        try simp only [Act.put, List.setIfInBounds_toArray, List.set_cons_zero, List.set_cons_succ]
        refine wpAnyH_take (i := 22) (oi := { dst := some 97, op := Op.binOp BinOp.add 3 (Operand.tmp 94) (Operand.tmp 96) 3, type := 3, pos := "reasm.go:120", after := #[{ on := 19, ground := Ground.data }, { on := 21, ground := Ground.data }, { on := 15, ground := Ground.guard }], guard := some (15, false) }) (v := ?_) rfl (by kernel_rfl) (by kernel_rfl) (by kernel_rfl) (fun _ _ _ h => h) (Or.inl ⟨by rfl, ?_⟩) (by assumption) ?_
        rotate_left 1
        · intro w hSw
          go_simp
          first | done | with_reducible rfl
        try simp only [Act.put, List.setIfInBounds_toArray, List.set_cons_zero, List.set_cons_succ]
        refine wpAnyH_take (i := 23) (oi := { dst := some 98, op := Op.move (Operand.tmp 0), type := 27, pos := "reasm.go:120", after := #[{ on := 15, ground := Ground.guard }], guard := some (15, false) }) (v := ?_) rfl (by kernel_rfl) (by kernel_rfl) (by kernel_rfl) (fun _ _ _ h => h) (Or.inl ⟨by rfl, ?_⟩) (by assumption) ?_
        rotate_left 1
        · intro w hSw
          go_simp
          first | done | with_reducible rfl
        try simp only [Act.put, List.setIfInBounds_toArray, List.set_cons_zero, List.set_cons_succ]
        refine wpAnyH_take (i := 24) (oi := { dst := some 99, op := Op.nilCheck (Operand.tmp 98), type := 0, pos := "reasm.go:120", after := #[{ on := 23, ground := Ground.data }, { on := 15, ground := Ground.guard }], guard := some (15, false) }) (v := ?_) rfl (by kernel_rfl) (by kernel_rfl) (by kernel_rfl) (fun _ _ _ h => h) (Or.inl ⟨by rfl, ?_⟩) (by assumption) ?_
        rotate_left 1
        · intro w hSw
          go_simp
          first | done | with_reducible rfl
        try simp only [Act.put, List.setIfInBounds_toArray, List.set_cons_zero, List.set_cons_succ]
        refine wpAnyH_take (i := 25) (oi := { dst := some 100, op := Op.fieldAddr 65 (Operand.tmp 99) 0, type := 0, pos := "reasm.go:120", after := #[{ on := 24, ground := Ground.data }, { on := 15, ground := Ground.guard }], guard := some (15, false) }) (v := ?_) rfl (by kernel_rfl) (by kernel_rfl) (by kernel_rfl) (fun _ _ _ h => h) (Or.inl ⟨by rfl, ?_⟩) (by assumption) ?_
        rotate_left 1
        · intro w hSw
          go_simp
          first | done | with_reducible rfl
        try simp only [Act.put, List.setIfInBounds_toArray, List.set_cons_zero, List.set_cons_succ]
        refine wpAnyH_take (i := 26) (oi := { dst := some 101, op := Op.fieldAddr 23 (Operand.tmp 100) 1, type := 0, pos := "reasm.go:120", after := #[{ on := 25, ground := Ground.data }, { on := 15, ground := Ground.guard }], guard := some (15, false) }) (v := ?_) rfl (by kernel_rfl) (by kernel_rfl) (by kernel_rfl) (fun _ _ _ h => h) (Or.inl ⟨by rfl, ?_⟩) (by assumption) ?_
        rotate_left 1
        · intro w hSw
          go_simp
          first | done | with_reducible rfl
        try simp only [Act.put, List.setIfInBounds_toArray, List.set_cons_zero, List.set_cons_succ]
        refine wpAnyH_take (i := 27) (oi := { dst := some 102, op := Op.load 3 (Operand.tmp 101), type := 3, pos := "reasm.go:120", after := #[{ on := 26, ground := Ground.data }, { on := 15, ground := Ground.guard }], guard := some (15, false) }) (v := ?_) rfl (by kernel_rfl) (by kernel_rfl) (by kernel_rfl) (fun _ _ _ h => h) (Or.inl ⟨by rfl, ?_⟩) (by assumption) ?_
        rotate_left 1
        · intro w hSw
          subst hSw
          go_simp
          first | done | with_reducible rfl
        try simp only [Act.put, List.setIfInBounds_toArray, List.set_cons_zero, List.set_cons_succ]
        refine wpAnyH_take (i := 28) (oi := { dst := some 103, op := Op.binOp BinOp.gtr 3 (Operand.tmp 97) (Operand.tmp 102) 3, type := 4, pos := "reasm.go:120", after := #[{ on := 22, ground := Ground.data }, { on := 27, ground := Ground.data }, { on := 15, ground := Ground.guard }], guard := some (15, false) }) (v := .bool false) rfl (by kernel_rfl) (by kernel_rfl) (by kernel_rfl) (fun _ _ _ h => h) (Or.inl ⟨by rfl, ?_⟩) (by assumption) ?_
        · intro w hSw
          go_simp
          first | done | with_reducible rfl
        try simp only [Act.put, List.setIfInBounds_toArray, List.set_cons_zero, List.set_cons_succ]
        refine wpAnyH_take (i := 29) (oi := { dst := some 104, op := Op.pick (Operand.tmp 90) (Operand.const (Value.bool true)) (Operand.tmp 103), type := 4, pos := "reasm.go:120", after := #[{ on := 15, ground := Ground.data }, { on := 28, ground := Ground.data }], guard := none }) (v := .bool false) rfl (by kernel_rfl) (by kernel_rfl) (by kernel_rfl) (fun _ _ _ h => h) (Or.inl ⟨by rfl, ?_⟩) (by assumption) ?_
        · intro w hSw
          go_simp
          first | done | with_reducible rfl
        try simp only [Act.put, List.setIfInBounds_toArray, List.set_cons_zero, List.set_cons_succ]
        refine wpAnyH_ready (rs := [30]) (by kernel_rfl) (by simp) ?_
        refine AllReadyH.cons (o := { dst := some 74, op := Op.assign (Operand.tmp 104), type := 4, pos := "reasm.go:120", after := #[{ on := 29, ground := Ground.data }, { on := 15, ground := Ground.chain }], guard := none }) rfl (fun K hK => ?_) AllReadyH.nil
        go_simp
        refine hK.out _ _ hHeld (fun hHeld => ?_)
        clear hK K
        try simp only [Act.put, List.setIfInBounds_toArray, List.set_cons_zero, List.set_cons_succ]
        refine wpAnyH_done (by kernel_rfl) ?_ _
        simp only [Exit.then]
        go_wp2_with (fail)
        go_meet
        exact ⟨by rw [HFB.out], rfl⟩
    | false =>
      by_cases p13 : ent ≤ nn
      · have HFB : Hid (fu = true) := Lib.hid (by rw [hfu2, decide_eq_true p13]; rfl)
        have i13 : (nn : Int) ≥ (ent : Int) := by omega
        have i13d : decide ((nn : Int) ≥ (ent : Int)) = true := decide_eq_true i13
        refine wp_region_held_drew (S := fun V => V = w6.drew) (by kernel_rfl) rfl (fun hHeld => ?_)
        refine wpAnyH_take (i := 0) (oi := { dst := some 75, op := Op.move (Operand.tmp 12), type := 4, pos := "reasm.go:120", after := #[], guard := none }) (v := .bool false) rfl (by kernel_rfl) (by kernel_rfl) (by kernel_rfl) (fun _ _ _ h => h) (Or.inl ⟨by rfl, ?_⟩) (by assumption) ?_
        · intro w hSw
          go_simp
          first | done | with_reducible rfl
        try simp only [Act.put, List.setIfInBounds_toArray, List.set_cons_zero, List.set_cons_succ]
        refine wpAnyH_take (i := 1) (oi := { dst := some 76, op := Op.unOp UnOp.not 4 (Operand.tmp 75), type := 4, pos := "reasm.go:120", after := #[{ on := 0, ground := Ground.data }], guard := none }) (v := .bool true) rfl (by kernel_rfl) (by kernel_rfl) (by kernel_rfl) (fun _ _ _ h => h) (Or.inl ⟨by rfl, ?_⟩) (by assumption) ?_
        · intro w hSw
          go_simp
          first | done | with_reducible rfl
        try simp only [Act.put, List.setIfInBounds_toArray, List.set_cons_zero, List.set_cons_succ]
        refine wpAnyH_take (i := 2) (oi := { dst := some 77, op := Op.move (Operand.tmp 76), type := 4, pos := "reasm.go:120", after := #[{ on := 1, ground := Ground.data }], guard := none }) (v := .bool true) rfl (by kernel_rfl) (by kernel_rfl) (by kernel_rfl) (fun _ _ _ h => h) (Or.inl ⟨by rfl, ?_⟩) (by assumption) ?_
        · intro w hSw
          go_simp
          first | done | with_reducible rfl
        try simp only [Act.put, List.setIfInBounds_toArray, List.set_cons_zero, List.set_cons_succ]
        refine wpAnyH_take (i := 3) (oi := { dst := some 78, op := Op.move (Operand.tmp 0), type := 27, pos := "reasm.go:120", after := #[{ on := 2, ground := Ground.guard }], guard := some (2, true) }) (v := ?_) rfl (by kernel_rfl) (by kernel_rfl) (by kernel_rfl) (fun _ _ _ h => h) (Or.inl ⟨by rfl, ?_⟩) (by assumption) ?_
        rotate_left 1
        · intro w hSw
          go_simp
          first | done | with_reducible rfl
        try simp only [Act.put, List.setIfInBounds_toArray, List.set_cons_zero, List.set_cons_succ]
        refine wpAnyH_take (i := 4) (oi := { dst := some 79, op := Op.nilCheck (Operand.tmp 78), type := 0, pos := "reasm.go:120", after := #[{ on := 3, ground := Ground.data }, { on := 2, ground := Ground.guard }], guard := some (2, true) }) (v := ?_) rfl (by kernel_rfl) (by kernel_rfl) (by kernel_rfl) (fun _ _ _ h => h) (Or.inl ⟨by rfl, ?_⟩) (by assumption) ?_
        rotate_left 1
        · intro w hSw
          go_simp
          first | done | with_reducible rfl
        try simp only [Act.put, List.setIfInBounds_toArray, List.set_cons_zero, List.set_cons_succ]
        refine wpAnyH_take (i := 5) (oi := { dst := some 80, op := Op.fieldAddr 65 (Operand.tmp 79) 1, type := 0, pos := "reasm.go:120", after := #[{ on := 4, ground := Ground.data }, { on := 2, ground := Ground.guard }], guard := some (2, true) }) (v := ?_) rfl (by kernel_rfl) (by kernel_rfl) (by kernel_rfl) (fun _ _ _ h => h) (Or.inl ⟨by rfl, ?_⟩) (by assumption) ?_
        rotate_left 1
        · intro w hSw
          go_simp
          first | done | with_reducible rfl
        try simp only [Act.put, List.setIfInBounds_toArray, List.set_cons_zero, List.set_cons_succ]
        refine wpAnyH_take (i := 6) (oi := { dst := some 81, op := Op.load 63 (Operand.tmp 80), type := 63, pos := "reasm.go:120", after := #[{ on := 5, ground := Ground.data }, { on := 2, ground := Ground.guard }], guard := some (2, true) }) (v := ?_) rfl (by kernel_rfl) (by kernel_rfl) (by kernel_rfl) (fun _ _ _ h => h) (Or.inl ⟨by rfl, ?_⟩) (by assumption) ?_
        rotate_left 1
        · intro w hSw
          subst hSw
          go_simp
          first | done | with_reducible rfl
        try simp only [Act.put, List.setIfInBounds_toArray, List.set_cons_zero, List.set_cons_succ]
        refine wpAnyH_take (i := 7) (oi := { dst := some 82, op := Op.call { callee := Callee.builtin Builtin.len, args := #[Operand.tmp 81], argTypes := #[63] }, type := 3, pos := "reasm.go:120", after := #[{ on := 6, ground := Ground.data }, { on := 2, ground := Ground.chain }, { on := 2, ground := Ground.guard }], guard := some (2, true) }) (v := ?_) rfl (by kernel_rfl) (by kernel_rfl) (by kernel_rfl) (fun _ _ _ h => h) (Or.inl ⟨by rfl, ?_⟩) (by assumption) ?_
        rotate_left 1
        · intro w hSw
          subst hSw
          go_simp
          first | done | with_reducible rfl
        try simp only [Act.put, List.setIfInBounds_toArray, List.set_cons_zero, List.set_cons_succ]
        refine wpAnyH_take (i := 8) (oi := { dst := some 83, op := Op.move (Operand.tmp 0), type := 27, pos := "reasm.go:120", after := #[{ on := 2, ground := Ground.guard }], guard := some (2, true) }) (v := ?_) rfl (by kernel_rfl) (by kernel_rfl) (by kernel_rfl) (fun _ _ _ h => h) (Or.inl ⟨by rfl, ?_⟩) (by assumption) ?_
        rotate_left 1
        · intro w hSw
          go_simp
          first | done | with_reducible rfl
        try simp only [Act.put, List.setIfInBounds_toArray, List.set_cons_zero, List.set_cons_succ]
        refine wpAnyH_take (i := 9) (oi := { dst := some 84, op := Op.nilCheck (Operand.tmp 83), type := 0, pos := "reasm.go:120", after := #[{ on := 8, ground := Ground.data }, { on := 2, ground := Ground.guard }], guard := some (2, true) }) (v := ?_) rfl (by kernel_rfl) (by kernel_rfl) (by kernel_rfl) (fun _ _ _ h => h) (Or.inl ⟨by rfl, ?_⟩) (by assumption) ?_
        rotate_left 1
        · intro w hSw
          go_simp
          first | done | with_reducible rfl
        try simp only [Act.put, List.setIfInBounds_toArray, List.set_cons_zero, List.set_cons_succ]
        refine wpAnyH_take (i := 10) (oi := { dst := some 85, op := Op.fieldAddr 65 (Operand.tmp 84) 0, type := 0, pos := "reasm.go:120", after := #[{ on := 9, ground := Ground.data }, { on := 2, ground := Ground.guard }], guard := some (2, true) }) (v := ?_) rfl (by kernel_rfl) (by kernel_rfl) (by kernel_rfl) (fun _ _ _ h => h) (Or.inl ⟨by rfl, ?_⟩) (by assumption) ?_
        rotate_left 1
        · intro w hSw
          go_simp
          first | done | with_reducible rfl
        try simp only [Act.put, List.setIfInBounds_toArray, List.set_cons_zero, List.set_cons_succ]
        refine wpAnyH_take (i := 11) (oi := { dst := some 86, op := Op.fieldAddr 23 (Operand.tmp 85) 0, type := 0, pos := "reasm.go:120", after := #[{ on := 10, ground := Ground.data }, { on := 2, ground := Ground.guard }], guard := some (2, true) }) (v := ?_) rfl (by kernel_rfl) (by kernel_rfl) (by kernel_rfl) (fun _ _ _ h => h) (Or.inl ⟨by rfl, ?_⟩) (by assumption) ?_
        rotate_left 1
        · intro w hSw
          go_simp
          first | done | with_reducible rfl
        try simp only [Act.put, List.setIfInBounds_toArray, List.set_cons_zero, List.set_cons_succ]
        refine wpAnyH_take (i := 12) (oi := { dst := some 87, op := Op.load 3 (Operand.tmp 86), type := 3, pos := "reasm.go:120", after := #[{ on := 11, ground := Ground.data }, { on := 2, ground := Ground.guard }], guard := some (2, true) }) (v := ?_) rfl (by kernel_rfl) (by kernel_rfl) (by kernel_rfl) (fun _ _ _ h => h) (Or.inl ⟨by rfl, ?_⟩) (by assumption) ?_
        rotate_left 1
        · intro w hSw
          subst hSw
          go_simp
          first | done | with_reducible rfl
        try simp only [Act.put, List.setIfInBounds_toArray, List.set_cons_zero, List.set_cons_succ]
        refine wpAnyH_take (i := 13) (oi := { dst := some 88, op := Op.binOp BinOp.geq 3 (Operand.tmp 82) (Operand.tmp 87) 3, type := 4, pos := "reasm.go:120", after := #[{ on := 7, ground := Ground.data }, { on := 12, ground := Ground.data }, { on := 2, ground := Ground.guard }], guard := some (2, true) }) (v := .bool true) rfl (by kernel_rfl) (by kernel_rfl) (by kernel_rfl) (fun _ _ _ h => h) (Or.inl ⟨by rfl, ?_⟩) (by assumption) ?_
        · intro w hSw
          go_simp
          first | done | with_reducible rfl
        try simp only [Act.put, List.setIfInBounds_toArray, List.set_cons_zero, List.set_cons_succ]
        refine wpAnyH_take (i := 14) (oi := { dst := some 89, op := Op.pick (Operand.tmp 77) (Operand.tmp 88) (Operand.const (Value.bool false)), type := 4, pos := "reasm.go:120", after := #[{ on := 2, ground := Ground.data }, { on := 13, ground := Ground.data }], guard := none }) (v := .bool true) rfl (by kernel_rfl) (by kernel_rfl) (by kernel_rfl) (fun _ _ _ h => h) (Or.inl ⟨by rfl, ?_⟩) (by assumption) ?_
        · intro w hSw
          go_simp
          first | done | with_reducible rfl
        try simp only [Act.put, List.setIfInBounds_toArray, List.set_cons_zero, List.set_cons_succ]
        refine wpAnyH_take (i := 15) (oi := { dst := some 90, op := Op.move (Operand.tmp 89), type := 4, pos := "reasm.go:120", after := #[{ on := 14, ground := Ground.data }, { on := 7, ground := Ground.chain }], guard := none }) (v := .bool true) rfl (by kernel_rfl) (by kernel_rfl) (by kernel_rfl) (fun _ _ _ h => h) (Or.inl ⟨by rfl, ?_⟩) (by assumption) ?_
        · intro w hSw
          go_simp
          first | done | with_reducible rfl
        try simp only [Act.put, List.setIfInBounds_toArray, List.set_cons_zero, List.set_cons_succ]
        refine wpAnyH_take (i := 16) (oi := { dst := some 91, op := Op.move (Operand.tmp 0), type := 27, pos := "reasm.go:120", after := #[{ on := 15, ground := Ground.guard }], guard := some (15, false) }) (v := undef) rfl (by kernel_rfl) (by kernel_rfl) (by kernel_rfl) (fun _ _ _ h => h) (Or.inr ⟨by rfl, rfl⟩) (by assumption) ?_
        try simp only [Act.put, List.setIfInBounds_toArray, List.set_cons_zero, List.set_cons_succ]
        refine wpAnyH_take (i := 17) (oi := { dst := some 92, op := Op.nilCheck (Operand.tmp 91), type := 0, pos := "reasm.go:120", after := #[{ on := 16, ground := Ground.data }, { on := 15, ground := Ground.guard }], guard := some (15, false) }) (v := undef) rfl (by kernel_rfl) (by kernel_rfl) (by kernel_rfl) (fun _ _ _ h => h) (Or.inr ⟨by rfl, rfl⟩) (by assumption) ?_
        try simp only [Act.put, List.setIfInBounds_toArray, List.set_cons_zero, List.set_cons_succ]
        refine wpAnyH_take (i := 18) (oi := { dst := some 93, op := Op.fieldAddr 65 (Operand.tmp 92) 2, type := 0, pos := "reasm.go:120", after := #[{ on := 17, ground := Ground.data }, { on := 15, ground := Ground.guard }], guard := some (15, false) }) (v := undef) rfl (by kernel_rfl) (by kernel_rfl) (by kernel_rfl) (fun _ _ _ h => h) (Or.inr ⟨by rfl, rfl⟩) (by assumption) ?_
        try simp only [Act.put, List.setIfInBounds_toArray, List.set_cons_zero, List.set_cons_succ]
        refine wpAnyH_take (i := 19) (oi := { dst := some 94, op := Op.load 3 (Operand.tmp 93), type := 3, pos := "reasm.go:120", after := #[{ on := 18, ground := Ground.data }, { on := 15, ground := Ground.guard }], guard := some (15, false) }) (v := undef) rfl (by kernel_rfl) (by kernel_rfl) (by kernel_rfl) (fun _ _ _ h => h) (Or.inr ⟨by rfl, rfl⟩) (by assumption) ?_
        try simp only [Act.put, List.setIfInBounds_toArray, List.set_cons_zero, List.set_cons_succ]
        refine wpAnyH_take (i := 20) (oi := { dst := some 95, op := Op.move (Operand.tmp 7), type := 9, pos := "reasm.go:120", after := #[{ on := 15, ground := Ground.guard }], guard := some (15, false) }) (v := undef) rfl (by kernel_rfl) (by kernel_rfl) (by kernel_rfl) (fun _ _ _ h => h) (Or.inr ⟨by rfl, rfl⟩) (by assumption) ?_
        try simp only [Act.put, List.setIfInBounds_toArray, List.set_cons_zero, List.set_cons_succ]
        refine wpAnyH_take (i := 21) (oi := { dst := some 96, op := Op.call { callee := Callee.builtin Builtin.len, args := #[Operand.tmp 95], argTypes := #[9] }, type := 3, pos := "reasm.go:120", after := #[{ on := 20, ground := Ground.data }, { on := 15, ground := Ground.guard }], guard := some (15, false) }) (v := undef) rfl (by kernel_rfl) (by kernel_rfl) (by kernel_rfl) (fun _ _ _ h => h) (Or.inr ⟨by rfl, rfl⟩) (by assumption) ?_
        try simp only [Act.put, List.setIfInBounds_toArray, List.set_cons_zero, List.set_cons_succ]
        refine wpAnyH_take (i := 22) (oi := { dst := some 97, op := Op.binOp BinOp.add 3 (Operand.tmp 94) (Operand.tmp 96) 3, type := 3, pos := "reasm.go:120", after := #[{ on := 19, ground := Ground.data }, { on := 21, ground := Ground.data }, { on := 15, ground := Ground.guard }], guard := some (15, false) }) (v := undef) rfl (by kernel_rfl) (by kernel_rfl) (by kernel_rfl) (fun _ _ _ h => h) (Or.inr ⟨by rfl, rfl⟩) (by assumption) ?_
        try simp only [Act.put, List.setIfInBounds_toArray, List.set_cons_zero, List.set_cons_succ]
        refine wpAnyH_take (i := 23) (oi := { dst := some 98, op := Op.move (Operand.tmp 0), type := 27, pos := "reasm.go:120", after := #[{ on := 15, ground := Ground.guard }], guard := some (15, false) }) (v := undef) rfl (by kernel_rfl) (by kernel_rfl) (by kernel_rfl) (fun _ _ _ h => h) (Or.inr ⟨by rfl, rfl⟩) (by assumption) ?_
        try simp only [Act.put, List.setIfInBounds_toArray, List.set_cons_zero, List.set_cons_succ]
        refine wpAnyH_take (i := 24) (oi := { dst := some 99, op := Op.nilCheck (Operand.tmp 98), type := 0, pos := "reasm.go:120", after := #[{ on := 23, ground := Ground.data }, { on := 15, ground := Ground.guard }], guard := some (15, false) }) (v := undef) rfl (by kernel_rfl) (by kernel_rfl) (by kernel_rfl) (fun _ _ _ h => h) (Or.inr ⟨by rfl, rfl⟩) (by assumption) ?_
        try simp only [Act.put, List.setIfInBounds_toArray, List.set_cons_zero, List.set_cons_succ]
        refine wpAnyH_take (i := 25) (oi := { dst := some 100, op := Op.fieldAddr 65 (Operand.tmp 99) 0, type := 0, pos := "reasm.go:120", after := #[{ on := 24, ground := Ground.data }, { on := 15, ground := Ground.guard }], guard := some (15, false) }) (v := undef) rfl (by kernel_rfl) (by kernel_rfl) (by kernel_rfl) (fun _ _ _ h => h) (Or.inr ⟨by rfl, rfl⟩) (by assumption) ?_
        try simp only [Act.put, List.setIfInBounds_toArray, List.set_cons_zero, List.set_cons_succ]
        refine wpAnyH_take (i := 26) (oi := { dst := some 101, op := Op.fieldAddr 23 (Operand.tmp 100) 1, type := 0, pos := "reasm.go:120", after := #[{ on := 25, ground := Ground.data }, { on := 15, ground := Ground.guard }], guard := some (15, false) }) (v := undef) rfl (by kernel_rfl) (by kernel_rfl) (by kernel_rfl) (fun _ _ _ h => h) (Or.inr ⟨by rfl, rfl⟩) (by assumption) ?_
        try simp only [Act.put, List.setIfInBounds_toArray, List.set_cons_zero, List.set_cons_succ]
        refine wpAnyH_take (i := 27) (oi := { dst := some 102, op := Op.load 3 (Operand.tmp 101), type := 3, pos := "reasm.go:120", after := #[{ on := 26, ground := Ground.data }, { on := 15, ground := Ground.guard }], guard := some (15, false) }) (v := undef) rfl (by kernel_rfl) (by kernel_rfl) (by kernel_rfl) (fun _ _ _ h => h) (Or.inr ⟨by rfl, rfl⟩) (by assumption) ?_
        try simp only [Act.put, List.setIfInBounds_toArray, List.set_cons_zero, List.set_cons_succ]
        refine wpAnyH_take (i := 28) (oi := { dst := some 103, op := Op.binOp BinOp.gtr 3 (Operand.tmp 97) (Operand.tmp 102) 3, type := 4, pos := "reasm.go:120", after := #[{ on := 22, ground := Ground.data }, { on := 27, ground := Ground.data }, { on := 15, ground := Ground.guard }], guard := some (15, false) }) (v := undef) rfl (by kernel_rfl) (by kernel_rfl) (by kernel_rfl) (fun _ _ _ h => h) (Or.inr ⟨by rfl, rfl⟩) (by assumption) ?_
        try simp only [Act.put, List.setIfInBounds_toArray, List.set_cons_zero, List.set_cons_succ]
        refine wpAnyH_take (i := 29) (oi := { dst := some 104, op := Op.pick (Operand.tmp 90) (Operand.const (Value.bool true)) (Operand.tmp 103), type := 4, pos := "reasm.go:120", after := #[{ on := 15, ground := Ground.data }, { on := 28, ground := Ground.data }], guard := none }) (v := .bool true) rfl (by kernel_rfl) (by kernel_rfl) (by kernel_rfl) (fun _ _ _ h => h) (Or.inl ⟨by rfl, ?_⟩) (by assumption) ?_
        · intro w hSw
          go_simp
          first | done | with_reducible rfl
        try simp only [Act.put, List.setIfInBounds_toArray, List.set_cons_zero, List.set_cons_succ]
        refine wpAnyH_ready (rs := [30]) (by kernel_rfl) (by simp) ?_
        refine AllReadyH.cons (o := { dst := some 74, op := Op.assign (Operand.tmp 104), type := 4, pos := "reasm.go:120", after := #[{ on := 29, ground := Ground.data }, { on := 15, ground := Ground.chain }], guard := none }) rfl (fun K hK => ?_) AllReadyH.nil
        go_simp
        refine hK.out _ _ hHeld (fun hHeld => ?_)
        clear hK K
        try simp only [Act.put, List.setIfInBounds_toArray, List.set_cons_zero, List.set_cons_succ]
        refine wpAnyH_done (by kernel_rfl) ?_ _
        simp only [Exit.then]
        go_wp2_with (fail)
        go_meet
        exact ⟨by rw [HFB.out], rfl⟩
      · skip
        have i13 : ¬ (nn : Int) ≥ (ent : Int) := by omega
        have i13d : decide ((nn : Int) ≥ (ent : Int)) = false := decide_eq_false i13
        by_cases p28 : btn < q
        · have HFB : Hid (fu = true) := Lib.hid (by rw [hfu2, decide_eq_true p28, Bool.or_true])
          have i28 : (q : Int) > (btn : Int) := by omega
          have i28d : decide ((q : Int) > (btn : Int)) = true := decide_eq_true i28
          refine wp_region_held_drew (S := fun V => V = w6.drew) (by kernel_rfl) rfl (fun hHeld => ?_)
          refine wpAnyH_take (i := 0) (oi := { dst := some 75, op := Op.move (Operand.tmp 12), type := 4, pos := "reasm.go:120", after := #[], guard := none }) (v := .bool false) rfl (by kernel_rfl) (by kernel_rfl) (by kernel_rfl) (fun _ _ _ h => h) (Or.inl ⟨by rfl, ?_⟩) (by assumption) ?_
          · intro w hSw
            go_simp
            first | done | with_reducible rfl
          try simp only [Act.put, List.setIfInBounds_toArray, List.set_cons_zero, List.set_cons_succ]
          refine wpAnyH_take (i := 1) (oi := { dst := some 76, op := Op.unOp UnOp.not 4 (Operand.tmp 75), type := 4, pos := "reasm.go:120", after := #[{ on := 0, ground := Ground.data }], guard := none }) (v := .bool true) rfl (by kernel_rfl) (by kernel_rfl) (by kernel_rfl) (fun _ _ _ h => h) (Or.inl ⟨by rfl, ?_⟩) (by assumption) ?_
          · intro w hSw
            go_simp
            first | done | with_reducible rfl
          try simp only [Act.put, List.setIfInBounds_toArray, List.set_cons_zero, List.set_cons_succ]
          refine wpAnyH_take (i := 2) (oi := { dst := some 77, op := Op.move (Operand.tmp 76), type := 4, pos := "reasm.go:120", after := #[{ on := 1, ground := Ground.data }], guard := none }) (v := .bool true) rfl (by kernel_rfl) (by kernel_rfl) (by kernel_rfl) (fun _ _ _ h => h) (Or.inl ⟨by rfl, ?_⟩) (by assumption) ?_
          · intro w hSw
            go_simp
            first | done | with_reducible rfl
          try simp only [Act.put, List.setIfInBounds_toArray, List.set_cons_zero, List.set_cons_succ]
          refine wpAnyH_take (i := 3) (oi := { dst := some 78, op := Op.move (Operand.tmp 0), type := 27, pos := "reasm.go:120", after := #[{ on := 2, ground := Ground.guard }], guard := some (2, true) }) (v := ?_) rfl (by kernel_rfl) (by kernel_rfl) (by kernel_rfl) (fun _ _ _ h => h) (Or.inl ⟨by rfl, ?_⟩) (by assumption) ?_
          rotate_left 1
          · intro w hSw
            go_simp
            first | done | with_reducible rfl
          try simp only [Act.put, List.setIfInBounds_toArray, List.set_cons_zero, List.set_cons_succ]
          refine wpAnyH_take (i := 4) (oi := { dst := some 79, op := Op.nilCheck (Operand.tmp 78), type := 0, pos := "reasm.go:120", after := #[{ on := 3, ground := Ground.data }, { on := 2, ground := Ground.guard }], guard := some (2, true) }) (v := ?_) rfl (by kernel_rfl) (by kernel_rfl) (by kernel_rfl) (fun _ _ _ h => h) (Or.inl ⟨by rfl, ?_⟩) (by assumption) ?_
          rotate_left 1
          · intro w hSw
            go_simp
            first | done | with_reducible rfl
          try simp only [Act.put, List.setIfInBounds_toArray, List.set_cons_zero, List.set_cons_succ]
          refine wpAnyH_take (i := 5) (oi := { dst := some 80, op := Op.fieldAddr 65 (Operand.tmp 79) 1, type := 0, pos := "reasm.go:120", after := #[{ on := 4, ground := Ground.data }, { on := 2, ground := Ground.guard }], guard := some (2, true) }) (v := ?_) rfl (by kernel_rfl) (by kernel_rfl) (by kernel_rfl) (fun _ _ _ h => h) (Or.inl ⟨by rfl, ?_⟩) (by assumption) ?_
          rotate_left 1
          · intro w hSw
            go_simp
            first | done | with_reducible rfl
          try simp only [Act.put, List.setIfInBounds_toArray, List.set_cons_zero, List.set_cons_succ]
          refine wpAnyH_take (i := 6) (oi := { dst := some 81, op := Op.load 63 (Operand.tmp 80), type := 63, pos := "reasm.go:120", after := #[{ on := 5, ground := Ground.data }, { on := 2, ground := Ground.guard }], guard := some (2, true) }) (v := ?_) rfl (by kernel_rfl) (by kernel_rfl) (by kernel_rfl) (fun _ _ _ h => h) (Or.inl ⟨by rfl, ?_⟩) (by assumption) ?_
          rotate_left 1
          · intro w hSw
            subst hSw
            go_simp
            first | done | with_reducible rfl
          try simp only [Act.put, List.setIfInBounds_toArray, List.set_cons_zero, List.set_cons_succ]
          refine wpAnyH_take (i := 7) (oi := { dst := some 82, op := Op.call { callee := Callee.builtin Builtin.len, args := #[Operand.tmp 81], argTypes := #[63] }, type := 3, pos := "reasm.go:120", after := #[{ on := 6, ground := Ground.data }, { on := 2, ground := Ground.chain }, { on := 2, ground := Ground.guard }], guard := some (2, true) }) (v := ?_) rfl (by kernel_rfl) (by kernel_rfl) (by kernel_rfl) (fun _ _ _ h => h) (Or.inl ⟨by rfl, ?_⟩) (by assumption) ?_
          rotate_left 1
          · intro w hSw
            subst hSw
            go_simp
            first | done | with_reducible rfl
          try simp only [Act.put, List.setIfInBounds_toArray, List.set_cons_zero, List.set_cons_succ]
          refine wpAnyH_take (i := 8) (oi := { dst := some 83, op := Op.move (Operand.tmp 0), type := 27, pos := "reasm.go:120", after := #[{ on := 2, ground := Ground.guard }], guard := some (2, true) }) (v := ?_) rfl (by kernel_rfl) (by kernel_rfl) (by kernel_rfl) (fun _ _ _ h => h) (Or.inl ⟨by rfl, ?_⟩) (by assumption) ?_
          rotate_left 1
          · intro w hSw
            go_simp
            first | done | with_reducible rfl
          try simp only [Act.put, List.setIfInBounds_toArray, List.set_cons_zero, List.set_cons_succ]
          refine wpAnyH_take (i := 9) (oi := { dst := some 84, op := Op.nilCheck (Operand.tmp 83), type := 0, pos := "reasm.go:120", after := #[{ on := 8, ground := Ground.data }, { on := 2, ground := Ground.guard }], guard := some (2, true) }) (v := ?_) rfl (by kernel_rfl) (by kernel_rfl) (by kernel_rfl) (fun _ _ _ h => h) (Or.inl ⟨by rfl, ?_⟩) (by assumption) ?_
          rotate_left 1
          · intro w hSw
            go_simp
            first | done | with_reducible rfl
          try simp only [Act.put, List.setIfInBounds_toArray, List.set_cons_zero, List.set_cons_succ]
          refine wpAnyH_take (i := 10) (oi := { dst := some 85, op := Op.fieldAddr 65 (Operand.tmp 84) 0, type := 0, pos := "reasm.go:120", after := #[{ on := 9, ground := Ground.data }, { on := 2, ground := Ground.guard }], guard := some (2, true) }) (v := ?_) rfl (by kernel_rfl) (by kernel_rfl) (by kernel_rfl) (fun _ _ _ h => h) (Or.inl ⟨by rfl, ?_⟩) (by assumption) ?_
          rotate_left 1
          · intro w hSw
            go_simp
            first | done | with_reducible rfl
          try simp only [Act.put, List.setIfInBounds_toArray, List.set_cons_zero, List.set_cons_succ]
          refine wpAnyH_take (i := 11) (oi := { dst := some 86, op := Op.fieldAddr 23 (Operand.tmp 85) 0, type := 0, pos := "reasm.go:120", after := #[{ on := 10, ground := Ground.data }, { on := 2, ground := Ground.guard }], guard := some (2, true) }) (v := ?_) rfl (by kernel_rfl) (by kernel_rfl) (by kernel_rfl) (fun _ _ _ h => h) (Or.inl ⟨by rfl, ?_⟩) (by assumption) ?_
          rotate_left 1
          · intro w hSw
            go_simp
            first | done | with_reducible rfl
          try simp only [Act.put, List.setIfInBounds_toArray, List.set_cons_zero, List.set_cons_succ]
          refine wpAnyH_take (i := 12) (oi := { dst := some 87, op := Op.load 3 (Operand.tmp 86), type := 3, pos := "reasm.go:120", after := #[{ on := 11, ground := Ground.data }, { on := 2, ground := Ground.guard }], guard := some (2, true) }) (v := ?_) rfl (by kernel_rfl) (by kernel_rfl) (by kernel_rfl) (fun _ _ _ h => h) (Or.inl ⟨by rfl, ?_⟩) (by assumption) ?_
          rotate_left 1
          · intro w hSw
            subst hSw
            go_simp
            first | done | with_reducible rfl
          try simp only [Act.put, List.setIfInBounds_toArray, List.set_cons_zero, List.set_cons_succ]
          refine wpAnyH_take (i := 13) (oi := { dst := some 88, op := Op.binOp BinOp.geq 3 (Operand.tmp 82) (Operand.tmp 87) 3, type := 4, pos := "reasm.go:120", after := #[{ on := 7, ground := Ground.data }, { on := 12, ground := Ground.data }, { on := 2, ground := Ground.guard }], guard := some (2, true) }) (v := .bool false) rfl (by kernel_rfl) (by kernel_rfl) (by kernel_rfl) (fun _ _ _ h => h) (Or.inl ⟨by rfl, ?_⟩) (by assumption) ?_
          · intro w hSw
            go_simp
            first | done | with_reducible rfl
          try simp only [Act.put, List.setIfInBounds_toArray, List.set_cons_zero, List.set_cons_succ]
          refine wpAnyH_take (i := 14) (oi := { dst := some 89, op := Op.pick (Operand.tmp 77) (Operand.tmp 88) (Operand.const (Value.bool false)), type := 4, pos := "reasm.go:120", after := #[{ on := 2, ground := Ground.data }, { on := 13, ground := Ground.data }], guard := none }) (v := .bool false) rfl (by kernel_rfl) (by kernel_rfl) (by kernel_rfl) (fun _ _ _ h => h) (Or.inl ⟨by rfl, ?_⟩) (by assumption) ?_
          · intro w hSw
            go_simp
            first | done | with_reducible rfl
          try simp only [Act.put, List.setIfInBounds_toArray, List.set_cons_zero, List.set_cons_succ]
          refine wpAnyH_take (i := 15) (oi := { dst := some 90, op := Op.move (Operand.tmp 89), type := 4, pos := "reasm.go:120", after := #[{ on := 14, ground := Ground.data }, { on := 7, ground := Ground.chain }], guard := none }) (v := .bool false) rfl (by kernel_rfl) (by kernel_rfl) (by kernel_rfl) (fun _ _ _ h => h) (Or.inl ⟨by rfl, ?_⟩) (by assumption) ?_
          · intro w hSw
            go_simp
            first | done | with_reducible rfl
          try simp only [Act.put, List.setIfInBounds_toArray, List.set_cons_zero, List.set_cons_succ]
          refine wpAnyH_take (i := 16) (oi := { dst := some 91, op := Op.move (Operand.tmp 0), type := 27, pos := "reasm.go:120", after := #[{ on := 15, ground := Ground.guard }], guard := some (15, false) }) (v := ?_) rfl (by kernel_rfl) (by kernel_rfl) (by kernel_rfl) (fun _ _ _ h => h) (Or.inl ⟨by rfl, ?_⟩) (by assumption) ?_
          rotate_left 1
          · intro w hSw
            go_simp
            first | done | with_reducible rfl
          try simp only [Act.put, List.setIfInBounds_toArray, List.set_cons_zero, List.set_cons_succ]
          refine wpAnyH_take (i := 17) (oi := { dst := some 92, op := Op.nilCheck (Operand.tmp 91), type := 0, pos := "reasm.go:120", after := #[{ on := 16, ground := Ground.data }, { on := 15, ground := Ground.guard }], guard := some (15, false) }) (v := ?_) rfl (by kernel_rfl) (by kernel_rfl) (by kernel_rfl) (fun _ _ _ h => h) (Or.inl ⟨by rfl, ?_⟩) (by assumption) ?_
          rotate_left 1
          · intro w hSw
            go_simp
            first | done | with_reducible rfl
          try simp only [Act.put, List.setIfInBounds_toArray, List.set_cons_zero, List.set_cons_succ]
          refine wpAnyH_take (i := 18) (oi := { dst := some 93, op := Op.fieldAddr 65 (Operand.tmp 92) 2, type := 0, pos := "reasm.go:120", after := #[{ on := 17, ground := Ground.data }, { on := 15, ground := Ground.guard }], guard := some (15, false) }) (v := ?_) rfl (by kernel_rfl) (by kernel_rfl) (by kernel_rfl) (fun _ _ _ h => h) (Or.inl ⟨by rfl, ?_⟩) (by assumption) ?_
          rotate_left 1
          · intro w hSw
            go_simp
            first | done | with_reducible rfl
          try simp only [Act.put, List.setIfInBounds_toArray, List.set_cons_zero, List.set_cons_succ]
          refine wpAnyH_take (i := 19) (oi := { dst := some 94, op := Op.load 3 (Operand.tmp 93), type := 3, pos := "reasm.go:120", after := #[{ on := 18, ground := Ground.data }, { on := 15, ground := Ground.guard }], guard := some (15, false) }) (v := ?_) rfl (by kernel_rfl) (by kernel_rfl) (by kernel_rfl) (fun _ _ _ h => h) (Or.inl ⟨by rfl, ?_⟩) (by assumption) ?_
          rotate_left 1
          · intro w hSw
            subst hSw
            go_simp
            first | done | with_reducible rfl
          try simp only [Act.put, List.setIfInBounds_toArray, List.set_cons_zero, List.set_cons_succ]
          refine wpAnyH_take (i := 20) (oi := { dst := some 95, op := Op.move (Operand.tmp 7), type := 9, pos := "reasm.go:120", after := #[{ on := 15, ground := Ground.guard }], guard := some (15, false) }) (v := ?_) rfl (by kernel_rfl) (by kernel_rfl) (by kernel_rfl) (fun _ _ _ h => h) (Or.inl ⟨by rfl, ?_⟩) (by assumption) ?_
          rotate_left 1
          · intro w hSw
            go_simp
            first | done | with_reducible rfl
          try simp only [Act.put, List.setIfInBounds_toArray, List.set_cons_zero, List.set_cons_succ]
          refine wpAnyH_take (i := 21) (oi := { dst := some 96, op := Op.call { callee := Callee.builtin Builtin.len, args := #[Operand.tmp 95], argTypes := #[9] }, type := 3, pos := "reasm.go:120", after := #[{ on := 20, ground := Ground.data }, { on := 15, ground := Ground.guard }], guard := some (15, false) }) (v := ?_) rfl (by kernel_rfl) (by kernel_rfl) (by kernel_rfl) (fun _ _ _ h => h) (Or.inl ⟨by rfl, ?_⟩) (by assumption) ?_
          rotate_left 1
          · intro w hSw
            subst hSw
            go_simp
            first | done | with_reducible rfl
          try simp only [Act.put, List.setIfInBounds_toArray, List.set_cons_zero, List.set_cons_succ]
          refine wpAnyH_take (i := 22) (oi := { dst := some 97, op := Op.binOp BinOp.add 3 (Operand.tmp 94) (Operand.tmp 96) 3, type := 3, pos := "reasm.go:120", after := #[{ on := 19, ground := Ground.data }, { on := 21, ground := Ground.data }, { on := 15, ground := Ground.guard }], guard := some (15, false) }) (v := ?_) rfl (by kernel_rfl) (by kernel_rfl) (by kernel_rfl) (fun _ _ _ h => h) (Or.inl ⟨by rfl, ?_⟩) (by assumption) ?_
          rotate_left 1
          · intro w hSw
            go_simp
            first | done | with_reducible rfl
          try simp only [Act.put, List.setIfInBounds_toArray, List.set_cons_zero, List.set_cons_succ]
          refine wpAnyH_take (i := 23) (oi := { dst := some 98, op := Op.move (Operand.tmp 0), type := 27, pos := "reasm.go:120", after := #[{ on := 15, ground := Ground.guard }], guard := some (15, false) }) (v := ?_) rfl (by kernel_rfl) (by kernel_rfl) (by kernel_rfl) (fun _ _ _ h => h) (Or.inl ⟨by rfl, ?_⟩) (by assumption) ?_
          rotate_left 1
          · intro w hSw
            go_simp
            first | done | with_reducible rfl
          try simp only [Act.put, List.setIfInBounds_toArray, List.set_cons_zero, List.set_cons_succ]
          refine wpAnyH_take (i := 24) (oi := { dst := some 99, op := Op.nilCheck (Operand.tmp 98), type := 0, pos := "reasm.go:120", after := #[{ on := 23, ground := Ground.data }, { on := 15, ground := Ground.guard }], guard := some (15, false) }) (v := ?_) rfl (by kernel_rfl) (by kernel_rfl) (by kernel_rfl) (fun _ _ _ h => h) (Or.inl ⟨by rfl, ?_⟩) (by assumption) ?_
          rotate_left 1
          · intro w hSw
            go_simp
            first | done | with_reducible rfl
          try simp only [Act.put, List.setIfInBounds_toArray, List.set_cons_zero, List.set_cons_succ]
          refine wpAnyH_take (i := 25) (oi := { dst := some 100, op := Op.fieldAddr 65 (Operand.tmp 99) 0, type := 0, pos := "reasm.go:120", after := #[{ on := 24, ground := Ground.data }, { on := 15, ground := Ground.guard }], guard := some (15, false) }) (v := ?_) rfl (by kernel_rfl) (by kernel_rfl) (by kernel_rfl) (fun _ _ _ h => h) (Or.inl ⟨by rfl, ?_⟩) (by assumption) ?_
          rotate_left 1
          · intro w hSw
            go_simp
            first | done | with_reducible rfl
          try simp only [Act.put, List.setIfInBounds_toArray, List.set_cons_zero, List.set_cons_succ]
          refine wpAnyH_take (i := 26) (oi := { dst := some 101, op := Op.fieldAddr 23 (Operand.tmp 100) 1, type := 0, pos := "reasm.go:120", after := #[{ on := 25, ground := Ground.data }, { on := 15, ground := Ground.guard }], guard := some (15, false) }) (v := ?_) rfl (by kernel_rfl) (by kernel_rfl) (by kernel_rfl) (fun _ _ _ h => h) (Or.inl ⟨by rfl, ?_⟩) (by assumption) ?_
          rotate_left 1
          · intro w hSw
            go_simp
            first | done | with_reducible rfl
          try simp only [Act.put, List.setIfInBounds_toArray, List.set_cons_zero, List.set_cons_succ]
          refine wpAnyH_take (i := 27) (oi := { dst := some 102, op := Op.load 3 (Operand.tmp 101), type := 3, pos := "reasm.go:120", after := #[{ on := 26, ground := Ground.data }, { on := 15, ground := Ground.guard }], guard := some (15, false) }) (v := ?_) rfl (by kernel_rfl) (by kernel_rfl) (by kernel_rfl) (fun _ _ _ h => h) (Or.inl ⟨by rfl, ?_⟩) (by assumption) ?_
          rotate_left 1
          · intro w hSw
            subst hSw
            go_simp
            first | done | with_reducible rfl
          try simp only [Act.put, List.setIfInBounds_toArray, List.set_cons_zero, List.set_cons_succ]
          refine wpAnyH_take (i := 28) (oi := { dst := some 103, op := Op.binOp BinOp.gtr 3 (Operand.tmp 97) (Operand.tmp 102) 3, type := 4, pos := "reasm.go:120", after := #[{ on := 22, ground := Ground.data }, { on := 27, ground := Ground.data }, { on := 15, ground := Ground.guard }], guard := some (15, false) }) (v := .bool true) rfl (by kernel_rfl) (by kernel_rfl) (by kernel_rfl) (fun _ _ _ h => h) (Or.inl ⟨by rfl, ?_⟩) (by assumption) ?_
          · intro w hSw
            go_simp
            first | done | with_reducible rfl
          try simp only [Act.put, List.setIfInBounds_toArray, List.set_cons_zero, List.set_cons_succ]
          refine wpAnyH_take (i := 29) (oi := { dst := some 104, op := Op.pick (Operand.tmp 90) (Operand.const (Value.bool true)) (Operand.tmp 103), type := 4, pos := "reasm.go:120", after := #[{ on := 15, ground := Ground.data }, { on := 28, ground := Ground.data }], guard := none }) (v := .bool true) rfl (by kernel_rfl) (by kernel_rfl) (by kernel_rfl) (fun _ _ _ h => h) (Or.inl ⟨by rfl, ?_⟩) (by assumption) ?_
          · intro w hSw
            go_simp
            first | done | with_reducible rfl
          try simp only [Act.put, List.setIfInBounds_toArray, List.set_cons_zero, List.set_cons_succ]
          refine wpAnyH_ready (rs := [30]) (by kernel_rfl) (by simp) ?_
          refine AllReadyH.cons (o := { dst := some 74, op := Op.assign (Operand.tmp 104), type := 4, pos := "reasm.go:120", after := #[{ on := 29, ground := Ground.data }, { on := 15, ground := Ground.chain }], guard := none }) rfl (fun K hK => ?_) AllReadyH.nil
          go_simp
          refine hK.out _ _ hHeld (fun hHeld => ?_)
          clear hK K
          try simp only [Act.put, List.setIfInBounds_toArray, List.set_cons_zero, List.set_cons_succ]
          refine wpAnyH_done (by kernel_rfl) ?_ _
          simp only [Exit.then]
          go_wp2_with (fail)
          go_meet
          exact ⟨by rw [HFB.out], rfl⟩
        · have HFB : Hid (fu = false) := Lib.hid (by rw [hfu2, decide_eq_false p28, decide_eq_false p13]; rfl)
          have i28 : ¬ (q : Int) > (btn : Int) := by omega
          have i28d : decide ((q : Int) > (btn : Int)) = false := decide_eq_false i28
          refine wp_region_held_drew (S := fun V => V = w6.drew) (by kernel_rfl) rfl (fun hHeld => ?_)
          refine wpAnyH_take (i := 0) (oi := { dst := some 75, op := Op.move (Operand.tmp 12), type := 4, pos := "reasm.go:120", after := #[], guard := none }) (v := .bool false) rfl (by kernel_rfl) (by kernel_rfl) (by kernel_rfl) (fun _ _ _ h => h) (Or.inl ⟨by rfl, ?_⟩) (by assumption) ?_
          · intro w hSw
            go_simp
            first | done | with_reducible rfl
          try simp only [Act.put, List.setIfInBounds_toArray, List.set_cons_zero, List.set_cons_succ]
          refine wpAnyH_take (i := 1) (oi := { dst := some 76, op := Op.unOp UnOp.not 4 (Operand.tmp 75), type := 4, pos := "reasm.go:120", after := #[{ on := 0, ground := Ground.data }], guard := none }) (v := .bool true) rfl (by kernel_rfl) (by kernel_rfl) (by kernel_rfl) (fun _ _ _ h => h) (Or.inl ⟨by rfl, ?_⟩) (by assumption) ?_
          · intro w hSw
            go_simp
            first | done | with_reducible rfl
          try simp only [Act.put, List.setIfInBounds_toArray, List.set_cons_zero, List.set_cons_succ]
          refine wpAnyH_take (i := 2) (oi := { dst := some 77, op := Op.move (Operand.tmp 76), type := 4, pos := "reasm.go:120", after := #[{ on := 1, ground := Ground.data }], guard := none }) (v := .bool true) rfl (by kernel_rfl) (by kernel_rfl) (by kernel_rfl) (fun _ _ _ h => h) (Or.inl ⟨by rfl, ?_⟩) (by assumption) ?_
          · intro w hSw
            go_simp
            first | done | with_reducible rfl
          try simp only [Act.put, List.setIfInBounds_toArray, List.set_cons_zero, List.set_cons_succ]
          refine wpAnyH_take (i := 3) (oi := { dst := some 78, op := Op.move (Operand.tmp 0), type := 27, pos := "reasm.go:120", after := #[{ on := 2, ground := Ground.guard }], guard := some (2, true) }) (v := ?_) rfl (by kernel_rfl) (by kernel_rfl) (by kernel_rfl) (fun _ _ _ h => h) (Or.inl ⟨by rfl, ?_⟩) (by assumption) ?_
          rotate_left 1
          · intro w hSw
            go_simp
            first | done | with_reducible rfl
          try simp only [Act.put, List.setIfInBounds_toArray, List.set_cons_zero, List.set_cons_succ]
          refine wpAnyH_take (i := 4) (oi := { dst := some 79, op := Op.nilCheck (Operand.tmp 78), type := 0, pos := "reasm.go:120", after := #[{ on := 3, ground := Ground.data }, { on := 2, ground := Ground.guard }], guard := some (2, true) }) (v := ?_) rfl (by kernel_rfl) (by kernel_rfl) (by kernel_rfl) (fun _ _ _ h => h) (Or.inl ⟨by rfl, ?_⟩) (by assumption) ?_
          rotate_left 1
          · intro w hSw
            go_simp
            first | done | with_reducible rfl
          try simp only [Act.put, List.setIfInBounds_toArray, List.set_cons_zero, List.set_cons_succ]
          refine wpAnyH_take (i := 5) (oi := { dst := some 80, op := Op.fieldAddr 65 (Operand.tmp 79) 1, type := 0, pos := "reasm.go:120", after := #[{ on := 4, ground := Ground.data }, { on := 2, ground := Ground.guard }], guard := some (2, true) }) (v := ?_) rfl (by kernel_rfl) (by kernel_rfl) (by kernel_rfl) (fun _ _ _ h => h) (Or.inl ⟨by rfl, ?_⟩) (by assumption) ?_
          rotate_left 1
          · intro w hSw
            go_simp
            first | done | with_reducible rfl
          try simp only [Act.put, List.setIfInBounds_toArray, List.set_cons_zero, List.set_cons_succ]
          refine wpAnyH_take (i := 6) (oi := { dst := some 81, op := Op.load 63 (Operand.tmp 80), type := 63, pos := "reasm.go:120", after := #[{ on := 5, ground := Ground.data }, { on := 2, ground := Ground.guard }], guard := some (2, true) }) (v := ?_) rfl (by kernel_rfl) (by kernel_rfl) (by kernel_rfl) (fun _ _ _ h => h) (Or.inl ⟨by rfl, ?_⟩) (by assumption) ?_
          rotate_left 1
          · intro w hSw
            subst hSw
            go_simp
            first | done | with_reducible rfl
          try simp only [Act.put, List.setIfInBounds_toArray, List.set_cons_zero, List.set_cons_succ]
          refine wpAnyH_take (i := 7) (oi := { dst := some 82, op := Op.call { callee := Callee.builtin Builtin.len, args := #[Operand.tmp 81], argTypes := #[63] }, type := 3, pos := "reasm.go:120", after := #[{ on := 6, ground := Ground.data }, { on := 2, ground := Ground.chain }, { on := 2, ground := Ground.guard }], guard := some (2, true) }) (v := ?_) rfl (by kernel_rfl) (by kernel_rfl) (by kernel_rfl) (fun _ _ _ h => h) (Or.inl ⟨by rfl, ?_⟩) (by assumption) ?_
          rotate_left 1
          · intro w hSw
            subst hSw
            go_simp
            first | done | with_reducible rfl
          try simp only [Act.put, List.setIfInBounds_toArray, List.set_cons_zero, List.set_cons_succ]
          refine wpAnyH_take (i := 8) (oi := { dst := some 83, op := Op.move (Operand.tmp 0), type := 27, pos := "reasm.go:120", after := #[{ on := 2, ground := Ground.guard }], guard := some (2, true) }) (v := ?_) rfl (by kernel_rfl) (by kernel_rfl) (by kernel_rfl) (fun _ _ _ h => h) (Or.inl ⟨by rfl, ?_⟩) (by assumption) ?_
          rotate_left 1
          · intro w hSw
            go_simp
            first | done | with_reducible rfl
          try simp only [Act.put, List.setIfInBounds_toArray, List.set_cons_zero, List.set_cons_succ]
          refine wpAnyH_take (i := 9) (oi := { dst := some 84, op := Op.nilCheck (Operand.tmp 83), type := 0, pos := "reasm.go:120", after := #[{ on := 8, ground := Ground.data }, { on := 2, ground := Ground.guard }], guard := some (2, true) }) (v := ?_) rfl (by kernel_rfl) (by kernel_rfl) (by kernel_rfl) (fun _ _ _ h => h) (Or.inl ⟨by rfl, ?_⟩) (by assumption) ?_
          rotate_left 1
          · intro w hSw
            go_simp
            first | done | with_reducible rfl
          try simp only [Act.put, List.setIfInBounds_toArray, List.set_cons_zero, List.set_cons_succ]
          refine wpAnyH_take (i := 10) (oi := { dst := some 85, op := Op.fieldAddr 65 (Operand.tmp 84) 0, type := 0, pos := "reasm.go:120", after := #[{ on := 9, ground := Ground.data }, { on := 2, ground := Ground.guard }], guard := some (2, true) }) (v := ?_) rfl (by kernel_rfl) (by kernel_rfl) (by kernel_rfl) (fun _ _ _ h => h) (Or.inl ⟨by rfl, ?_⟩) (by assumption) ?_
          rotate_left 1
          · intro w hSw
            go_simp
            first | done | with_reducible rfl
          try simp only [Act.put, List.setIfInBounds_toArray, List.set_cons_zero, List.set_cons_succ]
          refine wpAnyH_take (i := 11) (oi := { dst := some 86, op := Op.fieldAddr 23 (Operand.tmp 85) 0, type := 0, pos := "reasm.go:120", after := #[{ on := 10, ground := Ground.data }, { on := 2, ground := Ground.guard }], guard := some (2, true) }) (v := ?_) rfl (by kernel_rfl) (by kernel_rfl) (by kernel_rfl) (fun _ _ _ h => h) (Or.inl ⟨by rfl, ?_⟩) (by assumption) ?_
          rotate_left 1
          · intro w hSw
            go_simp
            first | done | with_reducible rfl
          try simp only [Act.put, List.setIfInBounds_toArray, List.set_cons_zero, List.set_cons_succ]
          refine wpAnyH_take (i := 12) (oi := { dst := some 87, op := Op.load 3 (Operand.tmp 86), type := 3, pos := "reasm.go:120", after := #[{ on := 11, ground := Ground.data }, { on := 2, ground := Ground.guard }], guard := some (2, true) }) (v := ?_) rfl (by kernel_rfl) (by kernel_rfl) (by kernel_rfl) (fun _ _ _ h => h) (Or.inl ⟨by rfl, ?_⟩) (by assumption) ?_
          rotate_left 1
          · intro w hSw
            subst hSw
            go_simp
            first | done | with_reducible rfl
          try simp only [Act.put, List.setIfInBounds_toArray, List.set_cons_zero, List.set_cons_succ]
          refine wpAnyH_take (i := 13) (oi := { dst := some 88, op := Op.binOp BinOp.geq 3 (Operand.tmp 82) (Operand.tmp 87) 3, type := 4, pos := "reasm.go:120", after := #[{ on := 7, ground := Ground.data }, { on := 12, ground := Ground.data }, { on := 2, ground := Ground.guard }], guard := some (2, true) }) (v := .bool false) rfl (by kernel_rfl) (by kernel_rfl) (by kernel_rfl) (fun _ _ _ h => h) (Or.inl ⟨by rfl, ?_⟩) (by assumption) ?_
          · intro w hSw
            go_simp
            first | done | with_reducible rfl
          try simp only [Act.put, List.setIfInBounds_toArray, List.set_cons_zero, List.set_cons_succ]
          refine wpAnyH_take (i := 14) (oi := { dst := some 89, op := Op.pick (Operand.tmp 77) (Operand.tmp 88) (Operand.const (Value.bool false)), type := 4, pos := "reasm.go:120", after := #[{ on := 2, ground := Ground.data }, { on := 13, ground := Ground.data }], guard := none }) (v := .bool false) rfl (by kernel_rfl) (by kernel_rfl) (by kernel_rfl) (fun _ _ _ h => h) (Or.inl ⟨by rfl, ?_⟩) (by assumption) ?_
          · intro w hSw
            go_simp
            first | done | with_reducible rfl
          try simp only [Act.put, List.setIfInBounds_toArray, List.set_cons_zero, List.set_cons_succ]
          refine wpAnyH_take (i := 15) (oi := { dst := some 90, op := Op.move (Operand.tmp 89), type := 4, pos := "reasm.go:120", after := #[{ on := 14, ground := Ground.data }, { on := 7, ground := Ground.chain }], guard := none }) (v := .bool false) rfl (by kernel_rfl) (by kernel_rfl) (by kernel_rfl) (fun _ _ _ h => h) (Or.inl ⟨by rfl, ?_⟩) (by assumption) ?_
          · intro w hSw
            go_simp
            first | done | with_reducible rfl
          try simp only [Act.put, List.setIfInBounds_toArray, List.set_cons_zero, List.set_cons_succ]
          refine wpAnyH_take (i := 16) (oi := { dst := some 91, op := Op.move (Operand.tmp 0), type := 27, pos := "reasm.go:120", after := #[{ on := 15, ground := Ground.guard }], guard := some (15, false) }) (v := ?_) rfl (by kernel_rfl) (by kernel_rfl) (by kernel_rfl) (fun _ _ _ h => h) (Or.inl ⟨by rfl, ?_⟩) (by assumption) ?_
          rotate_left 1
          · intro w hSw
            go_simp
            first | done | with_reducible rfl
          try simp only [Act.put, List.setIfInBounds_toArray, List.set_cons_zero, List.set_cons_succ]
          refine wpAnyH_take (i := 17) (oi := { dst := some 92, op := Op.nilCheck (Operand.tmp 91), type := 0, pos := "reasm.go:120", after := #[{ on := 16, ground := Ground.data }, { on := 15, ground := Ground.guard }], guard := some (15, false) }) (v := ?_) rfl (by kernel_rfl) (by kernel_rfl) (by kernel_rfl) (fun _ _ _ h => h) (Or.inl ⟨by rfl, ?_⟩) (by assumption) ?_
          rotate_left 1
          · intro w hSw
            go_simp
            first | done | with_reducible rfl
          try simp only [Act.put, List.setIfInBounds_toArray, List.set_cons_zero, List.set_cons_succ]
          refine wpAnyH_take (i := 18) (oi := { dst := some 93, op := Op.fieldAddr 65 (Operand.tmp 92) 2, type := 0, pos := "reasm.go:120", after := #[{ on := 17, ground := Ground.data }, { on := 15, ground := Ground.guard }], guard := some (15, false) }) (v := ?_) rfl (by kernel_rfl) (by kernel_rfl) (by kernel_rfl) (fun _ _ _ h => h) (Or.inl ⟨by rfl, ?_⟩) (by assumption) ?_
          rotate_left 1
          · intro w hSw
            go_simp
            first | done | with_reducible rfl
          try simp only [Act.put, List.setIfInBounds_toArray, List.set_cons_zero, List.set_cons_succ]
          refine wpAnyH_take (i := 19) (oi := { dst := some 94, op := Op.load 3 (Operand.tmp 93), type := 3, pos := "reasm.go:120", after := #[{ on := 18, ground := Ground.data }, { on := 15, ground := Ground.guard }], guard := some (15, false) }) (v := ?_) rfl (by kernel_rfl) (by kernel_rfl) (by kernel_rfl) (fun _ _ _ h => h) (Or.inl ⟨by rfl, ?_⟩) (by assumption) ?_
          rotate_left 1
          · intro w hSw
            subst hSw
            go_simp
            first | done | with_reducible rfl
          try simp only [Act.put, List.setIfInBounds_toArray, List.set_cons_zero, List.set_cons_succ]
          refine wpAnyH_take (i := 20) (oi := { dst := some 95, op := Op.move (Operand.tmp 7), type := 9, pos := "reasm.go:120", after := #[{ on := 15, ground := Ground.guard }], guard := some (15, false) }) (v := ?_) rfl (by kernel_rfl) (by kernel_rfl) (by kernel_rfl) (fun _ _ _ h => h) (Or.inl ⟨by rfl, ?_⟩) (by assumption) ?_
          rotate_left 1
          · intro w hSw
            go_simp
            first | done | with_reducible rfl
          try simp only [Act.put, List.setIfInBounds_toArray, List.set_cons_zero, List.set_cons_succ]
          refine wpAnyH_take (i := 21) (oi := { dst := some 96, op := Op.call { callee := Callee.builtin Builtin.len, args := #[Operand.tmp 95], argTypes := #[9] }, type := 3, pos := "reasm.go:120", after := #[{ on := 20, ground := Ground.data }, { on := 15, ground := Ground.guard }], guard := some (15, false) }) (v := ?_) rfl (by kernel_rfl) (by kernel_rfl) (by kernel_rfl) (fun _ _ _ h => h) (Or.inl ⟨by rfl, ?_⟩) (by assumption) ?_
          rotate_left 1
          · intro w hSw
            subst hSw
            go_simp
            first | done | with_reducible rfl
          try simp only [Act.put, List.setIfInBounds_toArray, List.set_cons_zero, List.set_cons_succ]
          refine wpAnyH_take (i := 22) (oi := { dst := some 97, op := Op.binOp BinOp.add 3 (Operand.tmp 94) (Operand.tmp 96) 3, type := 3, pos := "reasm.go:120", after := #[{ on := 19, ground := Ground.data }, { on := 21, ground := Ground.data }, { on := 15, ground := Ground.guard }], guard := some (15, false) }) (v := ?_) rfl (by kernel_rfl) (by kernel_rfl) (by kernel_rfl) (fun _ _ _ h => h) (Or.inl ⟨by rfl, ?_⟩) (by assumption) ?_
          rotate_left 1
          · intro w hSw
            go_simp
            first | done | with_reducible rfl
          try simp only [Act.put, List.setIfInBounds_toArray, List.set_cons_zero, List.set_cons_succ]
          refine wpAnyH_take (i := 23) (oi := { dst := some 98, op := Op.move (Operand.tmp 0), type := 27, pos := "reasm.go:120", after := #[{ on := 15, ground := Ground.guard }], guard := some (15, false) }) (v := ?_) rfl (by kernel_rfl) (by kernel_rfl) (by kernel_rfl) (fun _ _ _ h => h) (Or.inl ⟨by rfl, ?_⟩) (by assumption) ?_
          rotate_left 1
          · intro w hSw
            go_simp
            first | done | with_reducible rfl
          try simp only [Act.put, List.setIfInBounds_toArray, List.set_cons_zero, List.set_cons_succ]
          refine wpAnyH_take (i := 24) (oi := { dst := some 99, op := Op.nilCheck (Operand.tmp 98), type := 0, pos := "reasm.go:120", after := #[{ on := 23, ground := Ground.data }, { on := 15, ground := Ground.guard }], guard := some (15, false) }) (v := ?_) rfl (by kernel_rfl) (by kernel_rfl) (by kernel_rfl) (fun _ _ _ h => h) (Or.inl ⟨by rfl, ?_⟩) (by assumption) ?_
          rotate_left 1
          · intro w hSw
            go_simp
            first | done | with_reducible rfl
          try simp only [Act.put, List.setIfInBounds_toArray, List.set_cons_zero, List.set_cons_succ]
          refine wpAnyH_take (i := 25) (oi := { dst := some 100, op := Op.fieldAddr 65 (Operand.tmp 99) 0, type := 0, pos := "reasm.go:120", after := #[{ on := 24, ground := Ground.data }, { on := 15, ground := Ground.guard }], guard := some (15, false) }) (v := ?_) rfl (by kernel_rfl) (by kernel_rfl) (by kernel_rfl) (fun _ _ _ h => h) (Or.inl ⟨by rfl, ?_⟩) (by assumption) ?_
          rotate_left 1
          · intro w hSw
            go_simp
            first | done | with_reducible rfl
          try simp only [Act.put, List.setIfInBounds_toArray, List.set_cons_zero, List.set_cons_succ]
          refine wpAnyH_take (i := 26) (oi := { dst := some 101, op := Op.fieldAddr 23 (Operand.tmp 100) 1, type := 0, pos := "reasm.go:120", after := #[{ on := 25, ground := Ground.data }, { on := 15, ground := Ground.guard }], guard := some (15, false) }) (v := ?_) rfl (by kernel_rfl) (by kernel_rfl) (by kernel_rfl) (fun _ _ _ h => h) (Or.inl ⟨by rfl, ?_⟩) (by assumption) ?_
          rotate_left 1
          · intro w hSw
            go_simp
            first | done | with_reducible rfl
          try simp only [Act.put, List.setIfInBounds_toArray, List.set_cons_zero, List.set_cons_succ]
          refine wpAnyH_take (i := 27) (oi := { dst := some 102, op := Op.load 3 (Operand.tmp 101), type := 3, pos := "reasm.go:120", after := #[{ on := 26, ground := Ground.data }, { on := 15, ground := Ground.guard }], guard := some (15, false) }) (v := ?_) rfl (by kernel_rfl) (by kernel_rfl) (by kernel_rfl) (fun _ _ _ h => h) (Or.inl ⟨by rfl, ?_⟩) (by assumption) ?_
          rotate_left 1
          · intro w hSw
            subst hSw
            go_simp
            first | done | with_reducible rfl
          try simp only [Act.put, List.setIfInBounds_toArray, List.set_cons_zero, List.set_cons_succ]
          refine wpAnyH_take (i := 28) (oi := { dst := some 103, op := Op.binOp BinOp.gtr 3 (Operand.tmp 97) (Operand.tmp 102) 3, type := 4, pos := "reasm.go:120", after := #[{ on := 22, ground := Ground.data }, { on := 27, ground := Ground.data }, { on := 15, ground := Ground.guard }], guard := some (15, false) }) (v := .bool false) rfl (by kernel_rfl) (by kernel_rfl) (by kernel_rfl) (fun _ _ _ h => h) (Or.inl ⟨by rfl, ?_⟩) (by assumption) ?_
          · intro w hSw
            go_simp
            first | done | with_reducible rfl
          try simp only [Act.put, List.setIfInBounds_toArray, List.set_cons_zero, List.set_cons_succ]
          refine wpAnyH_take (i := 29) (oi := { dst := some 104, op := Op.pick (Operand.tmp 90) (Operand.const (Value.bool true)) (Operand.tmp 103), type := 4, pos := "reasm.go:120", after := #[{ on := 15, ground := Ground.data }, { on := 28, ground := Ground.data }], guard := none }) (v := .bool false) rfl (by kernel_rfl) (by kernel_rfl) (by kernel_rfl) (fun _ _ _ h => h) (Or.inl ⟨by rfl, ?_⟩) (by assumption) ?_
          · intro w hSw
            go_simp
            first | done | with_reducible rfl
          try simp only [Act.put, List.setIfInBounds_toArray, List.set_cons_zero, List.set_cons_succ]
          refine wpAnyH_ready (rs := [30]) (by kernel_rfl) (by simp) ?_
          refine AllReadyH.cons (o := { dst := some 74, op := Op.assign (Operand.tmp 104), type := 4, pos := "reasm.go:120", after := #[{ on := 29, ground := Ground.data }, { on := 15, ground := Ground.chain }], guard := none }) rfl (fun K hK => ?_) AllReadyH.nil
          go_simp
          refine hK.out _ _ hHeld (fun hHeld => ?_)
          clear hK K
          try simp only [Act.put, List.setIfInBounds_toArray, List.set_cons_zero, List.set_cons_succ]
          refine wpAnyH_done (by kernel_rfl) ?_ _
          simp only [Exit.then]
          go_wp2_with (fail)
          go_meet
          exact ⟨by rw [HFB.out], rfl⟩
  case rest =>
  obtain ⟨rfl, hwc⟩ := hcut
  have HM9 : Hid (MidS F Tb M st L k p P1 K1 #[.int .i64 b0, .int .i64 b1, .int .i64 b2, .int .i64 b3, .int .i64 b4, .bool b5, .bool b6, .string b7, .string b8, .string b9, .int .i64 fo, .string ss] #[.string b7, .string b8, .int .i64 b4, .int .i64 b1] loc' row' wc) := Lib.hid (by rw [hwc]; exact HM8.out.drew)
  have HB9 : Hid (Below w.heap.size w wc) := Lib.hid (by rw [hwc]; exact HB8.out.drew)
  have HTB9 : Hid (wc.heap[Tb]? = some (.cells #[.int .i64 (ent : Nat), .int .i64 (btn : Nat), .int .i64 (lif : Nat), .map (some M), .int .i64 (bt : Nat)] 65 (0, 0))) := Lib.hid (by rw [hwc]; exact HTB8.out)
  clear hwc t0 t1 t3 t4 hln hfu2
  cases fu with
  | true =>
    go_wp2_with (fail)
    go_ret2
    exact HAT.out 11 (by rw [HADD.out]; rfl) _ HM9.out HB9.out
  | false =>
  have hLf : L.length ≤ 1000 := by have h1 := HG.out.few; have h2 := HST.out.1; omega
  obtain ⟨w8, hmu, hpm8, hgr8⟩ := HM9.out.drew.upd HKV.out.2 hLf
  rw [HKV.out.1] at hmu
  have HGR8 := Lib.hid hgr8
  have HPM8 := Lib.hid hpm8
  have HNM : Hid (Tb ≠ M ∧ K1 ≠ M) := Lib.hid ⟨HM9.out.tbM.1, HM9.out.tbM.2.2⟩
  clear hgr8 hpm8 hLf
  go_upto_region 19 with (fail)
  refine wp_region_held_drew (S := fun V => V.heap[Tb]? = some (.cells #[.int .i64 (ent : Nat), .int .i64 (btn : Nat), .int .i64 (lif : Nat), .map (some M), .int .i64 (bt : Nat)] 65 (0, 0)) ∧ V.heap[K1]? = some (.cells #[.string b7, .string b8, .int .i64 b4, .int .i64 b1] 68 (0, 0))) (by kernel_rfl) ⟨HTB9.out, HM9.out.hK⟩ (fun hHeld => ?_)
  refine wpAnyH_take (i := 0) (oi := { dst := some 105, op := Op.move (Operand.tmp 0), type := 27, pos := "reasm.go:123", after := #[], guard := none }) (v := ?_) rfl (by kernel_rfl) (by kernel_rfl) (by kernel_rfl) (fun _ _ _ h => h) (Or.inl ⟨by rfl, ?_⟩) (by assumption) ?_
  rotate_left 1
  · intro w hSw
    go_simp
    first | done | with_reducible rfl
  try simp only [Act.put, List.setIfInBounds_toArray, List.set_cons_zero, List.set_cons_succ]
  refine wpAnyH_take (i := 1) (oi := { dst := some 106, op := Op.nilCheck (Operand.tmp 105), type := 0, pos := "reasm.go:123", after := #[{ on := 0, ground := Ground.data }], guard := none }) (v := ?_) rfl (by kernel_rfl) (by kernel_rfl) (by kernel_rfl) (fun _ _ _ h => h) (Or.inl ⟨by rfl, ?_⟩) (by assumption) ?_
  rotate_left 1
  · intro w hSw
    go_simp
    first | done | with_reducible rfl
  try simp only [Act.put, List.setIfInBounds_toArray, List.set_cons_zero, List.set_cons_succ]
  refine wpAnyH_take (i := 2) (oi := { dst := some 107, op := Op.fieldAddr 65 (Operand.tmp 106) 1, type := 0, pos := "reasm.go:123", after := #[{ on := 1, ground := Ground.data }], guard := none }) (v := ?_) rfl (by kernel_rfl) (by kernel_rfl) (by kernel_rfl) (fun _ _ _ h => h) (Or.inl ⟨by rfl, ?_⟩) (by assumption) ?_
  rotate_left 1
  · intro w hSw
    go_simp
    first | done | with_reducible rfl
  try simp only [Act.put, List.setIfInBounds_toArray, List.set_cons_zero, List.set_cons_succ]
  refine wpAnyH_take (i := 3) (oi := { dst := some 108, op := Op.load 63 (Operand.tmp 107), type := 63, pos := "reasm.go:123", after := #[{ on := 2, ground := Ground.data }], guard := none }) (v := ?_) rfl (by kernel_rfl) (by kernel_rfl) (by kernel_rfl) (fun _ _ _ h => h) (Or.inl ⟨by rfl, ?_⟩) (by assumption) ?_
  rotate_left 1
  · intro w hSw
    have q0 := cellAt (i := 3) (v := .map (some M)) hSw.1 rfl
    go_simp
    first | done | with_reducible rfl
  try simp only [Act.put, List.setIfInBounds_toArray, List.set_cons_zero, List.set_cons_succ]
  refine wpAnyH_take (i := 4) (oi := { dst := some 109, op := Op.load 68 (Operand.tmp 10), type := 68, pos := "reasm.go:123", after := #[], guard := none }) (v := ?_) rfl (by kernel_rfl) (by kernel_rfl) (by kernel_rfl) (fun _ _ _ h => h) (Or.inl ⟨by rfl, ?_⟩) (by assumption) ?_
  rotate_left 1
  · intro w hSw
    have q0 := cellAt (i := 0) (v := .string b7) hSw.2 rfl
    have q1 := cellAt (i := 1) (v := .string b8) hSw.2 rfl
    have q2 := cellAt (i := 2) (v := .int .i64 b4) hSw.2 rfl
    have q3 := cellAt (i := 3) (v := .int .i64 b1) hSw.2 rfl
    go_simp
    first | done | with_reducible rfl
  try simp only [Act.put, List.setIfInBounds_toArray, List.set_cons_zero, List.set_cons_succ]
  refine wpAnyH_take (i := 5) (oi := { dst := some 110, op := Op.move (Operand.tmp 11), type := 69, pos := "reasm.go:123", after := #[], guard := none }) (v := ?_) rfl (by kernel_rfl) (by kernel_rfl) (by kernel_rfl) (fun _ _ _ h => h) (Or.inl ⟨by rfl, ?_⟩) (by assumption) ?_
  rotate_left 1
  · intro w hSw
    go_simp
    first | done | with_reducible rfl
  try simp only [Act.put, List.setIfInBounds_toArray, List.set_cons_zero, List.set_cons_succ]
  refine wpAnyH_ready (rs := [6]) (by kernel_rfl) (by simp) ?_
  refine AllReadyH.cons (o := { dst := none, op := Op.mapUpdate 63 (Operand.tmp 108) (Operand.tmp 109) (Operand.tmp 110), type := 0, pos := "reasm.go:123", after := #[{ on := 3, ground := Ground.data }, { on := 4, ground := Ground.data }, { on := 5, ground := Ground.data }, { on := 0, ground := Ground.phase }, { on := 1, ground := Ground.phase }, { on := 2, ground := Ground.phase }, { on := 3, ground := Ground.phase }, { on := 4, ground := Ground.phase }, { on := 5, ground := Ground.phase }], guard := none }) rfl (fun K hK => ?_) AllReadyH.nil
  go_simp
  refine hK.out _ _ ⟨(HGR8.out.block _ (heap_lt hHeld.1) (by simpa using HNM.out.1)).trans hHeld.1, (HGR8.out.block _ (heap_lt hHeld.2) (by simpa using HNM.out.2)).trans hHeld.2⟩ (fun hHeld => ?_)
  clear hK K
  try simp only [Act.put, List.setIfInBounds_toArray, List.set_cons_zero, List.set_cons_succ]
  refine wpAnyH_done (by kernel_rfl) ?_ _
  simp only [Exit.then]
  have T8 : Hid (MidT F Tb M st L (btsL L) k p P1 #[.int .i64 b0, .int .i64 b1, .int .i64 b2, .int .i64 b3, .int .i64 b4, .bool b5, .bool b6, .string b7, .string b8, .string b9, .int .i64 fo, .string ss] loc' row' w8) := Lib.hid (HM9.out.drew.toT HPM8.out HGR8.out)
  have HKP8 : Hid (Kp F w w8) := Lib.hid (by
    have h1 : Kp F w wc.drew := Kp.of_below HB9.out.drew HT.out.lt
    have hs := HB9.out.drew.size
    exact h1.trans (Kp.of_grown HGR8.out (fun b hb => ⟨Nat.lt_of_lt_of_le (HT.out.lt b hb) hs, fun e => HT.out.fM (by injection e with e; rw [← e]; exact hb)⟩)))
  clear hmu hHeld
  have u4 := cellAt (i := 4) (v := .int .i64 (bt : Nat)) (show w8.heap[Tb]? = some (.cells #[.int .i64 (st.ents : Nat), .int .i64 (st.bts : Nat), .int .i64 (st.life : Nat), .map (some M), .int .i64 (bt : Nat)] 65 (0, 0)) by rw [HST9.out.2.2.2.1]; exact T8.out.tb) rfl
  have f4 := Lib.frozen_of_heap T8.out.tb 4
  go_upto_region 21 with (fail)
  obtain ⟨W9, hW9⟩ : ∃ W, W = w8.setCell ⟨Tb, 4, none⟩ (.int .i64 (q : Nat)) := ⟨_, rfl⟩
  have T9 : Hid (MidT F Tb M st L q k p P1 #[.int .i64 b0, .int .i64 b1, .int .i64 b2, .int .i64 b3, .int .i64 b4, .bool b5, .bool b6, .string b7, .string b8, .string b9, .int .i64 fo, .string ss] loc' row' W9) := Lib.hid (by rw [hW9]; exact T8.out.setTb)
  have HKP9 : Hid (Kp F w W9) := Lib.hid (by rw [hW9]; exact HKP8.out.set ⟨Tb, 4, none⟩ T8.out.fT _)
  rw [← hW9]
  clear hW9 u4 f4
  obtain ⟨Wd, hWd⟩ : ∃ W, W = W9.drew := ⟨_, rfl⟩
  have T9d : Hid (MidT F Tb M st L q k p P1 #[.int .i64 b0, .int .i64 b1, .int .i64 b2, .int .i64 b3, .int .i64 b4, .bool b5, .bool b6, .string b7, .string b8, .string b9, .int .i64 fo, .string ss] loc' row' Wd) := Lib.hid (by rw [hWd]; exact T9.out.drew)
  have HWDE := Lib.hid hWd
  obtain ⟨n, hn⟩ : ∃ n, n = ps.length := ⟨_, rfl⟩
  have HNN := Lib.hid hn
  have hnl : n ≤ 100000 := by have h1 : ps.length ≤ 100000 := HPLEN.out; omega
  have hrw9 : PRow 0 v ps Wd := by have h1 := T9d.out.rowp; rw [← HV.out, ← HPS.out] at h1; exact h1
  have hent9 : Wd.heap[p]? = some (.cells #[v, .bool false, .int .i64 (ag : Nat)] 72 (0, 0)) := by
    have h1 := T9d.out.ent
    rw [← HV.out, ← HDN.out, ← HAG.out] at h1; exact h1
  obtain ⟨g9, cap9, hvf, _⟩ := slice_form hrw9
  rw [← hn] at hvf
  subst hvf
  have hb9 := (Below.refl Wd.heap.size Wd).alloc (Nat.le_refl _) (.cells #[.int .i64 b0, .int .i64 b1, .int .i64 b2, .int .i64 b3, .int .i64 b4, .bool b5, .bool b6, .string b7, .string b8, .string b9, .int .i64 fo, .string ss] 74)
  have hrwA : PRow 0 (.slice g9 n cap9) ps (Wd.alloc (.cells #[.int .i64 b0, .int .i64 b1, .int .i64 b2, .int .i64 b3, .int .i64 b4, .bool b5, .bool b6, .string b7, .string b8, .string b9, .int .i64 fo, .string ss] 74)) := hrw9.same (fun b hb => by
    obtain ⟨cur, hc⟩ := hrw9.obj hb
    exact hb9.block b (heap_lt hc))
  obtain ⟨v', w10, happ, hrow10, hgr10, hown10⟩ := app_pc hrwA P Wd.heap.size (by rw [HPV.out.2]; exact alloc_new _ _) (by omega)
  obtain ⟨g10, cap2, hv10, hg10⟩ := slice_form hrow10
  obtain ⟨G2, rfl⟩ : ∃ k, g10 = some ⟨k, 0, none⟩ := by
    rcases hg10 with h1 | h1
    · rw [List.length_append] at h1; simp at h1
    · exact h1
  have hl1 : (ps ++ [P]).length = n + 1 := by rw [List.length_append, hn]; rfl
  rw [hl1] at hv10
  subst hv10
  have hpl := heap_lt hent9
  have hpA : (Wd.alloc (.cells #[.int .i64 b0, .int .i64 b1, .int .i64 b2, .int .i64 b3, .int .i64 b4, .bool b5, .bool b6, .string b7, .string b8, .string b9, .int .i64 fo, .string ss] 74)).heap[p]? = some (.cells #[.slice g9 n cap9, .bool false, .int .i64 (ag : Nat)] 72 (0, 0)) := (hb9.block _ hpl).trans hent9
  have hown9 : (Value.slice g9 n cap9).ownBlock ≠ some p := fun e => by obtain ⟨cur, hc⟩ := hrw9.obj e; rw [hent9] at hc; simp at hc
  have hP1l := heap_lt T9d.out.hP
  have hownP : (Value.slice g9 n cap9).ownBlock ≠ some P1 := fun e => by
    have h1 := T9d.out.bd.avR _ (eOf_mem L k) P1 (by rw [eOf_k, ← HV.out]; exact e)
    exact h1 (.inr (.inr (.inr rfl)))
  have hp10 : w10.heap[p]? = some (.cells #[.slice g9 n cap9, .bool false, .int .i64 (ag : Nat)] 72 (0, 0)) := (hgr10.block p (by rw [World.size_alloc]; omega) (fun e => hown9 e.symm)).trans hpA
  have hPA : (Wd.alloc (.cells #[.int .i64 b0, .int .i64 b1, .int .i64 b2, .int .i64 b3, .int .i64 b4, .bool b5, .bool b6, .string b7, .string b8, .string b9, .int .i64 fo, .string ss] 74)).heap[P1]? = some (.cells #[.int .i64 b0, .int .i64 b1, .int .i64 b2, .int .i64 b3, .int .i64 b4, .bool b5, .bool b6, .string b7, .string b8, .string b9, .int .i64 fo, .string ss] 74 (0, 0)) := (hb9.block _ hP1l).trans T9d.out.hP
  have hP10 : w10.heap[P1]? = some (.cells #[.int .i64 b0, .int .i64 b1, .int .i64 b2, .int .i64 b3, .int .i64 b4, .bool b5, .bool b6, .string b7, .string b8, .string b9, .int .i64 fo, .string ss] 74 (0, 0)) := (hgr10.block P1 (by rw [World.size_alloc]; omega) (fun e => hownP e.symm)).trans hPA
  have hpP : P1 ≠ p := fun e => by have h1 := T9d.out.hP; rw [e, hent9] at h1; simp at h1
  have HP21a : Hid (Wd.heap[P1]? = some (.cells #[.int .i64 b0, .int .i64 b1, .int .i64 b2, .int .i64 b3, .int .i64 b4, .bool b5, .bool b6, .string b7, .string b8, .string b9, .int .i64 fo, .string ss] 74 (0, 0))) := Lib.hid T9d.out.hP
  have HP21b := Lib.hid hPA
  have HP21c := Lib.hid hP10
  have HP21d : Hid ((w10.setCell ⟨p, 0, none⟩ (.slice (some ⟨G2, 0, none⟩) (n + 1) cap2)).heap[P1]? = some (.cells #[.int .i64 b0, .int .i64 b1, .int .i64 b2, .int .i64 b3, .int .i64 b4, .bool b5, .bool b6, .string b7, .string b8, .string b9, .int .i64 fo, .string ss] 74 (0, 0))) := Lib.hid (heap_other hP10 hpP _ _)
  have HAPP := Lib.hid happ
  have HW11 : Hid ((w10.setCell ⟨p, 0, none⟩ (.slice (some ⟨G2, 0, none⟩) (n + 1) cap2)).heap[p]? = some (.cells #[.slice (some ⟨G2, 0, none⟩) (n + 1) cap2, .bool false, .int .i64 (ag : Nat)] 72 (0, 0)) ∧ PRow 0 (.slice (some ⟨G2, 0, none⟩) (n + 1) cap2) (ps ++ [P]) (w10.setCell ⟨p, 0, none⟩ (.slice (some ⟨G2, 0, none⟩) (n + 1) cap2))) := Lib.hid (by
    refine ⟨heap_set hp10 (show 0 < 3 by decide) _, hrow10.same (fun b hb => Below.heap_setCell _ _ _ _ (fun e => ?_))⟩
    obtain ⟨cur, hc⟩ := hrow10.obj hb
    rw [e, hp10] at hc; simp at hc)
  have HK11 : Hid (W9.heap.size ≤ (w10.setCell ⟨p, 0, none⟩ (.slice (some ⟨G2, 0, none⟩) (n + 1) cap2)).heap.size ∧ ∀ b, b < W9.heap.size → b ≠ p → (row' k).ownBlock ≠ some b → (w10.setCell ⟨p, 0, none⟩ (.slice (some ⟨G2, 0, none⟩) (n + 1) cap2)).heap[b]? = W9.heap[b]?) := Lib.hid (by
    have hs1 := hgr10.size
    rw [World.size_alloc] at hs1
    have hs2 : Wd.heap.size = W9.heap.size := by rw [hWd]; rfl
    refine ⟨by simp only [World.setCell, Array.size_modify]; omega, fun b hb h1 h2 => ?_⟩
    rw [Below.heap_setCell _ _ _ _ h1, hgr10.block b (by rw [World.size_alloc]; omega) (fun e => h2 (by rw [← HV.out]; exact e.symm)), hb9.block b (by omega)]; rw [hWd]; rfl)
  have HX11 : Hid ((w10.setCell ⟨p, 0, none⟩ (.slice (some ⟨G2, 0, none⟩) (n + 1) cap2)).os = W9.os ∧ (w10.setCell ⟨p, 0, none⟩ (.slice (some ⟨G2, 0, none⟩) (n + 1) cap2)).tape = W9.tape ∧ (w10.setCell ⟨p, 0, none⟩ (.slice (some ⟨G2, 0, none⟩) (n + 1) cap2)).output = W9.output) := Lib.hid ⟨hgr10.os.trans (by rw [hWd]; rfl), hgr10.tape.trans (by rw [hWd]; rfl), hgr10.output.trans (by rw [hWd]; rfl)⟩
  have HG2 : Hid ((row' k).ownBlock = some G2 ∨ W9.heap.size ≤ G2) := Lib.hid (by
    rcases hown10 with h1 | h1
    · left; rw [← HV.out, ← h1]; rfl
    · right
      injection h1 with h1
      have h2 : G2 = (Wd.alloc (.cells #[.int .i64 b0, .int .i64 b1, .int .i64 b2, .int .i64 b3, .int .i64 b4, .bool b5, .bool b6, .string b7, .string b8, .string b9, .int .i64 fo, .string ss] 74)).heap.size := h1
      rw [h2, World.size_alloc, hWd]
      exact Nat.le_succ _)
  have u0 := cellAt (i := 0) (v := .slice g9 n cap9) hent9 rfl
  have uA := cellAt (i := 0) (v := .slice g9 n cap9) hpA rfl
  have uB := cellAt (i := 0) (v := .slice g9 n cap9) hp10 rfl
  have f0 := Lib.frozen_of_heap hp10 0
  have HROW10 := Lib.hid hrow10
  clear hWd hrw9 hent9 hb9 hrwA happ hrow10 hgr10 hown10 hg10 hpl hpA hown9 hP1l hownP hp10 hPA hP10 hpP hl1 hn
  go_cut [] (fun wx => ∃ w11, wx = w11 ∧ Hid (w11 = w10.setCell ⟨p, 0, none⟩ (.slice (some ⟨G2, 0, none⟩) (n + 1) cap2)))
  case first =>
    refine wp_region_held_drew (S := fun V => V.heap[P1]? = some (.cells #[.int .i64 b0, .int .i64 b1, .int .i64 b2, .int .i64 b3, .int .i64 b4, .bool b5, .bool b6, .string b7, .string b8, .string b9, .int .i64 fo, .string ss] 74 (0, 0))) (by kernel_rfl) (by rw [← HWDE.out]; exact HP21a.out) (fun hHeld => ?_)
    rw [← HWDE.out] at hHeld ⊢
    refine wpAnyH_take (i := 0) (oi := { dst := some 120, op := Op.move (Operand.tmp 11), type := 69, pos := "reasm.go:125", after := #[], guard := none }) (v := ?_) rfl (by kernel_rfl) (by kernel_rfl) (by kernel_rfl) (fun _ _ _ h => h) (Or.inl ⟨by rfl, ?_⟩) (by assumption) ?_
    rotate_left 1
    · intro w hSw
      go_simp
      first | done | with_reducible rfl
    try simp only [Act.put, List.setIfInBounds_toArray, List.set_cons_zero, List.set_cons_succ]
    refine wpAnyH_take (i := 1) (oi := { dst := some 121, op := Op.move (Operand.tmp 11), type := 69, pos := "reasm.go:125", after := #[], guard := none }) (v := ?_) rfl (by kernel_rfl) (by kernel_rfl) (by kernel_rfl) (fun _ _ _ h => h) (Or.inl ⟨by rfl, ?_⟩) (by assumption) ?_
    rotate_left 1
    · intro w hSw
      go_simp
      first | done | with_reducible rfl
    try simp only [Act.put, List.setIfInBounds_toArray, List.set_cons_zero, List.set_cons_succ]
    refine wpAnyH_take (i := 2) (oi := { dst := some 122, op := Op.nilCheck (Operand.tmp 121), type := 0, pos := "reasm.go:125", after := #[{ on := 1, ground := Ground.data }], guard := none }) (v := ?_) rfl (by kernel_rfl) (by kernel_rfl) (by kernel_rfl) (fun _ _ _ h => h) (Or.inl ⟨by rfl, ?_⟩) (by assumption) ?_
    rotate_left 1
    · intro w hSw
      go_simp
      first | done | with_reducible rfl
    try simp only [Act.put, List.setIfInBounds_toArray, List.set_cons_zero, List.set_cons_succ]
    refine wpAnyH_take (i := 3) (oi := { dst := some 123, op := Op.fieldAddr 72 (Operand.tmp 122) 0, type := 0, pos := "reasm.go:125", after := #[{ on := 2, ground := Ground.data }], guard := none }) (v := ?_) rfl (by kernel_rfl) (by kernel_rfl) (by kernel_rfl) (fun _ _ _ h => h) (Or.inl ⟨by rfl, ?_⟩) (by assumption) ?_
    rotate_left 1
    · intro w hSw
      go_simp
      first | done | with_reducible rfl
    try simp only [Act.put, List.setIfInBounds_toArray, List.set_cons_zero, List.set_cons_succ]
    refine wpAnyH_take (i := 5) (oi := { dst := some 125, op := Op.load 74 (Operand.tmp 9), type := 74, pos := "reasm.go:125", after := #[], guard := none }) (v := ?_) rfl (by kernel_rfl) (by kernel_rfl) (by kernel_rfl) (fun _ _ _ h => h) (Or.inl ⟨by rfl, ?_⟩) (by assumption) ?_
    rotate_left 1
    · intro w hSw
      have q0 := cellAt (i := 0) (v := .int .i64 b0) hSw rfl
      have q1 := cellAt (i := 1) (v := .int .i64 b1) hSw rfl
      have q2 := cellAt (i := 2) (v := .int .i64 b2) hSw rfl
      have q3 := cellAt (i := 3) (v := .int .i64 b3) hSw rfl
      have q4 := cellAt (i := 4) (v := .int .i64 b4) hSw rfl
      have q5 := cellAt (i := 5) (v := .bool b5) hSw rfl
      have q6 := cellAt (i := 6) (v := .bool b6) hSw rfl
      have q7 := cellAt (i := 7) (v := .string b7) hSw rfl
      have q8 := cellAt (i := 8) (v := .string b8) hSw rfl
      have q9 := cellAt (i := 9) (v := .string b9) hSw rfl
      have q10 := cellAt (i := 10) (v := .int .i64 fo) hSw rfl
      have q11 := cellAt (i := 11) (v := .string ss) hSw rfl
      go_simp
      first | done | with_reducible rfl
    try simp only [Act.put, List.setIfInBounds_toArray, List.set_cons_zero, List.set_cons_succ]
    refine wpAnyH_ready (rs := [4, 6]) (by kernel_rfl) (by simp) ?_
    refine AllReadyH.cons (o := { dst := some 124, op := Op.load 70 (Operand.tmp 123), type := 70, pos := "reasm.go:125", after := #[{ on := 3, ground := Ground.data }], guard := none }) rfl (fun K hK => ?_) (AllReadyH.cons (o := { dst := some 126, op := Op.buildSlice 70 1 #[(0, Operand.tmp 125)], type := 70, pos := "reasm.go:125", after := #[{ on := 5, ground := Ground.data }], guard := none }) rfl (fun K hK => ?_) AllReadyH.nil)
    · skip
      go_simp
      refine hK.out _ _ HP21a.out (fun hHeld => ?_)
      clear hK K
      try simp only [Act.put, List.setIfInBounds_toArray, List.set_cons_zero, List.set_cons_succ]
      refine wpAnyH_ready (rs := [6]) (by kernel_rfl) (by simp) ?_
      refine AllReadyH.cons (o := { dst := some 126, op := Op.buildSlice 70 1 #[(0, Operand.tmp 125)], type := 70, pos := "reasm.go:125", after := #[{ on := 5, ground := Ground.data }], guard := none }) rfl (fun K hK => ?_) AllReadyH.nil
      go_simp
      refine hK.out _ _ HP21b.out (fun hHeld => ?_)
      clear hK K
      try simp only [Act.put, List.setIfInBounds_toArray, List.set_cons_zero, List.set_cons_succ]
      refine wpAnyH_ready (rs := [7]) (by kernel_rfl) (by simp) ?_
      refine AllReadyH.cons (o := { dst := some 127, op := Op.call { callee := Callee.builtin Builtin.append, args := #[Operand.tmp 124, Operand.tmp 126], argTypes := #[70, 70] }, type := 70, pos := "reasm.go:125", after := #[{ on := 4, ground := Ground.data }, { on := 6, ground := Ground.data }], guard := none }) rfl (fun K hK => ?_) AllReadyH.nil
      refine step_append_v (.tmp 124) (.tmp 126) 70 _ _ rfl rfl rfl rfl ⟨_, w10, HAPP.out, ?_⟩
      refine hK.out _ _ HP21c.out (fun hHeld => ?_)
      clear hK K
      try simp only [Act.put, List.setIfInBounds_toArray, List.set_cons_zero, List.set_cons_succ]
      refine wpAnyH_take (i := 8) (oi := { dst := some 128, op := Op.nilCheck (Operand.tmp 120), type := 0, pos := "reasm.go:125", after := #[{ on := 0, ground := Ground.data }, { on := 0, ground := Ground.phase }, { on := 1, ground := Ground.phase }, { on := 2, ground := Ground.phase }, { on := 3, ground := Ground.phase }, { on := 4, ground := Ground.phase }, { on := 5, ground := Ground.phase }, { on := 6, ground := Ground.phase }, { on := 7, ground := Ground.phase }], guard := none }) (v := ?_) rfl (by kernel_rfl) (by kernel_rfl) (by kernel_rfl) (fun _ _ _ h => h) (Or.inl ⟨by rfl, ?_⟩) (by assumption) ?_
      rotate_left 1
      · intro w hSw
        go_simp
        first | done | with_reducible rfl
      try simp only [Act.put, List.setIfInBounds_toArray, List.set_cons_zero, List.set_cons_succ]
      refine wpAnyH_take (i := 9) (oi := { dst := some 129, op := Op.fieldAddr 72 (Operand.tmp 128) 0, type := 0, pos := "reasm.go:125", after := #[{ on := 8, ground := Ground.data }, { on := 0, ground := Ground.phase }, { on := 1, ground := Ground.phase }, { on := 2, ground := Ground.phase }, { on := 3, ground := Ground.phase }, { on := 4, ground := Ground.phase }, { on := 5, ground := Ground.phase }, { on := 6, ground := Ground.phase }, { on := 7, ground := Ground.phase }], guard := none }) (v := ?_) rfl (by kernel_rfl) (by kernel_rfl) (by kernel_rfl) (fun _ _ _ h => h) (Or.inl ⟨by rfl, ?_⟩) (by assumption) ?_
      rotate_left 1
      · intro w hSw
        go_simp
        first | done | with_reducible rfl
      try simp only [Act.put, List.setIfInBounds_toArray, List.set_cons_zero, List.set_cons_succ]
      refine wpAnyH_ready (rs := [10]) (by kernel_rfl) (by simp) ?_
      refine AllReadyH.cons (o := { dst := none, op := Op.store 70 (Operand.tmp 129) (Operand.tmp 127), type := 0, pos := "reasm.go:125", after := #[{ on := 9, ground := Ground.data }, { on := 7, ground := Ground.data }, { on := 7, ground := Ground.chain }, { on := 0, ground := Ground.phase }, { on := 1, ground := Ground.phase }, { on := 2, ground := Ground.phase }, { on := 3, ground := Ground.phase }, { on := 4, ground := Ground.phase }, { on := 5, ground := Ground.phase }, { on := 6, ground := Ground.phase }, { on := 7, ground := Ground.phase }], guard := none }) rfl (fun K hK => ?_) AllReadyH.nil
      go_simp
      refine hK.out _ _ HP21d.out (fun hHeld => ?_)
      clear hK K
      try simp only [Act.put, List.setIfInBounds_toArray, List.set_cons_zero, List.set_cons_succ]
      refine wpAnyH_done (by kernel_rfl) ?_ _
      simp only [Exit.then]
      go_wp2_with (fail)
      go_meet
      exact ⟨_, rfl, rfl⟩
    · skip
      go_simp
      refine hK.out _ _ HP21b.out (fun hHeld => ?_)
      clear hK K
      try simp only [Act.put, List.setIfInBounds_toArray, List.set_cons_zero, List.set_cons_succ]
      refine wpAnyH_ready (rs := [4]) (by kernel_rfl) (by simp) ?_
      refine AllReadyH.cons (o := { dst := some 124, op := Op.load 70 (Operand.tmp 123), type := 70, pos := "reasm.go:125", after := #[{ on := 3, ground := Ground.data }], guard := none }) rfl (fun K hK => ?_) AllReadyH.nil
      go_simp
      refine hK.out _ _ HP21b.out (fun hHeld => ?_)
      clear hK K
      try simp only [Act.put, List.setIfInBounds_toArray, List.set_cons_zero, List.set_cons_succ]
      refine wpAnyH_ready (rs := [7]) (by kernel_rfl) (by simp) ?_
      refine AllReadyH.cons (o := { dst := some 127, op := Op.call { callee := Callee.builtin Builtin.append, args := #[Operand.tmp 124, Operand.tmp 126], argTypes := #[70, 70] }, type := 70, pos := "reasm.go:125", after := #[{ on := 4, ground := Ground.data }, { on := 6, ground := Ground.data }], guard := none }) rfl (fun K hK => ?_) AllReadyH.nil
      refine step_append_v (.tmp 124) (.tmp 126) 70 _ _ rfl rfl rfl rfl ⟨_, w10, HAPP.out, ?_⟩
      refine hK.out _ _ HP21c.out (fun hHeld => ?_)
      clear hK K
      try simp only [Act.put, List.setIfInBounds_toArray, List.set_cons_zero, List.set_cons_succ]
      refine wpAnyH_take (i := 8) (oi := { dst := some 128, op := Op.nilCheck (Operand.tmp 120), type := 0, pos := "reasm.go:125", after := #[{ on := 0, ground := Ground.data }, { on := 0, ground := Ground.phase }, { on := 1, ground := Ground.phase }, { on := 2, ground := Ground.phase }, { on := 3, ground := Ground.phase }, { on := 4, ground := Ground.phase }, { on := 5, ground := Ground.phase }, { on := 6, ground := Ground.phase }, { on := 7, ground := Ground.phase }], guard := none }) (v := ?_) rfl (by kernel_rfl) (by kernel_rfl) (by kernel_rfl) (fun _ _ _ h => h) (Or.inl ⟨by rfl, ?_⟩) (by assumption) ?_
      rotate_left 1
      · intro w hSw
        go_simp
        first | done | with_reducible rfl
      try simp only [Act.put, List.setIfInBounds_toArray, List.set_cons_zero, List.set_cons_succ]
      refine wpAnyH_take (i := 9) (oi := { dst := some 129, op := Op.fieldAddr 72 (Operand.tmp 128) 0, type := 0, pos := "reasm.go:125", after := #[{ on := 8, ground := Ground.data }, { on := 0, ground := Ground.phase }, { on := 1, ground := Ground.phase }, { on := 2, ground := Ground.phase }, { on := 3, ground := Ground.phase }, { on := 4, ground := Ground.phase }, { on := 5, ground := Ground.phase }, { on := 6, ground := Ground.phase }, { on := 7, ground := Ground.phase }], guard := none }) (v := ?_) rfl (by kernel_rfl) (by kernel_rfl) (by kernel_rfl) (fun _ _ _ h => h) (Or.inl ⟨by rfl, ?_⟩) (by assumption) ?_
      rotate_left 1
      · intro w hSw
        go_simp
        first | done | with_reducible rfl
      try simp only [Act.put, List.setIfInBounds_toArray, List.set_cons_zero, List.set_cons_succ]
      refine wpAnyH_ready (rs := [10]) (by kernel_rfl) (by simp) ?_
      refine AllReadyH.cons (o := { dst := none, op := Op.store 70 (Operand.tmp 129) (Operand.tmp 127), type := 0, pos := "reasm.go:125", after := #[{ on := 9, ground := Ground.data }, { on := 7, ground := Ground.data }, { on := 7, ground := Ground.chain }, { on := 0, ground := Ground.phase }, { on := 1, ground := Ground.phase }, { on := 2, ground := Ground.phase }, { on := 3, ground := Ground.phase }, { on := 4, ground := Ground.phase }, { on := 5, ground := Ground.phase }, { on := 6, ground := Ground.phase }, { on := 7, ground := Ground.phase }], guard := none }) rfl (fun K hK => ?_) AllReadyH.nil
      go_simp
      refine hK.out _ _ HP21d.out (fun hHeld => ?_)
      clear hK K
      try simp only [Act.put, List.setIfInBounds_toArray, List.set_cons_zero, List.set_cons_succ]
      refine wpAnyH_done (by kernel_rfl) ?_ _
      simp only [Exit.then]
      go_wp2_with (fail)
      go_meet
      exact ⟨_, rfl, rfl⟩
  case rest =>
  obtain ⟨w11, hwe, hw11⟩ := hcut
  replace hwe := hwe.symm
  subst hwe
  have HW := hw11.out
  have F11 : w11.heap[p]? = some (.cells #[.slice (some ⟨G2, 0, none⟩) (n + 1) cap2, .bool false, .int .i64 (ag : Nat)] 72 (0, 0)) ∧ PRow 0 (.slice (some ⟨G2, 0, none⟩) (n + 1) cap2) (ps ++ [P]) w11 := by rw [HW]; exact HW11.out
  have K11 : W9.heap.size ≤ w11.heap.size ∧ ∀ b, b < W9.heap.size → b ≠ p → (row' k).ownBlock ≠ some b → w11.heap[b]? = W9.heap[b]? := by rw [HW]; exact HK11.out
  have X11 : w11.os = W9.os ∧ w11.tape = W9.tape ∧ w11.output = W9.output := by rw [HW]; exact HX11.out
  have hl1 : (ps ++ [P]).length = n + 1 := by rw [List.length_append, HNN.out]; rfl
  have SR := psort_any 0 G2 cap2 (ps ++ [P]) w11 (by rw [hl1]; exact F11.2) (by rw [hl1]; omega)
  rw [hl1] at SR
  have HSR := Lib.hid SR
  have HF11 := Lib.hid F11
  have HKK := Lib.hid K11
  have HXX := Lib.hid X11
  have HL1 := Lib.hid hl1
  have e0 := cellAt (i := 0) (v := .slice (some ⟨G2, 0, none⟩) (n + 1) cap2) F11.1 rfl
  clear HW F11 K11 X11 SR hl1 hw11 u0 uA uB f0
  go_upto_region 23 with (go_at_call 35; (with_reducible refine HSR.out.mono ?_); rintro e w12 ⟨rfl, ⟨ps', hp', hs', hr'⟩, hsv⟩; have HPE := Lib.hid hp'; have HSO := Lib.hid hs'; have HRO := Lib.hid hr'; have HSV := Lib.hid hsv; clear hp' hs' hr' hsv)
  have hOKP : PcOk P := ⟨(getE_ok HOKR.out).1, HOB.out.symm⟩
  have hEO := eOf_ok HG.out k
  rw [← HPS.out] at hEO
  have hne : ∀ q ∈ ps, P.lo ≠ q.lo := fun q hq => by
    refine fit_ne hOKP (hEO.2.1 q hq) ?_
    have h1 := List.any_eq_false.1 HFBE.out.symm q hq
    simpa using h1
  have hins : ps' = insP P ps := ins_sorted hEO.1 (fun q hq => (hEO.2.1 q hq).ok) hOKP.ok hne HPE.out HSO.out
  have hpsm : ∀ q ∈ ps', Psm q ∧ q.h.ok := fun q hq => by
    rcases List.mem_append.1 (HPE.out.mem_iff.1 hq) with h1 | h1
    · exact HEPS.out q h1
    · rw [List.mem_singleton.1 h1]; exact ⟨HPSM.out, hOKP.ok⟩
  have hlen' : ps'.length = n + 1 := by rw [HPE.out.length_eq, HL1.out]
  have hpG : p ≠ G2 := fun e => by
    obtain ⟨cur, hc⟩ := HF11.out.2.obj (show (Value.slice (some ⟨G2, 0, none⟩) (n + 1) cap2).ownBlock = some G2 from rfl)
    rw [← e, HF11.out.1] at hc; simp at hc
  have hE12 : w12.heap[p]? = some (.cells #[.slice (some ⟨G2, 0, none⟩) (n + 1) cap2, .bool false, .int .i64 (ag : Nat)] 72 (0, 0)) := (HSV.out.block p (heap_lt HF11.out.1) (by simpa using hpG)).trans HF11.out.1
  have WH := Lib.hid (whole_any p false (ag : Nat) (.slice (some ⟨G2, 0, none⟩) (n + 1) cap2) ps' w12 hE12 HRO.out (fun q hq => (hpsm q hq).1) (by omega))
  have hlp : lenP ps' = P.s.length + lenP ps := by rw [hins, lenP_ins]
  have hpb := put_bts HG.out ⟨k, insP P ps, false, ag⟩
  have hpb2 := put_bts HG.out ⟨k, [], true, ag⟩
  simp only at hpb hpb2
  rw [← hEO.2.2, ← hins] at hpb
  rw [← hEO.2.2] at hpb2
  have HINS := Lib.hid hins
  have HQ1 : Hid (q = btsL (putL L ⟨k, ps', false, ag⟩)) := Lib.hid (by have := HQ.out; omega)
  have HQ2 : Hid (q - lenP ps' = btsL (putL L ⟨k, [], true, ag⟩) ∧ lenP ps' ≤ q) := Lib.hid (by
    have h1 := HQ.out
    have h2 : lenP ([] : List Pc) = 0 := rfl
    have h3 : lenP ps ≤ btsL L := by omega
    omega)
  have HADD2 : Hid (addT st L x.data.toList = (if wholeB ps' = true then (finE ps', putL L ⟨k, [], true, ag⟩) else (([], 10), putL L ⟨k, ps', false, ag⟩))) := Lib.hid (by rw [HADD.out, hins]; rfl)
  have HPSM' := Lib.hid hpsm
  have HLEN' := Lib.hid hlen'
  have HTP : Hid (Tb ≠ p ∧ (row' k).ownBlock ≠ some Tb ∧ Tb < W9.heap.size ∧ Tb ≠ G2 ∧ p < W9.heap.size) := Lib.hid (by
    have h1 := T9.out.bd.avL _ (eOf_mem L k)
    rw [eOf_k, T9.out.at'] at h1
    have h2 := T9.out.bd.avR _ (eOf_mem L k) Tb
    rw [eOf_k] at h2
    have h3 : (row' k).ownBlock ≠ some Tb := fun e => h2 e (.inr (.inl rfl))
    refine ⟨fun e => h1 (by rw [← e]; exact .inr (.inl rfl)), h3, heap_lt T9.out.tb, fun e => ?_, heap_lt T9.out.ent⟩
    rcases HG2.out with h4 | h4
    · exact h3 (by rw [e]; exact h4)
    · have := heap_lt T9.out.tb; omega)
  have HKEEP : Hid (∀ b, b < W9.heap.size → b ≠ p → (row' k).ownBlock ≠ some b → w12.heap[b]? = W9.heap[b]?) := Lib.hid (fun b hb h1 h2 => by
    refine (HSV.out.block b (Nat.lt_of_lt_of_le hb HKK.out.1) ?_).trans (HKK.out.2 b hb h1 h2)
    simp only [List.mem_singleton]
    intro e
    rcases HG2.out with h4 | h4
    · exact h2 (by rw [e]; exact h4)
    · omega)
  have HT12 : Hid (w12.heap[Tb]? = some (.cells #[.int .i64 (st.ents : Nat), .int .i64 (st.bts : Nat), .int .i64 (st.life : Nat), .map (some M), .int .i64 (q : Nat)] 65 (0, 0))) := Lib.hid ((HKEEP.out Tb HTP.out.2.2.1 HTP.out.1 HTP.out.2.1).trans T9.out.tb)
  have HSZ : Hid (W9.heap.size ≤ w12.heap.size) := Lib.hid (Nat.le_trans HKK.out.1 HSV.out.size)
  have HFB9 : Hid (∀ b, F b → b < W9.heap.size ∧ b ≠ p ∧ b ≠ Tb ∧ (row' k).ownBlock ≠ some b) := Lib.hid (fun b hb => by
    have h1 := T9.out.bd.avL _ (eOf_mem L k)
    rw [eOf_k, T9.out.at'] at h1
    have h2 := T9.out.bd.avR _ (eOf_mem L k) b
    rw [eOf_k] at h2
    exact ⟨T9.out.bd.lt b (.inl hb), fun e => h1 (by rw [← e]; exact .inl hb), fun e => T9.out.fT (by rw [← e]; exact hb), fun e => h2 e (.inl hb)⟩)
  have HX12 : Hid (w12.os = W9.os ∧ w12.tape = W9.tape ∧ w12.output = W9.output) := Lib.hid ⟨HSV.out.os.trans HXX.out.1, HSV.out.tape.trans HXX.out.2.1, HSV.out.output.trans HXX.out.2.2⟩
  have HE12 := Lib.hid hE12
  obtain ⟨wb, hwb⟩ : ∃ b, b = wholeB ps' := ⟨_, rfl⟩
  rw [← hwb] at WH HADD2
  clear hOKP hEO hne hins hpsm hlen' hpG hE12 hlp hpb hpb2 e0 hwb
  cases wb with
  | false =>
    go_wp2_with (go_at_call 38; (with_reducible refine WH.out.mono ?_); rintro e w13 ⟨rfl, hb13⟩)
    go_ret2
    refine ⟨by rw [HADD2.out]; rfl, ⟨loc', updV row' k (.slice (some ⟨G2, 0, none⟩) (n + 1) cap2), ?_⟩, ?_⟩
    · rw [HADD2.out]
      refine T9.out.done ⟨k, ps', false, ag⟩ rfl (.slice (some ⟨G2, 0, none⟩) (n + 1) cap2) q HQ1.out (Nat.le_trans HSZ.out hb13.size) (fun b hb h1 _ h2 => (hb13.block b (Nat.lt_of_lt_of_le hb HSZ.out)).trans (HKEEP.out b hb h1 h2)) ((hb13.block _ (heap_lt HT12.out)).trans HT12.out) ((hb13.block _ (heap_lt HE12.out)).trans HE12.out) ?_ (fun b hb => ?_)
      · refine (show PRow 0 (.slice (some ⟨G2, 0, none⟩) (n + 1) cap2) ps' w12 from HRO.out).same (fun b hb => ?_)
        obtain ⟨cur, hc⟩ := (show PRow 0 (.slice (some ⟨G2, 0, none⟩) (n + 1) cap2) ps' w12 from HRO.out).obj hb
        exact hb13.block b (heap_lt hc)
      · have h1 : G2 = b := by injection hb
        rw [← h1]; exact HG2.out
    · refine HKP9.out.trans ⟨hb13.os.trans HX12.out.1, hb13.tape.trans HX12.out.2.1, hb13.output.trans HX12.out.2.2, Nat.le_trans HSZ.out hb13.size, fun b hb => ?_⟩
      obtain ⟨h1, h2, _, h3⟩ := HFB9.out b hb
      exact (hb13.block b (Nat.lt_of_lt_of_le h1 HSZ.out)).trans (HKEEP.out b h1 h2 h3)
  | true =>
    go_upto_region 25 with (go_at_call 38; (with_reducible refine WH.out.mono ?_); rintro e w13 ⟨rfl, hb13⟩; have HB13 := Lib.hid hb13; clear hb13)
    have hrw13 : PRow 0 (.slice (some ⟨G2, 0, none⟩) (n + 1) cap2) ps' w13 := (show PRow 0 (.slice (some ⟨G2, 0, none⟩) (n + 1) cap2) ps' w12 from HRO.out).same (fun b hb => by
      obtain ⟨cur, hc⟩ := (show PRow 0 (.slice (some ⟨G2, 0, none⟩) (n + 1) cap2) ps' w12 from HRO.out).obj hb
      exact HB13.out.block b (heap_lt hc))
    have FN := Lib.hid (finish_any Tb p M (st.ents : Nat) (st.bts : Nat) (st.life : Nat) (ag : Nat) q false (.slice (some ⟨G2, 0, none⟩) (n + 1) cap2) ps' w13 ((HB13.out.block _ (heap_lt HT12.out)).trans HT12.out) ((HB13.out.block _ (heap_lt HE12.out)).trans HE12.out) hrw13 (fun q hq => (HPSM'.out q hq).1) (fun q hq => (HPSM'.out q hq).2) (fun e => by have h1 := HLEN'.out; rw [e] at h1; simp at h1) (by have h1 := HLEN'.out; omega) HQ2.out.2 (by have h1 := HG.out.small; have h2 := HST.out.2; have h3 := HQ.out; have h4 := HPSM.out.len; omega))
    clear hrw13
    obtain ⟨rs, hrs⟩ : ∃ x, x = bs (finE ps').1 := ⟨_, rfl⟩
    obtain ⟨rc, hrc⟩ : ∃ x, x = (finE ps').2 := ⟨_, rfl⟩
    rw [← hrs, ← hrc] at FN
    have HRS := Lib.hid (And.intro hrs hrc)
    clear hrs hrc
    go_wp2_with (go_at_call 39; (with_reducible refine FN.out.mono ?_); rintro e w14 ⟨rfl, h1, h2, h3⟩; have HT14 := Lib.hid h1; have HE14 := Lib.hid h2; have HS14 := Lib.hid h3; clear h1 h2 h3)
    go_ret2
    have hkeep : ∀ b, b < W9.heap.size → b ≠ p → b ≠ Tb → (row' k).ownBlock ≠ some b → w14.heap[b]? = W9.heap[b]? := fun b hb h1 h2 h3 =>
      ((HS14.out.block b (Nat.lt_of_lt_of_le hb (Nat.le_trans HSZ.out HB13.out.size)) (by simp only [List.mem_cons, List.not_mem_nil, or_false]; omega)).trans (HB13.out.block b (Nat.lt_of_lt_of_le hb HSZ.out))).trans (HKEEP.out b hb h1 h3)
    have hsz : W9.heap.size ≤ w14.heap.size := Nat.le_trans HSZ.out (Nat.le_trans HB13.out.size HS14.out.size)
    refine ⟨by rw [HADD2.out, HRS.out.1, HRS.out.2]; rfl, ⟨loc', updV row' k (.slice none 0 0), ?_⟩, ?_⟩
    · rw [HADD2.out]
      exact T9.out.done ⟨k, [], true, ag⟩ rfl (.slice none 0 0) (q - lenP ps') HQ2.out.1 hsz hkeep HT14.out HE14.out (World.ownsRow_nil _ _ _ _) (fun b hb => by cases hb)
    · refine HKP9.out.trans ⟨HS14.out.os.trans (HB13.out.os.trans HX12.out.1), HS14.out.tape.trans (HB13.out.tape.trans HX12.out.2.1), HS14.out.output.trans (HB13.out.output.trans HX12.out.2.2), hsz, fun b hb => ?_⟩
      obtain ⟨h1, h2, h4, h3⟩ := HFB9.out b hb
      exact hkeep b h1 h2 h4 h3
end Go.Proofs.Ythdkbocokefdhaa
