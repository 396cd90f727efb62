import Derived.Test.YtmijfhfjhbckdaaRefC
import Derived.Laws.Externs
/- The closures that read what stands behind a kind. -/
namespace Go.Proofs.Ytmijfhfjhbckdaa
set_option maxRecDepth 100000
open Go.RowKit
theorem from_run (b : Nat) (w : World) : (callFunc 64 #[.int .u64 b]).run Try.prog w = .ok (.value (.float .f64 b)) w := by
  rw [run_callFunc_extern (e := Extern.MathFloatBits.float64frombits) Try.func64 (by kernel_rfl) (by kernel_rfl) (by kernel_rfl) (by kernel_rfl)]
  rfl
theorem store_float (w : World) (a : Addr) (b : Nat) (m : Mode) : (store a (.float .f64 b) m).run Try.prog w = stored Try.prog w a (.float .f64 b) m := run_store Try.prog w a _ m rfl
/-- an act's cells: of a kind, and what stands behind it -/
def actC (k : Nat) : BodyP → Array Value
  | .pkt p => #[.int .i64 (k : Nat), .string (bs p), .int .i64 0, .string ⟨#[]⟩, .float .f64 0, .int .i64 0, .bool false, .bool false, .int .u32 0, .bool false, .int .i64 0, .int .i64 0, .int .i64 0, .int .i64 0]
  | .bk id ad x => #[.int .i64 (k : Nat), .string ⟨#[]⟩, .int .i64 (id : Nat), .string (bs ad), .float .f64 x, .int .i64 0, .bool false, .bool false, .int .u32 0, .bool false, .int .i64 0, .int .i64 0, .int .i64 0, .int .i64 0]
  | .num n => #[.int .i64 (k : Nat), .string ⟨#[]⟩, .int .i64 0, .string ⟨#[]⟩, .float .f64 0, .int .i64 0, .bool false, .bool false, .int .u32 0, .bool false, .int .i64 0, .int .i64 0, .int .i64 (n : Nat), .int .i64 0]
  | .tun t => #[.int .i64 (k : Nat), .string ⟨#[]⟩, .int .i64 0, .string ⟨#[]⟩, .float .f64 0, .int .i64 (t.mode : Nat), .bool (t.bits % 2 == 1), .bool (t.bits / 2 % 2 == 1), .int .u32 (t.value : Nat), .bool (t.bits / 4 % 2 == 1), .int .i64 (t.ttl : Nat), .int .i64 (t.tos : Nat), .int .i64 0, .int .i64 0]
  | .mov n dst => #[.int .i64 (k : Nat), .string ⟨#[]⟩, .int .i64 0, .string ⟨#[]⟩, .float .f64 0, .int .i64 0, .bool false, .bool false, .int .u32 0, .bool false, .int .i64 0, .int .i64 0, .int .i64 (n : Nat), .int .i64 (dst : Nat)]
  | .non => #[.int .i64 (k : Nat), .string ⟨#[]⟩, .int .i64 0, .string ⟨#[]⟩, .float .f64 0, .int .i64 0, .bool false, .bool false, .int .u32 0, .bool false, .int .i64 0, .int .i64 0, .int .i64 0, .int .i64 0]
structure ASt (b A : Nat) (w0 : World) (s : ByteArray) (l : List UInt8) (C : Array Value) (w : World) : Prop where
  rd : Rl b s l w
  hA : w.heap[A]? = some (.cells C 47 (0, 0))
  ne : A ≠ b
  sv : Save [b, A] w0 w
section
variable {b A : Nat} {w0 w w' : World} {s : ByteArray} {l l' : List UInt8} {C : Array Value}
theorem ASt.but (h : ASt b A w0 s l C w) (hr : Rl b s l' w') (hb : But b w w') : ASt b A w0 s l' C w' :=
  ⟨hr, (hb.block _ (heap_lt h.hA) h.ne).trans h.hA, h.ne, h.sv.trans (hb.save (by simp))⟩
theorem ASt.set (h : ASt b A w0 s l C w) {i : Nat} (hi : i < C.size) (v : Value) : ASt b A w0 s l (C.set i v) (w.setCell ⟨A, i, none⟩ v) :=
  ⟨h.rd.same (Below.heap_setCell _ _ _ _ (fun e => h.ne e.symm)), heap_set h.hA hi v, h.ne, h.sv.set (.inl (by simp)) v⟩
theorem ASt.no (h : ASt b A w0 s l C w) (hb : But b w w') : Save [b, A] w0 w' := h.sv.trans (hb.save (by simp))
end
def APost (k b A : Nat) (s : ByteArray) (l : List UInt8) (w0 : World) (e : Ending) (w' : World) : Prop :=
  (∃ bd r, getP k l = some (bd, r) ∧ e = .returned (.tuple #[]) ∧ ASt b A w0 s r (actC k bd) w') ∨ (getP k l = none ∧ e = .panicked (stopped 2) ∧ Save [b, A] w0 w')
theorem get_num {k : Nat} (l : List UInt8) (hk : k = 2 ∨ k = 3 ∨ k = 5 ∨ k = 6 ∨ k = 7) : getP k l = if l.length < 2 then none else some (.num (bv (l.take 2)), l.drop 2) := by
  unfold getP
  rcases hk with rfl | rfl | rfl | rfl | rfl <;> rfl
theorem get_pkt {k : Nat} (l : List UInt8) (hk : k = 0 ∨ k = 9) : getP k l = if l.length < 2 then none else if (l.drop 2).length < bv (l.take 2) then none else some (.pkt ((l.drop 2).take (bv (l.take 2))), (l.drop 2).drop (bv (l.take 2))) := by
  unfold getP
  rcases hk with rfl | rfl <;> rfl
set_option maxHeartbeats 2000000 in
theorem num2_any (k b A : Nat) (w0 w : World) (s : ByteArray) (l : List UInt8) (hk : k = 2 ∨ k = 3 ∨ k = 5 ∨ k = 6 ∨ k = 7) (hs : s.size ≤ MX) (h : ASt b A w0 s l (actC k .non) w) : Calls Try.prog 77 #[.pointer (some ⟨b, 0, none⟩), .pointer (some ⟨A, 0, none⟩)] w (APost k b A s l w0) := by
  have H0 := Lib.hid h
  by_cases n1 : 2 ≤ (l).length
  · obtain ⟨n, hn⟩ : ∃ x, x = bv (l.take 2) := ⟨_, rfl⟩
    have U : Hid (Calls Try.prog 23 #[.pointer (some ⟨b, 0, none⟩)] w fun e w' => e = .returned (.int .i64 (n : Nat)) ∧ Rl b s ((l).drop 2) w' ∧ But b w w') := by
      show Calls _ _ _ _ _; rw [hn]; exact u16_l b s _ w H0.out.rd (by omega) hs
    have HL1 := Lib.hid hn
    have N1 := Lib.hid n1
    clear hn n1
    go_enter Try.func77, Try.ntmps77
    go_wp2_with (fail)
    refine U.out.mono ?_
    clear U
    rintro e w1 ⟨rfl, hr, hb⟩
    have H1 := Lib.hid (H0.out.but hr hb)
    clear hr hb
    have k12 := cellAt (i := 12) (v := .int .i64 0) H1.out.hA rfl
    have f12 := Lib.frozen_of_heap H1.out.hA 12
    go_wp2_with (fail)
    go_end0
    have h9 := (H1.out.set (i := 12) (by simp [actC]) (.int .i64 (n : Nat)))
    refine .inl ⟨.num n, l.drop 2, ?_, rfl, ?_⟩
    · rw [get_num l hk, if_neg (by have := N1.out; omega), HL1.out]
    · exact h9
  · have U : Hid (Calls Try.prog 23 #[.pointer (some ⟨b, 0, none⟩)] w fun e w' => e = .panicked (stopped 2) ∧ Rl b s (l) w' ∧ But b w w') := u16_l_no b s _ w H0.out.rd (by omega) hs
    go_enter Try.func77, Try.ntmps77
    have N1 := Lib.hid n1
    clear n1
    go_wp2_with (fail)
    refine U.out.mono ?_
    rintro e v ⟨rfl, hr, hb⟩
    refine ⟨rfl, .inr ⟨?_, rfl, H0.out.no hb⟩⟩
    rw [get_num l hk, if_pos (by have := N1.out; omega)]
set_option maxHeartbeats 2000000 in
theorem mov2_any (b A : Nat) (w0 w : World) (s : ByteArray) (l : List UInt8) (hs : s.size ≤ MX) (h : ASt b A w0 s l (actC 8 .non) w) : Calls Try.prog 53 #[.pointer (some ⟨b, 0, none⟩), .pointer (some ⟨A, 0, none⟩)] w (APost 8 b A s l w0) := by
  have H0 := Lib.hid h
  by_cases n1 : 2 ≤ (l).length
  · obtain ⟨n, hn⟩ : ∃ x, x = bv (l.take 2) := ⟨_, rfl⟩
    have U : Hid (Calls Try.prog 23 #[.pointer (some ⟨b, 0, none⟩)] w fun e w' => e = .returned (.int .i64 (n : Nat)) ∧ Rl b s ((l).drop 2) w' ∧ But b w w') := by
      show Calls _ _ _ _ _; rw [hn]; exact u16_l b s _ w H0.out.rd (by omega) hs
    have HL1 := Lib.hid hn
    have N1 := Lib.hid n1
    clear hn n1
    go_enter Try.func53, Try.ntmps53
    go_wp2_with (fail)
    refine U.out.mono ?_
    clear U
    rintro e w1 ⟨rfl, hr, hb⟩
    have H1 := Lib.hid (H0.out.but hr hb)
    clear hr hb
    by_cases n2 : 2 ≤ (l.drop 2).length
    · obtain ⟨dst, hdst⟩ : ∃ x, x = bv ((l.drop 2).take 2) := ⟨_, rfl⟩
      have U : Hid (Calls Try.prog 23 #[.pointer (some ⟨b, 0, none⟩)] w1 fun e w' => e = .returned (.int .i64 (dst : Nat)) ∧ Rl b s ((l.drop 2).drop 2) w' ∧ But b w1 w') := by
        show Calls _ _ _ _ _; rw [hdst]; exact u16_l b s _ w1 H1.out.rd (by omega) hs
      have HL2 := Lib.hid hdst
      have N2 := Lib.hid n2
      clear hdst n2
      go_wp2_with (fail)
      refine U.out.mono ?_
      clear U
      rintro e w2 ⟨rfl, hr, hb⟩
      have H2 := Lib.hid (H1.out.but hr hb)
      clear hr hb
      have k12 := cellAt (i := 12) (v := .int .i64 0) H2.out.hA rfl
      have f12 := Lib.frozen_of_heap H2.out.hA 12
      have k13 := cellAt (i := 13) (v := .int .i64 0) H2.out.hA rfl
      have f13 := Lib.frozen_of_heap H2.out.hA 13
      go_wp2_with (fail)
      go_end0
      have h9 := ((H2.out.set (i := 12) (by simp [actC]) (.int .i64 (n : Nat))).set (i := 13) (by simp [actC]) (.int .i64 (dst : Nat)))
      refine .inl ⟨.mov n dst, (l.drop 2).drop 2, ?_, rfl, ?_⟩
      · have e1 := N1.out
        have e2 := N2.out
        simp only [List.length_drop] at e2
        have e3 : ¬ l.length < 4 := by omega
        simp only [getP, HL1.out, HL2.out, List.drop_drop]
        simp [e3]
      · exact h9
    · have U : Hid (Calls Try.prog 23 #[.pointer (some ⟨b, 0, none⟩)] w1 fun e w' => e = .panicked (stopped 2) ∧ Rl b s (l.drop 2) w' ∧ But b w1 w') := u16_l_no b s _ w1 H1.out.rd (by omega) hs
      have N2 := Lib.hid n2
      clear n2
      go_wp2_with (fail)
      refine U.out.mono ?_
      rintro e v ⟨rfl, hr, hb⟩
      refine ⟨rfl, .inr ⟨?_, rfl, H1.out.no hb⟩⟩
      have e1 := N1.out
      have e2 := N2.out
      simp only [List.length_drop] at e2
      have e3 : l.length < 4 := by omega
      simp [getP, e3]
  · have U : Hid (Calls Try.prog 23 #[.pointer (some ⟨b, 0, none⟩)] w fun e w' => e = .panicked (stopped 2) ∧ Rl b s (l) w' ∧ But b w w') := u16_l_no b s _ w H0.out.rd (by omega) hs
    go_enter Try.func53, Try.ntmps53
    have N1 := Lib.hid n1
    clear n1
    go_wp2_with (fail)
    refine U.out.mono ?_
    rintro e v ⟨rfl, hr, hb⟩
    refine ⟨rfl, .inr ⟨?_, rfl, H0.out.no hb⟩⟩
    have e1 := N1.out
    have e3 : l.length < 4 := by omega
    simp [getP, e3]
set_option maxHeartbeats 2000000 in
theorem pkt2_any (k b A : Nat) (w0 w : World) (s : ByteArray) (l : List UInt8) (hk : k = 0 ∨ k = 9) (hs : s.size ≤ MX) (h : ASt b A w0 s l (actC k .non) w) : Calls Try.prog 69 #[.pointer (some ⟨b, 0, none⟩), .pointer (some ⟨A, 0, none⟩)] w (APost k b A s l w0) := by
  have H0 := Lib.hid h
  by_cases n1 : 2 ≤ (l).length
  · obtain ⟨n, hn⟩ : ∃ x, x = bv (l.take 2) := ⟨_, rfl⟩
    have U : Hid (Calls Try.prog 23 #[.pointer (some ⟨b, 0, none⟩)] w fun e w' => e = .returned (.int .i64 (n : Nat)) ∧ Rl b s ((l).drop 2) w' ∧ But b w w') := by
      show Calls _ _ _ _ _; rw [hn]; exact u16_l b s _ w H0.out.rd (by omega) hs
    have HL1 := Lib.hid hn
    have N1 := Lib.hid n1
    clear hn n1
    go_enter Try.func69, Try.ntmps69
    go_wp2_with (fail)
    refine U.out.mono ?_
    clear U
    rintro e w1 ⟨rfl, hr, hb⟩
    have H1 := Lib.hid (H0.out.but hr hb)
    clear hr hb
    by_cases n2 : n ≤ (l.drop 2).length
    · have N2' := n2
      obtain ⟨p, hp⟩ : ∃ x, x = bs ((l.drop 2).take n) := ⟨_, rfl⟩
      have U : Hid (Calls Try.prog 22 #[.pointer (some ⟨b, 0, none⟩), .int .i64 (n : Nat)] w1 fun e w' => e = .returned (.string p) ∧ Rl b s ((l.drop 2).drop n) w' ∧ But b w1 w') := by
        show Calls _ _ _ _ _; rw [hp]; exact take_l b n s _ w1 H1.out.rd N2' hs
      have HL2 := Lib.hid hp
      have N2 := Lib.hid n2
      clear hp n2
      go_wp2_with (fail)
      refine U.out.mono ?_
      clear U
      rintro e w2 ⟨rfl, hr, hb⟩
      have H2 := Lib.hid (H1.out.but hr hb)
      clear hr hb
      have k1 := cellAt (i := 1) (v := .string ⟨#[]⟩) H2.out.hA rfl
      have f1 := Lib.frozen_of_heap H2.out.hA 1
      go_wp2_with (fail)
      go_end0
      have h9 := (H2.out.set (i := 1) (by simp [actC]) (.string p))
      refine .inl ⟨.pkt ((l.drop 2).take n), (l.drop 2).drop n, ?_, rfl, ?_⟩
      · rw [get_pkt l hk, if_neg (by have := N1.out; omega), ← HL1.out, if_neg (by have := N2.out; omega)]
      · unfold actC; simp only; rw [← HL2.out]; exact h9
    · have U : Hid (Calls Try.prog 22 #[.pointer (some ⟨b, 0, none⟩), .int .i64 (n : Nat)] w1 fun e w' => e = .panicked (stopped 2) ∧ Rl b s (l.drop 2) w' ∧ But b w1 w') := take_l_no b n s _ w1 H1.out.rd (.inr (by omega)) hs
      have N2 := Lib.hid n2
      clear n2
      go_wp2_with (fail)
      refine U.out.mono ?_
      rintro e v ⟨rfl, hr, hb⟩
      refine ⟨rfl, .inr ⟨?_, rfl, H1.out.no hb⟩⟩
      rw [get_pkt l hk, if_neg (by have := N1.out; omega), ← HL1.out, if_pos (by have := N2.out; omega)]
  · have U : Hid (Calls Try.prog 23 #[.pointer (some ⟨b, 0, none⟩)] w fun e w' => e = .panicked (stopped 2) ∧ Rl b s (l) w' ∧ But b w w') := u16_l_no b s _ w H0.out.rd (by omega) hs
    go_enter Try.func69, Try.ntmps69
    have N1 := Lib.hid n1
    clear n1
    go_wp2_with (fail)
    refine U.out.mono ?_
    rintro e v ⟨rfl, hr, hb⟩
    refine ⟨rfl, .inr ⟨?_, rfl, H0.out.no hb⟩⟩
    rw [get_pkt l hk, if_pos (by have := N1.out; omega)]
set_option maxHeartbeats 2000000 in
theorem add2_any (b A : Nat) (w0 w : World) (s : ByteArray) (l : List UInt8) (hs : s.size ≤ MX) (h : ASt b A w0 s l (actC 1 .non) w) : Calls Try.prog 73 #[.pointer (some ⟨b, 0, none⟩), .pointer (some ⟨A, 0, none⟩)] w (APost 1 b A s l w0) := by
  have fr := from_run
  have sf := store_float
  have H0 := Lib.hid h
  by_cases n1 : 2 ≤ (l).length
  · obtain ⟨id, hid⟩ : ∃ x, x = bv (l.take 2) := ⟨_, rfl⟩
    have U : Hid (Calls Try.prog 23 #[.pointer (some ⟨b, 0, none⟩)] w fun e w' => e = .returned (.int .i64 (id : Nat)) ∧ Rl b s ((l).drop 2) w' ∧ But b w w') := by
      show Calls _ _ _ _ _; rw [hid]; exact u16_l b s _ w H0.out.rd (by omega) hs
    have HL1 := Lib.hid hid
    have N1 := Lib.hid n1
    clear hid n1
    go_enter Try.func73, Try.ntmps73
    go_wp2_with (fail)
    refine U.out.mono ?_
    clear U
    rintro e w1 ⟨rfl, hr, hb⟩
    have H1 := Lib.hid (H0.out.but hr hb)
    clear hr hb
    by_cases n2 : 4 ≤ (l.drop 2).length
    · obtain ⟨p, hp⟩ : ∃ x, x = bs ((l.drop 2).take 4) := ⟨_, rfl⟩
      have U : Hid (Calls Try.prog 22 #[.pointer (some ⟨b, 0, none⟩), .int .i64 4] w1 fun e w' => e = .returned (.string p) ∧ Rl b s ((l.drop 2).drop 4) w' ∧ But b w1 w') := by
        show Calls _ _ _ _ _; rw [hp]; exact take_l b 4 s _ w1 H1.out.rd (by omega) hs
      have HL2 := Lib.hid hp
      have N2 := Lib.hid n2
      clear hp n2
      go_wp2_with (fail)
      refine U.out.mono ?_
      clear U
      rintro e w2 ⟨rfl, hr, hb⟩
      have H2 := Lib.hid (H1.out.but hr hb)
      clear hr hb
      by_cases n3 : 8 ≤ ((l.drop 2).drop 4).length
      · obtain ⟨x, hx⟩ : ∃ x, x = bv (((l.drop 2).drop 4).take 8) := ⟨_, rfl⟩
        have U : Hid (Calls Try.prog 74 #[.pointer (some ⟨b, 0, none⟩)] w2 fun e w' => e = .returned (.int .u64 (x : Nat)) ∧ Rl b s (((l.drop 2).drop 4).drop 8) w' ∧ But b w2 w') := by
          show Calls _ _ _ _ _; rw [hx]; exact u64_l b s _ w2 H2.out.rd (by omega) hs
        have HL3 := Lib.hid hx
        have N3 := Lib.hid n3
        clear hx n3
        go_wp2_with (fail)
        refine U.out.mono ?_
        clear U
        rintro e w3 ⟨rfl, hr, hb⟩
        have H3 := Lib.hid (H2.out.but hr hb)
        clear hr hb
        have k2 := cellAt (i := 2) (v := .int .i64 0) H3.out.hA rfl
        have f2 := Lib.frozen_of_heap H3.out.hA 2
        have k3 := cellAt (i := 3) (v := .string ⟨#[]⟩) H3.out.hA rfl
        have f3 := Lib.frozen_of_heap H3.out.hA 3
        have k4 := cellAt (i := 4) (v := .float .f64 0) H3.out.hA rfl
        have f4 := Lib.frozen_of_heap H3.out.hA 4
        go_wp2_with (fail)
        go_end0
        have h9 := (((H3.out.set (i := 2) (by simp [actC]) (.int .i64 (id : Nat))).set (i := 3) (by simp [actC]) (.string p)).set (i := 4) (by simp [actC]) (.float .f64 x))
        refine .inl ⟨.bk id ((l.drop 2).take 4) x, ((l.drop 2).drop 4).drop 8, ?_, rfl, ?_⟩
        · have e1 := N1.out
          have e2 := N2.out
          have e4 := N3.out
          simp only [List.length_drop] at e2 e4
          have e3 : ¬ l.length < 14 := by omega
          simp only [getP, HL1.out, HL3.out, List.drop_drop]
          simp [e3]
        · unfold actC; simp only; rw [← HL2.out]; exact h9
      · have U : Hid (Calls Try.prog 74 #[.pointer (some ⟨b, 0, none⟩)] w2 fun e w' => e = .panicked (stopped 2) ∧ Rl b s ((l.drop 2).drop 4) w' ∧ But b w2 w') := u64_l_no b s _ w2 H2.out.rd (by omega) hs
        have N3 := Lib.hid n3
        clear n3
        go_wp2_with (fail)
        refine U.out.mono ?_
        rintro e v ⟨rfl, hr, hb⟩
        refine ⟨rfl, .inr ⟨?_, rfl, H2.out.no hb⟩⟩
        have e1 := N1.out
        have e2 := N2.out
        simp only [List.length_drop] at e2
        have e4 := N3.out
        simp only [List.length_drop] at e4
        have e3 : l.length < 14 := by omega
        simp [getP, e3]
    · have U : Hid (Calls Try.prog 22 #[.pointer (some ⟨b, 0, none⟩), .int .i64 4] w1 fun e w' => e = .panicked (stopped 2) ∧ Rl b s (l.drop 2) w' ∧ But b w1 w') := take_l_no b 4 s _ w1 H1.out.rd (.inr (by omega)) hs
      have N2 := Lib.hid n2
      clear n2
      go_wp2_with (fail)
      refine U.out.mono ?_
      rintro e v ⟨rfl, hr, hb⟩
      refine ⟨rfl, .inr ⟨?_, rfl, H1.out.no hb⟩⟩
      have e1 := N1.out
      have e2 := N2.out
      simp only [List.length_drop] at e2
      have e3 : l.length < 14 := by omega
      simp [getP, e3]
  · have U : Hid (Calls Try.prog 23 #[.pointer (some ⟨b, 0, none⟩)] w fun e w' => e = .panicked (stopped 2) ∧ Rl b s (l) w' ∧ But b w w') := u16_l_no b s _ w H0.out.rd (by omega) hs
    go_enter Try.func73, Try.ntmps73
    have N1 := Lib.hid n1
    clear n1
    go_wp2_with (fail)
    refine U.out.mono ?_
    rintro e v ⟨rfl, hr, hb⟩
    refine ⟨rfl, .inr ⟨?_, rfl, H0.out.no hb⟩⟩
    have e1 := N1.out
    have e3 : l.length < 14 := by omega
    simp [getP, e3]
theorem non2_any (b A : Nat) (w0 w : World) (s : ByteArray) (l : List UInt8) (h : ASt b A w0 s l (actC 10 .non) w) : Calls Try.prog 59 #[.pointer (some ⟨b, 0, none⟩), .pointer (some ⟨A, 0, none⟩)] w (APost 10 b A s l w0) := by
  go_enter Try.func59, Try.ntmps59
  go_wp2_with (fail)
  go_end0
  exact .inl ⟨.non, l, rfl, rfl, h⟩
set_option maxHeartbeats 2000000 in
theorem tun2_any (b A : Nat) (w0 w : World) (s : ByteArray) (l : List UInt8) (hs : s.size ≤ MX) (h : ASt b A w0 s l (actC 4 .non) w) : Calls Try.prog 56 #[.pointer (some ⟨b, 0, none⟩), .pointer (some ⟨A, 0, none⟩)] w (APost 4 b A s l w0) := by
  have H0 := Lib.hid h
  have GT := Lib.hid (gtun_any b s l w h.rd hs)
  clear h
  go_enter Try.func56, Try.ntmps56
  go_wp2_with (fail)
  refine GT.out.mono ?_
  clear GT
  rintro e w1 (⟨h8, rfl, hr1, hb1⟩ | ⟨h8, rfl, hb1⟩)
  · have H1 := Lib.hid (H0.out.but hr1 hb1)
    have N1 := Lib.hid h8
    clear hr1 hb1 h8
    unfold tunV
    have k5 := cellAt (i := 5) (v := .int .i64 0) H1.out.hA rfl
    have f5 := Lib.frozen_of_heap H1.out.hA 5
    have k6 := cellAt (i := 6) (v := .bool false) H1.out.hA rfl
    have f6 := Lib.frozen_of_heap H1.out.hA 6
    have k7 := cellAt (i := 7) (v := .bool false) H1.out.hA rfl
    have f7 := Lib.frozen_of_heap H1.out.hA 7
    have k8 := cellAt (i := 8) (v := .int .u32 0) H1.out.hA rfl
    have f8 := Lib.frozen_of_heap H1.out.hA 8
    have k9 := cellAt (i := 9) (v := .bool false) H1.out.hA rfl
    have f9 := Lib.frozen_of_heap H1.out.hA 9
    have k10 := cellAt (i := 10) (v := .int .i64 0) H1.out.hA rfl
    have f10 := Lib.frozen_of_heap H1.out.hA 10
    have k11 := cellAt (i := 11) (v := .int .i64 0) H1.out.hA rfl
    have f11 := Lib.frozen_of_heap H1.out.hA 11
    go_wp2_with (fail)
    go_end0
    have h9 := (((((((H1.out.set (i := 5) (by simp [actC]) (.int .i64 ((tunP l).mode : Nat))).set (i := 6) (by simp [actC]) (.bool ((tunP l).bits % 2 == 1))).set (i := 7) (by simp [actC]) (.bool ((tunP l).bits / 2 % 2 == 1))).set (i := 8) (by simp [actC]) (.int .u32 ((tunP l).value : Nat))).set (i := 9) (by simp [actC]) (.bool ((tunP l).bits / 4 % 2 == 1))).set (i := 10) (by simp [actC]) (.int .i64 ((tunP l).ttl : Nat))).set (i := 11) (by simp [actC]) (.int .i64 ((tunP l).tos : Nat)))
    refine .inl ⟨.tun (tunP l), l.drop 8, ?_, rfl, ?_⟩
    · have e1 := N1.out
      have e3 : ¬ l.length < 8 := by omega
      simp [getP, e3]
    · exact h9
  · refine ⟨rfl, .inr ⟨?_, rfl, H0.out.no hb1⟩⟩
    simp [getP, h8]
end Go.Proofs.Ytmijfhfjhbckdaa
