
import Derived.Test.YthdkbocokefdhaaWire
import Derived.Test.YthdkbocokefdhaaSav
import Derived.Deep.AppendLies
/- The writer of package wire, and what it leaves alone. -/
namespace Go.Proofs.Ythdkbocokefdhaa
set_option maxRecDepth 100000
set_option maxRecDepth 100000
open Go.RowKit
/-- block x is neither the writer's nor its row's -/
def Apart (b x : Nat) (w : World) : Prop := x < w.heap.size ∧ x ≠ b ∧ ∀ p v, w.heap[b]? = some (.cells #[p, v] 151 (0, 0)) → v.ownBlock ≠ some x
structure Keeps (b : Nat) (w w' : World) : Prop where
  os : w'.os = w.os
  tape : w'.tape = w.tape
  output : w'.output = w.output
  size : w.heap.size ≤ w'.heap.size
  block : ∀ x, Apart b x w → w'.heap[x]? = w.heap[x]? ∧ Apart b x w'
theorem Keeps.refl (b : Nat) (w : World) : Keeps b w w := ⟨rfl, rfl, rfl, Nat.le_refl _, fun _ h => ⟨rfl, h⟩⟩
theorem Keeps.trans {b : Nat} {w w1 w2 : World} (h : Keeps b w w1) (k : Keeps b w1 w2) : Keeps b w w2 :=
  ⟨k.os.trans h.os, k.tape.trans h.tape, k.output.trans h.output, Nat.le_trans h.size k.size, fun x hx => by
    obtain ⟨h1, h2⟩ := h.block x hx
    obtain ⟨h3, h4⟩ := k.block x h2
    exact ⟨h3.trans h1, h4⟩⟩
theorem Keeps.of_below {b : Nat} {w w' : World} (h : Below w.heap.size w w') (hb : b < w.heap.size) : Keeps b w w' :=
  ⟨h.os, h.tape, h.output, h.size, fun x hx => ⟨h.block x hx.1, Nat.lt_of_lt_of_le hx.1 h.size, hx.2.1, fun p v hv => hx.2.2 p v (by rw [← h.block b hb]; exact hv)⟩⟩
theorem Keeps.below {b B : Nat} {w w' : World} (h : Keeps b w w') (hB : ∀ x, x < B → Apart b x w) : Below B w w' :=
  ⟨h.os, h.tape, h.output, h.size, fun x hx => (h.block x (hB x hx)).1⟩
/-- the writer in block b, with the bytes l -/
def IsW (b : Nat) (l : List UInt8) (w : World) : Prop := ∃ p v, (p = .pointer none ∨ p = .pointer (some ⟨b, 0, none⟩)) ∧ w.heap[b]? = some (.cells #[p, v] 151 (0, 0)) ∧ w.ownsRow 0 5 1 v l.length (Lib.byteCells l) ∧ v.ownBlock ≠ some b ∧ (l = [] → v = .slice none 0 0)
theorem IsW.lt {b : Nat} {l : List UInt8} {w : World} (h : IsW b l w) : b < w.heap.size := by
  obtain ⟨p, v, _, h, _⟩ := h; exact heap_lt h
theorem IsW.apart {b x : Nat} {l : List UInt8} {w : World} (h : IsW b l w) (hx : w.heap.size = x) (o : Obj) : Apart b x (w.alloc o) := by
  obtain ⟨p, v, _, h1, h2, _, _⟩ := h
  have hb := heap_lt h1
  refine ⟨by rw [World.size_alloc]; omega, by omega, fun p' v' h' => ?_⟩
  rw [Below.heap_alloc _ _ _ hb, h1] at h'
  obtain ⟨rfl, rfl⟩ : p = p' ∧ v = v' := by simpa using h'
  intro hk
  have := (World.ownsRow.lt h2 x hk).2
  omega
theorem IsW.fresh {b : Nat} (w : World) (hb : w.heap.size = b) : IsW b [] (w.alloc (.cells #[.pointer none, .slice none 0 0] 151)) := by
  subst hb
  exact ⟨_, _, .inl rfl, alloc_new _ _, World.ownsRow_nil _ _ _ _, by simp [Value.ownBlock], fun _ => rfl⟩
theorem fresh_apart {b x : Nat} (w : World) (hb : w.heap.size = b) (hx : x < b) : Apart b x (w.alloc (.cells #[.pointer none, .slice none 0 0] 151)) := by
  subst hb
  refine ⟨by rw [World.size_alloc]; omega, by omega, fun p' v' h' => ?_⟩
  rw [alloc_new] at h'
  obtain ⟨rfl, rfl⟩ : Value.pointer none = p' ∧ Value.slice none 0 0 = v' := by simpa using h'
  simp [Value.ownBlock]
theorem IsW.keep {b : Nat} {l : List UInt8} {w w' : World} (h : IsW b l w) (hb : Below w.heap.size w w') : IsW b l w' := by
  obtain ⟨p, v, h0, h1, h2, h3, h4⟩ := h
  refine ⟨p, v, h0, (hb.block b (heap_lt h1)).trans h1, ?_, h3, h4⟩
  exact World.ownsRow.kept (row := none) h2 ⟨hb.os, hb.tape, hb.output, hb.size, fun k hk _ => hb.block k hk⟩ (by
    cases hv : v.ownBlock with
    | none => exact .inl rfl
    | some k => exact .inr (by simp))
set_option maxHeartbeats 1000000 in
theorem check_k (b : Nat) (l : List UInt8) (w : World) (h : IsW b l w) :
    Calls Try.prog 90 #[.pointer (some ⟨b, 0, none⟩)] w fun e w' => e = .returned (.tuple #[]) ∧ Keeps b w w' ∧ ∃ v, w'.heap[b]? = some (.cells #[.pointer (some ⟨b, 0, none⟩), v] 151 (0, 0)) ∧ w'.ownsRow 0 5 1 v l.length (Lib.byteCells l) ∧ v.ownBlock ≠ some b ∧ (l = [] → v = .slice none 0 0) := by
  obtain ⟨p, v, hp, h1, h2, h3, h4⟩ := h
  rcases hp with rfl | rfl
  · refine (check_fresh b w (cellAt h1 rfl) (by simp [World.shape?, h1]) (Lib.frozen_of_heap h1 0)).mono ?_
    rintro e w' ⟨rfl, rfl⟩
    have g1 := heap_set h1 (i := 0) (by simp) (.pointer (some ⟨b, 0, none⟩))
    refine ⟨rfl, ⟨rfl, rfl, rfl, by simp [World.setCell], fun x hx => ⟨Below.heap_setCell _ _ _ _ (by simpa using hx.2.1), by simpa [World.setCell] using hx.1, hx.2.1, fun p' v' h' => ?_⟩⟩, v, g1, ?_, h3, h4⟩
    · rw [g1] at h'
      obtain ⟨_, rfl⟩ : _ ∧ v = v' := by simpa using h'
      exact hx.2.2 _ _ h1
    · refine World.ownsRow.kept (row := some b) h2 ⟨rfl, rfl, rfl, by simp [World.setCell], fun k hk hn => Below.heap_setCell _ _ _ _ (fun e => hn (by simpa using e))⟩ (.inr h3)
  · refine (check_used b w (cellAt h1 rfl)).mono ?_
    rintro e w' ⟨rfl, rfl⟩
    exact ⟨rfl, Keeps.refl _ _, v, h1, h2, h3, h4⟩
theorem grown_block {b : Nat} {w1 w2 : World} {v : Value} {o : Obj} (h1 : w1.heap[b]? = some o) (hv : v.ownBlock ≠ some b) (hg : w1.grownBy w2 v.ownBlock) : w2.heap[b]? = some o := by
  rw [hg.block b (heap_lt h1) (fun e => hv e.symm)]; exact h1
theorem keeps_put {b : Nat} {w1 w2 : World} {p v v' : Value} (h1 : w1.heap[b]? = some (.cells #[p, v] 151 (0, 0))) (hv : v.ownBlock ≠ some b) (hg : w1.grownBy w2 v.ownBlock) (hloc : v'.ownBlock = v.ownBlock ∨ ∀ k, v'.ownBlock = some k → w1.heap.size ≤ k) : Keeps b w1 (w2.setCell ⟨b, 1, none⟩ v') := by
  have h2 := grown_block h1 hv hg
  have h3 := heap_set h2 (i := 1) (by simp) v'
  refine ⟨hg.os, hg.tape, hg.output, by simpa [World.setCell] using hg.size, fun x hx => ⟨?_, ?_, hx.2.1, fun p' u h' => ?_⟩⟩
  · rw [Below.heap_setCell _ _ _ _ (by simpa using hx.2.1)]
    exact hg.block x hx.1 (fun e => hx.2.2 _ _ h1 e.symm)
  · have := hg.size; have := hx.1; simp [World.setCell]; omega
  · rw [h3] at h'
    obtain ⟨_, rfl⟩ : _ ∧ v' = u := by simpa using h'
    rcases hloc with h | h
    · rw [h]; exact hx.2.2 _ _ h1
    · intro e; have := h x e; have := hx.1; omega
theorem isw_put {b : Nat} {w1 w2 : World} {v v' : Value} {l : List UInt8} (h1 : w1.heap[b]? = some (.cells #[.pointer (some ⟨b, 0, none⟩), v] 151 (0, 0))) (hv : v.ownBlock ≠ some b) (hg : w1.grownBy w2 v.ownBlock) (hloc : v'.ownBlock = v.ownBlock ∨ ∀ k, v'.ownBlock = some k → w1.heap.size ≤ k)
    (hown : w2.ownsRow 0 5 1 v' l.length (Lib.byteCells l)) (hnil : l = [] → v' = .slice none 0 0) : IsW b l (w2.setCell ⟨b, 1, none⟩ v') := by
  have h2 := grown_block h1 hv hg
  have h3 := heap_set h2 (i := 1) (by simp) v'
  have hb := heap_lt h1
  have hne : v'.ownBlock ≠ some b := by
    rcases hloc with h | h
    · rw [h]; exact hv
    · intro e; have := h b e; omega
  refine ⟨_, v', .inr rfl, h3, ?_, hne, hnil⟩
  exact World.ownsRow.kept (row := some b) hown ⟨rfl, rfl, rfl, by simp [World.setCell], fun k hk hn => Below.heap_setCell _ _ _ _ (fun e => hn (by simpa using e))⟩ (.inr hne)
/-- so long a writer's bytes may be -/
abbrev WX : Nat := 1000000000000
set_option maxHeartbeats 2000000 in
theorem wbyte_k (b : Nat) (l : List UInt8) (c : UInt8) (w : World) (h : IsW b l w) (hlen : l.length ≤ 1000000000000) :
    Calls Try.prog 108 #[.pointer (some ⟨b, 0, none⟩), .int .u8 c.toNat] w fun e w' => e = .returned .nilIface ∧ IsW b (l ++ [c]) w' ∧ Keeps b w w' := by
  obtain ⟨i0, hi, hz0, hz1, hz2⟩ := info5
  have hll : (Lib.byteCells l).length = l.length := Lib.byteCells_length l
  have C := Lib.hid (check_k b l w h)
  have HLT := Lib.hid h.lt
  obtain ⟨y, hy⟩ : ∃ y : Nat, y = c.toNat := ⟨_, rfl⟩
  rw [← hy]
  have HY := Lib.hid hy
  clear hy h
  go_enter Try.func108, Try.ntmps108
  go_wp2_with (go_at_call 90; refine C.out.mono ?_)
  rintro e w1 ⟨rfl, hk1, v, hbk, hown, hne, hnl⟩
  have HK1 := Lib.hid hk1
  have c0 : w1.cell? ⟨b, 0, none⟩ = some (.pointer (some ⟨b, 0, none⟩)) := cellAt hbk rfl
  have c1 : w1.cell? ⟨b, 1, none⟩ = some v := cellAt hbk rfl
  have HN := Lib.hid hne
  have HNL := Lib.hid hnl
  have HBK := Lib.hid hbk
  clear hk1 hne hnl
  go_wp2_with (at_builtin; refine wpList_append_lies _ rfl (.tmp 11) (.tmp 13) 53 rfl 0 5 i0 (.int .u8 0) 1 1 Try.underlying53 hi hz0 hz1 hz2 rfl (by decide) _ _ _ rfl (hown.alloc _) ⟨w1.heap.size, 0, none⟩ 1 1 [.int .u8 y] rfl rfl ?c1 ?c2 ?c0 ?c3 ?c4 ?c5 (w1.heap.size + 1) ?c6 ?_)
  case c0 => omega
  case c1 =>
    intro j u hj
    match j, hj with
    | 0, hj => simp at hj; subst hj; simp [Addr.add]
  case c2 => intro u hu; simp at hu; subst hu; rfl
  case c3 => unfold maxLen; omega
  case c4 => omega
  case c5 => omega
  case c6 => rw [World.size_alloc]
  intro g cap w2 hown' hgrow hat hlt
  have hb1 : (w1.alloc (.cells #[.int .u8 y] 5)).heap[b]? = some (.cells #[.pointer (some ⟨b, 0, none⟩), v] 151 (0, 0)) := by rw [Below.heap_alloc _ _ _ (heap_lt hbk)]; exact hbk
  have hb2 := grown_block hb1 HN.out hgrow
  have d0 : w2.cell? ⟨b, 0, none⟩ = some (.pointer (some ⟨b, 0, none⟩)) := cellAt hb2 rfl
  have d1 : w2.cell? ⟨b, 1, none⟩ = some v := cellAt hb2 rfl
  have f1 : w2.frozen? ⟨b, 1, none⟩ = false := Lib.frozen_of_heap hb2 1
  have hloc : (Value.slice (some ⟨g, 0, none⟩) (l.length + 1) cap).ownBlock = v.ownBlock ∨ ∀ k, (Value.slice (some ⟨g, 0, none⟩) (l.length + 1) cap).ownBlock = some k → (w1.alloc (.cells #[.int .u8 y] 5)).heap.size ≤ k := by
    rcases hat with h | h
    · left; rw [h]; rfl
    · right; intro k hk
      have : g = k := by simpa [Value.ownBlock] using hk
      rw [World.size_alloc]; omega
  have e1 : l.length + 1 = (l ++ [c]).length := by simp
  have e2 : Lib.byteCells l ++ [Value.int .u8 y] = Lib.byteCells (l ++ [c]) := by
    rw [byteCells_app, show Lib.byteCells [c] = [.int .u8 (y : Int)] by rw [HY.out]; rfl]
  have hown2 : w2.ownsRow 0 5 1 (.slice (some ⟨g, 0, none⟩) (l.length + 1) cap) (l ++ [c]).length (Lib.byteCells (l ++ [c])) := by rw [← e1, ← e2]; exact hown'
  have HW := Lib.hid (isw_put hb1 HN.out hgrow hloc hown2 (fun h => absurd h (by simp)))
  have HKP := Lib.hid (keeps_put hb1 HN.out hgrow hloc)
  clear hown' hgrow hat hloc e1 e2 hown2 hb1 hb2 hown hbk c0 c1
  go_wp2
  go_ret
  refine ⟨rfl, HW.out, ?_⟩
  exact HK1.out.trans ((Keeps.of_below ((Below.refl _ _).alloc (Nat.le_refl _) _) (heap_lt HBK.out)).trans HKP.out)
theorem IsW.drew {b : Nat} {l : List UInt8} {w : World} (h : IsW b l w) : IsW b l w.drew := h
set_option maxHeartbeats 2000000 in
theorem number_k (b n m : Nat) (l : List UInt8) (w : World) (hn : n < 18446744073709551616) (hm : m ≤ 8) (h : IsW b l w) (hlen : l.length ≤ 900000000000) :
    Calls Try.prog 106 #[.pointer (some ⟨b, 0, none⟩), .int .u64 n, .int .i64 m] w fun e w' => e = .returned (.tuple #[]) ∧ IsW b (l ++ be n m) w' ∧ Keeps b w w' := by
  have HW := Lib.hid h
  clear h
  go_enter Try.func106, Try.ntmps106
  go_wp2_with (fail)
  go_loopw [6] (fun i wr => ∃ k : Nat, k ≤ m ∧ i = .int .i64 ((k : Int) - 1) ∧ Hid (∃ acc, IsW b acc wr ∧ acc ++ be n k = l ++ be n m ∧ acc.length + k = l.length + m) ∧ Hid (Keeps b w wr)) (fun i _ => (intOf i + 1).toNat)
  case atStart => exact ⟨m, by omega, by go_num, ⟨l, HW.out, rfl, rfl⟩, Keeps.refl _ _⟩
  case round =>
    obtain ⟨k, hk, rfl, hacc, hb⟩ := hrel
    cases k with
    | zero =>
      have h0 : ¬ (0 : Int) ≤ ((0 : Nat) : Int) - 1 := by omega
      go_wp2
      obtain ⟨acc, hw, he, hl⟩ := hacc.out
      go_end0
      refine ⟨rfl, ?_, hb.out⟩
      rw [show acc ++ be n 0 = acc from List.append_nil _] at he
      rw [← he]; exact hw
    | succ j =>
      have h0 : (0 : Int) ≤ ((j + 1 : Nat) : Int) - 1 := by omega
      obtain ⟨acc, hw, he, hl⟩ := hacc.out
      have e1 : (((j + 1 : Nat) : Int) - 1) = (j : Int) := by omega
      have hj : j ≤ 7 := by omega
      have h8 : IntKind.i64.wrap (8 * (j : Int)) = 8 * (j : Int) := by rw [IntKind.wrap_i64]; omega
      have h9 : (0 : Int) ≤ 8 * (j : Int) := by omega
      have h10 : 8 * (j : Int) < 64 := by omega
      rw [e1]
      rw [e1] at h0
      have hw2 : IsW b acc wr.drew := hw
      have hb2 : Keeps b w wr.drew := ⟨hb.out.os, hb.out.tape, hb.out.output, hb.out.size, hb.out.block⟩
      have HE := Lib.hid he
      have CC := Lib.hid (wbyte_k b acc (UInt8.ofNat (n / 256 ^ j % 256)) wr.drew hw2 (by omega))
      have sh := shr_byte n j hn hj
      rw [← sh] at CC
      have HS := Lib.hid sh
      clear sh he hacc hw
      go_wp2
      go_still_tail 8, (by kernel_rfl)
      change wpList _ _ _ _ _ wr.drew
      generalize wr.drew = w2 at *
      go_wp2_with (go_at_call 108; refine CC.out.mono ?_; rintro e w3 ⟨rfl, hw3, hb3⟩)
      refine ⟨⟨j, by omega, rfl, ⟨acc ++ [UInt8.ofNat (n / 256 ^ j % 256)], hw3, ?_, ?_⟩, hb2.trans hb3⟩, by simp [intOf] <;> omega⟩
      · rw [List.append_assoc]; exact HE.out
      · rw [List.length_append]; simp; omega
set_option maxHeartbeats 1000000 in
theorem w8_k (b n : Nat) (l : List UInt8) (w : World) (hn : n < 256) (h : IsW b l w) (hlen : l.length ≤ 900000000000) :
    Calls Try.prog 93 #[.pointer (some ⟨b, 0, none⟩), .int .i64 n] w fun e w' => e = .returned (.tuple #[]) ∧ IsW b (l ++ be n 1) w' ∧ Keeps b w w' := by
  have C := Lib.hid (number_k b n 1 l w (by omega) (by omega) h hlen)
  have hw : (n : Int) % 18446744073709551616 = n := by omega
  clear h
  go_enter Try.func93, Try.ntmps93
  go_wp2_with (go_at_call 106; refine C.out.mono ?_; rintro e w1 ⟨rfl, h1, h2⟩)
  go_end0
  exact ⟨rfl, h1, h2⟩
set_option maxHeartbeats 1000000 in
theorem w16_k (b n : Nat) (l : List UInt8) (w : World) (hn : n < 65536) (h : IsW b l w) (hlen : l.length ≤ 900000000000) :
    Calls Try.prog 94 #[.pointer (some ⟨b, 0, none⟩), .int .i64 n] w fun e w' => e = .returned (.tuple #[]) ∧ IsW b (l ++ be n 2) w' ∧ Keeps b w w' := by
  have C := Lib.hid (number_k b n 2 l w (by omega) (by omega) h hlen)
  have hw : (n : Int) % 18446744073709551616 = n := by omega
  clear h
  go_enter Try.func94, Try.ntmps94
  go_wp2_with (go_at_call 106; refine C.out.mono ?_; rintro e w1 ⟨rfl, h1, h2⟩)
  go_end0
  exact ⟨rfl, h1, h2⟩
theorem strCells_eq (s : ByteArray) : Lib.strCells s = Lib.byteCells s.data.toList := rfl
theorem append_str_at {P : Program} (w : World) (t u ty e : TypeId) (i : TypeInfo) (ht : P.underlying t = some (.slice e)) (hu : P.underlying u = some .string) (hi : P.info? e = some i) (hz : i.zero = some (.int .u8 0))
    (hsize : i.size = 1) (hby : i.bytes = 1) (v : Value) (n : Nat) (xs : List Value) (hown : w.ownsRow 0 e 1 v n xs) (s : ByteArray) (h63 : n + s.size ≤ maxLen) (hbytes : n + s.size ≤ 140737488355328) :
    ∃ v' w', (Builtin.append_ #[t, u] ty #[v, .string s]).run P w = .ok v' w' ∧ w'.ownsRow 0 e 1 v' (n + s.size) (xs ++ Lib.strCells s) ∧ w.grownBy w' v.ownBlock ∧ (v'.ownBlock = v.ownBlock ∨ ∀ k, v'.ownBlock = some k → w.heap.size ≤ k) ∧ (v' = .slice none 0 0 ↔ v = .slice none 0 0 ∧ s.size = 0) := by
  obtain ⟨v', w', hr, h2, h3, h4⟩ := Lib.run_append_own_string (P := P) w 0 t u ty e i ht hu hi hz hsize hby v n xs hown s h63 hbytes (Nat.zero_le _)
  refine ⟨v', w', hr, h2, h3, ?_, h4⟩
  have hxl : xs.length = n := by simpa using hown.1
  have hml : maxLen ≤ 9223372036854775807 := by unfold maxLen; omega
  rcases hown.2 with ⟨rfl, rfl⟩ | ⟨g, cap, cur, rfl, hbg, hg, hnc, hcm, hcs, htake⟩
  · by_cases hm : s.size = 0
    · left; rw [h4.2 ⟨rfl, hm⟩]
    · have hr2 := run_append_nil_string (P := P) w t u ty e i (.int .u8 0) ht hu hi hz s (by omega) (by omega) (by rw [hby]; omega)
      rw [hr2] at hr
      simp at hr
      right; intro k hk
      rw [← hr.1] at hk
      have : w.heap.size = k := by simpa [Value.ownBlock] using hk
      omega
  · by_cases hroom : n + s.size ≤ cap
    · have hcs' : cur.size = cap := by simpa using hcs
      have hr2 := Lib.run_append_room_string (P := P) w t u ty e i ht hu hi hsize g n cap cur hg s hroom (by omega)
      rw [hr2] at hr
      simp at hr
      left; rw [← hr.1]; rfl
    · have holds : ∀ j u, xs[j]? = some u → w.cell? ((⟨g, 0, none⟩ : Addr).add j) = some u := hown.cells (g := g) rfl
      have hr2 := Lib.run_append_grow_string (P := P) w t u ty e i (.int .u8 0) ht hu hi hz ⟨g, 0, none⟩ n cap xs (by rw [hsize]; simpa using hxl) holds s (by omega) (by omega) (by rw [hby]; exact growslice_fits (by omega) (by omega))
      rw [hr2] at hr
      simp at hr
      right; intro k hk
      rw [← hr.1] at hk
      have : w.heap.size = k := by simpa [Value.ownBlock] using hk
      omega
theorem wpList_append_str {P : Program} {w : World} {ops : Array Oper} {rest : List Oper} {o : Oper} {a : Act} {Q : Exit → Act → World → Prop} (hgd : o.guard = none) (sl x : Operand) (t u : TypeId)
    (ho : o.op = .call { callee := .builtin .append, args := #[sl, x], argTypes := #[t, u] })
    (e : TypeId) (i : TypeInfo) (ht : P.underlying t = some (.slice e)) (hu : P.underlying u = some .string) (hi : P.info? e = some i) (hz : i.zero = some (.int .u8 0))
    (hsize : i.size = 1) (hby : i.bytes = 1)
    (v : Value) (n : Nat) (xs : List Value) (hs : a.eval sl = v) (hown : w.ownsRow 0 e 1 v n xs) (s : ByteArray) (hx : a.eval x = .string s)
    (h63 : n + s.size ≤ maxLen) (hbytes : n + s.size ≤ 140737488355328)
    (h : ∀ v' w', w'.ownsRow 0 e 1 v' (n + s.size) (xs ++ Lib.strCells s) → w.grownBy w' v.ownBlock → (v'.ownBlock = v.ownBlock ∨ ∀ k, v'.ownBlock = some k → w.heap.size ≤ k) → (v' = .slice none 0 0 ↔ v = .slice none 0 0 ∧ s.size = 0) → wpList P ops Q rest (a.put o.dst v') w') : wpList P ops Q (o :: rest) a w := by
  refine wpList_plain hgd fun K hK => ?_
  obtain ⟨v', w', hr, h2, h3, h4, h5⟩ := append_str_at (P := P) w t u o.type e i ht hu hi hz hsize hby v n xs hown s h63 hbytes
  unfold Oper.wp execOp
  simp only [ho, resolve, invoke, builtin, Sem.run_bind, Sem.run_pure, Result.andThen_ok, List.map_toArray, List.map_cons, List.map_nil, hs, hx, hr]
  exact hK _ _ (h v' w' h2 h3 h4 h5)
set_option maxHeartbeats 2000000 in
theorem wtext_k (b : Nat) (l : List UInt8) (s : ByteArray) (w : World) (h : IsW b l w) (hlen : l.length ≤ 1000000000000) (hs : s.size ≤ 1000000000000) :
    Calls Try.prog 67 #[.pointer (some ⟨b, 0, none⟩), .string s] w fun e w' => e = .returned (.tuple #[.int .i64 s.size, .nilIface]) ∧ IsW b (l ++ s.data.toList) w' ∧ Keeps b w w' := by
  obtain ⟨i0, hi, hz0, hz1, hz2⟩ := info5
  have hll : (Lib.byteCells l).length = l.length := Lib.byteCells_length l
  have C := Lib.hid (check_k b l w h)
  clear h
  go_enter Try.func67, Try.ntmps67
  go_wp2_with (go_at_call 90; refine C.out.mono ?_)
  rintro e w1 ⟨rfl, hk1, v, hbk, hown, hne, hnl⟩
  have HK1 := Lib.hid hk1
  have c0 : w1.cell? ⟨b, 0, none⟩ = some (.pointer (some ⟨b, 0, none⟩)) := cellAt hbk rfl
  have c1 : w1.cell? ⟨b, 1, none⟩ = some v := cellAt hbk rfl
  have HN := Lib.hid hne
  have HNL := Lib.hid hnl
  have HBK := Lib.hid hbk
  clear hk1 hne hnl
  go_wp2_with (at_builtin; refine wpList_append_str rfl (.tmp 12) (.tmp 13) 53 9 rfl 5 i0 Try.underlying53 Try.underlying9 hi hz0 hz1 hz2 _ _ _ rfl hown s rfl ?c3 ?c4 ?_)
  case c3 => unfold maxLen; omega
  case c4 => omega
  intro v' w2 hown' hgrow hloc hn4
  obtain ⟨va, vn, vc, rfl⟩ : ∃ a n c, v' = .slice a n c := by
    rcases hown'.2 with ⟨h, _⟩ | ⟨g, cap, cur, h, _⟩
    · exact ⟨_, _, _, h⟩
    · exact ⟨_, _, _, h⟩
  have hb2 := grown_block HBK.out HN.out hgrow
  have d0 : w2.cell? ⟨b, 0, none⟩ = some (.pointer (some ⟨b, 0, none⟩)) := cellAt hb2 rfl
  have d1 : w2.cell? ⟨b, 1, none⟩ = some v := cellAt hb2 rfl
  have f1 : w2.frozen? ⟨b, 1, none⟩ = false := Lib.frozen_of_heap hb2 1
  have e1 : l.length + s.size = (l ++ s.data.toList).length := by simp
  have hown2 : w2.ownsRow 0 5 1 (.slice va vn vc) (l ++ s.data.toList).length (Lib.byteCells (l ++ s.data.toList)) := by rw [← e1, byteCells_app, ← strCells_eq]; exact hown'
  have HW := Lib.hid (isw_put HBK.out HN.out hgrow hloc hown2 (fun h => hn4.2 ⟨HNL.out (List.append_eq_nil_iff.1 h).1, by have := congrArg List.length (List.append_eq_nil_iff.1 h).2; simpa using this⟩))
  have HKP := Lib.hid (keeps_put HBK.out HN.out hgrow hloc)
  clear hown' hgrow hloc e1 hown2 hb2 hown hbk c0 c1 hn4
  go_wp2
  go_ret2
  exact ⟨rfl, HW.out, HK1.out.trans HKP.out⟩
set_option maxHeartbeats 1000000 in
theorem text_k (b : Nat) (l : List UInt8) (s : ByteArray) (w : World) (h : IsW b l w) (hlen : l.length ≤ 1000000000000) (hs : s.size ≤ 1000000000000) :
    Calls Try.prog 96 #[.pointer (some ⟨b, 0, none⟩), .string s] w fun e w' => e = .returned (.tuple #[]) ∧ IsW b (l ++ s.data.toList) w' ∧ Keeps b w w' := by
  have C := Lib.hid (wtext_k b l s w h hlen hs)
  clear h
  go_enter Try.func96, Try.ntmps96
  go_wp2_with (go_at_call 67; refine C.out.mono ?_; rintro e w1 ⟨rfl, h1, h2⟩)
  go_end0
  exact ⟨rfl, h1, h2⟩
set_option maxHeartbeats 1000000 in
theorem bstr_k (b : Nat) (l : List UInt8) (w : World) (h : IsW b l w) :
    Calls Try.prog 68 #[.pointer (some ⟨b, 0, none⟩)] w fun e w' => e = .returned (.string (bs l)) ∧ Keeps b w w' := by
  obtain ⟨p, v, hp, hbk, hown, hne, hnl⟩ := h
  by_cases h0 : l = []
  · obtain rfl := hnl h0
    subst h0
    have c1 : w.drew.cell? ⟨b, 1, none⟩ = some (.slice none 0 0) := by
      have : w.drew.heap[b]? = some (.cells #[p, .slice none 0 0] 151 (0, 0)) := hbk
      exact cellAt this rfl
    have hSD : (Builtin.unsafeSliceData_ #[53] 145 #[.slice none 0 0]).run Try.prog w.drew = .ok (.pointer none) w.drew := by kernel_rfl
    have hUS : (Builtin.unsafeString_ #[145, 3] 9 #[.pointer none, .int .i64 0]).run Try.prog w.drew = .ok (.string ⟨#[]⟩) w.drew := by kernel_rfl
    clear hown hbk hnl
    go_enter Try.func68, Try.ntmps68
    go_wp2
    go_region
    all_goals (go_wp2; go_ret; exact ⟨rfl, ⟨rfl, rfl, rfl, Nat.le_refl _, fun x hx => ⟨rfl, hx⟩⟩⟩)
  · have hl0 : l.length ≠ 0 := by simpa using h0
    obtain ⟨g, cap, cur, rfl, hg, hnc, hcm⟩ : ∃ g cap cur, v = .slice (some ⟨g, 0, none⟩) l.length cap ∧ w.heap[g]? = some (.cells cur 5 (0, 0)) ∧ l.length ≤ cap ∧ cap ≤ maxLen ∧ cur.size = cap * 1 := by
      rcases hown.2 with ⟨_, hz⟩ | ⟨g, cap, cur, hv, hg0, hg, hnc, hcm, hcs, htake⟩
      · exact absurd hz hl0
      · exact ⟨g, cap, cur, hv, hg, hnc, hcm, hcs⟩
    have hgb : g ≠ b := fun e => hne (by rw [e]; rfl)
    have c1 : w.drew.cell? ⟨b, 1, none⟩ = some (.slice (some ⟨g, 0, none⟩) l.length cap) := by
      have : w.drew.heap[b]? = some (.cells #[p, .slice (some ⟨g, 0, none⟩) l.length cap] 151 (0, 0)) := hbk
      exact cellAt this rfl
    have hSD : (Builtin.unsafeSliceData_ #[53] 145 #[.slice (some ⟨g, 0, none⟩) l.length cap]).run Try.prog w.drew = .ok (.pointer (some ⟨g, 0, none⟩)) w.drew :=
      Lib.run_unsafeSliceData_row _ _ _ _ _ _ (by omega)
    have hUS : (Builtin.unsafeString_ #[145, 3] 9 #[.pointer (some ⟨g, 0, none⟩), .int .i64 l.length]).run Try.prog w.drew = .ok (.string ⟨l.toArray⟩) (w.drew.freeze ⟨g, 0, none⟩ l.length) := by
      refine Lib.run_unsafeString_row w.drew 145 3 9 5 Try.underlying145 (by kernel_rfl) g cur.size (by have hg' : w.drew.heap[g]? = some (.cells cur 5 (0, 0)) := hg; simp [World.shape?, hg']) l h0 (by omega) (by unfold maxLen at hcm; omega) ?_
      intro j x hx
      have := hown.cells (g := g) rfl j (.int .u8 x.toNat) (by simp [Lib.byteCells, hx])
      exact this
    have hfr : Hid (Keeps b w (w.drew.freeze ⟨g, 0, none⟩ l.length)) := by
      have hoth : ∀ k, k ≠ g → (w.drew.freeze ⟨g, 0, none⟩ l.length).heap[k]? = w.heap[k]? := fun k hk => by
        unfold World.freeze
        rw [if_neg (by omega)]
        simp only [Array.getElem?_modify]
        rw [if_neg (fun e => hk e.symm)]
        rfl
      have hsz : (w.drew.freeze ⟨g, 0, none⟩ l.length).heap.size = w.heap.size := by
        unfold World.freeze
        rw [if_neg (by omega)]
        simp
      refine ⟨?_, ?_, ?_, by omega, fun x hx => ?_⟩
      · unfold World.freeze; rw [if_neg (by omega)]; rfl
      · unfold World.freeze; rw [if_neg (by omega)]; rfl
      · unfold World.freeze; rw [if_neg (by omega)]; rfl
      · have hxg : x ≠ g := fun e => hx.2.2 _ _ hbk (by rw [e]; rfl)
        refine ⟨hoth x hxg, by rw [hsz]; exact hx.1, hx.2.1, fun p' v' h' => hx.2.2 p' v' ?_⟩
        rw [← hoth b (fun e => hgb e.symm)]; exact h'
    have HL := Lib.hid h0
    clear h0 hown hcm hnc hnl hbk hne
    go_enter Try.func68, Try.ntmps68
    go_wp2
    go_region
    all_goals (go_wp2; go_ret; exact ⟨rfl, hfr.out⟩)
set_option maxHeartbeats 1000000 in
theorem string_k (b : Nat) (l : List UInt8) (w : World) (h : IsW b l w) :
    Calls Try.prog 97 #[.pointer (some ⟨b, 0, none⟩)] w fun e w' => e = .returned (.string (bs l)) ∧ Keeps b w w' := by
  have C := Lib.hid (bstr_k b l w h)
  clear h
  go_enter Try.func97, Try.ntmps97
  go_wp2_with (go_at_call 68; refine C.out.mono ?_; rintro e w1 ⟨rfl, h2⟩)
  go_ret
  exact ⟨rfl, h2⟩
end Go.Proofs.Ythdkbocokefdhaa
