import Derived.Test.YthdkbocokefdhaaStr
import Derived.Test.YthdkbocokefdhaaGetR
import Derived.Test.YthdkbocokefdhaaAwp
import Derived.RangeFuncNested
import Derived.RangeFuncBound
import Derived.RangeFuncCalls
import Derived.RangeFuncLeaves
import Derived.Shelf.Abstract
import Derived.WalkKit
import Derived.OwnWalkIn
import Derived.TacticsInMore
import Derived.LoopNIn
import Derived.LoopIn
/- A packet's pieces, one by one: frag.Part, frag.parts. -/
namespace Go.Proofs.Ythdkbocokefdhaa
set_option maxRecDepth 100000
open Go.RowKit
attribute [local go_sem] Oper.semAt_some
theorem and_hi8 (x : Nat) (hx : x < 2 ^ 64) : x &&& 18446744073709551608 = x / 8 * 8 := by
  apply Nat.eq_of_testBit_eq
  intro i
  rw [show (18446744073709551608 : Nat) = (2 ^ 61 - 1) <<< 3 from rfl, show x / 8 * 8 = (x >>> 3) <<< 3 by rw [Nat.shiftRight_eq_div_pow, Nat.shiftLeft_eq]]
  rw [Nat.testBit_and, Nat.testBit_shiftLeft, Nat.testBit_shiftLeft, Nat.testBit_shiftRight, Nat.testBit_two_pow_sub_one]
  by_cases h3 : 3 ≤ i
  · rw [show 3 + (i - 3) = i by omega]
    by_cases h64 : i < 64
    · simp [h3]; omega
    · rw [Nat.testBit_lt_two_pow (Nat.lt_of_lt_of_le hx (Nat.pow_le_pow_right (by decide) (by omega)))]; simp
  · simp [h3]
def partV (hd m : Int) : Int := bits BinOp.andNot IntKind.i64 (max 0 (wrap64 (m - hd))) 7
theorem partV_eq {hd m : Nat} (h1 : hd ≤ 65535) (m1 : m ≤ 65535) : partV hd m = ((m - hd) / 8 * 8 : Nat) := by
  obtain ⟨x, hx⟩ : ∃ x, x = m - hd := ⟨_, rfl⟩
  have e1 : max 0 (wrap64 ((m : Int) - hd)) = (x : Int) := by
    rw [IntWalk.wrap64_in _ (by omega)]
    omega
  unfold partV
  rw [e1, ← hx]
  show IntKind.i64.wrap ((BitVec.ofInt 64 (x : Int) &&& ~~~BitVec.ofInt 64 7).toNat : Int) = _
  have e2 : (BitVec.ofInt 64 (x : Int)).toNat = x := by
    rw [BitVec.toNat_ofInt]; omega
  rw [BitVec.toNat_and, e2, show (~~~BitVec.ofInt 64 7).toNat = 18446744073709551608 from rfl, and_hi8 x (by omega)]
  exact IntWalk.i64_in _ (by omega)
theorem prt_any (hd m : Int) (w : World) : Calls Try.prog 48 #[.int .i64 hd, .int .i64 m] w fun e w' => e = .returned (.int .i64 (partV hd m)) ∧ w' = w := by
  go_enter Try.func48, Try.ntmps48
  go_wp2_with (fail)
  go_ret
  exact ⟨rfl, rfl⟩
theorem parts_any (x : ByteArray) (y : Int) (w : World) : Calls Try.prog 49 #[.string x, .int .i64 y] w fun e w' => e = .returned (.func (.func 72) #[] #[.pointer (some ⟨w.heap.size, 0, none⟩), .pointer (some ⟨w.heap.size + 1, 0, none⟩)]) ∧ w' = (w.alloc (.cells #[.string x] 9)).alloc (.cells #[.int .i64 y] 3) := by
  go_enter Try.func49, Try.ntmps49
  go_wp2_with (fail)
  go_ret
  exact ⟨rfl, rfl⟩
/-- a piece's bytes -/
def pby (s : ByteArray) (z i : Nat) : ByteArray := s.extract (i * z) (min (i * z + z) s.size)
def encP (s : ByteArray) (z : Nat) {m : Nat} (i : Fin m) : Array Value := #[.int .i64 ((i.1 * z : Nat) : Int), .string (pby s z i.1)]
theorem cut_facts {a z s e : Nat} (he : e = min (a + z) s) (h : a < s) (hz : z ≤ 1000000) (hs : s ≤ 1000000) :
    min ((a : Int) + z) (s : Int) = (e : Int) ∧ a ≤ e ∧ e ≤ s ∧ (a : Int) ≤ e ∧ (e : Int) ≤ s ∧ (a : Int) < s ∧ (0 : Int) ≤ a ∧ (-9223372036854775808 ≤ (a : Int) + z ∧ (a : Int) + z ≤ 9223372036854775807) ∧ Hid ((a : Int) + z = ((a + z : Nat) : Int)) := by
  refine ⟨by omega, by omega, by omega, by omega, by omega, by omega, by omega, ⟨by omega, by omega⟩, Lib.hid (by omega)⟩
/-- the two captured blocks stay -/
def Kp2 (Bs Bz : Nat) (W W' : World) : Prop := W'.heap[Bs]? = W.heap[Bs]? ∧ W'.heap[Bz]? = W.heap[Bz]?
theorem Kp2.trans {Bs Bz : Nat} {A B C : World} (h : Kp2 Bs Bz A B) (k : Kp2 Bs Bz B C) : Kp2 Bs Bz A C := ⟨k.1.trans h.1, k.2.trans h.2⟩
theorem fin_take {m : Nat} (k : Nat) (hk : k < m) : (List.finRange m).take (k + 1) = (List.finRange m).take k ++ [⟨k, hk⟩] := by
  rw [List.take_add_one, List.getElem?_eq_getElem (by simpa using hk)]
  simp
set_option maxHeartbeats 4000000 in
theorem parts1_in (F : Fence) (n : Nat) (h72 : F.fn 72) (hro : F.round = none) (hn : 1 ≤ n) (l Bs Bz z m : Nat) (s : ByteArray) (hz0 : 0 < z) (hz : z ≤ 1000000) (hs : s.size ≤ 1000000) (hm : s.size ≤ m * z) (hm1 : ∀ k, k < m → k * z < s.size)
    (J Jx : List (Fin m) → World → Prop)
    (hY : ∀ pre x W, J pre W → pre.length < m → YieldAt F (n - 1) Try.prog l (encP s z x) W fun e W' =>
      (e = .returned (.bool true) ∧ J (pre ++ [x]) W' ∧ Kp2 Bs Bz W W') ∨ (e = .returned (.bool false) ∧ Jx (pre ++ [x]) W'))
    (W : World) (hBs : W.heap[Bs]? = some (.cells #[.string s] 9 (0, 0))) (hBz : W.heap[Bz]? = some (.cells #[.int .i64 z] 3 (0, 0))) (h0 : J [] W) :
    CallsIn F n Try.prog 72 #[.func (.yield l) #[] #[], .pointer (some ⟨Bs, 0, none⟩), .pointer (some ⟨Bz, 0, none⟩)] W fun e W' => (∃ v, e = .returned v) ∧
      ((∃ ys, ys = List.finRange m ∧ J ys W') ∨ (∃ pre, True ∧ Jx pre W')) := by
  refine callsIn_of_wp Try.func72 rfl h72 ?_ hro
  simp only [Try.ntmps72, List.size_toArray, List.length_cons, List.length_nil, Nat.reduceAdd, Nat.reduceSub, Array.replicate_succ, Array.replicate_zero, List.push_toArray, List.append_toArray, List.nil_append, List.cons_append]
  gi_wp2
  gi_loopw [4] (fun i wr => ∃ k : Nat, k ≤ m ∧ i = .int .i64 ((k * z : Nat) : Int) ∧ Hid (J ((List.finRange m).take k) wr) ∧ Hid (Kp2 Bs Bz W wr))
    (fun i _ => s.size + z - (intOf i).toNat)
  case atStart => exact ⟨0, Nat.zero_le _, by simp, Lib.hid h0, Lib.hid ⟨rfl, rfl⟩⟩
  case round =>
    obtain ⟨k, hk, rfl, hJs, hnx⟩ := hrel
    have c1 := cellAt (i := 0) (v := .string s) (hnx.out.1.trans hBs) rfl
    have c2 := cellAt (i := 0) (v := .int .i64 z) (hnx.out.2.trans hBz) rfl
    by_cases hlt : k < m
    · have hlt2 := hm1 k hlt
      obtain ⟨a, ha⟩ : ∃ a, a = k * z := ⟨_, rfl⟩
      obtain ⟨e, he⟩ : ∃ e, e = min (k * z + z) s.size := ⟨_, rfl⟩
      have HY := Lib.hid (hY _ ⟨k, hlt⟩ wr hJs.out (by rw [List.length_take, List.length_finRange]; omega))
      have hk1 : (k + 1) * z = k * z + z := by rw [Nat.add_mul, Nat.one_mul]
      obtain ⟨fn, tmps, assign, body, hy, hR⟩ := HY.out
      unfold encP pby at hy
      dsimp only at hy
      rw [← ha] at he hlt2 hk1 hy ⊢
      rw [← he] at hy
      obtain ⟨p, hp⟩ : ∃ p, p = s.extract a e := ⟨_, rfl⟩
      obtain ⟨m1, b4, b5, b3, b6, b1, b2, ⟨w2, w3⟩, E5⟩ := cut_facts he hlt2 hz hs
      rw [← hp] at hy
      have hp2 := hp.symm
      have w1 : IntKind.i64.wrap ((a : Int) + z) = (a : Int) + z := IntWalk.i64_in _ ⟨w2, w3⟩
      clear w2 w3
      have HA := Lib.hid ha
      have HE := Lib.hid he
      have HHP := Lib.hid hp
      clear hp hY ha he
      gi_wp2
      refine hR.mono ?_
      rintro e3 W3 (⟨rfl, hJ3, hk3⟩ | ⟨rfl, hJx3⟩)
      · have c3 := cellAt (i := 0) (v := .int .i64 z) ((hk3.2.trans hnx.out.2).trans hBz) rfl
        gi_wp2
        go_roundw
        case rel => exact ⟨k + 1, by omega, by rw [hk1]; first | exact congrArg _ E5.out | rfl, Lib.hid (by rw [fin_take k hlt]; exact hJ3), Lib.hid (hnx.out.trans hk3)⟩
        case measure => simp [intOf]; omega
      · gi_wp2
        refine bodyPost_ret (results_none rfl _ _ _) rfl ?_
        exact ⟨⟨_, rfl⟩, .inr ⟨_, trivial, hJx3⟩⟩
    · obtain rfl : k = m := by omega
      obtain ⟨a, ha⟩ : ∃ a, a = k * z := ⟨_, rfl⟩
      rw [← ha] at hm ⊢
      have b1 : ¬ (a : Int) < (s.size : Int) := by omega
      have HA := Lib.hid ha
      clear ha hY
      gi_wp2
      go_end0
      exact ⟨⟨_, rfl⟩, .inl (by have := hJs.out; rwa [List.take_of_length_le (by simp)] at this)⟩
theorem parts_stops (n : Nat) (hn : 1 ≤ n) (Bs Bz z m : Nat) (s : ByteArray) (hz0 : 0 < z) (hz : z ≤ 1000000) (hs : s.size ≤ 1000000) (hm : s.size ≤ m * z) (hm1 : ∀ k, k < m → k * z < s.size) (w : World)
    (hBs : w.heap[Bs]? = some (.cells #[.string s] 9 (0, 0))) (hBz : w.heap[Bz]? = some (.cells #[.int .i64 z] 3 (0, 0))) :
    SeqStopsK Fence.wide n Try.prog 72 #[.pointer (some ⟨Bs, 0, none⟩), .pointer (some ⟨Bz, 0, none⟩)] (fun x : Fin m => encP s z x) (Kp2 Bs Bz) (fun ys => ys = List.finRange m) (fun _ => True) m w := fun l J Jx W hW _ _ hY h0 =>
  parts1_in Fence.wide n trivial rfl hn l Bs Bz z m s hz0 hz hs hm hm1 J Jx hY W ((hW.block _ (heap_lt hBs)).trans hBs) ((hW.block _ (heap_lt hBz)).trans hBz) h0
theorem wpListIn_append_ok {F : Fence} {n : Nat} {P : Program} {w : World} {ops : Array Oper} {rest : List Oper} {o : Oper} {a : Act} {Q : Exit → Act → World → Prop} (hgd : o.guard = none) (sl x : Operand) (t : TypeId)
    (ho : o.op = .call { callee := .builtin .append, args := #[sl, x], argTypes := #[t, t] }) (v0 x0 v' : Value) (w' : World) (hs : a.eval sl = v0) (hx : a.eval x = x0)
    (hr : (Builtin.append_ #[t, t] o.type #[v0, x0]).run P w = .ok v' w') (h : wpListIn F n P ops Q rest (a.put o.dst v') w') : wpListIn F n P ops Q (o :: rest) a w := by
  refine wpListIn_plain hgd fun K hK => ?_
  unfold Oper.wpIn
  refine ⟨by simp [Oper.about, ho, resolve, Target.leads, Sem.run_pure], ?_⟩
  rw [Oper.semAt_plain F _ _ (by rw [ho]; intro c hc'; cases hc')]
  simp [execOp, ho, resolve, invoke, builtin, hs, hx, hr, Result.andThen]
  exact hK _ _ h
end Go.Proofs.Ythdkbocokefdhaa
/- A packet's pieces: what they are. -/
namespace Go.Proofs.Ythdkbocokefdhaa
set_option maxRecDepth 100000
open Go.RowKit
structure CutIs (h : H4) (s : List UInt8) (l : List ByteArray) (z n : Nat) : Prop where
  ok : CutOk h s z n
  len : l.length = n
  at' : ∀ i, i < n → ∃ x, putE (pcs h s z i).h (pcs h s z i).s = .ok x ∧ l[i]? = some (bs x)
/-- a piece's text -/
def pX (h : H4) (s : List UInt8) (z i : Nat) : List UInt8 := match putE (pcs h s z i).h (pcs h s z i).s with | .ok x => x | .error _ => []
theorem pX_ok {h : H4} {s : List UInt8} {z n : Nat} (c : CutOk h s z n) {i : Nat} (hi : i < n) : putE (pcs h s z i).h (pcs h s z i).s = .ok (pX h s z i) := by
  obtain ⟨x, hx⟩ := pcs_put c hi
  unfold pX
  rw [hx]
/-- a packet that is not cut is its own piece -/
theorem cut_one {h : H4} {s p : List UInt8} (hp : putE h s = .ok p) (h0 : h.off = 0) (h1 : h.mf = false) : CutIs h s [bs p] (8 * (s.length + 1)) 1 := by
  obtain ⟨ho, hl, hl2⟩ := putE_inv hp
  refine ⟨⟨ho, by omega, by omega, by omega, by decide, by omega, .inr rfl⟩, rfl, fun i hi => ⟨p, ?_, ?_⟩⟩
  · obtain rfl : i = 0 := by omega
    have e1 : (pcs h s (8 * (s.length + 1)) 0).s = s := by
      show (s.drop (0 * _)).take _ = s
      rw [Nat.zero_mul, List.drop_zero, List.take_of_length_le (by omega)]
    have e2 : (pcs h s (8 * (s.length + 1)) 0).h = h := by
      obtain ⟨tos, id, off, ttl, proto, df, mf, src, dst, opt⟩ := h
      simp only at h0 h1
      subst h0 h1
      show H4.mk _ _ _ _ _ _ _ _ _ _ = _
      congr 1
      · simp
      · simp; omega
    rw [e1, e2]; exact hp
  · obtain rfl : i = 0 := by omega
    rfl
theorem cut_many {h : H4} {s : List UInt8} (ho : h.ok) (hl : 20 + h.opt.length + s.length ≤ 65535) {z : Nat} (hz0 : 0 < z) (h8 : z % 8 = 0) (hs : 0 < s.length) : CutOk h s z ((s.length + z - 1) / z) := by
  obtain ⟨n, hn⟩ : ∃ n, n = (s.length + z - 1) / z := ⟨_, rfl⟩
  have e := Nat.div_add_mod (s.length + z - 1) z
  have hm := Nat.mod_lt (s.length + z - 1) hz0
  rw [← hn, Nat.mul_comm] at e
  rw [← hn]
  have hn0 : 0 < n := by
    rcases Nat.eq_zero_or_pos n with h | h
    · subst h; omega
    · exact h
  have e2 : (n - 1) * z = n * z - z := by rw [Nat.sub_mul, Nat.one_mul]
  exact ⟨ho, hl, h8, hz0, hn0, by omega, .inl (by omega)⟩
theorem cut_lt {h : H4} {s : List UInt8} {z n : Nat} (c : CutOk h s z n) (hs : 0 < s.length) : ∀ k, k < n → k * z < s.length := fun k hk => by
  rcases at_lt c hk with h1 | ⟨rfl, _⟩
  · exact h1
  · omega
theorem pby_eq (s : List UInt8) (z i : Nat) (hi : i * z ≤ s.length) : pby (bs s) z i = bs ((s.drop (i * z)).take z) := by
  unfold pby
  rw [bs_size, bs_extract]
  congr 1
  rw [List.take_eq_take_iff.2]
  rw [List.length_drop]; omega
end Go.Proofs.Ythdkbocokefdhaa
