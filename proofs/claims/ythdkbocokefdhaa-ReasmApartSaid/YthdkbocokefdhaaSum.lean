import Derived.Test.YthdkbocokefdhaaSav
import Derived.Test.YthdkbocokefdhaaIpP
import Derived.Test.YthdkbocokefdhaaBit
/- The Internet's sum: package sum. -/
namespace Go.Proofs.Ythdkbocokefdhaa
set_option maxRecDepth 100000
open Go.RowKit
theorem heap_one {w : World} {k : Nat} {x : Value} {t : TypeId} (h : w.heap[k]? = some (.cells #[x] t (0, 0))) (v : Value) : (w.setCell ⟨k, 0, none⟩ v).heap[k]? = some (.cells #[v] t (0, 0)) := by
  simp [World.setCell, Array.getElem?_modify, h]
theorem heap_other {w : World} {k j : Nat} {o : Obj} (h : w.heap[k]? = some o) (hne : k ≠ j) (i : Nat) (v : Value) : (w.setCell ⟨j, i, none⟩ v).heap[k]? = some o := by
  rw [Below.heap_setCell _ _ _ _ hne]; exact h
set_option maxHeartbeats 1000000 in
theorem add_any (O T : Nat) (od : Bool) (n c m : Nat) (w : World) (hT : w.heap[T]? = some (.cells #[.int .u64 (n : Int)] 122 (0, 0))) (hO : w.heap[O]? = some (.cells #[.bool od] 4 (0, 0))) (hne : O ≠ T) (hc : c < 256) (hm : m = n + (if od then c else c * 256)) (hn : m < 18446744073709551616) :
    Calls Try.prog 98 #[.int .u8 c, .pointer (some ⟨O, 0, none⟩), .pointer (some ⟨T, 0, none⟩)] w fun e w' => e = .returned (.tuple #[]) ∧ w'.heap[T]? = some (.cells #[.int .u64 (m : Int)] 122 (0, 0)) ∧ w'.heap[O]? = some (.cells #[.bool (!od)] 4 (0, 0)) ∧ Save [O, T] w w' := by
  have c0 := cellAt (i := 0) (v := .int .u64 (n : Int)) hT rfl
  have c1 := cellAt (i := 0) (v := .bool od) hO rfl
  have f0 := Lib.frozen_of_heap hT 0
  have f1 := Lib.frozen_of_heap hO 0
  have hne2 : T ≠ O := fun e => hne e.symm
  have HT := Lib.hid hT
  have HO := Lib.hid hO
  have HM := Lib.hid hm
  clear hT hO hm
  have fin : ∀ v : Int, v = (m : Int) → (((w.setCell ⟨T, 0, none⟩ (.int .u64 v)).setCell ⟨O, 0, none⟩ (.bool (!od))).heap[T]? = some (.cells #[.int .u64 (m : Int)] 122 (0, 0)) ∧ ((w.setCell ⟨T, 0, none⟩ (.int .u64 v)).setCell ⟨O, 0, none⟩ (.bool (!od))).heap[O]? = some (.cells #[.bool (!od)] 4 (0, 0)) ∧ Save [O, T] w ((w.setCell ⟨T, 0, none⟩ (.int .u64 v)).setCell ⟨O, 0, none⟩ (.bool (!od)))) := by
    intro v hv
    subst hv
    exact ⟨heap_other (heap_one HT.out _) hne2 _ _, heap_one (heap_other HO.out hne _ _) _, ((Save.refl _ _).set (.inl (by simp)) _).set (.inl (by simp)) _⟩
  have FIN := Lib.hid fin
  clear fin
  cases od
  · have hm := HM.out
    simp only [Bool.false_eq_true, if_false] at hm
    have e1 : ((c : Int) * 2 ^ 8) = ((c * 256 : Nat) : Int) := u64_shl8 c hc
    have e2 : (c : Int) % 18446744073709551616 = (c : Int) := by omega
    have HV : Hid ((n : Int) + (c * 256 : Nat) = (m : Int)) := by show _ = _; omega
    have hn2 : n + (c * 256 : Nat) < 18446744073709551616 := by omega
    clear hm hn
    go_enter Try.func98, Try.ntmps98
    go_wp2_with (fail)
    go_end0
    exact ⟨rfl, FIN.out ((n : Int) + (c * 256 : Nat)) HV.out⟩
  · have hm := HM.out
    simp only [if_true] at hm
    have e2 : (c : Int) % 18446744073709551616 = (c : Int) := by omega
    have HV : Hid ((n : Int) + (c : Nat) = (m : Int)) := by show _ = _; omega
    have hn2 : n + (c : Nat) < 18446744073709551616 := by omega
    clear hm hn
    go_enter Try.func98, Try.ntmps98
    go_wp2_with (fail)
    go_end0
    exact ⟨rfl, FIN.out ((n : Int) + c) HV.out⟩
set_option maxHeartbeats 1000000 in
theorem fold_any (n : Nat) (w : World) (hn : n < 18446744073709551616) : Calls Try.prog 99 #[.int .u64 (n : Int)] w fun e w' => e = .returned (.int .i64 (dn n : Nat)) ∧ w' = w := by
  go_enter Try.func99, Try.ntmps99
  go_wp2_with (fail)
  go_loop [0] (fun x => ∃ k : Nat, x = .int .u64 (k : Int) ∧ k < 18446744073709551616 ∧ Hid (dn k = dn n)) (fun x => (intOf x).toNat)
  case atStart => exact ⟨n, rfl, hn, rfl⟩
  case round =>
    obtain ⟨k, rfl, hk, hd⟩ := hrel
    by_cases h : 65535 < k
    · have e1 := u64_mask16 k hk
      obtain ⟨q, hq⟩ : ∃ q, q = k / 65536 := ⟨_, rfl⟩
      obtain ⟨r, hr⟩ : ∃ r, r = k % 65536 := ⟨_, rfl⟩
      have e2 : (k : Int) / 2 ^ 16 = (q : Int) := by rw [show (2 : Int) ^ 16 = 65536 by decide]; omega
      have e3 : (k : Int) / 65536 = (q : Int) := by omega
      rw [← hr] at e1
      have h1 : (65535 : Int) < k := by omega
      have hl : r + q < k := by omega
      have hd2 : Hid (dn (r + q) = dn n) := by show _ = _; rw [hr, hq, dn_step h]; exact hd.out
      clear hq hr
      go_wp2_with (fail)
      exact ⟨⟨r + q, by go_num, by omega, hd2⟩, by simp [intOf]; omega⟩
    · have h1 : ¬ (65535 : Int) < k := by omega
      have e : dn n = k := by rw [← hd.out, dn_small (by omega)]
      have HE := Lib.hid e
      clear e hd
      go_wp2_with (fail)
      go_ret
      exact ⟨by rw [HE.out]; rfl, rfl⟩
theorem tot_snoc : ∀ (l : List UInt8) (c : UInt8), tot (l ++ [c]) = tot l + (if decide (l.length % 2 = 1) then c.toNat else c.toNat * 256)
  | [], c => by simp [tot]
  | [a], c => by simp [tot]
  | a :: b :: l, c => by
    have := tot_snoc l c
    have e : decide ((a :: b :: l).length % 2 = 1) = decide (l.length % 2 = 1) := by simp only [List.length_cons]; congr 1; exact propext (by omega)
    rw [List.cons_append, List.cons_append, tot, this, tot, e]
    omega
set_option maxHeartbeats 4000000 in
theorem sum_one (g : Nat) (s : ByteArray) (w : World) (hg : w.heap[g]? = some (.cells #[.string s] 9 (0, 0))) (hs : s.size ≤ 1000000) :
    Calls Try.prog 75 #[.slice (some ⟨g, 0, none⟩) 1 1] w fun e w' => e = .returned (.int .i64 (sm s.data.toList : Nat)) ∧ Below w.heap.size w w' := by
  have hgl := heap_lt hg
  obtain ⟨T, hT0⟩ : ∃ T, T = w.heap.size := ⟨_, rfl⟩
  obtain ⟨W1, hW1⟩ : ∃ W, W = (w.alloc (.cells #[.int .u64 0] 122)).alloc (.cells #[.bool false] 4) := ⟨_, rfl⟩
  have hmf := fun (fn : Fn) (first cap : Array Value) (w : World) => make_run fn first cap w
  have A1 : Hid (W1.heap[T]? = some (.cells #[.int .u64 ((0 : Nat) : Int)] 122 (0, 0)) ∧ W1.heap[T + 1]? = some (.cells #[.bool (decide (0 % 2 = 1))] 4 (0, 0)) ∧ Save [T + 1, T] W1 W1) := by
    refine ⟨?_, ?_, Save.refl _ _⟩
    · rw [hW1, Below.heap_alloc _ _ _ (by simp [hT0]), hT0]; exact alloc_new _ _
    · have := alloc_new (w.alloc (.cells #[.int .u64 0] 122)) (.cells #[.bool false] 4)
      rw [hW1, hT0]; simpa using this
  have A2 : Hid (Below w.heap.size w W1) := by
    show Below _ _ _
    rw [hW1]; exact ((Below.refl _ _).alloc (Nat.le_refl _) _).alloc (by simp) _
  have A3 : Hid (W1.heap[g]? = some (.cells #[.string s] 9 (0, 0))) := by
    show _ = _
    rw [hW1, Below.heap_alloc _ _ _ (by simp; omega), Below.heap_alloc _ _ _ hgl]; exact hg
  have HT0 := Lib.hid hT0
  have HG : Hid (g < T) := Lib.hid (by omega)
  go_enter Try.func75, Try.ntmps75
  go_upto_region 2 with (fail)
  rw [← hW1, ← hT0]
  clear hg hgl hT0 hW1
  go_wp2_with (fail)
  go_loopw [12] (fun i wr => ∃ k : Nat, k ≤ 1 ∧ i = .int .i64 k ∧ Hid (wr.heap[T]? = some (.cells #[.int .u64 (tot (s.data.toList.take (k * s.size)) : Nat)] 122 (0, 0)) ∧ (k = 0 → wr.heap[T + 1]? = some (.cells #[.bool (decide (0 % 2 = 1))] 4 (0, 0))) ∧ Save [T + 1, T] W1 wr)) (fun i _ => 1 - (intOf i).toNat)
  case atStart => exact ⟨0, by omega, rfl, by simp only [Nat.zero_mul]; exact A1.out.1, fun _ => A1.out.2.1, A1.out.2.2⟩
  case round =>
    obtain ⟨k, hk, rfl, hst⟩ := hrel
    by_cases hlt : k = 0
    · subst hlt
      have q1 : wr.heap[g]? = some (.cells #[.string s] 9 (0, 0)) := (hst.out.2.2.block g (heap_lt A3.out) (by simp only [List.mem_cons, List.not_mem_nil, or_false]; have : g < T := HG.out; omega)).trans A3.out
      have q2 := cellAt (i := 0) (v := .string s) q1 rfl
      have HQ1 := Lib.hid q1
      clear q1
      go_wp2_with (fail)
      go_loopw [18] (fun j wr => ∃ q : Nat, q ≤ s.size ∧ j = .int .i64 q ∧ Hid (wr.heap[T]? = some (.cells #[.int .u64 (tot (s.data.toList.take q) : Nat)] 122 (0, 0)) ∧ wr.heap[T + 1]? = some (.cells #[.bool (decide (q % 2 = 1))] 4 (0, 0)) ∧ Save [T + 1, T] W1 wr)) (fun j _ => s.size - (intOf j).toNat)
      case atStart =>
        have h1 := hst.out.1
        rw [Nat.zero_mul] at h1
        exact ⟨0, by omega, rfl, h1, hst.out.2.1 (by trivial), hst.out.2.2⟩
      case round =>
        obtain ⟨q, hq, rfl, hin⟩ := hrel
        by_cases hlt : q < s.size
        · have hqt : q < s.data.toList.length := by simpa using hlt
          obtain ⟨n2, hn2⟩ : ∃ n, n = tot (s.data.toList.take (q + 1)) := ⟨_, rfl⟩
          obtain ⟨c, hc⟩ : ∃ c, c = (s[q]'hlt).toNat := ⟨_, rfl⟩
          have hc8 : c < 256 := by rw [hc]; exact (s[q]'hlt).toNat_lt
          have e0 : n2 = tot (s.data.toList.take q) + (if decide (q % 2 = 1) then c else c * 256) := by
            rw [hn2, take_snoc _ _ hqt, tot_snoc, List.length_take, Nat.min_eq_left (by omega), hc]; rfl
          have hb : n2 < 18446744073709551616 := by
            have h1 := tot_le (s.data.toList.take (q + 1))
            have h2 : (s.data.toList.take (q + 1)).length ≤ 1000000 := by rw [List.length_take]; simp; omega
            omega
          have C := Lib.hid (add_any (T + 1) T (decide (q % 2 = 1)) (tot (s.data.toList.take q)) c n2 wr hin.out.1 hin.out.2.1 (by omega) hc8 e0 hb)
          rw [hc] at C
          have HN := Lib.hid hn2
          clear hn2 hc hc8 e0 hb hqt
          go_wp2_with (go_at_call 98; (with_reducible refine C.out.mono ?_); rintro e w1 ⟨rfl, h1, h2, h3⟩; have H1 := Lib.hid h1; have H2 := Lib.hid h2; have H3 := Lib.hid h3; clear h1 h2 h3)
          refine ⟨⟨q + 1, by omega, by go_num, ?_, ?_, hin.out.2.2.trans H3.out⟩, by simp [intOf] <;> omega⟩
          · rw [← HN.out]; exact H1.out
          · have e1 : (!decide (q % 2 = 1)) = decide ((q + 1) % 2 = 1) := by
              rw [← decide_not]; exact decide_eq_decide.2 (by omega)
            rw [← e1]; exact H2.out
        · obtain rfl : q = s.size := by omega
          have h9 : s.data.toList.take s.size = s.data.toList.take (1 * s.size) := by rw [Nat.one_mul]
          have HH : Hid (wr.heap[T]? = some (.cells #[.int .u64 (tot (s.data.toList.take (1 * s.size)) : Nat)] 122 (0, 0)) ∧ Save [T + 1, T] W1 wr) := by
            refine ⟨?_, hin.out.2.2⟩
            rw [← h9]; exact hin.out.1
          clear h9
          go_wp2_with (fail)
          exact ⟨⟨1, by omega, by go_num, HH.out.1, fun h => (by omega), HH.out.2⟩, by simp [intOf] <;> omega⟩
    · obtain rfl : k = 1 := by omega
      obtain ⟨n, hn⟩ : ∃ n, n = tot s.data.toList := ⟨_, rfl⟩
      have h1 := hst.out.1
      rw [Nat.one_mul, List.take_of_length_le (by simp), ← hn] at h1
      have hb : n < 18446744073709551616 := by
        have h1 := tot_le s.data.toList
        have h2 : s.data.toList.length ≤ 1000000 := by simp; omega
        omega
      have q0 := cellAt (i := 0) (v := .int .u64 (n : Int)) h1 rfl
      have C := fun w => Lib.hid (fold_any n w hb)
      have hd := dn_le n
      have e1 : bits .xor .i64 ((dn n : Nat) : Int) 65535 = ((65535 - dn n : Nat) : Int) := by
        have := i64_xor_nat (dn n) 65535 (by omega) (by omega)
        rw [show ((65535 : Nat) : Int) = 65535 by rfl] at this
        rw [this, xor_mask hd]
      obtain ⟨z, hz⟩ : ∃ z, z = dn n := ⟨_, rfl⟩
      rw [← hz] at e1
      have HZ := Lib.hid hz
      have HN := Lib.hid hn
      have C2 : ∀ w, Hid (Calls Try.prog 99 #[.int .u64 (n : Int)] w fun e w' => e = .returned (.int .i64 (z : Nat)) ∧ w' = w) := fun w => by rw [hz]; exact C w
      clear C hz hn h1 hb hd
      go_wp2_with (go_at_call 99; (with_reducible refine (C2 _).out.mono ?_); rintro e w1 ⟨rfl, rfl⟩)
      go_ret
      refine ⟨?_, ?_⟩
      · rw [show sm s.data.toList = 65535 - z by unfold sm; rw [HZ.out, HN.out]]; rfl
      · exact A2.out.trans (hst.out.2.2.below (by have := HT0.out; simp; omega) A2.out.size)
end Go.Proofs.Ythdkbocokefdhaa
