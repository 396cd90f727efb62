import Derived.Test.YtmijfhfjhbckdaaEnts
/- The document's Need; and what it says of getP. -/
namespace Go.Proofs.Ytmijfhfjhbckdaa
set_option maxRecDepth 100000
open Go.RowKit
/-- how many bytes stand behind a kind; none: too short to say -/
def needP (k : Nat) (l : List UInt8) : Nat × Bool :=
  if k = 0 ∨ k = 9 then if l.length < 2 then (0, false) else (2 + bv (l.take 2), true)
  else if k = 1 then (14, true) else if k = 4 then (8, true) else if k = 8 then (4, true) else if k = 10 then (0, true) else (2, true)
set_option maxHeartbeats 4000000 in
theorem need_any (k : Nat) (hk : k < 11) (s : ByteArray) (w : World) (hs : s.size ≤ MX) : Calls Try.prog 32 #[.int .i64 (k : Nat), .string s] w fun e w' => e = .returned (.tuple #[.int .i64 ((needP k s.data.toList).1 : Nat), .bool (needP k s.data.toList).2]) ∧ w' = w := by
  obtain ⟨n2, hn2⟩ : ∃ x, x = bv (s.data.toList.take 2) := ⟨_, rfl⟩
  have hn9 : n2 < 65536 := by rw [hn2]; exact bv_u16 _
  have pkt : ∀ k, (k = 0 ∨ k = 9) → needP k s.data.toList = if s.size < 2 then (0, false) else (2 + n2, true) := fun k h => by
    unfold needP; rw [if_pos h, ← hn2]; rfl
  have PK := Lib.hid pkt
  have w1 : IntKind.i64.wrap (n2 : Int) = (n2 : Int) := IntWalk.i64_in _ (by omega)
  have w2 : IntKind.i64.wrap (2 + (n2 : Int)) = 2 + (n2 : Int) := IntWalk.i64_in _ (by omega)
  have w3 : ((2 + n2 : Nat) : Int) = 2 + (n2 : Int) := by omega
  have W3 := Lib.hid w3
  clear pkt w3
  by_cases h2 : s.size < 2
  · have h2' : (s.size : Int) < 2 := by omega
    have e2 : ∀ k, (k = 0 ∨ k = 9) → needP k s.data.toList = (0, false) := fun k h => by rw [PK.out k h, if_pos h2]
    have E2 := Lib.hid e2
    clear hn2 e2 PK
    have : k = 0 ∨ k = 1 ∨ k = 2 ∨ k = 3 ∨ k = 4 ∨ k = 5 ∨ k = 6 ∨ k = 7 ∨ k = 8 ∨ k = 9 ∨ k = 10 := by omega
    rcases this with rfl | rfl | rfl | rfl | rfl | rfl | rfl | rfl | rfl | rfl | rfl
    all_goals (go_enter Try.func32, Try.ntmps32; go_wp2_with (fail); go_ret2; first | exact ⟨rfl, rfl⟩ | (rw [E2.out _ (by simp)]; exact ⟨rfl, rfl⟩))
  · have h2' : ¬ (s.size : Int) < 2 := by omega
    have h2'' : decide ((s.size : Int) < 2) = false := decide_eq_false h2'
    have e2 : ∀ k, (k = 0 ∨ k = 9) → needP k s.data.toList = (2 + n2, true) := fun k h => by rw [PK.out k h, if_neg h2]
    have E2 := Lib.hid e2
    have t2 : (2 : Int) ≤ (s.size : Int) := by omega
    have t2' : 2 ≤ s.size := by omega
    obtain ⟨x2, hx2⟩ : ∃ x, x = s.extract 0 2 := ⟨_, rfl⟩
    have VA : Hid (∀ V, Calls Try.prog 28 #[.string x2] V fun e w' => e = .returned (.int .u64 (n2 : Nat)) ∧ w' = V) := fun V => by
      have h := rvalue_any (s.extract 0 2) V (by rw [ByteArray.size_extract]; omega)
      rw [ext_list, List.drop_zero, ← hn2, ← hx2] at h
      exact h
    have hx2' := hx2.symm
    clear hn2 e2 PK hx2
    have : k = 0 ∨ k = 1 ∨ k = 2 ∨ k = 3 ∨ k = 4 ∨ k = 5 ∨ k = 6 ∨ k = 7 ∨ k = 8 ∨ k = 9 ∨ k = 10 := by omega
    rcases this with rfl | rfl | rfl | rfl | rfl | rfl | rfl | rfl | rfl | rfl | rfl
    all_goals (go_enter Try.func32, Try.ntmps32; go_wp2_with (go_at_call 28; (with_reducible refine (VA.out _).mono ?_); rintro e w6 ⟨rfl, rfl⟩); go_ret2; first | exact ⟨rfl, rfl⟩ | (rw [E2.out _ (by simp), W3.out]; exact ⟨rfl, rfl⟩))
theorem get_need {k : Nat} (hk : k < 11) (l : List UInt8) : ((needP k l).2 = false ∨ l.length < (needP k l).1) ∧ getP k l = none ∨
    (needP k l).2 = true ∧ (needP k l).1 ≤ l.length ∧ ∃ bd, getP k l = some (bd, l.drop (needP k l).1) ∧ getP k (l.take (needP k l).1) = some (bd, []) := by
  have : (k = 0 ∨ k = 9) ∨ k = 1 ∨ k = 4 ∨ k = 8 ∨ k = 10 ∨ (k = 2 ∨ k = 3 ∨ k = 5 ∨ k = 6 ∨ k = 7) := by omega
  rcases this with h | rfl | rfl | rfl | rfl | h
  · have e : needP k l = if l.length < 2 then (0, false) else (2 + bv (l.take 2), true) := by unfold needP; rw [if_pos h]
    rw [e, get_pkt l h]
    by_cases h2 : l.length < 2
    · rw [if_pos h2, if_pos h2]; exact .inl ⟨.inl rfl, rfl⟩
    · rw [if_neg h2, if_neg h2]
      have hd : (l.drop 2).length = l.length - 2 := List.length_drop
      by_cases h3 : (l.drop 2).length < bv (l.take 2)
      · rw [if_pos h3]; exact .inl ⟨.inr (by show l.length < 2 + _; omega), rfl⟩
      · rw [if_neg h3]
        refine .inr ⟨rfl, by show 2 + _ ≤ _; omega, _, by rw [List.drop_drop], ?_⟩
        have ht : (l.take (2 + bv (l.take 2))).take 2 = l.take 2 := by rw [List.take_take]; congr 1; omega
        have hdt : (l.take (2 + bv (l.take 2))).drop 2 = (l.drop 2).take (bv (l.take 2)) := by rw [List.drop_take]; congr 1; omega
        show getP k (l.take (2 + bv (l.take 2))) = _
        rw [get_pkt _ h, ht, hdt, if_neg (by rw [List.length_take]; omega), if_neg (by rw [List.length_take]; omega)]
        congr 2
        · rw [List.take_take]; congr 2; omega
        · rw [List.drop_eq_nil_iff, List.length_take]; omega
  · have e : needP 1 l = (14, true) := rfl
    rw [e]
    by_cases h2 : l.length < 14
    · exact .inl ⟨.inr h2, by simp [getP, h2]⟩
    · refine .inr ⟨rfl, by show 14 ≤ _; omega, .bk (bv (l.take 2)) ((l.drop 2).take 4) (bv ((l.drop 6).take 8)), by simp [getP, h2], ?_⟩
      have h3 : ¬ (l.take 14).length < 14 := by rw [List.length_take]; omega
      simp [getP, h3, List.take_take, List.drop_take]
      omega
  · have e : needP 4 l = (8, true) := rfl
    rw [e]
    by_cases h2 : l.length < 8
    · exact .inl ⟨.inr h2, by simp [getP, h2]⟩
    · refine .inr ⟨rfl, by show 8 ≤ _; omega, .tun (tunP l), by simp [getP, h2], ?_⟩
      have h3 : ¬ (l.take 8).length < 8 := by rw [List.length_take]; omega
      simp [getP, h3, tunP, List.take_take, List.drop_take]
      omega
  · have e : needP 8 l = (4, true) := rfl
    rw [e]
    by_cases h2 : l.length < 4
    · exact .inl ⟨.inr h2, by simp [getP, h2]⟩
    · refine .inr ⟨rfl, by show 4 ≤ _; omega, .mov (bv (l.take 2)) (bv ((l.drop 2).take 2)), by simp [getP, h2], ?_⟩
      have h3 : ¬ (l.take 4).length < 4 := by rw [List.length_take]; omega
      simp [getP, h3, List.take_take, List.drop_take]
      omega
  · have e : needP 10 l = (0, true) := rfl
    rw [e]
    exact .inr ⟨rfl, Nat.zero_le _, .non, by simp [getP], by simp [getP]⟩
  · have e : needP k l = (2, true) := by unfold needP; rcases h with rfl | rfl | rfl | rfl | rfl <;> rfl
    rw [e, get_num l h]
    by_cases h2 : l.length < 2
    · rw [if_pos h2]; exact .inl ⟨.inr h2, rfl⟩
    · rw [if_neg h2]
      refine .inr ⟨rfl, by show 2 ≤ _; omega, _, rfl, ?_⟩
      show getP k (l.take 2) = _
      rw [get_num _ h, if_neg (by rw [List.length_take]; omega), List.take_take]
      simp
end Go.Proofs.Ytmijfhfjhbckdaa
