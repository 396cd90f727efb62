import Derived.Test.YtfagkmmenfeppaaDoorRefF
/- One field, told off a text at a place: in plain Lean. -/
namespace Go.Proofs.YtfagkmmenfeppaaDoor
set_option maxRecDepth 100000
theorem cut_at (l : List UInt8) {n a k : Nat} (h : a + k ≤ n) : ((l.take n).drop a).take k = (l.drop a).take k := by
  rw [List.drop_take, List.take_take, Nat.min_eq_left (by omega)]
theorem bv_one' (l : List UInt8) (p : Nat) (h : p < l.length) : bv ((l.drop p).take 1) = l[p].toNat := by
  rw [List.drop_eq_getElem_cons h]
  exact bv_one _ _
theorem flE_round {l : List UInt8} {n k p : Nat} (fs : List Fd) (q sn : Nat) (tw : Bool) (hn : n ≤ l.length) (hp : p < n) (hk : n - p ≤ k) (cb m : Nat) (hcb : cb = (l[p]'(by omega)).toNat) (hm : m = bv ((l.drop (p + 1)).take 2)) :
    (n - p < 3 → flE k n ((l.take n).drop p) fs q sn tw = .error 4) ∧
    (¬ n - p < 3 → n - p - 3 < m → flE k n ((l.take n).drop p) fs q sn tw = .error 4) ∧
    (¬ n - p < 3 → m ≤ n - p - 3 → cb = 3 → m ≠ 4 → flE k n ((l.take n).drop p) fs q sn tw = .error 4) ∧
    (¬ n - p < 3 → m ≤ n - p - 3 → cb ≠ 3 → ∃ k', n - (p + 3 + m) ≤ k' ∧ flE k n ((l.take n).drop p) fs q sn tw = flE k' n ((l.take n).drop (p + 3 + m)) (fs ++ [(cb, (l.drop (p + 3)).take m)]) q sn tw) ∧
    (¬ n - p < 3 → m ≤ n - p - 3 → cb = 3 → m = 4 → ∃ k', n - (p + 3 + 4) ≤ k' ∧ flE k n ((l.take n).drop p) fs q sn tw = flE k' n ((l.take n).drop (p + 3 + 4)) fs (p + 3) (bv ((l.drop (p + 3)).take 4)) (tw || decide (0 < q))) := by
  obtain ⟨k', rfl⟩ : ∃ k', k = k' + 1 := ⟨k - 1, by omega⟩
  have hlen : ((l.take n).drop p).length = n - p := by rw [List.length_drop, List.length_take, Nat.min_eq_left hn]
  have hl3 : (((l.take n).drop p).drop 3).length = n - p - 3 := by rw [List.length_drop, hlen]
  have hc : bv (((l.take n).drop p).take 1) = cb := by rw [cut_at l (by omega), hcb, bv_one']
  have hd3 : ((l.take n).drop p).drop 3 = (l.take n).drop (p + 3) := List.drop_drop
  refine ⟨fun h => ?_, fun h1 h2 => ?_, fun h1 h2 h3 h4 => ?_, fun h1 h2 h3 => ?_, fun h1 h2 h3 h4 => ?_⟩
  · rw [flE, hlen, if_neg (by omega), if_pos h]
  all_goals
    have hm2 : bv ((((l.take n).drop p).drop 1).take 2) = m := by rw [List.drop_drop, cut_at l (by omega), hm]
  · rw [flE, hlen, if_neg (by omega), if_neg h1, hl3, hm2, if_pos h2]
  · rw [flE, hlen, if_neg (by omega), if_neg h1, hl3, hm2, if_neg (by omega), hc, if_neg (fun z => z h3), if_pos h4]
  · refine ⟨k', by omega, ?_⟩
    rw [flE, hlen, if_neg (by omega), if_neg h1, hl3, hm2, if_neg (by omega), hc, if_pos h3, hd3, List.drop_drop, cut_at l (by omega)]
  · refine ⟨k', by omega, ?_⟩
    rw [flE, hlen, if_neg (by omega), if_neg h1, hl3, hm2, if_neg (by omega), hc, if_neg (fun z => z h3), if_neg (fun z => z h4), hd3, List.drop_drop, cut_at l (by omega), show n - (n - p - 3) = p + 3 from by omega]
theorem head_at {l : List UInt8} {n z fn fc : Nat} (loc : Bool) (hn : n ≤ l.length) (h16 : 16 ≤ n) :
    (z = 0 → follE (l.take n) loc (fn, fc, z) = tailE (l.take n) (if loc then (0, [], [], 0, 0) else (fn, [], [], 0, 0)) ((l.take n).drop 16)) ∧
    (0 < z → n < 20 + 2 * z → follE (l.take n) loc (fn, fc, z) = .error 4) ∧
    (0 < z → 20 + 2 * z ≤ n → follE (l.take n) loc (fn, fc, z) = tailE (l.take n) (if loc then (0, [], [], 0, 0) else (fn, (l.drop 16).take z, (l.drop (16 + z)).take z, bv ((l.drop (16 + 2 * z)).take 2), bv ((l.drop (18 + 2 * z)).take 2))) ((l.take n).drop (20 + 2 * z))) := by
  have hlen : ((l.take n).drop 16).length = n - 16 := by rw [List.length_drop, List.length_take, Nat.min_eq_left hn]
  refine ⟨fun h => ?_, fun h1 h2 => ?_, fun h1 h2 => ?_⟩
  · subst h
    unfold follE headE
    rw [if_neg (by simp)]
  · unfold follE headE
    rw [if_pos h1, hlen, if_pos (by show n - 16 < 2 * z + 4; omega)]
  · unfold follE headE
    rw [if_pos h1, hlen, if_neg (by show ¬ n - 16 < 2 * z + 4; omega)]
    simp only [List.drop_drop]
    have e1 : 16 + z + z + 2 + 2 = 20 + 2 * z := by omega
    have e2 : 16 + z + z = 16 + 2 * z := by omega
    have e3 : 16 + z + z + 2 = 18 + 2 * z := by omega
    rw [e1, e3, e2, cut_at l (by omega), cut_at l (by omega), cut_at l (by omega), cut_at l (by omega)]
theorem tail_at {L : List UInt8} {h : Hd} {rest : List UInt8} :
    (∀ e, flE rest.length L.length rest [] 0 0 false = .error e → tailE L h rest = .error e) ∧
    (∀ fs q sn, flE rest.length L.length rest [] 0 0 false = .ok (fs, q, sn) → (q = 0 → tailE L h rest = .ok (h, fs, q)) ∧ (0 < q → sealOk L q sn = true → tailE L h rest = .ok (h, fs, q)) ∧ (0 < q → sealOk L q sn = false → tailE L h rest = .error 5)) := by
  refine ⟨fun e he => ?_, fun fs q sn he => ⟨fun h0 => ?_, fun h1 h2 => ?_, fun h1 h2 => ?_⟩⟩
  · unfold tailE; rw [he]
  · unfold tailE; rw [he]; exact if_neg (by omega)
  · unfold tailE; rw [he]
    show (if 0 < q then (if sealOk L q sn then (.ok (h, fs, q) : Except Nat (Hd × List Fd × Nat)) else .error 5) else .ok (h, fs, q)) = _
    rw [if_pos h1, if_pos h2]
  · unfold tailE; rw [he]
    show (if 0 < q then (if sealOk L q sn then (.ok (h, fs, q) : Except Nat (Hd × List Fd × Nat)) else .error 5) else .ok (h, fs, q)) = _
    rw [if_pos h1, if_neg (by rw [h2]; exact Bool.noConfusion)]
end Go.Proofs.YtfagkmmenfeppaaDoor
