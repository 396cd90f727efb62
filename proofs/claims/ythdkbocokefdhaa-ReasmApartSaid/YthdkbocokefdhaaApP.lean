import Derived.Test.YthdkbocokefdhaaAwp
/- Pieces of two packets, mixed: in plain Lean. -/
namespace Go.Proofs.Ythdkbocokefdhaa
set_option maxRecDepth 100000
open Go.RowKit
/-- a packet's entry, when its first i pieces came -/
def eO (h : H4) (s : List UInt8) (z n i : Nat) : En := if i = n then ⟨kyOf h, [], true, 0⟩ else ⟨kyOf h, part h s z n (fun k => decide (k < i)), false, 0⟩
theorem eO_k (h : H4) (s : List UInt8) (z n i : Nat) : (eO h s z n i).k = kyOf h := by unfold eO; split <;> rfl
theorem eO_len {h : H4} {s : List UInt8} {z n : Nat} (c : CutOk h s z n) (i : Nat) : lenP (eO h s z n i).ps ≤ s.length := by
  unfold eO; split
  · exact Nat.zero_le _
  · exact lenP_part h s z n _ c.hi
def AP (a b : En) (i i' : Nat) (L : List En) : Prop :=
  (i = 0 ∧ i' = 0 ∧ L = []) ∨ (0 < i ∧ i' = 0 ∧ L = [a]) ∨ (i = 0 ∧ 0 < i' ∧ L = [b]) ∨ (0 < i ∧ 0 < i' ∧ (L = [a, b] ∨ L = [b, a]))
theorem AP.symm {a b : En} {i i' : Nat} {L : List En} (h : AP a b i i' L) : AP b a i' i L := by
  rcases h with ⟨h1, h2, h3⟩ | ⟨h1, h2, h3⟩ | ⟨h1, h2, h3⟩ | ⟨h1, h2, h3⟩
  · exact .inl ⟨h2, h1, h3⟩
  · exact .inr (.inr (.inl ⟨h2, h1, h3⟩))
  · exact .inr (.inl ⟨h2, h1, h3⟩)
  · exact .inr (.inr (.inr ⟨h2, h1, h3.symm⟩))
theorem ap_step {h : H4} {s p : List UInt8} {z n : Nat} (c : CutOk h s z n) (h0 : h.off = 0) (h1 : h.mf = false) (hp : putE h s = .ok p) {b : En} (hk : b.k ≠ kyOf h) (hb : lenP b.ps ≤ 5000) (hs : s.length ≤ 5000) {i i' : Nat} {L : List En}
    (ha : AP (eO h s z n i) b i i' L) (hi : i < n) {x : List UInt8} (hx : putE (pcs h s z i).h (pcs h s z i).s = .ok x) :
    ∃ L', addT room64 L x = ((if i + 1 = n then (p, 0) else ([], 10)), L') ∧ AP (eO h s z n (i + 1)) b (i + 1) i' L' := by
  have hk' : ¬ kyOf h = b.k := fun e => hk e.symm
  have hai : eO h s z n i = ⟨kyOf h, part h s z n (fun k => decide (k < i)), false, 0⟩ := by unfold eO; rw [if_neg (by omega)]
  have hp0 : i = 0 → part h s z n (fun k => decide (k < i)) = [] := fun e => part_none (fun k _ => by simp [e])
  have hel := eO_len c i
  have hfe : (findL L (kyOf h)).getD ⟨kyOf h, [], false, 0⟩ = ⟨kyOf h, part h s z n (fun k => decide (k < i)), false, 0⟩ := by
    rcases ha with ⟨e, _, rfl⟩ | ⟨_, _, rfl⟩ | ⟨e, _, rfl⟩ | ⟨_, _, rfl | rfl⟩
    · rw [hp0 e]; rfl
    · rw [hai, findL_one]; rfl
    · rw [hp0 e]; simp [findL, hk]
    · rw [hai]; simp [findL]
    · rw [hai]; simp [findL, hk]
  have hln : L.length < 64 ∧ btsL L ≤ 10000 := by
    rcases ha with ⟨_, _, rfl⟩ | ⟨_, _, rfl⟩ | ⟨_, _, rfl⟩ | ⟨_, _, rfl | rfl⟩
    all_goals (refine ⟨by simp, ?_⟩; simp only [btsL, List.map_cons, List.map_nil, List.sum_cons, List.sum_nil]; omega)
  have hput : ∀ e : En, e.k = kyOf h → AP e b (i + 1) i' (putL L e) := fun e he => by
    have hke : ¬ b.k = e.k := by rw [he]; exact hk
    have hke' : ¬ e.k = b.k := fun q => hke q.symm
    rcases ha with ⟨_, e2, rfl⟩ | ⟨_, e2, rfl⟩ | ⟨_, e2, rfl⟩ | ⟨_, e2, rfl | rfl⟩
    · exact .inr (.inl ⟨by omega, e2, putL_nil e⟩)
    · refine .inr (.inl ⟨by omega, e2, ?_⟩); simp [putL, keysL, eO_k, he]
    · refine .inr (.inr (.inr ⟨by omega, e2, .inr ?_⟩)); simp [putL, keysL, hke']
    · refine .inr (.inr (.inr ⟨by omega, e2, .inl ?_⟩)); simp [putL, keysL, eO_k, he, hk]
    · refine .inr (.inr (.inr ⟨by omega, e2, .inr ?_⟩)); simp [putL, keysL, eO_k, he, hk]
  have hadd := addT_pcs c (st := room64) hi hx hfe (fun _ => hln.1) (by show _ ≤ 1048576; omega)
  rw [if_neg (by simp)] at hadd
  have hS : (fun k => decide (k < i) || decide (k = i)) = (fun k => decide (k < i + 1)) := funext fun k => by
    rw [Bool.eq_iff_iff, Bool.or_eq_true, decide_eq_true_eq, decide_eq_true_eq, decide_eq_true_eq]; omega
  rw [hS] at hadd
  by_cases hn : i + 1 = n
  · have hall : ∀ k, k < n → (fun k => decide (k < i + 1)) k = true := fun k hk2 => by simp; omega
    rw [if_pos ((part_whole c _).2 hall), part_fin c h0 h1 hall hp] at hadd
    rw [if_pos hn]
    refine ⟨_, hadd, ?_⟩
    have e1 : eO h s z n (i + 1) = ⟨kyOf h, [], true, 0⟩ := by unfold eO; rw [if_pos hn]
    rw [e1]
    exact hput _ rfl
  · have hnw : ¬ wholeB (part h s z n (fun k => decide (k < i + 1))) = true := fun hw => by
      have := (part_whole c _).1 hw (i + 1) (by omega)
      simp at this
    rw [if_neg hnw] at hadd
    rw [if_neg hn]
    refine ⟨_, hadd, ?_⟩
    have e1 : eO h s z n (i + 1) = ⟨kyOf h, part h s z n (fun k => decide (k < i + 1)), false, 0⟩ := by unfold eO; rw [if_neg hn]
    rw [e1]
    exact hput _ rfl
end Go.Proofs.Ythdkbocokefdhaa
