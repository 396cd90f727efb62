import Derived.Test.YtfagkmmenfeppaaDoorStrictP
/- What fields were told stand in the bytes. -/
namespace Go.Proofs.YtfagkmmenfeppaaDoor
set_option maxRecDepth 100000
theorem take_be (l : List UInt8) : l = be (bv l) l.length := by
  refine bv_inj _ _ (by rw [be_length]) ?_
  rw [bv_be, Nat.mod_eq_of_lt (bv_lt l)]
theorem fdB_cons (f : Fd) (fs : List Fd) : fdB (f :: fs) = be f.1 1 ++ be f.2.length 2 ++ f.2 ++ fdB fs := by unfold fdB; rw [List.flatMap_cons]
def goodF (gs : List Fd) : Prop := ∀ x ∈ gs, x.1 < 256 ∧ x.1 ≠ 3 ∧ x.2.length < 65536
theorem flE_inv (tot : Nat) : ∀ (k : Nat) (l : List UInt8) (acc : List Fd) (a0 n0 : Nat) (tw : Bool) (fs : List Fd) (a n : Nat), l.length ≤ k → l.length ≤ tot → flE k tot l acc a0 n0 tw = .ok (fs, a, n) →
    tw = false ∧ ∃ gs, fs = acc ++ gs ∧ goodF gs ∧ ((a = a0 ∧ l = fdB gs) ∨ (a0 = 0 ∧ 0 < a ∧ l.length = (fdB gs).length + 7)) := by
  intro k
  induction k with
  | zero =>
    intro l acc a0 n0 tw fs a n hk ht h
    have hl : l = [] := List.length_eq_zero_iff.1 (by omega)
    subst hl
    cases tw with
    | true => simp [flE] at h
    | false =>
      rw [flE_nil] at h
      simp at h
      exact ⟨rfl, [], by simp [h.1], (fun x hx => by cases hx), .inl ⟨h.2.1.symm, rfl⟩⟩
  | succ k ih =>
    intro l acc a0 n0 tw fs a n hk ht h
    rw [flE] at h
    by_cases h0 : l.length = 0
    · have hl : l = [] := List.length_eq_zero_iff.1 h0
      subst hl
      cases tw with
      | true => simp at h
      | false =>
        simp at h
        exact ⟨rfl, [], by simp [h.1], (fun x hx => by cases hx), .inl ⟨h.2.1.symm, rfl⟩⟩
    · rw [if_neg h0] at h
      by_cases h3 : l.length < 3
      · rw [if_pos h3] at h; cases h
      · rw [if_neg h3] at h
        by_cases h4 : (l.drop 3).length < bv ((l.drop 1).take 2)
        · rw [if_pos h4] at h; cases h
        · rw [if_neg h4] at h
          have hb := bv_lt ((l.drop 1).take 2)
          have ht1 := bv_lt (l.take 1)
          have l1 : (l.take 1).length = 1 := by rw [List.length_take]; omega
          have l2 : ((l.drop 1).take 2).length = 2 := by rw [List.length_take, List.length_drop]; omega
          have l3 : (l.drop 3).length = l.length - 3 := List.length_drop
          rw [l2] at hb
          rw [l1] at ht1
          have e1 := take_be (l.take 1)
          have e2 := take_be ((l.drop 1).take 2)
          rw [l1] at e1
          rw [l2] at e2
          have el : l = l.take 1 ++ ((l.drop 1).take 2 ++ l.drop 3) := by
            have : l.drop 3 = (l.drop 1).drop 2 := by rw [List.drop_drop]
            rw [this, List.take_append_drop, List.take_append_drop]
          by_cases h5 : bv (l.take 1) ≠ 3
          · rw [if_pos h5] at h
            obtain ⟨q1, gs, q2, q3, q4⟩ := ih _ _ _ _ _ _ _ _ (by rw [List.length_drop, l3]; omega) (by rw [List.length_drop, l3]; omega) h
            have hlen : ((l.drop 3).take (bv ((l.drop 1).take 2))).length = bv ((l.drop 1).take 2) := by rw [List.length_take]; omega
            refine ⟨q1, (bv (l.take 1), (l.drop 3).take (bv ((l.drop 1).take 2))) :: gs, by rw [q2]; simp, ?_, ?_⟩
            · intro x hx
              rcases List.mem_cons.1 hx with rfl | hx
              · exact ⟨by omega, h5, by rw [hlen]; omega⟩
              · exact q3 x hx
            · rcases q4 with ⟨q5, q6⟩ | ⟨q5, q6, q7⟩
              · refine .inl ⟨q5, ?_⟩
                rw [fdB_cons, ← q6, hlen, ← e1, ← e2]
                conv => lhs; rw [el]
                rw [List.append_assoc, List.append_assoc, List.take_append_drop]
              · refine .inr ⟨q5, q6, ?_⟩
                rw [fdB_cons, List.length_append, List.length_append, List.length_append, be_length, be_length, hlen]
                rw [List.length_drop, l3] at q7
                omega
          · rw [if_neg h5] at h
            by_cases h6 : bv ((l.drop 1).take 2) ≠ 4
            · rw [if_pos h6] at h; cases h
            · rw [if_neg h6] at h
              have h44 : bv ((l.drop 1).take 2) = 4 := by omega
              obtain ⟨q1, gs, q2, q3, q4⟩ := ih _ _ _ _ _ _ _ _ (by rw [List.length_drop, l3]; omega) (by rw [List.length_drop, l3]; omega) h
              simp only [Bool.or_eq_false_iff, decide_eq_false_iff_not] at q1
              refine ⟨q1.1, gs, q2, q3, .inr ⟨by omega, ?_, ?_⟩⟩
              · rcases q4 with ⟨q5, _⟩ | ⟨_, q6, _⟩
                · omega
                · exact q6
              · rcases q4 with ⟨_, q6⟩ | ⟨q5, _, _⟩
                · have := congrArg List.length q6
                  rw [List.length_drop, l3] at this
                  omega
                · omega
end Go.Proofs.YtfagkmmenfeppaaDoor
