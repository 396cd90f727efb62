import Derived.Test.YthdkbocokefdhaaTabP
/- Ages stay below a store's life. -/
namespace Go.Proofs.Ythdkbocokefdhaa
def AgeT (st : Sto) (L : List En) : Prop := ∀ e ∈ L, e.age ≤ st.life
theorem AgeT.nil (st : Sto) : AgeT st [] := fun e h => by cases h
theorem AgeT.tick {st : Sto} {L : List En} (_ : AgeT st L) : AgeT st (tickL st L) := by
  intro e he
  unfold tickL at he
  obtain ⟨f, hf, rfl⟩ := List.mem_map.1 he
  have := List.mem_filter.1 hf
  have h2 : f.age + 1 < st.life := of_decide_eq_true this.2
  show f.age + 1 ≤ st.life
  omega
theorem AgeT.putL {st : Sto} {e : En} (he : e.age ≤ st.life) : ∀ {L : List En}, AgeT st L → AgeT st (putL L e) := by
  intro L h f hf
  rcases putL_mem hf with rfl | h1
  · exact he
  · exact h f h1.1
theorem age_get {st : Sto} {L : List En} (h : AgeT st L) (k : Ky) : ((findL L k).getD ⟨k, [], false, 0⟩).age ≤ st.life := by
  cases hf : findL L k with
  | none => exact Nat.zero_le _
  | some e => exact h e (findL_mem hf).1
theorem AgeT.add {st : Sto} {L : List En} (h : AgeT st L) (hg : GoodT st L) (x : List UInt8) : AgeT st (addT st L x).2 := by
  rcases addT_cases st L x hg with ⟨c, h1, _⟩ | ⟨p, e, _, _, h3, _, _, _, _, _, _, _, ⟨_, h9⟩ | ⟨_, h9⟩⟩
  · rw [h1]; exact h
  all_goals
    rw [h9]
    have := age_get h (kyOf p.h)
    rw [h3] at this
    exact AgeT.putL (e := ⟨kyOf p.h, _, _, e.age⟩) this h
end Go.Proofs.Ythdkbocokefdhaa
