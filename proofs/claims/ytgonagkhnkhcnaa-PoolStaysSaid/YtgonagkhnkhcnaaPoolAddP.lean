import Derived.Test.YtgonagkhnkhcnaaPoolOps
/- (*Pool).Add: what it is told, in plain words; weight.Norm. -/
namespace Go.Proofs.Ytgonagkhnkhcnaa
set_option maxRecDepth 100000
open Go.RowKit
theorem norm_ok (b : Nat) (w : World) (hb : b < W64) (h : FM.may b = true) : Calls Try.prog 22 #[.float .f64 b] w fun e w' => e = .returned (.tuple #[.float .f64 (FM.rung b), .int .i64 0]) ∧ w' = w := by
  have C1 := Lib.hid (fun W => check_ok b W hb h)
  have C2 := Lib.hid (fun W => abs_any b W hb)
  clear hb h
  go_enter Try.func22, Try.ntmps22
  go_wp2_with (first | (go_at_call 30; refine (C1.out _).mono ?_; rintro e w1 ⟨rfl, rfl⟩) | (go_at_call 31; refine (C2.out _).mono ?_; rintro e w2 ⟨rfl, rfl⟩))
  go_ret2
  exact ⟨rfl, rfl⟩
theorem rung_rung (b : Nat) : FM.rung (FM.rung b) = FM.rung b := by unfold FM.rung; omega
theorem may_norm {b : Nat} (h : FM.may b = true) : FM.may (FM.rung b) = true := by
  have h1 := FM.may_rung h
  unfold FM.may
  rw [decide_eq_true h1, Bool.or_true]
theorem points_norm {b : Nat} (h : FM.may b = true) : FM.points (FM.rung b) = FM.points b := by
  unfold FM.points
  rw [may_norm h, h, rung_rung]
def nb (b : Bk) : Bk := ⟨b.id, b.addr, FM.rung b.wt⟩
theorem nb_ok {b : Bk} (h : bk_ok b = true) : bk_ok (nb b) = true := by
  unfold bk_ok at h ⊢
  simp only [Bool.and_eq_true] at h ⊢
  exact ⟨h.1, may_norm h.2⟩
def addE (L : List Bk) (b : Bk) : Int := if bk_ok b = true then (if b.id ∈ ids L then 12 else if 64 ≤ L.length then 11 else 0) else 1
def ins (b : Bk) : List Bk → List Bk
  | [] => [b]
  | c :: t => if b.id < c.id then b :: c :: t else c :: ins b t
theorem ins_perm (b : Bk) : ∀ L, (ins b L).Perm (b :: L)
  | [] => List.Perm.refl _
  | c :: t => by
    unfold ins
    by_cases h : b.id < c.id
    · rw [if_pos h]
    · rw [if_neg h]
      exact ((ins_perm b t).cons c).trans (List.Perm.swap b c t)
theorem ins_risen (b : Bk) : ∀ {L : List Bk}, risen L → b.id ∉ ids L → risen (ins b L)
  | [], _, _ => List.pairwise_singleton ..
  | c :: t, hr, hn => by
    have hr' := List.pairwise_cons.1 hr
    have hn1 : b.id ≠ c.id := fun e => hn (by rw [e]; exact List.mem_cons_self ..)
    have hn2 : b.id ∉ ids t := fun h => hn (List.mem_cons_of_mem _ h)
    unfold ins
    by_cases h : b.id < c.id
    · rw [if_pos h]
      refine List.pairwise_cons.2 ⟨fun x hx => ?_, hr⟩
      rcases List.mem_cons.1 hx with rfl | hx
      · exact h
      · have := hr'.1 x hx; omega
    · rw [if_neg h]
      refine List.pairwise_cons.2 ⟨fun x hx => ?_, ins_risen b hr'.2 hn2⟩
      rcases List.mem_cons.1 ((ins_perm b t).mem_iff.1 hx) with rfl | hx
      · omega
      · exact hr'.1 x hx
theorem Good.ins {L : List Bk} (h : Good L) {b : Bk} (hb : bk_ok b = true) (hn : b.id ∉ ids L) (hl : L.length < 64) : Good (ins (nb b) L) := by
  have hp := ins_perm (nb b) L
  refine ⟨ins_risen (nb b) h.risen hn, by rw [hp.length_eq, List.length_cons]; omega, ?_, fun c hc => ?_⟩
  · rw [List.all_eq_true]
    intro c hc
    rcases List.mem_cons.1 (hp.mem_iff.1 hc) with rfl | hc
    · exact nb_ok hb
    · exact List.all_eq_true.1 h.ok c hc
  · rcases List.mem_cons.1 (hp.mem_iff.1 hc) with rfl | hc
    · show FM.rung b.wt < _; unfold FM.rung; omega
    · exact h.plus c hc
theorem Good.out {L : List Bk} (h : Good L) (i : Int) : Good (out L i) := by
  have hs := out_sub L i
  refine ⟨h.risen.sublist hs, Nat.le_trans hs.length_le h.few, ?_, fun c hc => h.plus c (hs.subset hc)⟩
  rw [List.all_eq_true]
  exact fun c hc => List.all_eq_true.1 h.ok c (hs.subset hc)
def addL (L : List Bk) (b : Bk) : List Bk := if addE L b = 0 then ins (nb b) L else L
end Go.Proofs.Ytgonagkhnkhcnaa
