import Derived.Test.YtfagkmmenfeppaaDoorStrictR
/- A header that was told may be put: the law. -/
namespace Go.Proofs.YtfagkmmenfeppaaDoor
set_option maxRecDepth 100000
/-- what was told, as a header -/
def stmOf (loc : Bool) (h : Hd) (fs : List Fd) : Stm := ⟨loc, h.1, h.2.1, h.2.2.1, h.2.2.2.1, h.2.2.2.2, fs.map castF⟩
theorem nat_cast (fs : List Fd) : (fs.map castF).map natF = fs := by
  rw [List.map_map]
  conv => rhs; rw [← List.map_id fs]
  exact List.map_congr_left (fun x _ => by simp [castF, natF])
theorem stm_rest (loc : Bool) (h : Hd) (fs : List Fd) (f : Fam) : (stmOf loc h fs).rest f = headB f.2.2 h.2.1 h.2.2.1 h.2.2.2.1 h.2.2.2.2 ++ fdB fs := by
  unfold Stm.rest stmOf
  simp only [nat_cast, Int.toNat_natCast]
theorem good_ok {fs : List Fd} (hg : goodF fs) : (fs.map castF).all fOk = true := by
  rw [List.all_eq_true]
  intro x hx
  obtain ⟨y, hy, rfl⟩ := List.mem_map.1 hx
  have := hg y hy
  unfold fOk castF
  exact decide_eq_true (by show 0 ≤ (y.1 : Int) ∧ (y.1 : Int) ≤ 255 ∧ (y.1 : Int) ≠ 3 ∧ y.2.length ≤ 65535; omega)
theorem most_small {f : Fam} (hf : f ∈ fams) {p : Nat} (hp : p < 65536) (hz : f.2.2 = 0 → p = 0) : pOk (mostOf f) (p : Int) = true := by
  unfold pOk
  refine decide_eq_true ?_
  simp [fams] at hf
  rcases hf with rfl | rfl | rfl | rfl | rfl
  · have := hz rfl
    subst this
    decide
  all_goals (show 0 ≤ (p : Int) ∧ (p : Int) ≤ 65535; omega)
/-- it may be a header -/
theorem strict_may {loc : Bool} {f : Fam} (hf : f ∈ fams) {h : Hd} {fs : List Fd} (hg : goodF fs)
    (hh : (loc = true ∧ h = (0, [], [], 0, 0)) ∨ (loc = false ∧ h.1 = f.1 ∧ h.2.1.length = f.2.2 ∧ h.2.2.1.length = f.2.2 ∧ h.2.2.2.1 < 65536 ∧ h.2.2.2.2 < 65536 ∧ (f.2.2 = 0 → h.2.2.2.1 = 0 ∧ h.2.2.2.2 = 0))) :
    ∃ f', famN (stmOf loc h fs).fam = some f' ∧ (stmOf loc h fs).may f' = true ∧ f' ∈ fams ∧ (loc = false → f' = f) ∧ (loc = true → f' = (0, 0, 0)) := by
  rcases hh with ⟨rfl, rfl⟩ | ⟨rfl, h1, h2, h3, h4, h5, h6⟩
  · refine ⟨(0, 0, 0), rfl, ?_, by simp [fams], (fun e => by cases e), fun _ => rfl⟩
    unfold Stm.may stmOf mayB
    rw [good_ok hg]; rfl
  · refine ⟨f, by show famN (h.1 : Int) = _; rw [h1]; exact famN_code2 hf, ?_, hf, (fun _ => rfl), (fun e => by cases e)⟩
    unfold Stm.may stmOf mayB
    rw [good_ok hg, most_small hf h4 (fun e => (h6 e).1), most_small hf h5 (fun e => (h6 e).2)]
    simp [h2, h3]
end Go.Proofs.YtfagkmmenfeppaaDoor
