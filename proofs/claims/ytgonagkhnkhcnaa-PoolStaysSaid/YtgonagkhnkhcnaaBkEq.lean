import Derived.Test.YtgonagkhnkhcnaaPoolDo
import Derived.Laws.StructEq
/- Two backends held against each other. -/
namespace Go.Proofs.Ytgonagkhnkhcnaa
set_option maxRecDepth 100000
open Go.RowKit
def feq (b d : Nat) : Bool := FloatKind.f64.format.order b d == some .eq
def bkeq (x y : Bk) : Bool := (x.id == y.id) && ((x.addr == y.addr) && feq x.wt y.wt)
theorem fields32 : ∃ f0 f1 f2, (Try.prog.fieldsOf 32).toList = [f0, f1, f2] ∧ f0.name = "Id" ∧ f1.name = "Addr" ∧ f2.name = "Weight" ∧ f0.offset = 0 ∧ f1.offset = 1 ∧ f2.offset = 2 ∧ f0.type = 3 ∧ f1.type = 9 ∧ f2.type = 30 := by
  unfold Program.fieldsOf
  rw [Try.underlying32]
  exact ⟨_, _, _, rfl, rfl, rfl, rfl, rfl, rfl, rfl, rfl, rfl, rfl⟩
theorem strct32 : Try.prog.underlying 32 = some (.struct (Try.prog.fieldsOf 32)) := by
  unfold Program.fieldsOf
  rw [Try.underlying32]
theorem held32 : Try.prog.stoodInHeld 32 = false := by kernel_rfl
theorem guard32 : Try.prog.eqGuardType Try.prog.depth 32 = false := by kernel_rfl
theorem eqIn_float (x y d : Nat) (W : World) : (Op.equalIn (d + 1) 30 (.float .f64 x) (.float .f64 y)).run Try.prog W = .ok (feq x y) W := by
  unfold Op.equalIn
  simp only [Sem.run_bind, run_underlying Try.underlying30, Result.andThen_ok]
  rfl
theorem part_of {t : TypeId} {xs : Array Value} {off : Nat} {v : Value} {W : World} (ha : (isAgg t).run Try.prog W = .ok false W) (hx : xs[off]? = some v) : (part t xs off).run Try.prog W = .ok v W := by
  unfold part
  simp [Sem.run_bind, ha, hx, Result.andThen]
theorem eqIn_bk (a c : Int) (s t : ByteArray) (b d k : Nat) (W : World) :
    (Op.equalIn (k + 2) 32 (.agg #[.int .i64 a, .string s, .float .f64 b]) (.agg #[.int .i64 c, .string t, .float .f64 d])).run Try.prog W = .ok (bkeq ⟨a, s, b⟩ ⟨c, t, d⟩) W := by
  rw [run_equalIn_struct W (k + 1) 32 _ _ strct32 held32]
  obtain ⟨f0, f1, f2, h, n0, n1, n2, o0, o1, o2, t0, t1, t2⟩ := fields32
  rw [h]
  have e0 := run_equalIn_int (P := Try.prog) W k 3 .i64 .i64 a c Try.underlying3
  have e1 := run_equalIn_string (P := Try.prog) W k 9 s t Try.underlying9
  have e2 := eqIn_float b d k W
  unfold bkeq
  simp only [Op.eqFields, n0, n1, n2, o0, o1, o2, t0, t1, t2]
  have p0 : ∀ (z : Int) (u : ByteArray) (f : Nat), (part 3 #[.int .i64 z, .string u, .float .f64 f] 0).run Try.prog W = .ok (.int .i64 z) W := fun z u f => part_of (Try.isAgg3 ..) rfl
  have p1 : ∀ (z : Int) (u : ByteArray) (f : Nat), (part 9 #[.int .i64 z, .string u, .float .f64 f] 1).run Try.prog W = .ok (.string u) W := fun z u f => part_of (Try.isAgg9 ..) rfl
  have p2 : ∀ (z : Int) (u : ByteArray) (f : Nat), (part 30 #[.int .i64 z, .string u, .float .f64 f] 2).run Try.prog W = .ok (.float .f64 f) W := fun z u f => part_of (Try.isAgg30 ..) rfl
  rw [beq_toListBytes]
  cases h0 : (a == c) <;> cases h1 : (s.toList == t.toList) <;> cases h2 : feq b d <;> simp [Sem.run_bind, p0, p1, p2, e0, e1, e2, h0, h1, h2, Result.andThen]
theorem bk_eql (a c : Int) (s t : ByteArray) (b d : Nat) (W : World) :
    (binOp .eql 32 (.agg #[.int .i64 a, .string s, .float .f64 b]) (.agg #[.int .i64 c, .string t, .float .f64 d])).run Try.prog W = .ok (.bool (bkeq ⟨a, s, b⟩ ⟨c, t, d⟩)) W := by
  rw [run_eql_struct, eqIn_bk a c s t b d 9998 W]; rfl
theorem bk_neq (a c : Int) (s t : ByteArray) (b d : Nat) (W : World) :
    (binOp .neq 32 (.agg #[.int .i64 a, .string s, .float .f64 b]) (.agg #[.int .i64 c, .string t, .float .f64 d])).run Try.prog W = .ok (.bool (!bkeq ⟨a, s, b⟩ ⟨c, t, d⟩)) W := by
  rw [run_neq_struct, eqIn_bk a c s t b d 9998 W]; rfl
theorem feq_self {b : Nat} (h : FM.may b = true) : feq b b = true := by
  unfold feq
  have h1 := FM.order_self b
  have hn : FM.nan b = false := by
    have h2 := FM.may_rung h
    unfold FM.nan
    exact decide_eq_false (by omega)
  rw [hn] at h1
  show (FM.D.order b b == some .eq) = true
  rw [h1]; rfl
theorem bkeq_self {x : Bk} (h : bk_ok x = true) : bkeq x x = true := by
  unfold bkeq
  unfold bk_ok at h
  simp only [Bool.and_eq_true] at h
  rw [feq_self h.2, beq_toListBytes]
  simp
end Go.Proofs.Ytgonagkhnkhcnaa
