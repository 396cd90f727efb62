import Derived.Test.YtmijfhfjhbckdaaREnts
import Derived.Laws.StructEq
/- Structs held against each other. -/
namespace Go.Proofs.Ytmijfhfjhbckdaa
set_option maxRecDepth 100000
open Go.RowKit
def feq (b d : Nat) : Bool := FloatKind.f64.format.order b d == some .eq
theorem eqIn_float (x y d : Nat) (W : World) : (Op.equalIn (d + 1) 43 (.float .f64 x) (.float .f64 y)).run Try.prog W = .ok (feq x y) W := by
  unfold Op.equalIn
  simp only [Sem.run_bind, run_underlying Try.underlying43, Result.andThen_ok]
  rfl
theorem part_of {t : TypeId} {xs : Array Value} {off : Nat} {v : Value} {W : World} (ha : (isAgg t).run Try.prog W = .ok false W) (hx : xs[off]? = some v) : (part t xs off).run Try.prog W = .ok v W := by
  unfold part
  simp [Sem.run_bind, ha, hx, Result.andThen]
theorem eqF_step {d : Nat} {xs ys : Array Value} {f : Field} {fs : List Field} {W : World} {a b : Value} {r r' : Bool} (hn : f.name ≠ "_") (pa : (part f.type xs f.offset).run Try.prog W = .ok a W) (pb : (part f.type ys f.offset).run Try.prog W = .ok b W)
    (he : (Op.equalIn d f.type a b).run Try.prog W = .ok r W) (hr : (Op.eqFields d xs ys fs).run Try.prog W = .ok r' W) : (Op.eqFields d xs ys (f :: fs)).run Try.prog W = .ok (r && r') W := by
  simp only [Op.eqFields, if_pos hn, Sem.run_bind, pa, pb, he, Result.andThen_ok]
  cases r
  · simp
  · simp [hr]
theorem fields25 : ∃ f0 f1 f2 f3 f4 f5 f6, (Try.prog.fieldsOf 25).toList = [f0, f1, f2, f3, f4, f5, f6] ∧ f0.name = "Mode" ∧ f1.name = "Sum" ∧ f2.name = "Key" ∧ f3.name = "Value" ∧ f4.name = "DF" ∧ f5.name = "TTL" ∧ f6.name = "TOS" ∧ f0.offset = 0 ∧ f1.offset = 1 ∧ f2.offset = 2 ∧ f3.offset = 3 ∧ f4.offset = 4 ∧ f5.offset = 5 ∧ f6.offset = 6 ∧ f0.type = 3 ∧ f1.type = 4 ∧ f2.type = 4 ∧ f3.type = 23 ∧ f4.type = 4 ∧ f5.type = 3 ∧ f6.type = 3 := by
  unfold Program.fieldsOf
  rw [Try.underlying25]
  exact ⟨_, _, _, _, _, _, _, rfl, rfl, rfl, rfl, rfl, rfl, rfl, rfl, rfl, rfl, rfl, rfl, rfl, rfl, rfl, rfl, rfl, rfl, rfl, rfl, rfl, rfl⟩
theorem strct25 : Try.prog.underlying 25 = some (.struct (Try.prog.fieldsOf 25)) := by
  unfold Program.fieldsOf
  rw [Try.underlying25]
theorem held25 : Try.prog.stoodInHeld 25 = false := by kernel_rfl
theorem guard25 : Try.prog.eqGuardType Try.prog.depth 25 = false := by kernel_rfl
theorem eqIn25 (x0 : Int) (x1 : Bool) (x2 : Bool) (x3 : Int) (x4 : Bool) (x5 : Int) (x6 : Int) (y0 : Int) (y1 : Bool) (y2 : Bool) (y3 : Int) (y4 : Bool) (y5 : Int) (y6 : Int) (k : Nat) (W : World) :
    (Op.equalIn (k + 2) 25 (.agg #[.int .i64 x0, .bool x1, .bool x2, .int .u32 x3, .bool x4, .int .i64 x5, .int .i64 x6]) (.agg #[.int .i64 y0, .bool y1, .bool y2, .int .u32 y3, .bool y4, .int .i64 y5, .int .i64 y6])).run Try.prog W = .ok ((x0 == y0) && ((x1 == y1) && ((x2 == y2) && ((x3 == y3) && ((x4 == y4) && ((x5 == y5) && ((x6 == y6) && true))))))) W := by
  rw [run_equalIn_struct W (k + 1) 25 _ _ strct25 held25]
  obtain ⟨f0, f1, f2, f3, f4, f5, f6, h, n0, n1, n2, n3, n4, n5, n6, o0, o1, o2, o3, o4, o5, o6, t0, t1, t2, t3, t4, t5, t6⟩ := fields25
  rw [h]
  refine eqF_step (by rw [n0]; decide) (by rw [t0, o0]; exact part_of (Try.isAgg3 ..) rfl) (by rw [t0, o0]; exact part_of (Try.isAgg3 ..) rfl) (by rw [t0]; exact run_equalIn_int (P := Try.prog) W (k + 0) 3 .i64 .i64 x0 y0 Try.underlying3) ?_
  refine eqF_step (by rw [n1]; decide) (by rw [t1, o1]; exact part_of (Try.isAgg4 ..) rfl) (by rw [t1, o1]; exact part_of (Try.isAgg4 ..) rfl) (by rw [t1]; exact run_equalIn_bool' (P := Try.prog) W (k + 0) 4 x1 y1 Try.underlying4) ?_
  refine eqF_step (by rw [n2]; decide) (by rw [t2, o2]; exact part_of (Try.isAgg4 ..) rfl) (by rw [t2, o2]; exact part_of (Try.isAgg4 ..) rfl) (by rw [t2]; exact run_equalIn_bool' (P := Try.prog) W (k + 0) 4 x2 y2 Try.underlying4) ?_
  refine eqF_step (by rw [n3]; decide) (by rw [t3, o3]; exact part_of (Try.isAgg23 ..) rfl) (by rw [t3, o3]; exact part_of (Try.isAgg23 ..) rfl) (by rw [t3]; exact run_equalIn_int (P := Try.prog) W (k + 0) 23 .u32 .u32 x3 y3 Try.underlying23) ?_
  refine eqF_step (by rw [n4]; decide) (by rw [t4, o4]; exact part_of (Try.isAgg4 ..) rfl) (by rw [t4, o4]; exact part_of (Try.isAgg4 ..) rfl) (by rw [t4]; exact run_equalIn_bool' (P := Try.prog) W (k + 0) 4 x4 y4 Try.underlying4) ?_
  refine eqF_step (by rw [n5]; decide) (by rw [t5, o5]; exact part_of (Try.isAgg3 ..) rfl) (by rw [t5, o5]; exact part_of (Try.isAgg3 ..) rfl) (by rw [t5]; exact run_equalIn_int (P := Try.prog) W (k + 0) 3 .i64 .i64 x5 y5 Try.underlying3) ?_
  refine eqF_step (by rw [n6]; decide) (by rw [t6, o6]; exact part_of (Try.isAgg3 ..) rfl) (by rw [t6, o6]; exact part_of (Try.isAgg3 ..) rfl) (by rw [t6]; exact run_equalIn_int (P := Try.prog) W (k + 0) 3 .i64 .i64 x6 y6 Try.underlying3) ?_
  rfl
theorem fields45 : ∃ f0 f1 f2, (Try.prog.fieldsOf 45).toList = [f0, f1, f2] ∧ f0.name = "Id" ∧ f1.name = "Addr" ∧ f2.name = "Weight" ∧ f0.offset = 0 ∧ f1.offset = 1 ∧ f2.offset = 2 ∧ f0.type = 3 ∧ f1.type = 9 ∧ f2.type = 43 := by
  unfold Program.fieldsOf
  rw [Try.underlying45]
  exact ⟨_, _, _, rfl, rfl, rfl, rfl, rfl, rfl, rfl, rfl, rfl, rfl⟩
theorem strct45 : Try.prog.underlying 45 = some (.struct (Try.prog.fieldsOf 45)) := by
  unfold Program.fieldsOf
  rw [Try.underlying45]
theorem held45 : Try.prog.stoodInHeld 45 = false := by kernel_rfl
theorem guard45 : Try.prog.eqGuardType Try.prog.depth 45 = false := by kernel_rfl
theorem eqIn45 (x0 : Int) (x1 : ByteArray) (x2 : Nat) (y0 : Int) (y1 : ByteArray) (y2 : Nat) (k : Nat) (W : World) :
    (Op.equalIn (k + 2) 45 (.agg #[.int .i64 x0, .string x1, .float .f64 x2]) (.agg #[.int .i64 y0, .string y1, .float .f64 y2])).run Try.prog W = .ok ((x0 == y0) && ((x1.toList == y1.toList) && (feq x2 y2 && true))) W := by
  rw [run_equalIn_struct W (k + 1) 45 _ _ strct45 held45]
  obtain ⟨f0, f1, f2, h, n0, n1, n2, o0, o1, o2, t0, t1, t2⟩ := fields45
  rw [h]
  refine eqF_step (by rw [n0]; decide) (by rw [t0, o0]; exact part_of (Try.isAgg3 ..) rfl) (by rw [t0, o0]; exact part_of (Try.isAgg3 ..) rfl) (by rw [t0]; exact run_equalIn_int (P := Try.prog) W (k + 0) 3 .i64 .i64 x0 y0 Try.underlying3) ?_
  refine eqF_step (by rw [n1]; decide) (by rw [t1, o1]; exact part_of (Try.isAgg9 ..) rfl) (by rw [t1, o1]; exact part_of (Try.isAgg9 ..) rfl) (by rw [t1]; exact run_equalIn_string (P := Try.prog) W (k + 0) 9 x1 y1 Try.underlying9) ?_
  refine eqF_step (by rw [n2]; decide) (by rw [t2, o2]; exact part_of (Try.isAgg43 ..) rfl) (by rw [t2, o2]; exact part_of (Try.isAgg43 ..) rfl) (by rw [t2]; exact eqIn_float x2 y2 (k + 0) W) ?_
  rfl
theorem part45_47 (x0 : Int) (x1 : ByteArray) (x2 : Int) (x3 : ByteArray) (x4 : Nat) (x5 : Int) (x6 : Bool) (x7 : Bool) (x8 : Int) (x9 : Bool) (x10 : Int) (x11 : Int) (x12 : Int) (x13 : Int) (W : World) : (part 45 #[.int .i64 x0, .string x1, .int .i64 x2, .string x3, .float .f64 x4, .int .i64 x5, .bool x6, .bool x7, .int .u32 x8, .bool x9, .int .i64 x10, .int .i64 x11, .int .i64 x12, .int .i64 x13] 2).run Try.prog W = .ok (.agg #[.int .i64 x2, .string x3, .float .f64 x4]) W := by
  obtain ⟨i, hi, hs⟩ : ∃ i, Try.prog.info? 45 = some i ∧ i.size = 3 := by
    have h : (Try.prog.info? 45).map (·.size) = some 3 := by kernel_rfl
    cases hq : Try.prog.info? 45 with
    | none => rw [hq] at h; cases h
    | some i => rw [hq] at h; exact ⟨i, rfl, by simpa using h⟩
  unfold part
  simp [Sem.run_bind, Try.isAgg45, Result.andThen, sizeOf, typeInfo, go_sem, hi, hs]
theorem part25_47 (x0 : Int) (x1 : ByteArray) (x2 : Int) (x3 : ByteArray) (x4 : Nat) (x5 : Int) (x6 : Bool) (x7 : Bool) (x8 : Int) (x9 : Bool) (x10 : Int) (x11 : Int) (x12 : Int) (x13 : Int) (W : World) : (part 25 #[.int .i64 x0, .string x1, .int .i64 x2, .string x3, .float .f64 x4, .int .i64 x5, .bool x6, .bool x7, .int .u32 x8, .bool x9, .int .i64 x10, .int .i64 x11, .int .i64 x12, .int .i64 x13] 5).run Try.prog W = .ok (.agg #[.int .i64 x5, .bool x6, .bool x7, .int .u32 x8, .bool x9, .int .i64 x10, .int .i64 x11]) W := by
  obtain ⟨i, hi, hs⟩ : ∃ i, Try.prog.info? 25 = some i ∧ i.size = 7 := by
    have h : (Try.prog.info? 25).map (·.size) = some 7 := by kernel_rfl
    cases hq : Try.prog.info? 25 with
    | none => rw [hq] at h; cases h
    | some i => rw [hq] at h; exact ⟨i, rfl, by simpa using h⟩
  unfold part
  simp [Sem.run_bind, Try.isAgg25, Result.andThen, sizeOf, typeInfo, go_sem, hi, hs]
theorem fields47 : ∃ f0 f1 f2 f3 f4 f5, (Try.prog.fieldsOf 47).toList = [f0, f1, f2, f3, f4, f5] ∧ f0.name = "Kind" ∧ f1.name = "Packet" ∧ f2.name = "Backend" ∧ f3.name = "Tunnel" ∧ f4.name = "N" ∧ f5.name = "To" ∧ f0.offset = 0 ∧ f1.offset = 1 ∧ f2.offset = 2 ∧ f3.offset = 5 ∧ f4.offset = 12 ∧ f5.offset = 13 ∧ f0.type = 3 ∧ f1.type = 9 ∧ f2.type = 45 ∧ f3.type = 25 ∧ f4.type = 3 ∧ f5.type = 3 := by
  unfold Program.fieldsOf
  rw [Try.underlying47]
  exact ⟨_, _, _, _, _, _, rfl, rfl, rfl, rfl, rfl, rfl, rfl, rfl, rfl, rfl, rfl, rfl, rfl, rfl, rfl, rfl, rfl, rfl, rfl⟩
theorem strct47 : Try.prog.underlying 47 = some (.struct (Try.prog.fieldsOf 47)) := by
  unfold Program.fieldsOf
  rw [Try.underlying47]
theorem held47 : Try.prog.stoodInHeld 47 = false := by kernel_rfl
theorem guard47 : Try.prog.eqGuardType Try.prog.depth 47 = false := by kernel_rfl
theorem eqIn47 (x0 : Int) (x1 : ByteArray) (x2 : Int) (x3 : ByteArray) (x4 : Nat) (x5 : Int) (x6 : Bool) (x7 : Bool) (x8 : Int) (x9 : Bool) (x10 : Int) (x11 : Int) (x12 : Int) (x13 : Int) (y0 : Int) (y1 : ByteArray) (y2 : Int) (y3 : ByteArray) (y4 : Nat) (y5 : Int) (y6 : Bool) (y7 : Bool) (y8 : Int) (y9 : Bool) (y10 : Int) (y11 : Int) (y12 : Int) (y13 : Int) (k : Nat) (W : World) :
    (Op.equalIn (k + 3) 47 (.agg #[.int .i64 x0, .string x1, .int .i64 x2, .string x3, .float .f64 x4, .int .i64 x5, .bool x6, .bool x7, .int .u32 x8, .bool x9, .int .i64 x10, .int .i64 x11, .int .i64 x12, .int .i64 x13]) (.agg #[.int .i64 y0, .string y1, .int .i64 y2, .string y3, .float .f64 y4, .int .i64 y5, .bool y6, .bool y7, .int .u32 y8, .bool y9, .int .i64 y10, .int .i64 y11, .int .i64 y12, .int .i64 y13])).run Try.prog W = .ok ((x0 == y0) && ((x1.toList == y1.toList) && (((x2 == y2) && ((x3.toList == y3.toList) && (feq x4 y4 && true))) && (((x5 == y5) && ((x6 == y6) && ((x7 == y7) && ((x8 == y8) && ((x9 == y9) && ((x10 == y10) && ((x11 == y11) && true))))))) && ((x12 == y12) && ((x13 == y13) && true)))))) W := by
  rw [run_equalIn_struct W (k + 2) 47 _ _ strct47 held47]
  obtain ⟨f0, f1, f2, f3, f4, f5, h, n0, n1, n2, n3, n4, n5, o0, o1, o2, o3, o4, o5, t0, t1, t2, t3, t4, t5⟩ := fields47
  rw [h]
  refine eqF_step (by rw [n0]; decide) (by rw [t0, o0]; exact part_of (Try.isAgg3 ..) rfl) (by rw [t0, o0]; exact part_of (Try.isAgg3 ..) rfl) (by rw [t0]; exact run_equalIn_int (P := Try.prog) W (k + 1) 3 .i64 .i64 x0 y0 Try.underlying3) ?_
  refine eqF_step (by rw [n1]; decide) (by rw [t1, o1]; exact part_of (Try.isAgg9 ..) rfl) (by rw [t1, o1]; exact part_of (Try.isAgg9 ..) rfl) (by rw [t1]; exact run_equalIn_string (P := Try.prog) W (k + 1) 9 x1 y1 Try.underlying9) ?_
  refine eqF_step (by rw [n2]; decide) (by rw [t2, o2]; exact part45_47 _ _ _ _ _ _ _ _ _ _ _ _ _ _ W) (by rw [t2, o2]; exact part45_47 _ _ _ _ _ _ _ _ _ _ _ _ _ _ W) (by rw [t2]; exact eqIn45 x2 x3 x4 y2 y3 y4 (k + 0) W) ?_
  refine eqF_step (by rw [n3]; decide) (by rw [t3, o3]; exact part25_47 _ _ _ _ _ _ _ _ _ _ _ _ _ _ W) (by rw [t3, o3]; exact part25_47 _ _ _ _ _ _ _ _ _ _ _ _ _ _ W) (by rw [t3]; exact eqIn25 x5 x6 x7 x8 x9 x10 x11 y5 y6 y7 y8 y9 y10 y11 (k + 0) W) ?_
  refine eqF_step (by rw [n4]; decide) (by rw [t4, o4]; exact part_of (Try.isAgg3 ..) rfl) (by rw [t4, o4]; exact part_of (Try.isAgg3 ..) rfl) (by rw [t4]; exact run_equalIn_int (P := Try.prog) W (k + 1) 3 .i64 .i64 x12 y12 Try.underlying3) ?_
  refine eqF_step (by rw [n5]; decide) (by rw [t5, o5]; exact part_of (Try.isAgg3 ..) rfl) (by rw [t5, o5]; exact part_of (Try.isAgg3 ..) rfl) (by rw [t5]; exact run_equalIn_int (P := Try.prog) W (k + 1) 3 .i64 .i64 x13 y13 Try.underlying3) ?_
  rfl
theorem part25_27 (x0 : ByteArray) (x1 : Int) (x2 : Bool) (x3 : Bool) (x4 : Int) (x5 : Bool) (x6 : Int) (x7 : Int) (x8 : Int) (W : World) : (part 25 #[.string x0, .int .i64 x1, .bool x2, .bool x3, .int .u32 x4, .bool x5, .int .i64 x6, .int .i64 x7, .int .i64 x8] 1).run Try.prog W = .ok (.agg #[.int .i64 x1, .bool x2, .bool x3, .int .u32 x4, .bool x5, .int .i64 x6, .int .i64 x7]) W := by
  obtain ⟨i, hi, hs⟩ : ∃ i, Try.prog.info? 25 = some i ∧ i.size = 7 := by
    have h : (Try.prog.info? 25).map (·.size) = some 7 := by kernel_rfl
    cases hq : Try.prog.info? 25 with
    | none => rw [hq] at h; cases h
    | some i => rw [hq] at h; exact ⟨i, rfl, by simpa using h⟩
  unfold part
  simp [Sem.run_bind, Try.isAgg25, Result.andThen, sizeOf, typeInfo, go_sem, hi, hs]
theorem fields27 : ∃ f0 f1 f2, (Try.prog.fieldsOf 27).toList = [f0, f1, f2] ∧ f0.name = "Self" ∧ f1.name = "Tunnel" ∧ f2.name = "MTU" ∧ f0.offset = 0 ∧ f1.offset = 1 ∧ f2.offset = 8 ∧ f0.type = 9 ∧ f1.type = 25 ∧ f2.type = 3 := by
  unfold Program.fieldsOf
  rw [Try.underlying27]
  exact ⟨_, _, _, rfl, rfl, rfl, rfl, rfl, rfl, rfl, rfl, rfl, rfl⟩
theorem strct27 : Try.prog.underlying 27 = some (.struct (Try.prog.fieldsOf 27)) := by
  unfold Program.fieldsOf
  rw [Try.underlying27]
theorem held27 : Try.prog.stoodInHeld 27 = false := by kernel_rfl
theorem guard27 : Try.prog.eqGuardType Try.prog.depth 27 = false := by kernel_rfl
theorem eqIn27 (x0 : ByteArray) (x1 : Int) (x2 : Bool) (x3 : Bool) (x4 : Int) (x5 : Bool) (x6 : Int) (x7 : Int) (x8 : Int) (y0 : ByteArray) (y1 : Int) (y2 : Bool) (y3 : Bool) (y4 : Int) (y5 : Bool) (y6 : Int) (y7 : Int) (y8 : Int) (k : Nat) (W : World) :
    (Op.equalIn (k + 3) 27 (.agg #[.string x0, .int .i64 x1, .bool x2, .bool x3, .int .u32 x4, .bool x5, .int .i64 x6, .int .i64 x7, .int .i64 x8]) (.agg #[.string y0, .int .i64 y1, .bool y2, .bool y3, .int .u32 y4, .bool y5, .int .i64 y6, .int .i64 y7, .int .i64 y8])).run Try.prog W = .ok ((x0.toList == y0.toList) && (((x1 == y1) && ((x2 == y2) && ((x3 == y3) && ((x4 == y4) && ((x5 == y5) && ((x6 == y6) && ((x7 == y7) && true))))))) && ((x8 == y8) && true))) W := by
  rw [run_equalIn_struct W (k + 2) 27 _ _ strct27 held27]
  obtain ⟨f0, f1, f2, h, n0, n1, n2, o0, o1, o2, t0, t1, t2⟩ := fields27
  rw [h]
  refine eqF_step (by rw [n0]; decide) (by rw [t0, o0]; exact part_of (Try.isAgg9 ..) rfl) (by rw [t0, o0]; exact part_of (Try.isAgg9 ..) rfl) (by rw [t0]; exact run_equalIn_string (P := Try.prog) W (k + 1) 9 x0 y0 Try.underlying9) ?_
  refine eqF_step (by rw [n1]; decide) (by rw [t1, o1]; exact part25_27 _ _ _ _ _ _ _ _ _ W) (by rw [t1, o1]; exact part25_27 _ _ _ _ _ _ _ _ _ W) (by rw [t1]; exact eqIn25 x1 x2 x3 x4 x5 x6 x7 y1 y2 y3 y4 y5 y6 y7 (k + 0) W) ?_
  refine eqF_step (by rw [n2]; decide) (by rw [t2, o2]; exact part_of (Try.isAgg3 ..) rfl) (by rw [t2, o2]; exact part_of (Try.isAgg3 ..) rfl) (by rw [t2]; exact run_equalIn_int (P := Try.prog) W (k + 1) 3 .i64 .i64 x8 y8 Try.underlying3) ?_
  rfl
theorem fields29 : ∃ f0 f1 f2, (Try.prog.fieldsOf 29).toList = [f0, f1, f2] ∧ f0.name = "Entries" ∧ f1.name = "Bytes" ∧ f2.name = "Life" ∧ f0.offset = 0 ∧ f1.offset = 1 ∧ f2.offset = 2 ∧ f0.type = 3 ∧ f1.type = 3 ∧ f2.type = 3 := by
  unfold Program.fieldsOf
  rw [Try.underlying29]
  exact ⟨_, _, _, rfl, rfl, rfl, rfl, rfl, rfl, rfl, rfl, rfl, rfl⟩
theorem strct29 : Try.prog.underlying 29 = some (.struct (Try.prog.fieldsOf 29)) := by
  unfold Program.fieldsOf
  rw [Try.underlying29]
theorem held29 : Try.prog.stoodInHeld 29 = false := by kernel_rfl
theorem guard29 : Try.prog.eqGuardType Try.prog.depth 29 = false := by kernel_rfl
theorem eqIn29 (x0 : Int) (x1 : Int) (x2 : Int) (y0 : Int) (y1 : Int) (y2 : Int) (k : Nat) (W : World) :
    (Op.equalIn (k + 2) 29 (.agg #[.int .i64 x0, .int .i64 x1, .int .i64 x2]) (.agg #[.int .i64 y0, .int .i64 y1, .int .i64 y2])).run Try.prog W = .ok ((x0 == y0) && ((x1 == y1) && ((x2 == y2) && true))) W := by
  rw [run_equalIn_struct W (k + 1) 29 _ _ strct29 held29]
  obtain ⟨f0, f1, f2, h, n0, n1, n2, o0, o1, o2, t0, t1, t2⟩ := fields29
  rw [h]
  refine eqF_step (by rw [n0]; decide) (by rw [t0, o0]; exact part_of (Try.isAgg3 ..) rfl) (by rw [t0, o0]; exact part_of (Try.isAgg3 ..) rfl) (by rw [t0]; exact run_equalIn_int (P := Try.prog) W (k + 0) 3 .i64 .i64 x0 y0 Try.underlying3) ?_
  refine eqF_step (by rw [n1]; decide) (by rw [t1, o1]; exact part_of (Try.isAgg3 ..) rfl) (by rw [t1, o1]; exact part_of (Try.isAgg3 ..) rfl) (by rw [t1]; exact run_equalIn_int (P := Try.prog) W (k + 0) 3 .i64 .i64 x1 y1 Try.underlying3) ?_
  refine eqF_step (by rw [n2]; decide) (by rw [t2, o2]; exact part_of (Try.isAgg3 ..) rfl) (by rw [t2, o2]; exact part_of (Try.isAgg3 ..) rfl) (by rw [t2]; exact run_equalIn_int (P := Try.prog) W (k + 0) 3 .i64 .i64 x2 y2 Try.underlying3) ?_
  rfl
theorem eql25 (x0 : Int) (x1 : Bool) (x2 : Bool) (x3 : Int) (x4 : Bool) (x5 : Int) (x6 : Int) (y0 : Int) (y1 : Bool) (y2 : Bool) (y3 : Int) (y4 : Bool) (y5 : Int) (y6 : Int) (W : World) :
    (binOp .eql 25 (.agg #[.int .i64 x0, .bool x1, .bool x2, .int .u32 x3, .bool x4, .int .i64 x5, .int .i64 x6]) (.agg #[.int .i64 y0, .bool y1, .bool y2, .int .u32 y3, .bool y4, .int .i64 y5, .int .i64 y6])).run Try.prog W = .ok (.bool ((x0 == y0) && ((x1 == y1) && ((x2 == y2) && ((x3 == y3) && ((x4 == y4) && ((x5 == y5) && ((x6 == y6) && true)))))))) W := by
  rw [run_eql_struct, eqIn25 x0 x1 x2 x3 x4 x5 x6 y0 y1 y2 y3 y4 y5 y6 9998 W]; rfl
theorem eql47 (x0 : Int) (x1 : ByteArray) (x2 : Int) (x3 : ByteArray) (x4 : Nat) (x5 : Int) (x6 : Bool) (x7 : Bool) (x8 : Int) (x9 : Bool) (x10 : Int) (x11 : Int) (x12 : Int) (x13 : Int) (y0 : Int) (y1 : ByteArray) (y2 : Int) (y3 : ByteArray) (y4 : Nat) (y5 : Int) (y6 : Bool) (y7 : Bool) (y8 : Int) (y9 : Bool) (y10 : Int) (y11 : Int) (y12 : Int) (y13 : Int) (W : World) :
    (binOp .eql 47 (.agg #[.int .i64 x0, .string x1, .int .i64 x2, .string x3, .float .f64 x4, .int .i64 x5, .bool x6, .bool x7, .int .u32 x8, .bool x9, .int .i64 x10, .int .i64 x11, .int .i64 x12, .int .i64 x13]) (.agg #[.int .i64 y0, .string y1, .int .i64 y2, .string y3, .float .f64 y4, .int .i64 y5, .bool y6, .bool y7, .int .u32 y8, .bool y9, .int .i64 y10, .int .i64 y11, .int .i64 y12, .int .i64 y13])).run Try.prog W = .ok (.bool ((x0 == y0) && ((x1.toList == y1.toList) && (((x2 == y2) && ((x3.toList == y3.toList) && (feq x4 y4 && true))) && (((x5 == y5) && ((x6 == y6) && ((x7 == y7) && ((x8 == y8) && ((x9 == y9) && ((x10 == y10) && ((x11 == y11) && true))))))) && ((x12 == y12) && ((x13 == y13) && true))))))) W := by
  rw [run_eql_struct, eqIn47 x0 x1 x2 x3 x4 x5 x6 x7 x8 x9 x10 x11 x12 x13 y0 y1 y2 y3 y4 y5 y6 y7 y8 y9 y10 y11 y12 y13 9997 W]; rfl
theorem eql27 (x0 : ByteArray) (x1 : Int) (x2 : Bool) (x3 : Bool) (x4 : Int) (x5 : Bool) (x6 : Int) (x7 : Int) (x8 : Int) (y0 : ByteArray) (y1 : Int) (y2 : Bool) (y3 : Bool) (y4 : Int) (y5 : Bool) (y6 : Int) (y7 : Int) (y8 : Int) (W : World) :
    (binOp .eql 27 (.agg #[.string x0, .int .i64 x1, .bool x2, .bool x3, .int .u32 x4, .bool x5, .int .i64 x6, .int .i64 x7, .int .i64 x8]) (.agg #[.string y0, .int .i64 y1, .bool y2, .bool y3, .int .u32 y4, .bool y5, .int .i64 y6, .int .i64 y7, .int .i64 y8])).run Try.prog W = .ok (.bool ((x0.toList == y0.toList) && (((x1 == y1) && ((x2 == y2) && ((x3 == y3) && ((x4 == y4) && ((x5 == y5) && ((x6 == y6) && ((x7 == y7) && true))))))) && ((x8 == y8) && true)))) W := by
  rw [run_eql_struct, eqIn27 x0 x1 x2 x3 x4 x5 x6 x7 x8 y0 y1 y2 y3 y4 y5 y6 y7 y8 9997 W]; rfl
theorem eql29 (x0 : Int) (x1 : Int) (x2 : Int) (y0 : Int) (y1 : Int) (y2 : Int) (W : World) :
    (binOp .eql 29 (.agg #[.int .i64 x0, .int .i64 x1, .int .i64 x2]) (.agg #[.int .i64 y0, .int .i64 y1, .int .i64 y2])).run Try.prog W = .ok (.bool ((x0 == y0) && ((x1 == y1) && ((x2 == y2) && true)))) W := by
  rw [run_eql_struct, eqIn29 x0 x1 x2 y0 y1 y2 9998 W]; rfl
end Go.Proofs.Ytmijfhfjhbckdaa
