import Derived.Test.YtmijfhfjhbckdaaPutB
import Derived.Test.YtmijfhfjhbckdaaPutD
import Derived.Test.YtmijfhfjhbckdaaPutE
/- Put, of any act. -/
namespace Go.Proofs.Ytmijfhfjhbckdaa
set_option maxRecDepth 100000
open Go.RowKit
structure ActL where
  k : Int
  p : ByteArray
  id : Int
  ad : ByteArray
  wt : Nat
  md : Int
  sm : Bool
  ky : Bool
  va : Nat
  df : Bool
  tl : Int
  ts : Int
  n : Int
  d : Int
def ActL.C (a : ActL) : Array Value := #[.int .i64 a.k, .string a.p, .int .i64 a.id, .string a.ad, .float .f64 a.wt, .int .i64 a.md, .bool a.sm, .bool a.ky, .int .u32 (a.va : Nat), .bool a.df, .int .i64 a.tl, .int .i64 a.ts, .int .i64 a.n, .int .i64 a.d]
structure ActL.ok (a : ActL) : Prop where
  wt : a.wt < 18446744073709551616
  va : a.va < 4294967296
  md : inI a.md
  tl : inI a.tl
  ts : inI a.ts
  p : a.p.size ≤ 1000000
  ad : a.ad.size ≤ 1000000
/-- has an act just what its kind has? -/
def ActL.rest (a : ActL) : Bool :=
  if a.k = 0 ∨ a.k = 9 then zB ⟨#[]⟩ a.id a.ad a.md a.sm a.ky a.va a.df a.tl a.ts a.n a.d && (a.wt == 0)
  else if a.k = 1 then zB a.p 0 ⟨#[]⟩ a.md a.sm a.ky a.va a.df a.tl a.ts a.n a.d && (0 == 0)
  else if a.k = 4 then zB a.p a.id a.ad 0 false false 0 false 0 0 a.n a.d && (a.wt == 0)
  else if a.k = 8 then zB a.p a.id a.ad a.md a.sm a.ky a.va a.df a.tl a.ts 0 0 && (a.wt == 0)
  else if a.k = 10 then zB a.p a.id a.ad a.md a.sm a.ky a.va a.df a.tl a.ts a.n a.d && (a.wt == 0)
  else zB a.p a.id a.ad a.md a.sm a.ky a.va a.df a.tl a.ts 0 a.d && (a.wt == 0)
def ActL.fit (a : ActL) : Bool :=
  if a.k = 0 ∨ a.k = 9 then fits (a.p.size : Int)
  else if a.k = 1 then fits a.id && (a.ad.size == 4)
  else if a.k = 4 then byte3 a.md a.tl a.ts
  else if a.k = 8 then fits a.n && fits a.d
  else if a.k = 10 then true
  else fits a.n
def ActL.body (a : ActL) : List UInt8 :=
  if a.k = 0 ∨ a.k = 9 then be (u64 (a.p.size : Int)) 2 ++ a.p.data.toList
  else if a.k = 1 then be (u64 a.id) 2 ++ (a.ad.data.toList ++ be a.wt 8)
  else if a.k = 4 then tunB a.md a.sm a.ky a.va a.df a.tl a.ts
  else if a.k = 8 then be (u64 a.n) 2 ++ be (u64 a.d) 2
  else if a.k = 10 then []
  else be (u64 a.n) 2
def ActL.put (a : ActL) : Value := if a.k < 0 ∨ 11 ≤ a.k then .tuple #[.string ⟨#[]⟩, .int .i64 9] else putR a.rest a.fit (be (u64 a.k) 1 ++ a.body)
set_option maxHeartbeats 2000000 in
theorem put_out (x0 : Int) (x1 : ByteArray) (x2 : Int) (x3 : ByteArray) (x4 : Nat) (x5 : Int) (x6 x7 : Bool) (x8 : Int) (x9 : Bool) (x10 x11 x12 x13 : Int) (w : World) (hk : x0 < 0 ∨ 11 ≤ x0) :
    Calls Try.prog 13 #[.agg #[.int .i64 x0, .string x1, .int .i64 x2, .string x3, .float .f64 x4, .int .i64 x5, .bool x6, .bool x7, .int .u32 x8, .bool x9, .int .i64 x10, .int .i64 x11, .int .i64 x12, .int .i64 x13]] w fun e w' => e = .returned (.tuple #[.string ⟨#[]⟩, .int .i64 9]) ∧ Below w.heap.size w w' := by
  obtain ⟨W0, hW0⟩ : ∃ W, W = w.alloc (.cells #[.int .i64 x0, .string x1, .int .i64 x2, .string x3, .float .f64 x4, .int .i64 x5, .bool x6, .bool x7, .int .u32 x8, .bool x9, .int .i64 x10, .int .i64 x11, .int .i64 x12, .int .i64 x13] 47) := ⟨_, rfl⟩
  obtain ⟨P, hP⟩ : ∃ x, x = w.heap.size := ⟨_, rfl⟩
  have gP : W0.heap[P]? = some (.cells #[.int .i64 x0, .string x1, .int .i64 x2, .string x3, .float .f64 x4, .int .i64 x5, .bool x6, .bool x7, .int .u32 x8, .bool x9, .int .i64 x10, .int .i64 x11, .int .i64 x12, .int .i64 x13] 47 (0, 0)) := by rw [hW0, hP]; exact alloc_new _ _
  have bW : Below w.heap.size w W0 := by rw [hW0]; exact (Below.refl _ _).alloc (Nat.le_refl _) _
  have k0 := cellAt (i := 0) (v := .int .i64 x0) gP rfl
  have BW := Lib.hid bW
  clear gP bW
  by_cases h0 : x0 < 0
  · have d1 : decide (x0 < 0) = true := decide_eq_true h0
    go_enter Try.func13, Try.ntmps13
    go_upto_region 1 with (fail)
    rw [← hW0, ← hP]
    clear hW0 hP
    go_wp2_with (fail)
    go_ret2
    exact ⟨rfl, BW.out⟩
  · have d1 : decide (x0 < 0) = false := decide_eq_false h0
    have h11 : 11 ≤ x0 := by omega
    have d2 : decide ((11 : Int) ≤ x0) = true := decide_eq_true h11
    go_enter Try.func13, Try.ntmps13
    go_upto_region 1 with (fail)
    rw [← hW0, ← hP]
    clear hW0 hP
    go_wp2_with (fail)
    go_ret2
    exact ⟨rfl, BW.out⟩
theorem put_any (a : ActL) (h : a.ok) (w : World) : Calls Try.prog 13 #[.agg a.C] w fun e w' => e = .returned a.put ∧ Below w.heap.size w w' := by
  obtain ⟨k, p, id, ad, wt, md, sm, ky, va, df, tl, ts, n, d⟩ := a
  by_cases hk : k < 0 ∨ 11 ≤ k
  · have e : ActL.put ⟨k, p, id, ad, wt, md, sm, ky, va, df, tl, ts, n, d⟩ = .tuple #[.string ⟨#[]⟩, .int .i64 9] := by unfold ActL.put; rw [if_pos hk]
    rw [e]
    exact put_out k p id ad wt md sm ky va df tl ts n d w hk
  · have e : ActL.put ⟨k, p, id, ad, wt, md, sm, ky, va, df, tl, ts, n, d⟩ = putR (ActL.rest ⟨k, p, id, ad, wt, md, sm, ky, va, df, tl, ts, n, d⟩) (ActL.fit ⟨k, p, id, ad, wt, md, sm, ky, va, df, tl, ts, n, d⟩) (be (u64 k) 1 ++ ActL.body ⟨k, p, id, ad, wt, md, sm, ky, va, df, tl, ts, n, d⟩) := by unfold ActL.put; rw [if_neg hk]
    rw [e]
    have hr : 0 ≤ k ∧ k ≤ 10 := by omega
    have : k = 0 ∨ k = 1 ∨ k = 2 ∨ k = 3 ∨ k = 4 ∨ k = 5 ∨ k = 6 ∨ k = 7 ∨ k = 8 ∨ k = 9 ∨ k = 10 := by omega
    rcases this with rfl | rfl | rfl | rfl | rfl | rfl | rfl | rfl | rfl | rfl | rfl
    · exact put_pkt _ p id ad wt md sm ky va df tl ts n d w hr (fun V => by rfl) h.p
    · exact put_add _ p id ad wt md sm ky va df tl ts n d w hr (fun V => by rfl) ⟨h.ad, h.wt⟩
    · exact put_num _ p id ad wt md sm ky va df tl ts n d w hr (fun V => by rfl)
    · exact put_num _ p id ad wt md sm ky va df tl ts n d w hr (fun V => by rfl)
    · exact put_mode _ p id ad wt md sm ky va df tl ts n d w hr (fun V => by rfl) ⟨h.va, h.md, h.tl, h.ts⟩
    · exact put_num _ p id ad wt md sm ky va df tl ts n d w hr (fun V => by rfl)
    · exact put_num _ p id ad wt md sm ky va df tl ts n d w hr (fun V => by rfl)
    · exact put_num _ p id ad wt md sm ky va df tl ts n d w hr (fun V => by rfl)
    · exact put_mov _ p id ad wt md sm ky va df tl ts n d w hr (fun V => by rfl)
    · exact put_pkt _ p id ad wt md sm ky va df tl ts n d w hr (fun V => by rfl) h.p
    · exact put_non _ p id ad wt md sm ky va df tl ts n d w hr (fun V => by rfl)
end Go.Proofs.Ytmijfhfjhbckdaa
