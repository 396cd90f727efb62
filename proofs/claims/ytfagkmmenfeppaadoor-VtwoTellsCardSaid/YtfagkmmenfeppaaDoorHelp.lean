import Derived.Test.YtfagkmmenfeppaaDoorPut
/- the law's helpers. -/
namespace Go.Proofs.YtfagkmmenfeppaaDoor
set_option maxRecDepth 100000
open Go.RowKit
def lone : Stm := ⟨true, 0, [], [], 0, 0, []⟩
theorem lone_put : lone.put false = .ok [13, 10, 13, 10, 0, 13, 10, 81, 85, 73, 84, 10, 32, 0, 0, 0] := by rfl
theorem FdIn.nil (w : World) (a : Option Addr) : FdIn w a [] := fun j hj => by simp at hj
theorem awake_any (w : World) (hf : FamAt w) : Calls Tryd.prog 9 #[] w fun e w' => e = .returned (.bool true) ∧ Below w.heap.size w w' := by
  have HF := Lib.hid hf
  clear hf
  have P : Hid (∀ V, FamAt V → Calls Tryd.prog 11 #[.agg #[.bool true, .int .i64 0, .string ⟨#[]⟩, .string ⟨#[]⟩, .int .i64 0, .int .i64 0, .slice none 0 0], .bool false] V fun e w' => e = .returned (.tuple #[.string (bs [13, 10, 13, 10, 0, 13, 10, 81, 85, 73, 84, 10, 32, 0, 0, 0]), .int .i64 0]) ∧ Below V.heap.size V w') := fun V hV => by
    have h := put_any lone false none 0 V hV (FdIn.nil _ _) ⟨by decide, by decide, by decide, by simp [lone]⟩
    refine Calls.mono h ?_
    rintro e w' ⟨hb, ⟨c, _, hc, _⟩ | ⟨l, hl, he⟩⟩
    · rw [lone_put] at hc; cases hc
    · rw [lone_put] at hl; cases hl; exact ⟨he, hb⟩
  have hv : ((bs [13, 10, 13, 10, 0, 13, 10, 81, 85, 73, 84, 10, 32, 0, 0, 0]).toList == [13, 10, 13, 10, 0, 13, 10, 81, 85, 73, 84, 10, 32, 0, 0, 0]) = true := by kernel_rfl
  go_enter Tryd.func9, Tryd.ntmps9
  go_wp2_with (go_at_call 11; (with_reducible refine (P.out _ HF.out).mono ?_); rintro e w1 ⟨rfl, hb⟩)
  go_ret
  exact ⟨rfl, hb⟩
def Stm.few (s : Stm) : Prop := s.src.length ≤ 300 ∧ s.dst.length ≤ 300 ∧ s.fs.length ≤ 100
set_option maxHeartbeats 8000000 in
theorem few_any (s : Stm) (a : Option Addr) (cap : Nat) (w : World) (hin : FdIn w a s.fs) (hn : s.fs.length ≤ 9223372036854775807) (ho : s.src.length ≤ 9223372036854775807) (ho2 : s.dst.length ≤ 9223372036854775807) :
    Calls Tryd.prog 10 #[s.val a cap] w fun e w' => ∃ r : Bool, e = .returned (.bool r) ∧ Below w.heap.size w w' ∧ (r = true → s.few) := by
  have HIN := Lib.hid hin
  have hss : (bs s.src).size = s.src.length := bs_size s.src
  have hds : (bs s.dst).size = s.dst.length := bs_size s.dst
  clear hin
  obtain ⟨W, hW⟩ : ∃ W, W = w.alloc (.cells #[.bool s.loc, .int .i64 s.fam, .string (bs s.src), .string (bs s.dst), .int .i64 s.sp, .int .i64 s.dp, .slice a s.fs.length cap] 24) := ⟨_, rfl⟩
  have hS : W.heap[w.heap.size]? = some (.cells #[.bool s.loc, .int .i64 s.fam, .string (bs s.src), .string (bs s.dst), .int .i64 s.sp, .int .i64 s.dp, .slice a s.fs.length cap] 24 (0, 0)) := by rw [hW]; exact alloc_new _ _
  have HB : Hid (Below w.heap.size w W) := by show Below _ _ _; rw [hW]; exact (Below.refl _ _).alloc (Nat.le_refl _) _
  have HS := Lib.hid hS
  have c2 := cellAt (i := 2) (v := .string (bs s.src)) hS rfl
  have c3 := cellAt (i := 3) (v := .string (bs s.dst)) hS rfl
  have c6 := cellAt (i := 6) (v := .slice a s.fs.length cap) hS rfl
  obtain ⟨n1, hn1⟩ : ∃ n, n = s.src.length := ⟨_, rfl⟩
  obtain ⟨n2, hn2⟩ : ∃ n, n = s.dst.length := ⟨_, rfl⟩
  obtain ⟨n3, hn3⟩ : ∃ n, n = s.fs.length := ⟨_, rfl⟩
  have HF : Hid (n1 ≤ 300 → n2 ≤ 300 → n3 ≤ 100 → s.few) := fun g1 g2 g3 => ⟨by omega, by omega, by omega⟩
  simp only [Stm.val]
  rw [← hn3] at hn c6 hW ⊢
  rw [← hn1] at hss ho
  rw [← hn2] at hds ho2
  have HN3 := Lib.hid hn3
  clear hn1 hn2 hn3 hS
  go_enter Tryd.func10, Tryd.ntmps10
  go_upto_region 1 with (fail)
  rw [← hW]
  clear hW
  by_cases h1 : 300 < n1
  · have e1 : decide (300 < (n1 : Int)) = true := decide_eq_true (by omega)
    go_wp2_with (fail)
    go_ret
    exact ⟨false, rfl, HB.out, by simp⟩
  · have e1 : decide (300 < (n1 : Int)) = false := decide_eq_false (by omega)
    by_cases h2 : 300 < n2
    · have e2 : decide (300 < (n2 : Int)) = true := decide_eq_true (by omega)
      go_wp2_with (fail)
      go_ret
      exact ⟨false, rfl, HB.out, by simp⟩
    · have e2 : decide (300 < (n2 : Int)) = false := decide_eq_false (by omega)
      by_cases h3 : 100 < n3
      · have e3 : decide (100 < (n3 : Int)) = true := decide_eq_true (by omega)
        go_wp2_with (fail)
        go_ret
        exact ⟨false, rfl, HB.out, by simp⟩
      · have e3 : decide (100 < (n3 : Int)) = false := decide_eq_false (by omega)
        have hfew : Hid s.few := HF.out (by omega) (by omega) (by omega)
        go_wp2_with (fail)
        go_loop [3, 4] (fun n i => ∃ (k : Nat) (v : Int), k ≤ n3 ∧ n = .int .i64 v ∧ i = .int .i64 k) (fun _ i => n3 - (intOf i).toNat)
        case atStart => exact ⟨0, 0, by omega, rfl, rfl⟩
        case round =>
          obtain ⟨k, v, hk, rfl, rfl⟩ := hrel
          by_cases hlt : k < n3
          · obtain ⟨x, rfl, d0, d1⟩ := (HIN.out.below HB.out) k (by rw [← HN3.out]; exact hlt)
            obtain ⟨tx, htx⟩ : ∃ t, t = (s.fs[k]'(by rw [← HN3.out]; exact hlt)).2 := ⟨_, rfl⟩
            rw [← htx] at d1
            obtain ⟨m, hm⟩ : ∃ m, m = tx.length := ⟨_, rfl⟩
            have hbs : (bs tx).size = m := by rw [bs_size, hm]
            obtain ⟨u, hu⟩ : ∃ u, IntKind.i64.wrap (v + (m : Int)) = u := ⟨_, rfl⟩
            clear htx hm d0
            by_cases q : 140000 < u
            · have e4 : decide (140000 < u) = true := decide_eq_true q
              go_wp2_with (fail)
              go_ret
              exact .inl ⟨rfl, HB.out⟩
            · have e4 : decide (140000 < u) = false := decide_eq_false q
              go_wp2_with (fail)
              go_round
              case rel => exact ⟨k + 1, u, by omega, rfl, by go_num⟩
              case measure => simp [intOf]; omega
          · obtain rfl : k = n3 := by omega
            go_wp2_with (fail)
            go_ret
            exact .inr ⟨rfl, HB.out, hfew.out⟩
end Go.Proofs.YtfagkmmenfeppaaDoor
