import Derived.Test.YtmijfhfjhbckdaaPutA
import Derived.Test.YtmijfhfjhbckdaaCmp
/- awake: the document's examples. -/
namespace Go.Proofs.Ytmijfhfjhbckdaa
set_option maxRecDepth 100000
open Go.RowKit
theorem zB0 : zB ⟨#[]⟩ 0 ⟨#[]⟩ 0 false false 0 false 0 0 0 0 = true := by unfold zB; simp [feq00]
theorem awake_put (w : World) : Calls Try.prog 13 #[.agg #[.int .i64 3, .string ⟨#[]⟩, .int .i64 0, .string ⟨#[]⟩, .float .f64 0, .int .i64 0, .bool false, .bool false, .int .u32 0, .bool false, .int .i64 0, .int .i64 0, .int .i64 576, .int .i64 0]] w fun e w' => e = .returned (.tuple #[.string ⟨#[3, 2, 64]⟩, .int .i64 0]) ∧ Below w.heap.size w w' := by
  refine (put_num 3 ⟨#[]⟩ 0 ⟨#[]⟩ 0 0 false false 0 false 0 0 576 0 w (by omega) (fun V => by rfl)).mono ?_
  rintro e w' ⟨rfl, h⟩
  refine ⟨?_, h⟩
  rw [zB0]
  have e1 : fits 576 = true := by decide
  have e2 : be (u64 3) 1 ++ be (u64 576) 2 = [3, 2, 64] := by decide
  rw [e1, e2]
  rfl
set_option maxHeartbeats 4000000 in
theorem awake_any (w : World) : Calls Try.prog 6 #[] w fun e w' => e = .returned (.bool true) ∧ Below w.heap.size w w' := by
  have PU := Lib.hid (fun w => awake_put w)
  have EN : Hid (∀ w, Calls Try.prog 10 #[.string ⟨#[10, 11]⟩] w fun e w' => ∃ g cap cur, e = .returned (.slice (some ⟨g, 0, none⟩) 2 cap) ∧ Below w.heap.size w w' ∧ w'.heap[g]? = some (.cells cur 66 (0, 0)) ∧ w'.cell? ⟨g, 0, none⟩ = some (.int .i64 10) ∧ w'.cell? ⟨g, 14, none⟩ = some (.int .i64 0) ∧ w'.cell? ⟨g, 29, none⟩ = some (.int .i64 9)) := by
    intro w
    refine (entries_any ⟨#[10, 11]⟩ w (by decide)).mono ?_
    rintro e w' ⟨v, rfl, st⟩
    have hE : entP (ByteArray.data ⟨#[10, 11]⟩).toList.length (ByteArray.data ⟨#[10, 11]⟩).toList = [.ok (10, .non), .error 9] := by rfl
    rw [hE] at st
    rcases st.lies with ⟨_, h⟩ | ⟨g, cap, cur, rfl, hg, hc⟩
    · cases h
    · exact ⟨g, cap, cur, rfl, st.bel, hg, cellE hg hc 0 0 (by simp) (by omega) _ rfl, cellE hg hc 0 14 (by simp) (by omega) _ rfl, cellE hg hc 1 14 (by simp) (by omega) _ rfl⟩
  go_enter Try.func6, Try.ntmps6
  go_wp2_with (first | (go_at_call 13; (with_reducible refine (PU.out _).mono ?_); rintro e w1 ⟨rfl, hb1⟩) | (go_at_call 10; (with_reducible refine (EN.out _).mono ?_); rintro e w2 ⟨g, cap, cur, rfl, hb2, hg, c0, c14, c29⟩))
  go_ret
  exact ⟨rfl, hb1.trans (hb2.mono hb1.size)⟩
end Go.Proofs.Ytmijfhfjhbckdaa
