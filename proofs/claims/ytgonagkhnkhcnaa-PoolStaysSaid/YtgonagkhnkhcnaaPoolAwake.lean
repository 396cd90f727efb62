import Derived.Test.YtgonagkhnkhcnaaBkEq
import Derived.Deep.RegionHeld3
/- The document's example: awake. -/
namespace Go.Proofs.Ytgonagkhnkhcnaa
set_option maxRecDepth 100000
open Go.RowKit
theorem fA_mem {L : List Bk} {ps : List (Nat × Nat)} (hp : ps.Perm (allPts L)) (n : Nat) (h0 : 0 < ps.length) : ∃ b ∈ L, fA ps n = b.id.toNat := by
  unfold fA
  rw [if_neg (by omega), own_eq ps n _ (Nat.mod_lt _ h0) rfl]
  have hm := hp.mem_iff.1 (List.getElem_mem (Nat.mod_lt (lb ps n) h0))
  unfold allPts at hm
  rw [List.mem_flatMap] at hm
  obtain ⟨b, hb, hm⟩ := hm
  exact ⟨b, hb, pts_id hm⟩
def b1 : Bk := ⟨1, ⟨#[97, 98, 99, 100]⟩, 4607182418800017408⟩
def b2 : Bk := ⟨2, ⟨#[97, 98, 99, 100]⟩, 4607182418800017408⟩
theorem b1_ok : bk_ok b1 = true := by decide
theorem b2_ok : bk_ok b2 = true := by decide
theorem nb1 : nb b1 = b1 := rfl
theorem nb2 : nb b2 = b2 := rfl
theorem a1 : addE [] b1 = 0 := by unfold addE; rw [if_pos b1_ok]; decide
theorem l1 : addL [] b1 = [b1] := by unfold addL; rw [if_pos a1, nb1]; rfl
theorem a2 : addE [b1] b2 = 0 := by unfold addE; rw [if_pos b2_ok]; decide
theorem l2 : addL [b1] b2 = [b1, b2] := by unfold addL; rw [if_pos a2, nb2]; rfl
theorem r1 : remE [b1, b2] 1 = 0 := by decide
theorem o1 : out [b1, b2] 1 = [b2] := rfl
theorem g2 : get [b2] 2 = some b2 := rfl
set_option maxHeartbeats 2000000 in
theorem awake_any (w : World) : Calls Try.prog 6 #[] w fun e w' => e = .returned (.bool true) ∧ Below w.heap.size w w' := by
  have hsf := fun (b : Nat) (W : World) (c : Addr) (m : Mode) => store_float W c b m
  go_enter Try.func6, Try.ntmps6
  go_wp2_with (go_at_call 8; refine (pnew_any _).mono ?_; rintro e w1 ⟨P, M, ps0, rfl, h1, hb1⟩)
  refine (one_any 1 w1).mono ?_
  rintro e w2 ⟨rfl, hb2⟩
  have h2 := h1.below hb2
  have hb02 := hb1.trans (hb2.mono hb1.size)
  clear h1 hb1 hb2
  go_wp2_with (fail)
  refine (add_any _ P M [] ps0 b1 w2 h2 (by decide) (by decide) (by decide)).mono ?_
  rintro e w3 ⟨rfl, ⟨ps1, h3⟩, hb3, _⟩
  rw [l1] at h3
  rw [a1]
  have hb03 := hb02.trans hb3
  clear h2 hb02 hb3
  go_wp2_with (fail)
  refine (one_any 2 w3).mono ?_
  rintro e w4 ⟨rfl, hb4⟩
  have h4 := h3.below hb4
  have hb04 := hb03.trans (hb4.mono hb03.size)
  clear h3 hb03 hb4
  go_wp2_with (fail)
  refine (add_any _ P M [b1] ps1 b2 w4 h4 (by decide) (by decide) (by decide)).mono ?_
  rintro e w5 ⟨rfl, ⟨ps2, h5⟩, hb5, _⟩
  rw [l2] at h5
  rw [a2]
  have hb05 := hb04.trans hb5
  clear h4 hb04 hb5
  go_wp2_with (fail)
  refine (rem_any _ P M [b1, b2] ps2 1 w5 h5 (by decide)).mono ?_
  rintro e w6 ⟨rfl, ⟨ps3, h6⟩, hb6, _⟩
  rw [o1] at h6
  rw [r1]
  have hb06 := hb05.trans hb6
  clear h5 hb05 hb6
  go_wp2_with (fail)
  refine (pfind_any _ P M 5 [b2] ps3 w6 h6).mono ?_
  rintro e w7 ⟨rfl, hb7⟩
  have hlen : 0 < ps3.length := by
    rw [h6.perm.length_eq]
    decide +kernel
  obtain ⟨b, hb, hf⟩ := fA_mem h6.perm 5 hlen
  have hf2 : (fA ps3 5 : Int) = 2 := by
    rw [hf, List.mem_singleton.1 hb]; rfl
  have hgot : got [b2] (fA ps3 5) = b2 := by unfold got; rw [hf2, g2]; rfl
  have hget : (get [b2] (fA ps3 5)).isSome = true := by rw [hf2, g2]; rfl
  rw [hgot, hget]
  have hb07 := hb06.trans (hb7.mono hb06.size)
  clear hgot hget hf2 hf hb hlen h6 hb06 hb7
  unfold bkv b2
  simp only
  have O := Lib.hid (one_any 2)
  have HB07 := Lib.hid hb07
  clear hb07
  go_wp2_with (fail)
  have hn : (w7.alloc (.cells #[.int .i64 2, .string ⟨#[97, 98, 99, 100]⟩, .float .f64 4607182418800017408] 32)).heap[w7.heap.size]? = some (.cells #[.int .i64 2, .string ⟨#[97, 98, 99, 100]⟩, .float .f64 4607182418800017408] 32 (0, 0)) := alloc_new _ _
  have HC : Hid (∀ W, Below (w7.alloc (.cells #[.int .i64 2, .string ⟨#[97, 98, 99, 100]⟩, .float .f64 4607182418800017408] 32)).heap.size (w7.alloc (.cells #[.int .i64 2, .string ⟨#[97, 98, 99, 100]⟩, .float .f64 4607182418800017408] 32)) W → W.cell? ⟨w7.heap.size, 0, none⟩ = some (.int .i64 2) ∧ W.cell? ⟨w7.heap.size, 1, none⟩ = some (.string ⟨#[97, 98, 99, 100]⟩) ∧ W.cell? ⟨w7.heap.size, 2, none⟩ = some (.float .f64 4607182418800017408)) := fun W hW => by
    have h := hW.block w7.heap.size (heap_lt hn)
    rw [hn] at h
    exact ⟨by rw [Lib.cell_of_heap h]; rfl, by rw [Lib.cell_of_heap h]; rfl, by rw [Lib.cell_of_heap h]; rfl⟩
  have hmg := guard32
  have hbe : ∀ W, (binOp .eql 32 (.agg #[.int .i64 2, .string ⟨#[97, 98, 99, 100]⟩, .float .f64 4607182418800017408]) (.agg #[.int .i64 2, .string ⟨#[97, 98, 99, 100]⟩, .float .f64 4607182418800017408])).run Try.prog W = .ok (.bool true) W := fun W => by
    have h := bk_eql 2 2 ⟨#[97, 98, 99, 100]⟩ ⟨#[97, 98, 99, 100]⟩ 4607182418800017408 4607182418800017408 W
    rw [show bkeq ⟨2, ⟨#[97, 98, 99, 100]⟩, 4607182418800017408⟩ ⟨2, ⟨#[97, 98, 99, 100]⟩, 4607182418800017408⟩ = true from bkeq_self b2_ok] at h
    exact h
  clear hn
  go_region_held3 (fun w' => w'.cell? ⟨w7.heap.size, 0, none⟩ = some (.int .i64 2) ∧ w'.cell? ⟨w7.heap.size, 1, none⟩ = some (.string ⟨#[97, 98, 99, 100]⟩) ∧ w'.cell? ⟨w7.heap.size, 2, none⟩ = some (.float .f64 4607182418800017408)) (go_keep) ((go_simp; go_at_call 19; (with_reducible refine (O.out _).mono ?_); rintro e w8 ⟨rfl, hb8⟩; obtain ⟨k0, k1, k2⟩ := HC.out w8 ((Below.refl _ _).drew.trans hb8)))
  all_goals (try simp [Exit.then, Act.put])
  all_goals go_wp2_with (fail)
  all_goals go_ret
  all_goals (
    have hA : Below w7.heap.size w7 (w7.alloc (.cells #[.int .i64 2, .string ⟨#[97, 98, 99, 100]⟩, .float .f64 4607182418800017408] 32)).drew := ((Below.refl _ w7).alloc (Nat.le_refl _) _).drew
    have hC := hA.trans (hb8.mono hA.size)
    exact ⟨rfl, HB07.out.trans (hC.mono HB07.out.size)⟩)
end Go.Proofs.Ytgonagkhnkhcnaa
