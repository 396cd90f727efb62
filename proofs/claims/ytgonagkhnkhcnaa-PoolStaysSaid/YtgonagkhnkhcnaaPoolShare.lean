import Derived.Test.YtgonagkhnkhcnaaPoolSame
import Derived.Test.YtgonagkhnkhcnaaShare
/- (*Pool).Share. -/
namespace Go.Proofs.Ytgonagkhnkhcnaa
set_option maxRecDepth 100000
open Go.RowKit
theorem Owned.share {B : Nat} {v : Value} {l : List Nat} {w : World} (h : Owned B v l w) (h0 : 0 < l.length) (hl : l.length ≤ 100) (hw : ∀ y ∈ l, y < W64) (x : Nat) (hx : x < W64) (W : World) (hW : Below w.heap.size w W) :
    Calls Try.prog 27 #[.float .f64 x, v] W fun e w' => e = .returned (.tuple #[.float .f64 (shareV x l), .int .i64 (shareE x l)]) ∧ Below W.heap.size W w' := by
  obtain ⟨g, c, rfl, hc⟩ := h.shape h0
  have hcap : l.length ≤ c := by
    rcases h.2 with ⟨h1, _⟩ | ⟨g', cap, cur, h1, _, _, h2, _⟩
    · cases h1
    · injection h1 with _ _ h3; omega
  exact share_some x l g c W hx hw (by omega) hcap (fun j hj => (hW.cell (World.block_lt_of_cell? w _ (hc j hj))).trans (hc j hj))
theorem one_fnew (w : World) (y : Nat) (t : TypeId) : ∀ (j : Nat) (u : Value), [Value.float .f64 y][j]? = some u → (w.alloc (Obj.cells #[Value.float .f64 y] t)).cell? ((⟨w.heap.size, 0, none⟩ : Addr).add j) = some u := by
  intro j u hu
  cases j with
  | zero => simp only [List.getElem?_cons_zero, Option.some.injEq] at hu; subst hu; rw [add_plain]; simp
  | succ j => simp at hu
theorem one_fcell (y : Nat) : ∀ u ∈ [Value.float .f64 y], u.oneCell' = true := by
  intro u hu; rw [List.mem_singleton] at hu; subst hu; rfl
def shV (L : List Bk) (i : Int) : Nat := if i ∈ ids L then shareV (got L i).wt (L.map Bk.wt) else 0
def shE (L : List Bk) (i : Int) : Int := if i ∈ ids L then shareE (got L i).wt (L.map Bk.wt) else 7
set_option maxHeartbeats 4000000 in
theorem pshare_any (B P M : Nat) (L : List Bk) (ps : List (Nat × Nat)) (i : Int) (w : World) (h : PoolAt B P M L ps w) (hi : (Lit.int .i64 i).wf = true) :
    Calls Try.prog 18 #[.pointer (some ⟨P, 0, none⟩), .int .i64 i] w fun e w' => e = .returned (.tuple #[.float .f64 (shV L i), .int .i64 (shE L i)]) ∧ Below w.heap.size w w' := by
  have hsf := fun (b : Nat) (W : World) (c : Addr) (m : Mode) => store_float W c b m
  have d0 := h.cells
  have l0 := h.pm.look i hi
  by_cases hm : i ∈ ids L
  · have his : (get L i).isSome = true := by rw [get_some, decide_eq_true hm]
    have hgm := (got_id hm).1
    obtain ⟨⟨gi, gs, gf⟩, hg⟩ : ∃ b, b = got L i := ⟨_, rfl⟩
    rw [show (get L i).getD ⟨0, ⟨#[]⟩, 0⟩ = got L i from rfl, ← hg, his] at l0
    rw [← hg] at hgm
    unfold bkv at l0
    simp only at l0
    have eV : Hid (shV L i = shareV gf (L.map Bk.wt)) := show _ = _ by unfold shV; rw [if_pos hm, ← hg]
    have eE : Hid (shE L i = shareE gf (L.map Bk.wt)) := show _ = _ by unfold shE; rw [if_pos hm, ← hg]
    obtain ⟨W1, hW1⟩ : ∃ W1, W1 = w.alloc (.cells #[.int .i64 gi, .string gs, .float .f64 gf] 32) := ⟨_, rfl⟩
    have hb1 : Below w.heap.size w W1 := by rw [hW1]; exact (Below.refl _ w).alloc (Nat.le_refl _) _
    have hn1 : W1.heap[w.heap.size]? = some (.cells #[.int .i64 gi, .string gs, .float .f64 gf] 32 (0, 0)) := by rw [hW1]; exact alloc_new _ _
    have LI := Lib.hid (plist_any B P M L ps W1 (h.below hb1))
    have HG := Lib.hid h.good
    have HW1 := Lib.hid hW1
    have HB1 := Lib.hid hb1
    have HN1 := Lib.hid (box_cells hn1)
    have hfw : gf < W64 := (h.good.bkok _ hgm).1
    have hL0 : 0 < L.length := List.length_pos_of_mem hgm
    have hLF := h.good.few
    rw [hW1] at LI
    obtain ⟨i0, hi0, hz0, hz1, hz2⟩ := info_parts25
    have HII := Lib.hid (And.intro hi0 (And.intro hz0 (And.intro hz1 hz2)))
    clear h hm his hg hgm hb1 hn1 hi hW1 hi0 hz0 hz1 hz2
    go_enter Try.func18, Try.ntmps18
    go_wp2_with (go_at_call 14; refine LI.out.mono ?_; rintro e w5 ⟨v9, rfl, hv9, hb5⟩; obtain ⟨a9, c9, rfl, _⟩ := hv9.open)
    rw [← HW1.out] at hb5
    obtain ⟨C, hC⟩ : ∃ C, C = w5.heap.size := ⟨_, rfl⟩
    have HC := Lib.hid hC
    have HV9 := Lib.hid hv9
    have HB5 := Lib.hid hb5
    clear hC hv9 hb5
    try go_frame
    go_loopw [8, 25] (fun v j wr => ∃ (k : Nat) (acc : List Nat), k ≤ L.length ∧ j = .int .i64 k ∧ Hid (acc = (L.take k).map Bk.wt) ∧ Hid (Owned C v acc wr) ∧ Below C w5 wr) (fun _ j _ => L.length - (intOf j).toNat)
    case atStart => exact ⟨0, [], by omega, rfl, rfl, World.ownsRow_nil _ _ _ _, Below.refl _ _⟩
    case round =>
      obtain ⟨k, acc, hk, rfl, hacc, hrow, hb⟩ := hrel
      by_cases hlt : k < L.length
      · obtain ⟨g, c8, e8, hcell⟩ := HV9.out.at hL0
        injection e8 with e8 _ e9
        subst e8 e9
        obtain ⟨x0, x1, x2⟩ := hcell wr (by rw [← HC.out]; exact hb) k hlt
        have hac2 : Hid (acc ++ [L[k].wt] = (L.take (k + 1)).map Bk.wt) := show _ = _ by rw [hacc.out, take_one L k hlt, List.map_append]; rfl
        have hacl : Hid (acc.length ≤ 64) := show acc.length ≤ 64 by rw [hacc.out, List.length_map, List.length_take]; omega
        obtain ⟨⟨ri, rs, rf⟩, hr9⟩ : ∃ b, b = L[k] := ⟨_, rfl⟩
        rw [← hr9] at x0 x1 x2 hac2
        simp only at x0 x1 x2 hac2
        have hCw : Hid (C ≤ wr.heap.size) := show C ≤ wr.heap.size by rw [HC.out]; exact hb.size
        have HBK := Lib.hid hb
        have hk1 : (k : Int) < (L.length : Int) := by omega
        have hk0 : (0 : Int) ≤ (k : Int) := by omega
        have HCL : Hid (∀ j u, [Value.float .f64 rf][j]? = some u → ((wr.alloc (.cells #[.int .i64 ri, .string rs, .float .f64 rf] 32)).alloc (.cells #[.float .f64 rf] 30)).cell? ((⟨wr.heap.size + 1, 0, none⟩ : Addr).add j) = some u) := fun j u hu => by
          have h := one_fnew (wr.alloc (.cells #[.int .i64 ri, .string rs, .float .f64 rf] 32)) rf 30 j u hu
          rw [World.size_alloc] at h
          exact h
        clear hr9 hcell hb
        go_wp2_with (at_builtin; refine keepGoal ?_)
        refine ⟨?_, trivial⟩
        have hb66 : Below wr.heap.size wr ((wr.alloc (.cells #[.int .i64 ri, .string rs, .float .f64 rf] 32)).alloc (.cells #[.float .f64 rf] 30)) := ((Below.refl _ wr).alloc (Nat.le_refl _) _).alloc (by rw [World.size_alloc]; omega) _
        have hb06 := HBK.out.trans (hb66.mono hCw.out)
        have hoq : ∀ q, u8.ownBlock = some q → C ≤ q := fun q hq => (World.ownsRow.lt hrow.out q hq).1
        refine wpList_append_own_at _ rfl (.tmp 29) (.tmp 32) 60 rfl C 30 i0 _ 1 8 Try.underlying60 HII.out.1 HII.out.2.1 HII.out.2.2.1 HII.out.2.2.2 rfl (by decide) _ _ _ rfl (World.ownsRow.alloc (World.ownsRow.alloc hrow.out _) _) ⟨wr.heap.size + 1, 0, none⟩ 1 1 [.float .f64 rf] rfl rfl HCL.out (one_fcell _) ?p1 ?p2 ?p3 ?_
        case p1 => have := hacl.out; unfold maxLen; omega
        case p2 => have := hacl.out; omega
        case p3 => have := hCw.out; simp; omega
        intro v' w7 hown' hgrow _ _
        have HO7 : Hid (Owned C v' (acc ++ [rf]) w7) := by
          show w7.ownsRow C 30 1 v' (acc ++ [rf]).length (floats (acc ++ [rf]))
          rw [List.length_append, ← floats_app]; exact hown'
        have HB7 := Lib.hid (hb06.grown hgrow (by have := hb66.size; have := hCw.out; omega) (fun q hq => hoq q hq))
        clear hown' hgrow hb66 hb06 hoq HCL
        go_wp2_with (fail)
        exact ⟨⟨k + 1, acc ++ [rf], by omega, by go_num, hac2, HO7, HB7.out⟩, by simp [intOf] <;> omega⟩
      · obtain rfl : k = L.length := by omega
        have hac3 : acc = L.map Bk.wt := by rw [hacc.out, List.take_length]
        have hal : acc.length = L.length := by rw [hac3, List.length_map]
        have SH := Lib.hid (hrow.out.share (by omega) (by omega) (fun y hy => by
          rw [hac3] at hy
          obtain ⟨b, hb2, rfl⟩ := List.mem_map.1 hy
          exact (HG.out.bkok b hb2).1) gf hfw wr (Below.refl _ _))
        rw [hac3, ← eV.out, ← eE.out] at SH
        obtain ⟨sv, hsv⟩ : ∃ x, x = shV L i := ⟨_, rfl⟩
        obtain ⟨se, hse⟩ : ∃ x, x = shE L i := ⟨_, rfl⟩
        rw [← hsv, ← hse] at SH
        have HSV := Lib.hid hsv
        have HSE := Lib.hid hse
        have hb0 : Below W1.heap.size W1 wr := HB5.out.trans (hb.mono (by rw [HC.out]; exact HB5.out.size))
        have y2 := (HN1.out wr hb0).2.2
        have hfin : Below w.heap.size w wr := HB1.out.trans (hb0.mono HB1.out.size)
        have HFIN := Lib.hid hfin
        clear hac3 hal hsv hse hb0 hfin hacc hrow hb
        go_wp2_with (go_at_call 27; (with_reducible refine SH.out.mono ?_); rintro e w8 ⟨rfl, hb8⟩)
        go_ret2
        exact ⟨by rw [← HSV.out, ← HSE.out]; rfl, HFIN.out.trans (hb8.mono HFIN.out.size)⟩
  · have his : (get L i).isSome = false := by rw [get_some, decide_eq_false hm]
    obtain ⟨⟨gi, gs, gf⟩, hg⟩ : ∃ b, b = got L i := ⟨_, rfl⟩
    rw [show (get L i).getD ⟨0, ⟨#[]⟩, 0⟩ = got L i from rfl, ← hg, his] at l0
    unfold bkv at l0
    simp only at l0
    have eV : Hid (shV L i = 0) := show _ = _ by unfold shV; rw [if_neg hm]
    have eE : Hid (shE L i = 7) := show _ = _ by unfold shE; rw [if_neg hm]
    clear h hm his hg hi
    go_enter Try.func18, Try.ntmps18
    go_wp2_with (fail)
    go_ret2
    exact ⟨by rw [eV.out, eE.out]; rfl, (Below.refl _ w).alloc (Nat.le_refl _) _⟩
end Go.Proofs.Ytgonagkhnkhcnaa
