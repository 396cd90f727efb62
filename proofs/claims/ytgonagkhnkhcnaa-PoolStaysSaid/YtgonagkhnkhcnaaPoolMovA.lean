import Derived.Deep.QuietTactic
import Derived.BigQuiet
import Derived.Test.YtgonagkhnkhcnaaPoolMovP
import Derived.Test.YtgonagkhnkhcnaaPoolAwake
import Derived.Test.YtgonagkhnkhcnaaNums
/- PoolMoves: the walk. -/
namespace Go.Proofs.Ytgonagkhnkhcnaa
set_option maxRecDepth 100000
open Go.RowKit
theorem below_drewN {B : Nat} {a w : World} (h : Below B a w) (n : Nat) : Below B a (w.drewN n) := ⟨h.os, h.tape, h.output, h.size, h.block⟩
theorem BRow.same {B : Nat} {v : Value} {bs : List Bk} {w w' : World} (h : BRow B v bs w) (hs : ∀ k, v.ownBlock = some k → w'.heap[k]? = w.heap[k]?) : BRow B v bs w' := by
  rcases h with ⟨h1, h2⟩
  refine ⟨h1, ?_⟩
  rcases h2 with h2 | ⟨g, cap, cur, rfl, e2, e3, e4⟩
  · exact .inl h2
  · exact .inr ⟨g, cap, cur, rfl, e2, by rw [hs g rfl]; exact e3, e4⟩
theorem BRow.below {B : Nat} {v : Value} {bs : List Bk} {w w' : World} (h : BRow B v bs w) (hb : Below w.heap.size w w') : BRow B v bs w' := h.same (fun k hk => hb.block k (World.ownsRow.lt h k hk).2)
theorem BRow.at {B : Nat} {v : Value} {bs : List Bk} {w : World} (h : BRow B v bs w) (h0 : 0 < bs.length) : ∃ g c, v = .slice (some ⟨g, 0, none⟩) bs.length c ∧ ∀ W, Below w.heap.size w W → ∀ j (hj : j < bs.length), W.cell? ⟨g, j * 3, none⟩ = some (.int .i64 bs[j].id) ∧ W.cell? ⟨g, j * 3 + 1, none⟩ = some (.string bs[j].addr) ∧ W.cell? ⟨g, j * 3 + 2, none⟩ = some (.float .f64 bs[j].wt) := by
  obtain ⟨g, c, rfl, _⟩ := World.ownsRow.form h h0
  refine ⟨g, c, rfl, fun W hW j hj => ?_⟩
  obtain ⟨d0, d1, d2⟩ := bflat_get bs j hj
  have hc : ∀ i u, (bflat bs)[i]? = some u → W.cell? ⟨g, i, none⟩ = some u := fun i u hu => by
    have h1 := World.ownsRow.cells (h.below hW) (g := g) rfl i u hu
    have e : (⟨g, 0, none⟩ : Addr).add i = ⟨g, i, none⟩ := by unfold Addr.add; split <;> simp_all
    rw [e] at h1; exact h1
  exact ⟨hc _ _ d0, hc _ _ d1, hc _ _ d2⟩
theorem box_cells {w : World} {g : Nat} {i : Int} {s : ByteArray} {f : Nat} (h : w.heap[g]? = some (.cells #[.int .i64 i, .string s, .float .f64 f] 32 (0, 0))) : ∀ W, Below w.heap.size w W → W.cell? ⟨g, 0, none⟩ = some (.int .i64 i) ∧ W.cell? ⟨g, 1, none⟩ = some (.string s) ∧ W.cell? ⟨g, 2, none⟩ = some (.float .f64 f) := fun W hW => by
  have h2 : W.heap[g]? = some (.cells #[.int .i64 i, .string s, .float .f64 f] 32 (0, 0)) := by rw [hW.block g (heap_lt h)]; exact h
  exact ⟨by rw [Lib.cell_of_heap h2]; rfl, by rw [Lib.cell_of_heap h2]; rfl, by rw [Lib.cell_of_heap h2]; rfl⟩
set_option maxHeartbeats 4000000 in
theorem movesA (cs : List Ac) (a : Option Addr) (cap : Nat) (i : Int) (zs : List Nat) (an : Option Addr) (cn : Nat) (w : World) (hin : ActIn w a cs) (hok : ActOk cs) (hi : (Lit.int .i64 i).wf = true) (hz : NIn w an zs) :
    Calls Try.prog 3 #[.slice a cs.length cap, .int .i64 i, .slice an zs.length cn] w fun e w' => e = .returned (.bool true) ∧ Below w.heap.size w w' := by
  have A := Lib.hid (fun W => awake_any W)
  have F := Lib.hid (fun W hW => few_any cs a cap W (hin.below hW) hok)
  have HI := Lib.hid hi
  cases hf : fewA cs with
  | false =>
    rw [hf] at F
    clear hin hok hf hz hi
    go_enter Try.func3, Try.ntmps3
    go_wp2_with (first | (go_at_call 6; refine (A.out _).mono ?_; rintro e w1 ⟨rfl, hb1⟩) | (go_at_call 7; refine (F.out _ hb1).mono ?_; rintro e w2 ⟨rfl, rfl⟩))
    go_ret
    exact ⟨rfl, hb1⟩
  | true =>
    rw [hf] at F
    by_cases h100 : (zs.length : Int) > 100
    · clear hin hok hf hz hi
      go_enter Try.func3, Try.ntmps3
      go_wp2_with (first | (go_at_call 6; refine (A.out _).mono ?_; rintro e w1 ⟨rfl, hb1⟩) | (go_at_call 7; refine (F.out _ hb1).mono ?_; rintro e w2 ⟨rfl, rfl⟩))
      go_ret
      exact ⟨rfl, hb1⟩
    have HN : Hid (∀ W, Below w.heap.size w W → NIn W an zs) := fun W hW => hz.below hW
    have HA : Hid (∀ W, Below w.heap.size w W → ActIn W a cs) := fun W hW => hin.below hW
    have HO := Lib.hid hok
    have h101 : ¬ (zs.length : Int) > 100 := h100
    have H100 : Hid (zs.length ≤ 100) := show zs.length ≤ 100 by omega
    have PN := Lib.hid (fun W => pnew_any W)
    have hsf := fun (b : Nat) (W : World) (c : Addr) (m : Mode) => store_float W c b m
    have hc101 : cs.length ≤ 101 := by
      unfold fewA at hf
      rw [Bool.and_eq_true] at hf
      exact of_decide_eq_true hf.1
    clear hin hok hf hz hi h100
    go_enter Try.func3, Try.ntmps3
    go_wp2_with (first | (go_at_call 6; refine (A.out _).mono ?_; rintro e w1 ⟨rfl, hb1⟩) | (go_at_call 7; refine (F.out _ hb1).mono ?_; rintro e w2 ⟨rfl, rfl⟩) | (go_at_call 8; refine (PN.out _).mono ?_; rintro e w3 ⟨P, M, ps0, rfl, hp3, hb3⟩))
    obtain ⟨B, hB⟩ : ∃ B, B = w2.heap.size := ⟨_, rfl⟩
    rw [← hB] at hp3 hb3
    have hwB : w.heap.size ≤ B := by rw [hB]; exact hb1.size
    have HB1 := Lib.hid hb1
    have HWB := Lib.hid hwB
    have HP3 := Lib.hid hp3
    clear hp3 hb1 hB hwB A F PN
    go_loopw [8] (fun i wr => ∃ (k : Nat) (L : List Bk) (ps : List (Nat × Nat)), k ≤ cs.length ∧ i = .int .i64 k ∧ Hid (PoolAt B P M L ps wr) ∧ Below B w2 wr) (fun i _ => cs.length - (intOf i).toNat)
    case atStart => exact ⟨0, [], ps0, by omega, rfl, HP3, hb3⟩
    case round =>
      obtain ⟨k, L, ps, hk, rfl, hp, hb⟩ := hrel
      have hbw : Below w.heap.size w wr := HB1.out.trans (hb.mono HWB.out)
      by_cases hlt : k < cs.length
      · obtain ⟨x, rfl, c0, c1, c2, c3⟩ := HA.out wr hbw k hlt
        obtain ⟨o1, o2, o3⟩ := HO.out cs[k] (List.getElem_mem hlt)
        obtain ⟨⟨rem, ⟨id, ad, wt⟩⟩, hck⟩ : ∃ c, c = cs[k] := ⟨_, rfl⟩
        rw [← hck] at c0 c1 c2 c3 o1 o2 o3
        simp only at c0 c1 c2 c3 o1 o2 o3
        have D := Lib.hid (do_any B P M L ps ⟨rem, ⟨id, ad, wt⟩⟩ wr hp.out o1 o2 o3)
        simp only at D
        have HB := Lib.hid hb
        clear o1 o2 o3 hck hbw hb hp
        go_wp2_with (go_at_call 9; (with_reducible refine D.out.mono ?_); rintro e w4 ⟨rfl, ⟨ps', hp4⟩, hb4, _⟩; have HP4 := Lib.hid hp4; clear hp4)
        exact ⟨⟨k + 1, _, ps', by omega, by go_num, HP4, HB.out.trans hb4⟩, by simp [intOf] <;> omega⟩
      · obtain rfl : k = cs.length := by omega
        have G := Lib.hid (get_any B P M L ps i wr hp.out HI.out)
        have HBW := Lib.hid hbw
        have HB := Lib.hid hb
        have HP := Lib.hid hp
        by_cases him : i ∈ ids L
        · have his : (get L i).isSome = true := by rw [get_some, decide_eq_true him]
          obtain ⟨⟨gi, gs, gf⟩, hg⟩ : ∃ b, b = got L i := ⟨_, rfl⟩
          rw [← hg, his] at G
          unfold bkv at G
          simp only at G
          have HIM := Lib.hid him
          have HGG := Lib.hid hg
          clear him his hg hb hp hbw
          go_wp2_with (go_at_call 10; (with_reducible refine G.out.mono ?_); rintro e w4 ⟨rfl, hb4⟩)
          obtain ⟨W5, hW5⟩ : ∃ W5, W5 = w4.alloc (.cells #[.int .i64 gi, .string gs, .float .f64 gf] 32) := ⟨_, rfl⟩
          obtain ⟨gb, hgb⟩ : ∃ gb, gb = w4.heap.size := ⟨_, rfl⟩
          rw [← hW5, ← hgb]
          have hb45 : Below w4.heap.size w4 W5 := by rw [hW5]; exact (Below.refl _ w4).alloc (Nat.le_refl _) _
          have hbr5 : Below wr.heap.size wr W5 := hb4.trans (hb45.mono hb4.size)
          have hg5 : W5.heap[gb]? = some (.cells #[.int .i64 gi, .string gs, .float .f64 gf] 32 (0, 0)) := by rw [hW5, hgb]; exact alloc_new _ _
          have hp5 := HP.out.out.below hbr5
          have hBr : B ≤ wr.heap.size := by
            obtain ⟨R, u, h1, _⟩ := HP.out.out.ring
            have := heap_lt h1
            have := HP.out.out.bP
            omega
          have hPl : P < wr.heap.size := by
            obtain ⟨R, u, h1, _⟩ := HP.out.out.ring
            exact heap_lt h1
          have hMl : M < wr.heap.size := HP.out.out.pm.lt
          have hgbs : wr.heap.size ≤ gb := by rw [hgb]; exact hb4.size
          have HPG : Hid (gb ≠ P ∧ gb ≠ M) := ⟨by omega, by omega⟩
          have HP5 := Lib.hid hp5
          have HG5 := Lib.hid hg5
          have HB5 : Hid (Below w.heap.size w W5) := HBW.out.trans (hbr5.mono HBW.out.size)
          have HBB5 : Hid (Below B w2 W5) := HB.out.trans (hbr5.mono hBr)
          obtain ⟨C, hC⟩ : ∃ C, C = W5.heap.size := ⟨_, rfl⟩
          have HC := Lib.hid hC
          have HPMC : Hid (P < C ∧ M < C ∧ gb < C ∧ w.heap.size ≤ C ∧ B ≤ C) := ⟨by rw [hC]; have := hbr5.size; omega, by rw [hC]; have := hbr5.size; omega, by rw [hC]; exact heap_lt hg5, by rw [hC]; exact HB5.out.size, by rw [hC]; have := hbr5.size; omega⟩
          obtain ⟨i0, hi0, hz0, hz1, hz2⟩ := info30
          have HII := Lib.hid (And.intro hi0 (And.intro hz0 (And.intro hz1 hz2)))
          clear hW5 hgb hb45 hbr5 hg5 hp5 hBr hPl hMl hgbs hb4 G hi0 hz0 hz1 hz2 hC
          go_wp2_with (fail)
          go_loopw [11, 12] (fun v j wr => ∃ (k : Nat) (acc : List Bk), k ≤ zs.length ∧ j = .int .i64 k ∧ Hid (acc = (zs.take k).map (fun z => got L (fA ps z))) ∧ Hid (BRow C v acc wr) ∧ Below C W5 wr) (fun _ j _ => zs.length - (intOf j).toNat)
          case atStart => exact ⟨0, [], by omega, rfl, rfl, World.ownsRow_nil _ _ _ _, Below.refl _ _⟩
          case round =>
            obtain ⟨k, acc, hk, rfl, hacc, hrow, hb⟩ := hrel
            by_cases hlt : k < zs.length
            · obtain ⟨x, rfl, cz⟩ := HN.out wr (HB5.out.trans (hb.mono HPMC.out.2.2.2.1)) k hlt
              have hac2 : Hid (acc ++ [got L (fA ps zs[k])] = (zs.take (k + 1)).map (fun z => got L (fA ps z))) := show _ = _ by rw [hacc.out, take_one zs k hlt, List.map_append]; rfl
              have hacl : Hid (acc.length ≤ 100) := show acc.length ≤ 100 by rw [hacc.out, List.length_map, List.length_take]; have := H100.out; omega
              obtain ⟨z, hz⟩ : ∃ z, z = zs[k] := ⟨_, rfl⟩
              rw [← hz] at cz hac2
              have hpr := HP5.out.below (by rw [← HC.out]; exact hb)
              have FD := Lib.hid (pfind_any B P M z L ps wr hpr)
              obtain ⟨⟨fi, fs, ff⟩, hfb⟩ : ∃ b, b = got L (fA ps z : Nat) := ⟨_, rfl⟩
              obtain ⟨fo, hfo⟩ : ∃ b, b = (get L (fA ps z : Nat)).isSome := ⟨_, rfl⟩
              rw [← hfb, ← hfo] at FD
              rw [← hfb] at hac2
              unfold bkv at FD
              simp only at FD
              have HB := Lib.hid hb
              have hCw : Hid (C ≤ wr.heap.size) := show C ≤ wr.heap.size by rw [HC.out]; exact hb.size
              have HCL : Hid (∀ w6 : World, ∀ j u, (bcells ⟨fi, fs, ff⟩)[j]? = some u → ((w6.alloc (.cells #[.int .i64 fi, .string fs, .float .f64 ff] 32)).alloc (.cells #[.int .i64 fi, .string fs, .float .f64 ff] 32)).cell? ((⟨w6.heap.size + 1, 0, none⟩ : Addr).add j) = some u) := fun w6 j u hu => by
                have h := one_cells (w6.alloc (.cells #[.int .i64 fi, .string fs, .float .f64 ff] 32)) ⟨fi, fs, ff⟩ 32 j u hu
                rw [World.size_alloc] at h
                exact h
              clear hz hpr hfb hfo hb
              go_wp2_with (first | (go_at_call 12; (with_reducible refine FD.out.mono ?_); rintro e w6 ⟨rfl, hb6⟩) | (at_builtin; refine keepGoal ?_))
              refine ⟨?_, trivial⟩
              have hr6 : BRow C u11 acc w6 := by
                obtain ⟨h1, h2⟩ := hrow.out
                refine ⟨h1, ?_⟩
                rcases h2 with h2 | ⟨g, cap, cur, e1, e2, e3, e4⟩
                · exact .inl h2
                · exact .inr ⟨g, cap, cur, e1, e2, by rw [hb6.block g (heap_lt e3)]; exact e3, e4⟩
              have hb66 : Below w6.heap.size w6 ((w6.alloc (.cells #[.int .i64 fi, .string fs, .float .f64 ff] 32)).alloc (.cells #[.int .i64 fi, .string fs, .float .f64 ff] 32)) := ((Below.refl _ w6).alloc (Nat.le_refl _) _).alloc (by rw [World.size_alloc]; omega) _
              have hb06 := HB.out.trans ((hb6.trans (hb66.mono hb6.size)).mono hCw.out)
              have hs6 : C ≤ w6.heap.size := Nat.le_trans hCw.out hb6.size
              have hoq : ∀ q, u11.ownBlock = some q → C ≤ q := fun q hq => (World.ownsRow.lt hr6 q hq).1
              refine wpList_append_own_at _ rfl (.tmp 73) (.tmp 75) 38 rfl C 32 i0 _ 3 32 Try.underlying38 HII.out.1 HII.out.2.1 HII.out.2.2.1 HII.out.2.2.2 rfl (by decide) _ _ _ rfl (World.ownsRow.alloc (World.ownsRow.alloc hr6 _) _) ⟨w6.heap.size + 1, 0, none⟩ 1 1 (bcells ⟨fi, fs, ff⟩) rfl rfl (HCL.out w6) (one_bcell _) ?p1 ?p2 ?p3 ?_
              case p1 => have := hacl.out; unfold maxLen; omega
              case p2 => have := hacl.out; omega
              case p3 => simp; omega
              intro v' w7 hown' hgrow _ _
              have HO7 : Hid (BRow C v' (acc ++ [⟨fi, fs, ff⟩]) w7) := brow_append hown'
              have HB7 := hb06.grown hgrow (by have := hb66.size; omega) (fun q hq => hoq q hq)
              have HB7' := Lib.hid HB7
              clear hown' hgrow hr6 hb66 hb06 hoq hb6 HCL FD HB7
              go_wp2_with (fail)
              exact ⟨⟨k + 1, acc ++ [⟨fi, fs, ff⟩], by omega, by go_num, hac2, HO7, HB7'.out⟩, by simp [intOf] <;> omega⟩
            · obtain rfl : k = zs.length := by omega
              have hac3 : Hid (acc = zs.map (fun z => got L (fA ps z))) := show _ = _ by rw [hacc.out, List.take_length]
              have hpr := HP5.out.below (by rw [← HC.out]; exact hb)
              have e0 : Hid (remE L i = 0) := show _ = _ by unfold remE; rw [if_pos HIM.out]
              have R := Lib.hid (rem_any B P M L ps i wr hpr HI.out)
              rw [e0.out] at R
              have HB := Lib.hid hb
              have hCw : C ≤ wr.heap.size := by rw [HC.out]; exact hb.size
              have HCW := Lib.hid hCw
              have HROW := Lib.hid hrow
              have GOOD := Lib.hid hpr.good
              have PERM := Lib.hid hpr.perm
              have SORT := Lib.hid hpr.sorted
              clear hpr hb hCw
              go_wp2_with (go_at_call 11; (with_reducible refine R.out.mono ?_); rintro e w8 ⟨rfl, ⟨qs, hp8⟩, hb8, hs8⟩)
              have HS8 : Hid (∀ k, k < C → k ≠ P → k ≠ M → w8.heap[k]? = W5.heap[k]?) := fun k hk h1 h2 => by
                rw [hs8 k (Nat.lt_of_lt_of_le hk HCW.out) h1 h2, HB.out.block k hk]
              have hg8 : w8.heap[gb]? = some (.cells #[.int .i64 gi, .string gs, .float .f64 gf] 32 (0, 0)) := by rw [HS8.out gb HPMC.out.2.2.1 HPG.out.1 HPG.out.2]; exact HG5.out
              have hr8 : BRow C u11 acc w8 := HROW.out.out.same (fun k hk => by
                have h1 := World.ownsRow.lt HROW.out.out k hk
                have := HPMC.out
                exact hs8 k h1.2 (by omega) (by omega))
              have hB8 : Below w.heap.size w w8 := HB5.out.trans ((HB.out.mono HPMC.out.2.2.2.1).trans (hb8.mono HWB.out))
              have HP8 := Lib.hid hp8
              have HG8 := Lib.hid (box_cells hg8)
              have HGH := Lib.hid hg8
              have HR8 := Lib.hid hr8
              have HB8 := Lib.hid hB8
              obtain ⟨D, hD⟩ : ∃ D, D = w8.heap.size := ⟨_, rfl⟩
              have HD := Lib.hid hD
              have HWD : Hid (w.heap.size ≤ D ∧ B ≤ D ∧ gb < D) := ⟨by rw [hD]; exact hB8.size, by rw [hD]; exact Nat.le_trans (Nat.le_trans HPMC.out.2.2.2.2 HCW.out) hb8.size, by rw [hD]; exact heap_lt hg8⟩
              have hal : acc.length = zs.length := by rw [hac3.out, List.length_map]
              have HAL := Lib.hid hal
              have hmg := guard32
              clear hp8 hb8 hs8 hg8 hr8 hB8 hD hal R
              go_wp2_with (fail)
              go_loopw [15] (fun j wr => ∃ k : Nat, k ≤ zs.length ∧ j = .int .i64 k ∧ Below D w8 wr) (fun j _ => zs.length - (intOf j).toNat)
              case atStart => exact ⟨0, by omega, rfl, Below.refl _ _⟩
              case round =>
                obtain ⟨k, hk, rfl, hb⟩ := hrel
                by_cases hlt : k < zs.length
                · obtain ⟨x, rfl, cz⟩ := HN.out wr (HB8.out.trans (hb.mono HWD.out.1)) k hlt
                  have hla : k < acc.length := by rw [HAL.out]; exact hlt
                  obtain ⟨g, c, rfl, hwc⟩ := HR8.out.at (by omega)
                  obtain ⟨⟨ai, ar, af⟩, ha⟩ : ∃ b, b = acc[k] := ⟨_, rfl⟩
                  have hWC : Hid (∀ W, Below D w8 W → W.cell? ⟨g, k * 3, none⟩ = some (.int .i64 ai) ∧ W.cell? ⟨g, k * 3 + 1, none⟩ = some (.string ar) ∧ W.cell? ⟨g, k * 3 + 2, none⟩ = some (.float .f64 af)) := fun W hW => by
                    have h := hwc W (by rw [← HD.out]; exact hW) k hla
                    rw [← ha] at h; exact h
                  have haz : acc[k] = got L (fA ps zs[k] : Nat) := by simp only [hac3.out, List.getElem_map]
                  rw [← ha] at haz
                  obtain ⟨z, hz⟩ : ∃ z, z = zs[k] := ⟨_, rfl⟩
                  rw [← hz] at cz haz
                  have hp9 := HP8.out.below (by rw [← HD.out]; exact hb)
                  have FD := Lib.hid (pfind_any B P M z (out L i) qs wr hp9)
                  obtain ⟨l1, l2, l3⟩ := pmoves GOOD.out HIM.out PERM.out SORT.out hp9.perm hp9.sorted z
                  rw [← haz, ← HGG.out] at l3
                  rw [← haz] at l2
                  have hself := got_self GOOD.out (fA ps z : Nat)
                  rw [← haz] at hself
                  have hgid : gi = i := by
                    have h := (got_id HIM.out).2
                    rw [← HGG.out] at h; exact h
                  obtain ⟨⟨fi, fs, ff⟩, hfb⟩ : ∃ b, b = got (out L i) (fA qs z : Nat) := ⟨_, rfl⟩
                  obtain ⟨fo, hfo⟩ : ∃ b, b = (get (out L i) (fA qs z : Nat)).isSome := ⟨_, rfl⟩
                  rw [← hfb, ← hfo] at FD
                  rw [← hfb] at l1 l2
                  unfold bkv at FD
                  simp only at FD
                  have hq1 : ∀ W, (binOp .eql 32 (.agg #[.int .i64 fi, .string fs, .float .f64 ff]) (.agg #[.int .i64 gi, .string gs, .float .f64 gf])).run Try.prog W = .ok (.bool false) W := fun W => by
                    rw [bk_eql, bkeq_ne (by simp only at l1 ⊢; omega)]
                  have HB' := Lib.hid hb
                  have hDw : Hid (D ≤ wr.heap.size) := show D ≤ wr.heap.size by rw [HD.out]; exact hb.size
                  have HF : Hid (∀ w9, Below wr.heap.size wr w9 → ∀ o : Obj, (((w9.alloc o).cell? ⟨gb, 0, none⟩ = some (.int .i64 gi) ∧ (w9.alloc o).cell? ⟨gb, 1, none⟩ = some (.string gs) ∧ (w9.alloc o).cell? ⟨gb, 2, none⟩ = some (.float .f64 gf)) ∧ ((w9.alloc o).cell? ⟨g, k * 3, none⟩ = some (.int .i64 ai) ∧ (w9.alloc o).cell? ⟨g, k * 3 + 1, none⟩ = some (.string ar) ∧ (w9.alloc o).cell? ⟨g, k * 3 + 2, none⟩ = some (.float .f64 af)) ∧ Below D w8 (w9.alloc o))) := fun w9 h9 o => by
                    have h1 : Below D w8 (w9.alloc o) := HB'.out.trans ((h9.alloc h9.size o).mono hDw.out)
                    exact ⟨HG8.out _ (by rw [← HD.out]; exact h1), hWC.out _ h1, h1⟩
                  cases ho : bkeq ⟨ai, ar, af⟩ ⟨gi, gs, gf⟩ with
                  | true =>
                    have hq2 : ∀ W, (binOp .neq 32 (.agg #[.int .i64 ai, .string ar, .float .f64 af]) (.agg #[.int .i64 gi, .string gs, .float .f64 gf])).run Try.prog W = .ok (.bool false) W := fun W => by rw [bk_neq, ho]; rfl
                    clear l1 l2 l3 haz ha hfb hfo hself hgid ho hz hp9 hwc hb
                    have hla1 : (k : Int) < (acc.length : Int) := by omega
                    have hla0 : (0 : Int) ≤ (k : Int) := by omega
                    go_wp2_with (go_at_call 12; (with_reducible refine FD.out.mono ?_); rintro e w9 ⟨rfl, hb9⟩; obtain ⟨⟨k0, k1, k2⟩, ⟨k3, k4, k5⟩, hb10⟩ := HF.out w9 hb9 (.cells #[.int .i64 fi, .string fs, .float .f64 ff] 32))
                    obtain ⟨k6, k7, k8⟩ := box_cells (alloc_new w9 (.cells #[.int .i64 fi, .string fs, .float .f64 ff] 32)) _ (Below.refl _ _)
                    obtain ⟨W10, hW10⟩ : ∃ W, W = w9.alloc (.cells #[.int .i64 fi, .string fs, .float .f64 ff] 32) := ⟨_, rfl⟩
                    rw [← hW10] at k0 k1 k2 k3 k4 k5 k6 k7 k8 hb10 ⊢
                    have HB10 := Lib.hid hb10
                    clear hW10 hb10 hb9
                    go_quiet (fail)
                    go_wp2_with (fail)
                    exact ⟨⟨k + 1, by omega, by go_num, below_drewN HB10.out _⟩, by simp [intOf] <;> omega⟩
                  | false =>
                    have hq2 : ∀ W, (binOp .neq 32 (.agg #[.int .i64 ai, .string ar, .float .f64 af]) (.agg #[.int .i64 gi, .string gs, .float .f64 gf])).run Try.prog W = .ok (.bool true) W := fun W => by rw [bk_neq, ho]; rfl
                    have hnz : ((fA ps z : Nat) : Int) ≠ i := fun e => by
                      have h := l3 e
                      rw [h] at ho hself
                      rw [hself] at ho
                      cases ho
                    have hba := l2 hnz
                    have hq3 : ∀ W, (binOp .neq 32 (.agg #[.int .i64 fi, .string fs, .float .f64 ff]) (.agg #[.int .i64 ai, .string ar, .float .f64 af])).run Try.prog W = .ok (.bool false) W := fun W => by
                      rw [bk_neq, hba, hself]; rfl
                    clear l1 l2 l3 haz ha hfb hfo hself hgid ho hz hp9 hwc hb hnz hba
                    have hla1 : (k : Int) < (acc.length : Int) := by omega
                    have hla0 : (0 : Int) ≤ (k : Int) := by omega
                    go_wp2_with (go_at_call 12; (with_reducible refine FD.out.mono ?_); rintro e w9 ⟨rfl, hb9⟩; obtain ⟨⟨k0, k1, k2⟩, ⟨k3, k4, k5⟩, hb10⟩ := HF.out w9 hb9 (.cells #[.int .i64 fi, .string fs, .float .f64 ff] 32))
                    obtain ⟨k6, k7, k8⟩ := box_cells (alloc_new w9 (.cells #[.int .i64 fi, .string fs, .float .f64 ff] 32)) _ (Below.refl _ _)
                    obtain ⟨W10, hW10⟩ : ∃ W, W = w9.alloc (.cells #[.int .i64 fi, .string fs, .float .f64 ff] 32) := ⟨_, rfl⟩
                    rw [← hW10] at k0 k1 k2 k3 k4 k5 k6 k7 k8 hb10 ⊢
                    have HB10 := Lib.hid hb10
                    clear hW10 hb10 hb9
                    go_quiet (fail)
                    go_wp2_with (fail)
                    exact ⟨⟨k + 1, by omega, by go_num, below_drewN HB10.out _⟩, by simp [intOf] <;> omega⟩
                · obtain rfl : k = zs.length := by omega
                  have hp9 := HP8.out.below (by rw [← HD.out]; exact hb)
                  obtain ⟨bk1, bk2, bk3⟩ := back_list GOOD.out HIM.out
                  rw [← HGG.out] at bk1 bk2 bk3
                  have hgm : (⟨gi, gs, gf⟩ : Bk) ∈ L := by
                    have h := (got_id HIM.out).1
                    rw [← HGG.out] at h; exact h
                  obtain ⟨b1o, b2o, b3o⟩ := GOOD.out.bkok _ hgm
                  simp only at b1o b2o b3o
                  have A1 := Lib.hid (add_any B P M (out L i) qs ⟨gi, gs, gf⟩ wr hp9 b1o b2o b3o)
                  rw [bk1, bk2] at A1
                  have A2 : Hid (∀ ps W, PoolAt B P M L ps W → Calls Try.prog 13 #[.pointer (some ⟨P, 0, none⟩), .agg #[.int .i64 gi, .string gs, .float .f64 gf]] W fun e w' => e = .returned (.int .i64 12) ∧ (∃ ps', PoolAt B P M L ps' w') ∧ Below B W w' ∧ (∀ k, k < W.heap.size → k ≠ P → k ≠ M → w'.heap[k]? = W.heap[k]?)) := fun ps W hW => by
                    have h := add_any B P M L ps ⟨gi, gs, gf⟩ W hW b1o b2o b3o
                    have e : addL L ⟨gi, gs, gf⟩ = L := by unfold addL; rw [bk3, if_neg (by decide)]
                    rw [bk3, e] at h
                    exact h
                  unfold bkv at A1
                  simp only at A1
                  have hgr : wr.heap[gb]? = some (.cells #[.int .i64 gi, .string gs, .float .f64 gf] 32 (0, 0)) := by rw [hb.block gb HWD.out.2.2]; exact HGH.out
                  obtain ⟨y0, y1, y2⟩ := box_cells hgr wr (Below.refl _ _)
                  have hrr : BRow C u11 acc wr := HR8.out.below (by rw [← HD.out]; exact hb)
                  have hDw : D ≤ wr.heap.size := by rw [HD.out]; exact hb.size
                  have HGR := Lib.hid hgr
                  have HRR := Lib.hid hrr
                  have HB' := Lib.hid hb
                  have HDW := Lib.hid hDw
                  have HK : Hid (∀ w11 : World, (∀ k, k < wr.heap.size → k ≠ P → k ≠ M → w11.heap[k]? = wr.heap[k]?) → w11.heap[gb]? = some (.cells #[.int .i64 gi, .string gs, .float .f64 gf] 32 (0, 0))) := fun w11 h => by
                    rw [h gb (Nat.lt_of_lt_of_le HWD.out.2.2 HDW.out) HPG.out.1 HPG.out.2]; exact HGR.out
                  clear hp9 bk1 bk2 bk3 hgm b1o b2o b3o hgr hrr hDw hb
                  go_wp2_with (first | (go_at_call 13; (with_reducible refine A1.out.mono ?_); rintro e w11 ⟨rfl, ⟨ps11, hp11⟩, hb11, hs11⟩; have hg11 := HK.out w11 hs11; obtain ⟨x0, x1, x2⟩ := box_cells hg11 w11 (Below.refl _ _); have HP11 := Lib.hid hp11; have HB11 := Lib.hid hb11; have HS11 := Lib.hid hs11; have HG11 := Lib.hid hg11; clear hp11 hb11 hs11 hg11) | (go_at_call 13; (with_reducible refine (A2.out _ _ HP11.out).mono ?_); rintro e w12 ⟨rfl, ⟨ps12, hp12⟩, hb12, hs12⟩))
                  obtain rfl : ps12 = ps := rings_one hp12.perm hp12.sorted PERM.out SORT.out
                  have hr12 : BRow C u11 acc w12 := HRR.out.same (fun k hk => by
                    have h1 := World.ownsRow.lt HRR.out k hk
                    have h2 := HPMC.out
                    have h3 : wr.heap.size ≤ w11.heap.size := HB11.out.size
                    rw [hs12 k (by omega) (by omega) (by omega)]
                    exact HS11.out k h1.2 (by omega) (by omega))
                  have hB12 : Below w.heap.size w w12 := (HB8.out.trans (HB'.out.mono HWD.out.1)).trans ((HB11.out.trans hb12).mono HWB.out)
                  obtain ⟨E, hE⟩ : ∃ E, E = w12.heap.size := ⟨_, rfl⟩
                  have HE := Lib.hid hE
                  have HP12 := Lib.hid hp12
                  have HR12 := Lib.hid hr12
                  have HB12 := Lib.hid hB12
                  have HWE : Hid (w.heap.size ≤ E) := show w.heap.size ≤ E by rw [hE]; exact hB12.size
                  clear hp12 hb12 hs12 hr12 hB12 hE
                  go_wp2_with (fail)
                  go_loopw [18] (fun j wr => ∃ k : Nat, k ≤ zs.length ∧ j = .int .i64 k ∧ Below E w12 wr) (fun j _ => zs.length - (intOf j).toNat)
                  case atStart => exact ⟨0, by omega, rfl, Below.refl _ _⟩
                  case round =>
                    obtain ⟨k, hk, rfl, hb⟩ := hrel
                    by_cases hlt : k < zs.length
                    · obtain ⟨x, rfl, cz⟩ := HN.out wr (HB12.out.trans (hb.mono HWE.out)) k hlt
                      have hla : k < acc.length := by rw [HAL.out]; exact hlt
                      obtain ⟨g, c, rfl, hwc⟩ := HR12.out.at (by omega)
                      obtain ⟨⟨ai, ar, af⟩, ha⟩ : ∃ b, b = acc[k] := ⟨_, rfl⟩
                      have haz : acc[k] = got L (fA ps12 zs[k] : Nat) := by simp only [hac3.out, List.getElem_map]
                      rw [← ha] at haz
                      have hWC : Hid (∀ W, Below E w12 W → W.cell? ⟨g, k * 3, none⟩ = some (.int .i64 ai) ∧ W.cell? ⟨g, k * 3 + 1, none⟩ = some (.string ar) ∧ W.cell? ⟨g, k * 3 + 2, none⟩ = some (.float .f64 af)) := fun W hW => by
                        have h := hwc W (by rw [← HE.out]; exact hW) k hla
                        rw [← ha] at h; exact h
                      obtain ⟨z, hz⟩ : ∃ z, z = zs[k] := ⟨_, rfl⟩
                      rw [← hz] at cz haz
                      have hp9 := HP12.out.below (by rw [← HE.out]; exact hb)
                      have FD := Lib.hid (pfind_any B P M z L ps12 wr hp9)
                      have hself := got_self GOOD.out (fA ps12 z : Nat)
                      rw [← haz] at hself FD
                      obtain ⟨fo, hfo⟩ : ∃ b, b = (get L (fA ps12 z : Nat)).isSome := ⟨_, rfl⟩
                      rw [← hfo] at FD
                      unfold bkv at FD
                      simp only at FD
                      have hq3 : ∀ W, (binOp .neq 32 (.agg #[.int .i64 ai, .string ar, .float .f64 af]) (.agg #[.int .i64 ai, .string ar, .float .f64 af])).run Try.prog W = .ok (.bool false) W := fun W => by
                        rw [bk_neq, hself]; rfl
                      have HB9 := Lib.hid hb
                      have hEw : Hid (E ≤ wr.heap.size) := show E ≤ wr.heap.size by rw [HE.out]; exact hb.size
                      have HF : Hid (∀ w9, Below wr.heap.size wr w9 → ∀ o : Obj, ((w9.alloc o).cell? ⟨g, k * 3, none⟩ = some (.int .i64 ai) ∧ (w9.alloc o).cell? ⟨g, k * 3 + 1, none⟩ = some (.string ar) ∧ (w9.alloc o).cell? ⟨g, k * 3 + 2, none⟩ = some (.float .f64 af)) ∧ Below E w12 (w9.alloc o)) := fun w9 h9 o => by
                        have h1 : Below E w12 (w9.alloc o) := HB9.out.trans ((h9.alloc h9.size o).mono hEw.out)
                        exact ⟨hWC.out _ h1, h1⟩
                      have hla1 : (k : Int) < (acc.length : Int) := by omega
                      have hla0 : (0 : Int) ≤ (k : Int) := by omega
                      clear haz ha hfo hself hz hp9 hwc hb
                      go_wp2_with (go_at_call 12; (with_reducible refine FD.out.mono ?_); rintro e w9 ⟨rfl, hb9⟩; obtain ⟨⟨k3, k4, k5⟩, hb10⟩ := HF.out w9 hb9 (.cells #[.int .i64 ai, .string ar, .float .f64 af] 32))
                      obtain ⟨k6, k7, k8⟩ := box_cells (alloc_new w9 (.cells #[.int .i64 ai, .string ar, .float .f64 af] 32)) _ (Below.refl _ _)
                      obtain ⟨W10, hW10⟩ : ∃ W, W = w9.alloc (.cells #[.int .i64 ai, .string ar, .float .f64 af] 32) := ⟨_, rfl⟩
                      rw [← hW10] at k3 k4 k5 k6 k7 k8 hb10 ⊢
                      have HB10 := Lib.hid hb10
                      clear hW10 hb10 hb9
                      go_quiet (fail)
                      go_wp2_with (fail)
                      exact ⟨⟨k + 1, by omega, by go_num, below_drewN HB10.out _⟩, by simp [intOf] <;> omega⟩
                    · obtain rfl : k = zs.length := by omega
                      go_wp2_with (fail)
                      go_ret
                      exact ⟨rfl, HB12.out.trans (hb.mono HWE.out)⟩
        · have his : (get L i).isSome = false := by rw [get_some, decide_eq_false him]
          obtain ⟨⟨gi, gs, gf⟩, hg⟩ : ∃ b, b = got L i := ⟨_, rfl⟩
          rw [← hg, his] at G
          unfold bkv at G
          simp only at G
          have e1 : Hid (remE L i = 7) := show _ = _ by unfold remE; rw [if_neg him]
          have hp' := hp.out
          have R : Hid (∀ W, Below wr.heap.size wr W → Calls Try.prog 11 #[.pointer (some ⟨P, 0, none⟩), .int .i64 i] W fun e w' => e = .returned (.int .i64 7) ∧ Below B W w') := fun W hW => (rem_any B P M L ps i W (hp'.below hW) HI.out).mono fun e w' h => ⟨by rw [← e1.out]; exact h.1, h.2.2.1⟩
          clear him his hg hb hp hp' hbw
          go_wp2_with (first | (go_at_call 10; (with_reducible refine G.out.mono ?_); rintro e w4 ⟨rfl, hb4⟩; have hb5 := hb4.alloc hb4.size (.cells #[.int .i64 gi, .string gs, .float .f64 gf] 32)) | (go_at_call 11; (with_reducible refine (R.out _ hb5).mono ?_); rintro e w6 ⟨rfl, hb6⟩))
          go_ret
          exact ⟨rfl, HBW.out.trans ((hb5.mono HBW.out.size).trans (hb6.mono HWB.out))⟩
theorem moves_walk (w : World) (cs : List Ac) (a : Option Addr) (cap : Nat) (hin : ActIn w a cs) (hok : ActOk cs) (i : Int) (hi : (Lit.int .i64 i).wf = true) (zs : List Nat) (an : Option Addr) (cn : Nat) (hz : NIn w an zs) (_ : an = none → zs = [] ∧ cn = 0) :
    Calls Try.prog 3 #[.slice a cs.length cap, .int .i64 i, .slice an zs.length cn] w fun e w' => e = .returned (.bool true) ∧ Below w.heap.size w w' := movesA cs a cap i zs an cn w hin hok hi hz
end Go.Proofs.Ytgonagkhnkhcnaa
