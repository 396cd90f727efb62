import Derived.Test.YtfagkmmenfeppaaDoorRefA
import Derived.Test.YtfagkmmenfeppaaDoorMay
/- The document's fields. -/
namespace Go.Proofs.YtfagkmmenfeppaaDoor
set_option maxRecDepth 100000
open Go.RowKit
theorem fdB_snoc {fs : List Fi} {k : Nat} (h : k < fs.length) {tn : Nat} {tx : List UInt8} {m : Nat} (h1 : fs[k].1 = (tn : Int)) (h2 : fs[k].2 = tx) (h3 : m = tx.length) : fdB ((fs.take (k + 1)).map natF) = fdB ((fs.take k).map natF) ++ be tn 1 ++ be m 2 ++ tx := by
  rw [List.take_succ_eq_append_getElem h, List.map_append]
  unfold fdB
  rw [List.flatMap_append]
  subst h3
  have e : natF fs[k] = (tn, tx) := by unfold natF; rw [h1, h2]; rfl
  simp only [List.map_cons, List.map_nil, List.flatMap_cons, List.flatMap_nil, e]
  simp
theorem fdB_lenk {fs : List Fi} (h : fs.all fOk = true) : (fdB (fs.map natF)).length ≤ fs.length * 65540 := by
  have := fdB_len (fs.map natF) (fun x hx => by
    obtain ⟨y, hy, rfl⟩ := List.mem_map.1 hx
    have := List.all_eq_true.1 h y hy
    unfold fOk at this
    have := of_decide_eq_true this
    show y.2.length < 65536
    omega)
  rwa [List.length_map] at this
theorem all_not {fs : List Fi} {k : Nat} (h : k < fs.length) (hf : fOk fs[k] = false) : fs.all fOk = false := by
  cases hq : fs.all fOk with
  | false => rfl
  | true => rw [List.all_eq_true.1 hq _ (List.getElem_mem h)] at hf; cases hf
set_option maxHeartbeats 8000000 in
theorem rfields_any (fs : List Fi) (a : Option Addr) (cap : Nat) (w : World) (hin : FdIn w a fs) (hn : fs.length ≤ 1000000) (ht : ∀ x ∈ fs, x.2.length ≤ 9223372036854775807) :
    Calls Tryd.prog 27 #[.slice a fs.length cap] w fun e w' => Below w.heap.size w w' ∧ ((fs.all fOk = false ∧ e = .returned (.tuple #[.string ⟨#[]⟩, .bool false])) ∨ (fs.all fOk = true ∧ e = .returned (.tuple #[.string (bs (fdB (fs.map natF))), .bool true]))) := by
  have HIN := Lib.hid hin
  have HT := Lib.hid ht
  obtain ⟨n, hnn⟩ : ∃ n, n = fs.length := ⟨_, rfl⟩
  rw [← hnn] at hn ⊢
  have HN := Lib.hid hnn
  clear hin ht hnn
  go_enter Tryd.func27, Tryd.ntmps27
  go_wp2_with (fail)
  go_loopw [4, 5] (fun v i wr => ∃ k : Nat, k ≤ n ∧ i = .int .i64 k ∧ v = .string (bs (fdB ((fs.take k).map natF))) ∧ Hid ((fs.take k).all fOk = true) ∧ Hid (Below w.heap.size w wr)) (fun _ i _ => n - (intOf i).toNat)
  case atStart => exact ⟨0, by omega, rfl, rfl, rfl, Below.refl _ _⟩
  case round =>
    obtain ⟨k, hk, rfl, rfl, hall, hb⟩ := hrel
    by_cases hlt : k < n
    · have hlt' : k < fs.length := by rw [← HN.out]; exact hlt
      obtain ⟨x, rfl, d0, d1⟩ := (HIN.out.below hb.out) k hlt'
      obtain ⟨ty, hty⟩ : ∃ t, t = fs[k].1 := ⟨_, rfl⟩
      obtain ⟨tx, htx⟩ : ∃ t, t = fs[k].2 := ⟨_, rfl⟩
      rw [← hty] at d0
      rw [← htx] at d1
      obtain ⟨m, hm⟩ : ∃ m, m = tx.length := ⟨_, rfl⟩
      have hbs : (bs tx).size = m := by rw [bs_size, hm]
      have hm9 : m ≤ 9223372036854775807 := by rw [hm, htx]; exact HT.out _ (List.getElem_mem _)
      have hfk : fOk fs[k] = decide (0 ≤ ty ∧ ty ≤ 255 ∧ ty ≠ 3 ∧ m ≤ 65535) := by unfold fOk; rw [← hty, ← htx, ← hm]
      obtain ⟨s, hs⟩ : ∃ s, s = bs (fdB ((fs.take k).map natF)) := ⟨_, rfl⟩
      have hsl : s.size ≤ k * 65540 := by
        rw [hs, bs_size]
        have := fdB_lenk hall.out
        rw [List.length_take] at this
        have h2 : min k fs.length = k := Nat.min_eq_left (by omega)
        rwa [h2] at this
      rw [← hs]
      have HSN : Hid (∀ tn : Nat, ty = (tn : Int) → s ++ bs (be tn 1) ++ bs (be m 2) ++ bs tx = bs (fdB ((fs.take (k + 1)).map natF))) := fun tn htn => by
        rw [fdB_snoc hlt' (by rw [← hty, htn]) htx.symm hm, hs]
        simp only [bs_append]
      have HFK := Lib.hid hfk
      clear hty htx hm hs hfk
      have AL : fOk fs[k] = true → Hid ((fs.take (k + 1)).all fOk = true) := fun h => by
        show _ = true
        rw [List.take_succ_eq_append_getElem hlt', List.all_append, hall.out]
        simp [h]
      have AL := Lib.hid AL
      have IN : Hid (∀ V, Calls Tryd.prog 28 #[.int .i64 ty, .int .i64 255] V fun e w' => e = .returned (.bool (decide (0 ≤ ty ∧ ty ≤ 255))) ∧ w' = V) := fun V => in_any ty 255 V
      by_cases q1 : 0 ≤ ty ∧ ty ≤ 255
      · rw [show decide (0 ≤ ty ∧ ty ≤ 255) = true from decide_eq_true q1] at IN
        obtain ⟨tn, rfl⟩ : ∃ tn : Nat, ty = tn := ⟨ty.toNat, by omega⟩
        have Q1 := Lib.hid q1
        by_cases q2 : (tn : Int) = 3
        · have e2 : ((tn : Int) == 3) = true := by rw [q2]; rfl
          have hf : Hid (fOk fs[k] = false) := by show fOk _ = _; rw [HFK.out]; exact decide_eq_false (by omega)
          clear q1 q2
          go_wp2_with (first | (go_at_call 28; (with_reducible refine (IN.out _).mono ?_); rintro e w1 ⟨rfl, rfl⟩))
          go_ret2
          exact ⟨hb.out, .inl ⟨all_not hlt' hf.out, rfl⟩⟩
        · have e2 : ((tn : Int) == 3) = false := by rw [beq_eq_false_iff_ne]; exact q2
          have Q2 := Lib.hid q2
          by_cases q3 : 65535 < m
          · have e3 : decide (65535 < (m : Int)) = true := decide_eq_true (by omega)
            have hf : Hid (fOk fs[k] = false) := by show fOk _ = _; rw [HFK.out]; exact decide_eq_false (by omega)
            clear q1 q2 q3
            go_wp2_with (first | (go_at_call 28; (with_reducible refine (IN.out _).mono ?_); rintro e w1 ⟨rfl, rfl⟩))
            go_ret2
            exact ⟨hb.out, .inl ⟨all_not hlt' hf.out, rfl⟩⟩
          · have e3 : decide (65535 < (m : Int)) = false := decide_eq_false (by omega)
            have hf : Hid (fOk fs[k] = true) := by show fOk _ = _; rw [HFK.out]; exact decide_eq_true (by omega)
            have hz1 : (bs (be tn 1)).size = 1 := by rw [bs_size, be_length]
            have hz2 : (bs (be m 2)).size = 2 := by rw [bs_size, be_length]
            have hst1 : ∀ wx, (Op.stringOp .add s (bs (be tn 1))).run Tryd.prog wx = .ok (.string (s ++ bs (be tn 1))) wx := fun wx => run_string_add_sum wx _ _ (by omega)
            have hst2 : ∀ wx, (Op.stringOp .add (s ++ bs (be tn 1)) (bs (be m 2))).run Tryd.prog wx = .ok (.string (s ++ bs (be tn 1) ++ bs (be m 2))) wx := fun wx => run_string_add_sum wx _ _ (by rw [ByteArray.size_append]; omega)
            have hst3 : ∀ wx, (Op.stringOp .add (s ++ bs (be tn 1) ++ bs (be m 2)) (bs tx)).run Tryd.prog wx = .ok (.string (s ++ bs (be tn 1) ++ bs (be m 2) ++ bs tx)) wx := fun wx => run_string_add_sum wx _ _ (by rw [ByteArray.size_append, ByteArray.size_append]; omega)
            have ec : (tn : Int) % 18446744073709551616 = tn := by omega
            have ew : IntKind.u64.wrap (tn : Int) = tn := by rw [IntKind.wrap_u64]; exact ec
            have B1 : Hid (∀ V, Calls Tryd.prog 30 #[.int .u64 tn, .int .i64 1] V fun e w' => e = .returned (.string (bs (be tn 1))) ∧ Below V.heap.size V w') := fun V => rbytes_any tn 1 V (by omega) (by omega)
            have B2 : Hid (∀ V, Calls Tryd.prog 29 #[.int .i64 m] V fun e w' => e = .returned (.string (bs (be m 2))) ∧ Below V.heap.size V w') := fun V => two_any m V hm9
            have HKP : Hid (∀ V, Below wr.heap.size wr V → V.cell? (x.add (k * 2)) = some (.int .i64 tn) ∧ V.cell? { block := (x.add (k * 2)).block, off := (x.add (k * 2)).off + 1 } = some (.string (bs tx))) := fun V hV => ⟨(hV.cell (World.block_lt_of_cell? wr _ d0)).trans d0, (hV.cell (World.block_lt_of_cell? wr _ d1)).trans d1⟩
            have HD0 := Lib.hid ((Below.refl wr.heap.size wr).drew)
            clear q1 q2 q3 hsl hz1 hz2
            go_wp2_with (first | (go_at_call 28; (with_reducible refine (IN.out _).mono ?_); rintro e w1 ⟨rfl, rfl⟩))
            go_region_held3 (fun w' => w'.cell? (x.add (k * 2)) = some (.int .i64 tn) ∧ w'.cell? { block := (x.add (k * 2)).block, off := (x.add (k * 2)).off + 1 } = some (.string (bs tx))) (go_keep) (first | (go_simp; go_at_call 30; (with_reducible refine (B1.out _).mono ?_); rintro e w5 ⟨rfl, hb5⟩; have HB5 := Lib.hid (HD0.out.trans (hb5.mono HD0.out.size)); obtain ⟨g0, g1⟩ := HKP.out _ HB5.out; clear hb5) | (go_simp; go_at_call 29; (with_reducible refine (B2.out _).mono ?_); rintro e w6 ⟨rfl, hb6⟩; have HB6 := Lib.hid (HB5.out.trans (hb6.mono HB5.out.size)); obtain ⟨g2, g3⟩ := HKP.out _ HB6.out; clear hb6))
            simp only [Exit.inBlock, Exit.then]
            rw [HSN.out tn rfl]
            go_wp2_with (fail)
            exact ⟨⟨k + 1, by omega, by go_num, rfl, AL.out hf.out, hb.out.trans (HB6.out.mono hb.out.size)⟩, by simp [intOf] <;> omega⟩
      · have hf : Hid (fOk fs[k] = false) := by show fOk _ = _; rw [HFK.out]; exact decide_eq_false (by omega)
        rw [show decide (0 ≤ ty ∧ ty ≤ 255) = false from decide_eq_false q1] at IN
        clear q1
        go_wp2_with (first | (go_at_call 28; (with_reducible refine (IN.out _).mono ?_); rintro e w1 ⟨rfl, rfl⟩))
        go_ret2
        exact ⟨hb.out, .inl ⟨all_not hlt' hf.out, rfl⟩⟩
    · obtain rfl : k = n := by omega
      have e : (fs.take k) = fs := by rw [HN.out, List.take_length]
      rw [e] at hall ⊢
      go_wp2_with (fail)
      go_ret2
      exact ⟨hb.out, .inr ⟨hall.out, rfl⟩⟩
end Go.Proofs.YtfagkmmenfeppaaDoor
