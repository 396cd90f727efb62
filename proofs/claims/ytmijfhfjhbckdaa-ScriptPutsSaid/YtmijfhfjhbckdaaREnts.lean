import Derived.Test.YtmijfhfjhbckdaaRact
import Derived.Deep.QuietTactic
import Derived.BigQuiet
/- The document's Entries. -/
namespace Go.Proofs.Ytmijfhfjhbckdaa
set_option maxRecDepth 100000
open Go.RowKit
theorem step_append_v {P : Program} {ops : Array Oper} {o : Oper} {a : Act} {w : World} {K : Act → World → Prop} {Q : Exit → Act → World → Prop} {E : Prop}
    (s x : Operand) (t : TypeId) (v0 x0 : Value) (hg : o.guard = none) (hop : o.op = Op.call { callee := Callee.builtin Builtin.append, args := #[s, x], argTypes := #[t, t] })
    (hs : a.eval s = v0) (hx : a.eval x = x0)
    (h : ∃ v' w', (Builtin.append_ #[t, t] o.type #[v0, x0]).run P w = .ok v' w' ∧ K (a.put o.dst v') w') :
    if Region.wanted o (yielded ops a.tmps) = true then Oper.wp P o a w K Q else E := by
  subst hs hx
  have hw : Region.wanted o (yielded ops a.tmps) = true := by simp [Region.wanted, hg]
  rw [if_pos hw]
  obtain ⟨v', w', h1, h2⟩ := h
  unfold Oper.wp
  simp [execOp, hop, resolve, invoke, builtin, h1, Result.andThen]
  exact h2
set_option maxHeartbeats 4000000 in
theorem rentries_any (s : ByteArray) (w : World) (hs : s.size ≤ 1000000) : Calls Try.prog 11 #[.string s] w fun e w' => ∃ v, e = .returned v ∧ RSt 51 w.heap.size w v (entP s.data.toList.length s.data.toList) w' := by
  obtain ⟨l, hl⟩ : ∃ l, l = s.data.toList := ⟨_, rfl⟩
  obtain ⟨F, hF⟩ : ∃ F, F = entP l.length l := ⟨_, rfl⟩
  have hsl : s = bs l := by rw [hl, bs_of]
  have hll : l.length ≤ 1000000 := by rw [hl]; simpa using hs
  rw [← hl, ← hF, hsl]
  have HF := Lib.hid hF
  clear hF hl hsl hs
  have sf := store_float
  go_enter Try.func11, Try.ntmps11
  go_wp2_with (fail)
  go_loopg [0, 3] l.length (fun k t0 t3 wr => ∃ (m : List UInt8) (done : List EntP), m.length ≤ k ∧ t0 = .string (bs m) ∧ done.length + m.length ≤ l.length ∧ Hid (F = done ++ entP k m) ∧ RSt 51 w.heap.size w t3 done wr)
  case atStart => exact ⟨l, [], Nat.le_refl _, rfl, by simp, HF.out, RSt.nil (Below.refl _ _) (Nat.le_refl _)⟩
  case round =>
    obtain ⟨m, done, hm, rfl, hdl, hF, st⟩ := hrel
    obtain ⟨X, hX⟩ : ∃ X, X = bs m := ⟨_, rfl⟩
    have hXs : X.size = m.length := by rw [hX, bs_size]
    rw [← hX]
    cases m with
    | nil =>
      have hX0 : X.size = 0 := hXs
      have st1 := Lib.hid st
      have hF1 : Hid (F = done) := by show F = done; rw [hF.out]; cases gk <;> simp [entP]
      clear hF hX hXs st
      go_wp2_with (fail)
      go_ret
      exact ⟨_, rfl, by rw [hF1.out]; exact st1.out⟩
    | cons c r =>
      rw [List.length_cons] at hm hdl hXs
      obtain ⟨k, rfl⟩ : ∃ k, gk = k + 1 := ⟨gk - 1, by omega⟩
      have hX1 : 0 < X.size := by omega
      have hX1' : (0 : Int) < (X.size : Int) := by omega
      have hX2 : (1 : Int) ≤ (X.size : Int) := by omega
      have hX3 : 1 ≤ X.size := by omega
      obtain ⟨kn, hkn⟩ : ∃ x, x = c.toNat := ⟨_, rfl⟩
      have hx0 : ∀ h : 0 < X.size, (X[0]'h).toNat = kn := by subst hX; intro _; exact hkn.symm
      obtain ⟨Y, hY⟩ : ∃ Y, Y = bs r := ⟨_, rfl⟩
      have hXY : X.extract 1 X.size = Y := by rw [hX, hY]; exact bs_cons c r
      have hk9 : kn < 256 := by rw [hkn]; exact c.toNat_lt
      have wk : IntKind.i64.wrap (kn : Int) = (kn : Int) := IntWalk.i64_in _ (by omega)
      have hl3 : done.length ≤ 1000000 := by omega
      by_cases hk : 11 ≤ kn
      · have hF1 : Hid (F = (done ++ [.error 9]) ++ entP k r) := by
          show F = _
          rw [hF.out, entP, ← hkn, if_pos hk]; simp
        obtain ⟨v', w', hr0, st', _⟩ := app_ent 38 51 Try.underlying38 info51 (st.alloc (.cells (entC (.error 9)).toArray 51)) 38 wr.heap.size 1 (.error 9) (alloc_new _ _) hl3
        have hr : (Builtin.append_ #[38, 38] 38 #[u3, .slice (some ⟨wr.heap.size, 0, none⟩) 1 1]).run Try.prog (wr.alloc (.cells #[.int .i64 0, .string ⟨#[]⟩, .int .i64 0, .string ⟨#[]⟩, .float .f64 0, .int .i64 0, .bool false, .bool false, .int .u32 0, .bool false, .int .i64 0, .int .i64 0, .int .i64 0, .int .i64 0, .int .i64 9] 51)) = .ok v' w' := hr0
        clear hr0
        have ST4 := Lib.hid st'
        have HR := Lib.hid hr
        have HYr : Hid (Y = bs r) := hY
        have HM : Hid (r.length + 1 ≤ k + 1 ∧ done.length + (r.length + 1) ≤ l.length) := ⟨hm, hdl⟩
        have d1 : decide ((10 : Int) < (kn : Int)) = true := decide_eq_true (by omega)
        have d2 : (kn : Int) > 10 := by omega
        clear hF hX hXs st hkn hY hr st' hm hdl hk
        go_wp2_with (at_builtin; refine wpList_append_ok rfl (.tmp 12) (.tmp 14) 38 rfl _ _ _ _ rfl rfl HR.out ?_)
        go_roundg k
        any_goals (exact Nat.lt_succ_self k)
        exact ⟨r, done ++ [.error 9], by have := HM.out.1; omega, by rw [HYr.out], by have := HM.out.2; rw [List.length_append]; simp; omega, hF1, ST4.out⟩
      · obtain ⟨nn, hnn⟩ : ∃ x, x = (needP kn r).1 := ⟨_, rfl⟩
        obtain ⟨ok, hok⟩ : ∃ x, x = (needP kn r).2 := ⟨_, rfl⟩
        obtain ⟨rl, hrl⟩ : ∃ x, x = r.length := ⟨_, rfl⟩
        have NE : Hid (∀ V, Calls Try.prog 32 #[.int .i64 (kn : Nat), .string Y] V fun e w' => e = .returned (.tuple #[.int .i64 (nn : Nat), .bool ok]) ∧ w' = V) := fun V => by
          have hr : Y.data.toList = r := by rw [hY]; rfl
          have h := need_any kn (by omega) Y V (by rw [hY, bs_size]; show r.length ≤ 9223372036854775807; omega)
          rw [hr, ← hnn, ← hok] at h
          exact h
        have hF1 : Hid (F = done ++ match getP kn r with
            | none => [.error 2]
            | some (b, r') => .ok (kn, b) :: entP k r') := by
          show F = _
          rw [hF.out, entP, ← hkn, if_neg hk]
          cases getP kn r <;> rfl
        have gn := get_need (k := kn) (by omega) r
        rw [← hnn, ← hok, ← hrl] at gn
        have hn9 : nn ≤ 70000 := by
          rw [hnn]
          unfold needP
          have := bv_u16 r
          repeat' split
          all_goals (simp only; omega)
        have HM : Hid (r.length + 1 ≤ k + 1 ∧ done.length + (r.length + 1) ≤ l.length) := ⟨hm, hdl⟩
        have d1 : decide ((10 : Int) < (kn : Int)) = false := decide_eq_false (by omega)
        have d2 : ¬ (kn : Int) > 10 := by omega
        have wx : IntKind.i64.wrap ((X.size : Int) - 1) = (rl : Int) := by rw [IntWalk.i64_in _ (by omega)]; omega
        rcases gn with ⟨hno, hg⟩ | ⟨rfl, hle, bd, hg, hg2⟩
        · have hF2 : Hid (F = done ++ [.error 2]) := by show F = _; rw [hF1.out, hg]
          cases ok with
          | false =>
            have STD : ∀ nq, RSt 51 w.heap.size w u3 done (wr.drewN nq) := fun nq => ⟨st.row, st.le, ⟨st.bel.os, st.bel.tape, st.bel.output, st.bel.size, st.bel.block⟩⟩
            have HSTD := Lib.hid STD
            clear hF hF1 hX hXs st hkn hY hm hdl hk hno hg hnn hok hrl STD
            go_upto_region 6 with (fail)
            go_quiet ((go_at_call 32; exact Calls.quiet_of_same (NE.out _)))
            have st := HSTD.out nq
            obtain ⟨wq, hwq⟩ : ∃ V, V = wr.drewN nq := ⟨_, rfl⟩
            rw [← hwq] at st
            rw [← hwq]
            clear hwq
            obtain ⟨v', w', hr0, st', _⟩ := app_ent 38 51 Try.underlying38 info51 (st.alloc (.cells (entC (.error 2)).toArray 51)) 38 wq.heap.size 1 (.error 2) (alloc_new _ _) hl3
            have hr : (Builtin.append_ #[38, 38] 38 #[u3, .slice (some ⟨wq.heap.size, 0, none⟩) 1 1]).run Try.prog (wq.alloc (.cells #[.int .i64 0, .string ⟨#[]⟩, .int .i64 0, .string ⟨#[]⟩, .float .f64 0, .int .i64 0, .bool false, .bool false, .int .u32 0, .bool false, .int .i64 0, .int .i64 0, .int .i64 0, .int .i64 0, .int .i64 2] 51)) = .ok v' w' := hr0
            clear hr0
            have ST4 := Lib.hid st'
            have HR := Lib.hid hr
            clear hr st'
            go_wp2_with (at_builtin; refine wpList_append_ok rfl (.tmp 36) (.tmp 38) 38 rfl _ _ _ _ rfl rfl HR.out ?_)
            go_ret
            exact ⟨_, rfl, by rw [hF2.out]; exact ST4.out⟩
          | true =>
            have hlt : rl < nn := by simpa using hno
            have e1 : decide ((rl : Int) < (nn : Int)) = true := decide_eq_true (by omega)
            have e1' : decide (rl < nn) = true := decide_eq_true hlt
            have e2 : (nn : Int) > (rl : Int) := by omega
            have STD : ∀ nq, RSt 51 w.heap.size w u3 done (wr.drewN nq) := fun nq => ⟨st.row, st.le, ⟨st.bel.os, st.bel.tape, st.bel.output, st.bel.size, st.bel.block⟩⟩
            have HSTD := Lib.hid STD
            clear hF hF1 hX hXs st hkn hY hm hdl hk hno hg hnn hok hrl STD
            go_upto_region 6 with (fail)
            go_quiet ((go_at_call 32; exact Calls.quiet_of_same (NE.out _)))
            have st := HSTD.out nq
            obtain ⟨wq, hwq⟩ : ∃ V, V = wr.drewN nq := ⟨_, rfl⟩
            rw [← hwq] at st
            rw [← hwq]
            clear hwq
            obtain ⟨v', w', hr0, st', _⟩ := app_ent 38 51 Try.underlying38 info51 (st.alloc (.cells (entC (.error 2)).toArray 51)) 38 wq.heap.size 1 (.error 2) (alloc_new _ _) hl3
            have hr : (Builtin.append_ #[38, 38] 38 #[u3, .slice (some ⟨wq.heap.size, 0, none⟩) 1 1]).run Try.prog (wq.alloc (.cells #[.int .i64 0, .string ⟨#[]⟩, .int .i64 0, .string ⟨#[]⟩, .float .f64 0, .int .i64 0, .bool false, .bool false, .int .u32 0, .bool false, .int .i64 0, .int .i64 0, .int .i64 0, .int .i64 0, .int .i64 2] 51)) = .ok v' w' := hr0
            clear hr0
            have ST4 := Lib.hid st'
            have HR := Lib.hid hr
            clear hr st'
            go_wp2_with (at_builtin; refine wpList_append_ok rfl (.tmp 36) (.tmp 38) 38 rfl _ _ _ _ rfl rfl HR.out ?_)
            go_ret
            exact ⟨_, rfl, by rw [hF2.out]; exact ST4.out⟩
        · have hF2 : Hid (F = (done ++ [.ok (kn, bd)]) ++ entP k (r.drop nn)) := by show F = _; rw [hF1.out, hg]; simp
          have e1 : decide ((rl : Int) < (nn : Int)) = false := decide_eq_false (by omega)
          have e1' : decide (rl < nn) = false := decide_eq_false (by omega)
          have e2 : ¬ (nn : Int) > (rl : Int) := by omega
          obtain ⟨q, hq⟩ : ∃ q, q = 1 + nn := ⟨_, rfl⟩
          have wq1 : IntKind.i64.wrap (1 + (nn : Int)) = (q : Int) := by rw [IntWalk.i64_in _ (by omega)]; omega
          have q1 : (1 : Int) ≤ (q : Int) := by omega
          have q2 : (q : Int) ≤ (X.size : Int) := by omega
          have q3 : 1 ≤ q := by omega
          have q4 : q ≤ X.size := by omega
          have q5 : (q : Int).toNat = q := rfl
          have q6 : (0 : Int) ≤ (q : Int) := by omega
          obtain ⟨Y1, hY1⟩ : ∃ x, x = X.extract 1 q := ⟨_, rfl⟩
          obtain ⟨Y2, hY2⟩ : ∃ x, x = X.extract q X.size := ⟨_, rfl⟩
          have hY1l : Y1.data.toList = r.take nn := by rw [hY1, hX, bs_extract, bs_list, hq]; simp
          have hY2l : Y2 = bs (r.drop nn) := by
            rw [hY2, hX, bs_extract, bs_size, hq, List.take_of_length_le (by rw [List.length_drop]; exact Nat.le_refl _)]
            congr 1
            rw [show 1 + nn = nn + 1 by omega, List.drop_succ_cons]
          have hY1s : Y1.size ≤ MX := by
            rw [hY1, ByteArray.size_extract]; show _ ≤ 9223372036854775807; omega
          have AC0 : ∀ V, Calls Try.prog 33 #[.int .i64 (kn : Nat), .string Y1] V fun e w' => e = .returned (.agg (actC kn bd)) ∧ Below V.heap.size V w' := fun V => ract_any kn (by omega) Y1 bd V (by rw [hY1l]; exact hg2) hY1s
          obtain ⟨c0, c1, c2, c3, c4, c5, c6, c7, c8, c9, c10, c11, c12, c13, hcs⟩ : ∃ c0 c1 c2 c3 c4 c5 c6 c7 c8 c9 c10 c11 c12 c13, actC kn bd = #[c0, c1, c2, c3, c4, c5, c6, c7, c8, c9, c10, c11, c12, c13] := by cases bd <;> exact ⟨_, _, _, _, _, _, _, _, _, _, _, _, _, _, rfl⟩
          have one : ∀ u ∈ [c0, c1, c2, c3, c4, c5, c6, c7, c8, c9, c10, c11, c12, c13], u.oneCell' = true := fun u hu => entC_one (.ok (kn, bd)) u (by show u ∈ (actC kn bd).toList ++ _; rw [hcs]; exact List.mem_append_left _ hu)
          have he : (entC (.ok (kn, bd))).toArray = #[c0, c1, c2, c3, c4, c5, c6, c7, c8, c9, c10, c11, c12, c13, .int .i64 0] := by show ((actC kn bd).toList ++ _).toArray = _; rw [hcs]; rfl
          rw [hcs] at AC0
          have AC := Lib.hid AC0
          have HE := Lib.hid he
          have HY2 := Lib.hid hY2l
          have hY1' := hY1.symm
          have hY2' := hY2.symm
          have HQ := Lib.hid hq
          have o0 := one c0 (by simp)
          have o1 := one c1 (by simp)
          have o2 := one c2 (by simp)
          have o3 := one c3 (by simp)
          have o4 := one c4 (by simp)
          have o5 := one c5 (by simp)
          have o6 := one c6 (by simp)
          have o7 := one c7 (by simp)
          have o8 := one c8 (by simp)
          have o9 := one c9 (by simp)
          have o10 := one c10 (by simp)
          have o11 := one c11 (by simp)
          have o12 := one c12 (by simp)
          have o13 := one c13 (by simp)
          have STD : ∀ nq, RSt 51 w.heap.size w u3 done (wr.drewN nq) := fun nq => ⟨st.row, st.le, ⟨st.bel.os, st.bel.tape, st.bel.output, st.bel.size, st.bel.block⟩⟩
          have HSTD := Lib.hid STD
          have HLE := Lib.hid hle
          clear hF hF1 hX hXs st hkn hY hm hdl hk hg hg2 hnn hok hrl STD hq hY1 hY2 hY1l hY2l hY1s AC0 hcs one he hle
          go_upto_region 6 with (fail)
          go_quiet ((go_at_call 32; exact Calls.quiet_of_same (NE.out _)))
          have ST5 := Lib.hid (HSTD.out nq)
          obtain ⟨wq, hwq⟩ : ∃ V, V = wr.drewN nq := ⟨_, rfl⟩
          rw [← hwq] at ST5
          rw [← hwq]
          clear hwq HSTD NE
          go_upto_region 9 with (fail)
          refine wp_region_noPanic ?_
          refine wp_region_held_drew (S := fun _ => True) (by kernel_rfl) trivial (fun hHeld => ?_)
          refine wpAnyH_take (i := 0) (oi := { dst := some 40, op := Op.move (Operand.tmp 3), type := 38, pos := "ref.go:152", after := #[], guard := none }) (v := ?_) rfl (by kernel_rfl) (by kernel_rfl) (by kernel_rfl) (fun _ _ _ h => h) (Or.inl ⟨by rfl, ?_⟩) (by assumption) ?_
          rotate_left 1
          · intro w hSw
            go_simp
            first | done | with_reducible rfl
          try simp only [Act.put, List.setIfInBounds_toArray, List.set_cons_zero, List.set_cons_succ]
          refine wpAnyH_take (i := 1) (oi := { dst := some 41, op := Op.move (Operand.tmp 0), type := 9, pos := "ref.go:152", after := #[], guard := none }) (v := ?_) rfl (by kernel_rfl) (by kernel_rfl) (by kernel_rfl) (fun _ _ _ h => h) (Or.inl ⟨by rfl, ?_⟩) (by assumption) ?_
          rotate_left 1
          · intro w hSw
            go_simp
            first | done | with_reducible rfl
          try simp only [Act.put, List.setIfInBounds_toArray, List.set_cons_zero, List.set_cons_succ]
          refine wpAnyH_take (i := 2) (oi := { dst := some 42, op := Op.index 9 (Operand.tmp 41) (Operand.const (Value.int IntKind.i64 0)), type := 5, pos := "ref.go:152", after := #[{ on := 1, ground := Ground.data }], guard := none }) (v := ?_) rfl (by kernel_rfl) (by kernel_rfl) (by kernel_rfl) (fun _ _ _ h => h) (Or.inl ⟨by rfl, ?_⟩) (by assumption) ?_
          rotate_left 1
          · intro w hSw
            go_simp
            first | done | with_reducible rfl
          try simp only [Act.put, List.setIfInBounds_toArray, List.set_cons_zero, List.set_cons_succ]
          refine wpAnyH_take (i := 3) (oi := { dst := some 43, op := Op.convert 5 3 (Operand.tmp 42), type := 3, pos := "ref.go:152", after := #[{ on := 2, ground := Ground.data }], guard := none }) (v := ?_) rfl (by kernel_rfl) (by kernel_rfl) (by kernel_rfl) (fun _ _ _ h => h) (Or.inl ⟨by rfl, ?_⟩) (by assumption) ?_
          rotate_left 1
          · intro w hSw
            go_simp
            first | done | with_reducible rfl
          try simp only [Act.put, List.setIfInBounds_toArray, List.set_cons_zero, List.set_cons_succ]
          refine wpAnyH_take (i := 4) (oi := { dst := some 44, op := Op.move (Operand.tmp 0), type := 9, pos := "ref.go:152", after := #[], guard := none }) (v := ?_) rfl (by kernel_rfl) (by kernel_rfl) (by kernel_rfl) (fun _ _ _ h => h) (Or.inl ⟨by rfl, ?_⟩) (by assumption) ?_
          rotate_left 1
          · intro w hSw
            go_simp
            first | done | with_reducible rfl
          try simp only [Act.put, List.setIfInBounds_toArray, List.set_cons_zero, List.set_cons_succ]
          refine wpAnyH_take (i := 5) (oi := { dst := some 45, op := Op.move (Operand.tmp 4), type := 3, pos := "ref.go:152", after := #[], guard := none }) (v := ?_) rfl (by kernel_rfl) (by kernel_rfl) (by kernel_rfl) (fun _ _ _ h => h) (Or.inl ⟨by rfl, ?_⟩) (by assumption) ?_
          rotate_left 1
          · intro w hSw
            go_simp
            first | done | with_reducible rfl
          try simp only [Act.put, List.setIfInBounds_toArray, List.set_cons_zero, List.set_cons_succ]
          refine wpAnyH_take (i := 6) (oi := { dst := some 46, op := Op.binOp BinOp.add 3 (Operand.const (Value.int IntKind.i64 1)) (Operand.tmp 45) 3, type := 3, pos := "ref.go:152", after := #[{ on := 5, ground := Ground.data }], guard := none }) (v := ?_) rfl (by kernel_rfl) (by kernel_rfl) (by kernel_rfl) (fun _ _ _ h => h) (Or.inl ⟨by rfl, ?_⟩) (by assumption) ?_
          rotate_left 1
          · intro w hSw
            go_simp
            first | done | with_reducible rfl
          try simp only [Act.put, List.setIfInBounds_toArray, List.set_cons_zero, List.set_cons_succ]
          refine wpAnyH_take (i := 7) (oi := { dst := some 47, op := Op.slice 9 (Operand.tmp 44) (some (Operand.const (Value.int IntKind.i64 1))) (some (Operand.tmp 46)) none, type := 9, pos := "ref.go:152", after := #[{ on := 4, ground := Ground.data }, { on := 6, ground := Ground.data }], guard := none }) (v := ?_) rfl (by kernel_rfl) (by kernel_rfl) (by kernel_rfl) (fun _ _ _ h => h) (Or.inl ⟨by rfl, ?_⟩) (by assumption) ?_
          rotate_left 1
          · intro w hSw
            go_simp
            first | done | with_reducible rfl
          try simp only [Act.put, List.setIfInBounds_toArray, List.set_cons_zero, List.set_cons_succ]
          refine wpAnyH_ready (rs := [8]) (by kernel_rfl) (by simp) ?_
          refine AllReadyH.cons (o := { dst := some 48, op := Op.call { callee := Callee.value (Operand.func 33), args := #[Operand.tmp 43, Operand.tmp 47], argTypes := #[3, 9] }, type := 47, pos := "ref.go:152", after := #[{ on := 3, ground := Ground.data }, { on := 7, ground := Ground.data }], guard := none }) rfl (fun K hK => ?_) AllReadyH.nil
          go_simp
          (go_at_call 33; (with_reducible refine (AC.out _).mono ?_); rintro e w6 ⟨rfl, hb6⟩)
          have ST6 := Lib.hid (ST5.out.drew.keep hb6)
          go_simp
          refine hK.out _ _ trivial (fun hHeld => ?_)
          clear hK K
          try simp only [Act.put, List.setIfInBounds_toArray, List.set_cons_zero, List.set_cons_succ]
          refine wpAnyH_take (i := 9) (oi := { dst := some 49, op := Op.build 51 #[(0, Operand.tmp 48)], type := 51, pos := "ref.go:152", after := #[{ on := 8, ground := Ground.data }], guard := none }) (v := ?_) rfl (by kernel_rfl) (by kernel_rfl) (by kernel_rfl) (fun _ _ _ h => h) (Or.inl ⟨by rfl, ?_⟩) (by assumption) ?_
          rotate_left 1
          · intro w hSw
            go_simp
            first | done | with_reducible rfl
          try simp only [Act.put, List.setIfInBounds_toArray, List.set_cons_zero, List.set_cons_succ]
          refine wpAnyH_ready (rs := [10]) (by kernel_rfl) (by simp) ?_
          refine AllReadyH.cons (o := { dst := some 50, op := Op.buildSlice 38 1 #[(0, Operand.tmp 49)], type := 38, pos := "ref.go:152", after := #[{ on := 9, ground := Ground.data }], guard := none }) rfl (fun K hK => ?_) AllReadyH.nil
          go_simp
          refine hK.out _ _ trivial (fun hHeld => ?_)
          clear hK K
          try simp only [Act.put, List.setIfInBounds_toArray, List.set_cons_zero, List.set_cons_succ]
          refine wpAnyH_ready (rs := [11]) (by kernel_rfl) (by simp) ?_
          refine AllReadyH.cons (o := { dst := some 51, op := Op.call { callee := Callee.builtin Builtin.append, args := #[Operand.tmp 40, Operand.tmp 50], argTypes := #[38, 38] }, type := 38, pos := "ref.go:152", after := #[{ on := 0, ground := Ground.data }, { on := 10, ground := Ground.data }, { on := 8, ground := Ground.chain }], guard := none }) rfl (fun K hK => ?_) AllReadyH.nil
          obtain ⟨v', w', hr0, st', _⟩ := app_ent 38 51 Try.underlying38 info51 (ST6.out.alloc (.cells (entC (.ok (kn, bd))).toArray 51)) 38 w6.heap.size 1 (.ok (kn, bd)) (alloc_new _ _) hl3
          have hr : (Builtin.append_ #[38, 38] 38 #[u3, .slice (some ⟨w6.heap.size, 0, none⟩) 1 1]).run Try.prog (w6.alloc (.cells #[c0, c1, c2, c3, c4, c5, c6, c7, c8, c9, c10, c11, c12, c13, .int .i64 0] 51)) = .ok v' w' := by rw [HE.out] at hr0; exact hr0
          clear hr0
          have ST7 := Lib.hid st'
          clear st'
          refine step_append_v (.tmp 40) (.tmp 50) 38 _ _ rfl rfl rfl rfl ⟨v', w', hr, ?_⟩
          refine hK.out _ _ trivial (fun hHeld => ?_)
          clear hK K
          try simp only [Act.put, List.setIfInBounds_toArray, List.set_cons_zero, List.set_cons_succ]
          refine wpAnyH_ready (rs := [12]) (by kernel_rfl) (by simp) ?_
          refine AllReadyH.cons (o := { dst := some 3, op := Op.assign (Operand.tmp 51), type := 38, pos := "ref.go:152", after := #[{ on := 11, ground := Ground.data }, { on := 11, ground := Ground.chain }, { on := 0, ground := Ground.phase }, { on := 1, ground := Ground.phase }, { on := 2, ground := Ground.phase }, { on := 3, ground := Ground.phase }, { on := 4, ground := Ground.phase }, { on := 5, ground := Ground.phase }, { on := 6, ground := Ground.phase }, { on := 7, ground := Ground.phase }, { on := 8, ground := Ground.phase }, { on := 9, ground := Ground.phase }, { on := 10, ground := Ground.phase }, { on := 11, ground := Ground.phase }], guard := none }) rfl (fun K hK => ?_) AllReadyH.nil
          go_simp
          refine hK.out _ _ trivial (fun hHeld => ?_)
          clear hK K
          try simp only [Act.put, List.setIfInBounds_toArray, List.set_cons_zero, List.set_cons_succ]
          refine wpAnyH_done (by kernel_rfl) ?_ _
          refine NoPanic.normal ?_
          try simp only [Exit.then]
          go_wp2_with (fail)
          go_roundg k
          any_goals (exact Nat.lt_succ_self k)
          exact ⟨r.drop nn, done ++ [.ok (kn, bd)], by have := HM.out.1; rw [List.length_drop]; omega, by rw [HY2.out], by have := HM.out.2; rw [List.length_append, List.length_drop]; simp; omega, hF2, ST7.out⟩
end Go.Proofs.Ytmijfhfjhbckdaa
