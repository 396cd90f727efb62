import Derived.Test.YtmijfhfjhbckdaaEntR
/- script.Entries. -/
namespace Go.Proofs.Ytmijfhfjhbckdaa
set_option maxRecDepth 100000
open Go.RowKit
theorem call30 (args : Array Value) (W : World) : (callFunc 30 args).run Try.prog W = .ok (.enter 30 args) W := rfl
theorem entR_any (k A RB : Nat) (hk : k < 11) (s : ByteArray) (W : World) (hs : s.size ≤ MX) (hA : W.heap[A]? = some (.cells (actC k .non) 47 (0, 0))) (hR : W.heap[RB]? = some (.cells #[.string ⟨#[]⟩] 9 (0, 0))) (hne : RB ≠ A) :
    Calls Try.prog 19 #[.string s, .func (.func 30) #[] #[.pointer (some ⟨A, 0, none⟩), .pointer (some ⟨RB, 0, none⟩)]] W fun e w' => ∃ c : Nat, e = .returned (.int .i64 c) ∧ Save [A, RB] W w' ∧ ((c = 2 ∧ getP k s.data.toList = none) ∨ (c = 0 ∧ ∃ bd r, getP k s.data.toList = some (bd, r) ∧ w'.heap[A]? = some (.cells (actC k bd) 47 (0, 0)) ∧ w'.heap[RB]? = some (.cells #[.string (bs r)] 9 (0, 0)))) := by
  obtain ⟨W2, hW2⟩ : ∃ V, V = (W.alloc (.cells #[.int .i64 0] 30)).alloc (.cells #[.string s, .int .i64 0] 111) := ⟨_, rfl⟩
  have hb2 : Below W.heap.size W W2 := by rw [hW2]; exact ((Below.refl _ _).alloc (Nat.le_refl _) _).alloc (by simp) _
  have hz : W2.heap[W.heap.size]? = some (.cells #[.int .i64 0] 30 (0, 0)) := by rw [hW2, Below.heap_alloc _ _ _ (by simp)]; exact alloc_new _ _
  have hrd : Rd (W.heap.size + 1) s 0 W2 := by
    have h := alloc_new (W.alloc (.cells #[.int .i64 0] 30)) (.cells #[.string s, .int .i64 0] 111)
    rw [← hW2] at h
    unfold Rd
    simpa using h
  have lA := heap_lt hA
  have lR := heap_lt hR
  refine (read_any 30 _ s W (fun c w' => (c = 2 ∧ getP k s.data.toList = none ∧ Save [W.heap.size + 1, A, RB] W2 w') ∨ (c = 0 ∧ ∃ bd r, getP k s.data.toList = some (bd, r) ∧ w'.heap[A]? = some (.cells (actC k bd) 47 (0, 0)) ∧ w'.heap[RB]? = some (.cells #[.string (bs r)] 9 (0, 0)) ∧ Save [W.heap.size + 1, A, RB] W2 w')) call30 ?_).mono ?_
  · unfold Reads
    rw [← hW2]
    refine (ent1_any k (W.heap.size + 1) A RB hk W2 s s.data.toList hs ⟨Rl.start hrd, (hb2.block _ lA).trans hA, (hb2.block _ lR).trans hR, ⟨by omega, by omega, hne⟩, Save.refl _ _⟩).mono ?_
    rintro e w' (⟨bd, r, h1, rfl, h2, h3, h4⟩ | ⟨h1, rfl, h2⟩)
    · exact ⟨(h4.block _ (heap_lt hz) (by simp; omega)).trans hz, 0, .inl ⟨rfl, rfl⟩, .inr ⟨rfl, bd, r, h1, h2, h3, h4⟩⟩
    · exact ⟨(h2.block _ (heap_lt hz) (by simp; omega)).trans hz, 2, .inr rfl, .inl ⟨rfl, h1, h2⟩⟩
  · rintro e w' ⟨c, w0, rfl, h, hbut⟩
    have hsv : Save [W.heap.size + 1, A, RB] W2 w0 := by
      rcases h with ⟨_, _, h⟩ | ⟨_, _, _, _, _, _, h⟩
      · exact h
      · exact h
    have q1 := hb2.size
    have hk2 : ∀ k, k < W.heap.size → w'.heap[k]? = w0.heap[k]? := fun k hk => hbut.block k (Nat.lt_of_lt_of_le hk (Nat.le_trans q1 hsv.size)) (by omega)
    have hS : Save [A, RB] W w' := by
      refine ⟨hbut.os.trans (hsv.os.trans hb2.os), hbut.tape.trans (hsv.tape.trans hb2.tape), hbut.output.trans (hsv.output.trans hb2.output), Nat.le_trans q1 (Nat.le_trans hsv.size hbut.size), fun k hk hn => ?_⟩
      rw [hk2 k hk, hsv.block k (Nat.lt_of_lt_of_le hk q1) (by simp at hn ⊢; omega), hb2.block k hk]
    refine ⟨c, rfl, hS, ?_⟩
    rcases h with ⟨rfl, h1, _⟩ | ⟨rfl, bd, r, h1, h2, h3, _⟩
    · exact .inl ⟨rfl, h1⟩
    · exact .inr ⟨rfl, bd, r, h1, (hk2 _ lA).trans h2, (hk2 _ lR).trans h3⟩
theorem bs_cons (c : UInt8) (r : List UInt8) : (bs (c :: r)).extract 1 (bs (c :: r)).size = bs r := by
  rw [bs_extract, bs_size]
  simp
set_option maxHeartbeats 4000000 in
theorem entries_any (s : ByteArray) (w : World) (hs : s.size ≤ 1000000) : Calls Try.prog 10 #[.string s] w fun e w' => ∃ v, e = .returned v ∧ RSt 66 w.heap.size w v (entP s.data.toList.length s.data.toList) w' := by
  obtain ⟨l, hl⟩ : ∃ l, l = s.data.toList := ⟨_, rfl⟩
  obtain ⟨F, hF⟩ : ∃ F, F = entP l.length l := ⟨_, rfl⟩
  have hsl : s = bs l := by rw [hl, bs_of]
  have hll : l.length ≤ 1000000 := by rw [hl]; simpa using hs
  rw [← hl, ← hF, hsl]
  have HF := Lib.hid hF
  clear hF hl hsl hs
  have sf := store_float
  go_enter Try.func10, Try.ntmps10
  go_wp2_with (fail)
  go_loopg [0, 3] l.length (fun k t0 t3 wr => ∃ (m : List UInt8) (done : List EntP), m.length ≤ k ∧ t0 = .string (bs m) ∧ done.length + m.length ≤ l.length ∧ Hid (F = done ++ entP k m) ∧ RSt 66 w.heap.size w t3 done wr)
  case atStart => exact ⟨l, [], Nat.le_refl _, rfl, by simp, HF.out, RSt.nil (Below.refl _ _) (Nat.le_refl _)⟩
  case round =>
    obtain ⟨m, done, hm, rfl, hdl, hF, st⟩ := hrel
    obtain ⟨X, hX⟩ : ∃ X, X = bs m := ⟨_, rfl⟩
    have hXs : X.size = m.length := by rw [hX, bs_size]
    rw [← hX]
    cases m with
    | nil =>
      have hX0 : X.size = 0 := hXs
      have st1 := Lib.hid st
      have hF1 : Hid (F = done) := by show F = done; rw [hF.out]; cases gk <;> simp [entP]
      clear hF hX hXs st
      go_wp2_with (fail)
      go_ret
      exact ⟨_, rfl, by rw [hF1.out]; exact st1.out⟩
    | cons c r =>
      rw [List.length_cons] at hm hdl hXs
      obtain ⟨k, rfl⟩ : ∃ k, gk = k + 1 := ⟨gk - 1, by omega⟩
      have hX1 : 0 < X.size := by omega
      have hX1' : (0 : Int) < (X.size : Int) := by omega
      have hX2 : (1 : Int) ≤ (X.size : Int) := by omega
      have hX3 : 1 ≤ X.size := by omega
      obtain ⟨kn, hkn⟩ : ∃ x, x = c.toNat := ⟨_, rfl⟩
      have hx0 : ∀ h : 0 < X.size, (X[0]'h).toNat = kn := by subst hX; intro _; exact hkn.symm
      obtain ⟨Y, hY⟩ : ∃ Y, Y = bs r := ⟨_, rfl⟩
      have hXY : X.extract 1 X.size = Y := by rw [hX, hY]; exact bs_cons c r
      have hk9 : kn < 256 := by rw [hkn]; exact c.toNat_lt
      have wk : IntKind.i64.wrap (kn : Int) = (kn : Int) := IntWalk.i64_in _ (by omega)
      have hl3 : done.length ≤ 1000000 := by omega
      by_cases hk : 11 ≤ kn
      · have hF1 : Hid (F = (done ++ [.error 9]) ++ entP k r) := by
          show F = _
          rw [hF.out, entP, ← hkn, if_pos hk]; simp
        obtain ⟨v', w', hr, st', _⟩ : ∃ v' w', (Builtin.append_ #[36, 36] 36 #[u3, .slice (some ⟨wr.heap.size + 1, 0, none⟩) 1 1]).run Try.prog ((wr.alloc (.cells #[.int .i64 (kn : Nat), .string ⟨#[]⟩, .int .i64 0, .string ⟨#[]⟩, .float .f64 0, .int .i64 0, .bool false, .bool false, .int .u32 0, .bool false, .int .i64 0, .int .i64 0, .int .i64 0, .int .i64 0] 47)).alloc (.cells #[.int .i64 0, .string ⟨#[]⟩, .int .i64 0, .string ⟨#[]⟩, .float .f64 0, .int .i64 0, .bool false, .bool false, .int .u32 0, .bool false, .int .i64 0, .int .i64 0, .int .i64 0, .int .i64 0, .int .i64 9] 66)) = .ok v' w' ∧ RSt 66 w.heap.size w v' (done ++ [.error 9]) w' ∧ _ :=
          app_ent 36 66 Try.underlying36 info66 ((st.alloc _).alloc _) 36 (wr.heap.size + 1) 1 (.error 9) (heap_alloc2_new _ _ _) hl3
        have ST := Lib.hid st'
        have HR := Lib.hid hr
        have HYr : Hid (Y = bs r) := hY
        have HM : Hid (r.length + 1 ≤ k + 1 ∧ done.length + (r.length + 1) ≤ l.length) := ⟨hm, hdl⟩
        have d1 : decide ((11 : Int) ≤ (kn : Int)) = true := decide_eq_true (by omega)
        have d2 : (kn : Int) ≥ 11 := by omega
        clear hF hX hXs st hkn hY hr st' hm hdl hk
        go_wp2_with (at_builtin; refine wpList_append_ok rfl (.tmp 17) (.tmp 19) 36 rfl _ _ _ _ rfl rfl HR.out ?_)
        go_roundg k
        any_goals (exact Nat.lt_succ_self k)
        exact ⟨r, done ++ [.error 9], by have := HM.out.1; omega, by rw [HYr.out], by have := HM.out.2; rw [List.length_append]; simp; omega, hF1, ST.out⟩
      · obtain ⟨W2, hW2⟩ : ∃ V, V = (wr.alloc (.cells #[.int .i64 (kn : Nat), .string ⟨#[]⟩, .int .i64 0, .string ⟨#[]⟩, .float .f64 0, .int .i64 0, .bool false, .bool false, .int .u32 0, .bool false, .int .i64 0, .int .i64 0, .int .i64 0, .int .i64 0] 47)).alloc (.cells #[.string ⟨#[]⟩] 9) := ⟨_, rfl⟩
        obtain ⟨A, hA⟩ : ∃ x, x = wr.heap.size := ⟨_, rfl⟩
        obtain ⟨RB, hRB⟩ : ∃ x, x = wr.heap.size + 1 := ⟨_, rfl⟩
        have gA : W2.heap[A]? = some (.cells (actC kn .non) 47 (0, 0)) := by rw [hW2, hA]; exact heap_alloc2_old _ _ _
        have gR : W2.heap[RB]? = some (.cells #[.string ⟨#[]⟩] 9 (0, 0)) := by rw [hW2, hRB]; exact heap_alloc2_new _ _ _
        have bW2 : Below wr.heap.size wr W2 := by rw [hW2]; exact ((Below.refl _ _).alloc (Nat.le_refl _) _).alloc (by simp) _
        have hne : RB ≠ A := by omega
        have RD : Hid (Calls Try.prog 19 #[.string Y, .func (.func 30) #[] #[.pointer (some ⟨A, 0, none⟩), .pointer (some ⟨RB, 0, none⟩)]] W2 fun e w' => ∃ c : Int, e = .returned (.int .i64 c) ∧ Save [A, RB] W2 w' ∧ ((c = 2 ∧ getP kn r = none) ∨ (c = 0 ∧ ∃ bd r', getP kn r = some (bd, r') ∧ w'.heap[A]? = some (.cells (actC kn bd) 47 (0, 0)) ∧ w'.heap[RB]? = some (.cells #[.string (bs r')] 9 (0, 0))))) := by
          have hr : Y.data.toList = r := by rw [hY]; rfl
          have h := entR_any kn A RB (by omega) Y W2 (by rw [hY, bs_size]; show r.length ≤ 9223372036854775807; omega) gA gR hne
          rw [hr] at h
          refine h.mono ?_
          rintro e w' ⟨c, rfl, h1, h2⟩
          refine ⟨(c : Int), rfl, h1, ?_⟩
          rcases h2 with ⟨rfl, h2⟩ | ⟨rfl, h2⟩
          · exact .inl ⟨rfl, h2⟩
          · exact .inr ⟨rfl, h2⟩
        have hF1 : Hid (F = done ++ match getP kn r with
            | none => [.error 2]
            | some (b, r') => .ok (kn, b) :: entP k r') := by
          show F = _
          rw [hF.out, entP, ← hkn, if_neg hk]
          cases getP kn r <;> rfl
        have HM : Hid (r.length + 1 ≤ k + 1 ∧ done.length + (r.length + 1) ≤ l.length) := ⟨hm, hdl⟩
        have hlo : wr.heap.size ≤ A ∧ wr.heap.size ≤ RB := by omega
        have d1 : decide ((11 : Int) ≤ (kn : Int)) = false := decide_eq_false (by omega)
        have d2 : ¬ (kn : Int) ≥ 11 := by omega
        have ST := Lib.hid st
        have BW := Lib.hid bW2
        have HLO := Lib.hid hlo
        have HLK : Hid (∀ k ∈ [A, RB], wr.heap.size ≤ k) := by intro k hk; simp at hk; rcases hk with rfl | rfl <;> omega
        have hmf := fun (fn : Fn) (first cap : Array Value) (w : World) => make_run fn first cap w
        clear hF hX hXs st hkn hY hm hdl hk gA gR bW2 hlo
        go_upto_region 8 with (fail)
        rw [← hW2, ← hRB, ← hA]
        clear hW2 hRB hA
        go_wp2_with (fail)
        (with_reducible refine RD.out.mono ?_)
        clear RD hmf
        rintro e w3 ⟨c9, rfl, hsv, ⟨rfl, hg⟩ | ⟨rfl, bd, rr, hg, g1, g2⟩⟩
        · have hF2 : Hid (F = done ++ [.error 2]) := by show F = _; rw [hF1.out, hg]
          have st3 : RSt 66 w.heap.size w u3 done w3 := ST.out.keep (BW.out.trans (hsv.below (B := wr.heap.size) HLK.out BW.out.size))
          obtain ⟨v', w', hr0, st', _⟩ := app_ent 36 66 Try.underlying36 info66 (st3.alloc (.cells (entC (.error 2)).toArray 66)) 36 w3.heap.size 1 (.error 2) (alloc_new _ _) hl3
          have hr : (Builtin.append_ #[36, 36] 36 #[u3, .slice (some ⟨w3.heap.size, 0, none⟩) 1 1]).run Try.prog (w3.alloc (.cells #[.int .i64 0, .string ⟨#[]⟩, .int .i64 0, .string ⟨#[]⟩, .float .f64 0, .int .i64 0, .bool false, .bool false, .int .u32 0, .bool false, .int .i64 0, .int .i64 0, .int .i64 0, .int .i64 0, .int .i64 2] 66)) = .ok v' w' := hr0
          clear hr0
          have ST4 := Lib.hid st'
          have HR := Lib.hid hr
          clear hF1 hg hsv st3 st' hr
          go_wp2_with (at_builtin; refine wpList_append_ok rfl (.tmp 29) (.tmp 32) 36 rfl _ _ _ _ rfl rfl HR.out ?_)
          go_ret
          exact ⟨_, rfl, by rw [hF2.out]; exact ST4.out⟩
        · have hF2 : Hid (F = (done ++ [.ok (kn, bd)]) ++ entP k rr) := by show F = _; rw [hF1.out, hg]; simp
          have bw3 : Below wr.heap.size wr w3 := BW.out.trans (hsv.below (B := wr.heap.size) HLK.out BW.out.size)
          have st3 : RSt 66 w.heap.size w u3 done w3 := ST.out.keep bw3
          obtain ⟨v', w', hr, st', hkp, hsz⟩ := app_ent 36 66 Try.underlying36 info66 (st3.alloc (.cells (entC (.ok (kn, bd))).toArray 66)) 36 w3.heap.size 1 (.ok (kn, bd)) (alloc_new _ _) hl3
          have hlen : rr.length ≤ r.length := getP_len hg
          obtain ⟨c0, c1, c2, c3, c4, c5, c6, c7, c8, c9, c10, c11, c12, c13, hcs⟩ : ∃ c0 c1 c2 c3 c4 c5 c6 c7 c8 c9 c10 c11 c12 c13, actC kn bd = #[c0, c1, c2, c3, c4, c5, c6, c7, c8, c9, c10, c11, c12, c13] := by cases bd <;> exact ⟨_, _, _, _, _, _, _, _, _, _, _, _, _, _, rfl⟩
          have one : ∀ u ∈ [c0, c1, c2, c3, c4, c5, c6, c7, c8, c9, c10, c11, c12, c13], u.oneCell' = true := fun u hu => entC_one (.ok (kn, bd)) u (by show u ∈ (actC kn bd).toList ++ _; rw [hcs]; exact List.mem_append_left _ hu)
          have he : (entC (.ok (kn, bd))).toArray = #[c0, c1, c2, c3, c4, c5, c6, c7, c8, c9, c10, c11, c12, c13, .int .i64 0] := by show ((actC kn bd).toList ++ _).toArray = _; rw [hcs]; rfl
          rw [he] at hr hkp
          rw [hcs] at g1
          have gR' : w'.heap[RB]? = some (.cells #[.string (bs rr)] 9 (0, 0)) := by
            have lt := heap_lt g2
            rw [hkp RB (by simp; omega) (fun q hq e => by
              have := (World.ownsRow.lt ST.out.row q hq).2
              have := HLO.out.2
              omega), Below.heap_alloc _ _ _ lt]
            exact g2
          have a0 := cellAt (i := 0) (v := c0) g1 rfl
          have o0 := one c0 (by simp)
          have a1 := cellAt (i := 1) (v := c1) g1 rfl
          have o1 := one c1 (by simp)
          have a2 := cellAt (i := 2) (v := c2) g1 rfl
          have o2 := one c2 (by simp)
          have a3 := cellAt (i := 3) (v := c3) g1 rfl
          have o3 := one c3 (by simp)
          have a4 := cellAt (i := 4) (v := c4) g1 rfl
          have o4 := one c4 (by simp)
          have a5 := cellAt (i := 5) (v := c5) g1 rfl
          have o5 := one c5 (by simp)
          have a6 := cellAt (i := 6) (v := c6) g1 rfl
          have o6 := one c6 (by simp)
          have a7 := cellAt (i := 7) (v := c7) g1 rfl
          have o7 := one c7 (by simp)
          have a8 := cellAt (i := 8) (v := c8) g1 rfl
          have o8 := one c8 (by simp)
          have a9 := cellAt (i := 9) (v := c9) g1 rfl
          have o9 := one c9 (by simp)
          have a10 := cellAt (i := 10) (v := c10) g1 rfl
          have o10 := one c10 (by simp)
          have a11 := cellAt (i := 11) (v := c11) g1 rfl
          have o11 := one c11 (by simp)
          have a12 := cellAt (i := 12) (v := c12) g1 rfl
          have o12 := one c12 (by simp)
          have a13 := cellAt (i := 13) (v := c13) g1 rfl
          have o13 := one c13 (by simp)
          obtain ⟨Z, hZ⟩ : ∃ Z, Z = bs rr := ⟨_, rfl⟩
          rw [← hZ] at gR'
          have z0 := cellAt (i := 0) (v := .string Z) gR' rfl
          have HZ := Lib.hid hZ
          have HR := Lib.hid hr
          have ST4 := Lib.hid st'
          have HLE := Lib.hid hlen
          clear hF1 hg hsv bw3 st3 hr st' hkp hsz hlen hcs one he g1 g2 gR' hZ
          go_wp2_with (at_builtin; refine wpList_append_ok rfl (.tmp 34) (.tmp 37) 36 rfl _ _ _ _ rfl rfl HR.out ?_)
          go_roundg k
          any_goals (exact Nat.lt_succ_self k)
          exact ⟨rr, done ++ [.ok (kn, bd)], by have := HM.out.1; have := HLE.out; omega, by rw [HZ.out], by have := HM.out.2; have := HLE.out; rw [List.length_append]; simp; omega, hF2, ST4.out⟩
end Go.Proofs.Ytmijfhfjhbckdaa
