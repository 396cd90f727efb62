import Derived.Test.YtfagkmmenfeppaaDoorFollow
/- Get. -/
namespace Go.Proofs.YtfagkmmenfeppaaDoor
set_option maxRecDepth 100000
open Go.RowKit
def signL : List UInt8 := [13, 10, 13, 10, 0, 13, 10, 81, 85, 73, 84, 10]
/-- what is told of a header: Local, the rest, its fields, a seal's place, how many bytes -/
def getE (l : List UInt8) : Except Nat (Bool × Hd × List Fd × Nat × Nat) :=
  if l.take (min l.length 12) ≠ signL.take (min l.length 12) then .error 13
  else if l.length < 12 then .error 2
  else match leadE (l.drop 12) with
    | .error c => .error c
    | .ok (loc, f, n) => if (l.drop 16).length < n then .error 2 else
      match follE (l.take (16 + n)) loc f with
      | .error c => .error c
      | .ok (h, fs, a) => .ok (loc, h, fs, a, 16 + n)
/-- what Get's reading goes by -/
structure HSt (PB X Z R : Nat) (w0 : World) (b : ByteArray) (C : Array Value) (zv : Int) (l : List UInt8) (w : World) : Prop where
  hPB : w.heap[PB]? = some (.cells #[.string b] 9 (0, 0))
  hX : w.heap[X]? = some (.cells C 74 (0, 0))
  hZ : w.heap[Z]? = some (.cells #[.int .i64 zv] 3 (0, 0))
  rd : Rl R b l w
  fam : FamAt w
  dX : X ≠ 0 ∧ X ≠ R ∧ X ≠ PB ∧ X ≠ Z
  dR : R ≠ 0 ∧ R ≠ PB ∧ R ≠ Z
  dZ : Z ≠ 0 ∧ Z ≠ PB
  sv : Save [X, Z, R] w0 w
section
variable {PB X Z R : Nat} {w0 : World} {b : ByteArray} {C : Array Value} {zv : Int} {l : List UInt8} {w : World}
theorem HSt.save {C' : Array Value} {l' : List UInt8} {w' : World} (h : HSt PB X Z R w0 b C zv l w) (hs : Save [X, R] w w') (hX : w'.heap[X]? = some (.cells C' 74 (0, 0))) (hr : Rl R b l' w') : HSt PB X Z R w0 b C' zv l' w' := by
  obtain ⟨x1, x2, x3, x4⟩ := h.dX
  obtain ⟨r1, r2, r3⟩ := h.dR
  exact ⟨(hs.block PB (heap_lt h.hPB) (by simp; omega)).trans h.hPB, hX, (hs.block Z (heap_lt h.hZ) (by simp; omega)).trans h.hZ, hr, h.fam.save hs (by simp; omega), h.dX, h.dR, h.dZ, h.sv.trans (hs.mono (by intro k hk; simp at hk ⊢; omega))⟩
theorem HSt.but {l' : List UInt8} {w' : World} (h : HSt PB X Z R w0 b C zv l w) (hb : But R w w') (hr : Rl R b l' w') : HSt PB X Z R w0 b C zv l' w' :=
  h.save (hb.save (by simp)) ((hb.block X (heap_lt h.hX) h.dX.2.1).trans h.hX) hr
theorem HSt.drew (h : HSt PB X Z R w0 b C zv l w) : HSt PB X Z R w0 b C zv l w.drew := ⟨h.hPB, h.hX, h.hZ, h.rd.drewN 1, h.fam, h.dX, h.dR, h.dZ, h.sv.drew⟩
theorem HSt.alloc (h : HSt PB X Z R w0 b C zv l w) (o : Obj) : HSt PB X Z R w0 b C zv l (w.alloc o) := by
  have hb := (Below.refl w.heap.size w).alloc (Nat.le_refl _) o
  exact h.save (Save.of_below hb) ((hb.block X (heap_lt h.hX)).trans h.hX) (h.rd.same (hb.block R h.rd.lt))
theorem HSt.setZ (h : HSt PB X Z R w0 b C zv l w) (n : Int) : HSt PB X Z R w0 b C n l (w.setCell ⟨Z, 0, none⟩ (.int .i64 n)) := by
  obtain ⟨x1, x2, x3, x4⟩ := h.dX
  obtain ⟨r1, r2, r3⟩ := h.dR
  obtain ⟨z1, z2⟩ := h.dZ
  have hs : Save [Z] w (w.setCell ⟨Z, 0, none⟩ (.int .i64 n)) := (Save.refl _ _).set (.inl (by simp)) _
  exact ⟨(hs.block PB (heap_lt h.hPB) (by simp; omega)).trans h.hPB, (hs.block X (heap_lt h.hX) (by simp; omega)).trans h.hX, heap_set h.hZ (i := 0) (by simp) _, h.rd.same (hs.block R h.rd.lt (by simp; omega)), h.fam.save hs (by simp; omega), h.dX, h.dR, h.dZ, h.sv.trans (hs.mono (by intro k hk; simp at hk ⊢; omega))⟩
end
theorem fam_small {c : UInt8} {f : Fam} (h : famOf c = some f) : f.2.2 ≤ 1000 := by
  have h1 := List.mem_of_find?_eq_some h
  simp [fams] at h1
  rcases h1 with rfl | rfl | rfl | rfl | rfl <;> decide
theorem leadE_small {l : List UInt8} {loc : Bool} {f : Fam} {n : Nat} (h : leadE l = .ok (loc, f, n)) : f.2.2 ≤ 1000 := by
  rcases l with _ | ⟨c, l⟩
  · cases h
  · rw [leadE] at h
    split at h
    · cases h
    · split at h
      · cases h
      · rcases l with _ | ⟨d, l⟩
        · cases h
        · simp only [leadT] at h
          split at h
          · cases h
          · rename_i g hg
            split at h
            · cases h
            · injection h with h
              injection h with _ h
              injection h with h _
              subst h; exact fam_small hg
theorem leadE_n {l : List UInt8} {loc : Bool} {f : Fam} {n : Nat} (h : leadE l = .ok (loc, f, n)) : n < 65536 := by
  rcases l with _ | ⟨c, l⟩
  · cases h
  · rw [leadE] at h
    split at h
    · cases h
    · split at h
      · cases h
      · rcases l with _ | ⟨d, l⟩
        · cases h
        · simp only [leadT] at h
          split at h
          · cases h
          · rename_i g hg
            split at h
            · cases h
            · injection h with h
              injection h with _ h
              injection h with _ h
              subst h
              have := bv_lt (l.take 2)
              refine Nat.lt_of_lt_of_le this ?_
              have h2 : (l.take 2).length ≤ 2 := List.length_take_le _ _
              exact Nat.pow_le_pow_right (n := 256) (by omega) h2
theorem leadE_len {l : List UInt8} {loc : Bool} {f : Fam} {n : Nat} (h : leadE l = .ok (loc, f, n)) : 4 ≤ l.length := by
  rcases l with _ | ⟨c, l⟩
  · cases h
  · rw [leadE] at h
    split at h
    · cases h
    · split at h
      · cases h
      · rcases l with _ | ⟨d, l⟩
        · cases h
        · simp only [leadT] at h
          split at h
          · cases h
          · split at h
            · cases h
            · simp only [List.length_cons]; omega
def Get1Post (X Z R : Nat) (b : ByteArray) (w : World) (e : Ending) (w' : World) : Prop :=
  (∃ c, getE b.data.toList = .error c ∧ e = .panicked (stopped c) ∧ Save [X, Z, R] w w') ∨
  (∃ (loc : Bool) (h : Hd) (fs : List Fd) (a n m : Nat) (v : Value), getE b.data.toList = .ok (loc, h, fs, a, m) ∧ e = .returned (.tuple #[]) ∧ Save [X, Z, R] w w' ∧
    w'.heap[X]? = some (.cells #[.bool loc, .int .i64 h.1, .string (bs h.2.1), .string (bs h.2.2.1), .int .i64 h.2.2.2.1, .int .i64 h.2.2.2.2, v, .int .i64 a, .int .u32 n] 74 (0, 0)) ∧ w'.ownsRow w.heap.size 45 2 v fs.length (fflat fs) ∧
    w'.heap[Z]? = some (.cells #[.int .i64 (m : Int)] 3 (0, 0)))
set_option maxHeartbeats 8000000 in
theorem get1_any (PB X Z R : Nat) (b : ByteArray) (w : World) (st : HSt PB X Z R w b (X0 false) 0 b.data.toList w) (hs : b.size ≤ 1000000) :
    Calls Tryd.prog 33 (#[.pointer (some ⟨R, 0, none⟩)] ++ #[.pointer (some ⟨PB, 0, none⟩), .pointer (some ⟨X, 0, none⟩), .pointer (some ⟨Z, 0, none⟩)]) w (Get1Post X Z R b w) := by
  show Calls Tryd.prog 33 #[.pointer (some ⟨R, 0, none⟩), .pointer (some ⟨PB, 0, none⟩), .pointer (some ⟨X, 0, none⟩), .pointer (some ⟨Z, 0, none⟩)] w _
  have hs2 : b.size ≤ MX := by show b.size ≤ 9223372036854775807; omega
  have ST := Lib.hid st
  have k0 : w.cell? ⟨PB, 0, none⟩ = some (.string b) := cellAt st.hPB rfl
  clear st
  obtain ⟨n0, hn0⟩ : ∃ x, x = min b.size 12 := ⟨_, rfl⟩
  have m1 : min (b.size : Int) 12 = (n0 : Int) := by omega
  have m2 : (n0 : Int) ≤ b.size := by omega
  have m3 : (n0 : Int) ≤ 12 := by omega
  have HN := Lib.hid hn0
  clear hn0
  go_enter Tryd.func33, Tryd.ntmps33
  go_wp2_with (fail)
  have hsg : ((b.extract 0 n0).toList == ((⟨#[13, 10, 13, 10, 0, 13, 10, 81, 85, 73, 84, 10]⟩ : ByteArray).extract 0 n0).toList) = (b.data.toList.take n0 == signL.take n0) := by
    rw [ByteArray.toList_eq, ByteArray.toList_eq, extract_bs, show (⟨#[13, 10, 13, 10, 0, 13, 10, 81, 85, 73, 84, 10]⟩ : ByteArray) = bs signL from rfl, bs_extract, bs_list, bs_list, List.drop_zero, List.drop_zero, Nat.sub_zero]
  have hl : b.data.toList.length = b.size := by simp
  by_cases hsn : b.data.toList.take n0 = signL.take n0
  · have hs1 : ((b.extract 0 n0).toList == ((⟨#[13, 10, 13, 10, 0, 13, 10, 81, 85, 73, 84, 10]⟩ : ByteArray).extract 0 n0).toList) = true := by rw [hsg]; simpa using hsn
    have HSN := Lib.hid hsn
    clear hsg hsn hl
    go_region_held3 (fun w' => w'.cell? ⟨PB, 0, none⟩ = some (.string b)) (go_keep) (first | (go_simp; go_at_call 34; (with_reducible refine (need_yes _ _ _).mono ?_); rintro e w9 ⟨rfl, rfl⟩))
    simp only [Exit.then]
    have STd : Hid (HSt PB X Z R w b (X0 false) 0 b.data.toList w.drew) := ST.out.drew
    clear ST hs1
    generalize w.drew = wd at *
    by_cases h12 : b.size < 12
    · have HE : Hid (getE b.data.toList = .error 2) := by
        show getE _ = _
        rw [getE, show b.data.toList.length = b.size by simp, ← HN.out, if_neg (by rw [HSN.out]; simp), if_pos h12]
      have CT := Lib.hid (take_l_no R 12 b b.data.toList wd STd.out.rd (.inr (by simp; omega)) hs2)
      clear h12 k0
      go_wp2_with (go_at_call 35; (with_reducible refine CT.out.mono ?_); rintro e w2 ⟨rfl, hr, hb⟩)
      exact ⟨rfl, .inl ⟨2, HE.out, rfl, (STd.out.but hb hr).sv⟩⟩
    · have CT : Hid (Calls Tryd.prog 35 #[.pointer (some ⟨R, 0, none⟩), .int .i64 12] wd fun e w' => e = .returned (.string (bs (b.data.toList.take 12))) ∧ Rl R b (b.data.toList.drop 12) w' ∧ But R wd w') := take_l R 12 b _ wd STd.out.rd (by simp; omega) hs2
      have HG : Hid (getE b.data.toList = match leadE (b.data.toList.drop 12) with
        | .error c => .error c
        | .ok (loc, f, n) => if (b.data.toList.drop 16).length < n then .error 2 else
          match follE (b.data.toList.take (16 + n)) loc f with
          | .error c => .error c
          | .ok (h, fs, a) => .ok (loc, h, fs, a, 16 + n)) := by
        show getE _ = _
        rw [getE, show b.data.toList.length = b.size by simp, ← HN.out, if_neg (by rw [HSN.out]; simp), if_neg h12]
      have h12' : 12 ≤ b.size := by omega
      clear h12 k0 HSN HN m1 m2 m3
      obtain ⟨l1, hl1⟩ : ∃ x, x = b.data.toList.drop 12 := ⟨_, rfl⟩
      obtain ⟨t1, ht1⟩ : ∃ x, x = bs (b.data.toList.take 12) := ⟨_, rfl⟩
      rw [← hl1] at CT HG
      rw [← ht1] at CT
      have HL1 := Lib.hid hl1
      clear hl1 ht1
      go_wp2_with (go_at_call 35; (with_reducible refine CT.out.mono ?_); clear CT; rintro e w2 ⟨rfl, hr, hb⟩; have ST2 := Lib.hid (STd.out.but hb hr); clear STd hr hb)
      have CL := Lib.hid (lead_any X R b l1 _ _ _ _ _ _ _ _ _ w2 ST2.out.rd ST2.out.hX ST2.out.dX.2.1 ST2.out.fam ST2.out.dX.1 ST2.out.dR.1 hs2)
      refine CL.out.mono ?_
      rintro e w3 (⟨c, g1, rfl, g2⟩ | ⟨loc, f, n, g1, rfl, g2, g3, g4⟩)
      · exact ⟨rfl, .inl ⟨c, by rw [HG.out, g1], rfl, ST2.out.sv.trans (g2.mono (by intro k hk; simp at hk ⊢; omega))⟩⟩
      · have ST3 : Hid (HSt PB X Z R w b (X0 loc) 0 (l1.drop 4) w3) := ST2.out.save g4 g3 g2
        have HF := Lib.hid (leadE_small g1)
        have HG2 : Hid (getE b.data.toList = if (b.data.toList.drop 16).length < n then .error 2 else
          match follE (b.data.toList.take (16 + n)) loc f with
          | .error c => .error c
          | .ok (h, fs, a) => .ok (loc, h, fs, a, 16 + n)) := by show getE _ = _; rw [HG.out, g1]
        obtain ⟨l2, hl2⟩ : ∃ x, x = b.data.toList.drop 16 := ⟨_, rfl⟩
        have e16 : l1.drop 4 = l2 := by rw [HL1.out, List.drop_drop, hl2]
        have hl2s : l2.length = b.size - 16 := by rw [hl2, List.length_drop]; simp
        have hn64 : n < 65536 := leadE_n g1
        have hb16 : 16 ≤ b.size := by
          have := leadE_len g1
          rw [HL1.out, List.length_drop] at this
          simp at this; omega
        obtain ⟨fn, fc, fz⟩ := f
        rw [e16] at ST3
        rw [← hl2] at HG2
        have HS2 := Lib.hid hl2s
        clear HG CL ST2 g1 g2 g3 g4 hl2 e16 HL1 hl2s
        simp only [famV]
        have STa : Hid (HSt PB X Z R w b (X0 loc) 0 l2 (w3.alloc (.cells #[.int .i64 fn, .int .i64 fc, .int .i64 fz] 48))) := ST3.out.alloc _
        have hFb := alloc_new w3 (.cells #[.int .i64 fn, .int .i64 fc, .int .i64 fz] 48)
        have hFd : w3.heap.size ≠ X ∧ w3.heap.size ≠ R ∧ w3.heap.size ≠ Z := ⟨fun e => by have := heap_lt ST3.out.hX; omega, fun e => by have := ST3.out.rd.lt; omega, fun e => by have := heap_lt ST3.out.hZ; omega⟩
        have k1 : (w3.alloc (.cells #[.int .i64 fn, .int .i64 fc, .int .i64 fz] 48)).cell? ⟨Z, 0, none⟩ = some (.int .i64 0) := cellAt STa.out.hZ rfl
        have k1f := Lib.frozen_of_heap STa.out.hZ 0
        obtain ⟨g, hg⟩ : ∃ g, g = w3.heap.size := ⟨_, rfl⟩
        have HFB := Lib.hid hFb
        clear hFb
        go_wp2_with (fail)
        have hsz : Hid ((w3.alloc (.cells #[.int .i64 fn, .int .i64 fc, .int .i64 fz] 48)).setCell ⟨Z, 0, none⟩ (.int .i64 (16 + (n : Int))) = (w3.alloc (.cells #[.int .i64 fn, .int .i64 fc, .int .i64 fz] 48)).setCell ⟨Z, 0, none⟩ (.int .i64 (16 + (n : Int)))) := rfl
        obtain ⟨w4, hw4⟩ : ∃ w4, w4 = (w3.alloc (.cells #[.int .i64 fn, .int .i64 fc, .int .i64 fz] 48)).setCell ⟨Z, 0, none⟩ (.int .i64 (16 + (n : Int))) := ⟨_, rfl⟩
        have ST4 : Hid (HSt PB X Z R w b (X0 loc) (16 + (n : Int)) l2 w4) := by rw [hw4]; exact STa.out.setZ _
        have hF4 : Hid (w4.heap[g]? = some (.cells #[.int .i64 fn, .int .i64 fc, .int .i64 fz] 48 (0, 0))) := by
          show w4.heap[g]? = _
          rw [hw4, hg, Below.heap_setCell _ _ _ _ hFd.2.2]; exact HFB.out
        rw [← hw4, ← hg]
        clear hsz hw4 STa HFB k1 k1f ST3
        by_cases hnl : l2.length < n
        · have CT2 := Lib.hid (take_l_no R n b l2 w4 ST4.out.rd (.inr (by omega)) hs2)
          refine CT2.out.mono ?_
          rintro e w5 ⟨rfl, hr, hb⟩
          exact ⟨rfl, .inl ⟨2, by rw [HG2.out, if_pos hnl], rfl, (ST4.out.but hb hr).sv⟩⟩
        · have CT2 := Lib.hid (take_l R n b l2 w4 ST4.out.rd (by omega) hs2)
          have HG3 : Hid (getE b.data.toList = match follE (b.data.toList.take (16 + n)) loc (fn, fc, fz) with
            | .error c => .error c
            | .ok (h, fs, a) => .ok (loc, h, fs, a, 16 + n)) := by show getE _ = _; rw [HG2.out, if_neg hnl]
          have hnl2 : 16 + n ≤ b.size := by have := HS2.out; omega
          obtain ⟨t2, ht2⟩ : ∃ x, x = bs (l2.take n) := ⟨_, rfl⟩
          obtain ⟨l5, hl5⟩ : ∃ x, x = l2.drop n := ⟨_, rfl⟩
          rw [← ht2, ← hl5] at CT2
          clear hnl HG2 ht2 hl5 HS2
          refine CT2.out.mono ?_
          rintro e w5 ⟨rfl, hr, hb⟩
          have ST5 := Lib.hid (ST4.out.but hb hr)
          have hF5 : Hid (w5.heap[g]? = some (.cells #[.int .i64 fn, .int .i64 fc, .int .i64 fz] 48 (0, 0))) := (hb.block g (heap_lt hF4.out) (by rw [hg]; exact hFd.2.1)).trans hF4.out
          have hgX : g ≠ X := by rw [hg]; exact hFd.1
          clear CT2 hr hb ST4 hF4 hFd hg
          have j1 := cellAt (i := 0) (v := .string b) ST5.out.hPB rfl
          have j2 := cellAt (i := 0) (v := .int .i64 (16 + (n : Int))) ST5.out.hZ rfl
          have j3 := cellAt (i := 0) (v := .int .i64 fn) hF5.out rfl
          have j4 := cellAt (i := 1) (v := .int .i64 fc) hF5.out rfl
          have j5 := cellAt (i := 2) (v := .int .i64 fz) hF5.out rfl
          have m0 : (0 : Int) ≤ 16 + (n : Int) := by omega
          have m1 : 16 + (n : Int) ≤ b.size := by omega
          have m2 : (16 + (n : Int)).toNat = 16 + n := by omega
          have CFo : Hid (Calls Tryd.prog 37 #[.pointer (some ⟨X, 0, none⟩), .string (b.extract 0 (16 + n)), .agg #[.int .i64 fn, .int .i64 fc, .int .i64 fz]] w5.drew (FolPost X (b.extract 0 (16 + n)) loc (fn, fc, fz) w5.drew)) :=
            follow_any X (b.extract 0 (16 + n)) loc (fn, fc, fz) w5.drew ST5.out.hX (by rw [ByteArray.size_extract]; omega) (by rw [ByteArray.size_extract]; omega) HF.out
          have hex : Hid ((b.extract 0 (16 + n)).data.toList = b.data.toList.take (16 + n)) := by
            show _ = _
            rw [extract_bs, bs_list, List.drop_zero, Nat.sub_zero]
          go_wp2_with (fail)
          go_region_held3 (fun w' => w'.cell? ⟨PB, 0, none⟩ = some (.string b) ∧ w'.cell? ⟨Z, 0, none⟩ = some (.int .i64 (16 + (n : Int))) ∧ w'.cell? ⟨g, 0, none⟩ = some (.int .i64 fn) ∧ w'.cell? ⟨g, 1, none⟩ = some (.int .i64 fc) ∧ w'.cell? ⟨g, 2, none⟩ = some (.int .i64 fz)) (go_keep) (first | (go_simp; go_at_call 37; (with_reducible refine CFo.out.mono ?_); rintro e w9 ⟨c, rfl, hs9, hc9⟩; have p1 := cellAt (i := 0) (v := .string b) ((hs9.block PB (heap_lt ST5.out.hPB) (fun h => ST5.out.dX.2.2.1 (List.mem_singleton.1 h).symm)).trans ST5.out.hPB) rfl; have hZ9 := (hs9.block Z (heap_lt ST5.out.hZ) (fun h => ST5.out.dX.2.2.2 (List.mem_singleton.1 h).symm)).trans ST5.out.hZ; have p2 := cellAt (i := 0) (v := .int .i64 (16 + (n : Int))) hZ9 rfl; have hF9 := (hs9.block g (heap_lt hF5.out) (fun h => hgX (List.mem_singleton.1 h))).trans hF5.out; have p3 := cellAt (i := 0) (v := .int .i64 fn) hF9 rfl; have p4 := cellAt (i := 1) (v := .int .i64 fc) hF9 rfl; have p5 := cellAt (i := 2) (v := .int .i64 fz) hF9 rfl; have HZ9 := Lib.hid hZ9; clear hZ9 hF9; have HC9 := Lib.hid hc9; clear hc9))
          simp only [Exit.then]
          rcases HC9.out with ⟨hc0, hfe⟩ | ⟨rfl, h, fs, a, nn, v, hfo, hX9, hrow⟩
          · have HE : Hid (getE b.data.toList = .error c) := by show getE _ = _; rw [HG3.out, ← hex.out, hfe]
            have hc1 : ((c : Int) != 0) = true := by rw [bne_iff_ne]; omega
            have NE := Lib.hid (need_no (.pointer (some ⟨R, 0, none⟩)) c w9)
            clear hfe hc0 HC9
            go_wp2_with (go_at_call 34; (with_reducible refine NE.out.mono ?_); rintro e w10 ⟨rfl, rfl⟩)
            exact ⟨rfl, .inl ⟨c, HE.out, rfl, ST5.out.sv.drew.trans (hs9.mono (fun k hk => by simp at hk ⊢; omega))⟩⟩
          · have HE : Hid (getE b.data.toList = .ok (loc, h, fs, a, 16 + n)) := by show getE _ = _; rw [HG3.out, ← hex.out, hfo]
            have HX := Lib.hid hX9
            have HR := Lib.hid hrow
            clear hfo hX9 hrow HC9
            go_wp2_with (fail)
            go_end0
            exact .inr ⟨loc, h, fs, a, nn, 16 + n, v, HE.out, rfl, ST5.out.sv.drew.trans (hs9.mono (fun k hk => by simp at hk ⊢; omega)), HX.out, row_mono HR.out ST5.out.sv.size, by rw [HZ9.out]; rfl⟩
  · have hs1 : ((b.extract 0 n0).toList == ((⟨#[13, 10, 13, 10, 0, 13, 10, 81, 85, 73, 84, 10]⟩ : ByteArray).extract 0 n0).toList) = false := by rw [hsg]; simpa using hsn
    have HE : Hid (getE b.data.toList = .error 13) := by show getE _ = _; rw [getE, hl, ← HN.out, if_pos hsn]
    clear hsg hsn hl
    go_region_held2 (fun w' => w'.cell? ⟨PB, 0, none⟩ = some (.string b)) (first | go_keep | exact hF.out.elim) (first | (go_simp; go_at_call 34; (with_reducible refine (need_f _ 13 13 rfl _).mono ?_); rintro e w9 (⟨rfl, hF⟩ | ⟨rfl, rfl⟩); rotate_left; (focus (exact ⟨rfl, .inl ⟨13, HE.out, rfl, ST.out.sv.drew⟩⟩))))
    all_goals exact hF.out.elim
end Go.Proofs.YtfagkmmenfeppaaDoor
