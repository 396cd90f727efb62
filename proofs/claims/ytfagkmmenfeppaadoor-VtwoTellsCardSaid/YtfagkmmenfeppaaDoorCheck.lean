import Derived.Test.YtfagkmmenfeppaaDoorMay
import Derived.Test.YtfagkmmenfeppaaDoorLead
import Derived.Deep.DeepCutAuto
/- Check. -/
namespace Go.Proofs.YtfagkmmenfeppaaDoor
set_option maxRecDepth 100000
open Go.RowKit
/-- a header that came in -/
structure Stm where
  loc : Bool
  fam : Int
  src : List UInt8
  dst : List UInt8
  sp : Int
  dp : Int
  fs : List Fi
def famN (n : Int) : Option Fam := fams.find? (fun f => (f.1 : Int) == n)
def Stm.may (s : Stm) (f : Fam) : Bool := mayB s.loc s.src s.dst s.sp s.dp s.fs f
def natF (x : Fi) : Fd := (x.1.toNat, x.2)
def Stm.rest (s : Stm) (f : Fam) : List UInt8 := headB f.2.2 s.src s.dst s.sp.toNat s.dp.toNat ++ fdB (s.fs.map natF)
def Stm.check (s : Stm) (sl : Bool) : Nat :=
  match famN s.fam with
  | none => 1
  | some f => if s.may f = false then 1 else if (s.rest f).length + (if sl then 7 else 0) > 65535 then 4 else 0
def Stm.val (s : Stm) (a : Option Addr) (cap : Nat) : Value := .agg #[.bool s.loc, .int .i64 s.fam, .string (bs s.src), .string (bs s.dst), .int .i64 s.sp, .int .i64 s.dp, .slice a s.fs.length cap]
structure Stm.ok (s : Stm) : Prop where
  hn : s.fs.length ≤ 1000000
  hs : s.src.length ≤ 9223372036854775807
  hd : s.dst.length ≤ 9223372036854775807
  ht : ∀ x ∈ s.fs, x.2.length ≤ 9223372036854775807
theorem may_facts {s : Stm} {f : Fam} (h : s.may f = true) : 0 ≤ s.sp ∧ s.sp ≤ 65535 ∧ 0 ≤ s.dp ∧ s.dp ≤ 65535 ∧ s.src.length = f.2.2 ∧ s.dst.length = f.2.2 ∧ (∀ x ∈ s.fs, 0 ≤ x.1 ∧ x.1 ≤ 255 ∧ x.1 ≠ 3 ∧ x.2.length ≤ 65535) := by
  unfold Stm.may mayB pOk at h
  simp only [Bool.and_eq_true, decide_eq_true_eq, List.all_eq_true] at h
  obtain ⟨⟨⟨⟨⟨h1, h2⟩, h3⟩, h4⟩, h5⟩, _⟩ := h
  have hm : mostOf f ≤ 65535 := by unfold mostOf; split <;> omega
  refine ⟨h1.1, by omega, h2.1, by omega, h4, h5, fun x hx => ?_⟩
  have := h3 x hx
  unfold fOk at this
  simpa using this
theorem famN_small {n : Int} {f : Fam} (h : famN n = some f) : f.2.2 ≤ 1000 ∧ (f.1 : Int) = n := by
  have h2 := List.find?_some h
  have h1 := List.mem_of_find?_eq_some h
  refine ⟨?_, by simpa using h2⟩
  simp [fams] at h1
  rcases h1 with rfl | rfl | rfl | rfl | rfl <;> decide
theorem cast_nat {fs : List Fi} (h : ∀ x ∈ fs, 0 ≤ x.1) : (fs.map natF).map castF = fs := by
  rw [List.map_map]
  conv => rhs; rw [← List.map_id fs]
  refine List.map_congr_left (fun x hx => ?_)
  have := h x hx
  show ((x.1.toNat : Int), x.2) = x
  rw [Int.toNat_of_nonneg this]
theorem rest_s (s : Stm) (f : Fam) (a : Option Addr) (cap : Nat) (w : World) (hin : FdIn w a s.fs) (ho : s.ok) (hm : s.may f = true) (hz : f.2.2 ≤ 1000) :
    Calls Tryd.prog 19 #[s.val a cap, famV f] w fun e w' => e = .returned (.string (bs (s.rest f))) ∧ Below w.heap.size w w' := by
  obtain ⟨h1, h2, h3, h4, h5, h6, h7⟩ := may_facts hm
  have hc := cast_nat (fs := s.fs) (fun x hx => (h7 x hx).1)
  have h := rest_any s.loc s.fam s.src s.dst s.sp.toNat s.dp.toNat a cap (s.fs.map natF) f w (by rw [hc]; exact hin) (by omega) (by omega) (fun x hx => by
    obtain ⟨y, hy, rfl⟩ := List.mem_map.1 hx
    have := h7 y hy
    show y.1.toNat < 256 ∧ y.2.length < 65536
    omega) (by omega) (by omega) (by rw [List.length_map]; exact ho.hn)
  rw [Int.toNat_of_nonneg h1, Int.toNat_of_nonneg h3, List.length_map] at h
  exact h
theorem may_s (s : Stm) (f : Fam) (a : Option Addr) (cap : Nat) (w : World) (hin : FdIn w a s.fs) (ho : s.ok) :
    Calls Tryd.prog 41 #[s.val a cap, famV f] w fun e w' => e = .returned (.bool (s.may f)) ∧ Below w.heap.size w w' :=
  may_any s.loc s.fam s.src s.dst s.sp s.dp a cap s.fs f w hin ho.hn ho.hs ho.hd ho.ht
theorem findN (g : Nat) (hg : ∀ (args : Array Value) (W : World), (callFunc g args).run Tryd.prog W = .ok (.enter g args) W)
    (H : ∀ (S : Nat) (fam : Int) (f : Fam) (w : World), w.cell? ⟨S, 1, none⟩ = some (.int .i64 fam) → S < w.heap.size → Calls Tryd.prog g (#[famV f] ++ #[.pointer (some ⟨S, 0, none⟩)]) w fun e w' => e = .returned (.bool ((f.1 : Int) == fam)) ∧ Below w.heap.size w w')
    (S : Nat) (fam : Int) (w : World) (hf : FamAt w) (hS : w.cell? ⟨S, 1, none⟩ = some (.int .i64 fam)) :
    Calls Tryd.prog 17 #[.func (.func g) #[] #[.pointer (some ⟨S, 0, none⟩)]] w fun e w' => e = .returned (.tuple #[famV ((famN fam).getD (0, 0, 0)), .bool (famN fam).isSome]) ∧ Below w.heap.size w w' := by
  have hlt := World.block_lt_of_cell? w _ hS
  exact find_any g _ (fun f => (f.1 : Int) == fam) w hf hg (fun f _ W hW => H S fam f W (by rw [hW.cell (p := ⟨S, 1, none⟩) hlt]; exact hS) (Nat.lt_of_lt_of_le hlt hW.size))
set_option maxHeartbeats 4000000 in
theorem vcheck_any (s : Stm) (sl : Bool) (a : Option Addr) (cap : Nat) (w : World) (hf : FamAt w) (hin : FdIn w a s.fs) (ho : s.ok) :
    Calls Tryd.prog 15 #[s.val a cap, .bool sl] w fun e w' => e = .returned (.int .i64 (s.check sl : Nat)) ∧ Below w.heap.size w w' := by
  obtain ⟨r, hr⟩ : ∃ r, r = s.check sl := ⟨_, rfl⟩
  have HR := Lib.hid hr
  rw [← hr]
  obtain ⟨C, hC⟩ : ∃ C : Array Value, C = #[.bool s.loc, .int .i64 s.fam, .string (bs s.src), .string (bs s.dst), .int .i64 s.sp, .int .i64 s.dp, .slice a s.fs.length cap] := ⟨_, rfl⟩
  obtain ⟨W, hW⟩ : ∃ W, W = w.alloc (.cells C 24) := ⟨_, rfl⟩
  have hS : W.heap[w.heap.size]? = some (.cells C 24 (0, 0)) := by rw [hW]; exact alloc_new _ _
  have hBW : Below w.heap.size w W := by rw [hW]; exact (Below.refl _ _).alloc (Nat.le_refl _) _
  have c1 : W.cell? ⟨w.heap.size, 1, none⟩ = some (.int .i64 s.fam) := cellAt hS (by rw [hC]; rfl)
  have F := Lib.hid (findN 40 call40 is40 w.heap.size s.fam W (hf.below hf.pos hBW) c1)
  have HIN := Lib.hid hin
  have HO := Lib.hid ho
  have HB := Lib.hid hBW
  have HS := Lib.hid hS
  have HC := Lib.hid hC
  have hmf := fun (fn : Fn) (first cap : Array Value) (w : World) => make_run fn first cap w
  have HWs : Hid (W.heap.size = w.heap.size + 1) := by show _ = _; rw [hW]; simp
  rw [hC] at hW
  clear hr hS hBW c1 hf hin ho hC
  have HK : Hid (∀ V, Below W.heap.size W V → V.cell? ⟨w.heap.size, 0, none⟩ = some (.bool s.loc) ∧ V.cell? ⟨w.heap.size, 1, none⟩ = some (.int .i64 s.fam) ∧ V.cell? ⟨w.heap.size, 2, none⟩ = some (.string (bs s.src)) ∧ V.cell? ⟨w.heap.size, 3, none⟩ = some (.string (bs s.dst)) ∧ V.cell? ⟨w.heap.size, 4, none⟩ = some (.int .i64 s.sp) ∧ V.cell? ⟨w.heap.size, 5, none⟩ = some (.int .i64 s.dp) ∧ V.cell? ⟨w.heap.size, 6, none⟩ = some (.slice a s.fs.length cap)) := fun V hV => by
    have h := (hV.block _ (heap_lt HS.out)).trans HS.out
    rw [HC.out] at h
    exact ⟨cellAt h rfl, cellAt h rfl, cellAt h rfl, cellAt h rfl, cellAt h rfl, cellAt h rfl, cellAt h rfl⟩
  simp only [Stm.val]
  go_enter Tryd.func15, Tryd.ntmps15
  go_wp2_with (fail)
  rw [← hW]
  clear hW
  cases hfn : famN s.fam with
  | none =>
    rw [hfn] at F
    simp only [Option.getD_none, Option.isSome_none, famV] at F
    have hr1 : Hid (r = 1) := by show r = _; rw [HR.out]; unfold Stm.check; rw [hfn]
    clear hfn
    refine F.out.mono ?_
    rintro e w1 ⟨rfl, hb1⟩
    go_wp2_with (fail)
    go_ret
    exact ⟨by rw [hr1.out]; rfl, (HB.out.trans (hb1.mono (by have := HWs.out; omega))).alloc (Nat.le_trans HB.out.size hb1.size) _⟩
  | some f =>
    obtain ⟨fn, fc, fz⟩ := f
    have hz := (famN_small hfn).1
    rw [hfn] at F
    simp only [Option.getD_some, Option.isSome_some, famV] at F
    have hr1 : Hid (r = if s.may (fn, fc, fz) = false then 1 else if (s.rest (fn, fc, fz)).length + (if sl then 7 else 0) > 65535 then 4 else 0) := by show r = _; rw [HR.out]; unfold Stm.check; rw [hfn]
    clear hfn
    refine F.out.mono ?_
    rintro e w1 ⟨rfl, hb1⟩
    obtain ⟨V, hV⟩ : ∃ V, V = w1.alloc (.cells #[.int .i64 fn, .int .i64 fc, .int .i64 fz] 48) := ⟨_, rfl⟩
    have hbV : Below W.heap.size W V := by rw [hV]; exact hb1.alloc hb1.size _
    have hFb : V.heap[w1.heap.size]? = some (.cells #[.int .i64 fn, .int .i64 fc, .int .i64 fz] 48 (0, 0)) := by rw [hV]; exact alloc_new _ _
    have hbw : Below w.heap.size w V := HB.out.trans (hbV.mono (by have := HWs.out; omega))
    obtain ⟨k0, k1, k2, k3, k4, k5, k6⟩ := HK.out V hbV
    have f0 := cellAt (i := 0) (v := .int .i64 fn) hFb rfl
    have f1 := cellAt (i := 1) (v := .int .i64 fc) hFb rfl
    have f2 := cellAt (i := 2) (v := .int .i64 fz) hFb rfl
    have MC := may_s s (fn, fc, fz) a cap V (HIN.out.below hbw) HO.out
    simp only [Stm.val, famV] at MC
    have MC := Lib.hid MC
    have HBW2 := Lib.hid hbw
    have HBV := Lib.hid hbV
    have HFB := Lib.hid hFb
    go_upto_region 2 with (fail)
    rw [← hV]
    clear hV hbV hFb hbw hb1
    cases hm : s.may (fn, fc, fz) with
    | false =>
      rw [hm] at MC
      have hr2 : Hid (r = 1) := by show r = _; rw [hr1.out, if_pos hm]
      clear hm
      go_wp2_with (go_at_call 41; (with_reducible refine MC.out.mono ?_); rintro e w2 ⟨rfl, hb2⟩)
      go_ret
      exact ⟨by rw [hr2.out]; rfl, HBW2.out.trans (hb2.mono HBW2.out.size)⟩
    | true =>
      have RC : Hid (∀ V', Below V.heap.size V V' → Calls Tryd.prog 19 #[.agg #[.bool s.loc, .int .i64 s.fam, .string (bs s.src), .string (bs s.dst), .int .i64 s.sp, .int .i64 s.dp, .slice a s.fs.length cap], .agg #[.int .i64 fn, .int .i64 fc, .int .i64 fz]] V' fun e w' => e = .returned (.string (bs (s.rest (fn, fc, fz)))) ∧ Below V'.heap.size V' w') := fun V' hV' => by
        exact rest_s s (fn, fc, fz) a cap V' (HIN.out.below (HBW2.out.trans (hV'.mono HBW2.out.size))) HO.out hm hz
      have HKF : Hid (∀ V', Below V.heap.size V V' → V'.cell? ⟨w1.heap.size, 0, none⟩ = some (.int .i64 fn) ∧ V'.cell? ⟨w1.heap.size, 1, none⟩ = some (.int .i64 fc) ∧ V'.cell? ⟨w1.heap.size, 2, none⟩ = some (.int .i64 fz)) := fun V' hV' => by
        have h := (hV'.block _ (heap_lt HFB.out)).trans HFB.out
        exact ⟨cellAt h rfl, cellAt h rfl, cellAt h rfl⟩
      obtain ⟨l, hl⟩ : ∃ l, l = s.rest (fn, fc, fz) := ⟨_, rfl⟩
      rw [← hl] at RC
      have hls : (bs l).size = l.length := bs_size l
      have hl9 : l.length ≤ 1000000000000 := by
        obtain ⟨h1, h2, h3, h4, h5, h6, h7⟩ := may_facts hm
        rw [hl]
        unfold Stm.rest
        have h5 : s.src.length = fz := h5
        have h6 : s.dst.length = fz := h6
        have q1 := fdB_len (s.fs.map natF) (fun x hx => by
          obtain ⟨y, hy, rfl⟩ := List.mem_map.1 hx
          have := h7 y hy
          show y.2.length < 65536
          omega)
        rw [List.length_map] at q1
        have q2 := HO.out.hn
        have q3 : (headB fz s.src s.dst s.sp.toNat s.dp.toNat).length ≤ 3000 := by
          unfold headB; split
          · simp only [List.length_append, be_length]; omega
          · simp
        rw [List.length_append]
        show (headB fz s.src s.dst s.sp.toNat s.dp.toNat).length + _ ≤ _
        omega
      have hr2 : Hid (r = if l.length + (if sl then 7 else 0) > 65535 then 4 else 0) := by show r = _; rw [hr1.out, if_neg (by rw [hm]; simp), hl]
      rw [hm] at MC
      have hl8 : l.length ≤ 9223372036854775807 := by omega
      have hl7 : (l.length : Int) + 7 ≤ 9223372036854775807 := by omega
      have HL9 := Lib.hid hl9
      clear hm hl hl9
      go_wp2_with (first | (go_at_call 41; (with_reducible refine MC.out.mono ?_); rintro e w2 ⟨rfl, hb2⟩; obtain ⟨j0, j1, j2, j3, j4, j5, j6⟩ := HK.out w2 (HBV.out.trans (hb2.mono HBV.out.size)); obtain ⟨i0, i1, i2⟩ := HKF.out w2 hb2; have HB2 := Lib.hid hb2; clear hb2) | (fail; go_at_call 19; (with_reducible refine (RC.out _ HB2.out).mono ?_); rintro e w3 ⟨rfl, hb3⟩; have HB3 := Lib.hid hb3; clear hb3))
      refine (RC.out _ HB2.out).mono ?_
      rintro e w3 ⟨rfl, hb3⟩
      have HB3 : Hid (Below w.heap.size w w3) := HBW2.out.trans ((HB2.out.trans (hb3.mono HB2.out.size)).mono HBW2.out.size)
      clear hb3 i0 i1 i2 j0 j1 j2 j3 j4 j5 j6 k0 k1 k2 k3 k4 k5 k6 f0 f1 f2 hmf
      obtain ⟨n, hn⟩ : ∃ n, n = l.length := ⟨_, rfl⟩
      rw [← hn] at hls hl8 hl7 hr2
      clear hn HL9
      cases sl with
      | true =>
        by_cases hb : 65535 < n + 7
        · have hr3 : Hid (r = 4) := by show r = _; rw [hr2.out]; exact if_pos (by simpa using hb)
          have d1 : decide ((65535 : Int) < (n : Int) + 7) = true := decide_eq_true (by omega)
          go_wp2_with (fail)
          go_ret
          exact ⟨by rw [hr3.out]; rfl, HB3.out⟩
        · have hr3 : Hid (r = 0) := by show r = _; rw [hr2.out]; exact if_neg (by simpa using hb)
          have d1 : decide ((65535 : Int) < (n : Int) + 7) = false := decide_eq_false (by omega)
          go_wp2_with (fail)
          go_ret
          exact ⟨by rw [hr3.out]; rfl, HB3.out⟩
      | false =>
        by_cases hb : 65535 < n
        · have hr3 : Hid (r = 4) := by show r = _; rw [hr2.out]; exact if_pos (by simpa using hb)
          have d1 : decide ((65535 : Int) < (n : Int)) = true := decide_eq_true (by omega)
          have d2 : decide (65535 < n) = true := decide_eq_true hb
          go_wp2_with (fail)
          go_ret
          exact ⟨by rw [hr3.out]; rfl, HB3.out⟩
        · have hr3 : Hid (r = 0) := by show r = _; rw [hr2.out]; exact if_neg (by simpa using hb)
          have d1 : decide ((65535 : Int) < (n : Int)) = false := decide_eq_false (by omega)
          have d2 : decide (65535 < n) = false := decide_eq_false hb
          go_wp2_with (fail)
          go_ret
          exact ⟨by rw [hr3.out]; rfl, HB3.out⟩
end Go.Proofs.YtfagkmmenfeppaaDoor
