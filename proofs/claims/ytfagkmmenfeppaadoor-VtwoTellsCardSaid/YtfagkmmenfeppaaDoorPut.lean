import Derived.Test.YtfagkmmenfeppaaDoorCheck
import Derived.Test.YtfagkmmenfeppaaDoorFoll
import Derived.Test.YtfagkmmenfeppaaDoorGetA
import Derived.StillTailTactics
/- Put. -/
namespace Go.Proofs.YtfagkmmenfeppaaDoor
set_option maxRecDepth 100000
open Go.RowKit
def sealL : List UInt8 := [3, 0, 4, 0, 0, 0, 0]
def Stm.tail (s : Stm) (sl : Bool) (f : Fam) : List UInt8 := s.rest f ++ (if sl then sealL else [])
def Stm.cmd (s : Stm) : Nat := if s.loc then 32 else 33
def Stm.bytes (s : Stm) (sl : Bool) (f : Fam) : List UInt8 := signL ++ be s.cmd 1 ++ be f.2.1 1 ++ be (s.tail sl f).length 2 ++ s.tail sl f
def sealed (sl : Bool) (b : List UInt8) : List UInt8 := if sl then b.take (b.length - 4) ++ be (Crc.sum b).toNat 4 else b
def Stm.put (s : Stm) (sl : Bool) : Except Nat (List UInt8) :=
  if s.check sl = 0 then .ok (sealed sl (s.bytes sl ((famN s.fam).getD (0, 0, 0)))) else .error (s.check sl)
def PutPost (s : Stm) (sl : Bool) (w : World) (e : Ending) (w' : World) : Prop :=
  Below w.heap.size w w' ∧ ((∃ c : Nat, c ≠ 0 ∧ s.put sl = .error c ∧ e = .returned (.tuple #[.string ⟨#[]⟩, .int .i64 c])) ∨ (∃ l, s.put sl = .ok l ∧ e = .returned (.tuple #[.string (bs l), .int .i64 0])))
theorem IsW.apart0 {e x : Nat} {w : World} (h : IsW e [] w) (hx : x < w.heap.size) (hne : x ≠ e) : Apart e x w := by
  obtain ⟨p, v, _, h1, h2, h3, h4⟩ := h
  refine ⟨hx, hne, fun p' v' h' => ?_⟩
  rw [h1] at h'
  obtain ⟨rfl, rfl⟩ : p = p' ∧ v = v' := by simpa using h'
  rw [h4 rfl]; simp [Value.ownBlock]
theorem check_zero {s : Stm} {sl : Bool} (h : s.check sl = 0) : ∃ f, famN s.fam = some f ∧ s.may f = true ∧ (s.tail sl f).length ≤ 65535 := by
  unfold Stm.check at h
  cases hf : famN s.fam with
  | none => rw [hf] at h; simp at h
  | some f =>
    rw [hf] at h
    simp only at h
    cases hm : s.may f with
    | false => rw [hm, if_pos rfl] at h; omega
    | true =>
      rw [hm, if_neg (by simp)] at h
      by_cases hx : (s.rest f).length + (if sl then 7 else 0) > 65535
      · rw [if_pos hx] at h; omega
      · refine ⟨f, rfl, hm, ?_⟩
        unfold Stm.tail
        rw [List.length_append]
        cases sl with
        | false =>
          have : (s.rest f).length + 0 ≤ 65535 := by simpa using hx
          simpa using this
        | true =>
          have : (s.rest f).length + 7 ≤ 65535 := by simpa using hx
          have h7 : sealL.length = 7 := rfl
          rw [if_pos rfl, h7]; exact this
theorem famN_code {n : Int} {f : Fam} (h : famN n = some f) : f.2.1 < 256 := by
  have h1 := List.mem_of_find?_eq_some h
  simp [fams] at h1
  rcases h1 with rfl | rfl | rfl | rfl | rfl <;> decide
set_option maxHeartbeats 8000000 in
theorem put_any (s : Stm) (sl : Bool) (a : Option Addr) (cap : Nat) (w : World) (hf : FamAt w) (hin : FdIn w a s.fs) (ho : s.ok) :
    Calls Tryd.prog 11 #[s.val a cap, .bool sl] w (PutPost s sl w) := by
  obtain ⟨C, hC⟩ : ∃ C : Array Value, C = #[.bool s.loc, .int .i64 s.fam, .string (bs s.src), .string (bs s.dst), .int .i64 s.sp, .int .i64 s.dp, .slice a s.fs.length cap] := ⟨_, rfl⟩
  obtain ⟨W, hW⟩ : ∃ W, W = w.alloc (.cells C 24) := ⟨_, rfl⟩
  have hS : W.heap[w.heap.size]? = some (.cells C 24 (0, 0)) := by rw [hW]; exact alloc_new _ _
  have hBW : Below w.heap.size w W := by rw [hW]; exact (Below.refl _ _).alloc (Nat.le_refl _) _
  have CK := vcheck_any s sl a cap W (hf.below hf.pos hBW) (hin.below hBW) ho
  simp only [Stm.val] at CK
  have CK := Lib.hid CK
  have HFm := Lib.hid hf
  have HIN := Lib.hid hin
  have HO := Lib.hid ho
  have HB := Lib.hid hBW
  have HS := Lib.hid hS
  have HC := Lib.hid hC
  have hmf := fun (fn : Fn) (first cap : Array Value) (w : World) => make_run fn first cap w
  have HWs : Hid (W.heap.size = w.heap.size + 1) := by show _ = _; rw [hW]; simp
  have HK : Hid (∀ V, Below W.heap.size W V → V.cell? ⟨w.heap.size, 0, none⟩ = some (.bool s.loc) ∧ V.cell? ⟨w.heap.size, 1, none⟩ = some (.int .i64 s.fam) ∧ V.cell? ⟨w.heap.size, 2, none⟩ = some (.string (bs s.src)) ∧ V.cell? ⟨w.heap.size, 3, none⟩ = some (.string (bs s.dst)) ∧ V.cell? ⟨w.heap.size, 4, none⟩ = some (.int .i64 s.sp) ∧ V.cell? ⟨w.heap.size, 5, none⟩ = some (.int .i64 s.dp) ∧ V.cell? ⟨w.heap.size, 6, none⟩ = some (.slice a s.fs.length cap)) := fun V hV => by
    have h := (hV.block _ (heap_lt HS.out)).trans HS.out
    rw [HC.out] at h
    exact ⟨cellAt h rfl, cellAt h rfl, cellAt h rfl, cellAt h rfl, cellAt h rfl, cellAt h rfl, cellAt h rfl⟩
  rw [hC] at hW
  clear hS hBW hf hin ho hC
  obtain ⟨k0, k1, k2, k3, k4, k5, k6⟩ := HK.out W (Below.refl _ _)
  simp only [Stm.val]
  go_enter Tryd.func11, Tryd.ntmps11
  go_upto_region 1 with (fail)
  rw [← hW]
  clear hW
  by_cases hc : s.check sl = 0
  · obtain ⟨⟨fn, fc, fz⟩, hfn, hm, htl⟩ := check_zero hc
    have hz := (famN_small hfn).1
    have hfc0 : fc < 256 := famN_code hfn
    rw [hc] at CK
    have HP : Hid (s.put sl = .ok (sealed sl (s.bytes sl (fn, fc, fz)))) := by show Stm.put _ _ = _; unfold Stm.put; rw [if_pos hc, hfn]; rfl
    have F : Hid (∀ V, Below W.heap.size W V → Calls Tryd.prog 17 #[.func (.func 18) #[] #[.pointer (some ⟨w.heap.size, 0, none⟩)]] V fun e w' => e = .returned (.tuple #[.agg #[.int .i64 fn, .int .i64 fc, .int .i64 fz], .bool true]) ∧ Below V.heap.size V w') := fun V hV => by
      have h := findN 18 call18 is18 w.heap.size s.fam V ((HFm.out.below HFm.out.pos HB.out).below (by have := HWs.out; omega) hV) (HK.out V hV).2.1
      rw [hfn] at h; exact h
    clear hfn hc
    go_wp2_with (first | (go_at_call 15; (with_reducible refine CK.out.mono ?_); rintro e w1 ⟨rfl, hb1⟩; have HB1 := Lib.hid hb1; clear hb1) | (go_at_call 17; (with_reducible refine (F.out _ HB1.out).mono ?_); rintro e w2 ⟨rfl, hb2⟩; have hb2s := hb2.size; have hb3 := (HB1.out.trans (hb2.mono HB1.out.size)).alloc (Nat.le_trans HB1.out.size hb2.size) (.cells #[.int .i64 fn, .int .i64 fc, .int .i64 fz] 48); obtain ⟨j0, j1, j2, j3, j4, j5, j6⟩ := HK.out _ hb3; have HB3 := Lib.hid hb3; clear hb2 hb3))
    have HFB : Hid ((w2.alloc (.cells #[.int .i64 fn, .int .i64 fc, .int .i64 fz] 48)).heap[w2.heap.size]? = some (.cells #[.int .i64 fn, .int .i64 fc, .int .i64 fz] 48 (0, 0))) := alloc_new _ _
    obtain ⟨g, hg⟩ : ∃ g, g = w2.heap.size := ⟨_, rfl⟩
    rw [← hg] at HFB ⊢
    have hgS : w.heap.size < g := by have := HWs.out; have h1 := HB3.out.size; rw [World.size_alloc] at h1; have h2 := HB1.out.size; omega
    have hgV : (w2.alloc (.cells #[.int .i64 fn, .int .i64 fc, .int .i64 fz] 48)).heap.size = g + 1 := by rw [World.size_alloc, hg]
    generalize w2.alloc (.cells #[.int .i64 fn, .int .i64 fc, .int .i64 fz] 48) = V at *
    have hbwV : Below w.heap.size w V := HB.out.trans (HB3.out.mono (by have := HWs.out; omega))
    have RC := rest_s s (fn, fc, fz) a cap V (HIN.out.below hbwV) HO.out hm hz
    simp only [Stm.val, famV] at RC
    obtain ⟨l, hl⟩ : ∃ l, l = s.rest (fn, fc, fz) := ⟨_, rfl⟩
    obtain ⟨tl, htle⟩ : ∃ t, t = s.tail sl (fn, fc, fz) := ⟨_, rfl⟩
    have htl2 : tl = l ++ (if sl then sealL else []) := by rw [htle, hl]; rfl
    rw [← htle] at htl
    have HBY : Hid (s.bytes sl (fn, fc, fz) = signL ++ be s.cmd 1 ++ be fc 1 ++ be tl.length 2 ++ tl) := by show _ = _; rw [htle]; rfl
    rw [← hl] at RC
    have RC := Lib.hid RC
    have HTL2 := Lib.hid htl2
    have HBV := Lib.hid hbwV
    clear hl htle htl2 hm hbwV j0 j1 j2 j3 j4 j5 j6 k0 k1 k2 k3 k4 k5 k6 hg F CK
    have hll : l.length ≤ 65535 := by have := HTL2.out; rw [this, List.length_append] at htl; omega
    refine RC.out.mono ?_
    rintro e w3 ⟨rfl, hb3⟩
    have hS3 := (HB3.out.trans (hb3.mono HB3.out.size)).block w.heap.size (heap_lt HS.out)
    have hS3 : w3.heap[w.heap.size]? = some (.cells C 24 (0, 0)) := hS3.trans HS.out
    have hF3 := (hb3.block g (heap_lt HFB.out)).trans HFB.out
    have hB3 : Below w.heap.size w w3 := HBV.out.trans (hb3.mono HBV.out.size)
    obtain ⟨b, hbe⟩ : ∃ b, b = w3.heap.size := ⟨_, rfl⟩
    have hgb : g < b := by have := hb3.size; omega
    obtain ⟨W4, hW4⟩ : ∃ x, x = w3.alloc (.cells #[.pointer none, .slice none 0 0] 57) := ⟨_, rfl⟩
    have st : WSt b w.heap.size g W4 C #[.int .i64 fn, .int .i64 fc, .int .i64 fz] [] W4 := by
      refine ⟨by rw [hW4]; exact IsW.fresh _ hbe.symm, ?_, ?_, by rw [hW4]; exact fresh_apart _ hbe.symm (by omega), by rw [hW4]; exact fresh_apart _ hbe.symm hgb, Keeps.refl _ _⟩
      · rw [hW4, Below.heap_alloc _ _ _ (by omega)]; exact hS3
      · rw [hW4, Below.heap_alloc _ _ _ (by omega)]; exact hF3
    have hap : Hid (∀ x, x < w.heap.size → Apart b x W4) := fun x hx => by
      rw [hW4]; exact fresh_apart _ hbe.symm (by omega)
    have hBW4 : Hid (Below w.heap.size w W4) := by
      show Below _ _ _
      rw [hW4]; exact hB3.alloc hB3.size _
    have hW4s : Hid (W4.heap.size = b + 1) := by show _ = _; rw [hW4, World.size_alloc, hbe]
    have ST := Lib.hid st
    have T1 : Hid (Calls Tryd.prog 20 #[.pointer (some ⟨b, 0, none⟩), .string ⟨#[13, 10, 13, 10, 0, 13, 10, 81, 85, 73, 84, 10]⟩] W4 fun e w' => e = .returned (.tuple #[]) ∧ IsW b signL w' ∧ Keeps b W4 w') := text_k b [] _ W4 st.wr (by simp) (by decide)
    clear hS3 hF3 hB3 st hb3 RC
    have HW4 := Lib.hid hW4
    have HBE := Lib.hid hbe
    have hq : Hid (∀ acc W', WSt b w.heap.size g W4 C #[.int .i64 fn, .int .i64 fc, .int .i64 fz] acc W' → W'.cell? ⟨w.heap.size, 0, none⟩ = some (.bool s.loc) ∧ W'.cell? ⟨g, 1, none⟩ = some (.int .i64 fc)) := fun acc W' h => ⟨cellAt h.hS (by rw [HC.out]; rfl), cellAt h.hF rfl⟩
    have htls : (bs tl).size = tl.length := bs_size tl
    have hfc : fc < 256 := hfc0
    cases sl with
    | true =>
      have hcat : bs l ++ ⟨#[3, 0, 4, 0, 0, 0, 0]⟩ = bs tl := by rw [HTL2.out, ← bs_append]; rfl
      have hov : ¬ 9223372036854775807 < (bs l).size + 7 := by rw [bs_size]; omega
      go_wp2_with (fail)
      rw [← hW4, ← hbe]
      clear hW4 hbe
      refine T1.out.mono ?_
      rintro e w5 ⟨rfl, hw, hk⟩
      have st5 := ST.out.step hw hk
      obtain ⟨q0, q1⟩ := hq.out _ _ st5
      have ST5 := Lib.hid st5
      clear st5 hw hk
      go_upto_if 33 with (fail)
      go_cut [11] (fun s11 wx => s11 = .int .i64 (s.cmd : Nat) ∧ wx = w5)
      case first =>
        have hcm : Hid (s.cmd = if s.loc then 32 else 33) := rfl
        generalize s.loc = lc at *
        cases lc with
        | true =>
          go_wp2_with (fail)
          go_meet
          exact ⟨by rw [hcm.out]; rfl, rfl⟩
        | false =>
          go_wp2_with (fail)
          go_meet
          exact ⟨by rw [hcm.out]; rfl, rfl⟩
      case rest =>
        obtain ⟨rfl, rfl⟩ := hcut
        obtain ⟨cm, hcm⟩ : ∃ x, x = s.cmd := ⟨_, rfl⟩
        have hcm2 : cm < 256 := by rw [hcm]; unfold Stm.cmd; split <;> omega
        rw [← hcm] at HBY ⊢
        obtain ⟨tn, htn⟩ : ∃ x, x = tl.length := ⟨_, rfl⟩
        have htn2 : tn < 65536 := by omega
        rw [← htn] at HBY htls
        have HTN := Lib.hid htn
        have hacc : Hid (signL ++ be cm 1 ++ be fc 1 ++ be tn 2 ++ (bs tl).data.toList = s.bytes true (fn, fc, fz)) := by show _ = _; rw [HBY.out]; rfl
        clear hcm htn hcat hov
        go_wp2_with (first | (go_at_call 21; (with_reducible refine (w8_k b cm _ _ hcm2 ST5.out.wr ?_).mono ?_); (focus (simp [signL])); rintro e w6 ⟨rfl, hw, hk⟩; have st6 := ST5.out.step hw hk; obtain ⟨r0, r1⟩ := hq.out _ _ st6; have ST6 := Lib.hid st6; clear st6 hw hk ST5) | (go_at_call 21; (with_reducible refine (w8_k b fc _ _ hfc ST6.out.wr ?_).mono ?_); (focus (simp only [List.length_append, be_length]; simp [signL])); rintro e w7 ⟨rfl, hw, hk⟩; have ST7 := Lib.hid (ST6.out.step hw hk); clear hw hk ST6) | (go_at_call 22; (with_reducible refine (w16_k b tn _ _ htn2 ST7.out.wr ?_).mono ?_); (focus (simp only [List.length_append, be_length]; simp [signL])); rintro e w8 ⟨rfl, hw, hk⟩; have ST8 := Lib.hid (ST7.out.step hw hk); clear hw hk ST7) | (go_at_call 20; (with_reducible refine (text_k b _ (bs tl) _ ST8.out.wr ?_ ?_).mono ?_); (focus (simp only [List.length_append, be_length]; simp [signL])); (focus (rw [htls]; omega)); rintro e w9 ⟨rfl, hw, hk⟩; have st9 := ST8.out.step hw hk; rw [hacc.out] at st9; have ST9 := Lib.hid st9; clear st9 hw hk ST8))
        obtain ⟨B, hBe⟩ : ∃ B, B = s.bytes true (fn, fc, fz) := ⟨_, rfl⟩
        have hBl : B.length = tn + 16 := by rw [hBe, HBY.out]; simp only [List.length_append, be_length]; rw [HTN.out]; simp [signL]; omega
        rw [← hBe] at ST9
        have HBe := Lib.hid hBe
        have C10 := Lib.hid (string_k b B _ ST9.out.wr)
        clear hBe
        refine C10.out.mono ?_
        rintro e w10 ⟨rfl, hk10⟩
        have hbel10 : Hid (Below w.heap.size w w10) := hBW4.out.trans ((ST9.out.kp.trans hk10).below hap.out)
        obtain ⟨q, hqe⟩ : ∃ q, q = w10.heap.size := ⟨_, rfl⟩
        have hwq : w.heap.size ≤ q := by rw [hqe]; exact hbel10.out.size
        obtain ⟨W12, hW12⟩ : ∃ x, x = (w10.alloc (.cells #[.pointer none, .slice none 0 0] 57)).alloc (.cells #[.string (bs B)] 9) := ⟨_, rfl⟩
        have i12 : IsW q [] W12 := by rw [hW12]; exact (IsW.fresh w10 hqe.symm).keep ((Below.refl _ _).alloc (Nat.le_refl _) _)
        have h12 : W12.heap[q + 1]? = some (.cells #[.string (bs B)] 9 (0, 0)) := by
          have := alloc_new (w10.alloc (.cells #[.pointer none, .slice none 0 0] 57)) (.cells #[.string (bs B)] 9)
          rw [hW12, hqe]; simpa using this
        have b12 : Below q w10 W12 := by rw [hW12, hqe]; exact ((Below.refl _ _).alloc (Nat.le_refl _) _).alloc (by simp) _
        have CS := Lib.hid (csum1 (bs B) W12 (q + 1) 1 h12 (by rw [bs_size]; omega))
        rw [bs_list] at CS
        obtain ⟨cv, hcv⟩ : ∃ x, x = (Crc.sum B).toNat := ⟨_, rfl⟩
        have hcv2 : cv < 4294967296 := by rw [hcv]; exact (Crc.sum B).isLt
        rw [← hcv] at CS
        have HCV := Lib.hid hcv
        have I12 := Lib.hid i12
        have B12 := Lib.hid b12
        clear hcv i12 h12 b12 C10
        go_wp2_with (fail)
        rw [show w10.heap.size + 1 = q + 1 from by rw [hqe], ← hW12]
        clear hW12
        subst hqe
        refine CS.out.mono ?_
        rintro e w13 ⟨rfl, hb13⟩
        have I13 : Hid (IsW w10.heap.size [] w13) := I12.out.keep hb13
        have B13 : Hid (Below w10.heap.size w10 w13) := B12.out.trans (hb13.mono (by have := I12.out.lt; omega))
        go_wp2_with (go_at_call 24; (with_reducible refine (w32_k _ cv _ _ hcv2 I13.out ?_).mono ?_); (focus (simp)); rintro e w14 ⟨rfl, hw, hk⟩; have I14 := Lib.hid hw; have K14 := Lib.hid hk; clear hw hk)
        obtain ⟨N, hN⟩ : ∃ N : Nat, N = tn + 16 := ⟨_, rfl⟩
        have hn1 : (bs B).size = N := by rw [bs_size, hBl, hN]
        obtain ⟨m, hm⟩ : ∃ m : Nat, m = tn + 12 := ⟨_, rfl⟩
        have hn2 : IntKind.i64.wrap ((N : Int) - 4) = (m : Int) := by rw [IntWalk.i64_in _ (by omega)]; omega
        have hn3 : (0 : Int) ≤ (m : Int) := by omega
        have hn4 : (m : Int) ≤ (N : Int) := by omega
        have hn6 : m ≤ N := by omega
        have hn7 : (m : Int).toNat = m := by omega
        have hEx : (bs B).extract 0 m = bs (B.take m) := by rw [bs_extract]; simp
        obtain ⟨z, hz4⟩ : ∃ z, z = bs (be cv 4) := ⟨_, rfl⟩
        have S15 : Hid (Calls Tryd.prog 23 #[.pointer (some ⟨w10.heap.size, 0, none⟩)] w14.drew fun e w' => e = .returned (.string z) ∧ Keeps w10.heap.size w14.drew w') := by
          rw [hz4]; exact string_k _ _ _ I14.out.drew
        obtain ⟨y, hy⟩ : ∃ y, y = bs (B.take m) := ⟨_, rfl⟩
        have hn10 : ¬ 9223372036854775807 < y.size + z.size := by
          rw [hy, hz4, bs_size, bs_size, be_length, List.length_take]; omega
        rw [← hy] at hEx
        have HZ4 := Lib.hid hz4
        have HY := Lib.hid hy
        have HEx := Lib.hid hEx
        clear hz4 hy hEx
        have HN := Lib.hid hN
        have HM := Lib.hid hm
        clear hN hm
        go_region_held3 (fun _ => True) (exact trivial) ((go_simp; go_at_call 23; (with_reducible refine S15.out.mono ?_); rintro e w15 ⟨rfl, hk15⟩; rw [HEx.out]))
        simp only [Exit.then]
        go_wp2_with (fail)
        go_ret2
        refine ⟨hbel10.out.trans ((B13.out.mono hwq).trans (Keeps.below (w' := w15) (K14.out.trans (show Keeps w10.heap.size w14 w15 from ⟨hk15.os, hk15.tape, hk15.output, hk15.size, hk15.block⟩)) fun x hx => I13.out.apart0 (by have := B13.out.size; omega) (by omega))), .inr ⟨_, HP.out, ?_⟩⟩
        have hfin : y ++ z = bs (sealed true (s.bytes true (fn, fc, fz))) := by
          rw [HY.out, HZ4.out, bs_append]
          unfold sealed
          rw [if_pos rfl, ← HBe.out, ← HCV.out, hBl, show tn + 16 - 4 = m from by rw [HM.out]; omega]
        rw [← hfin]
        rfl
    | false =>
      obtain rfl : tl = l := by have := HTL2.out; simpa using this
      go_wp2_with (fail)
      rw [← hW4, ← hbe]
      clear hW4 hbe
      refine T1.out.mono ?_
      rintro e w5 ⟨rfl, hw, hk⟩
      have st5 := ST.out.step hw hk
      obtain ⟨q0, q1⟩ := hq.out _ _ st5
      have ST5 := Lib.hid st5
      clear st5 hw hk
      go_upto_if 33 with (fail)
      go_cut [11] (fun s11 wx => s11 = .int .i64 (s.cmd : Nat) ∧ wx = w5)
      case first =>
        have hcm : Hid (s.cmd = if s.loc then 32 else 33) := rfl
        generalize s.loc = lc at *
        cases lc with
        | true =>
          go_wp2_with (fail)
          go_meet
          exact ⟨by rw [hcm.out]; rfl, rfl⟩
        | false =>
          go_wp2_with (fail)
          go_meet
          exact ⟨by rw [hcm.out]; rfl, rfl⟩
      case rest =>
        obtain ⟨rfl, rfl⟩ := hcut
        obtain ⟨cm, hcm⟩ : ∃ x, x = s.cmd := ⟨_, rfl⟩
        have hcm2 : cm < 256 := by rw [hcm]; unfold Stm.cmd; split <;> omega
        rw [← hcm] at HBY ⊢
        obtain ⟨tn, htn⟩ : ∃ x, x = tl.length := ⟨_, rfl⟩
        have htn2 : tn < 65536 := by omega
        rw [← htn] at HBY htls
        have HTN := Lib.hid htn
        have hacc : Hid (signL ++ be cm 1 ++ be fc 1 ++ be tn 2 ++ (bs tl).data.toList = s.bytes false (fn, fc, fz)) := by show _ = _; rw [HBY.out]; rfl
        clear hcm htn
        go_wp2_with (first | (go_at_call 21; (with_reducible refine (w8_k b cm _ _ hcm2 ST5.out.wr ?_).mono ?_); (focus (simp [signL])); rintro e w6 ⟨rfl, hw, hk⟩; have st6 := ST5.out.step hw hk; obtain ⟨r0, r1⟩ := hq.out _ _ st6; have ST6 := Lib.hid st6; clear st6 hw hk ST5) | (go_at_call 21; (with_reducible refine (w8_k b fc _ _ hfc ST6.out.wr ?_).mono ?_); (focus (simp only [List.length_append, be_length]; simp [signL])); rintro e w7 ⟨rfl, hw, hk⟩; have ST7 := Lib.hid (ST6.out.step hw hk); clear hw hk ST6) | (go_at_call 22; (with_reducible refine (w16_k b tn _ _ htn2 ST7.out.wr ?_).mono ?_); (focus (simp only [List.length_append, be_length]; simp [signL])); rintro e w8 ⟨rfl, hw, hk⟩; have ST8 := Lib.hid (ST7.out.step hw hk); clear hw hk ST7) | (go_at_call 20; (with_reducible refine (text_k b _ (bs tl) _ ST8.out.wr ?_ ?_).mono ?_); (focus (simp only [List.length_append, be_length]; simp [signL])); (focus (rw [htls]; omega)); rintro e w9 ⟨rfl, hw, hk⟩; have st9 := ST8.out.step hw hk; rw [hacc.out] at st9; have ST9 := Lib.hid st9; clear st9 hw hk ST8) | (go_at_call 23; (with_reducible refine (string_k b _ _ ST9.out.wr).mono ?_); rintro e w10 ⟨rfl, hk10⟩))
        go_ret2
        exact ⟨hBW4.out.trans ((ST9.out.kp.trans hk10).below hap.out), .inr ⟨_, HP.out, rfl⟩⟩
  · have HP : Hid (s.put sl = .error (s.check sl)) := by show Stm.put _ _ = _; unfold Stm.put; rw [if_neg hc]
    obtain ⟨c, hce⟩ : ∃ c, c = s.check sl := ⟨_, rfl⟩
    rw [← hce] at HP hc CK
    have hc1 : ((c : Int) != 0) = true := by rw [bne_iff_ne]; omega
    have HCN := Lib.hid hc
    clear hce hc
    go_wp2_with (go_at_call 15; (with_reducible refine CK.out.mono ?_); rintro e w1 ⟨rfl, hb1⟩)
    go_ret2
    exact ⟨HB.out.trans (hb1.mono (by have := HWs.out; omega)), .inl ⟨c, HCN.out, HP.out, rfl⟩⟩
end Go.Proofs.YtfagkmmenfeppaaDoor
