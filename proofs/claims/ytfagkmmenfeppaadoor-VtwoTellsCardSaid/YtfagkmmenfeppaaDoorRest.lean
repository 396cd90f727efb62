import Derived.Test.YtfagkmmenfeppaaDoorFields
import Derived.Test.YtfagkmmenfeppaaDoorWri
import Derived.Test.YtfagkmmenfeppaaDoorFind
import Derived.Deep.DeepCutAuto
/- rest: what follows, but for a seal. -/
namespace Go.Proofs.YtfagkmmenfeppaaDoor
set_option maxRecDepth 100000
open Go.RowKit
/-- a field that came in -/
abbrev Fi := Int × List UInt8
def FdIn (w : World) (a : Option Addr) (fs : List Fi) : Prop :=
  ∀ j (hj : j < fs.length), ∃ x, a = some x ∧ w.cell? (x.add (j * 2)) = some (.int .i64 fs[j].1) ∧ w.cell? { block := (x.add (j * 2)).block, off := (x.add (j * 2)).off + 1 } = some (.string (bs fs[j].2))
def castF (f : Fd) : Fi := ((f.1 : Int), f.2)
theorem FdIn.below {w w' : World} {a : Option Addr} {fs : List Fi} (h : FdIn w a fs) (hb : Below w.heap.size w w') : FdIn w' a fs := fun j hj => by
  obtain ⟨x, h1, h2, h3⟩ := h j hj
  exact ⟨x, h1, (hb.cell (World.block_lt_of_cell? w _ h2)).trans h2, (hb.cell (World.block_lt_of_cell? w _ h3)).trans h3⟩
def fdB (fs : List Fd) : List UInt8 := fs.flatMap fun f => be f.1 1 ++ be f.2.length 2 ++ f.2
theorem fdB_take (fs : List Fd) (k : Nat) (h : k < fs.length) : fdB (fs.take (k + 1)) = fdB (fs.take k) ++ be fs[k].1 1 ++ be fs[k].2.length 2 ++ fs[k].2 := by
  unfold fdB
  rw [List.take_succ_eq_append_getElem h, List.flatMap_append]
  simp [List.append_assoc]
theorem fdB_len : ∀ (fs : List Fd), (∀ x ∈ fs, x.2.length < 65536) → (fdB fs).length ≤ fs.length * 65540
  | [], _ => by simp [fdB]
  | f :: fs, h => by
    have h1 := fdB_len fs (fun x hx => h x (List.mem_cons_of_mem _ hx))
    have h2 := h f (List.mem_cons_self)
    unfold fdB at h1 ⊢
    rw [List.flatMap_cons, List.length_append]
    simp only [List.length_append, be_length, List.length_cons]
    omega
def headB (z : Nat) (src dst : List UInt8) (sp dp : Nat) : List UInt8 := if 0 < z then src ++ dst ++ be sp 2 ++ be dp 2 else []
structure WSt (b S F : Nat) (w0 : World) (C D : Array Value) (acc : List UInt8) (w : World) : Prop where
  wr : IsW b acc w
  hS : w.heap[S]? = some (.cells C 24 (0, 0))
  hF : w.heap[F]? = some (.cells D 48 (0, 0))
  aS : Apart b S w
  aF : Apart b F w
  kp : Keeps b w0 w
theorem WSt.step {b S F : Nat} {w0 w w' : World} {C D : Array Value} {acc acc' : List UInt8} (h : WSt b S F w0 C D acc w) (hw : IsW b acc' w') (hk : Keeps b w w') : WSt b S F w0 C D acc' w' := by
  obtain ⟨s1, s2⟩ := hk.block S h.aS
  obtain ⟨f1, f2⟩ := hk.block F h.aF
  exact ⟨hw, s1.trans h.hS, f1.trans h.hF, s2, f2, h.kp.trans hk⟩
theorem WSt.alloc {b S F : Nat} {w0 w : World} {C D : Array Value} {acc : List UInt8} (h : WSt b S F w0 C D acc w) (o : Obj) : WSt b S F w0 C D acc (w.alloc o) :=
  h.step (h.wr.keep ((Below.refl _ _).alloc (Nat.le_refl _) _)) (Keeps.of_below ((Below.refl _ _).alloc (Nat.le_refl _) _) h.wr.lt)
set_option maxHeartbeats 8000000 in
theorem rest_any (loc : Bool) (fam : Int) (src dst : List UInt8) (sp dp : Nat) (a : Option Addr) (cap : Nat) (fs : List Fd) (f : Fam) (w : World) (hin : FdIn w a (fs.map castF)) (hsp : sp < 65536) (hdp : dp < 65536)
    (hfs : ∀ x ∈ fs, x.1 < 256 ∧ x.2.length < 65536) (hsrc : src.length ≤ 1000) (hdst : dst.length ≤ 1000) (hn : fs.length ≤ 1000000) :
    Calls Tryd.prog 19 #[.agg #[.bool loc, .int .i64 fam, .string (bs src), .string (bs dst), .int .i64 sp, .int .i64 dp, .slice a fs.length cap], famV f] w fun e w' => e = .returned (.string (bs (headB f.2.2 src dst sp dp ++ fdB fs))) ∧ Below w.heap.size w w' := by
  obtain ⟨fn, fc, z⟩ := f
  have HIN := Lib.hid hin
  have HFS := Lib.hid hfs
  obtain ⟨C, hC⟩ : ∃ C : Array Value, C = #[.bool loc, .int .i64 fam, .string (bs src), .string (bs dst), .int .i64 sp, .int .i64 dp, .slice a fs.length cap] := ⟨_, rfl⟩
  obtain ⟨D, hD⟩ : ∃ D : Array Value, D = #[.int .i64 fn, .int .i64 fc, .int .i64 z] := ⟨_, rfl⟩
  obtain ⟨W, hW⟩ : ∃ W, W = ((w.alloc (.cells C 24)).alloc (.cells D 48)).alloc (.cells #[.pointer none, .slice none 0 0] 57) := ⟨_, rfl⟩
  have st : WSt (w.heap.size + 2) w.heap.size (w.heap.size + 1) W C D [] W := by
    have e2 : ((w.alloc (.cells C 24)).alloc (.cells D 48)).heap.size = w.heap.size + 2 := by simp
    refine ⟨by rw [hW]; exact IsW.fresh _ e2, ?_, ?_, by rw [hW]; exact fresh_apart _ e2 (by omega), by rw [hW]; exact fresh_apart _ e2 (by omega), Keeps.refl _ _⟩
    · rw [hW, Below.heap_alloc _ _ _ (by simp; omega), Below.heap_alloc _ _ _ (by simp)]; exact alloc_new _ _
    · rw [hW, Below.heap_alloc _ _ _ (by simp)]
      have := alloc_new (w.alloc (.cells C 24)) (.cells D 48)
      simpa using this
  have hap : Hid (∀ x, x < w.heap.size → Apart (w.heap.size + 2) x W) := fun x hx => by
    rw [hW]; exact fresh_apart _ (by simp) (by omega)
  have hBW : Hid (Below w.heap.size w W) := by
    show Below _ _ _
    rw [hW]; exact (((Below.refl _ _).alloc (Nat.le_refl _) _).alloc (by simp) _).alloc (by simp; omega) _
  have HC := Lib.hid hC
  have HD := Lib.hid hD
  rw [hC, hD] at hW
  have ST := Lib.hid st
  clear hin hfs st hC hD
  simp only [famV]
  go_enter Tryd.func19, Tryd.ntmps19
  go_upto_if 10 with (fail)
  rw [← hW]
  have HW := Lib.hid hW
  clear hW
  go_cut [] (fun wx => Hid (WSt (w.heap.size + 2) w.heap.size (w.heap.size + 1) W C D (headB z src dst sp dp) wx))
  case first =>
    by_cases hz : 0 < z
    · have hz1 : (z : Int) > 0 := by omega
      have q1 : ¬ 9223372036854775807 < (bs src).size + (bs dst).size := by rw [bs_size, bs_size]; omega
      have hh : Hid (headB z src dst sp dp = src ++ dst ++ be sp 2 ++ be dp 2) := if_pos hz
      have c2 : W.cell? ⟨w.heap.size, 2, none⟩ = some (.string (bs src)) := cellAt ST.out.hS (by rw [HC.out]; rfl)
      have c3 : W.cell? ⟨w.heap.size, 3, none⟩ = some (.string (bs dst)) := cellAt ST.out.hS (by rw [HC.out]; rfl)
      have HK : Hid (∀ acc W', WSt (w.heap.size + 2) w.heap.size (w.heap.size + 1) W C D acc W' → W'.cell? ⟨w.heap.size, 4, none⟩ = some (.int .i64 sp) ∧ W'.cell? ⟨w.heap.size, 5, none⟩ = some (.int .i64 dp)) := fun acc W' h =>
        ⟨cellAt h.hS (by rw [HC.out]; rfl), cellAt h.hS (by rw [HC.out]; rfl)⟩
      have T1 := Lib.hid (text_k (w.heap.size + 2) [] (bs src ++ bs dst) W ST.out.wr (by simp) (by rw [bs_append, bs_size, List.length_append]; omega))
      have l1 : ([] ++ (bs src ++ bs dst).data.toList) = src ++ dst := by rw [bs_append]; rfl
      rw [l1] at T1
      clear l1
      go_wp2_with (first | (go_at_call 20; (with_reducible refine T1.out.mono ?_); rintro e w1 ⟨rfl, hw, hk⟩; have st1 := ST.out.step hw hk; obtain ⟨k4, k5⟩ := HK.out _ _ st1; have ST1 := Lib.hid st1; clear st1 hw hk) | (go_at_call 22; (with_reducible refine (w16_k (w.heap.size + 2) sp _ _ hsp ST1.out.wr ?_).mono ?_); (focus (rw [List.length_append]; omega)); rintro e w2 ⟨rfl, hw, hk⟩; have st2 := ST1.out.step hw hk; obtain ⟨j4, j5⟩ := HK.out _ _ st2; have ST2 := Lib.hid st2; clear st2 hw hk ST1) | (go_at_call 22; (with_reducible refine (w16_k (w.heap.size + 2) dp _ _ hdp ST2.out.wr ?_).mono ?_); (focus (simp only [List.length_append, be_length]; omega)); rintro e w3 ⟨rfl, hw, hk⟩; have ST3 := Lib.hid (ST2.out.step hw hk); clear hw hk ST2))
      go_meet
      show WSt _ _ _ _ _ _ _ _
      rw [hh.out]; exact ST3.out
    · obtain rfl : z = 0 := by omega
      go_wp2_with (fail)
      go_meet
      exact ST.out
  case rest =>
    have ST2 := hcut
    clear hcut
    obtain ⟨hb, hhb⟩ : ∃ x, x = headB z src dst sp dp := ⟨_, rfl⟩
    have hhl : hb.length ≤ 3000 := by
      rw [hhb]; unfold headB; split
      · simp only [List.length_append, be_length]; omega
      · simp
    rw [← hhb] at ST2
    have HH := Lib.hid hhb
    have c6 : wc.cell? ⟨w.heap.size, 6, none⟩ = some (.slice a fs.length cap) := cellAt ST2.out.hS (by rw [HC.out]; rfl)
    have hn9 : fs.length ≤ 9223372036854775807 := by omega
    clear hhb
    go_wp2_with (fail)
    go_loopw [7, 26] (fun _ i wr => ∃ k : Nat, k ≤ fs.length ∧ i = .int .i64 k ∧ Hid (WSt (w.heap.size + 2) w.heap.size (w.heap.size + 1) W C D (hb ++ fdB (fs.take k)) wr)) (fun _ i _ => fs.length - (intOf i).toNat)
    case atStart => exact ⟨0, by omega, rfl, by rw [List.take_zero]; show Hid (WSt _ _ _ _ _ _ (hb ++ []) _); rw [List.append_nil]; exact ST2⟩
    case round =>
      obtain ⟨k, hk, rfl, st⟩ := hrel
      by_cases hlt : k < fs.length
      · have hbel := st.out.kp.below hap.out
        obtain ⟨x, rfl, d0, d1⟩ := (HIN.out.below (hBW.out.mono (Nat.le_refl _) |>.trans hbel)) k (by simpa using hlt)
        obtain ⟨ty, hty⟩ : ∃ t, t = fs[k].1 := ⟨_, rfl⟩
        obtain ⟨tx, htx⟩ : ∃ t, t = fs[k].2 := ⟨_, rfl⟩
        obtain ⟨b1, b2⟩ := HFS.out fs[k] (List.getElem_mem _)
        rw [← hty] at b1
        rw [← htx] at b2
        have e0 : wr.cell? (x.add (k * 2)) = some (.int .i64 (ty : Int)) := by rw [d0]; simp [castF, hty]
        have e1 : wr.cell? { block := (x.add (k * 2)).block, off := (x.add (k * 2)).off + 1 } = some (.string (bs tx)) := by rw [d1]; simp [castF, htx]
        obtain ⟨m, hm⟩ : ∃ m, m = tx.length := ⟨_, rfl⟩
        have hbs : (bs tx).size = m := by rw [bs_size, hm]
        have hm2 : m < 65536 := by omega
        have hacc : Hid (hb ++ fdB (fs.take (k + 1)) = hb ++ fdB (fs.take k) ++ be ty 1 ++ be m 2 ++ (bs tx).data.toList) := by
          show _ = _
          rw [fdB_take fs k hlt, ← hty, ← htx, ← hm, bs_list]
          simp [List.append_assoc]
        have hal : (hb ++ fdB (fs.take k)).length ≤ 800000000000 := by
          have h1 := fdB_len (fs.take k) (fun x hx => (HFS.out x (List.mem_of_mem_take hx)).2)
          have h2 : (fs.take k).length ≤ 1000000 := by rw [List.length_take]; omega
          rw [List.length_append]; omega
        obtain ⟨acc, hacce⟩ : ∃ x, x = hb ++ fdB (fs.take k) := ⟨_, rfl⟩
        rw [← hacce] at hacc hal st
        have hap2 := st.out.wr.apart (x := wr.heap.size) rfl (.cells #[.int .i64 (ty : Int), .string (bs tx)] 45)
        have hnew := alloc_new wr (.cells #[.int .i64 (ty : Int), .string (bs tx)] 45)
        have ST3 := Lib.hid (st.out.alloc (.cells #[.int .i64 (ty : Int), .string (bs tx)] 45))
        have HA2 := Lib.hid hap2
        have HNW := Lib.hid hnew
        clear d0 d1 hty htx hm b2 hacce hap2 hnew hbel st
        go_wp2_with (first | (go_at_call 21; (with_reducible refine (w8_k (w.heap.size + 2) ty _ _ b1 ST3.out.wr ?_).mono ?_); (focus omega); rintro e w1 ⟨rfl, hw, hk⟩; have ST4 := Lib.hid (ST3.out.step hw hk); obtain ⟨x1, x2⟩ := hk.block _ HA2.out; have HX2 := Lib.hid x2; have hx1 := x1.trans HNW.out; have g1 := cellAt (i := 1) (v := .string (bs tx)) hx1 rfl; have HX1 := Lib.hid hx1; clear hw hk x1 x2 hx1 ST3) | (go_at_call 22; (with_reducible refine (w16_k (w.heap.size + 2) m _ _ hm2 ST4.out.wr ?_).mono ?_); (focus (simp only [List.length_append, be_length]; omega)); rintro e w2 ⟨rfl, hw, hk⟩; have ST5 := Lib.hid (ST4.out.step hw hk); obtain ⟨x1, x2⟩ := hk.block _ HX2.out; have hx1 := x1.trans HX1.out; have g2 := cellAt (i := 1) (v := .string (bs tx)) hx1 rfl; clear hw hk x1 x2 hx1 ST4) | (go_at_call 20; (with_reducible refine (text_k (w.heap.size + 2) _ (bs tx) _ ST5.out.wr ?_ ?_).mono ?_); (focus (simp only [List.length_append, be_length]; omega)); (focus (rw [hbs]; omega)); rintro e w3 ⟨rfl, hw, hk⟩; have ST6 := Lib.hid (ST5.out.step hw hk); clear hw hk ST5))
        exact ⟨⟨k + 1, by omega, by go_num, by rw [hacc.out]; exact ST6⟩, by simp [intOf]; omega⟩
      · obtain rfl : k = fs.length := by omega
        rw [List.take_length] at st
        have C := Lib.hid (string_k _ _ _ st.out.wr)
        go_wp2_with (go_at_call 23; (with_reducible refine C.out.mono ?_); rintro e w9 ⟨rfl, hk9⟩)
        go_ret
        exact ⟨by simp [HH.out], hBW.out.trans ((st.out.kp.trans hk9).below hap.out)⟩
end Go.Proofs.YtfagkmmenfeppaaDoor
