import Derived.Test.YtfagkmmenfeppaaDoorLocal
/- What is put is got, seal and all; of a beginning more is wanted: in plain Lean. -/
namespace Go.Proofs.YtfagkmmenfeppaaDoor
set_option maxRecDepth 100000
open Go.RowKit
theorem be4_len (c : Nat) : (be c 4).length = 4 := be_length c 4
theorem flE_seal (k tot : Nat) (fs : List Fd) (cv : Nat) (hcv : cv < 4294967296) : flE (k + 1) tot ([3, 0, 4] ++ be cv 4) fs 0 0 false = .ok (fs, tot - 4, cv) := by
  have e1 : ([3, 0, 4] ++ be cv 4).length = 7 := by rw [List.length_append, be_length]; rfl
  have e2 : ([3, 0, 4] ++ be cv 4).drop 3 = be cv 4 := rfl
  have e3 : (([3, 0, 4] ++ be cv 4).drop 1).take 2 = [0, 4] := rfl
  have e4 : ([3, 0, 4] ++ be cv 4).take 1 = [3] := rfl
  have b1 : bv [0, 4] = 4 := rfl
  have b2 : bv [3] = 3 := rfl
  have e5 : (be cv 4).drop 4 = [] := List.drop_eq_nil_of_le (by rw [be_length]; omega)
  have e6 : (be cv 4).take 4 = be cv 4 := List.take_of_length_le (by rw [be_length]; omega)
  rw [flE, e1, e2, e3, e4, b1, b2, be_length, if_neg (by omega), if_neg (by omega), if_neg (by omega), if_neg (by omega), if_neg (by omega), e5, e6, bv_be' (by omega), flE_nil]
  rfl
theorem seal_split (cmd : Nat) (f : Fam) (r : List UInt8) (x : List UInt8) (hx : x.length = 4) :
    frameB cmd f (r ++ ([3, 0, 4] ++ x)) = (signL ++ be cmd 1 ++ be f.2.1 1 ++ be (r.length + 7) 2 ++ r ++ [3, 0, 4]) ++ x := by
  unfold frameB
  have : (r ++ ([3, 0, 4] ++ x)).length = r.length + 7 := by simp only [List.length_append, hx]; simp
  rw [this]
  simp only [List.append_assoc]
theorem seal_eq (r : List UInt8) : r ++ sealL = r ++ ([3, 0, 4] ++ [0, 0, 0, 0]) := rfl
theorem take_add {α : Type} (P x : List α) (n : Nat) (h : x.length = n) : (P ++ x).take ((P ++ x).length - n) = P := List.take_left' (by rw [List.length_append]; omega)
theorem sealed_frame (cmd : Nat) (f : Fam) (r : List UInt8) :
    sealed true (frameB cmd f (r ++ sealL)) = frameB cmd f (r ++ ([3, 0, 4] ++ be (Crc.sum (frameB cmd f (r ++ sealL))).toNat 4)) := by
  obtain ⟨c, hc⟩ : ∃ c, c = (Crc.sum (frameB cmd f (r ++ sealL))).toNat := ⟨_, rfl⟩
  unfold sealed
  rw [if_pos rfl, ← hc, seal_eq, seal_split _ _ _ _ (show ([0, 0, 0, 0] : List UInt8).length = 4 from rfl), seal_split _ _ _ _ (be_length _ _), take_add _ _ 4 rfl]
theorem seal_ok (cmd : Nat) (f : Fam) (r : List UInt8) : sealOk (frameB cmd f (r ++ ([3, 0, 4] ++ be (Crc.sum (frameB cmd f (r ++ sealL))).toNat 4))) ((frameB cmd f (r ++ ([3, 0, 4] ++ be (Crc.sum (frameB cmd f (r ++ sealL))).toNat 4))).length - 4) (Crc.sum (frameB cmd f (r ++ sealL))).toNat = true := by
  unfold sealOk
  have hcl : ∀ c, (be c 4).length = 4 := fun c => be_length c 4
  have h4 : 4 ≤ (frameB cmd f (r ++ ([3, 0, 4] ++ be (Crc.sum (frameB cmd f (r ++ sealL))).toNat 4))).length := by rw [frameB_len]; omega
  rw [Nat.sub_add_cancel h4, List.drop_length, List.append_nil]
  have e : ∀ c, (frameB cmd f (r ++ ([3, 0, 4] ++ be c 4))).take ((frameB cmd f (r ++ ([3, 0, 4] ++ be c 4))).length - 4) ++ [0, 0, 0, 0] = frameB cmd f (r ++ sealL) := fun c => by
    rw [seal_eq, seal_split _ _ _ _ (show ([0, 0, 0, 0] : List UInt8).length = 4 from rfl), seal_split _ _ _ _ (hcl c), take_add _ _ 4 (hcl c)]
  rw [e]
  exact decide_eq_true rfl
/-- what a header that may be is told as -/
def headOf (s : Stm) (f : Fam) : Hd := if s.loc then (0, [], [], 0, 0) else (f.1, s.src, s.dst, s.sp.toNat, s.dp.toNat)
theorem foll_seal (s : Stm) (cmd : Nat) (f : Fam) (hf : f ∈ fams) (hm : s.may f = true) (hc : (cmd == 32) = s.loc) :
    follE (sealed true (frameB cmd f (s.rest f ++ sealL))) (cmd == 32) f = .ok (headOf s f, s.fs.map natF, (frameB cmd f (s.rest f ++ sealL)).length - 4) := by
  obtain ⟨h1, h2, h3, h4, h5, h6, h7⟩ := may_facts hm
  have hlen : (frameB cmd f (s.rest f ++ ([3, 0, 4] ++ be (Crc.sum (frameB cmd f (s.rest f ++ sealL))).toNat 4))).length = (frameB cmd f (s.rest f ++ sealL)).length := by
    rw [frameB_len, frameB_len, seal_eq]; simp only [List.length_append, be_length]; simp
  have hso := seal_ok cmd f (s.rest f)
  have hcv : (Crc.sum (frameB cmd f (s.rest f ++ sealL))).toNat < 4294967296 := (Crc.sum _).isLt
  rw [sealed_frame]
  obtain ⟨cv, hcve⟩ : ∃ c, c = (Crc.sum (frameB cmd f (s.rest f ++ sealL))).toNat := ⟨_, rfl⟩
  rw [← hcve] at hso hcv hlen ⊢
  unfold follE
  rw [frameB_drop]
  have e0 : s.rest f ++ ([3, 0, 4] ++ be cv 4) = headB f.2.2 s.src s.dst s.sp.toNat s.dp.toNat ++ (fdB (s.fs.map natF) ++ ([3, 0, 4] ++ be cv 4)) := by unfold Stm.rest; rw [List.append_assoc]
  have hh := headE_put (cmd == 32) f s.src s.dst s.sp.toNat s.dp.toNat (fdB (s.fs.map natF) ++ ([3, 0, 4] ++ be cv 4)) h5 h6 (by omega) (by omega) (may_zero hf hm)
  rw [← e0] at hh
  rw [hh]
  show tailE _ _ _ = _
  unfold tailE
  have hk := fdB_le (s.fs.map natF)
  obtain ⟨k, hk2⟩ : ∃ k, (fdB (s.fs.map natF) ++ ([3, 0, 4] ++ be cv 4)).length = (s.fs.map natF).length + (k + 1) := by
    refine ⟨(fdB (s.fs.map natF) ++ ([3, 0, 4] ++ be cv 4)).length - (s.fs.map natF).length - 1, ?_⟩
    have : (fdB (s.fs.map natF) ++ ([3, 0, 4] ++ be cv 4)).length = (fdB (s.fs.map natF)).length + 7 := by simp only [List.length_append, be_length]; simp
    omega
  have hfl := flE_put (frameB cmd f (s.rest f ++ ([3, 0, 4] ++ be cv 4))).length (s.fs.map natF) (k + 1) ([3, 0, 4] ++ be cv 4) [] 0 0 false (fun x hx => by
    obtain ⟨y, hy, rfl⟩ := List.mem_map.1 hx
    have := h7 y hy
    show y.1.toNat < 256 ∧ y.1.toNat ≠ 3 ∧ y.2.length < 65536
    omega)
  rw [flE_seal _ _ _ _ hcv, List.nil_append] at hfl
  rw [hk2, hfl]
  show (if _ then _ else _) = _
  rw [if_pos (by rw [frameB_len]; omega), if_pos hso, hlen]
  unfold headOf
  rw [hc]
theorem cmd_loc (s : Stm) : (s.cmd == 32) = s.loc := by
  unfold Stm.cmd; cases s.loc <;> rfl
theorem cmd_or (s : Stm) : s.cmd = 32 ∨ s.cmd = 33 := by
  unfold Stm.cmd; cases s.loc <;> simp
theorem head_is (s : Stm) (f : Fam) (hf : famN s.fam = some f) (hm : s.may f = true) : ((headOf s f).1 : Int) = s.fam ∧ (headOf s f).2.1 = s.src ∧ (headOf s f).2.2.1 = s.dst ∧ ((headOf s f).2.2.2.1 : Int) = s.sp ∧ ((headOf s f).2.2.2.2 : Int) = s.dp := by
  obtain ⟨h1, h2, h3, h4, h5, h6, h7⟩ := may_facts hm
  have hn := (famN_small hf).2
  have hmem := famN_mem hf
  unfold headOf
  cases hl : s.loc with
  | false => exact ⟨hn, rfl, rfl, Int.toNat_of_nonneg h1, Int.toNat_of_nonneg h3⟩
  | true =>
    have h0 : f.1 = 0 := by
      unfold Stm.may mayB at hm
      rw [hl] at hm
      simp only [Bool.and_eq_true, decide_eq_true_eq, Bool.not_true, Bool.false_or] at hm
      exact hm.2
    have hf0 : f = (0, 0, 0) := by
      simp [fams] at hmem
      rcases hmem with rfl | rfl | rfl | rfl | rfl <;> first | rfl | simp at h0
    subst hf0
    have hz := may_zero hmem hm rfl
    refine ⟨hn, (List.length_eq_zero_iff.1 h5).symm, (List.length_eq_zero_iff.1 h6).symm, ?_, ?_⟩
    · show (0 : Int) = s.sp; omega
    · show (0 : Int) = s.dp; omega
/-- what is put: the head, and what follows -/
theorem put_all {s : Stm} {sl : Bool} {l : List UInt8} (h : s.put sl = .ok l) : ∃ (f : Fam) (T : List UInt8) (at' : Nat), famN s.fam = some f ∧ s.may f = true ∧ T.length < 65536 ∧ l = frameB s.cmd f T ∧
    follE l (s.cmd == 32) f = .ok (headOf s f, s.fs.map natF, at') ∧ decide (0 < at') = sl := by
  unfold Stm.put at h
  by_cases hc : s.check sl = 0
  · obtain ⟨f, hf, hm, ht⟩ := check_zero hc
    rw [if_pos hc, hf] at h
    injection h with h
    have hb : s.bytes sl f = frameB s.cmd f (s.tail sl f) := rfl
    have h' : sealed sl (frameB s.cmd f (s.tail sl f)) = l := h
    have hmem := famN_mem hf
    cases sl with
    | false =>
      have ht2 : s.tail false f = s.rest f := by unfold Stm.tail; simp
      rw [ht2] at h' ht
      have h2 : l = frameB s.cmd f (s.rest f) := h'.symm
      refine ⟨f, s.rest f, 0, hf, hm, by omega, h2, ?_, rfl⟩
      rw [h2, foll_rest s s.cmd f hmem hm, cmd_loc]; rfl
    | true =>
      have ht2 : s.tail true f = s.rest f ++ sealL := rfl
      rw [ht2] at h' ht
      refine ⟨f, s.rest f ++ ([3, 0, 4] ++ be (Crc.sum (frameB s.cmd f (s.rest f ++ sealL))).toNat 4), (frameB s.cmd f (s.rest f ++ sealL)).length - 4, hf, hm, ?_, ?_, ?_, ?_⟩
      · rw [seal_eq] at ht; simp only [List.length_append, be_length] at ht ⊢; simp at ht ⊢; omega
      · rw [← h', sealed_frame]
      · rw [← h']; exact foll_seal s s.cmd f hmem hm (cmd_loc s)
      · rw [frameB_len]; exact decide_eq_true (by omega)
  · rw [if_neg hc] at h; cases h
theorem back_get {s : Stm} {sl : Bool} {l : List UInt8} (h : s.put sl = .ok l) (R : List UInt8) : ∃ (hd : Hd) (at' : Nat), getR (l ++ R) = .ok (s.loc, hd, s.fs.map natF, at', l.length) ∧ decide (0 < at') = sl ∧
    (hd.1 : Int) = s.fam ∧ hd.2.1 = s.src ∧ hd.2.2.1 = s.dst ∧ (hd.2.2.2.1 : Int) = s.sp ∧ (hd.2.2.2.2 : Int) = s.dp := by
  obtain ⟨f, T, at', hf, hm, hT, rfl, hfo, ha⟩ := put_all h
  refine ⟨headOf s f, at', ?_, ha, head_is s f hf hm⟩
  unfold getR
  rw [getE_put s.cmd f T R (cmd_or s) (famN_mem hf) hT, hfo, frameB_len, cmd_loc]
theorem lead_short {l : List UInt8} (c : UInt8) (hc : c = 32 ∨ c = 33) (d : UInt8) (f : Fam) (hd : famOf d = some f) (n : Nat) (hn : n < 4) (hl : l = c :: d :: l.drop 2) (h2 : 4 ≤ l.length) : leadE (l.take n) = .error 2 := by
  have hT : ∀ k, leadT k [] = .error 2 := fun k => rfl
  rw [hl]
  have hh : ∀ (X : List UInt8), leadE (c :: X) = leadT (c.toNat % 16) X := fun X => by
    rcases hc with rfl | rfl <;> rfl
  match n, hn with
  | 0, _ => rfl
  | 1, _ => show leadE [c] = _; rw [hh, hT]
  | 2, _ => show leadE [c, d] = _; rw [hh, leadT, hd]; rfl
  | 3, _ =>
    show leadE (c :: d :: (l.drop 2).take 1) = _
    rw [hh, leadT, hd]
    show (if _ then _ else _) = _
    rw [if_pos (by simp; omega)]
theorem back_cut {s : Stm} {sl : Bool} {l : List UInt8} (h : s.put sl = .ok l) (n : Nat) (hn : n < l.length) : getR (l.take n) = .error 10 := by
  obtain ⟨f, T, at', hf, hm, hT, rfl, hfo, ha⟩ := put_all h
  have hmem := famN_mem hf
  have hE : getE ((frameB s.cmd f T).take n) = .error 2 := by
    have hl := frameB_len s.cmd f T
    have hlen : ((frameB s.cmd f T).take n).length = n := by rw [List.length_take]; omega
    have hsg : (frameB s.cmd f T).take 12 = signL := by rw [frameB_eq]; exact List.take_left' rfl
    have h12 : ((frameB s.cmd f T).take n).take (min n 12) = signL.take (min n 12) := by
      rw [← hsg, List.take_take, List.take_take]
      congr 1
      omega
    unfold getE
    rw [hlen, h12, if_neg (by simp)]
    by_cases h1 : n < 12
    · rw [if_pos h1]
    · rw [if_neg h1]
      have hdr : (frameB s.cmd f T).drop 12 = be s.cmd 1 ++ (be f.2.1 1 ++ (be T.length 2 ++ T)) := by rw [frameB_eq]; exact List.drop_left' rfl
      have hd2 : ((frameB s.cmd f T).take n).drop 12 = (be s.cmd 1 ++ (be f.2.1 1 ++ (be T.length 2 ++ T))).take (n - 12) := by rw [List.drop_take, hdr]
      rw [hd2]
      by_cases h2 : n < 16
      · have hls := lead_short (l := be s.cmd 1 ++ (be f.2.1 1 ++ (be T.length 2 ++ T))) (UInt8.ofNat (s.cmd / 256 ^ 0 % 256)) (by rcases cmd_or s with h | h <;> rw [h]; exact .inl rfl; exact .inr rfl) (UInt8.ofNat (f.2.1 / 256 ^ 0 % 256)) f (famOf_mem hmem) (n - 12) (by omega) rfl (by simp only [List.length_append, be_length]; omega)
        rw [hls]
      · have e : (be s.cmd 1 ++ (be f.2.1 1 ++ (be T.length 2 ++ T))).take (n - 12) = be s.cmd 1 ++ (be f.2.1 1 ++ (be T.length 2 ++ T.take (n - 16))) := by
          rw [List.take_append, List.take_append, List.take_append, be_length, be_length, be_length, List.take_of_length_le (by rw [be_length]; omega), List.take_of_length_le (by rw [be_length]; omega), List.take_of_length_le (by rw [be_length]; omega), show n - 12 - 1 - 1 - 2 = n - 16 from by omega]
        rw [e, leadE_put s.cmd f T.length _ (cmd_or s) hmem hT]
        show (if _ then _ else _) = _
        rw [if_pos (by rw [List.length_drop, hlen]; omega)]
  unfold getR
  rw [hE]; rfl
end Go.Proofs.YtfagkmmenfeppaaDoor
