import Derived.Test.YtfagkmmenfeppaaDoorPut
import Derived.Test.YtfagkmmenfeppaaDoorGet
/- What is put is got: in plain Lean. -/
namespace Go.Proofs.YtfagkmmenfeppaaDoor
set_option maxRecDepth 100000
open Go.RowKit
theorem bv_from (l : List UInt8) : ∀ acc : Nat, l.foldl (fun n c => n * 256 + c.toNat) acc = acc * 256 ^ l.length + bv l := by
  induction l with
  | nil => intro acc; simp [bv]
  | cons c l ih =>
    intro acc
    unfold bv
    rw [List.foldl_cons, List.foldl_cons, ih, ih, List.length_cons, Nat.pow_succ, Nat.add_mul, Nat.zero_mul, Nat.zero_add, Nat.mul_assoc, Nat.mul_comm 256, Nat.add_assoc]
theorem bv_cons (c : UInt8) (l : List UInt8) : bv (c :: l) = c.toNat * 256 ^ l.length + bv l := by
  have h := bv_from l (0 * 256 + c.toNat)
  rw [Nat.zero_mul, Nat.zero_add] at h
  unfold bv
  rw [List.foldl_cons, Nat.zero_mul, Nat.zero_add]
  exact h
theorem bv_be (n m : Nat) : bv (be n m) = n % 256 ^ m := by
  induction m with
  | zero => simp [be, bv, Nat.mod_one]
  | succ m ih =>
    show bv (UInt8.ofNat (n / 256 ^ m % 256) :: be n m) = _
    rw [bv_cons, ih, be_length, Nat.pow_succ, Nat.mod_mul]
    have : (UInt8.ofNat (n / 256 ^ m % 256)).toNat = n / 256 ^ m % 256 := by
      rw [UInt8.toNat_ofNat']; exact Nat.mod_eq_of_lt (Nat.mod_lt _ (by decide))
    rw [this, Nat.mul_comm]; omega
theorem bv_be' {n m : Nat} (h : n < 256 ^ m) : bv (be n m) = n := by rw [bv_be, Nat.mod_eq_of_lt h]
theorem flE_nilp (k tot : Nat) (fs : List Fd) (a n : Nat) : flE k tot [] fs a n false = .ok (fs, a, n) := by
  cases k <;> simp [flE]
theorem flE_put (tot : Nat) : ∀ (fs : List Fd) (k : Nat) (l : List UInt8) (acc : List Fd) (a n : Nat) (tw : Bool), (∀ x ∈ fs, x.1 < 256 ∧ x.1 ≠ 3 ∧ x.2.length < 65536) → flE (fs.length + k) tot (fdB fs ++ l) acc a n tw = flE k tot l (acc ++ fs) a n tw
  | [], k, l, acc, a, n, tw, _ => by simp [fdB]
  | f :: fs, k, l, acc, a, n, tw, h => by
    obtain ⟨h1, h2, h3⟩ := h f (List.mem_cons_self)
    have ih := flE_put tot fs k l (acc ++ [f]) a n tw (fun x hx => h x (List.mem_cons_of_mem _ hx))
    obtain ⟨ty, tx⟩ := f
    simp only at h1 h2 h3
    obtain ⟨c, hc⟩ : ∃ c, c = UInt8.ofNat (ty / 256 ^ 0 % 256) := ⟨_, rfl⟩
    obtain ⟨p, hp⟩ : ∃ c, c = UInt8.ofNat (tx.length / 256 ^ 1 % 256) := ⟨_, rfl⟩
    obtain ⟨q, hq⟩ : ∃ c, c = UInt8.ofNat (tx.length / 256 ^ 0 % 256) := ⟨_, rfl⟩
    have b1 : bv [c] = ty := by rw [hc]; exact bv_be' (m := 1) (by omega)
    have b2 : bv [p, q] = tx.length := by rw [hp, hq]; exact bv_be' (m := 2) (by omega)
    have hL : fdB ((ty, tx) :: fs) ++ l = c :: p :: q :: (tx ++ (fdB fs ++ l)) := by
      rw [hc, hp, hq]
      show (List.flatMap _ _) ++ l = _
      rw [List.flatMap_cons]
      simp [be, fdB]
    rw [hL, List.length_cons, show fs.length + 1 + k = (fs.length + k) + 1 from by omega, flE]
    have e1 : (c :: p :: q :: (tx ++ (fdB fs ++ l))).take 1 = [c] := rfl
    have e2 : ((c :: p :: q :: (tx ++ (fdB fs ++ l))).drop 1).take 2 = [p, q] := rfl
    have e3 : (c :: p :: q :: (tx ++ (fdB fs ++ l))).drop 3 = tx ++ (fdB fs ++ l) := rfl
    rw [e1, e2, e3, b1, b2]
    rw [if_neg (by simp), if_neg (by simp), if_neg (by simp), if_pos h2, List.drop_left, List.take_left, ih]
    simp
theorem fdB_le : ∀ (fs : List Fd), fs.length ≤ (fdB fs).length
  | [] => by simp [fdB]
  | f :: fs => by
    have h := fdB_le fs
    unfold fdB at h ⊢
    rw [List.flatMap_cons, List.length_append]
    simp only [List.length_append, be_length, List.length_cons]
    omega
theorem headE_put (loc : Bool) (f : Fam) (src dst : List UInt8) (sp dp : Nat) (l : List UInt8) (h1 : src.length = f.2.2) (h2 : dst.length = f.2.2) (h3 : sp < 65536) (h4 : dp < 65536) (h5 : f.2.2 = 0 → sp = 0 ∧ dp = 0) :
    headE loc f (headB f.2.2 src dst sp dp ++ l) = .ok (if loc then (0, [], [], 0, 0) else (f.1, src, dst, sp, dp), l) := by
  unfold headE headB
  by_cases hz : 0 < f.2.2
  · rw [if_pos hz, if_pos hz]
    have e0 : src ++ dst ++ be sp 2 ++ be dp 2 ++ l = src ++ (dst ++ (be sp 2 ++ (be dp 2 ++ l))) := by simp
    rw [e0]
    have d1 : (src ++ (dst ++ (be sp 2 ++ (be dp 2 ++ l)))).drop f.2.2 = dst ++ (be sp 2 ++ (be dp 2 ++ l)) := by rw [← h1, List.drop_left]
    have t1 : (src ++ (dst ++ (be sp 2 ++ (be dp 2 ++ l)))).take f.2.2 = src := by rw [← h1, List.take_left]
    have d2 : (dst ++ (be sp 2 ++ (be dp 2 ++ l))).drop f.2.2 = be sp 2 ++ (be dp 2 ++ l) := by rw [← h2, List.drop_left]
    have t2 : (dst ++ (be sp 2 ++ (be dp 2 ++ l))).take f.2.2 = dst := by rw [← h2, List.take_left]
    have d3 : (be sp 2 ++ (be dp 2 ++ l)).drop 2 = be dp 2 ++ l := List.drop_left' (be_length _ _)
    have t3 : (be sp 2 ++ (be dp 2 ++ l)).take 2 = be sp 2 := List.take_left' (be_length _ _)
    have d4 : (be dp 2 ++ l).drop 2 = l := List.drop_left' (be_length _ _)
    have t4 : (be dp 2 ++ l).take 2 = be dp 2 := List.take_left' (be_length _ _)
    rw [d1, t1, d2, t2, d3, t3, d4, t4, bv_be' (by omega), bv_be' (by omega), if_neg]
    simp only [List.length_append, be_length]; omega
  · have hz0 : f.2.2 = 0 := by omega
    obtain ⟨rfl, rfl⟩ := h5 hz0
    rw [hz0] at h1 h2
    obtain rfl := List.length_eq_zero_iff.1 h1
    obtain rfl := List.length_eq_zero_iff.1 h2
    rw [if_neg hz, if_neg hz]; rfl
theorem famOf_mem {f : Fam} (h : f ∈ fams) : famOf (UInt8.ofNat (f.2.1 / 256 ^ 0 % 256)) = some f := by
  simp [fams] at h
  rcases h with rfl | rfl | rfl | rfl | rfl <;> rfl
theorem leadE_put (cmd : Nat) (f : Fam) (tn : Nat) (l : List UInt8) (hc : cmd = 32 ∨ cmd = 33) (hf : f ∈ fams) (ht : tn < 65536) :
    leadE (be cmd 1 ++ (be f.2.1 1 ++ (be tn 2 ++ l))) = .ok (cmd == 32, f, tn) := by
  have hT : ∀ k, leadT k (be f.2.1 1 ++ (be tn 2 ++ l)) = .ok (k == 0, f, tn) := fun k => by
    show leadT k (UInt8.ofNat (f.2.1 / 256 ^ 0 % 256) :: (be tn 2 ++ l)) = _
    rw [leadT, famOf_mem hf]
    have t : (be tn 2 ++ l).take 2 = be tn 2 := List.take_left' (be_length _ _)
    show (if _ then _ else _) = _
    rw [if_neg (by simp only [List.length_append, be_length]; omega), t, bv_be' (by omega)]
  rcases hc with rfl | rfl
  · show leadE (32 :: (be f.2.1 1 ++ (be tn 2 ++ l))) = _
    rw [leadE, if_neg (by decide), if_neg (by decide), hT]; rfl
  · show leadE (33 :: (be f.2.1 1 ++ (be tn 2 ++ l))) = _
    rw [leadE, if_neg (by decide), if_neg (by decide), hT]; rfl
def frameB (cmd : Nat) (f : Fam) (T : List UInt8) : List UInt8 := signL ++ be cmd 1 ++ be f.2.1 1 ++ be T.length 2 ++ T
theorem frameB_eq (cmd : Nat) (f : Fam) (T : List UInt8) : frameB cmd f T = signL ++ (be cmd 1 ++ (be f.2.1 1 ++ (be T.length 2 ++ T))) := by unfold frameB; simp
theorem frameB_len (cmd : Nat) (f : Fam) (T : List UInt8) : (frameB cmd f T).length = 16 + T.length := by
  unfold frameB; simp only [List.length_append, be_length]; simp [signL]
theorem frameB_drop (cmd : Nat) (f : Fam) (T : List UInt8) : (frameB cmd f T).drop 16 = T := by
  unfold frameB
  exact List.drop_left' (by simp only [List.length_append, be_length]; simp [signL])
theorem getE_put (cmd : Nat) (f : Fam) (T R : List UInt8) (hc : cmd = 32 ∨ cmd = 33) (hf : f ∈ fams) (hT : T.length < 65536) :
    getE (frameB cmd f T ++ R) = match follE (frameB cmd f T) (cmd == 32) f with
      | .error c => .error c
      | .ok (h, fs, a) => .ok (cmd == 32, h, fs, a, 16 + T.length) := by
  have hl := frameB_len cmd f T
  unfold getE
  have e1 : min (frameB cmd f T ++ R).length 12 = 12 := by rw [List.length_append, hl]; omega
  have e2 : (frameB cmd f T ++ R).take 12 = signL := by
    rw [frameB_eq, List.append_assoc]; exact List.take_left' rfl
  have e3 : (frameB cmd f T ++ R).drop 12 = be cmd 1 ++ (be f.2.1 1 ++ (be T.length 2 ++ (T ++ R))) := by
    rw [frameB_eq, List.append_assoc, List.drop_left' (show signL.length = 12 from rfl)]; simp
  have e4 : (frameB cmd f T ++ R).drop 16 = T ++ R := by
    rw [List.drop_append_of_le_length (by omega), frameB_drop]
  have e5 : (frameB cmd f T ++ R).take (16 + T.length) = frameB cmd f T := List.take_left' hl
  rw [e1, e2, if_neg (by decide), if_neg (by rw [List.length_append, hl]; omega), e3, leadE_put cmd f T.length (T ++ R) hc hf hT]
  show (if _ then _ else _) = _
  rw [e4, if_neg (by simp), e5]
  generalize follE (frameB cmd f T) (cmd == 32) f = z
  rcases z with c | ⟨h, fs, a⟩ <;> rfl
theorem famN_mem {n : Int} {f : Fam} (h : famN n = some f) : f ∈ fams := List.mem_of_find?_eq_some h
theorem may_zero {s : Stm} {f : Fam} (hf : f ∈ fams) (h : s.may f = true) : f.2.2 = 0 → s.sp.toNat = 0 ∧ s.dp.toNat = 0 := by
  intro hz
  unfold Stm.may mayB pOk at h
  simp only [Bool.and_eq_true, decide_eq_true_eq] at h
  obtain ⟨⟨⟨⟨⟨h1, h2⟩, _⟩, _⟩, _⟩, _⟩ := h
  have h0 : mostOf f = 0 := by
    simp [fams] at hf
    rcases hf with rfl | rfl | rfl | rfl | rfl <;> first | rfl | simp at hz
  rw [h0] at h1 h2
  omega
/-- fields alone follow the head -/
theorem foll_rest (s : Stm) (cmd : Nat) (f : Fam) (hf : f ∈ fams) (hm : s.may f = true) :
    follE (frameB cmd f (s.rest f)) (cmd == 32) f = .ok (if cmd == 32 then (0, [], [], 0, 0) else (f.1, s.src, s.dst, s.sp.toNat, s.dp.toNat), s.fs.map natF, 0) := by
  obtain ⟨h1, h2, h3, h4, h5, h6, h7⟩ := may_facts hm
  unfold follE
  rw [frameB_drop]
  unfold Stm.rest
  rw [headE_put _ f s.src s.dst s.sp.toNat s.dp.toNat _ h5 h6 (by omega) (by omega) (may_zero hf hm)]
  show tailE _ _ _ = _
  unfold tailE
  have hk := fdB_le (s.fs.map natF)
  obtain ⟨k, hk2⟩ : ∃ k, (fdB (s.fs.map natF)).length = (s.fs.map natF).length + k := ⟨_, (Nat.add_sub_cancel' hk).symm⟩
  have hfl := flE_put (frameB cmd f (headB f.2.2 s.src s.dst s.sp.toNat s.dp.toNat ++ fdB (s.fs.map natF))).length (s.fs.map natF) k [] [] 0 0 false (fun x hx => by
    obtain ⟨y, hy, rfl⟩ := List.mem_map.1 hx
    have := h7 y hy
    show y.1.toNat < 256 ∧ y.1.toNat ≠ 3 ∧ y.2.length < 65536
    omega)
  rw [List.append_nil, flE_nilp, List.nil_append] at hfl
  rw [hk2, hfl]
  rfl
end Go.Proofs.YtfagkmmenfeppaaDoor
