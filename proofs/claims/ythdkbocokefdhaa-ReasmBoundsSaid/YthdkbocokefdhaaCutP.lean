import Derived.Test.YthdkbocokefdhaaTabP
/- A packet's pieces: in plain Lean. -/
namespace Go.Proofs.Ythdkbocokefdhaa
set_option maxRecDepth 100000
open Go.RowKit
/-- a packet's pieces -/
def pcs (h : H4) (s : List UInt8) (z : Nat) (i : Nat) : Pc := ⟨{ h with off := (i * z / 8 : Nat), mf := decide ((i + 1) * z < s.length) }, (s.drop (i * z)).take z⟩
structure CutOk (h : H4) (s : List UInt8) (z n : Nat) : Prop where
  ok : h.ok
  len : 20 + h.opt.length + s.length ≤ 65535
  z8 : z % 8 = 0
  z0 : 0 < z
  n0 : 0 < n
  hi : s.length ≤ n * z
  lo : (n - 1) * z < s.length ∨ n = 1
theorem mulz {z i : Nat} (h : z % 8 = 0) : 8 * (i * z / 8) = i * z := by
  obtain ⟨k, rfl⟩ : ∃ k, z = 8 * k := ⟨z / 8, by omega⟩
  rw [show i * (8 * k) = 8 * (i * k) by rw [Nat.mul_left_comm], Nat.mul_div_cancel_left _ (by decide)]
theorem pcs_lo {h : H4} {s : List UInt8} {z n : Nat} (c : CutOk h s z n) (i : Nat) : (pcs h s z i).lo = i * z := by
  show 8 * ((i * z / 8 : Nat) : Int).toNat = _
  rw [Int.toNat_natCast, mulz c.z8]
theorem pcs_len (h : H4) (s : List UInt8) (z i : Nat) : (pcs h s z i).s.length = min z (s.length - i * z) := by
  show ((s.drop (i * z)).take z).length = _
  rw [List.length_take, List.length_drop]
theorem at_lt {h : H4} {s : List UInt8} {z n : Nat} (c : CutOk h s z n) {i : Nat} (hi : i < n) : i * z < s.length ∨ (i = 0 ∧ n = 1) := by
  rcases c.lo with hl | hl
  · left
    have : i * z ≤ (n - 1) * z := Nat.mul_le_mul_right _ (by omega)
    omega
  · right; omega
theorem more_iff {h : H4} {s : List UInt8} {z n : Nat} (c : CutOk h s z n) {i : Nat} (_ : i < n) : (i + 1) * z < s.length ↔ i + 1 < n := by
  constructor
  · intro h1
    rcases Nat.lt_or_ge (i + 1) n with h2 | h2
    · exact h2
    · have := c.hi
      have : n * z ≤ (i + 1) * z := Nat.mul_le_mul_right _ h2
      omega
  · intro h1
    rcases at_lt c h1 with h2 | h2
    · exact h2
    · omega
theorem pcs_hi {h : H4} {s : List UInt8} {z n : Nat} (c : CutOk h s z n) {i : Nat} (hi : i < n) : (pcs h s z i).hi = if i + 1 < n then (i + 1) * z else s.length := by
  have h1 := at_lt c hi
  have h2 := more_iff c hi
  have h3 : (i + 1) * z = i * z + z := by rw [Nat.add_mul, Nat.one_mul]
  unfold Pc.hi
  rw [pcs_lo c, pcs_len]
  split
  · rename_i h; have := h2.2 h; omega
  · rename_i h
    have : ¬ (i + 1) * z < s.length := fun h9 => h (h2.1 h9)
    rcases h1 with h1 | ⟨h1, _⟩
    · omega
    · subst h1; omega
theorem pcs_mf {h : H4} {s : List UInt8} {z n : Nat} (c : CutOk h s z n) {i : Nat} (hi : i < n) : (pcs h s z i).h.mf = decide (i + 1 < n) := by
  show decide _ = decide _
  exact decide_eq_decide.2 (more_iff c hi)
theorem pcs_hok {h : H4} {s : List UInt8} {z n : Nat} (c : CutOk h s z n) {i : Nat} (hi : i < n) : (pcs h s z i).h.ok := by
  have h1 := at_lt c hi
  have h2 := c.len
  have h4 := c.ok.opt
  refine ⟨c.ok.tos, c.ok.ttl, c.ok.proto, c.ok.id, ?_, c.ok.src, c.ok.dst, c.ok.opt⟩
  show 0 ≤ ((i * z / 8 : Nat) : Int) ∧ ((i * z / 8 : Nat) : Int) ≤ 8191
  rcases h1 with h1 | ⟨h1, _⟩
  · omega
  · subst h1; simp
theorem pcs_ok {h : H4} {s : List UInt8} {z n : Nat} (c : CutOk h s z n) {i : Nat} (hi : i < n) : PcOk (pcs h s z i) := by
  refine ⟨pcs_hok c hi, ?_⟩
  have h1 := at_lt c hi
  have h2 := c.len
  have h4 := pcs_lo c i
  have h5 := pcs_hi c hi
  have h6 := more_iff c hi
  have h7 := pcs_mf c hi
  have h8 := pcs_len h s z i
  have h9 := c.z8
  have h0 := c.z0
  have hs : (pcs h s z i).s = [] ↔ (pcs h s z i).s.length = 0 := List.length_eq_zero_iff.symm
  have h3 : (i + 1) * z = i * z + z := by rw [Nat.add_mul, Nat.one_mul]
  unfold oddB
  rw [h4, h5, h7]
  simp only [hs, h8]
  have a1 : ¬ 65515 < (if i + 1 < n then (i + 1) * z else s.length) := by split <;> omega
  have a2 : ¬ (0 < i * z ∧ min z (s.length - i * z) = 0) := by
    rcases h1 with h1 | ⟨h1, _⟩
    · omega
    · subst h1; omega
  by_cases hm : i + 1 < n
  · have := h6.2 hm
    simp [hm] at a1 ⊢
    refine ⟨⟨a1, ?_, ?_⟩, ?_⟩ <;> omega
  · simp [hm] at a1 ⊢
    refine ⟨a1, ?_⟩; omega
theorem pcs_key (h : H4) (s : List UInt8) (z i : Nat) : kyOf (pcs h s z i).h = kyOf h := rfl
theorem pcs_fit {h : H4} {s : List UInt8} {z n : Nat} (c : CutOk h s z n) {i j : Nat} (hi : i < n) (hj : j < n) (hne : i ≠ j) : fitB (pcs h s z i) (pcs h s z j) = true := by
  have key : ∀ {i j : Nat}, i < n → j < n → i < j → fitB (pcs h s z i) (pcs h s z j) = true := by
    intro i j hi hj hij
    have hm1 : i + 1 < n := by omega
    have a1 : (i + 1) * z ≤ j * z := Nat.mul_le_mul_right _ (by omega)
    have a2 := (more_iff c hi).2 hm1
    unfold fitB
    rw [pcs_mf c hi, pcs_mf c hj, pcs_lo c, pcs_lo c, pcs_hi c hi, pcs_hi c hj, if_pos hm1]
    have a4 : (j + 1) * z = j * z + z := by rw [Nat.add_mul, Nat.one_mul]
    by_cases hm : j + 1 < n
    · simp [hm, hm1]; omega
    · simp [hm, hm1]; omega
  rcases Nat.lt_or_gt_of_ne hne with h1 | h1
  · exact key hi hj h1
  · rw [fitB_symm]; exact key hj hi h1
theorem pcs_like {h : H4} {s : List UInt8} {z n : Nat} (c : CutOk h s z n) (i j : Nat) : likeB (pcs h s z i) (pcs h s z j) = decide (i = j) := by
  by_cases hij : i = j
  · subst hij; simp [likeB]
  · have : (pcs h s z i).lo ≠ (pcs h s z j).lo := by
      rw [pcs_lo c, pcs_lo c]
      intro e
      exact hij (Nat.eq_of_mul_eq_mul_right c.z0 e)
    simp [likeB, this, hij]
/-- those of them that came -/
def part (h : H4) (s : List UInt8) (z n : Nat) (S : Nat → Bool) : List Pc := ((List.range n).filter S).map (pcs h s z)
theorem part_mem {h : H4} {s : List UInt8} {z n : Nat} {S : Nat → Bool} {p : Pc} : p ∈ part h s z n S ↔ ∃ i, i < n ∧ S i = true ∧ pcs h s z i = p := by
  unfold part
  rw [List.mem_map]
  constructor
  · rintro ⟨i, hi, rfl⟩
    obtain ⟨h1, h2⟩ := List.mem_filter.1 hi
    exact ⟨i, List.mem_range.1 h1, h2, rfl⟩
  · rintro ⟨i, h1, h2, rfl⟩
    exact ⟨i, List.mem_filter.2 ⟨List.mem_range.2 h1, h2⟩, rfl⟩
theorem part_sorted {h : H4} {s : List UInt8} {z n : Nat} (c : CutOk h s z n) (S : Nat → Bool) : (part h s z n S).Pairwise fun p q => p.lo < q.lo := by
  unfold part
  rw [List.pairwise_map]
  refine (List.pairwise_lt_range.filter S).imp fun {a b} hab => ?_
  rw [pcs_lo c, pcs_lo c]
  exact Nat.mul_lt_mul_of_pos_right hab c.z0
theorem sorted_one : ∀ {xs ys : List Pc}, xs.Perm ys → xs.Pairwise (fun p q => p.lo < q.lo) → ys.Pairwise (fun p q => p.lo < q.lo) → xs = ys := by
  intro xs ys hp h1 h2
  exact hp.eq_of_pairwise (fun a b _ _ h3 h4 => by omega) h1 h2
theorem part_ins {h : H4} {s : List UInt8} {z n : Nat} (c : CutOk h s z n) {S : Nat → Bool} {j : Nat} (hj : j < n) (hS : S j = false) : insP (pcs h s z j) (part h s z n S) = part h s z n (fun i => S i || decide (i = j)) := by
  have hs1 : (insP (pcs h s z j) (part h s z n S)).Pairwise fun p q => p.lo < q.lo := by
    refine insP_sorted _ (part_sorted c S) fun q hq => ?_
    obtain ⟨i, hi, h2, rfl⟩ := part_mem.1 hq
    rw [pcs_lo c, pcs_lo c]
    intro e
    have := Nat.eq_of_mul_eq_mul_right c.z0 e
    rw [this, h2] at hS; cases hS
  refine sorted_one ?_ hs1 (part_sorted c _)
  have n1 : (insP (pcs h s z j) (part h s z n S)).Nodup := hs1.imp fun {a b} hab e => by rw [e] at hab; omega
  have n2 : (part h s z n (fun i => S i || decide (i = j))).Nodup := (part_sorted c _).imp fun {a b} hab e => by rw [e] at hab; omega
  refine (List.perm_ext_iff_of_nodup n1 n2).2 fun p => ?_
  rw [(insP_perm _ _).mem_iff, List.mem_cons, part_mem, part_mem]
  constructor
  · rintro (rfl | ⟨i, h1, h2, rfl⟩)
    · exact ⟨j, hj, by simp, rfl⟩
    · exact ⟨i, h1, by simp [h2], rfl⟩
  · rintro ⟨i, h1, h2, rfl⟩
    by_cases hij : i = j
    · subst hij; exact .inl rfl
    · exact .inr ⟨i, h1, by simpa [hij] using h2, rfl⟩
theorem lastB_iff : ∀ {l : List Pc}, lastB l = true ↔ ∃ p, l.getLast? = some p ∧ p.h.mf = false
  | [] => by simp [lastB]
  | [p] => by simp [lastB]
  | p :: q :: t => by rw [lastB, lastB_iff, List.getLast?_cons_cons]
/-- pieces one behind the other are those of numbers one behind the other -/
theorem contig_idx {h : H4} {s : List UInt8} {z n : Nat} (c : CutOk h s z n) : ∀ (l : List Nat) (k : Nat), (∀ i ∈ l, i < n) → l.Pairwise (· < ·) → contig (k * z) (l.map (pcs h s z)) = true → l = (List.range' k l.length)
  | [], k, _, _, _ => rfl
  | i :: t, k, hn, hp, hc => by
    rw [List.map_cons, contig, Bool.and_eq_true, decide_eq_true_eq, pcs_lo c] at hc
    obtain ⟨e, hc⟩ := hc
    have e := Nat.eq_of_mul_eq_mul_right c.z0 e
    subst e
    have hin := hn i (List.mem_cons_self ..)
    rw [List.length_cons, List.range'_succ]
    congr 1
    cases t with
    | nil => rfl
    | cons j t =>
      have hj := (List.pairwise_cons.1 hp).1 j (List.mem_cons_self ..)
      have hjn := hn j (by simp)
      rw [pcs_hi c hin, if_pos (by omega)] at hc
      exact contig_idx c (j :: t) (i + 1) (fun x hx => hn x (List.mem_cons_of_mem _ hx)) (List.pairwise_cons.1 hp).2 hc
theorem contig_all {h : H4} {s : List UInt8} {z n : Nat} (c : CutOk h s z n) : ∀ (m k : Nat), k + m ≤ n → contig (k * z) ((List.range' k m).map (pcs h s z)) = true
  | 0, _, _ => rfl
  | m + 1, k, hm => by
    rw [List.range'_succ, List.map_cons, contig, pcs_lo c, decide_eq_true rfl, Bool.true_and]
    cases m with
    | zero => rfl
    | succ m =>
      rw [pcs_hi c (by omega), if_pos (by omega)]
      exact contig_all c (m + 1) (k + 1) (by omega)
theorem part_whole {h : H4} {s : List UInt8} {z n : Nat} (c : CutOk h s z n) (S : Nat → Bool) : wholeB (part h s z n S) = true ↔ ∀ i, i < n → S i = true := by
  have hn0 := c.n0
  unfold wholeB
  rw [Bool.and_eq_true]
  constructor
  · rintro ⟨h1, h2⟩
    obtain ⟨l, hl⟩ : ∃ l, l = (List.range n).filter S := ⟨_, rfl⟩
    have hm : ∀ i ∈ l, i < n := fun i hi => by rw [hl] at hi; exact List.mem_range.1 (List.mem_filter.1 hi).1
    have hp : l.Pairwise (· < ·) := by rw [hl]; exact List.pairwise_lt_range.filter S
    unfold part at h1 h2
    rw [← hl] at h1 h2
    have hr := contig_idx c l 0 hm hp (by rw [Nat.zero_mul]; exact h1)
    obtain ⟨p, hp1, hp2⟩ := lastB_iff.1 h2
    rw [List.getLast?_map] at hp1
    cases hq : l.getLast? with
    | none => rw [hq] at hp1; cases hp1
    | some j =>
      rw [hq] at hp1
      have hp1 : pcs h s z j = p := Option.some.inj hp1
      have hj : j ∈ l := List.mem_of_getLast? hq
      have hjn := hm j hj
      subst hp1
      rw [pcs_mf c hjn] at hp2
      have hj1 : j + 1 = n := by have := of_decide_eq_false hp2; omega
      have hjr : j < l.length := by rw [hr] at hj; have := List.mem_range'_1.1 hj; omega
      intro i hi
      have : i ∈ l := by rw [hr]; exact List.mem_range'_1.2 ⟨Nat.zero_le _, by omega⟩
      rw [hl] at this
      exact (List.mem_filter.1 this).2
  · intro hS
    have e : (List.range n).filter S = List.range' 0 n := by rw [List.filter_eq_self.2 (fun i hi => hS i (List.mem_range.1 hi)), List.range_eq_range']
    unfold part
    rw [e]
    refine ⟨by have := contig_all c n 0 (by omega); rwa [Nat.zero_mul] at this, lastB_iff.2 ⟨pcs h s z (n - 1), ?_, ?_⟩⟩
    · rw [List.getLast?_map, List.getLast?_range', if_neg (by omega)]
      simp
    · rw [pcs_mf c (by omega)]; simp; omega
theorem flat_all (s : List UInt8) (z : Nat) : ∀ (m k : Nat), (List.range' k m).flatMap (fun i => (s.drop (i * z)).take z) = (s.drop (k * z)).take (m * z)
  | 0, _ => by simp
  | m + 1, k => by
    rw [List.range'_succ, List.flatMap_cons, flat_all s z m (k + 1), Nat.add_mul k 1 z, Nat.one_mul, ← List.drop_drop]
    rw [show (m + 1) * z = z + m * z by rw [Nat.add_mul, Nat.one_mul, Nat.add_comm]]
    exact List.take_add.symm
theorem part_fin {h : H4} {s : List UInt8} {z n : Nat} (c : CutOk h s z n) (h0 : h.off = 0) (h1 : h.mf = false) {S : Nat → Bool} (hS : ∀ i, i < n → S i = true) {p : List UInt8} (hp : putE h s = .ok p) : finE (part h s z n S) = (p, 0) := by
  have e : (List.range n).filter S = List.range' 0 n := by rw [List.filter_eq_self.2 (fun i hi => hS i (List.mem_range.1 hi)), List.range_eq_range']
  have ht : txtP (part h s z n S) = s := by
    unfold txtP part
    rw [e, List.flatMap_map]
    have := flat_all s z n 0
    rw [Nat.zero_mul, List.drop_zero, List.take_of_length_le c.hi] at this
    exact this
  have hh : hdP (part h s z n S) = h := by
    unfold hdP part
    obtain ⟨m, rfl⟩ : ∃ m, n = m + 1 := ⟨n - 1, by have := c.n0; omega⟩
    rw [e, List.range'_succ, List.map_cons]
    show ({ (pcs h s z 0).h with mf := false } : H4) = h
    obtain ⟨tos, id, off, ttl, proto, df, mf, src, dst, opt⟩ := h
    simp only at h0 h1
    subst h0 h1
    simp [pcs]
  unfold finE
  rw [ht, hh, hp]
theorem pcs_get {h : H4} {s : List UInt8} {z : Nat} {j : Nat} {x : List UInt8} (hx : putE (pcs h s z j).h (pcs h s z j).s = .ok x) : getE x = .ok ((pcs h s z j).h, (pcs h s z j).s) := get_put hx
theorem pcs_put {h : H4} {s : List UInt8} {z n : Nat} (c : CutOk h s z n) {j : Nat} (hj : j < n) : ∃ x, putE (pcs h s z j).h (pcs h s z j).s = .ok x := by
  have h1 := pcs_len h s z j
  have h2 := c.len
  obtain ⟨x, hx, _⟩ := putE_ok (pcs_hok c hj) (s := (pcs h s z j).s) (by show 20 + h.opt.length + _ ≤ _; omega)
  exact ⟨x, hx⟩
theorem part_like {h : H4} {s : List UInt8} {z n : Nat} (c : CutOk h s z n) (S : Nat → Bool) {j : Nat} (hj : j < n) : (part h s z n S).any (likeB (pcs h s z j)) = S j := by
  cases hS : S j with
  | true => exact List.any_eq_true.2 ⟨_, part_mem.2 ⟨j, hj, hS, rfl⟩, by rw [pcs_like c]; simp⟩
  | false =>
    refine List.any_eq_false.2 fun p hp => ?_
    obtain ⟨i, h1, h2, rfl⟩ := part_mem.1 hp
    rw [pcs_like c]
    simp only [decide_eq_true_eq]
    rintro rfl
    rw [h2] at hS; cases hS
theorem part_fits {h : H4} {s : List UInt8} {z n : Nat} (c : CutOk h s z n) (S : Nat → Bool) {j : Nat} (hj : j < n) (hS : S j = false) : (part h s z n S).any (fun o => !fitB (pcs h s z j) o) = false := by
  refine List.any_eq_false.2 fun p hp => ?_
  obtain ⟨i, h1, h2, rfl⟩ := part_mem.1 hp
  rw [pcs_fit c hj h1 (by rintro rfl; rw [h2] at hS; cases hS)]; simp
/-- one more piece of a packet -/
theorem addT_pcs {h : H4} {s : List UInt8} {z n : Nat} (c : CutOk h s z n) {st : Sto} {L : List En} {S : Nat → Bool} {a j : Nat} (hj : j < n) {x : List UInt8} (hx : putE (pcs h s z j).h (pcs h s z j).s = .ok x)
    (he : (findL L (kyOf h)).getD ⟨kyOf h, [], false, 0⟩ = ⟨kyOf h, part h s z n S, false, a⟩) (h1 : (findL L (kyOf h)).isNone = true → L.length < st.ents) (h2 : btsL L + s.length ≤ st.bts) :
    addT st L x = if S j then (([], 10), L) else if wholeB (part h s z n (fun i => S i || decide (i = j))) then (finE (part h s z n (fun i => S i || decide (i = j))), putL L ⟨kyOf h, [], true, a⟩) else (([], 10), putL L ⟨kyOf h, part h s z n (fun i => S i || decide (i = j)), false, a⟩) := by
  have hlen := pcs_len h s z j
  have hodd := (pcs_ok c hj).odd
  unfold addT
  rw [pcs_get hx]
  show (if oddB (pcs h s z j) = true then _ else _) = _
  rw [if_neg (by rw [hodd]; simp)]
  have he2 : (findL L (kyOf (pcs h s z j).h)).getD ⟨kyOf (pcs h s z j).h, [], false, 0⟩ = ⟨kyOf h, part h s z n S, false, a⟩ := he
  rw [he2]
  show (if false = true then _ else if (part h s z n S).any (likeB (pcs h s z j)) = true then _ else if (part h s z n S).any (fun o => !fitB (pcs h s z j) o) = true then _ else _) = _
  rw [if_neg (by simp), part_like c S hj]
  cases hS : S j with
  | true => rw [if_pos rfl, if_pos rfl]
  | false =>
    have hroom : (((findL L (kyOf (pcs h s z j).h)).isNone && decide (st.ents ≤ L.length)) || decide (st.bts < btsL L + (pcs h s z j).s.length)) = false := by
      rw [Bool.or_eq_false_iff]
      refine ⟨?_, decide_eq_false (by omega)⟩
      cases hq : (findL L (kyOf h)).isNone with
      | false => show (Option.isNone _ && _) = _; rw [show (findL L (kyOf (pcs h s z j).h)).isNone = false from hq]; rfl
      | true => have := h1 hq; rw [decide_eq_false (by omega), Bool.and_false]
    rw [if_neg (by simp), part_fits c S hj hS, if_neg (by simp), hroom, if_neg (by simp)]
    show (if wholeB (insP (pcs h s z j) (part h s z n S)) = true then _ else _) = _
    rw [part_ins c hj hS]
    rfl
def room64 : Sto := ⟨64, 1048576, 64⟩
theorem sub_sum : ∀ {a b : List Nat}, a.Sublist b → a.sum ≤ b.sum := by
  intro a b h
  induction h with
  | slnil => exact Nat.le_refl _
  | cons x _ ih => rw [List.sum_cons]; omega
  | cons_cons x _ ih => rw [List.sum_cons, List.sum_cons]; omega
theorem lenP_part (h : H4) (s : List UInt8) (z n : Nat) (S : Nat → Bool) (hz : s.length ≤ n * z) : lenP (part h s z n S) ≤ s.length := by
  have h1 : lenP (part h s z n S) ≤ lenP ((List.range n).map (pcs h s z)) := by
    have hs : ((((List.range n).filter S).map (pcs h s z)).map fun p => p.s.length).Sublist (((List.range n).map (pcs h s z)).map fun p => p.s.length) := (List.filter_sublist.map _).map _
    exact sub_sum hs
  have h2 : txtP ((List.range n).map (pcs h s z)) = s := by
    unfold txtP
    rw [List.flatMap_map, List.range_eq_range']
    have := flat_all s z n 0
    rw [Nat.zero_mul, List.drop_zero, List.take_of_length_le hz] at this
    exact this
  have h3 : ∀ l : List Pc, (txtP l).length = lenP l := by
    intro l; unfold txtP lenP; rw [List.length_flatMap]
  have := h3 ((List.range n).map (pcs h s z))
  rw [h2] at this
  omega
def OSt (h : H4) (s : List UInt8) (z n : Nat) (S : Nat → Bool) (L : List En) (made : Nat) : Prop :=
  ((∀ i, i < n → S i = true) ∧ L = [⟨kyOf h, [], true, 0⟩] ∧ made = 1) ∨ ((¬ ∀ i, i < n → S i = true) ∧ made = 0 ∧ ((L = [] ∧ ∀ i, i < n → S i = false) ∨ L = [⟨kyOf h, part h s z n S, false, 0⟩]))
theorem part_none {h : H4} {s : List UInt8} {z n : Nat} {S : Nat → Bool} (hS : ∀ i, i < n → S i = false) : part h s z n S = [] := by
  unfold part
  rw [List.filter_eq_nil_iff.2 (fun i hi => by rw [hS i (List.mem_range.1 hi)]; simp)]; rfl
theorem part_congr {h : H4} {s : List UInt8} {z n : Nat} {S T : Nat → Bool} (hST : ∀ i, i < n → S i = T i) : part h s z n S = part h s z n T := by
  unfold part
  rw [List.filter_congr (fun i hi => hST i (List.mem_range.1 hi))]
theorem putL_one (k : Ky) (a b : List Pc) (c d : Bool) (x y : Nat) : putL [⟨k, a, c, x⟩] ⟨k, b, d, y⟩ = [⟨k, b, d, y⟩] := by simp [putL, keysL]
theorem putL_nil (e : En) : putL [] e = [e] := by simp [putL, keysL]
theorem findL_one (k : Ky) (a : List Pc) (c : Bool) (x : Nat) : findL [⟨k, a, c, x⟩] k = some ⟨k, a, c, x⟩ := by simp [findL]
/-- one more piece, doubled or not -/
theorem once_step {h : H4} {s p : List UInt8} {z n : Nat} (c : CutOk h s z n) (h0 : h.off = 0) (h1 : h.mf = false) (hp : putE h s = .ok p) {st : Sto} (hb : 65536 * 2 ≤ st.bts) (he : 1 ≤ st.ents) {S : Nat → Bool} {L : List En} {made j : Nat} (ho : OSt h s z n S L made) (hj : j < n) {x : List UInt8} (hx : putE (pcs h s z j).h (pcs h s z j).s = .ok x) :
    ∃ r L' made', addT st L x = (r, L') ∧ OSt h s z n (fun i => S i || decide (i = j)) L' made' ∧ ((r = (p, 0) ∧ made = 0 ∧ made' = 1) ∨ (r = ([], 10) ∧ made' = made) ∨ (r = ([], 12) ∧ made = 1 ∧ made' = 1)) := by
  have hlen := c.len
  rcases ho with ⟨hS, rfl, rfl⟩ | ⟨hS, rfl, hL⟩
  · refine ⟨([], 12), _, 1, ?_, .inl ⟨fun i hi => by simp only [hS i hi]; rfl, rfl, rfl⟩, .inr (.inr ⟨rfl, rfl, rfl⟩)⟩
    have hodd := (pcs_ok c hj).odd
    unfold addT
    rw [pcs_get hx]
    show (if oddB (pcs h s z j) = true then _ else _) = _
    rw [if_neg (by rw [hodd]; simp), show findL [(⟨kyOf h, [], true, 0⟩ : En)] (kyOf (pcs h s z j).h) = some ⟨kyOf h, [], true, 0⟩ from findL_one _ _ _ _]
    rfl
  · have hfe : (findL L (kyOf h)).getD ⟨kyOf h, [], false, 0⟩ = ⟨kyOf h, part h s z n S, false, 0⟩ := by
      rcases hL with ⟨rfl, hn⟩ | rfl
      · rw [part_none hn]; rfl
      · rw [findL_one]; rfl
    have hbt : btsL L ≤ s.length := by
      rcases hL with ⟨rfl, hn⟩ | rfl
      · exact Nat.zero_le _
      · have := lenP_part h s z n S c.hi
        show lenP _ + 0 ≤ _; omega
    have hpt : ∀ e : En, e.k = kyOf h → putL L e = [e] := fun e hk => by
      rcases hL with ⟨rfl, hn⟩ | rfl
      · exact putL_nil e
      · obtain ⟨k, a, b, d⟩ := e
        simp only at hk; subst hk
        exact putL_one _ _ _ _ _ _ _
    have hadd := addT_pcs c (st := st) hj hx hfe (fun hn => by
      rcases hL with ⟨rfl, _⟩ | rfl
      · exact he
      · rw [findL_one] at hn; cases hn) (by omega)
    rw [hpt _ rfl, hpt _ rfl] at hadd
    cases hSj : S j with
    | true =>
      have hsame : ∀ i, (S i || decide (i = j)) = S i := fun i => by
        by_cases hij : i = j
        · subst hij; rw [hSj]; rfl
        · simp [hij]
      rw [hSj, if_pos rfl] at hadd
      have hfs : (fun i => S i || decide (i = j)) = S := funext hsame
      exact ⟨([], 10), L, 0, hadd, by rw [hfs]; exact .inr ⟨hS, rfl, hL⟩, .inr (.inl ⟨rfl, rfl⟩)⟩
    | false =>
      rw [hSj, if_neg (by simp)] at hadd
      by_cases hw : wholeB (part h s z n (fun i => S i || decide (i = j))) = true
      · rw [if_pos hw, part_fin c h0 h1 ((part_whole c _).1 hw) hp] at hadd
        exact ⟨(p, 0), _, 1, hadd, .inl ⟨(part_whole c _).1 hw, rfl, rfl⟩, .inl ⟨rfl, rfl, rfl⟩⟩
      · rw [if_neg hw] at hadd
        exact ⟨([], 10), _, 0, hadd, .inr ⟨fun h => hw ((part_whole c _).2 h), rfl, .inr rfl⟩, .inr (.inl ⟨rfl, rfl⟩)⟩
theorem OSt.start {h : H4} {s : List UInt8} {z n : Nat} (hn : 0 < n) : OSt h s z n (fun _ => false) [] 0 := .inr ⟨fun h => (by have := h 0 hn; cases this), rfl, .inl ⟨rfl, fun _ _ => rfl⟩⟩
theorem OSt.lacks {h : H4} {s : List UInt8} {z n : Nat} {S : Nat → Bool} {L : List En} {m k : Nat} (ho : OSt h s z n S L m) (hk : k < n) (hS : S k = false) : m = 0 ∧ ((L = [] ∧ ∀ i, i < n → S i = false) ∨ L = [⟨kyOf h, part h s z n S, false, 0⟩]) := by
  rcases ho with ⟨h1, _⟩ | ⟨_, h2⟩
  · rw [h1 k hk] at hS; cases hS
  · exact h2
/-- a piece, where another one is lacking -/
theorem hole_step {h : H4} {s p : List UInt8} {z n : Nat} (c : CutOk h s z n) (h0 : h.off = 0) (h1 : h.mf = false) (hp : putE h s = .ok p) {st : Sto} (hb : 65536 * 2 ≤ st.bts) (he : 1 ≤ st.ents) {S : Nat → Bool} {L : List En} {made j k : Nat} (ho : OSt h s z n S L made) (hj : j < n) (hk : k < n) (hS : S k = false) (hjk : j ≠ k) {x : List UInt8} (hx : putE (pcs h s z j).h (pcs h s z j).s = .ok x) :
    ∃ L', addT st L x = (([], 10), L') ∧ OSt h s z n (fun i => S i || decide (i = j)) L' 0 := by
  obtain ⟨r, L', m', g1, g2, g3⟩ := once_step c h0 h1 hp hb he ho hj hx
  have hS' : (S k || decide (k = j)) = false := by rw [hS]; simp; omega
  have hm := (ho.lacks hk hS).1
  have hm' := (g2.lacks hk hS').1
  rcases g3 with ⟨_, _, e⟩ | ⟨rfl, e⟩ | ⟨_, e, _⟩
  · omega
  · exact ⟨L', g1, by rw [← hm']; exact g2⟩
  · omega
theorem hole_ticks {h : H4} {s : List UInt8} {z n : Nat} {S : Nat → Bool} {L : List En} {m k j : Nat} (ho : OSt h s z n S L m) (hk : k < n) (hS : S k = false) (hj : j < n) (hSj : S j = true) (b : Nat) (e : Nat) :
    L.length = 1 ∧ opnL L = 1 ∧ (tickL ⟨e, b, 2⟩ L).length = 1 ∧ tickL ⟨e, b, 2⟩ (tickL ⟨e, b, 2⟩ L) = [] := by
  rcases (ho.lacks hk hS).2 with ⟨_, h2⟩ | rfl
  · rw [h2 j hj] at hSj; cases hSj
  · exact ⟨rfl, rfl, rfl, rfl⟩
/-- a piece that isn't like the one at its place -/
theorem bad_step {h : H4} {s : List UInt8} {z n : Nat} (c : CutOk h s z n) {st : Sto} {S : Nat → Bool} {a k : Nat} (hk : k + 1 < n) (hS : S k = true) {s' : List UInt8} (hl : s'.length = (pcs h s z k).s.length) (hne : s' ≠ (pcs h s z k).s) {x : List UInt8} (hx : putE (pcs h s z k).h s' = .ok x) :
    addT st [⟨kyOf h, part h s z n S, false, a⟩] x = (([], 14), [⟨kyOf h, part h s z n S, false, a⟩]) := by
  have hkn : k < n := by omega
  have hlen := pcs_len h s z k
  have hmf := pcs_mf c hkn
  rw [decide_eq_true hk] at hmf
  have hmore := (more_iff c hkn).2 hk
  have h3 : (k + 1) * z = k * z + z := by rw [Nat.add_mul, Nat.one_mul]
  have h0 := c.z0
  have hpos : 0 < s'.length := by omega
  obtain ⟨q, hq⟩ : ∃ q : Pc, q = ⟨(pcs h s z k).h, s'⟩ := ⟨_, rfl⟩
  have qlo : q.lo = (pcs h s z k).lo := by rw [hq]; rfl
  have qhi : q.hi = (pcs h s z k).hi := by rw [hq]; unfold Pc.hi; rw [hl]; rfl
  have qmf : q.h.mf = (pcs h s z k).h.mf := by rw [hq]
  have qs : q.s = s' := by rw [hq]
  have hodd : oddB q = false := by
    have h5 := (pcs_ok c hkn).odd
    have e1 : (q.s = []) ↔ ((pcs h s z k).s = []) := by
      rw [← List.length_eq_zero_iff, ← List.length_eq_zero_iff, qs, hl]
    unfold oddB at h5 ⊢
    rw [qlo, qhi, qmf, qs, hl]
    rw [qs] at e1
    simp only [e1]; exact h5
  have hlike : (part h s z n S).any (likeB q) = false := by
    refine List.any_eq_false.2 fun p hp => ?_
    obtain ⟨i, h1, h2, rfl⟩ := part_mem.1 hp
    unfold likeB
    simp only [Bool.and_eq_true, decide_eq_true_eq]
    rintro ⟨⟨e1, e2⟩, _⟩
    rw [qlo, pcs_lo c, pcs_lo c] at e1
    have := Nat.eq_of_mul_eq_mul_right c.z0 e1
    subst this
    exact hne (by rw [← e2, qs])
  have hfit : (part h s z n S).any (fun o => !fitB q o) = true := by
    refine List.any_eq_true.2 ⟨_, part_mem.2 ⟨k, hkn, hS, rfl⟩, ?_⟩
    have hhi : (pcs h s z k).lo < (pcs h s z k).hi := by unfold Pc.hi; omega
    unfold fitB
    rw [qlo, qhi, decide_eq_false (by omega), Bool.false_or, Bool.false_and, Bool.false_and, Bool.false_and]; rfl
  unfold addT
  rw [get_put hx]
  show (if oddB ⟨(pcs h s z k).h, s'⟩ = true then _ else _) = _
  rw [← hq, if_neg (by rw [hodd]; simp), show findL [(⟨kyOf h, part h s z n S, false, a⟩ : En)] (kyOf (pcs h s z k).h) = some ⟨kyOf h, part h s z n S, false, a⟩ from findL_one _ _ _ _]
  show (if false = true then _ else if (part h s z n S).any (likeB q) = true then _ else if (part h s z n S).any (fun o => !fitB q o) = true then _ else _) = _
  rw [if_neg (by simp), hlike, if_neg (by simp), hfit, if_pos rfl]
end Go.Proofs.Ythdkbocokefdhaa
