import Derived.Test.YthdkbocokefdhaaAwp
import Derived.Test.YthdkbocokefdhaaSav
import Derived.DeepKeys4
import Derived.Maps.RangeWalk
import Derived.Maps.OwnOps
import Derived.Maps.OwnSet
/- The table's map: its keys. -/
namespace Go.Proofs.Ythdkbocokefdhaa
set_option maxRecDepth 100000
open Go.RowKit
/-- a key that may be -/
def Kok (k : Ky) : Prop := k.src.length = 4 ∧ k.dst.length = 4 ∧ 0 ≤ k.proto ∧ k.proto ≤ 255 ∧ 0 ≤ k.id ∧ k.id ≤ 65535
def kc (k : Ky) : Array Value := #[.string (bs k.src), .string (bs k.dst), .int .i64 k.proto, .int .i64 k.id]
def kv (k : Ky) : Value := .agg (kc k)
def kl (k : Ky) : Lit := .string (keyBytes [.string k.src, .string k.dst, .int .i64 k.proto, .int .i64 k.id])
theorem laidOut_ : laidOutB Try.prog = true := by kernel_rfl
theorem wide68 : (match Try.prog.underlying 68 with | some (.array _ _) | some (.struct _) => true | _ => false) = true := by kernel_rfl
theorem law68' : WideMaps.KeyLaw Try.prog 68 := deep_law_laid laidOut_ (m := 3) (by omega) (of_decide_eq_true (by kernel_rfl)) (by kernel_rfl) wide68
theorem law68 : Maps.Keyed Try.prog 68 := Maps.Keyed.of_law law68'
theorem formed68 (k : Ky) : (kv k).formed Try.prog 68 = true := by
  have hc : Try.prog.cellsOf 68 = 4 := by kernel_rfl
  unfold kv kc
  simp [Value.formed, Try.underlying68, hc]
theorem wf64 {n : Int} (h1 : -9223372036854775808 ≤ n) (h2 : n ≤ 9223372036854775807) : (Lit.int .i64 n).wf = true := by
  show (decide (IntKind.i64.min ≤ n) && decide (n ≤ IntKind.i64.max)) = true
  rw [show IntKind.i64.min = -9223372036854775808 by rfl, show IntKind.i64.max = 9223372036854775807 by rfl, decide_eq_true h1, decide_eq_true h2]; rfl
theorem lits9 (n : Nat) (s : ByteArray) (h : s.size ≤ maxLen) : Try.prog.keyLits (n + 1) 9 [.string s] = some [.string s.data.toList] := by
  unfold Program.keyLits; rw [Try.underlying9]; simp [h]
theorem lits3 (n : Nat) (x : Int) (h : (Lit.int .i64 x).wf = true) : Try.prog.keyLits (n + 1) 3 [.int .i64 x] = some [.int .i64 x] := by
  unfold Program.keyLits; rw [Try.underlying3]; simp [h]
theorem keyOf_kv {k : Ky} (h : Kok k) : keyOf Try.prog 68 (kv k) = some (kl k) := by
  obtain ⟨h1, h2, h3, h4, h5, h6⟩ := h
  have ht : Try.prog.keyType 68 = true := by kernel_rfl
  have hsz : ∃ n, Try.prog.types.size + 1 = n + 2 := ⟨Try.prog.types.size - 1, by have : (1 : Nat) ≤ Try.prog.types.size := of_decide_eq_true (by kernel_rfl); omega⟩
  obtain ⟨n, hn⟩ := hsz
  have hc : Try.prog.cellsOf 68 = 4 := by kernel_rfl
  have c9 : Try.prog.cellsOf 9 = 1 := by kernel_rfl
  have c3 : Try.prog.cellsOf 3 = 1 := by kernel_rfl
  have hm : maxLen = 9223372036854775807 := rfl
  have z1 : (bs k.src).size ≤ maxLen := by rw [bs_size, hm]; omega
  have z2 : (bs k.dst).size ≤ maxLen := by rw [bs_size, hm]; omega
  have w1 : (Lit.int .i64 k.proto).wf = true := wf64 (by omega) (by omega)
  have w2 : (Lit.int .i64 k.id).wf = true := wf64 (by omega) (by omega)
  unfold keyOf
  rw [Try.underlying68]
  simp only [ht, formed68, Bool.and_self, if_true]
  rw [hn]
  unfold Program.keyLits
  rw [Try.underlying68]
  unfold kv kc
  simp [Value.cells, hc]
  simp only [c9, c3, List.take_succ_cons, List.take_zero, lits9 _ _ z1, lits9 _ _ z2, lits3 _ _ w1, lits3 _ _ w2]
  simp [kl, bs]
theorem kv_inj {a b : Ky} (h : kv a = kv b) : a = b := by
  obtain ⟨a1, a2, a3, a4⟩ := a
  obtain ⟨b1, b2, b3, b4⟩ := b
  unfold kv kc at h
  simp at h
  obtain ⟨h1, h2, rfl, rfl⟩ := h
  rw [bs_inj h1, bs_inj h2]
theorem kl_inj {a b : Ky} (ha : Kok a) (hb : Kok b) (h : kl a = kl b) : a = b := kv_inj (law68.inj (keyOf_kv ha) (by rw [h]; exact keyOf_kv hb))
theorem kl_key (k : Ky) : WideAt.IsKeyLit (kl k) := trivial
theorem keyOf_inv {v : Value} {l : Lit} (k : Ky) (hk : Kok k) (h : keyOf Try.prog 68 v = some l) (hl : l = kl k) : v = kv k := law68.inj h (by rw [hl]; exact keyOf_kv hk)
/-- how a pointer reads as a map's element -/
def pE (p : Nat) : DataW Unit := .lit (.int .i64 (p : Int))
def ptR : Value → Option (DataW Unit × List MemPlace)
  | .pointer none => some (.lit (.bool false), [])
  | .pointer (some ⟨p, 0, none⟩) => some (pE p, [])
  | _ => none
theorem pE_inj {x y : Nat} (h : pE x = pE y) : x = y := by unfold pE at h; simp at h; omega
theorem ptR_mk (p : Nat) : ptR (.pointer (some ⟨p, 0, none⟩)) = some (pE p, []) := rfl
theorem ptR_inv {v : Value} {p : Nat} {q : List MemPlace} (h : ptR v = some (pE p, q)) : v = .pointer (some ⟨p, 0, none⟩) := by
  unfold ptR at h
  split at h
  · simp [pE] at h
  · rename_i p'
    simp only [Option.some.injEq, Prod.mk.injEq] at h
    rw [pE_inj h.1]
  · cases h
theorem ptR_nil {v : Value} {q : List MemPlace} (h : ptR v = some (.lit (.bool false), q)) : v = .pointer none := by
  unfold ptR at h
  split at h
  · rfl
  · simp [pE] at h
  · cases h
theorem ptR_some {v : Value} {y : DataW Unit × List MemPlace} (h : ptR v = some y) : y.1 = .lit (.bool false) ∨ ∃ p, y.1 = pE p := by
  unfold ptR at h
  split at h
  · cases h; exact .inl rfl
  · cases h; exact .inr ⟨_, rfl⟩
  · cases h
end Go.Proofs.Ythdkbocokefdhaa
/- The table's map: from keys to entries' places. -/
namespace Go.Proofs.Ythdkbocokefdhaa
set_option maxRecDepth 100000
open Go.RowKit
theorem kl_ne {a b : Ky} (ha : Kok a) (hb : Kok b) (h : a ≠ b) : kl a ≠ kl b := fun e => h (kl_inj ha hb e)
def ks (K : List (Ky × Nat)) : List Ky := K.map Prod.fst
theorem ks_mem {K : List (Ky × Nat)} {k : Ky} : k ∈ ks K ↔ ∃ x ∈ K, x.1 = k := by unfold ks; rw [List.mem_map]
structure MapIs (D : DataW Unit) (K : List (Ky × Nat)) : Prop where
  tidy : Maps.Tidy D
  has : ∀ k, Kok k → Maps.has D (kl k) = decide (k ∈ ks K)
  val : ∀ x ∈ K, ∀ z, D.atKey (kl x.1) z = pE x.2
  size : Maps.size D = K.length
  nodup : (ks K).Nodup
  ok : ∀ x ∈ K, Kok x.1
  only : ∀ l, Maps.has D l = true → ∃ i, Kok i ∧ l = kl i
theorem MapIs.nil : MapIs (.map []) [] := ⟨Maps.tidy_empty, (fun k _ => by simp [ks, Maps.has_eq]), (fun b hb => by simp at hb), rfl, List.nodup_nil, (fun x h => by cases h), fun l h => by simp [Maps.has_eq] at h⟩
theorem MapIs.perm {D : DataW Unit} {K K' : List (Ky × Nat)} (h : MapIs D K) (hp : K'.Perm K) : MapIs D K' := by
  have hi : (ks K').Perm (ks K) := hp.map Prod.fst
  refine ⟨h.tidy, fun i hi' => ?_, fun b hb => h.val b (hp.mem_iff.1 hb), by rw [h.size, hp.length_eq], hi.nodup_iff.2 h.nodup, fun x hx => h.ok x (hp.mem_iff.1 hx), h.only⟩
  rw [h.has i hi', decide_eq_decide]
  exact hi.mem_iff.symm
theorem MapIs.put {D : DataW Unit} {K : List (Ky × Nat)} (h : MapIs D K) (k : Ky) (p : Nat) (hk : Kok k) (hb : k ∉ ks K) : MapIs (D.put (kl k) (pE p)) ((k, p) :: K) := by
  refine ⟨h.tidy.put (kl_key _) _, fun i hi' => ?_, fun c hc z => ?_, ?_, ?_, ?_, fun l hl => ?_⟩
  · by_cases hi : i = k
    · subst hi
      rw [Maps.has_put_same h.tidy.isMap (kl_key _)]
      symm; exact decide_eq_true (List.mem_cons_self ..)
    · rw [Maps.has_put_other (kl_ne hi' hk hi), h.has i hi', decide_eq_decide]
      show _ ↔ i ∈ k :: ks K
      rw [List.mem_cons]
      exact ⟨.inr, fun h => h.resolve_left hi⟩
  · rcases List.mem_cons.1 hc with rfl | hc
    · exact Maps.atKey_put_same h.tidy.isMap (kl_key _) _ _
    · have hne : c.1 ≠ k := fun e => hb (ks_mem.2 ⟨c, hc, e⟩)
      rw [Maps.atKey_put_other (kl_ne (h.ok c hc) hk hne)]
      exact h.val c hc z
  · rw [Maps.size_put h.tidy, h.has k hk, decide_eq_false hb, if_neg (by simp), h.size, List.length_cons]
  · show (k :: ks K).Nodup
    exact List.nodup_cons.2 ⟨hb, h.nodup⟩
  · intro x hx
    rcases List.mem_cons.1 hx with rfl | hx
    · exact hk
    · exact h.ok x hx
  · by_cases he : l = kl k
    · exact ⟨k, hk, he⟩
    · rw [Maps.has_put_other he] at hl
      exact h.only l hl
/-- the same place put again -/
theorem MapIs.again {D : DataW Unit} {K : List (Ky × Nat)} (h : MapIs D K) (k : Ky) (p : Nat) (hk : (k, p) ∈ K) : MapIs (D.put (kl k) (pE p)) K := by
  have hok := h.ok _ hk
  have hm : k ∈ ks K := ks_mem.2 ⟨_, hk, rfl⟩
  refine ⟨h.tidy.put (kl_key _) _, fun i hi' => ?_, fun c hc z => ?_, ?_, h.nodup, h.ok, fun l hl => ?_⟩
  · by_cases hi : i = k
    · subst hi
      rw [Maps.has_put_same h.tidy.isMap (kl_key _)]
      symm; exact decide_eq_true hm
    · rw [Maps.has_put_other (kl_ne hi' hok hi), h.has i hi']
  · by_cases hc2 : c.1 = k
    · have hv := h.val c hc (.map [])
      have hv2 := h.val _ hk (.map [])
      simp only at hv2
      rw [hc2, hv2] at hv
      rw [hc2, Maps.atKey_put_same h.tidy.isMap (kl_key _), hv]
    · rw [Maps.atKey_put_other (kl_ne (h.ok c hc) hok hc2)]
      exact h.val c hc z
  · rw [Maps.size_put h.tidy, h.has k hok, decide_eq_true hm, if_pos rfl, h.size]
  · by_cases he : l = kl k
    · exact ⟨k, hok, he⟩
    · rw [Maps.has_put_other he] at hl
      exact h.only l hl
def outK (K : List (Ky × Nat)) (k : Ky) : List (Ky × Nat) := K.filter (fun x => decide (x.1 ≠ k))
theorem outK_mem {K : List (Ky × Nat)} {k : Ky} {x : Ky × Nat} : x ∈ outK K k ↔ x ∈ K ∧ x.1 ≠ k := by unfold outK; rw [List.mem_filter]; simp
theorem outK_ks {K : List (Ky × Nat)} {i j : Ky} : j ∈ ks (outK K i) ↔ j ∈ ks K ∧ j ≠ i := by
  rw [ks_mem, ks_mem]
  constructor
  · rintro ⟨b, hb, rfl⟩
    have := outK_mem.1 hb
    exact ⟨⟨b, this.1, rfl⟩, this.2⟩
  · rintro ⟨⟨b, hb, rfl⟩, hne⟩
    exact ⟨b, outK_mem.2 ⟨hb, hne⟩, rfl⟩
theorem outK_len {K : List (Ky × Nat)} {i : Ky} (hn : (ks K).Nodup) (hi : i ∈ ks K) : (outK K i).length + 1 = K.length := by
  induction K with
  | nil => cases hi
  | cons b t ih =>
    have hn' : b.1 ∉ ks t ∧ (ks t).Nodup := List.nodup_cons.1 hn
    by_cases hb : b.1 = i
    · have e : outK (b :: t) i = t := by
        unfold outK
        rw [List.filter_cons_of_neg (by simp [hb]), List.filter_eq_self]
        intro c hc
        have : c.1 ≠ i := fun e => hn'.1 (ks_mem.2 ⟨c, hc, by rw [e, hb]⟩)
        simpa using this
      rw [e, List.length_cons]
    · have hi' : i ∈ ks t := by
        rcases List.mem_cons.1 (show i ∈ b.1 :: ks t from hi) with h | h
        · exact absurd h.symm hb
        · exact h
      have e : outK (b :: t) i = b :: outK t i := by
        unfold outK
        rw [List.filter_cons_of_pos (by simpa using hb)]
      rw [e, List.length_cons, List.length_cons, ih hn'.2 hi']
theorem MapIs.del {D : DataW Unit} {K : List (Ky × Nat)} (h : MapIs D K) (k : Ky) (hk : k ∈ ks K) : MapIs (D.del (kl k)) (outK K k) := by
  obtain ⟨x0, hx0, rfl⟩ := ks_mem.1 hk
  have hok := h.ok x0 hx0
  refine ⟨h.tidy.del _, fun j hj' => ?_, fun c hc z => ?_, ?_, h.nodup.sublist (List.filter_sublist.map Prod.fst), fun x hx => h.ok x (outK_mem.1 hx).1, fun l hl => ?_⟩
  · by_cases hj : j = x0.1
    · subst hj
      rw [Maps.has_del_same]
      symm; exact decide_eq_false (fun h => (outK_ks.1 h).2 rfl)
    · rw [Maps.has_del_other (kl_ne hj' hok hj), h.has j hj', decide_eq_decide, outK_ks]
      exact ⟨fun h => ⟨h, hj⟩, fun h => h.1⟩
  · have := outK_mem.1 hc
    rw [Maps.atKey_del_other (kl_ne (h.ok c this.1) hok this.2)]
    exact h.val c this.1 z
  · have hs := Maps.size_del (k := kl x0.1) h.tidy
    rw [h.has _ hok, decide_eq_true hk, if_pos rfl, h.size] at hs
    have := outK_len h.nodup hk
    omega
  · by_cases he : l = kl x0.1
    · rw [he, Maps.has_del_same] at hl; cases hl
    · rw [Maps.has_del_other he] at hl
      exact h.only l hl
/-- the table's map in block M -/
def PM (M : Nat) (K : List (Ky × Nat)) (w : World) : Prop := ∃ D, w.ownsMap Try.prog 68 ptR M K.length D ∧ MapIs D K
theorem own_below {P : Program} {k : TypeId} {R : Value → Option (DataW Unit × List MemPlace)} {b n : Nat} {D : DataW Unit} {w w' : World} (h : w.ownsMap P k R b n D) (hb : Below w.heap.size w w') : w'.ownsMap P k R b n D := by
  obtain ⟨es, clock, e1, e2⟩ := h
  exact ⟨es, clock, by rw [hb.block b (heap_lt e1)]; exact e1, e2⟩
/-- a block that stays as it was keeps its map -/
theorem own_same {P : Program} {k : TypeId} {R : Value → Option (DataW Unit × List MemPlace)} {b n : Nat} {D : DataW Unit} {w w' : World} (h : w.ownsMap P k R b n D) (hb : w'.heap[b]? = w.heap[b]?) : w'.ownsMap P k R b n D := by
  obtain ⟨es, clock, e1, e2⟩ := h
  exact ⟨es, clock, by rw [hb]; exact e1, e2⟩
theorem PM.same {M : Nat} {K : List (Ky × Nat)} {w w' : World} (h : PM M K w) (hb : w'.heap[M]? = w.heap[M]?) : PM M K w' := by
  obtain ⟨D, h1, h2⟩ := h
  exact ⟨D, own_same h1 hb, h2⟩
theorem PM.lt {M : Nat} {K : List (Ky × Nat)} {w : World} (h : PM M K w) : M < w.heap.size := by
  obtain ⟨D, h1, h2⟩ := h
  exact h1.lt
theorem PM.below {M : Nat} {K : List (Ky × Nat)} {w w' : World} (h : PM M K w) (hb : Below w.heap.size w w') : PM M K w' := h.same (hb.block _ h.lt)
theorem zero69 (w : World) : (zeroValue 69).run Try.prog w = .ok (.pointer none) w := by kernel_rfl
/-- where a key's entry lies -/
def getK (K : List (Ky × Nat)) (k : Ky) : Option Nat := (K.find? (fun x => decide (x.1 = k))).map Prod.snd
def ptV : Option Nat → Value
  | none => .pointer none
  | some p => .pointer (some ⟨p, 0, none⟩)
theorem getK_some {K : List (Ky × Nat)} {k : Ky} {p : Nat} (h : getK K k = some p) : (k, p) ∈ K := by
  unfold getK at h
  obtain ⟨x, hx, rfl⟩ := Option.map_eq_some_iff.1 h
  have h1 := List.mem_of_find?_eq_some hx
  have h2 : x.1 = k := by simpa using List.find?_some hx
  rw [← h2]; exact h1
theorem getK_none {K : List (Ky × Nat)} {k : Ky} (h : getK K k = none) : k ∉ ks K := by
  intro hm
  obtain ⟨b, hb, he⟩ := ks_mem.1 hm
  have := List.find?_eq_none.1 (Option.map_eq_none_iff.1 h) b hb
  simp [he] at this
theorem ks_one : ∀ {K : List (Ky × Nat)}, (ks K).Nodup → ∀ {k : Ky} {p q : Nat}, (k, p) ∈ K → (k, q) ∈ K → p = q
  | [], _, _, _, _, h, _ => by cases h
  | b :: t, hn, k, p, q, h1, h2 => by
    have hn' : b.1 ∉ ks t ∧ (ks t).Nodup := List.nodup_cons.1 hn
    rcases List.mem_cons.1 h1 with e1 | e1 <;> rcases List.mem_cons.1 h2 with e2 | e2
    · rw [← e2] at e1; simp at e1; exact e1
    · exact absurd (ks_mem.2 ⟨_, e2, by rw [← e1]⟩) hn'.1
    · exact absurd (ks_mem.2 ⟨_, e1, by rw [← e2]⟩) hn'.1
    · exact ks_one hn'.2 e1 e2
theorem getK_of {K : List (Ky × Nat)} {k : Ky} {p : Nat} (hn : (ks K).Nodup) (h : (k, p) ∈ K) : getK K k = some p := by
  cases hg : getK K k with
  | none => exact absurd (ks_mem.2 ⟨_, h, rfl⟩) (getK_none hg)
  | some q => rw [ks_one hn (getK_some hg) h]
theorem PM.look {M : Nat} {K : List (Ky × Nat)} {w : World} (h : PM M K w) (k : Ky) (hk : Kok k) :
    (Instr.lookup 63 (.map (some M)) (kv k) true).run Try.prog w = .ok (.tuple #[ptV (getK K k), .bool (getK K k).isSome]) w := by
  obtain ⟨D, h1, h2⟩ := h
  obtain ⟨v, ps, e1, e2⟩ := h1.look_ok law68 Try.underlying63 (zero69 w) (show ptR (.pointer none) = some (.lit (.bool false), []) from rfl) (keyOf_kv hk)
  rw [e1, h2.has k hk]
  cases hg : getK K k with
  | none =>
    have hn := getK_none hg
    rw [decide_eq_false hn]
    have e3 : D.atKey (kl k) (.lit (.bool false)) = .lit (.bool false) := Maps.atKey_of_not_has (by rw [h2.has k hk, decide_eq_false hn]) _
    rw [e3] at e2
    rw [ptR_nil e2]; rfl
  | some p =>
    have hb := getK_some hg
    rw [decide_eq_true (ks_mem.2 ⟨_, hb, rfl⟩)]
    have e3 := h2.val _ hb (.lit (.bool false))
    simp only at e3
    rw [e3] at e2
    rw [ptR_inv e2]; rfl
theorem PM.len {M : Nat} {K : List (Ky × Nat)} {w : World} (h : PM M K w) (ty : TypeId) : (Builtin.len_ #[63] ty #[.map (some M)]).run Try.prog w = .ok (.int .i64 K.length) w := by
  obtain ⟨D, h1, h2⟩ := h
  rw [← h2.size]
  exact h1.len Try.underlying63 ty
theorem own_tight {P : Program} {k : TypeId} {R : Value → Option (DataW Unit × List MemPlace)} {b n : Nat} {D : DataW Unit} {w : World} (h : w.ownsMap P k R b n D) : w.ownsMap P k R b (Maps.size D) D := by
  obtain ⟨es, clock, e1, e2, e3, rfl⟩ := h
  exact ⟨es, clock, e1, e2, by simp [Maps.size, length_sorted], rfl⟩
theorem PM.put {M : Nat} {K : List (Ky × Nat)} {w : World} (h : PM M K w) (k : Ky) (p : Nat) (hk : Kok k) (hb : k ∉ ks K) (hl : K.length ≤ 100000) :
    ∃ w', (Instr.mapUpdate 63 (.map (some M)) (kv k) (.pointer (some ⟨p, 0, none⟩))).run Try.prog w = .ok () w' ∧ PM M ((k, p) :: K) w' ∧ w.grownBy w' (some M) := by
  obtain ⟨D, h1, h2⟩ := h
  obtain ⟨w', e1, e2, e3⟩ := h1.update law68 Try.underlying63 (by unfold maxLen; omega) (keyOf_kv hk) (ptR_mk p)
  exact ⟨w', e1, ⟨_, e2, h2.put k p hk hb⟩, e3⟩
theorem PM.again {M : Nat} {K : List (Ky × Nat)} {w : World} (h : PM M K w) (k : Ky) (p : Nat) (hb : (k, p) ∈ K) (hl : K.length ≤ 100000) :
    ∃ w', (Instr.mapUpdate 63 (.map (some M)) (kv k) (.pointer (some ⟨p, 0, none⟩))).run Try.prog w = .ok () w' ∧ PM M K w' ∧ w.grownBy w' (some M) := by
  obtain ⟨D, h1, h2⟩ := h
  obtain ⟨w', e1, e2, e3⟩ := h1.update law68 Try.underlying63 (by unfold maxLen; omega) (keyOf_kv (h2.ok _ hb)) (ptR_mk p)
  have h3 := h2.again k p hb
  refine ⟨w', e1, ⟨_, ?_, h3⟩, e3⟩
  rw [← h3.size]; exact own_tight e2
theorem PM.perm {M : Nat} {K K' : List (Ky × Nat)} {w : World} (h : PM M K w) (hp : K'.Perm K) : PM M K' w := by
  obtain ⟨D, h1, h2⟩ := h
  exact ⟨D, by rw [hp.length_eq]; exact h1, h2.perm hp⟩
theorem PM.made (w : World) : PM w.heap.size [] (w.alloc (.map #[] 0)) := ⟨_, World.ownsMap_made w Try.prog 68 ptR, MapIs.nil⟩
theorem PM.nodup {M : Nat} {K : List (Ky × Nat)} {w : World} (h : PM M K w) : (ks K).Nodup := by
  obtain ⟨D, h1, h2⟩ := h
  exact h2.nodup
theorem PM.ok {M : Nat} {K : List (Ky × Nat)} {w : World} (h : PM M K w) : ∀ x ∈ K, Kok x.1 := by
  obtain ⟨D, h1, h2⟩ := h
  exact h2.ok
/-- a round through the map: what there is in it, which of these have come out, how many may come -/
def Rg (M r : Nat) (K : List (Ky × Nat)) (acc : List Ky) (cnt : Nat) (w : World) : Prop :=
  ∃ D left n, w.ranges Try.prog 68 ptR M r n D left cnt ∧ MapIs D K ∧ (∀ k, left k = true → ∃ i, Kok i ∧ k = kl i) ∧ (∀ i, Kok i → left (kl i) = decide (i ∈ ks K ∧ i ∉ acc))
theorem Rg.owns {M r : Nat} {K : List (Ky × Nat)} {acc : List Ky} {cnt : Nat} {w : World} (h : Rg M r K acc cnt w) : PM M K w := by
  obtain ⟨D, left, n, h1, h2, _⟩ := h
  refine ⟨D, ?_, h2⟩
  rw [← h2.size]; exact own_tight h1.owns
theorem Rg.kept {M r : Nat} {K : List (Ky × Nat)} {acc : List Ky} {cnt : Nat} {w w' : World} {row : Option Nat} (h : Rg M r K acc cnt w) (hg : w.grownBy w' row) (h1 : some M ≠ row) (h2 : some r ≠ row) : Rg M r K acc cnt w' := by
  obtain ⟨D, left, n, h3, h4⟩ := h
  exact ⟨D, left, n, h3.kept hg h1 h2, h4⟩
theorem Rg.left_eq {M r : Nat} {K : List (Ky × Nat)} {acc : List Ky} {cnt : Nat} {w : World} (h : Rg M r K acc cnt w) : w.rangeLeft M r = cnt := by
  obtain ⟨D, left, n, h1, _⟩ := h
  exact h1.left_eq
theorem Rg.ne {M r : Nat} {K : List (Ky × Nat)} {acc : List Ky} {cnt : Nat} {w : World} (h : Rg M r K acc cnt w) : r ≠ M ∧ r < w.heap.size ∧ M < w.heap.size := by
  have hl := h.owns.lt
  obtain ⟨D, left, n, h1, _⟩ := h
  exact ⟨h1.ne, h1.lt, hl⟩
theorem Rg.next {M r : Nat} {K : List (Ky × Nat)} {acc : List Ky} {cnt : Nat} {w : World} (h : Rg M r K acc cnt w) (ty : TypeId) :
    (cnt = 0 ∧ (∀ i ∈ ks K, i ∈ acc) ∧ (Instr.next (.pointer (some ⟨r, 0, none⟩)) false ty).run Try.prog w = .ok (.tuple #[.bool false]) w) ∨
    ∃ k p w' cnt', (k, p) ∈ K ∧ k ∉ acc ∧ (Instr.next (.pointer (some ⟨r, 0, none⟩)) false ty).run Try.prog w = .ok (.tuple #[.bool true, kv k, .pointer (some ⟨p, 0, none⟩)]) w' ∧ Rg M r K (k :: acc) cnt' w' ∧ cnt' < cnt ∧ w.grownBy w' (some r) ∧ w'.heap.size = w.heap.size ∧
      (Instr.entry (.pointer (some ⟨r, 0, none⟩))).run Try.prog w' = .ok (.tuple #[kv k, .pointer (some ⟨p, 0, none⟩)]) w' := by
  obtain ⟨D, left, n, h1, h2, h5, h6⟩ := h
  rcases h1.next law68 ty with ⟨e1, e2, e3⟩ | ⟨key, v, kl', y, w', cnt', e1, e2, e3, e4, e5, e6, e7, e8, e9, e10⟩
  · refine .inl ⟨e1, fun i hi => ?_, e3⟩
    obtain ⟨x, hx, rfl⟩ := ks_mem.1 hi
    have := h6 x.1 (h2.ok x hx)
    rw [e2] at this
    have := of_decide_eq_false this.symm
    rcases Classical.em (x.1 ∈ acc) with h | h
    · exact h
    · exact absurd ⟨hi, h⟩ this
  · obtain ⟨k, hk, rfl⟩ := h5 kl' e2
    have hkey := keyOf_inv k hk e1 rfl
    subst hkey
    have e11 := h6 k hk
    rw [e2] at e11
    obtain ⟨hxK, hxa⟩ := of_decide_eq_true e11.symm
    obtain ⟨c, hc, hcx⟩ := ks_mem.1 hxK
    obtain ⟨k', p⟩ := c
    simp only at hcx
    subst hcx
    have e12 := h2.val _ hc (.map [])
    simp only at e12
    rw [e4] at e12
    obtain ⟨y1, y2⟩ := y
    simp only at e12
    subst e12
    have hv := ptR_inv e3
    subst hv
    refine .inr ⟨k', p, w', cnt', hc, hxa, e5, ⟨D, _, n, e6, h2, fun k hk => h5 k (by simp at hk; exact hk.1), fun i hi => ?_⟩, e7, e8, e9, e10⟩
    show (left (kl i) && !(kl i).sameKey (kl k')) = _
    rw [h6 i hi]
    by_cases hib : i = k'
    · subst hib
      rw [WideAt.sameKey_self (kl_key _)]
      simp
    · rw [Maps.sameKey_ne (kl_ne hi hk hib), Bool.not_false, Bool.and_true, decide_eq_decide]
      simp [hib]
/-- one that came out is deleted -/
theorem Rg.drop {M r : Nat} {K : List (Ky × Nat)} {acc : List Ky} {cnt : Nat} {w : World} (h : Rg M r K acc cnt w) (k : Ky) (hk : k ∈ ks K) (ha : k ∈ acc) (ty : TypeId) :
    ∃ w' cnt', (Builtin.delete_ #[63, 68] ty #[.map (some M), kv k]).run Try.prog w = .ok (.tuple #[]) w' ∧ Rg M r (outK K k) acc cnt' w' ∧ cnt' ≤ cnt ∧ w.mapTurned w' M := by
  obtain ⟨D, left, n, h1, h2, h5, h6⟩ := h
  obtain ⟨x, hx, rfl⟩ := ks_mem.1 hk
  have hok := h2.ok x hx
  obtain ⟨w', cnt', e1, e2, e3, e4⟩ := h1.drop law68 Try.underlying63 (keyOf_kv hok) ty
  refine ⟨w', cnt', e1, ⟨_, _, n, e2, h2.del _ hk, fun k hk => h5 k (by simp at hk; exact hk.1), fun i hi => ?_⟩, e3, e4⟩
  show (left (kl i) && !(kl i).sameKey (kl x.1)) = _
  rw [h6 i hi]
  by_cases hib : i = x.1
  · subst hib
    rw [WideAt.sameKey_self (kl_key _), decide_eq_false (p := x.1 ∈ ks (outK K x.1) ∧ x.1 ∉ acc) (fun h => h.2 ha)]
    simp
  · rw [Maps.sameKey_ne (kl_ne hi hok hib), Bool.not_false, Bool.and_true, decide_eq_decide, outK_ks]
    exact ⟨fun h => ⟨⟨h.1, hib⟩, h.2⟩, fun h => ⟨h.1.1, h.2⟩⟩
end Go.Proofs.Ythdkbocokefdhaa
