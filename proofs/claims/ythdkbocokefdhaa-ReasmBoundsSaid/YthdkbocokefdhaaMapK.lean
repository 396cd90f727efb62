import Derived.Test.YthdkbocokefdhaaTabP
import Derived.Test.YthdkbocokefdhaaSav
import Derived.DeepKeys4
import Derived.Maps.RangeWalk
import Derived.Maps.OwnOps
import Derived.Maps.OwnSet
/- The table's map: its keys. -/
namespace Go.Proofs.Ythdkbocokefdhaa
set_option maxRecDepth 100000
open Go.RowKit
/-- a key that may be -/
def Kok (k : Ky) : Prop := k.src.length = 4 ∧ k.dst.length = 4 ∧ 0 ≤ k.proto ∧ k.proto ≤ 255 ∧ 0 ≤ k.id ∧ k.id ≤ 65535
def kc (k : Ky) : Array Value := #[.string (bs k.src), .string (bs k.dst), .int .i64 k.proto, .int .i64 k.id]
def kv (k : Ky) : Value := .agg (kc k)
def kl (k : Ky) : Lit := .string (keyBytes [.string k.src, .string k.dst, .int .i64 k.proto, .int .i64 k.id])
theorem laidOut_ : laidOutB Try.prog = true := by kernel_rfl
theorem wide68 : (match Try.prog.underlying 68 with | some (.array _ _) | some (.struct _) => true | _ => false) = true := by kernel_rfl
theorem law68' : WideMaps.KeyLaw Try.prog 68 := deep_law_laid laidOut_ (m := 3) (by omega) (of_decide_eq_true (by kernel_rfl)) (by kernel_rfl) wide68
theorem law68 : Maps.Keyed Try.prog 68 := Maps.Keyed.of_law law68'
theorem formed68 (k : Ky) : (kv k).formed Try.prog 68 = true := by
  have hc : Try.prog.cellsOf 68 = 4 := by kernel_rfl
  unfold kv kc
  simp [Value.formed, Try.underlying68, hc]
theorem wf64 {n : Int} (h1 : -9223372036854775808 ≤ n) (h2 : n ≤ 9223372036854775807) : (Lit.int .i64 n).wf = true := by
  show (decide (IntKind.i64.min ≤ n) && decide (n ≤ IntKind.i64.max)) = true
  rw [show IntKind.i64.min = -9223372036854775808 by rfl, show IntKind.i64.max = 9223372036854775807 by rfl, decide_eq_true h1, decide_eq_true h2]; rfl
theorem lits9 (n : Nat) (s : ByteArray) (h : s.size ≤ maxLen) : Try.prog.keyLits (n + 1) 9 [.string s] = some [.string s.data.toList] := by
  unfold Program.keyLits; rw [Try.underlying9]; simp [h]
theorem lits3 (n : Nat) (x : Int) (h : (Lit.int .i64 x).wf = true) : Try.prog.keyLits (n + 1) 3 [.int .i64 x] = some [.int .i64 x] := by
  unfold Program.keyLits; rw [Try.underlying3]; simp [h]
theorem keyOf_kv {k : Ky} (h : Kok k) : keyOf Try.prog 68 (kv k) = some (kl k) := by
  obtain ⟨h1, h2, h3, h4, h5, h6⟩ := h
  have ht : Try.prog.keyType 68 = true := by kernel_rfl
  have hsz : ∃ n, Try.prog.types.size + 1 = n + 2 := ⟨Try.prog.types.size - 1, by have : (1 : Nat) ≤ Try.prog.types.size := of_decide_eq_true (by kernel_rfl); omega⟩
  obtain ⟨n, hn⟩ := hsz
  have hc : Try.prog.cellsOf 68 = 4 := by kernel_rfl
  have c9 : Try.prog.cellsOf 9 = 1 := by kernel_rfl
  have c3 : Try.prog.cellsOf 3 = 1 := by kernel_rfl
  have hm : maxLen = 9223372036854775807 := rfl
  have z1 : (bs k.src).size ≤ maxLen := by rw [bs_size, hm]; omega
  have z2 : (bs k.dst).size ≤ maxLen := by rw [bs_size, hm]; omega
  have w1 : (Lit.int .i64 k.proto).wf = true := wf64 (by omega) (by omega)
  have w2 : (Lit.int .i64 k.id).wf = true := wf64 (by omega) (by omega)
  unfold keyOf
  rw [Try.underlying68]
  simp only [ht, formed68, Bool.and_self, if_true]
  rw [hn]
  unfold Program.keyLits
  rw [Try.underlying68]
  unfold kv kc
  simp [Value.cells, hc]
  simp only [c9, c3, List.take_succ_cons, List.take_zero, lits9 _ _ z1, lits9 _ _ z2, lits3 _ _ w1, lits3 _ _ w2]
  simp [kl, bs]
theorem kv_inj {a b : Ky} (h : kv a = kv b) : a = b := by
  obtain ⟨a1, a2, a3, a4⟩ := a
  obtain ⟨b1, b2, b3, b4⟩ := b
  unfold kv kc at h
  simp at h
  obtain ⟨h1, h2, rfl, rfl⟩ := h
  rw [bs_inj h1, bs_inj h2]
theorem kl_inj {a b : Ky} (ha : Kok a) (hb : Kok b) (h : kl a = kl b) : a = b := kv_inj (law68.inj (keyOf_kv ha) (by rw [h]; exact keyOf_kv hb))
theorem kl_key (k : Ky) : WideAt.IsKeyLit (kl k) := trivial
theorem keyOf_inv {v : Value} {l : Lit} (k : Ky) (hk : Kok k) (h : keyOf Try.prog 68 v = some l) (hl : l = kl k) : v = kv k := law68.inj h (by rw [hl]; exact keyOf_kv hk)
/-- how a pointer reads as a map's element -/
def pE (p : Nat) : DataW Unit := .lit (.int .i64 (p : Int))
def ptR : Value → Option (DataW Unit × List MemPlace)
  | .pointer none => some (.lit (.bool false), [])
  | .pointer (some ⟨p, 0, none⟩) => some (pE p, [])
  | _ => none
theorem pE_inj {x y : Nat} (h : pE x = pE y) : x = y := by unfold pE at h; simp at h; omega
theorem ptR_mk (p : Nat) : ptR (.pointer (some ⟨p, 0, none⟩)) = some (pE p, []) := rfl
theorem ptR_inv {v : Value} {p : Nat} {q : List MemPlace} (h : ptR v = some (pE p, q)) : v = .pointer (some ⟨p, 0, none⟩) := by
  unfold ptR at h
  split at h
  · simp [pE] at h
  · rename_i p'
    simp only [Option.some.injEq, Prod.mk.injEq] at h
    rw [pE_inj h.1]
  · cases h
theorem ptR_nil {v : Value} {q : List MemPlace} (h : ptR v = some (.lit (.bool false), q)) : v = .pointer none := by
  unfold ptR at h
  split at h
  · rfl
  · simp [pE] at h
  · cases h
theorem ptR_some {v : Value} {y : DataW Unit × List MemPlace} (h : ptR v = some y) : y.1 = .lit (.bool false) ∨ ∃ p, y.1 = pE p := by
  unfold ptR at h
  split at h
  · cases h; exact .inl rfl
  · cases h; exact .inr ⟨_, rfl⟩
  · cases h
end Go.Proofs.Ythdkbocokefdhaa
