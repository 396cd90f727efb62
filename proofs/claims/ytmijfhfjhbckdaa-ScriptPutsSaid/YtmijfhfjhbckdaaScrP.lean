import Derived.Test.YtmijfhfjhbckdaaReadL
/- A script's entries: in plain Lean. -/
namespace Go.Proofs.Ytmijfhfjhbckdaa
structure TunP where
  mode : Nat
  bits : Nat
  value : Nat
  ttl : Nat
  tos : Nat
/-- what stands behind a kind -/
inductive BodyP
  | pkt (p : List UInt8)
  | bk (id : Nat) (addr : List UInt8) (w : Nat)
  | num (n : Nat)
  | tun (t : TunP)
  | mov (n to : Nat)
  | non
def tunP (l : List UInt8) : TunP := ⟨bv (l.take 1), bv ((l.drop 1).take 1), bv ((l.drop 2).take 4), bv ((l.drop 6).take 1), bv ((l.drop 7).take 1)⟩
/-- what stands behind a kind, and what is left; none: too short -/
def getP (kind : Nat) (l : List UInt8) : Option (BodyP × List UInt8) :=
  if kind = 0 ∨ kind = 9 then
    if l.length < 2 then none else if (l.drop 2).length < bv (l.take 2) then none else some (.pkt ((l.drop 2).take (bv (l.take 2))), (l.drop 2).drop (bv (l.take 2)))
  else if kind = 1 then if l.length < 14 then none else some (.bk (bv (l.take 2)) ((l.drop 2).take 4) (bv ((l.drop 6).take 8)), l.drop 14)
  else if kind = 4 then if l.length < 8 then none else some (.tun (tunP l), l.drop 8)
  else if kind = 8 then if l.length < 4 then none else some (.mov (bv (l.take 2)) (bv ((l.drop 2).take 2)), l.drop 4)
  else if kind = 10 then some (.non, l)
  else if l.length < 2 then none else some (.num (bv (l.take 2)), l.drop 2)
theorem getP_len {kind : Nat} {l r : List UInt8} {b : BodyP} (h : getP kind l = some (b, r)) : r.length ≤ l.length := by
  unfold getP at h
  repeat' split at h
  all_goals first
    | (cases h; done)
    | (injection h with h; injection h with _ h; rw [← h]; first | exact Nat.le_refl _ | (simp only [List.length_drop]; omega))
/-- an entry: an error's number, or a kind and what stands behind it -/
abbrev EntP := Except Nat (Nat × BodyP)
def entP : Nat → List UInt8 → List EntP
  | 0, _ => []
  | _ + 1, [] => []
  | n + 1, k :: l => if 11 ≤ k.toNat then .error 9 :: entP n l else
    match getP k.toNat l with
    | none => [.error 2]
    | some (b, r) => .ok (k.toNat, b) :: entP n r
theorem entP_fuel : ∀ (n m : Nat) (l : List UInt8), l.length ≤ n → l.length ≤ m → entP n l = entP m l := by
  intro n
  induction n with
  | zero =>
    intro m l h1 h2
    have : l = [] := List.length_eq_zero_iff.1 (by omega)
    subst this
    cases m <;> rfl
  | succ n ih =>
    intro m l h1 h2
    cases l with
    | nil => cases m <;> rfl
    | cons k l =>
      rw [List.length_cons] at h1 h2
      obtain ⟨m, rfl⟩ : ∃ m', m = m' + 1 := ⟨m - 1, by omega⟩
      rw [entP, entP]
      by_cases hk : 11 ≤ k.toNat
      · rw [if_pos hk, if_pos hk, ih m l (by omega) (by omega)]
      · rw [if_neg hk, if_neg hk]
        cases hg : getP k.toNat l with
        | none => rfl
        | some br =>
          obtain ⟨b, r⟩ := br
          have := getP_len hg
          simp only
          rw [ih m r (by omega) (by omega)]
end Go.Proofs.Ytmijfhfjhbckdaa
