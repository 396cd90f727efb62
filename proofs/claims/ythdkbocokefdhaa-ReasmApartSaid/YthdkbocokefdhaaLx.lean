import Derived.Test.YthdkbocokefdhaaAwp
import Derived.Test.YthdkbocokefdhaaAwk
import Derived.Test.YthdkbocokefdhaaOpn
import Derived.Test.YthdkbocokefdhaaTick
/- A table in memory, whatever stands beside it. -/
namespace Go.Proofs.Ythdkbocokefdhaa
set_option maxRecDepth 100000
open Go.RowKit
def TF (F : Nat → Prop) (Tb M : Nat) (st : Sto) (L : List En) (V : World) : Prop := ∃ loc row, Tab F Tb M st loc row L V
section
variable {F : Nat → Prop} {V V' : World} {Tb M : Nat} {st : Sto} {L : List En}
theorem TF.below (h : TF F Tb M st L V) (hb : Below V.heap.size V V') : TF F Tb M st L V' := by obtain ⟨loc, row, h1⟩ := h; exact ⟨loc, row, h1.below hb⟩
theorem TF.drew (h : TF F Tb M st L V) : TF F Tb M st L V.drew := by obtain ⟨loc, row, h1⟩ := h; exact ⟨loc, row, h1.drew⟩
theorem TF.lt (h : TF F Tb M st L V) {k : Nat} (hk : F k) : k < V.heap.size := by obtain ⟨loc, row, h1⟩ := h; exact h1.lt k hk
/-- one block more to keep off -/
theorem TF.more (h : TF F Tb M st L V) (o : Obj) : TF (fun k => F k ∨ k = V.heap.size) Tb M st L (V.alloc o) := by
  obtain ⟨loc, row, h1⟩ := h
  have h2 := h1.below ((Below.refl V.heap.size V).alloc (Nat.le_refl _) o)
  have t1 := heap_lt h1.tb
  have t2 := h1.pm.lt
  refine ⟨loc, row, h2.tb, h2.pm, fun hk => ?_, fun hk => ?_, (h1.bd.more o).mono fun k hk => ?_⟩
  · rcases hk with hk | hk
    · exact h1.fT hk
    · omega
  · rcases hk with hk | hk
    · exact h1.fM hk
    · omega
  · rcases hk with (hk | hk) | hk | hk
    · exact .inl (.inl hk)
    · exact .inr hk
    · exact .inl (.inr (.inl hk))
    · exact .inl (.inr (.inr hk))
theorem TF.mono {G : Nat → Prop} (h : TF F Tb M st L V) (hG : ∀ k, G k → F k) : TF G Tb M st L V := by
  obtain ⟨loc, row, h1⟩ := h
  exact ⟨loc, row, h1.tb, h1.pm, fun hk => h1.fT (hG _ hk), fun hk => h1.fM (hG _ hk), h1.bd.mono fun k hk => hk.imp (hG k) id⟩
/-- a block of F is written -/
theorem TF.set (h : TF F Tb M st L V) {X i : Nat} {x : Value} (hX : F X) : TF F Tb M st L (V.setCell ⟨X, i, none⟩ x) := by
  obtain ⟨loc, row, h1⟩ := h
  refine ⟨loc, row, ?_, h1.pm.same ?_, h1.fT, h1.fM, h1.bd.setF (.inl hX)⟩
  · rw [Below.heap_setCell _ _ _ _ (fun e => h1.fT (by rw [e]; exact hX))]; exact h1.tb
  · exact Below.heap_setCell _ _ _ _ (fun e => h1.fM (by rw [e]; exact hX))
theorem TF.len (h : TF F Tb M st L V) : Calls Try.prog 17 #[.pointer (some ⟨Tb, 0, none⟩)] V fun e w' => e = .returned (.int .i64 (L.length : Nat)) ∧ w' = V := by
  obtain ⟨loc, row, h1⟩ := h
  exact len_any V h1
theorem TF.bytes (h : TF F Tb M st L V) : Calls Try.prog 18 #[.pointer (some ⟨Tb, 0, none⟩)] V fun e w' => e = .returned (.int .i64 (btsL L : Nat)) ∧ w' = V := by
  obtain ⟨loc, row, h1⟩ := h
  exact bytes_any V h1
theorem TF.open (h : TF F Tb M st L V) (hl : L.length ≤ 1000000) : Calls Try.prog 20 #[.pointer (some ⟨Tb, 0, none⟩)] V fun e w' => e = .returned (.int .i64 (opnL L : Nat)) ∧ TF F Tb M st L w' ∧ Below V.heap.size V w' := by
  obtain ⟨loc, row, h1⟩ := h
  refine (open_any V h1 hl).mono ?_
  rintro e w' ⟨he, hb⟩
  exact ⟨he, ⟨loc, row, h1.below hb⟩, hb⟩
theorem TF.add (h : TF F Tb M st L V) (hg : GoodT st L) (hst : st.ents ≤ 64 ∧ st.bts ≤ 1048576) (x : ByteArray) (hx : x.size ≤ 9223372036854775807) :
    Calls Try.prog 15 #[.pointer (some ⟨Tb, 0, none⟩), .string x] V fun e w' => e = .returned (.tuple #[.string (bs (addT st L x.data.toList).1.1), .int .i64 ((addT st L x.data.toList).1.2 : Nat)]) ∧ TF F Tb M st (addT st L x.data.toList).2 w' ∧ Kp F V w' := by
  obtain ⟨loc, row, h1⟩ := h
  exact add_go _ Tb M st loc row L x V h1 hg hst hx
theorem TF.tick (h : TF F Tb M st L V) (hg : GoodT st L) (ha : AgeT st L) (hst : st.ents ≤ 64 ∧ st.bts ≤ 1048576 ∧ st.life ≤ 64) :
    Calls Try.prog 13 #[.pointer (some ⟨Tb, 0, none⟩)] V fun e w' => e = .returned (.int .i64 ((L.length : Int) - ((tickL st L).length : Int))) ∧ TF F Tb M st (tickL st L) w' ∧ Kp F V w' := by
  obtain ⟨loc, row, h1⟩ := h
  refine (tick_any V h1 (by have := hg.few; omega) (by omega) (by have := hg.small; omega) (fun e he => ?_) (fun e he => by have := ha e he; omega)).mono ?_
  · have h2 := hg.ens e he
    have := few_pcs h2.sorted (fun q hq => (h2.ps q hq).1.ok)
    omega
  · rintro e w' ⟨z, he, rfl, hT, hk⟩
    exact ⟨he, ⟨loc, row, hT⟩, hk⟩
end
theorem new_tf (a b c : Int) (W : World) (hok : okS a b c = true) : Calls Try.prog 11 #[.agg #[.int .i64 a, .int .i64 b, .int .i64 c]] W fun e w' =>
    ∃ Tb M, e = .returned (.tuple #[.pointer (some ⟨Tb, 0, none⟩), .int .i64 0]) ∧ TF (fun k => k < W.heap.size) Tb M ⟨a.toNat, b.toNat, c.toNat⟩ [] w' ∧ Below W.heap.size W w' :=
  (new_any (fun k => k < W.heap.size) a b c W (fun k hk => hk)).mono (by
    rintro e w' ⟨hb, ⟨ho, he⟩ | ⟨ho, Tb, M, he, hT⟩⟩
    · rw [hok] at ho; cases ho
    · exact ⟨Tb, M, he, ⟨fun _ => 0, fun _ => undef, hT _ _⟩, hb⟩)
end Go.Proofs.Ythdkbocokefdhaa
