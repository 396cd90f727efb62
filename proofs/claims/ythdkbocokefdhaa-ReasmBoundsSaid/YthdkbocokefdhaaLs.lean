import Derived.Test.YthdkbocokefdhaaAge
import Derived.Test.YthdkbocokefdhaaAwk
import Derived.Test.YthdkbocokefdhaaOpn
import Derived.Test.YthdkbocokefdhaaTick
import Derived.Test.YthdkbocokefdhaaFew
/- The law's state: a table, and what stood before it. -/
namespace Go.Proofs.Ythdkbocokefdhaa
set_option maxRecDepth 100000
open Go.RowKit
def LS (W : World) (Tb M : Nat) (st : Sto) (L : List En) (V : World) : Prop := (∃ loc row, Tab (fun k => k < W.heap.size) Tb M st loc row L V) ∧ Kp (fun k => k < W.heap.size) W V
section
variable {W V : World} {Tb M : Nat} {st : Sto} {L : List En}
theorem LS.below (h : LS W Tb M st L V) : Below W.heap.size W V := h.2.below (fun _ hk => hk)
theorem LS.drew (h : LS W Tb M st L V) : LS W Tb M st L V.drew := ⟨by obtain ⟨loc, row, h1⟩ := h.1; exact ⟨loc, row, h1.drew⟩, h.2.drew⟩
theorem LS.len (h : LS W Tb M st L V) : Calls Try.prog 17 #[.pointer (some ⟨Tb, 0, none⟩)] V fun e w' => e = .returned (.int .i64 (L.length : Nat)) ∧ w' = V := by
  obtain ⟨loc, row, h1⟩ := h.1
  exact len_any V h1
theorem LS.bytes (h : LS W Tb M st L V) : Calls Try.prog 18 #[.pointer (some ⟨Tb, 0, none⟩)] V fun e w' => e = .returned (.int .i64 (btsL L : Nat)) ∧ w' = V := by
  obtain ⟨loc, row, h1⟩ := h.1
  exact bytes_any V h1
theorem LS.open (h : LS W Tb M st L V) (hl : L.length ≤ 1000000) : Calls Try.prog 20 #[.pointer (some ⟨Tb, 0, none⟩)] V fun e w' => e = .returned (.int .i64 (opnL L : Nat)) ∧ LS W Tb M st L w' := by
  obtain ⟨loc, row, h1⟩ := h.1
  refine (open_any V h1 hl).mono ?_
  rintro e w' ⟨he, hb⟩
  exact ⟨he, ⟨loc, row, h1.below hb⟩, h.2.trans (Kp.of_below hb (fun k hk => Nat.lt_of_lt_of_le hk h.2.size))⟩
theorem LS.add (h : LS W Tb M st L V) (hg : GoodT st L) (hst : st.ents ≤ 64 ∧ st.bts ≤ 1048576) (x : ByteArray) (hx : x.size ≤ 9223372036854775807) :
    Calls Try.prog 15 #[.pointer (some ⟨Tb, 0, none⟩), .string x] V fun e w' => e = .returned (.tuple #[.string (bs (addT st L x.data.toList).1.1), .int .i64 ((addT st L x.data.toList).1.2 : Nat)]) ∧ LS W Tb M st (addT st L x.data.toList).2 w' := by
  obtain ⟨loc, row, h1⟩ := h.1
  refine (add_go _ Tb M st loc row L x V h1 hg hst hx).mono ?_
  rintro e w' ⟨he, hT, hk⟩
  exact ⟨he, hT, h.2.trans hk⟩
theorem LS.tick (h : LS W Tb M st L V) (hg : GoodT st L) (ha : AgeT st L) (hst : st.ents ≤ 64 ∧ st.bts ≤ 1048576 ∧ st.life ≤ 64) :
    Calls Try.prog 13 #[.pointer (some ⟨Tb, 0, none⟩)] V fun e w' => ∃ z : Int, e = .returned (.int .i64 z) ∧ LS W Tb M st (tickL st L) w' := by
  obtain ⟨loc, row, h1⟩ := h.1
  refine (tick_any V h1 (by have := hg.few; omega) (by omega) (by have := hg.small; omega) (fun e he => ?_) (fun e he => by have := ha e he; omega)).mono ?_
  · have h2 := hg.ens e he
    have := few_pcs h2.sorted (fun q hq => (h2.ps q hq).1.ok)
    omega
  · rintro e w' ⟨z, he, hT, hk⟩
    exact ⟨z, he, ⟨loc, row, hT⟩, h.2.trans hk⟩
end
theorem new_ls (a b c : Int) (W : World) : Calls Try.prog 11 #[.agg #[.int .i64 a, .int .i64 b, .int .i64 c]] W fun e w' =>
    (okS a b c = false ∧ e = .returned (.tuple #[.pointer none, .int .i64 1]) ∧ Below W.heap.size W w') ∨ (okS a b c = true ∧ ∃ Tb M, e = .returned (.tuple #[.pointer (some ⟨Tb, 0, none⟩), .int .i64 0]) ∧ LS W Tb M ⟨a.toNat, b.toNat, c.toNat⟩ [] w') :=
  (new_any (fun k => k < W.heap.size) a b c W (fun k hk => hk)).mono (by
    rintro e w' ⟨hb, ⟨ho, he⟩ | ⟨ho, Tb, M, he, hT⟩⟩
    · exact .inl ⟨ho, he, hb⟩
    · exact .inr ⟨ho, Tb, M, he, ⟨fun _ => 0, fun _ => undef, hT _ _⟩, Kp.of_below hb (fun k hk => hk)⟩)
end Go.Proofs.Ythdkbocokefdhaa
