import Derived.Test.YtmeemajlcnpkeaaRef22
import Derived.Test.YtmeemajlcnpkeaaLawsA
import Derived.StillTailTactics
/- The document's Check of backends. -/
namespace Go.Proofs.Ytmeemajlcnpkeaa
open Go.RowKit
theorem ids_get (bs : List Bk) (i : Nat) (h : i < bs.length) : (ids bs)[i]? = some bs[i].id := by
  unfold ids; rw [List.getElem?_map, List.getElem?_eq_getElem h]; rfl
theorem dup_newE (bs : List Bk) (i k : Nat) (hi : i < bs.length) (hk : k < i) (he : bs[i].id = bs[k].id) (ha : bs.all bk_ok = true) : newE bs = 12 := by
  have hlen : (ids bs).length = bs.length := by unfold ids; rw [List.length_map]
  have hn : ¬ (ids bs).Nodup := by
    intro h
    rw [List.nodup_iff_pairwise_ne, List.pairwise_iff_getElem] at h
    have := h k i (by omega) (by omega) hk
    apply this
    unfold ids
    rw [List.getElem_map, List.getElem_map]
    exact he.symm
  have h1 := dn_le (ids bs)
  have h2 := dn_nodup (ids bs)
  unfold newE
  rw [if_pos ha, if_pos]
  rcases Nat.lt_or_ge (dn (ids bs)) bs.length with h | h
  · exact h
  · exact absurd (h2.1 (by omega)) hn
theorem nodup_newE (bs : List Bk) (ha : bs.all bk_ok = true) (h : ∀ i k (hi : i < bs.length) (_ : k < i), bs[i].id ≠ bs[k].id) : newE bs = (if 64 < bs.length then 11 else 0) := by
  have hlen : (ids bs).length = bs.length := by unfold ids; rw [List.length_map]
  have hn : (ids bs).Nodup := by
    rw [List.nodup_iff_pairwise_ne, List.pairwise_iff_getElem]
    intro i j hi hj hij he
    exact h j i (by omega) hij (by simpa [ids] using he.symm)
  have h2 := (dn_nodup (ids bs)).2 hn
  unfold newE
  rw [if_pos ha, if_neg (by omega)]
set_option maxRecDepth 100000 in
set_option maxHeartbeats 4000000 in
theorem rcheck22_any (bs : List Bk) (a : Option Addr) (cap : Nat) (w : World) (hl : bs.length ≤ 100) (hin : BkIn w a bs) (hok : BkOk bs) :
    Calls Try.prog 13 #[.slice a bs.length cap] w fun e w' => e = .returned (.int .i64 (newE bs)) ∧ Below w.heap.size w w' := by
  have HI : Hid (∀ W, Below w.heap.size w W → BkIn W a bs) := fun W hW => hin.below hW
  have HO := Lib.hid hok
  obtain ⟨len, hln⟩ : ∃ len, len = bs.length := ⟨_, rfl⟩
  rw [← hln]
  have HLN := Lib.hid hln
  have hl2 : len ≤ 100 := by omega
  obtain ⟨r, hr⟩ : ∃ r, r = newE bs := ⟨_, rfl⟩
  rw [← hr]
  have HR := Lib.hid hr
  clear hin hok hl hln hr
  go_enter Try.func13, Try.ntmps13
  go_wp2_with (fail)
  go_loopw [3] (fun i wr => ∃ k : Nat, k ≤ len ∧ i = .int .i64 k ∧ Below w.heap.size w wr ∧ Hid ((bs.take k).all bk_ok = true)) (fun i _ => len - (intOf i).toNat)
  case atStart => exact ⟨0, by omega, rfl, Below.refl _ _, rfl⟩
  case round =>
    obtain ⟨k, hk, rfl, hb, hall⟩ := hrel
    by_cases hlt : k < len
    · have hlt2 : k < bs.length := by rw [← HLN.out]; exact hlt
      obtain ⟨x, rfl, c0, c1, c2⟩ := HI.out wr hb k hlt2
      obtain ⟨o1, o2, o3⟩ := HO.out bs[k] (List.getElem_mem hlt2)
      obtain ⟨⟨id, ad, wt⟩, hbk⟩ : ∃ b, b = bs[k] := ⟨_, rfl⟩
      rw [← hbk] at c0 c1 c2 o1
      simp only at c0 c1 c2 o1
      have C := Lib.hid (fun W => rmay22_any ⟨id, ad, wt⟩ W o1)
      have HB := Lib.hid hb
      have HBK := Lib.hid hbk
      cases hk0 : bk_ok ⟨id, ad, wt⟩ with
      | true =>
        rw [hk0] at C
        have HK := Lib.hid hk0
        clear o1 o2 o3 hbk hk0
        go_wp2_with (go_at_call 11; refine (C.out _).mono ?_; rintro e w1 ⟨rfl, hb1⟩)
        exact ⟨⟨k + 1, by omega, by go_num, HB.out.trans (hb1.mono HB.out.size), all_succ bs k hlt2 hall.out (by rw [← HBK.out]; exact HK.out)⟩, by simp [intOf] <;> omega⟩
      | false =>
        rw [hk0] at C
        have e1 : Hid (r = 1) := show r = 1 by rw [HR.out]; exact newE_bad bs k hlt2 (by rw [← hbk]; exact hk0)
        clear o1 o2 o3 hbk hk0
        go_wp2_with (go_at_call 11; refine (C.out _).mono ?_; rintro e w1 ⟨rfl, hb1⟩)
        go_ret
        exact ⟨by rw [e1.out]; rfl, HB.out.trans (hb1.mono HB.out.size)⟩
    · obtain rfl : k = len := by omega
      have hall2 : Hid (bs.all bk_ok = true) := show _ = _ by have h := hall.out; rw [HLN.out, List.take_length] at h; exact h
      clear hall
      go_wp2_with (fail)
      go_loopw [4] (fun i wr => ∃ j : Nat, j ≤ k ∧ i = .int .i64 j ∧ Below w.heap.size w wr ∧ Hid (∀ i m (hi : i < bs.length) (_ : m < i), i < j → bs[i].id ≠ bs[m].id)) (fun i _ => k - (intOf i).toNat)
      case atStart => exact ⟨0, by omega, rfl, hb, fun i m hi hm h => by omega⟩
      case round =>
        obtain ⟨j, hj, rfl, hb2, hap⟩ := hrel
        by_cases hjl : j < k
        · have hjl2 : j < bs.length := by rw [← HLN.out]; exact hjl
          go_wp2_with (fail)
          go_loopw [5] (fun t wr => ∃ m : Nat, m ≤ j ∧ t = .int .i64 m ∧ Below w.heap.size w wr ∧ Hid (∀ q (_ : q < m) (hq : q < bs.length), bs[j].id ≠ bs[q].id)) (fun t _ => j - (intOf t).toNat)
          case atStart => exact ⟨0, by omega, rfl, hb2, fun q h hq => by omega⟩
          case round =>
            obtain ⟨m, hm, rfl, hb3, hne⟩ := hrel
            by_cases hml : m < j
            · have hml2 : m < bs.length := by omega
              obtain ⟨x, rfl, c0, _, _⟩ := HI.out wr hb3 j hjl2
              obtain ⟨x', hx', d0, _, _⟩ := HI.out wr hb3 m hml2
              obtain rfl := Option.some.inj hx'
              obtain ⟨p, hp⟩ : ∃ p, p = bs[j].id := ⟨_, rfl⟩
              obtain ⟨q, hq⟩ : ∃ q, q = bs[m].id := ⟨_, rfl⟩
              rw [← hp] at c0
              rw [← hq] at d0
              have hjk : (j : Int) < (k : Int) := by omega
              have hmk : (m : Int) < (k : Int) := by omega
              have HB3 := Lib.hid hb3
              have HP := Lib.hid hp
              have HQ := Lib.hid hq
              cases hpq : (p == q) with
              | true =>
                have e1 : Hid (r = 12) := show r = 12 by
                  rw [HR.out]; exact dup_newE bs j m hjl2 hml (by rw [← hp, ← hq]; exact beq_iff_eq.1 hpq) hall2.out
                clear hp hq
                go_wp2_with (fail)
                go_still (by kernel_rfl)
                go_wp2_with (fail)
                go_ret
                exact ⟨by rw [e1.out]; rfl, HB3.out.drew⟩
              | false =>
                have hne2 : Hid (∀ q (_ : q < m + 1) (hq : q < bs.length), bs[j].id ≠ bs[q].id) := fun t ht hq2 => by
                  rcases Nat.lt_or_ge t m with h | h
                  · exact hne.out t h hq2
                  · have e : t = m := by omega
                    subst e
                    rw [← hp, ← hq]
                    exact beq_eq_false_iff_ne.1 hpq
                clear hp hq
                go_wp2_with (fail)
                go_still (by kernel_rfl)
                go_wp2_with (fail)
                exact ⟨⟨m + 1, by omega, by go_num, HB3.out.drew, hne2⟩, by simp [intOf] <;> omega⟩
            · obtain rfl : m = j := by omega
              have hap2 : Hid (∀ i q (hi : i < bs.length) (_ : q < i), i < m + 1 → bs[i].id ≠ bs[q].id) := fun i q hi hq h => by
                rcases Nat.lt_or_ge i m with h2 | h2
                · exact hap.out i q hi hq h2
                · have e : i = m := by omega
                  subst e
                  exact hne.out q hq (by omega)
              go_wp2_with (fail)
              exact ⟨⟨m + 1, by omega, by go_num, hb3, hap2⟩, by simp [intOf] <;> omega⟩
        · obtain rfl : j = k := by omega
          have e0 : Hid (r = if 64 < bs.length then 11 else 0) := show _ = _ by
            rw [HR.out]; exact nodup_newE bs hall2.out (fun i m hi hm => hap.out i m hi hm (by rw [HLN.out]; exact hi))
          by_cases h64 : 64 < j
          · have h64' : (64 : Int) < (j : Int) := by omega
            go_wp2_with (fail)
            go_ret
            exact ⟨by rw [e0.out, if_pos (by rw [← HLN.out]; exact h64)]; rfl, hb2⟩
          · have h64' : ¬ (64 : Int) < (j : Int) := by omega
            go_wp2_with (fail)
            go_ret
            exact ⟨by rw [e0.out, if_neg (by rw [← HLN.out]; exact h64)]; rfl, hb2⟩
end Go.Proofs.Ytmeemajlcnpkeaa
