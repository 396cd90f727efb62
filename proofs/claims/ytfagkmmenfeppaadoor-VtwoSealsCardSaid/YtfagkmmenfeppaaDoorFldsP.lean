import Derived.Test.YtfagkmmenfeppaaDoorBackP
/- One field more; a seal: in plain Lean. -/
namespace Go.Proofs.YtfagkmmenfeppaaDoor
set_option maxRecDepth 100000
theorem put_rest {s : Stm} {l : List UInt8} (h : s.put false = .ok l) : ∃ f, famN s.fam = some f ∧ l = frameB s.cmd f (s.rest f) := by
  unfold Stm.put at h
  by_cases hc : s.check false = 0
  · obtain ⟨f, hf, hm, ht⟩ := check_zero hc
    rw [if_pos hc, hf] at h
    injection h with h
    have h' : frameB s.cmd f (s.tail false f) = l := h
    have ht2 : s.tail false f = s.rest f := by unfold Stm.tail; simp
    rw [ht2] at h'
    exact ⟨f, hf, h'.symm⟩
  · rw [if_neg hc] at h; cases h
theorem put_seal {s : Stm} {l : List UInt8} (h : s.put true = .ok l) : ∃ f x, famN s.fam = some f ∧ x.length = 7 ∧ l = frameB s.cmd f (s.rest f ++ x) := by
  unfold Stm.put at h
  by_cases hc : s.check true = 0
  · obtain ⟨f, hf, hm, ht⟩ := check_zero hc
    rw [if_pos hc, hf] at h
    injection h with h
    have h' : sealed true (frameB s.cmd f (s.rest f ++ sealL)) = l := h
    rw [sealed_frame] at h'
    exact ⟨f, _, hf, by rw [List.length_append, be_length]; rfl, h'.symm⟩
  · rw [if_neg hc] at h; cases h
theorem frame_take (cmd : Nat) (f : Fam) (T : List UInt8) : (frameB cmd f T).take 14 = signL ++ be cmd 1 ++ be f.2.1 1 := by
  unfold frameB
  rw [List.append_assoc _ (be T.length 2)]
  exact List.take_left' (by simp only [List.length_append, be_length]; rfl)
theorem fields_plain {s : Stm} (b : Fi) {lx ly lz : List UInt8} (hx : s.put false = .ok lx) (hy : s.put true = .ok ly) (hz : Stm.put ⟨s.loc, s.fam, s.src, s.dst, s.sp, s.dp, s.fs ++ [b]⟩ false = .ok lz) :
    16 ≤ lx.length ∧ ly.length = lx.length + 7 ∧ lz.length = lx.length + 3 + b.2.length ∧ lz.take 14 = lx.take 14 ∧ (lz.drop 16).take (lx.length - 16) = lx.drop 16 ∧ (ly.drop 16).take (lx.length - 16) = lx.drop 16 := by
  obtain ⟨f, hf, rfl⟩ := put_rest hx
  obtain ⟨f', x, hf', hx7, rfl⟩ := put_seal hy
  obtain ⟨f'', hf'', rfl⟩ := put_rest hz
  obtain rfl := Option.some.inj (hf.symm.trans hf')
  obtain rfl := Option.some.inj (hf.symm.trans hf'')
  have hcmd : Stm.cmd ⟨s.loc, s.fam, s.src, s.dst, s.sp, s.dp, s.fs ++ [b]⟩ = s.cmd := rfl
  have hr : Stm.rest ⟨s.loc, s.fam, s.src, s.dst, s.sp, s.dp, s.fs ++ [b]⟩ f = s.rest f ++ (be b.1.toNat 1 ++ be b.2.length 2 ++ b.2) := by
    unfold Stm.rest fdB
    rw [List.map_append, List.flatMap_append, ← List.append_assoc]
    congr 1
    simp [natF]
  rw [hcmd, hr]
  have hb : (be b.1.toNat 1 ++ be b.2.length 2 ++ b.2).length = 3 + b.2.length := by simp only [List.length_append, be_length]
  refine ⟨by rw [frameB_len]; omega, ?_, ?_, ?_, ?_, ?_⟩
  · rw [frameB_len, frameB_len, List.length_append, hx7]; omega
  · rw [frameB_len, frameB_len, List.length_append, hb]; omega
  · rw [frame_take, frame_take]
  · rw [frameB_drop, frameB_drop, frameB_len, Nat.add_sub_cancel_left, List.take_left]
  · rw [frameB_drop, frameB_drop, frameB_len, Nat.add_sub_cancel_left, List.take_left]
end Go.Proofs.YtfagkmmenfeppaaDoor
