/- Every drawn list of sixteenths and the same list in another order and a bit below give the same share of the same weight -/
import Derived.Test.YtdhgmpggophcmaaRows
import Derived.WalkKit
import Derived.ProofKit
import Derived.OpenShut
import Derived.ShutString
import Derived.ChangeOld
import Derived.Below
import Derived.Test.YtdhgmpggophcmaaAppStep
namespace Go.Proofs.Ytdhgmpggophcmaa.weightLists
open Go.ChangeShapes Go.WideShapes Go.ChangeAt Go.RowKit
open Go.ChangeMaps (open_string shut_string)
set_option linter.unusedVariables false

theorem own : ownKnob Try.prog.godebug = none := by kernel_rfl
theorem laidOut : laidOutB Try.prog = true := by kernel_rfl

/-- WHAT THE WALK IS TOLD OF A SLICE OF INTEGERS THAT CAME IN: it is nil; or it leads to a row of 'cap' cells, the numbers 'zs' (the first 'len' are its elements, the rest its spare room), each fitting its kind. -/
def IsRow (k : IntKind) (w : World) (a : Option Addr) (len cap : Nat) (zs : List Int) : Prop :=
  (a = none ∧ len = 0 ∧ cap = 0 ∧ zs = []) ∨
  ∃ x, a = some x ∧ len ≤ cap ∧ cap ≤ maxLen ∧ zs.length = cap ∧ (∀ i, i < zs.length → w.cell? (x.add i) = some (.int k (zs.getD i 0))) ∧ ∀ n ∈ zs, (Lit.int k n).wf = true

theorem u8_nat {a : Int} (h : (Lit.int .u8 a).wf = true) : ∃ b : Nat, a = b ∧ b ≤ 255 := by
  have hmin : IntKind.u8.min = 0 := rfl
  have hmax : IntKind.u8.max = 255 := rfl
  simp only [Lit.wf, Bool.and_eq_true, decide_eq_true_eq] at h
  exact ⟨a.toNat, by omega, by omega⟩
/-- the numbers of a slice that came in -/
theorem row_nats {w : World} {a : Option Addr} {len cap : Nat} {zs : List Int} (h : IsRow .u8 w a len cap zs) :
    ∃ ns : List Nat, ns.length = len ∧ (∀ y ∈ ns, y ≤ 255) ∧ ∀ k (hk : k < ns.length), ∃ x, a = some x ∧ w.cell? (x.add k) = some (.int .u8 ns[k]) := by
  rcases h with ⟨rfl, rfl, rfl, rfl⟩ | ⟨x, rfl, h1, h2, h3, h4, h5⟩
  · exact ⟨[], rfl, fun y hy => by simp at hy, fun k hk => by simp at hk⟩
  · refine ⟨(zs.take len).map Int.toNat, by simp; omega, ?_, ?_⟩
    · intro y hy
      rw [List.mem_map] at hy
      obtain ⟨z, hz, rfl⟩ := hy
      obtain ⟨b, hb, hb2⟩ := u8_nat (h5 z (List.mem_of_mem_take hz))
      rw [hb]; exact hb2
    · intro k hk
      have hk' : k < len := by simp at hk; omega
      refine ⟨x, rfl, ?_⟩
      have hz : k < zs.length := by omega
      rw [h4 k hz]
      have e1 : zs.getD k 0 = zs[k] := by rw [List.getD_eq_getElem?_getD, List.getElem?_eq_getElem hz, Option.getD_some]
      obtain ⟨b, hb, _⟩ := u8_nat (h5 zs[k] (List.getElem_mem hz))
      have e2 : (((zs.take len).map Int.toNat)[k] : Nat) = b := by simp [hb]
      rw [e1, e2, hb]
/-- one step: a row grows by one, another lives on. -/
theorem grow_step {B : Nat} {w w3 : World} {va va' vb : Value} {la lb : List Nat} {y : Nat} {o : Obj} (ha : Owned B va la w) (hb : Owned B vb lb w) (hap : Apart va vb)
    (h1 : w3.ownsRow B 25 1 va' (la.length + 1) (floats la ++ [.float .f64 y])) (h2 : (w.alloc o).grownBy w3 va.ownBlock) (h4 : va'.ownBlock = va.ownBlock ∨ va'.ownBlock = some (w.alloc o).heap.size) :
    Owned B va' (la ++ [y]) w3 ∧ Owned B vb lb w3 ∧ Apart va' vb := by
  refine ⟨?_, ?_, ?_⟩
  · show w3.ownsRow B 25 1 va' (la ++ [y]).length (floats (la ++ [y]))
    rw [List.length_append, ← floats_app]; exact h1
  · exact World.ownsRow.kept (World.ownsRow.alloc hb o) h2 hap.symm.ne
  · intro k hk hk'
    have hlt := own_lt hb k hk'
    rcases h4 with h | h
    · exact hap k (h ▸ hk) hk'
    · rw [h] at hk
      rw [World.size_alloc] at hk
      injection hk with hk; omega
noncomputable def la (ns : List Nat) (k : Nat) : List Nat := (ns.take k).map w16
noncomputable def lb (ns : List Nat) (k : Nat) : List Nat := (ns.take k).map b16
theorem la_succ (ns : List Nat) (k : Nat) (h : k < ns.length) : la ns (k + 1) = la ns k ++ [w16 ns[k]] := by unfold la; rw [take_one ns k h, List.map_append, List.map_singleton]
theorem lb_succ (ns : List Nat) (k : Nat) (h : k < ns.length) : lb ns (k + 1) = lb ns k ++ [b16 ns[k]] := by unfold lb; rw [take_one ns k h, List.map_append, List.map_singleton]
theorem one_new (w : World) (y : Nat) : ∀ (j : Nat) (u : Value), [Value.float .f64 y][j]? = some u → (w.alloc (Obj.cells #[Value.float .f64 y] 25)).cell? ((⟨w.heap.size, 0, none⟩ : Addr).add j) = some u := by
  intro j u hu
  cases j with
  | zero => simp only [List.getElem?_cons_zero, Option.some.injEq] at hu; subst hu; rw [add_plain]; simp
  | succ j => simp at hu
theorem one_cell (y : Nat) : ∀ u ∈ [Value.float .f64 y], u.oneCell' = true := by
  intro u hu; rw [List.mem_singleton] at hu; subst hu; rfl
theorem la_all (ns : List Nat) : la ns ns.length = ns.map w16 := by unfold la; rw [List.take_length]
theorem lb_all (ns : List Nat) : lb ns ns.length = ns.map b16 := by unfold lb; rw [List.take_length]
theorem la_len (ns : List Nat) : (la ns ns.length).length = ns.length := by rw [la_all, List.length_map]
theorem lb_len (ns : List Nat) : (lb ns ns.length).length = ns.length := by rw [lb_all, List.length_map]
theorem own_cap' {w : World} {B : Nat} {v : Value} {g c n : Nat} {ns : List Nat} (hv : v = .slice (some ⟨g, 0, none⟩) n c) (h : Owned B v (lb ns ns.length) w) : ns.length ≤ c := by
  subst hv
  rcases h.2 with ⟨h1, _⟩ | ⟨g', cap, cur, h1, _, _, h2, _⟩
  · cases h1
  · injection h1 with _ _ h3
    rw [lb_len] at h2
    omega
set_option maxRecDepth 100000 in
set_option maxHeartbeats 16000000 in
theorem walkA (n turn : Nat) (ns : List Nat) (a1 : Option Addr) (cap1 : Nat) (w : World) (hn : n ≤ 255) (hns : ∀ y ∈ ns, y ≤ 255) (hlen : ns.length ≤ 60) (ht : turn ≤ ns.length) (hrow : ∀ k (hk : k < ns.length), ∃ x, a1 = some x ∧ w.cell? (x.add k) = some (.int .u8 ns[k])) :
    Calls Try.prog 4 #[.int .u8 n, .slice a1 ns.length cap1, .int .i64 turn] w fun e w' => e = .returned (.bool true) ∧ Below w.heap.size w w' := by
  have A : Hid (∀ W, Calls Try.prog 10 #[] W fun e w' => e = .returned (.bool true) ∧ w' = W) := awake_any
  have HN := Lib.hid hns
  have HR := Lib.hid hrow
  obtain ⟨i0, hi, hz0, hz1, hz2⟩ := info_parts25
  have HI := Lib.hid (And.intro hi (And.intro hz0 (And.intro hz1 hz2)))
  have ht' : decide (ns.length < turn) = false := decide_eq_false (by omega)
  clear hns hrow hi hz0 hz1 hz2
  go_enter Try.func4, Try.ntmps4
  go_wp2_with (go_at_call 10; refine (A.out _).mono ?_; rintro e w1 ⟨rfl, rfl⟩)
  go_loopw [7, 8, 9] (fun va vb i wr => ∃ k : Nat, k ≤ ns.length ∧ i = .int .i64 k ∧ Hid (Owned w1.heap.size va (la ns k) wr) ∧ Hid (Owned w1.heap.size vb (lb ns k) wr) ∧ Hid (Apart va vb) ∧ Below w1.heap.size w1 wr ∧ Hid (k = 0 → va = .slice none 0 0 ∧ vb = .slice none 0 0)) (fun _ _ i _ => ns.length - (intOf i).toNat)
  case atStart => exact ⟨0, by omega, rfl, World.ownsRow_nil _ _ _ _, World.ownsRow_nil _ _ _ _, (fun k hk => by simp [Value.ownBlock] at hk), Below.refl _ _, fun _ => ⟨rfl, rfl⟩⟩
  case round =>
    obtain ⟨k, hk, rfl, hoa, hob, hap, hb, hv0⟩ := hrel
    by_cases hlt : k < ns.length
    · obtain ⟨x, rfl, hc0⟩ := HR.out k hlt
      have hc : wr.cell? (x.add k) = some (.int .u8 ns[k]) := (hb.cell (World.block_lt_of_cell? w1 _ hc0)).trans hc0
      have HTA := Lib.hid (la_succ ns k hlt)
      have HTB := Lib.hid (lb_succ ns k hlt)
      have hla : Hid ((la ns k).length = k) := show _ = _ by unfold la; rw [List.length_map, List.length_take]; omega
      have hlb : Hid ((lb ns k).length = k) := show _ = _ by unfold lb; rw [List.length_map, List.length_take]; omega
      have hz255 := HN.out ns[k] (List.getElem_mem hlt)
      have HC0 := Lib.hid hc0
      clear hc0
      obtain ⟨z, hz⟩ : ∃ z, z = ns[k] := ⟨_, rfl⟩
      have HZ := Lib.hid hz
      rw [← hz] at hc hz255 HC0
      have hq := (w16_spec z (by omega)).2.2 wr
      have hnx : 0 < z → Hid (∀ W, Calls Try.prog 15 #[.float .f64 (w16 z), .float .f64 0] W fun e w' => e = .returned (.float .f64 (b16 z)) ∧ w' = W) := fun h => fun W => b16_next z (by omega) h W
      obtain ⟨p, hp⟩ : ∃ p, p = w16 z := ⟨_, rfl⟩
      obtain ⟨q, hq9⟩ : ∃ q, q = b16 z := ⟨_, rfl⟩
      have HP := Lib.hid hp
      have HQ := Lib.hid hq9
      rw [← hp] at hq hnx
      rw [← hq9] at hnx
      by_cases hz0 : z = 0
      · have hpq : Hid (b16 z = p) := show b16 z = p by rw [hp]; unfold b16; rw [if_pos hz0]
        have hz1 : ¬ 0 < (z : Int) := by omega
        clear hz hnx hp hq9 hz0
        go_wp2_with (first | (at_builtin; refine wpList_append_own_at _ rfl (.tmp 43) (.tmp 45) 27 rfl w1.heap.size 25 i0 (.float .f64 0) 1 8 Try.underlying27 HI.out.1 HI.out.2.1 HI.out.2.2.1 HI.out.2.2.2 rfl (by decide) _ _ _ rfl (World.ownsRow.alloc hoa.out _) ⟨wr.heap.size, 0, none⟩ 1 1 [.float .f64 p] rfl rfl (one_new _ _) (one_cell _) ?p1z ?p2z ?p3z ?_; rotate_left 3; intro va' w3 hown' hgrow _ hat; obtain ⟨g1, g2, g3⟩ := grow_step hoa.out hob.out hap.out hown' hgrow hat; have hb3 := (bal hb).grown hgrow (bal hb).size (fun q hq => own_base hoa.out q hq); have hc3 := (hb3.cell (World.block_lt_of_cell? w1 _ HC0.out)).trans HC0.out; have G1 := Lib.hid g1; have G2 := Lib.hid g2; have G3 := Lib.hid g3; clear hown' hgrow hat g1 g2 g3) | (at_builtin; refine wpList_append_own_at _ rfl (.tmp 54) (.tmp 56) 27 rfl w1.heap.size 25 i0 (.float .f64 0) 1 8 Try.underlying27 HI.out.1 HI.out.2.1 HI.out.2.2.1 HI.out.2.2.2 rfl (by decide) _ _ _ rfl (World.ownsRow.alloc G2.out _) ⟨w3.heap.size, 0, none⟩ 1 1 [.float .f64 p] rfl rfl (one_new _ _) (one_cell _) ?q1z ?q2z ?q3z ?_; rotate_left 3; intro vb' w4 hown' hgrow _ hat; obtain ⟨g1, g2, g3⟩ := grow_step G2.out G1.out G3.out.symm hown' hgrow hat; have hb4 := (bal hb3).grown hgrow (bal hb3).size (fun q hq => own_base G2.out q hq); have K1 := Lib.hid g1; have K2 := Lib.hid g2; have K3 := Lib.hid g3; have K4 := Lib.hid hb4; clear hown' hgrow hat g1 g2 g3 hb4))
        any_goals (first | exact ⟨⟨k + 1, by omega, by go_num, by rw [HTA.out, ← HZ.out, ← HP.out]; exact K2.out, by rw [HTB.out, ← HZ.out, hpq.out]; exact K1.out, K3.out.symm, K4.out, fun h => by omega⟩, by simp [intOf]; omega⟩ | exact ⟨by (repeat apply Exists.intro); exact ⟨⟨k + 1, by omega, by go_num, by rw [HTA.out, ← HZ.out, ← HP.out]; exact K2.out, by rw [HTB.out, ← HZ.out, hpq.out]; exact K1.out, K3.out.symm, K4.out, fun h => by omega⟩, rfl⟩, by simp [intOf]; omega⟩ | exact ⟨by (repeat apply Exists.intro); exact ⟨⟨k + 1, by omega, by go_num, by rw [HTA.out, ← HZ.out, ← HP.out]; exact K2.out, by rw [HTB.out, ← HZ.out, hpq.out]; exact K1.out, K3.out.symm, K4.out, fun h => by omega⟩, rfl, rfl, rfl⟩, by simp [intOf]; omega⟩ | skip)
        case p1z => rw [hla.out]; unfold maxLen; omega
        case p2z => rw [hla.out]; omega
        case q1z => rw [hlb.out]; unfold maxLen; omega
        case q2z => rw [hlb.out]; omega
        case p3z => have := hb.size; simp; omega
        case q3z => have := hb3.size; simp; omega
      · have NX := hnx (by omega)
        have hz1 : 0 < (z : Int) := by omega
        clear hz hnx hp hq9
        go_wp2_with (first | (at_builtin; refine wpList_append_own_at _ rfl (.tmp 43) (.tmp 45) 27 rfl w1.heap.size 25 i0 (.float .f64 0) 1 8 Try.underlying27 HI.out.1 HI.out.2.1 HI.out.2.2.1 HI.out.2.2.2 rfl (by decide) _ _ _ rfl (World.ownsRow.alloc hoa.out _) ⟨wr.heap.size, 0, none⟩ 1 1 [.float .f64 p] rfl rfl (one_new _ _) (one_cell _) ?p1y ?p2y ?p3y ?_; rotate_left 3; intro va' w3 hown' hgrow _ hat; obtain ⟨g1, g2, g3⟩ := grow_step hoa.out hob.out hap.out hown' hgrow hat; have hb3 := (bal hb).grown hgrow (bal hb).size (fun q hq => own_base hoa.out q hq); have hc3 := (hb3.cell (World.block_lt_of_cell? w1 _ HC0.out)).trans HC0.out; have G1 := Lib.hid g1; have G2 := Lib.hid g2; have G3 := Lib.hid g3; clear hown' hgrow hat g1 g2 g3) | (go_at_call 15; refine (NX.out _).mono ?_; rintro e w6 ⟨rfl, hw6⟩; have hw7 := hw6.symm; clear hw6; subst hw7) | (at_builtin; refine wpList_append_own_at _ rfl (.tmp 54) (.tmp 56) 27 rfl w1.heap.size 25 i0 (.float .f64 0) 1 8 Try.underlying27 HI.out.1 HI.out.2.1 HI.out.2.2.1 HI.out.2.2.2 rfl (by decide) _ _ _ rfl (World.ownsRow.alloc G2.out _) ⟨w3.heap.size, 0, none⟩ 1 1 [.float .f64 q] rfl rfl (one_new _ _) (one_cell _) ?q1y ?q2y ?q3y ?_; rotate_left 3; intro vb' w4 hown' hgrow _ hat; obtain ⟨g1, g2, g3⟩ := grow_step G2.out G1.out G3.out.symm hown' hgrow hat; have hb4 := (bal hb3).grown hgrow (bal hb3).size (fun q hq => own_base G2.out q hq); have K1 := Lib.hid g1; have K2 := Lib.hid g2; have K3 := Lib.hid g3; have K4 := Lib.hid hb4; clear hown' hgrow hat g1 g2 g3 hb4))
        any_goals (first | exact ⟨⟨k + 1, by omega, by go_num, by rw [HTA.out, ← HZ.out, ← HP.out]; exact K2.out, by rw [HTB.out, ← HZ.out, ← HQ.out]; exact K1.out, K3.out.symm, K4.out, fun h => by omega⟩, by simp [intOf]; omega⟩ | exact ⟨by (repeat apply Exists.intro); exact ⟨⟨k + 1, by omega, by go_num, by rw [HTA.out, ← HZ.out, ← HP.out]; exact K2.out, by rw [HTB.out, ← HZ.out, ← HQ.out]; exact K1.out, K3.out.symm, K4.out, fun h => by omega⟩, rfl⟩, by simp [intOf]; omega⟩ | exact ⟨by (repeat apply Exists.intro); exact ⟨⟨k + 1, by omega, by go_num, by rw [HTA.out, ← HZ.out, ← HP.out]; exact K2.out, by rw [HTB.out, ← HZ.out, ← HQ.out]; exact K1.out, K3.out.symm, K4.out, fun h => by omega⟩, rfl, rfl, rfl⟩, by simp [intOf]; omega⟩ | skip)
        case p1y => rw [hla.out]; unfold maxLen; omega
        case p2y => rw [hla.out]; omega
        case q1y => rw [hlb.out]; unfold maxLen; omega
        case q2y => rw [hlb.out]; omega
        case p3y => have := hb.size; simp; omega
        case q3y => have := hb3.size; simp; omega
    · obtain rfl : k = ns.length := by omega
      go_wp2_with (fail)
      have hLB : (lb ns ns.length).length = ns.length := lb_len ns
      obtain ⟨LA, hLA⟩ : ∃ L, L = la ns ns.length := ⟨_, rfl⟩
      obtain ⟨LB, hLB2⟩ : ∃ L, L = lb ns ns.length := ⟨_, rfl⟩
      rw [← hLB2] at hLB
      rw [← hLA] at hoa
      rw [← hLB2] at hob
      have HLA := Lib.hid hLA
      have HLB := Lib.hid hLB2
      have HBN := Lib.hid hLB
      clear hLA hLB2 hLB
      rcases Nat.eq_zero_or_pos ns.length with hz9 | hz9
      · obtain ⟨hvn, hvm⟩ := hv0.out hz9
        subst hvn hvm
        have hL0 : ns = [] := List.eq_nil_of_length_eq_zero hz9
        have hLA0 : LA = [] := by rw [HLA.out, la_all, hL0]; rfl
        have hLB0 : LB = [] := by rw [HLB.out, lb_all, hL0]; rfl
        rw [hLA0] at hoa
        rw [hLB0] at hob
        have T0 := Lib.hid (Three.start hoa.out hob.out hb hb.size)
        have ht0 : (0 : Int) ≤ (turn : Int) := by omega
        have ht1 : (turn : Int) ≤ 0 := by omega
        have AL := lists_alike [] 0 n (fun z h => by simp at h) (by omega)
        obtain ⟨al1, al2, al3, al4⟩ := AL
        replace al1 : shareV (w16 n) [0] = shareV (w16 n) [] := al1
        replace al2 : shareE (w16 n) [0] = shareE (w16 n) [] := al2
        replace al3 : shareE (w16 n) [] = 7 := al3
        replace al4 : shareV (w16 n) [] = 0 := al4 al3
        rw [al4] at al1
        rw [al3] at al2
        have hwn64 := (w16_points n (by omega)).2.2
        have HWN := Lib.hid (w16_spec n (by omega)).2.2
        obtain ⟨wn, hwn⟩ : ∃ q, q = w16 n := ⟨_, rfl⟩
        rw [← hwn] at al1 al2 al3 al4 HWN hwn64
        have CA : Hid (∀ W, Calls Try.prog 12 #[.float .f64 wn, .slice none 0 0] W fun e w' => e = .returned (.tuple #[.float .f64 0, .int .i64 7]) ∧ Below W.heap.size W w') := fun W => by
          have h1 := share_none wn W hwn64
          rw [al4, al3] at h1; exact h1
        have HCB2 : Hid (∀ v w5, Owned w1.heap.size v ([] ++ [0]) w5 → Hid (∀ W, Below w5.heap.size w5 W → Calls Try.prog 12 #[.float .f64 wn, v] W fun e w' => e = .returned (.tuple #[.float .f64 0, .int .i64 7]) ∧ Below w5.heap.size w5 w')) := fun v w5 hO W hW => by
          have h1 := hO.share (by simp) (by simp) (by intro y hy; simp at hy; subst hy; decide) wn hwn64 W hW
          rw [List.nil_append, al1, al2] at h1; exact h1
        clear al1 al2 al3 al4 hwn hwn64 hL0 hLA0 hLB0
        obtain rfl : turn = 0 := by omega
        go_region_law (first | (refine step_append_at (Operand.tmp 58) (Operand.tmp 61) 27 rfl rfl ?_; refine ex_mono (Three.nil (B := w1.heap.size) (w0 := w1) (va := .slice none 0 0) (vb := .slice none 0 0) (la := []) (lb := []) (l := []) (z := ?_) ?_ _) ?_; rotate_left; (focus (repeat (first | exact T5.out | exact T4.out | exact T3.out | exact T0.out | (refine Three.zeq ?_ T4.out; (focus (simp; done))) | refine Three.drew ?_ | (refine Three.fresh' ?_ ?_; (focus (first | rfl | (exact (World.size_alloc _ _).symm) | (simp; done)))) | (refine Three.more' ?_ ?_; (focus (first | rfl | (exact (World.size_alloc _ _).symm) | (simp; done)))) | refine Three.more ?_)));  intro v3 w3 h; have T3 := Lib.hid h; clear h) | (refine step_append_at (Operand.tmp 62) (Operand.tmp 65) 27 rfl rfl ?_; refine ex_mono (Three.nil (B := w1.heap.size) (w0 := w1) (va := .slice none 0 0) (vb := .slice none 0 0) (la := []) (lb := []) (l := []) (z := ?_) ?_ _) ?_; rotate_left; (focus (repeat (first | exact T5.out | exact T4.out | exact T3.out | exact T0.out | (refine Three.zeq ?_ T4.out; (focus (simp; done))) | refine Three.drew ?_ | (refine Three.fresh' ?_ ?_; (focus (first | rfl | (exact (World.size_alloc _ _).symm) | (simp; done)))) | (refine Three.more' ?_ ?_; (focus (first | rfl | (exact (World.size_alloc _ _).symm) | (simp; done)))) | refine Three.more ?_)));  intro v4 w4 h; have T4 := Lib.hid h; clear h) | (refine step_append_at (Operand.tmp 66) (Operand.tmp 67) 27 rfl rfl ?_; refine ex_mono (Three.zero (B := w1.heap.size) (w0 := w1) (va := .slice none 0 0) (vb := .slice none 0 0) (la := []) (lb := []) (l := []) ?_ _ ?_) ?_; (focus (repeat (first | exact T5.out | exact T4.out | exact T3.out | exact T0.out | (refine Three.zeq ?_ T4.out; (focus (simp; done))) | refine Three.drew ?_ | (refine Three.fresh' ?_ ?_; (focus (first | rfl | (exact (World.size_alloc _ _).symm) | (simp; done)))) | (refine Three.more' ?_ ?_; (focus (first | rfl | (exact (World.size_alloc _ _).symm) | (simp; done)))) | refine Three.more ?_))); (focus (simp; done));  intro v5 w5 h; have T5 := Lib.hid h; clear h))
        all_goals (have hb5 := T5.out.bel; have hqn := HWN.out w5; have hbw := Below.refl w5.heap.size w5; have CB : Hid (∀ W, Below w5.heap.size w5 W → Calls Try.prog 12 #[.float .f64 wn, v5] W fun e w' => e = .returned (.tuple #[.float .f64 0, .int .i64 7]) ∧ Below w5.heap.size w5 w') := HCB2.out _ _ T5.out.own)
        all_goals clear HCB2 HLA HLB HN HR A T0 HWN
        all_goals simp [Exit.then, Act.put]
        all_goals (go_wp2_with (first | (go_at_call 12; (with_reducible refine (CA.out _).mono ?_); rintro e w6 ⟨rfl, hb6⟩) | (go_at_call 12; (with_reducible refine (CB.out _ (by assumption)).mono ?_); rintro e w7 ⟨rfl, hb7⟩)))
        all_goals (go_ret; exact ⟨rfl, btr hb5 (by assumption)⟩)
      · obtain ⟨ga, ca, hva, hca⟩ := hoa.out.shape (by rw [HLA.out, la_all]; simpa using hz9)
        obtain ⟨gb, cb, hvb, hcb⟩ := hob.out.shape (by rw [HLB.out, lb_all]; simpa using hz9)
        have hcap : ns.length ≤ cb := own_cap' hvb (by rw [← HLB.out]; exact hob.out)
        rw [HLB.out, lb_len] at hvb
        rw [HLA.out, la_len] at hva
        subst hva hvb
        have HCA := Lib.hid hca
        have HCB := Lib.hid hcb
        have T0 := Lib.hid (Three.start hoa.out hob.out hb hb.size)
        clear hca hcb
        have ht0 : (0 : Int) ≤ (turn : Int) := by omega
        have ht1 : (turn : Int) ≤ (ns.length : Int) := by omega
        have ht2 : (turn : Int) ≤ (cb : Int) := by omega
        have ht3 : (ns.length : Int) ≤ (cb : Int) := by omega
        have hzs : ∀ z ∈ ns, z ≤ 256 := fun z hz => by have := HN.out z hz; omega
        have AL := lists_alike ns turn n hzs (by omega)
        rw [← la_all, ← lb_all, ← HLA.out, ← HLB.out] at AL
        obtain ⟨al1, al2, al3, al4⟩ := AL
        have hLAw : ∀ y ∈ LA, y < W64 := fun y hy => by
          rw [HLA.out, la_all] at hy
          obtain ⟨z, hz, rfl⟩ := List.mem_map.1 hy
          exact (w16_points z (hzs z hz)).2.2
        have hLBw : ∀ y ∈ LB, y < W64 := fun y hy => by
          rw [HLB.out, lb_all] at hy
          obtain ⟨z, hz, rfl⟩ := List.mem_map.1 hy
          exact (b16_points z (hzs z hz)).2.2
        have hLAl : LA.length = ns.length := by rw [HLA.out, la_len]
        have hwn64 := (w16_points n (by omega)).2.2
        have HWN := Lib.hid (w16_spec n (by omega)).2.2
        obtain ⟨wn, hwn⟩ : ∃ q, q = w16 n := ⟨_, rfl⟩
        rw [← hwn] at al1 al2 al3 al4 HWN hwn64
        obtain ⟨sv, hsv⟩ : ∃ q, q = shareV wn LA := ⟨_, rfl⟩
        obtain ⟨se, hse⟩ : ∃ q, q = shareE wn LA := ⟨_, rfl⟩
        have HCA2 : Hid (∀ v w5, Owned w1.heap.size v LA w5 → Hid (∀ W, Below w5.heap.size w5 W → Calls Try.prog 12 #[.float .f64 wn, v] W fun e w' => e = .returned (.tuple #[.float .f64 sv, .int .i64 se]) ∧ Below w5.heap.size w5 w')) := fun v w5 hO W hW => by
          rw [hsv, hse]; exact hO.share (by omega) (by omega) hLAw wn hwn64 W hW
        have HCB2 : Hid (∀ v w5, Owned w1.heap.size v ([] ++ LB.drop turn ++ LB.take turn ++ [0]) w5 → Hid (∀ W, Below w5.heap.size w5 W → Calls Try.prog 12 #[.float .f64 wn, v] W fun e w' => e = .returned (.tuple #[.float .f64 sv, .int .i64 se]) ∧ Below w5.heap.size w5 w')) := fun v w5 hO W hW => by
          rw [hsv, hse, ← al1, ← al2]
          have h1 := turn_len LB turn (HBN.out.symm ▸ hlen)
          refine hO.share (by simp; omega) ?_ ?_ wn hwn64 W hW
          · have := HBN.out; simp; omega
          · intro y hy
            rw [List.nil_append, List.mem_append, List.mem_append, List.mem_singleton] at hy
            rcases hy with (hy | hy) | rfl
            · exact hLBw y (List.mem_of_mem_drop hy)
            · exact hLBw y (List.mem_of_mem_take hy)
            · decide
        have HE : Hid ((se = 0 ∧ (FloatKind.f64.format.order sv sv == some .eq) = true) ∨ (se = 7 ∧ sv = 0)) := by
          by_cases h7 : ns.sum = 0
          · rw [if_pos h7, ← hse] at al3
            exact .inr ⟨al3, by rw [hsv]; exact al4 (by rw [← hse]; exact al3)⟩
          · rw [if_neg h7, ← hse] at al3
            refine .inl ⟨al3, ?_⟩
            have h8 := alike_order ns n hlen hzs (by omega)
            rw [← la_all, ← HLA.out, ← hwn, ← hsv, ← hse] at h8
            exact h8 al3
        clear al1 al2 al3 al4 hLAw hLBw hLAl hwn64 hsv hse hzs hwn
        have hz60 := Lib.hid hlen
        by_cases hct : cb = turn
        · go_region_law (first | (refine step_append_at (Operand.tmp 58) (Operand.tmp 61) 27 rfl rfl ?_; refine ex_mono (Three.restO (B := w1.heap.size) (w0 := w1) (va := .slice (some ⟨ga, 0, none⟩) ns.length ca) (gb := gb) (n := ns.length) (c := cb) (z := ?_) (la := LA) (lb := LB) (l := []) ?_ _ _ turn ⟨gb, 0, none⟩ ?_ ?_ _ ?_ ?_) ?_; rotate_left; (focus (repeat (first | exact T5.out | exact T4.out | exact T3.out | exact T0.out | (refine Three.zeq ?_ T4.out; (focus (simp; done))) | refine Three.drew ?_ | (refine Three.fresh' ?_ ?_; (focus (first | rfl | (exact (World.size_alloc _ _).symm) | (simp; done)))) | (refine Three.more' ?_ ?_; (focus (first | rfl | (exact (World.size_alloc _ _).symm) | (simp; done)))) | refine Three.more ?_))); (focus (first | rfl | exact if_neg hct)); (focus (intro hq; first | rfl | (exfalso; rw [HBN.out] at hq; omega))); (focus (rw [HBN.out]; done)); (focus (rw [HBN.out]; simp; have := hz60.out; omega)); intro v3 w3 h; have T3 := Lib.hid h; clear h) | (refine step_append_at (Operand.tmp 62) (Operand.tmp 65) 27 rfl rfl ?_; refine ex_mono (Three.front (B := w1.heap.size) (w0 := w1) (va := .slice (some ⟨ga, 0, none⟩) ns.length ca) (gb := gb) (n := ns.length) (c := cb) (z := ?_) (la := LA) (lb := LB) (l := [] ++ LB.drop turn) ?_ _ _ turn ?_ ?_) ?_; rotate_left; (focus (repeat (first | exact T5.out | exact T4.out | exact T3.out | exact T0.out | (refine Three.zeq ?_ T4.out; (focus (simp; done))) | refine Three.drew ?_ | (refine Three.fresh' ?_ ?_; (focus (first | rfl | (exact (World.size_alloc _ _).symm) | (simp; done)))) | (refine Three.more' ?_ ?_; (focus (first | rfl | (exact (World.size_alloc _ _).symm) | (simp; done)))) | refine Three.more ?_))); (focus (rw [HBN.out]; omega)); (focus (simp [HBN.out]; have := hz60.out; omega)); intro v4 w4 h; have T4 := Lib.hid h; clear h) | (refine step_append_at (Operand.tmp 66) (Operand.tmp 67) 27 rfl rfl ?_; refine ex_mono (Three.zero (B := w1.heap.size) (w0 := w1) (va := .slice (some ⟨ga, 0, none⟩) ns.length ca) (vb := .slice (some ⟨gb, 0, none⟩) ns.length cb) (la := LA) (lb := LB) (l := [] ++ LB.drop turn ++ LB.take turn) ?_ _ ?_) ?_; (focus (repeat (first | exact T5.out | exact T4.out | exact T3.out | exact T0.out | (refine Three.zeq ?_ T4.out; (focus (simp; done))) | refine Three.drew ?_ | (refine Three.fresh' ?_ ?_; (focus (first | rfl | (exact (World.size_alloc _ _).symm) | (simp; done)))) | (refine Three.more' ?_ ?_; (focus (first | rfl | (exact (World.size_alloc _ _).symm) | (simp; done)))) | refine Three.more ?_))); (focus (exact turn_len LB turn (HBN.out.symm ▸ hz60.out))); intro v5 w5 h; have T5 := Lib.hid h; clear h))
          all_goals (have hb5 := T5.out.bel; have hqn := HWN.out w5; have hbw := Below.refl w5.heap.size w5; have CA : Hid (∀ W, Below w5.heap.size w5 W → Calls Try.prog 12 #[.float .f64 wn, .slice (some ⟨ga, 0, none⟩) ns.length ca] W fun e w' => e = .returned (.tuple #[.float .f64 sv, .int .i64 se]) ∧ Below w5.heap.size w5 w') := HCA2.out _ _ T5.out.ha; have CB : Hid (∀ W, Below w5.heap.size w5 W → Calls Try.prog 12 #[.float .f64 wn, v5] W fun e w' => e = .returned (.tuple #[.float .f64 sv, .int .i64 se]) ∧ Below w5.heap.size w5 w') := HCB2.out _ _ T5.out.own)
          all_goals clear HCA2 HCB2 HLA HLB HCA HCB HN HR A T0 HWN
          all_goals simp [Exit.then, Act.put]
          all_goals rcases HE.out with ⟨rfl, heq⟩ | ⟨rfl, rfl⟩
          all_goals (go_wp2_with (first | (go_at_call 12; (with_reducible refine (CA.out _ (by assumption)).mono ?_); rintro e w6 ⟨rfl, hb6⟩) | (go_at_call 12; (with_reducible refine (CB.out _ (by assumption)).mono ?_); rintro e w7 ⟨rfl, hb7⟩)))
          all_goals (go_ret; exact ⟨rfl, btr hb5 (by assumption)⟩)
        · go_region_law (first | (refine step_append_at (Operand.tmp 58) (Operand.tmp 61) 27 rfl rfl ?_; refine ex_mono (Three.restO (B := w1.heap.size) (w0 := w1) (va := .slice (some ⟨ga, 0, none⟩) ns.length ca) (gb := gb) (n := ns.length) (c := cb) (z := ?_) (la := LA) (lb := LB) (l := []) ?_ _ _ turn ⟨gb, turn, none⟩ ?_ ?_ _ ?_ ?_) ?_; rotate_left; (focus (repeat (first | exact T5.out | exact T4.out | exact T3.out | exact T0.out | (refine Three.zeq ?_ T4.out; (focus (simp; done))) | refine Three.drew ?_ | (refine Three.fresh' ?_ ?_; (focus (first | rfl | (exact (World.size_alloc _ _).symm) | (simp; done)))) | (refine Three.more' ?_ ?_; (focus (first | rfl | (exact (World.size_alloc _ _).symm) | (simp; done)))) | refine Three.more ?_))); (focus (first | rfl | exact if_neg hct)); (focus (intro hq; first | rfl | (exfalso; rw [HBN.out] at hq; omega))); (focus (rw [HBN.out]; done)); (focus (rw [HBN.out]; simp; have := hz60.out; omega)); intro v3 w3 h; have T3 := Lib.hid h; clear h) | (refine step_append_at (Operand.tmp 62) (Operand.tmp 65) 27 rfl rfl ?_; refine ex_mono (Three.front (B := w1.heap.size) (w0 := w1) (va := .slice (some ⟨ga, 0, none⟩) ns.length ca) (gb := gb) (n := ns.length) (c := cb) (z := ?_) (la := LA) (lb := LB) (l := [] ++ LB.drop turn) ?_ _ _ turn ?_ ?_) ?_; rotate_left; (focus (repeat (first | exact T5.out | exact T4.out | exact T3.out | exact T0.out | (refine Three.zeq ?_ T4.out; (focus (simp; done))) | refine Three.drew ?_ | (refine Three.fresh' ?_ ?_; (focus (first | rfl | (exact (World.size_alloc _ _).symm) | (simp; done)))) | (refine Three.more' ?_ ?_; (focus (first | rfl | (exact (World.size_alloc _ _).symm) | (simp; done)))) | refine Three.more ?_))); (focus (rw [HBN.out]; omega)); (focus (simp [HBN.out]; have := hz60.out; omega)); intro v4 w4 h; have T4 := Lib.hid h; clear h) | (refine step_append_at (Operand.tmp 66) (Operand.tmp 67) 27 rfl rfl ?_; refine ex_mono (Three.zero (B := w1.heap.size) (w0 := w1) (va := .slice (some ⟨ga, 0, none⟩) ns.length ca) (vb := .slice (some ⟨gb, 0, none⟩) ns.length cb) (la := LA) (lb := LB) (l := [] ++ LB.drop turn ++ LB.take turn) ?_ _ ?_) ?_; (focus (repeat (first | exact T5.out | exact T4.out | exact T3.out | exact T0.out | (refine Three.zeq ?_ T4.out; (focus (simp; done))) | refine Three.drew ?_ | (refine Three.fresh' ?_ ?_; (focus (first | rfl | (exact (World.size_alloc _ _).symm) | (simp; done)))) | (refine Three.more' ?_ ?_; (focus (first | rfl | (exact (World.size_alloc _ _).symm) | (simp; done)))) | refine Three.more ?_))); (focus (exact turn_len LB turn (HBN.out.symm ▸ hz60.out))); intro v5 w5 h; have T5 := Lib.hid h; clear h))
          all_goals (have hb5 := T5.out.bel; have hqn := HWN.out w5; have hbw := Below.refl w5.heap.size w5; have CA : Hid (∀ W, Below w5.heap.size w5 W → Calls Try.prog 12 #[.float .f64 wn, .slice (some ⟨ga, 0, none⟩) ns.length ca] W fun e w' => e = .returned (.tuple #[.float .f64 sv, .int .i64 se]) ∧ Below w5.heap.size w5 w') := HCA2.out _ _ T5.out.ha; have CB : Hid (∀ W, Below w5.heap.size w5 W → Calls Try.prog 12 #[.float .f64 wn, v5] W fun e w' => e = .returned (.tuple #[.float .f64 sv, .int .i64 se]) ∧ Below w5.heap.size w5 w') := HCB2.out _ _ T5.out.own)
          all_goals clear HCA2 HCB2 HLA HLB HCA HCB HN HR A T0 HWN
          all_goals simp [Exit.then, Act.put]
          all_goals rcases HE.out with ⟨rfl, heq⟩ | ⟨rfl, rfl⟩
          all_goals (go_wp2_with (first | (go_at_call 12; (with_reducible refine (CA.out _ (by assumption)).mono ?_); rintro e w6 ⟨rfl, hb6⟩) | (go_at_call 12; (with_reducible refine (CB.out _ (by assumption)).mono ?_); rintro e w7 ⟨rfl, hb7⟩)))
          all_goals (go_ret; exact ⟨rfl, btr hb5 (by assumption)⟩)
theorem walk (a0 : Int) (a1 : Option Addr) (len1 cap1 : Nat) (z1 : List Int) (a2 : Int) (w : World) (w0 : (Lit.int .u8 a0).wf = true) (w1 : IsRow .u8 w a1 len1 cap1 z1) (w2 : (Lit.int .i64 a2).wf = true) :
    Calls Try.prog 4 #[.int .u8 a0, .slice a1 len1 cap1, .int .i64 a2] w fun e w' => e = .returned (.bool true) ∧ Below w.heap.size w w' := by
  obtain ⟨a, rfl, ha⟩ := u8_nat w0
  obtain ⟨ns, rfl, h2, h3⟩ := row_nats w1
  by_cases hl : ns.length ≤ 60
  · by_cases h4 : 0 ≤ a2
    · by_cases h5 : a2 ≤ ns.length
      · obtain ⟨turn, rfl⟩ : ∃ t : Nat, a2 = t := ⟨a2.toNat, by omega⟩
        exact walkA a turn ns a1 cap1 w ha h2 hl (by omega) h3
      · have A : Hid (∀ W, Calls Try.prog 10 #[] W fun e w' => e = .returned (.bool true) ∧ w' = W) := awake_any
        clear h2 h3 w0 w1 ha
        go_enter Try.func4, Try.ntmps4
        go_wp2_with (go_at_call 10; refine (A.out _).mono ?_; rintro e w1 ⟨rfl, rfl⟩)
        go_ret
        exact ⟨rfl, Below.refl _ _⟩
    · have A : Hid (∀ W, Calls Try.prog 10 #[] W fun e w' => e = .returned (.bool true) ∧ w' = W) := awake_any
      clear h2 h3 w0 w1 ha
      go_enter Try.func4, Try.ntmps4
      go_wp2_with (go_at_call 10; refine (A.out _).mono ?_; rintro e w1 ⟨rfl, rfl⟩)
      go_ret
      exact ⟨rfl, Below.refl _ _⟩
  · have A : Hid (∀ W, Calls Try.prog 10 #[] W fun e w' => e = .returned (.bool true) ∧ w' = W) := awake_any
    clear h2 h3 w0 w1 ha
    go_enter Try.func4, Try.ntmps4
    go_wp2_with (go_at_call 10; refine (A.out _).mono ?_; rintro e w1 ⟨rfl, rfl⟩)
    go_ret
    exact ⟨rfl, Below.refl _ _⟩

/-! ### THE ROW's STEP: WRITTEN OUT: LEAVE IT -/
set_option maxRecDepth 100000 in
theorem lifted (os : Os) (started : os.Started) (H : Type) (enc : TypeId × Value → H) :
    ReturnsInHanded {} Try.checked os 4 .any (Rows.weightListsSpec.pre6 enc Try.prog Try.f4 Rows.weightListsRow.domain false) (Rows.weightListsSpec.post enc Try.prog Try.f4 false true false false) := by
  refine returnsInHanded_of_change (C := Try.checked) own started (by kernel_rfl) Try.func4
    (ChangeSpec.witness6 (enc := enc) (C := Try.checked) false ⟨#[], #[.int .u8 0, .slice none 0 0, .int .i64 0], []⟩ 8 (by kernel_rfl) (by kernel_rfl) (by kernel_rfl) (by kernel_rfl)) ?_
  intro W base args ds gs before hval0 hW hcnd _
  have hval : ∀ (j : Nat) t v, Try.f4.params[j]? = some t → args[j]? = some v → Value.okWide Try.prog W .any base t v := hval0
  have hW' := hW
  obtain ⟨p, q, hA0, hV, rfl, hfz, hnd⟩ := hW
  have hA : DataW.TrodAll enc Try.prog W 0 (fun _ => true) true Try.f4.params.toList args.toList ds p := hA0
  rw [Try.params4] at hA hval
  obtain ⟨v0, vs0, d0, ds0, p0, q0, hargs, rfl, rfl, h0, r0⟩ := trodAll_cons hA
  obtain ⟨v1, vs1, d1, ds1, p1, q1, rfl, rfl, rfl, h1, r1⟩ := trodAll_cons r0
  obtain ⟨v2, vs2, d2, ds2, p2, q2, rfl, rfl, rfl, h2, r2⟩ := trodAll_cons r1
  obtain ⟨rfl, rfl, rfl⟩ := trodAll_nil r2
  obtain rfl : args = #[v0, v1, v2] := by cases args; simp_all
  obtain ⟨rfl, rfl⟩ := trodVars_none hV
  obtain ⟨a0, rfl, rfl, rfl, w0⟩ := open_int Try.underlying5 (hval 0 5 v0 rfl rfl) h0
  obtain ⟨a1, len1, cap1, rfl⟩ := okWide_slice Try.underlying35 (hval 1 35 v1 rfl rfl)
  have k1 := h1
  have lt1 : ∀ x ∈ p1, x.block < W.heap.size := by obtain ⟨m, hm⟩ := k1; exact DataW.trod_lt m _ _ _ hm
  obtain ⟨z1, w1⟩ : ∃ zs, IsRow .u8 W a1 len1 cap1 zs := by
    obtain ⟨fuel, hf⟩ := h1
    rcases open_ints Try.underlying35 Try.underlying5 (by kernel_rfl) hf with ⟨hcs, _⟩ | ⟨x, l, c, zs, hcs, _, hl, hm, hz, _, hcell, hwz⟩
    · simp [Value.cells] at hcs
      obtain ⟨rfl, rfl, rfl⟩ := hcs
      exact ⟨[], .inl ⟨rfl, rfl, rfl, rfl⟩⟩
    · simp [Value.cells] at hcs
      obtain ⟨rfl, rfl, rfl⟩ := hcs
      exact ⟨zs, .inr ⟨_, rfl, hl, hm, by simpa using hz, hcell, hwz⟩⟩
  obtain ⟨a2, rfl, rfl, rfl, w2⟩ := open_int Try.underlying3 (hval 2 3 v2 rfl rfl) h2
  clear hA0 hval0
  refine (walk a0 a1 len1 cap1 z1 a2 W w0 w1 w2).mono fun e W' ⟨he, bel⟩ => ?_
  subst he
  exact ⟨_, rfl, _, _, _, [], _, [], hW', trodAll_mk1 (shut_bool Try.underlying4 _), (trodAll_cons_mk (shut_int Try.underlying5 w0) (trodAll_cons_mk (Below.trod laidOut (by kernel_rfl) (of_decide_eq_true (by kernel_rfl)) k1 bel lt1) (trodAll_cons_mk (shut_int Try.underlying3 w2) trodAll_mk0))), rfl, bel.frame _, fun h => by cases h⟩

theorem over : Rows.weightListsRow.holds Try.pinned (OpenSpec.ofChange Rows.weightListsSpec) :=
  OpenClaim.holds_of_wide 4 Try.f4 rfl rfl rfl rfl rfl rfl rfl ⟨rfl, rfl, rfl, rfl, rfl⟩ rfl rfl rfl rfl rfl (by kernel_rfl) Try.func4 (by kernel_rfl)
    (of_decide_eq_true (by kernel_rfl)) (by unfold Func.isWrapper; first | (rw [if_pos (by decide +kernel)]; kernel_rfl) | (rw [if_neg (by decide +kernel)]; exact ⟨rfl, rfl⟩))
    (fun os started H enc _ => lifted os started H enc)

/-- ████ THE STATEMENT ████ -/
theorem proved : Rows.WeightListsSaid := over
#print axioms proved
end Go.Proofs.Ytdhgmpggophcmaa.weightLists
