-- Written by a program of this session (wip/tools/drive.py) for this seat, partly by the kit's print.py; some functions by hand.
import Derived.Test.YthpcplpannbipaaY0
namespace Go.Proofs.Ythpcplpannbipaa.Y
open Go.RowKit Go.Proofs.YthpcplpannbipaaW.PrintWords Go.Proofs.YthpcplpannbipaaW.PrintLast Go.Proofs.YthpcplpannbipaaW.PrintMore
attribute [local go_sem] max2_int min2_int max_two min_two max_three min_three max_four min_four   -- for this text's walks alone
open Go.Proofs.Ythpcplpannbipaa.Kx
set_option linter.unusedVariables false
set_option linter.unusedSimpArgs false

/-! ### match_Set_Diff: function 22 -/
mutual
def match_Set_Diff.l0 : Nat → List ByteArray → List ByteArray → List (S40) → Option ((List (S40)))
  | 0, _, _, _ => none
  | k + 1, x0, x1, x5 => if (x0.length : Int) > 0 then (match_Set_Diff.j1 k x0 x1 x5 true) else (match_Set_Diff.j1 k x0 x1 x5 (decide ((x1.length : Int) > 0)))
def match_Set_Diff.j1 : Nat → List ByteArray → List ByteArray → List (S40) → Bool → Option ((List (S40)))
  | 0, _, _, _, _ => none
  | k + 1, x0, x1, x5, x13 => if x13 = true then (if (x1.length : Int) = 0 then (match_Set_Diff.j2 k x0 x1 x5 true) else (if (x0.length : Int) > 0 then (if 0 < (x0.length : Int) then (if 0 < (x1.length : Int) then (match_Set_Diff.j2 k x0 x1 x5 (Op.bytesLess ((rdOf ByteArray.empty x0 0).toList) ((rdOf ByteArray.empty x1 0).toList))) else (none)) else (none)) else (match_Set_Diff.j2 k x0 x1 x5 false))) else (some x5)
def match_Set_Diff.j2 : Nat → List ByteArray → List ByteArray → List (S40) → Bool → Option ((List (S40)))
  | 0, _, _, _, _ => none
  | k + 1, x0, x1, x5, x18 => if x18 = true then (if 0 < (x0.length : Int) then (if x5.length < 5864062014805 then (if 1 ≤ (x0.length : Int) then (match_Set_Diff.l0 k (x0.drop 1) x1 (x5 ++ [(⟨rdOf ByteArray.empty x0 0, false⟩ : S40)])) else (none)) else (none)) else (none)) else (if (x0.length : Int) = 0 then (if 0 < (x1.length : Int) then (if x5.length < 5864062014805 then (if 1 ≤ (x1.length : Int) then (match_Set_Diff.l0 k x0 (x1.drop 1) (x5 ++ [(⟨rdOf ByteArray.empty x1 0, true⟩ : S40)])) else (none)) else (none)) else (none)) else (if 0 < (x1.length : Int) then (if 0 < (x0.length : Int) then (if (Op.bytesLess ((rdOf ByteArray.empty x1 0).toList) ((rdOf ByteArray.empty x0 0).toList)) = true then (if x5.length < 5864062014805 then (if 1 ≤ (x1.length : Int) then (match_Set_Diff.l0 k x0 (x1.drop 1) (x5 ++ [(⟨rdOf ByteArray.empty x1 0, true⟩ : S40)])) else (none)) else (none)) else (if 1 ≤ (x0.length : Int) then (if 1 ≤ (x1.length : Int) then (match_Set_Diff.l0 k (x0.drop 1) (x1.drop 1) x5) else (none)) else (none))) else (none)) else (none)))
end
def match_Set_Diff.f (k : Nat) (l0 : List ByteArray) (l1 : List ByteArray) : Option ((List (S40))) := match_Set_Diff.l0 k l0 l1 ([] : List (S40))
theorem match_Set_Diff.mono_l : ∀ k, (∀ y0 y1 y2, LeO (match_Set_Diff.l0 k y0 y1 y2) (match_Set_Diff.l0 (k + 1) y0 y1 y2)) ∧ (∀ y0 y1 y2 y3, LeO (match_Set_Diff.j1 k y0 y1 y2 y3) (match_Set_Diff.j1 (k + 1) y0 y1 y2 y3)) ∧ (∀ y0 y1 y2 y3, LeO (match_Set_Diff.j2 k y0 y1 y2 y3) (match_Set_Diff.j2 (k + 1) y0 y1 y2 y3))
  | 0 => ⟨fun _ _ _ r h => by simp [match_Set_Diff.l0] at h, fun _ _ _ _ r h => by simp [match_Set_Diff.j1] at h, fun _ _ _ _ r h => by simp [match_Set_Diff.j2] at h⟩
  | k + 1 => by
    obtain ⟨ih0, ih1, ih2⟩ := match_Set_Diff.mono_l k
    refine ⟨?_, ?_, ?_⟩
    · intro y0 y1 y2
      unfold match_Set_Diff.l0
      repeat' first
      | (with_reducible exact ih0 _ _ _)
      | (with_reducible exact ih1 _ _ _ _)
      | (with_reducible exact ih2 _ _ _ _)
      | (with_reducible exact LeO.refl _)
      | (with_reducible exact LeO.none _)
      | (with_reducible refine LeO.ite ?_ ?_)
      | (with_reducible refine LeO.bind ?_ (fun _ => ?_))
      | exact ih0 _ _ _
      | exact ih1 _ _ _ _
      | exact ih2 _ _ _ _
      | exact LeO.none _
      | refine LeO.ite ?_ ?_
      | refine LeO.bind ?_ (fun _ => ?_)
    · intro y0 y1 y2 y3
      unfold match_Set_Diff.j1
      repeat' first
      | (with_reducible exact ih0 _ _ _)
      | (with_reducible exact ih1 _ _ _ _)
      | (with_reducible exact ih2 _ _ _ _)
      | (with_reducible exact LeO.refl _)
      | (with_reducible exact LeO.none _)
      | (with_reducible refine LeO.ite ?_ ?_)
      | (with_reducible refine LeO.bind ?_ (fun _ => ?_))
      | exact ih0 _ _ _
      | exact ih1 _ _ _ _
      | exact ih2 _ _ _ _
      | exact LeO.none _
      | refine LeO.ite ?_ ?_
      | refine LeO.bind ?_ (fun _ => ?_)
    · intro y0 y1 y2 y3
      unfold match_Set_Diff.j2
      repeat' first
      | (with_reducible exact ih0 _ _ _)
      | (with_reducible exact ih1 _ _ _ _)
      | (with_reducible exact ih2 _ _ _ _)
      | (with_reducible exact LeO.refl _)
      | (with_reducible exact LeO.none _)
      | (with_reducible refine LeO.ite ?_ ?_)
      | (with_reducible refine LeO.bind ?_ (fun _ => ?_))
      | exact ih0 _ _ _
      | exact ih1 _ _ _ _
      | exact ih2 _ _ _ _
      | exact LeO.none _
      | refine LeO.ite ?_ ?_
      | refine LeO.bind ?_ (fun _ => ?_)
theorem match_Set_Diff.mono : ∀ a0 a1 k, LeO (match_Set_Diff.f k a0 a1) (match_Set_Diff.f (k + 1) a0 a1) := by
  intro a0 a1 k
  obtain ⟨ih0, ih1, ih2⟩ := match_Set_Diff.mono_l k
  unfold match_Set_Diff.f
  repeat' first
      | (with_reducible exact ih0 _ _ _)
      | (with_reducible exact ih1 _ _ _ _)
      | (with_reducible exact ih2 _ _ _ _)
      | (with_reducible exact LeO.refl _)
      | (with_reducible exact LeO.none _)
      | (with_reducible refine LeO.ite ?_ ?_)
      | (with_reducible refine LeO.bind ?_ (fun _ => ?_))
      | exact ih0 _ _ _
      | exact ih1 _ _ _ _
      | exact ih2 _ _ _ _
      | exact LeO.none _
      | refine LeO.ite ?_ ?_
      | refine LeO.bind ?_ (fun _ => ?_)
set_option maxHeartbeats 8000000 in
set_option maxRecDepth 100000 in
theorem match_Set_Diff.calls (k : Nat) (P0_ : Nat → Prop) (A0 : Option Addr) (c0 : Nat) (l0 : List ByteArray) (P1_ : Nat → Prop) (A1 : Option Addr) (c1 : Nat) (l1 : List ByteArray) (r : List (S40)) (w : World) (hs0 : Kd.V Kd.string 9 w w.heap.size (fun k_ => P0_ k_) (.slice A0 l0.length c0) l0) (hs1 : Kd.V Kd.string 9 w w.heap.size (fun k_ => P1_ k_) (.slice A1 l1.length c1) l1) (h : match_Set_Diff.f k l0 l1 = some r) :
    Calls Try.prog 22 #[.slice A0 l0.length c0, .slice A1 l1.length c1] w fun e w' => ∃ v0_ : Value, e = .returned (v0_) ∧ Kd.R k40 40 w' w.heap.size (fun k_ => (w.heap.size ≤ k_)) v0_ r ∧ Below w.heap.size w w' := by
  have hu40 := Try.underlying40
  have HO0 := Aside0.mk (show Kd.V Kd.string 9 w w.heap.size (fun k_ => ((P0_ k_ ∨ P1_ k_) ∨ w.heap.size ≤ k_)) (.slice A0 l0.length c0) l0 from Kd.V_mono hs0 (fun k_ hk => .inl (.inl hk)))
  have HO1 := Aside0.mk (show Kd.V Kd.string 9 w w.heap.size (fun k_ => ((P0_ k_ ∨ P1_ k_) ∨ w.heap.size ≤ k_)) (.slice A1 l1.length c1) l1 from Kd.V_mono hs1 (fun k_ hk => .inl (.inr hk)))
  have HB := Aside0.mk (Below.refl w.heap.size w)
  have H : (match_Set_Diff.l0 k l0 l1 ([] : List (S40))) = some r := h
  clear h
  have H' := Aside0.mk H
  clear H
  go_enter Try.func22, Try.ntmps22
  go_wp2
  repeat (go_quiet (fail); try go_wp2)
  go_loopg [0, 1, 5] k (fun kq v0 v1 v5 w' => ∃ (x0_1 : List ByteArray) (x1_1 : List ByteArray) (x5_1 : List (S40)), Aside0 (match_Set_Diff.l0 kq x0_1 x1_1 x5_1 = some r) ∧ Aside0 (kq ≤ k) ∧ Aside0 (Kd.V Kd.string 9 w' w.heap.size (fun k_ => ((P0_ k_ ∨ P1_ k_) ∨ w.heap.size ≤ k_) ∧ some k_ ≠ (v5 : Value).ownBlock) v0 x0_1) ∧ Aside0 (Kd.V Kd.string 9 w' w.heap.size (fun k_ => ((P0_ k_ ∨ P1_ k_) ∨ w.heap.size ≤ k_) ∧ some k_ ≠ (v5 : Value).ownBlock) v1 x1_1) ∧ Aside0 (Kd.R k40 40 w' w.heap.size (fun k_ => (w.heap.size ≤ k_)) v5 x5_1) ∧ Aside0 (Below w.heap.size w w'))
  case atStart => exact ⟨(l0), (l1), (([] : List (S40))), H', ⟨Nat.le_refl _⟩, ⟨by (with_reducible repeat (first | apply Kd.V_alloc | apply Kd.V_drewN | apply Kd.V_drew)); exact Kd.V_mono HO0.out (fun _ hk => ⟨hk, (by simp [Value.ownBlock])⟩)⟩, ⟨by (with_reducible repeat (first | apply Kd.V_alloc | apply Kd.V_drewN | apply Kd.V_drew)); exact Kd.V_mono HO1.out (fun _ hk => ⟨hk, (by simp [Value.ownBlock])⟩)⟩, ⟨by first | exact Kd.R_nil _ _ _ _ _ | exact Kd.N_nil _ _ _ _ _ | exact Kd.V_nil _ _ _ _ _ | exact Kd.Q_nil _ _ _ _ _ | exact Kd.S_nil _ _ _ _ _⟩, ⟨by repeat (first | (with_reducible first | exact HB.out | apply below_alloc | apply pw_below_drewN | apply below_drew1) | exact HB.out)⟩⟩
  case round =>
    clear H'
    try clear c1
    try clear c2
    try clear p2
    obtain ⟨x0_1, x1_1, x5_1, HA, HK1, HO_0, HO_1, HO_5, HB⟩ := hrel
    cases gk with
    | zero => exact absurd HA.out (by simp [match_Set_Diff.l0])
    | succ k1 =>
      have H := HA.out
      clear HA
      simp only [match_Set_Diff.l0] at H
      have HC3 := Aside0.mk H
      clear H
      go_upto_region 2 with (fail)
      repeat (go_quiet (fail); go_upto_region 2 with (fail))
      go_cut [13] (fun v13 wc => ∃ (kq : Nat) (x13_2 : Bool), v13 = .bool x13_2 ∧ Aside0 (match_Set_Diff.j1 kq x0_1 x1_1 x5_1 x13_2 = some r) ∧ Aside0 (kq ≤ k1) ∧ Aside0 (Kd.V Kd.string 9 wc w.heap.size (fun k_ => ((P0_ k_ ∨ P1_ k_) ∨ w.heap.size ≤ k_) ∧ some k_ ≠ (u5 : Value).ownBlock) u0 x0_1) ∧ Aside0 (Kd.V Kd.string 9 wc w.heap.size (fun k_ => ((P0_ k_ ∨ P1_ k_) ∨ w.heap.size ≤ k_) ∧ some k_ ≠ (u5 : Value).ownBlock) u1 x1_1) ∧ Aside0 (Kd.R k40 40 wc w.heap.size (fun k_ => (w.heap.size ≤ k_)) u5 x5_1) ∧ Aside0 (Below w.heap.size w wc))
      case first =>
        have H := HC3.out
        clear HC3
        by_cases c4 : (x0_1.length : Int) > 0
        · rw [if_pos c4] at H
          have c4b0 : decide (0 < (x0_1.length : Int)) = true := decide_eq_true c4
          have c4b1 : decide (0 < x0_1.length) = true := decide_eq_true (by omega)
          clear c4
          (first | rw [c4b0] | (simp only [i64_w, i32_w]; rw [c4b0]) | skip)
          have H' := Aside0.mk H
          clear H
          obtain ⟨Ao5, co5, eo5⟩ := Kd.V_slice HO_0.out
          subst eo5
          go_wp2
          repeat (go_quiet (fail); try go_wp2)
          go_meet
          case rel => exact ⟨_, (true), (by first | rfl | (simp; done) | (simp [*]; done)), H', ⟨by have := HK1.out; first | omega | exact Nat.le_refl _⟩, ⟨by (with_reducible repeat (first | apply Kd.V_alloc | apply Kd.V_drewN | apply Kd.V_drew)); exact HO_0.out⟩, ⟨by (with_reducible repeat (first | apply Kd.V_alloc | apply Kd.V_drewN | apply Kd.V_drew)); exact HO_1.out⟩, ⟨by (with_reducible repeat (first | apply Kd.R_alloc | apply Kd.R_drewN | apply Kd.R_drew)); exact HO_5.out⟩, ⟨by repeat (first | (with_reducible first | exact HB.out | apply below_alloc | apply pw_below_drewN | apply below_drew1) | exact HB.out)⟩⟩
        · rw [if_neg c4] at H
          have c4b0 : decide (0 < (x0_1.length : Int)) = false := decide_eq_false c4
          have c4b1 : decide (0 < x0_1.length) = false := decide_eq_false (by omega)
          clear c4
          (first | rw [c4b0] | (simp only [i64_w, i32_w]; rw [c4b0]) | skip)
          have H' := Aside0.mk H
          clear H
          obtain ⟨Ao6, co6, eo6⟩ := Kd.V_slice HO_0.out
          subst eo6
          obtain ⟨Ao7, co7, eo7⟩ := Kd.V_slice HO_1.out
          subst eo7
          go_wp2
          repeat (go_quiet (fail); try go_wp2)
          go_meet
          case rel => exact ⟨_, (decide ((x1_1.length : Int) > 0)), (by first | rfl | (simp; done) | (simp [*]; done)), H', ⟨by have := HK1.out; first | omega | exact Nat.le_refl _⟩, ⟨by (with_reducible repeat (first | apply Kd.V_alloc | apply Kd.V_drewN | apply Kd.V_drew)); exact HO_0.out⟩, ⟨by (with_reducible repeat (first | apply Kd.V_alloc | apply Kd.V_drewN | apply Kd.V_drew)); exact HO_1.out⟩, ⟨by (with_reducible repeat (first | apply Kd.R_alloc | apply Kd.R_drewN | apply Kd.R_drew)); exact HO_5.out⟩, ⟨by repeat (first | (with_reducible first | exact HB.out | apply below_alloc | apply pw_below_drewN | apply below_drew1) | exact HB.out)⟩⟩
      case rest =>
        clear HC3
        try clear c1
        try clear c2
        try clear p2
        try clear c4
        try clear c4b0
        try clear c4b1
        try clear p2
        obtain ⟨kq, x13_2, rfl, HA, HJ2, HO_0, HO_1, HO_5, HB⟩ := hcut
        cases kq with
        | zero => exact absurd HA.out (by simp [match_Set_Diff.j1])
        | succ kj2 =>
          have H := HA.out
          clear HA
          simp only [match_Set_Diff.j1] at H
          by_cases c8 : x13_2 = true
          · subst c8
            have H1 : (if (x1_1.length : Int) = 0 then (match_Set_Diff.j2 kj2 x0_1 x1_1 x5_1 true) else (if (x0_1.length : Int) > 0 then (if 0 < (x0_1.length : Int) then (if 0 < (x1_1.length : Int) then (match_Set_Diff.j2 kj2 x0_1 x1_1 x5_1 (Op.bytesLess ((rdOf ByteArray.empty x0_1 0).toList) ((rdOf ByteArray.empty x1_1 0).toList))) else (none)) else (none)) else (match_Set_Diff.j2 kj2 x0_1 x1_1 x5_1 false))) = some r := by rw [if_pos rfl] at H; exact H
            clear H
            have H := H1
            clear H1
            have HC9 := Aside0.mk H
            clear H
            go_upto_region 4 with (fail)
            repeat (go_quiet (fail); go_upto_region 4 with (fail))
            go_cut [18] (fun v18 wc => ∃ (kq : Nat) (x18_8 : Bool), v18 = .bool x18_8 ∧ Aside0 (match_Set_Diff.j2 kq x0_1 x1_1 x5_1 x18_8 = some r) ∧ Aside0 (kq ≤ kj2) ∧ Aside0 (Kd.V Kd.string 9 wc w.heap.size (fun k_ => ((P0_ k_ ∨ P1_ k_) ∨ w.heap.size ≤ k_) ∧ some k_ ≠ (u5 : Value).ownBlock) u0 x0_1) ∧ Aside0 (Kd.V Kd.string 9 wc w.heap.size (fun k_ => ((P0_ k_ ∨ P1_ k_) ∨ w.heap.size ≤ k_) ∧ some k_ ≠ (u5 : Value).ownBlock) u1 x1_1) ∧ Aside0 (Kd.R k40 40 wc w.heap.size (fun k_ => (w.heap.size ≤ k_)) u5 x5_1) ∧ Aside0 (Below w.heap.size w wc))
            case first =>
              have H := HC9.out
              clear HC9
              by_cases c10 : (x1_1.length : Int) = 0
              · rw [if_pos c10] at H
                have c10b0 : ((x1_1.length : Int) == 0) = true := beq_iff_eq.mpr c10
                have c10b1 : ((x1_1.length : Int) != 0) = false := bne_eq_false_iff_eq.mpr c10
                clear c10
                (first | rw [c10b0] | (simp only [i64_w, i32_w]; rw [c10b0]) | skip)
                have H' := Aside0.mk H
                clear H
                obtain ⟨Ao11, co11, eo11⟩ := Kd.V_slice HO_1.out
                subst eo11
                go_wp2
                repeat (go_quiet (fail); try go_wp2)
                go_meet
                case rel => exact ⟨_, (true), (by first | rfl | (simp; done) | (simp [*]; done)), H', ⟨by have := HK1.out; have := HJ2.out; first | omega | exact Nat.le_refl _⟩, ⟨by (with_reducible repeat (first | apply Kd.V_alloc | apply Kd.V_drewN | apply Kd.V_drew)); exact HO_0.out⟩, ⟨by (with_reducible repeat (first | apply Kd.V_alloc | apply Kd.V_drewN | apply Kd.V_drew)); exact HO_1.out⟩, ⟨by (with_reducible repeat (first | apply Kd.R_alloc | apply Kd.R_drewN | apply Kd.R_drew)); exact HO_5.out⟩, ⟨by repeat (first | (with_reducible first | exact HB.out | apply below_alloc | apply pw_below_drewN | apply below_drew1) | exact HB.out)⟩⟩
              · rw [if_neg c10] at H
                have c10b0 : ((x1_1.length : Int) == 0) = false := beq_eq_false_iff_ne.mpr c10
                have c10b1 : ((x1_1.length : Int) != 0) = true := bne_iff_ne.mpr c10
                have c10b2 : ¬ (x1_1 = []) := fun h_ => c10 (by rw [h_]; rfl)
                (first | rw [c10b0] | (simp only [i64_w, i32_w]; rw [c10b0]) | skip)
                by_cases c12 : (x0_1.length : Int) > 0
                · rw [if_pos c12] at H
                  have c12b0 : decide (0 < (x0_1.length : Int)) = true := decide_eq_true c12
                  have c12b1 : decide (0 < x0_1.length) = true := decide_eq_true (by omega)
                  clear c12
                  by_cases c13 : 0 < (x0_1.length : Int)
                  · rw [if_pos c13] at H
                    have c13b0 : decide (0 < (x0_1.length : Int)) = true := decide_eq_true c13
                    have c13b1 : decide (0 < x0_1.length) = true := decide_eq_true (by omega)
                    clear c13
                    by_cases c14 : 0 < (x1_1.length : Int)
                    · rw [if_pos c14] at H
                      have c14b0 : decide (0 < (x1_1.length : Int)) = true := decide_eq_true c14
                      have c14b1 : decide (0 < x1_1.length) = true := decide_eq_true (by omega)
                      clear c14
                      have H' := Aside0.mk H
                      clear H
                      obtain ⟨Ao15, co15, eo15⟩ := Kd.V_slice HO_1.out
                      subst eo15
                      obtain ⟨Ao16, co16, eo16⟩ := Kd.V_slice HO_0.out
                      subst eo16
                      have p113 : 0 ≤ (0 : Int) := (by omega)
                      have q113 : 0 < (x0_1.length : Int) := of_decide_eq_true (by first | (with_reducible assumption) | assumption)
                      obtain ⟨ad113, e113, hx113_0⟩ := Kd.at_string (Kd.V_reads' HO_0.out).2.2 0 p113 q113
                      cases e113
                      have qi113 : (0 < x0_1.length) = True := eq_true (by omega)
                      (try rw [show ((0 : Int)).toNat = 0 from rfl] at hx113_0)
                      (try rw [Addr.add_zero'] at hx113_0)
                      replace p113 := eq_true p113
                      replace q113 := eq_true q113
                      have p114 : 0 ≤ (0 : Int) := (by omega)
                      have q114 : 0 < (x1_1.length : Int) := of_decide_eq_true (by first | (with_reducible assumption) | assumption)
                      obtain ⟨ad114, e114, hx114_0⟩ := Kd.at_string (Kd.V_reads' HO_1.out).2.2 0 p114 q114
                      cases e114
                      have qi114 : (0 < x1_1.length) = True := eq_true (by omega)
                      (try rw [show ((0 : Int)).toNat = 0 from rfl] at hx114_0)
                      (try rw [Addr.add_zero'] at hx114_0)
                      replace p114 := eq_true p114
                      replace q114 := eq_true q114
                      go_wp2
                      repeat (go_quiet (fail); try go_wp2)
                      go_meet
                      case rel => exact ⟨_, ((Op.bytesLess ((rdOf ByteArray.empty x0_1 0).toList) ((rdOf ByteArray.empty x1_1 0).toList))), (by first | rfl | (simp; done) | (simp [*]; done)), H', ⟨by have := HK1.out; have := HJ2.out; first | omega | exact Nat.le_refl _⟩, ⟨by (with_reducible repeat (first | apply Kd.V_alloc | apply Kd.V_drewN | apply Kd.V_drew)); exact HO_0.out⟩, ⟨by (with_reducible repeat (first | apply Kd.V_alloc | apply Kd.V_drewN | apply Kd.V_drew)); exact HO_1.out⟩, ⟨by (with_reducible repeat (first | apply Kd.R_alloc | apply Kd.R_drewN | apply Kd.R_drew)); exact HO_5.out⟩, ⟨by repeat (first | (with_reducible first | exact HB.out | apply below_alloc | apply pw_below_drewN | apply below_drew1) | exact HB.out)⟩⟩
                    · rw [if_neg c14] at H
                      exact absurd H (by simp)
                  · rw [if_neg c13] at H
                    exact absurd H (by simp)
                · rw [if_neg c12] at H
                  have c12b0 : decide (0 < (x0_1.length : Int)) = false := decide_eq_false c12
                  have c12b1 : decide (0 < x0_1.length) = false := decide_eq_false (by omega)
                  clear c12
                  have H' := Aside0.mk H
                  clear H
                  obtain ⟨Ao17, co17, eo17⟩ := Kd.V_slice HO_1.out
                  subst eo17
                  obtain ⟨Ao18, co18, eo18⟩ := Kd.V_slice HO_0.out
                  subst eo18
                  go_wp2
                  repeat (go_quiet (fail); try go_wp2)
                  go_meet
                  case rel => exact ⟨_, (false), (by first | rfl | (simp; done) | (simp [*]; done)), H', ⟨by have := HK1.out; have := HJ2.out; first | omega | exact Nat.le_refl _⟩, ⟨by (with_reducible repeat (first | apply Kd.V_alloc | apply Kd.V_drewN | apply Kd.V_drew)); exact HO_0.out⟩, ⟨by (with_reducible repeat (first | apply Kd.V_alloc | apply Kd.V_drewN | apply Kd.V_drew)); exact HO_1.out⟩, ⟨by (with_reducible repeat (first | apply Kd.R_alloc | apply Kd.R_drewN | apply Kd.R_drew)); exact HO_5.out⟩, ⟨by repeat (first | (with_reducible first | exact HB.out | apply below_alloc | apply pw_below_drewN | apply below_drew1) | exact HB.out)⟩⟩
            case rest =>
              clear HC9
              try clear c1
              try clear p1
              try clear q1
              try clear hx1
              try clear qi1
              try clear c2
              try clear p2
              try clear c4
              try clear c4b0
              try clear c4b1
              try clear c8
              try clear c10
              try clear c10b0
              try clear c10b1
              try clear c10b2
              try clear p11
              try clear q11
              try clear hx11
              try clear qi11
              try clear c12
              try clear c12b0
              try clear c12b1
              try clear c13
              try clear c13b0
              try clear c13b1
              try clear c14
              try clear c14b0
              try clear c14b1
              try clear hx113_0
              try clear hx114_0
              try clear p113
              try clear p114
              try clear p2
              try clear q113
              try clear q114
              obtain ⟨kq, x18_8, rfl, HA, HJ8, HO_0, HO_1, HO_5, HB⟩ := hcut
              cases kq with
              | zero => exact absurd HA.out (by simp [match_Set_Diff.j2])
              | succ kj8 =>
                have H := HA.out
                clear HA
                simp only [match_Set_Diff.j2] at H
                by_cases c19 : x18_8 = true
                · subst c19
                  have H1 : (if 0 < (x0_1.length : Int) then (if x5_1.length < 5864062014805 then (if 1 ≤ (x0_1.length : Int) then (match_Set_Diff.l0 kj8 (x0_1.drop 1) x1_1 (x5_1 ++ [(⟨rdOf ByteArray.empty x0_1 0, false⟩ : S40)])) else (none)) else (none)) else (none)) = some r := by rw [if_pos rfl] at H; exact H
                  clear H
                  have H := H1
                  clear H1
                  by_cases c20 : 0 < (x0_1.length : Int)
                  · rw [if_pos c20] at H
                    have c20b0 : decide (0 < (x0_1.length : Int)) = true := decide_eq_true c20
                    have c20b1 : decide (0 < x0_1.length) = true := decide_eq_true (by omega)
                    clear c20
                    by_cases c21 : x5_1.length < 5864062014805
                    · rw [if_pos c21] at H
                      have LMc21 := Aside0.mk c21
                      clear c21
                      obtain ⟨y116, hy116⟩ : ∃ y_ : List (S40), y_ = (x5_1 ++ [(⟨rdOf ByteArray.empty x0_1 0, false⟩ : S40)]) := ⟨_, rfl⟩
                      replace H : (if 1 ≤ (x0_1.length : Int) then (match_Set_Diff.l0 kj8 (x0_1.drop 1) x1_1 y116) else (none)) = some r := by first | (rw [hy116]; with_reducible exact H) | (have H2_ := (Option.bind_some _ _).symm.trans H; rw [hy116]; with_reducible exact H2_) | (have H2_ := (Option.bind_some _ _).symm.trans H; with_reducible exact H2_) | with_reducible exact H | (rw [hy116]; exact H) | exact H
                      have Ny116 := Aside0.mk hy116
                      clear hy116
                      by_cases c22 : 1 ≤ (x0_1.length : Int)
                      · rw [if_pos c22] at H
                        have c22b0 := eq_true c22
                        have c22b1 : decide (1 ≤ (x0_1.length : Int)) = true := decide_eq_true c22
                        clear c22
                        obtain ⟨y119, hy119⟩ : ∃ y_ : List ByteArray, y_ = (x0_1.drop 1) := ⟨_, rfl⟩
                        replace H : (match_Set_Diff.l0 kj8 y119 x1_1 y116) = some r := by first | (rw [hy119]; with_reducible exact H) | (have H2_ := (Option.bind_some _ _).symm.trans H; rw [hy119]; with_reducible exact H2_) | (have H2_ := (Option.bind_some _ _).symm.trans H; with_reducible exact H2_) | with_reducible exact H | (rw [hy119]; exact H) | exact H
                        have Ny119 := Aside0.mk hy119
                        clear hy119
                        have H' := Aside0.mk H
                        clear H
                        obtain ⟨Ao23, co23, eo23⟩ := Kd.V_slice HO_0.out
                        subst eo23
                        have p115 : 0 ≤ (0 : Int) := (by omega)
                        have q115 : 0 < (x0_1.length : Int) := of_decide_eq_true (by first | (with_reducible assumption) | assumption)
                        obtain ⟨ad115, e115, hx115_0⟩ := Kd.at_string (Kd.V_reads' HO_0.out).2.2 0 p115 q115
                        cases e115
                        have qi115 : (0 < x0_1.length) = True := eq_true (by omega)
                        (try rw [show ((0 : Int)).toNat = 0 from rfl] at hx115_0)
                        (try rw [Addr.add_zero'] at hx115_0)
                        replace p115 := eq_true p115
                        replace q115 := eq_true q115
                        go_wp2_with (first | ((with_reducible refine gate_builtin (b := .append) (xs := #[.tmp 36, .tmp 41]) rfl ?_); (try (refine gate_guard (by rfl) ?_; dsimp only)); at_builtin; refine Kd.R_append k40 (w0 := w) w.heap.size rfl (.tmp 36) (.tmp 41) 24 40 (.agg #[(.string ⟨#[]⟩), (.bool false)]) 24 rfl Try.underlying24 info40 rfl (by decide) (by omega) u5 x5_1 (⟨rdOf ByteArray.empty x0_1 0, false⟩ : S40) [.string (rdOf ByteArray.empty x0_1 0), .bool false] (fun k_ => (w.heap.size ≤ k_)) (fun _ => False) rfl rfl ?aP (fun _ hk => hk.elim) ?aF ?aO ?aB ?aS ?aL ?_; (case aP => exact k40_mkM _ _ _ (⟨rdOf ByteArray.empty x0_1 0, false⟩ : S40)); (case aB => exact (by repeat (first | (with_reducible first | exact HB.out | apply below_alloc | apply pw_below_drewN | apply below_drew1) | exact HB.out))); (case aF => exact (fun k_ hk => (Nat.le_trans (below_size (by repeat (first | (with_reducible first | exact HB.out | apply below_alloc | apply pw_below_drewN | apply below_drew1) | exact HB.out))) hk))); (case aO => exact (by (with_reducible repeat (first | apply Kd.R_alloc | apply Kd.R_drewN | apply Kd.R_drew)); exact HO_5.out)); (case aS => exact (below_size (by repeat (first | (with_reducible first | exact HB.out | apply below_alloc | apply pw_below_drewN | apply below_drew1) | exact HB.out)))); (case aL => have := LMc21.out; omega); intro v117 w24 ho hb hg hat; rw [← Ny116.out] at ho; have n0_ := Aside0.mk (Kd.V_afterv (ok := (fun k_ => ((P0_ k_ ∨ P1_ k_) ∨ w.heap.size ≤ k_))) (by (with_reducible repeat (first | apply Kd.V_alloc | apply Kd.V_drewN | apply Kd.V_drew)); exact HO_0.out) hg hat); have n1_ := Aside0.mk (Kd.V_afterv (ok := (fun k_ => ((P0_ k_ ∨ P1_ k_) ∨ w.heap.size ≤ k_))) (by (with_reducible repeat (first | apply Kd.V_alloc | apply Kd.V_drewN | apply Kd.V_drew)); exact HO_1.out) hg hat); have n2_ := Aside0.mk (hb); have n3_ := Aside0.mk (ho); clear HO_0; clear HO_1; clear HB; clear HO_5; have HO_0 := n0_; have HO_1 := n1_; have HB := n2_; have HO118 := n3_; clear n0_ n1_ n2_ n3_; clear ho hb hg hat; have q25 : (1 : Int) ≤ ((x0_1.length : Int) : Int) := of_decide_eq_true (by first | (with_reducible assumption) | assumption); obtain ⟨i025, hi025, _, hsz25, _⟩ := info_parts info9; have hroom25 : x0_1.length ≤ co23 := (Kd.V_reads' HO_0.out).2.1; have hC25 : Kd.F Kd.string _ _ (some ad115) x0_1.length x0_1 := (Kd.V_at (base := w.heap.size) HO_0.out).2.2; have hcut25 := cut_from (P := Try.prog) 26 9 .i64 Try.underlying26 hi025 1 hsz25 (some ad115) x0_1.length co23 1 (by omega) q25; have hr25 := Kd.F_cut (m := (1 : Int).toNat) (c := co23) hC25 (by omega) hroom25; obtain ⟨A25, hA25⟩ : ∃ A1, A1 = (if co23 = (1 : Int).toNat then (some ad115) else ((some ad115) : Option Addr).map (·.add ((1 : Int).toNat * 1))) := ⟨_, rfl⟩; obtain ⟨c25, hc25⟩ : ∃ c1, c1 = co23 - (1 : Int).toNat := ⟨_, rfl⟩; have hy25 : y119.length = x0_1.length - (1 : Int).toNat := (by rw [Ny119.out, List.length_drop] <;> omega); rw [show (x0_1).drop (1 : Int).toNat = y119 from Ny119.out.symm] at hr25; replace hr25 : Kd.F Kd.string _ _ A25 y119.length y119 := (by rw [hA25]; exact hr25); rw [← hy25, ← hA25, ← hc25] at hcut25; have HO123 := Aside0.mk (show Kd.V Kd.string 9 _ w.heap.size _ (.slice A25 y119.length c25) y119 from Kd.V_mk (by rw [hy25, hc25]; exact Nat.sub_le_sub_right hroom25 _) hr25); have HC123 := Aside0.mk (show y119.length ≤ c25 from by rw [hy25, hc25]; exact Nat.sub_le_sub_right hroom25 _); clear hr25 hC25 hroom25 hi025 hsz25 hc25; have KY25 := Aside0.mk hy25; have KA25 := Aside0.mk hA25; clear hy25 hA25; replace q25 := eq_true q25))
                        repeat (go_quiet (first | ((with_reducible refine gate_builtin (b := .append) (xs := #[.tmp 36, .tmp 41]) rfl ?_); (try (refine gate_guard (by rfl) ?_; dsimp only)); at_builtin; refine Kd.R_append k40 (w0 := w) w.heap.size rfl (.tmp 36) (.tmp 41) 24 40 (.agg #[(.string ⟨#[]⟩), (.bool false)]) 24 rfl Try.underlying24 info40 rfl (by decide) (by omega) u5 x5_1 (⟨rdOf ByteArray.empty x0_1 0, false⟩ : S40) [.string (rdOf ByteArray.empty x0_1 0), .bool false] (fun k_ => (w.heap.size ≤ k_)) (fun _ => False) rfl rfl ?aP (fun _ hk => hk.elim) ?aF ?aO ?aB ?aS ?aL ?_; (case aP => exact k40_mkM _ _ _ (⟨rdOf ByteArray.empty x0_1 0, false⟩ : S40)); (case aB => exact (by repeat (first | (with_reducible first | exact HB.out | apply below_alloc | apply pw_below_drewN | apply below_drew1) | exact HB.out))); (case aF => exact (fun k_ hk => (Nat.le_trans (below_size (by repeat (first | (with_reducible first | exact HB.out | apply below_alloc | apply pw_below_drewN | apply below_drew1) | exact HB.out))) hk))); (case aO => exact (by (with_reducible repeat (first | apply Kd.R_alloc | apply Kd.R_drewN | apply Kd.R_drew)); exact HO_5.out)); (case aS => exact (below_size (by repeat (first | (with_reducible first | exact HB.out | apply below_alloc | apply pw_below_drewN | apply below_drew1) | exact HB.out)))); (case aL => have := LMc21.out; omega); intro v117 w24 ho hb hg hat; rw [← Ny116.out] at ho; have n0_ := Aside0.mk (Kd.V_afterv (ok := (fun k_ => ((P0_ k_ ∨ P1_ k_) ∨ w.heap.size ≤ k_))) (by (with_reducible repeat (first | apply Kd.V_alloc | apply Kd.V_drewN | apply Kd.V_drew)); exact HO_0.out) hg hat); have n1_ := Aside0.mk (Kd.V_afterv (ok := (fun k_ => ((P0_ k_ ∨ P1_ k_) ∨ w.heap.size ≤ k_))) (by (with_reducible repeat (first | apply Kd.V_alloc | apply Kd.V_drewN | apply Kd.V_drew)); exact HO_1.out) hg hat); have n2_ := Aside0.mk (hb); have n3_ := Aside0.mk (ho); clear HO_0; clear HO_1; clear HB; clear HO_5; have HO_0 := n0_; have HO_1 := n1_; have HB := n2_; have HO118 := n3_; clear n0_ n1_ n2_ n3_; clear ho hb hg hat; have q25 : (1 : Int) ≤ ((x0_1.length : Int) : Int) := of_decide_eq_true (by first | (with_reducible assumption) | assumption); obtain ⟨i025, hi025, _, hsz25, _⟩ := info_parts info9; have hroom25 : x0_1.length ≤ co23 := (Kd.V_reads' HO_0.out).2.1; have hC25 : Kd.F Kd.string _ _ (some ad115) x0_1.length x0_1 := (Kd.V_at (base := w.heap.size) HO_0.out).2.2; have hcut25 := cut_from (P := Try.prog) 26 9 .i64 Try.underlying26 hi025 1 hsz25 (some ad115) x0_1.length co23 1 (by omega) q25; have hr25 := Kd.F_cut (m := (1 : Int).toNat) (c := co23) hC25 (by omega) hroom25; obtain ⟨A25, hA25⟩ : ∃ A1, A1 = (if co23 = (1 : Int).toNat then (some ad115) else ((some ad115) : Option Addr).map (·.add ((1 : Int).toNat * 1))) := ⟨_, rfl⟩; obtain ⟨c25, hc25⟩ : ∃ c1, c1 = co23 - (1 : Int).toNat := ⟨_, rfl⟩; have hy25 : y119.length = x0_1.length - (1 : Int).toNat := (by rw [Ny119.out, List.length_drop] <;> omega); rw [show (x0_1).drop (1 : Int).toNat = y119 from Ny119.out.symm] at hr25; replace hr25 : Kd.F Kd.string _ _ A25 y119.length y119 := (by rw [hA25]; exact hr25); rw [← hy25, ← hA25, ← hc25] at hcut25; have HO123 := Aside0.mk (show Kd.V Kd.string 9 _ w.heap.size _ (.slice A25 y119.length c25) y119 from Kd.V_mk (by rw [hy25, hc25]; exact Nat.sub_le_sub_right hroom25 _) hr25); have HC123 := Aside0.mk (show y119.length ≤ c25 from by rw [hy25, hc25]; exact Nat.sub_le_sub_right hroom25 _); clear hr25 hC25 hroom25 hi025 hsz25 hc25; have KY25 := Aside0.mk hy25; have KA25 := Aside0.mk hA25; clear hy25 hA25; replace q25 := eq_true q25)); try go_wp2_with (first | ((with_reducible refine gate_builtin (b := .append) (xs := #[.tmp 36, .tmp 41]) rfl ?_); (try (refine gate_guard (by rfl) ?_; dsimp only)); at_builtin; refine Kd.R_append k40 (w0 := w) w.heap.size rfl (.tmp 36) (.tmp 41) 24 40 (.agg #[(.string ⟨#[]⟩), (.bool false)]) 24 rfl Try.underlying24 info40 rfl (by decide) (by omega) u5 x5_1 (⟨rdOf ByteArray.empty x0_1 0, false⟩ : S40) [.string (rdOf ByteArray.empty x0_1 0), .bool false] (fun k_ => (w.heap.size ≤ k_)) (fun _ => False) rfl rfl ?aP (fun _ hk => hk.elim) ?aF ?aO ?aB ?aS ?aL ?_; (case aP => exact k40_mkM _ _ _ (⟨rdOf ByteArray.empty x0_1 0, false⟩ : S40)); (case aB => exact (by repeat (first | (with_reducible first | exact HB.out | apply below_alloc | apply pw_below_drewN | apply below_drew1) | exact HB.out))); (case aF => exact (fun k_ hk => (Nat.le_trans (below_size (by repeat (first | (with_reducible first | exact HB.out | apply below_alloc | apply pw_below_drewN | apply below_drew1) | exact HB.out))) hk))); (case aO => exact (by (with_reducible repeat (first | apply Kd.R_alloc | apply Kd.R_drewN | apply Kd.R_drew)); exact HO_5.out)); (case aS => exact (below_size (by repeat (first | (with_reducible first | exact HB.out | apply below_alloc | apply pw_below_drewN | apply below_drew1) | exact HB.out)))); (case aL => have := LMc21.out; omega); intro v117 w24 ho hb hg hat; rw [← Ny116.out] at ho; have n0_ := Aside0.mk (Kd.V_afterv (ok := (fun k_ => ((P0_ k_ ∨ P1_ k_) ∨ w.heap.size ≤ k_))) (by (with_reducible repeat (first | apply Kd.V_alloc | apply Kd.V_drewN | apply Kd.V_drew)); exact HO_0.out) hg hat); have n1_ := Aside0.mk (Kd.V_afterv (ok := (fun k_ => ((P0_ k_ ∨ P1_ k_) ∨ w.heap.size ≤ k_))) (by (with_reducible repeat (first | apply Kd.V_alloc | apply Kd.V_drewN | apply Kd.V_drew)); exact HO_1.out) hg hat); have n2_ := Aside0.mk (hb); have n3_ := Aside0.mk (ho); clear HO_0; clear HO_1; clear HB; clear HO_5; have HO_0 := n0_; have HO_1 := n1_; have HB := n2_; have HO118 := n3_; clear n0_ n1_ n2_ n3_; clear ho hb hg hat; have q25 : (1 : Int) ≤ ((x0_1.length : Int) : Int) := of_decide_eq_true (by first | (with_reducible assumption) | assumption); obtain ⟨i025, hi025, _, hsz25, _⟩ := info_parts info9; have hroom25 : x0_1.length ≤ co23 := (Kd.V_reads' HO_0.out).2.1; have hC25 : Kd.F Kd.string _ _ (some ad115) x0_1.length x0_1 := (Kd.V_at (base := w.heap.size) HO_0.out).2.2; have hcut25 := cut_from (P := Try.prog) 26 9 .i64 Try.underlying26 hi025 1 hsz25 (some ad115) x0_1.length co23 1 (by omega) q25; have hr25 := Kd.F_cut (m := (1 : Int).toNat) (c := co23) hC25 (by omega) hroom25; obtain ⟨A25, hA25⟩ : ∃ A1, A1 = (if co23 = (1 : Int).toNat then (some ad115) else ((some ad115) : Option Addr).map (·.add ((1 : Int).toNat * 1))) := ⟨_, rfl⟩; obtain ⟨c25, hc25⟩ : ∃ c1, c1 = co23 - (1 : Int).toNat := ⟨_, rfl⟩; have hy25 : y119.length = x0_1.length - (1 : Int).toNat := (by rw [Ny119.out, List.length_drop] <;> omega); rw [show (x0_1).drop (1 : Int).toNat = y119 from Ny119.out.symm] at hr25; replace hr25 : Kd.F Kd.string _ _ A25 y119.length y119 := (by rw [hA25]; exact hr25); rw [← hy25, ← hA25, ← hc25] at hcut25; have HO123 := Aside0.mk (show Kd.V Kd.string 9 _ w.heap.size _ (.slice A25 y119.length c25) y119 from Kd.V_mk (by rw [hy25, hc25]; exact Nat.sub_le_sub_right hroom25 _) hr25); have HC123 := Aside0.mk (show y119.length ≤ c25 from by rw [hy25, hc25]; exact Nat.sub_le_sub_right hroom25 _); clear hr25 hC25 hroom25 hi025 hsz25 hc25; have KY25 := Aside0.mk hy25; have KA25 := Aside0.mk hA25; clear hy25 hA25; replace q25 := eq_true q25)))
                        go_roundg kj8
                        case measure => have := HK1.out; have := HJ2.out; have := HJ8.out; omega
                        case rel => exact ⟨(y119), (x1_1), (y116), H', ⟨by have := HK1.out; have := HJ2.out; have := HJ8.out; omega⟩, ⟨by (with_reducible repeat (first | apply Kd.V_alloc | apply Kd.V_drewN | apply Kd.V_drew)); exact HO123.out⟩, ⟨by (with_reducible repeat (first | apply Kd.V_alloc | apply Kd.V_drewN | apply Kd.V_drew)); exact HO_1.out⟩, ⟨by (with_reducible repeat (first | apply Kd.R_alloc | apply Kd.R_drewN | apply Kd.R_drew)); exact HO118.out⟩, ⟨by repeat (first | (with_reducible first | exact HB.out | apply below_alloc | apply pw_below_drewN | apply below_drew1) | exact HB.out)⟩⟩
                      · rw [if_neg c22] at H
                        exact absurd H (by simp)
                    · rw [if_neg c21] at H
                      exact absurd H (by simp)
                  · rw [if_neg c20] at H
                    exact absurd H (by simp)
                · replace c19 := Bool.eq_false_iff.mpr c19
                  subst c19
                  have H1 : (if (x0_1.length : Int) = 0 then (if 0 < (x1_1.length : Int) then (if x5_1.length < 5864062014805 then (if 1 ≤ (x1_1.length : Int) then (match_Set_Diff.l0 kj8 x0_1 (x1_1.drop 1) (x5_1 ++ [(⟨rdOf ByteArray.empty x1_1 0, true⟩ : S40)])) else (none)) else (none)) else (none)) else (if 0 < (x1_1.length : Int) then (if 0 < (x0_1.length : Int) then (if (Op.bytesLess ((rdOf ByteArray.empty x1_1 0).toList) ((rdOf ByteArray.empty x0_1 0).toList)) = true then (if x5_1.length < 5864062014805 then (if 1 ≤ (x1_1.length : Int) then (match_Set_Diff.l0 kj8 x0_1 (x1_1.drop 1) (x5_1 ++ [(⟨rdOf ByteArray.empty x1_1 0, true⟩ : S40)])) else (none)) else (none)) else (if 1 ≤ (x0_1.length : Int) then (if 1 ≤ (x1_1.length : Int) then (match_Set_Diff.l0 kj8 (x0_1.drop 1) (x1_1.drop 1) x5_1) else (none)) else (none))) else (none)) else (none))) = some r := by rw [if_neg (show ¬ (false = true) by decide)] at H; exact H
                  clear H
                  have H := H1
                  clear H1
                  by_cases c26 : (x0_1.length : Int) = 0
                  · rw [if_pos c26] at H
                    have c26b0 : ((x0_1.length : Int) == 0) = true := beq_iff_eq.mpr c26
                    have c26b1 : ((x0_1.length : Int) != 0) = false := bne_eq_false_iff_eq.mpr c26
                    clear c26
                    by_cases c27 : 0 < (x1_1.length : Int)
                    · rw [if_pos c27] at H
                      have c27b0 : decide (0 < (x1_1.length : Int)) = true := decide_eq_true c27
                      have c27b1 : decide (0 < x1_1.length) = true := decide_eq_true (by omega)
                      clear c27
                      by_cases c28 : x5_1.length < 5864062014805
                      · rw [if_pos c28] at H
                        have LMc28 := Aside0.mk c28
                        clear c28
                        obtain ⟨y125, hy125⟩ : ∃ y_ : List (S40), y_ = (x5_1 ++ [(⟨rdOf ByteArray.empty x1_1 0, true⟩ : S40)]) := ⟨_, rfl⟩
                        replace H : (if 1 ≤ (x1_1.length : Int) then (match_Set_Diff.l0 kj8 x0_1 (x1_1.drop 1) y125) else (none)) = some r := by first | (rw [hy125]; with_reducible exact H) | (have H2_ := (Option.bind_some _ _).symm.trans H; rw [hy125]; with_reducible exact H2_) | (have H2_ := (Option.bind_some _ _).symm.trans H; with_reducible exact H2_) | with_reducible exact H | (rw [hy125]; exact H) | exact H
                        have Ny125 := Aside0.mk hy125
                        clear hy125
                        by_cases c29 : 1 ≤ (x1_1.length : Int)
                        · rw [if_pos c29] at H
                          have c29b0 := eq_true c29
                          have c29b1 : decide (1 ≤ (x1_1.length : Int)) = true := decide_eq_true c29
                          clear c29
                          obtain ⟨y128, hy128⟩ : ∃ y_ : List ByteArray, y_ = (x1_1.drop 1) := ⟨_, rfl⟩
                          replace H : (match_Set_Diff.l0 kj8 x0_1 y128 y125) = some r := by first | (rw [hy128]; with_reducible exact H) | (have H2_ := (Option.bind_some _ _).symm.trans H; rw [hy128]; with_reducible exact H2_) | (have H2_ := (Option.bind_some _ _).symm.trans H; with_reducible exact H2_) | with_reducible exact H | (rw [hy128]; exact H) | exact H
                          have Ny128 := Aside0.mk hy128
                          clear hy128
                          have H' := Aside0.mk H
                          clear H
                          obtain ⟨Ao30, co30, eo30⟩ := Kd.V_slice HO_0.out
                          subst eo30
                          obtain ⟨Ao31, co31, eo31⟩ := Kd.V_slice HO_1.out
                          subst eo31
                          have p124 : 0 ≤ (0 : Int) := (by omega)
                          have q124 : 0 < (x1_1.length : Int) := of_decide_eq_true (by first | (with_reducible assumption) | assumption)
                          obtain ⟨ad124, e124, hx124_0⟩ := Kd.at_string (Kd.V_reads' HO_1.out).2.2 0 p124 q124
                          cases e124
                          have qi124 : (0 < x1_1.length) = True := eq_true (by omega)
                          (try rw [show ((0 : Int)).toNat = 0 from rfl] at hx124_0)
                          (try rw [Addr.add_zero'] at hx124_0)
                          replace p124 := eq_true p124
                          replace q124 := eq_true q124
                          go_wp2_with (first | ((with_reducible refine gate_builtin (b := .append) (xs := #[.tmp 58, .tmp 63]) rfl ?_); (try (refine gate_guard (by rfl) ?_; dsimp only)); at_builtin; refine Kd.R_append k40 (w0 := w) w.heap.size rfl (.tmp 58) (.tmp 63) 24 40 (.agg #[(.string ⟨#[]⟩), (.bool false)]) 24 rfl Try.underlying24 info40 rfl (by decide) (by omega) u5 x5_1 (⟨rdOf ByteArray.empty x1_1 0, true⟩ : S40) [.string (rdOf ByteArray.empty x1_1 0), .bool true] (fun k_ => (w.heap.size ≤ k_)) (fun _ => False) rfl rfl ?aP (fun _ hk => hk.elim) ?aF ?aO ?aB ?aS ?aL ?_; (case aP => exact k40_mkM _ _ _ (⟨rdOf ByteArray.empty x1_1 0, true⟩ : S40)); (case aB => exact (by repeat (first | (with_reducible first | exact HB.out | apply below_alloc | apply pw_below_drewN | apply below_drew1) | exact HB.out))); (case aF => exact (fun k_ hk => (Nat.le_trans (below_size (by repeat (first | (with_reducible first | exact HB.out | apply below_alloc | apply pw_below_drewN | apply below_drew1) | exact HB.out))) hk))); (case aO => exact (by (with_reducible repeat (first | apply Kd.R_alloc | apply Kd.R_drewN | apply Kd.R_drew)); exact HO_5.out)); (case aS => exact (below_size (by repeat (first | (with_reducible first | exact HB.out | apply below_alloc | apply pw_below_drewN | apply below_drew1) | exact HB.out)))); (case aL => have := LMc28.out; omega); intro v126 w32 ho hb hg hat; rw [← Ny125.out] at ho; have n0_ := Aside0.mk (Kd.V_afterv (ok := (fun k_ => ((P0_ k_ ∨ P1_ k_) ∨ w.heap.size ≤ k_))) (by (with_reducible repeat (first | apply Kd.V_alloc | apply Kd.V_drewN | apply Kd.V_drew)); exact HO_0.out) hg hat); have n1_ := Aside0.mk (Kd.V_afterv (ok := (fun k_ => ((P0_ k_ ∨ P1_ k_) ∨ w.heap.size ≤ k_))) (by (with_reducible repeat (first | apply Kd.V_alloc | apply Kd.V_drewN | apply Kd.V_drew)); exact HO_1.out) hg hat); have n2_ := Aside0.mk (hb); have n3_ := Aside0.mk (ho); clear HO_0; clear HO_1; clear HB; clear HO_5; have HO_0 := n0_; have HO_1 := n1_; have HB := n2_; have HO127 := n3_; clear n0_ n1_ n2_ n3_; clear ho hb hg hat; have q33 : (1 : Int) ≤ ((x1_1.length : Int) : Int) := of_decide_eq_true (by first | (with_reducible assumption) | assumption); obtain ⟨i033, hi033, _, hsz33, _⟩ := info_parts info9; have hroom33 : x1_1.length ≤ co31 := (Kd.V_reads' HO_1.out).2.1; have hC33 : Kd.F Kd.string _ _ (some ad124) x1_1.length x1_1 := (Kd.V_at (base := w.heap.size) HO_1.out).2.2; have hcut33 := cut_from (P := Try.prog) 26 9 .i64 Try.underlying26 hi033 1 hsz33 (some ad124) x1_1.length co31 1 (by omega) q33; have hr33 := Kd.F_cut (m := (1 : Int).toNat) (c := co31) hC33 (by omega) hroom33; obtain ⟨A33, hA33⟩ : ∃ A1, A1 = (if co31 = (1 : Int).toNat then (some ad124) else ((some ad124) : Option Addr).map (·.add ((1 : Int).toNat * 1))) := ⟨_, rfl⟩; obtain ⟨c33, hc33⟩ : ∃ c1, c1 = co31 - (1 : Int).toNat := ⟨_, rfl⟩; have hy33 : y128.length = x1_1.length - (1 : Int).toNat := (by rw [Ny128.out, List.length_drop] <;> omega); rw [show (x1_1).drop (1 : Int).toNat = y128 from Ny128.out.symm] at hr33; replace hr33 : Kd.F Kd.string _ _ A33 y128.length y128 := (by rw [hA33]; exact hr33); rw [← hy33, ← hA33, ← hc33] at hcut33; have HO132 := Aside0.mk (show Kd.V Kd.string 9 _ w.heap.size _ (.slice A33 y128.length c33) y128 from Kd.V_mk (by rw [hy33, hc33]; exact Nat.sub_le_sub_right hroom33 _) hr33); have HC132 := Aside0.mk (show y128.length ≤ c33 from by rw [hy33, hc33]; exact Nat.sub_le_sub_right hroom33 _); clear hr33 hC33 hroom33 hi033 hsz33 hc33; have KY33 := Aside0.mk hy33; have KA33 := Aside0.mk hA33; clear hy33 hA33; replace q33 := eq_true q33))
                          repeat (go_quiet (first | ((with_reducible refine gate_builtin (b := .append) (xs := #[.tmp 58, .tmp 63]) rfl ?_); (try (refine gate_guard (by rfl) ?_; dsimp only)); at_builtin; refine Kd.R_append k40 (w0 := w) w.heap.size rfl (.tmp 58) (.tmp 63) 24 40 (.agg #[(.string ⟨#[]⟩), (.bool false)]) 24 rfl Try.underlying24 info40 rfl (by decide) (by omega) u5 x5_1 (⟨rdOf ByteArray.empty x1_1 0, true⟩ : S40) [.string (rdOf ByteArray.empty x1_1 0), .bool true] (fun k_ => (w.heap.size ≤ k_)) (fun _ => False) rfl rfl ?aP (fun _ hk => hk.elim) ?aF ?aO ?aB ?aS ?aL ?_; (case aP => exact k40_mkM _ _ _ (⟨rdOf ByteArray.empty x1_1 0, true⟩ : S40)); (case aB => exact (by repeat (first | (with_reducible first | exact HB.out | apply below_alloc | apply pw_below_drewN | apply below_drew1) | exact HB.out))); (case aF => exact (fun k_ hk => (Nat.le_trans (below_size (by repeat (first | (with_reducible first | exact HB.out | apply below_alloc | apply pw_below_drewN | apply below_drew1) | exact HB.out))) hk))); (case aO => exact (by (with_reducible repeat (first | apply Kd.R_alloc | apply Kd.R_drewN | apply Kd.R_drew)); exact HO_5.out)); (case aS => exact (below_size (by repeat (first | (with_reducible first | exact HB.out | apply below_alloc | apply pw_below_drewN | apply below_drew1) | exact HB.out)))); (case aL => have := LMc28.out; omega); intro v126 w32 ho hb hg hat; rw [← Ny125.out] at ho; have n0_ := Aside0.mk (Kd.V_afterv (ok := (fun k_ => ((P0_ k_ ∨ P1_ k_) ∨ w.heap.size ≤ k_))) (by (with_reducible repeat (first | apply Kd.V_alloc | apply Kd.V_drewN | apply Kd.V_drew)); exact HO_0.out) hg hat); have n1_ := Aside0.mk (Kd.V_afterv (ok := (fun k_ => ((P0_ k_ ∨ P1_ k_) ∨ w.heap.size ≤ k_))) (by (with_reducible repeat (first | apply Kd.V_alloc | apply Kd.V_drewN | apply Kd.V_drew)); exact HO_1.out) hg hat); have n2_ := Aside0.mk (hb); have n3_ := Aside0.mk (ho); clear HO_0; clear HO_1; clear HB; clear HO_5; have HO_0 := n0_; have HO_1 := n1_; have HB := n2_; have HO127 := n3_; clear n0_ n1_ n2_ n3_; clear ho hb hg hat; have q33 : (1 : Int) ≤ ((x1_1.length : Int) : Int) := of_decide_eq_true (by first | (with_reducible assumption) | assumption); obtain ⟨i033, hi033, _, hsz33, _⟩ := info_parts info9; have hroom33 : x1_1.length ≤ co31 := (Kd.V_reads' HO_1.out).2.1; have hC33 : Kd.F Kd.string _ _ (some ad124) x1_1.length x1_1 := (Kd.V_at (base := w.heap.size) HO_1.out).2.2; have hcut33 := cut_from (P := Try.prog) 26 9 .i64 Try.underlying26 hi033 1 hsz33 (some ad124) x1_1.length co31 1 (by omega) q33; have hr33 := Kd.F_cut (m := (1 : Int).toNat) (c := co31) hC33 (by omega) hroom33; obtain ⟨A33, hA33⟩ : ∃ A1, A1 = (if co31 = (1 : Int).toNat then (some ad124) else ((some ad124) : Option Addr).map (·.add ((1 : Int).toNat * 1))) := ⟨_, rfl⟩; obtain ⟨c33, hc33⟩ : ∃ c1, c1 = co31 - (1 : Int).toNat := ⟨_, rfl⟩; have hy33 : y128.length = x1_1.length - (1 : Int).toNat := (by rw [Ny128.out, List.length_drop] <;> omega); rw [show (x1_1).drop (1 : Int).toNat = y128 from Ny128.out.symm] at hr33; replace hr33 : Kd.F Kd.string _ _ A33 y128.length y128 := (by rw [hA33]; exact hr33); rw [← hy33, ← hA33, ← hc33] at hcut33; have HO132 := Aside0.mk (show Kd.V Kd.string 9 _ w.heap.size _ (.slice A33 y128.length c33) y128 from Kd.V_mk (by rw [hy33, hc33]; exact Nat.sub_le_sub_right hroom33 _) hr33); have HC132 := Aside0.mk (show y128.length ≤ c33 from by rw [hy33, hc33]; exact Nat.sub_le_sub_right hroom33 _); clear hr33 hC33 hroom33 hi033 hsz33 hc33; have KY33 := Aside0.mk hy33; have KA33 := Aside0.mk hA33; clear hy33 hA33; replace q33 := eq_true q33)); try go_wp2_with (first | ((with_reducible refine gate_builtin (b := .append) (xs := #[.tmp 58, .tmp 63]) rfl ?_); (try (refine gate_guard (by rfl) ?_; dsimp only)); at_builtin; refine Kd.R_append k40 (w0 := w) w.heap.size rfl (.tmp 58) (.tmp 63) 24 40 (.agg #[(.string ⟨#[]⟩), (.bool false)]) 24 rfl Try.underlying24 info40 rfl (by decide) (by omega) u5 x5_1 (⟨rdOf ByteArray.empty x1_1 0, true⟩ : S40) [.string (rdOf ByteArray.empty x1_1 0), .bool true] (fun k_ => (w.heap.size ≤ k_)) (fun _ => False) rfl rfl ?aP (fun _ hk => hk.elim) ?aF ?aO ?aB ?aS ?aL ?_; (case aP => exact k40_mkM _ _ _ (⟨rdOf ByteArray.empty x1_1 0, true⟩ : S40)); (case aB => exact (by repeat (first | (with_reducible first | exact HB.out | apply below_alloc | apply pw_below_drewN | apply below_drew1) | exact HB.out))); (case aF => exact (fun k_ hk => (Nat.le_trans (below_size (by repeat (first | (with_reducible first | exact HB.out | apply below_alloc | apply pw_below_drewN | apply below_drew1) | exact HB.out))) hk))); (case aO => exact (by (with_reducible repeat (first | apply Kd.R_alloc | apply Kd.R_drewN | apply Kd.R_drew)); exact HO_5.out)); (case aS => exact (below_size (by repeat (first | (with_reducible first | exact HB.out | apply below_alloc | apply pw_below_drewN | apply below_drew1) | exact HB.out)))); (case aL => have := LMc28.out; omega); intro v126 w32 ho hb hg hat; rw [← Ny125.out] at ho; have n0_ := Aside0.mk (Kd.V_afterv (ok := (fun k_ => ((P0_ k_ ∨ P1_ k_) ∨ w.heap.size ≤ k_))) (by (with_reducible repeat (first | apply Kd.V_alloc | apply Kd.V_drewN | apply Kd.V_drew)); exact HO_0.out) hg hat); have n1_ := Aside0.mk (Kd.V_afterv (ok := (fun k_ => ((P0_ k_ ∨ P1_ k_) ∨ w.heap.size ≤ k_))) (by (with_reducible repeat (first | apply Kd.V_alloc | apply Kd.V_drewN | apply Kd.V_drew)); exact HO_1.out) hg hat); have n2_ := Aside0.mk (hb); have n3_ := Aside0.mk (ho); clear HO_0; clear HO_1; clear HB; clear HO_5; have HO_0 := n0_; have HO_1 := n1_; have HB := n2_; have HO127 := n3_; clear n0_ n1_ n2_ n3_; clear ho hb hg hat; have q33 : (1 : Int) ≤ ((x1_1.length : Int) : Int) := of_decide_eq_true (by first | (with_reducible assumption) | assumption); obtain ⟨i033, hi033, _, hsz33, _⟩ := info_parts info9; have hroom33 : x1_1.length ≤ co31 := (Kd.V_reads' HO_1.out).2.1; have hC33 : Kd.F Kd.string _ _ (some ad124) x1_1.length x1_1 := (Kd.V_at (base := w.heap.size) HO_1.out).2.2; have hcut33 := cut_from (P := Try.prog) 26 9 .i64 Try.underlying26 hi033 1 hsz33 (some ad124) x1_1.length co31 1 (by omega) q33; have hr33 := Kd.F_cut (m := (1 : Int).toNat) (c := co31) hC33 (by omega) hroom33; obtain ⟨A33, hA33⟩ : ∃ A1, A1 = (if co31 = (1 : Int).toNat then (some ad124) else ((some ad124) : Option Addr).map (·.add ((1 : Int).toNat * 1))) := ⟨_, rfl⟩; obtain ⟨c33, hc33⟩ : ∃ c1, c1 = co31 - (1 : Int).toNat := ⟨_, rfl⟩; have hy33 : y128.length = x1_1.length - (1 : Int).toNat := (by rw [Ny128.out, List.length_drop] <;> omega); rw [show (x1_1).drop (1 : Int).toNat = y128 from Ny128.out.symm] at hr33; replace hr33 : Kd.F Kd.string _ _ A33 y128.length y128 := (by rw [hA33]; exact hr33); rw [← hy33, ← hA33, ← hc33] at hcut33; have HO132 := Aside0.mk (show Kd.V Kd.string 9 _ w.heap.size _ (.slice A33 y128.length c33) y128 from Kd.V_mk (by rw [hy33, hc33]; exact Nat.sub_le_sub_right hroom33 _) hr33); have HC132 := Aside0.mk (show y128.length ≤ c33 from by rw [hy33, hc33]; exact Nat.sub_le_sub_right hroom33 _); clear hr33 hC33 hroom33 hi033 hsz33 hc33; have KY33 := Aside0.mk hy33; have KA33 := Aside0.mk hA33; clear hy33 hA33; replace q33 := eq_true q33)))
                          go_roundg kj8
                          case measure => have := HK1.out; have := HJ2.out; have := HJ8.out; omega
                          case rel => exact ⟨(x0_1), (y128), (y125), H', ⟨by have := HK1.out; have := HJ2.out; have := HJ8.out; omega⟩, ⟨by (with_reducible repeat (first | apply Kd.V_alloc | apply Kd.V_drewN | apply Kd.V_drew)); exact HO_0.out⟩, ⟨by (with_reducible repeat (first | apply Kd.V_alloc | apply Kd.V_drewN | apply Kd.V_drew)); exact HO132.out⟩, ⟨by (with_reducible repeat (first | apply Kd.R_alloc | apply Kd.R_drewN | apply Kd.R_drew)); exact HO127.out⟩, ⟨by repeat (first | (with_reducible first | exact HB.out | apply below_alloc | apply pw_below_drewN | apply below_drew1) | exact HB.out)⟩⟩
                        · rw [if_neg c29] at H
                          exact absurd H (by simp)
                      · rw [if_neg c28] at H
                        exact absurd H (by simp)
                    · rw [if_neg c27] at H
                      exact absurd H (by simp)
                  · rw [if_neg c26] at H
                    have c26b0 : ((x0_1.length : Int) == 0) = false := beq_eq_false_iff_ne.mpr c26
                    have c26b1 : ((x0_1.length : Int) != 0) = true := bne_iff_ne.mpr c26
                    have c26b2 : ¬ (x0_1 = []) := fun h_ => c26 (by rw [h_]; rfl)
                    by_cases c34 : 0 < (x1_1.length : Int)
                    · rw [if_pos c34] at H
                      have c34b0 : decide (0 < (x1_1.length : Int)) = true := decide_eq_true c34
                      have c34b1 : decide (0 < x1_1.length) = true := decide_eq_true (by omega)
                      clear c34
                      by_cases c35 : 0 < (x0_1.length : Int)
                      · rw [if_pos c35] at H
                        have c35b0 : decide (0 < (x0_1.length : Int)) = true := decide_eq_true c35
                        have c35b1 : decide (0 < x0_1.length) = true := decide_eq_true (by omega)
                        clear c35
                        by_cases c36 : (Op.bytesLess ((rdOf ByteArray.empty x1_1 0).toList) ((rdOf ByteArray.empty x0_1 0).toList)) = true
                        · rw [if_pos c36] at H
                          have c36b0 : (Op.bytesLess ((rdOf ByteArray.empty x1_1 0).toList) ((rdOf ByteArray.empty x0_1 0).toList)) = true := c36
                          clear c36
                          by_cases c37 : x5_1.length < 5864062014805
                          · rw [if_pos c37] at H
                            have LMc37 := Aside0.mk c37
                            clear c37
                            obtain ⟨y136, hy136⟩ : ∃ y_ : List (S40), y_ = (x5_1 ++ [(⟨rdOf ByteArray.empty x1_1 0, true⟩ : S40)]) := ⟨_, rfl⟩
                            replace H : (if 1 ≤ (x1_1.length : Int) then (match_Set_Diff.l0 kj8 x0_1 (x1_1.drop 1) y136) else (none)) = some r := by first | (rw [hy136]; with_reducible exact H) | (have H2_ := (Option.bind_some _ _).symm.trans H; rw [hy136]; with_reducible exact H2_) | (have H2_ := (Option.bind_some _ _).symm.trans H; with_reducible exact H2_) | with_reducible exact H | (rw [hy136]; exact H) | exact H
                            have Ny136 := Aside0.mk hy136
                            clear hy136
                            by_cases c38 : 1 ≤ (x1_1.length : Int)
                            · rw [if_pos c38] at H
                              have c38b0 := eq_true c38
                              have c38b1 : decide (1 ≤ (x1_1.length : Int)) = true := decide_eq_true c38
                              clear c38
                              obtain ⟨y139, hy139⟩ : ∃ y_ : List ByteArray, y_ = (x1_1.drop 1) := ⟨_, rfl⟩
                              replace H : (match_Set_Diff.l0 kj8 x0_1 y139 y136) = some r := by first | (rw [hy139]; with_reducible exact H) | (have H2_ := (Option.bind_some _ _).symm.trans H; rw [hy139]; with_reducible exact H2_) | (have H2_ := (Option.bind_some _ _).symm.trans H; with_reducible exact H2_) | with_reducible exact H | (rw [hy139]; exact H) | exact H
                              have Ny139 := Aside0.mk hy139
                              clear hy139
                              have H' := Aside0.mk H
                              clear H
                              obtain ⟨Ao39, co39, eo39⟩ := Kd.V_slice HO_0.out
                              subst eo39
                              obtain ⟨Ao40, co40, eo40⟩ := Kd.V_slice HO_1.out
                              subst eo40
                              have p133 : 0 ≤ (0 : Int) := (by omega)
                              have q133 : 0 < (x1_1.length : Int) := of_decide_eq_true (by first | (with_reducible assumption) | assumption)
                              obtain ⟨ad133, e133, hx133_0⟩ := Kd.at_string (Kd.V_reads' HO_1.out).2.2 0 p133 q133
                              cases e133
                              have qi133 : (0 < x1_1.length) = True := eq_true (by omega)
                              (try rw [show ((0 : Int)).toNat = 0 from rfl] at hx133_0)
                              (try rw [Addr.add_zero'] at hx133_0)
                              replace p133 := eq_true p133
                              replace q133 := eq_true q133
                              have p134 : 0 ≤ (0 : Int) := (by omega)
                              have q134 : 0 < (x0_1.length : Int) := of_decide_eq_true (by first | (with_reducible assumption) | assumption)
                              obtain ⟨ad134, e134, hx134_0⟩ := Kd.at_string (Kd.V_reads' HO_0.out).2.2 0 p134 q134
                              cases e134
                              have qi134 : (0 < x0_1.length) = True := eq_true (by omega)
                              (try rw [show ((0 : Int)).toNat = 0 from rfl] at hx134_0)
                              (try rw [Addr.add_zero'] at hx134_0)
                              replace p134 := eq_true p134
                              replace q134 := eq_true q134
                              have p135 : 0 ≤ (0 : Int) := (by omega)
                              have q135 : 0 < (x1_1.length : Int) := of_decide_eq_true (by first | (with_reducible assumption) | assumption)
                              obtain ⟨ad135, e135, hx135_0⟩ := Kd.at_string (Kd.V_reads' HO_1.out).2.2 0 p135 q135
                              obtain rfl : ad133 = ad135 := (by injection e135)
                              have qi135 : (0 < x1_1.length) = True := eq_true (by omega)
                              (try rw [show ((0 : Int)).toNat = 0 from rfl] at hx135_0)
                              (try rw [Addr.add_zero'] at hx135_0)
                              replace p135 := eq_true p135
                              replace q135 := eq_true q135
                              go_wp2_with (first | ((with_reducible refine gate_builtin (b := .append) (xs := #[.tmp 58, .tmp 63]) rfl ?_); (try (refine gate_guard (by rfl) ?_; dsimp only)); at_builtin; refine Kd.R_append k40 (w0 := w) w.heap.size rfl (.tmp 58) (.tmp 63) 24 40 (.agg #[(.string ⟨#[]⟩), (.bool false)]) 24 rfl Try.underlying24 info40 rfl (by decide) (by omega) u5 x5_1 (⟨rdOf ByteArray.empty x1_1 0, true⟩ : S40) [.string (rdOf ByteArray.empty x1_1 0), .bool true] (fun k_ => (w.heap.size ≤ k_)) (fun _ => False) rfl rfl ?aP (fun _ hk => hk.elim) ?aF ?aO ?aB ?aS ?aL ?_; (case aP => exact k40_mkM _ _ _ (⟨rdOf ByteArray.empty x1_1 0, true⟩ : S40)); (case aB => exact (by repeat (first | (with_reducible first | exact HB.out | apply below_alloc | apply pw_below_drewN | apply below_drew1) | exact HB.out))); (case aF => exact (fun k_ hk => (Nat.le_trans (below_size (by repeat (first | (with_reducible first | exact HB.out | apply below_alloc | apply pw_below_drewN | apply below_drew1) | exact HB.out))) hk))); (case aO => exact (by (with_reducible repeat (first | apply Kd.R_alloc | apply Kd.R_drewN | apply Kd.R_drew)); exact HO_5.out)); (case aS => exact (below_size (by repeat (first | (with_reducible first | exact HB.out | apply below_alloc | apply pw_below_drewN | apply below_drew1) | exact HB.out)))); (case aL => have := LMc37.out; omega); intro v137 w41 ho hb hg hat; rw [← Ny136.out] at ho; have n0_ := Aside0.mk (Kd.V_afterv (ok := (fun k_ => ((P0_ k_ ∨ P1_ k_) ∨ w.heap.size ≤ k_))) (by (with_reducible repeat (first | apply Kd.V_alloc | apply Kd.V_drewN | apply Kd.V_drew)); exact HO_0.out) hg hat); have n1_ := Aside0.mk (Kd.V_afterv (ok := (fun k_ => ((P0_ k_ ∨ P1_ k_) ∨ w.heap.size ≤ k_))) (by (with_reducible repeat (first | apply Kd.V_alloc | apply Kd.V_drewN | apply Kd.V_drew)); exact HO_1.out) hg hat); have n2_ := Aside0.mk (hb); have n3_ := Aside0.mk (ho); clear HO_0; clear HO_1; clear HB; clear HO_5; have HO_0 := n0_; have HO_1 := n1_; have HB := n2_; have HO138 := n3_; clear n0_ n1_ n2_ n3_; clear ho hb hg hat; have q42 : (1 : Int) ≤ ((x1_1.length : Int) : Int) := of_decide_eq_true (by first | (with_reducible assumption) | assumption); obtain ⟨i042, hi042, _, hsz42, _⟩ := info_parts info9; have hroom42 : x1_1.length ≤ co40 := (Kd.V_reads' HO_1.out).2.1; have hC42 : Kd.F Kd.string _ _ (some ad133) x1_1.length x1_1 := (Kd.V_at (base := w.heap.size) HO_1.out).2.2; have hcut42 := cut_from (P := Try.prog) 26 9 .i64 Try.underlying26 hi042 1 hsz42 (some ad133) x1_1.length co40 1 (by omega) q42; have hr42 := Kd.F_cut (m := (1 : Int).toNat) (c := co40) hC42 (by omega) hroom42; obtain ⟨A42, hA42⟩ : ∃ A1, A1 = (if co40 = (1 : Int).toNat then (some ad133) else ((some ad133) : Option Addr).map (·.add ((1 : Int).toNat * 1))) := ⟨_, rfl⟩; obtain ⟨c42, hc42⟩ : ∃ c1, c1 = co40 - (1 : Int).toNat := ⟨_, rfl⟩; have hy42 : y139.length = x1_1.length - (1 : Int).toNat := (by rw [Ny139.out, List.length_drop] <;> omega); rw [show (x1_1).drop (1 : Int).toNat = y139 from Ny139.out.symm] at hr42; replace hr42 : Kd.F Kd.string _ _ A42 y139.length y139 := (by rw [hA42]; exact hr42); rw [← hy42, ← hA42, ← hc42] at hcut42; have HO143 := Aside0.mk (show Kd.V Kd.string 9 _ w.heap.size _ (.slice A42 y139.length c42) y139 from Kd.V_mk (by rw [hy42, hc42]; exact Nat.sub_le_sub_right hroom42 _) hr42); have HC143 := Aside0.mk (show y139.length ≤ c42 from by rw [hy42, hc42]; exact Nat.sub_le_sub_right hroom42 _); clear hr42 hC42 hroom42 hi042 hsz42 hc42; have KY42 := Aside0.mk hy42; have KA42 := Aside0.mk hA42; clear hy42 hA42; replace q42 := eq_true q42))
                              repeat (go_quiet (first | ((with_reducible refine gate_builtin (b := .append) (xs := #[.tmp 58, .tmp 63]) rfl ?_); (try (refine gate_guard (by rfl) ?_; dsimp only)); at_builtin; refine Kd.R_append k40 (w0 := w) w.heap.size rfl (.tmp 58) (.tmp 63) 24 40 (.agg #[(.string ⟨#[]⟩), (.bool false)]) 24 rfl Try.underlying24 info40 rfl (by decide) (by omega) u5 x5_1 (⟨rdOf ByteArray.empty x1_1 0, true⟩ : S40) [.string (rdOf ByteArray.empty x1_1 0), .bool true] (fun k_ => (w.heap.size ≤ k_)) (fun _ => False) rfl rfl ?aP (fun _ hk => hk.elim) ?aF ?aO ?aB ?aS ?aL ?_; (case aP => exact k40_mkM _ _ _ (⟨rdOf ByteArray.empty x1_1 0, true⟩ : S40)); (case aB => exact (by repeat (first | (with_reducible first | exact HB.out | apply below_alloc | apply pw_below_drewN | apply below_drew1) | exact HB.out))); (case aF => exact (fun k_ hk => (Nat.le_trans (below_size (by repeat (first | (with_reducible first | exact HB.out | apply below_alloc | apply pw_below_drewN | apply below_drew1) | exact HB.out))) hk))); (case aO => exact (by (with_reducible repeat (first | apply Kd.R_alloc | apply Kd.R_drewN | apply Kd.R_drew)); exact HO_5.out)); (case aS => exact (below_size (by repeat (first | (with_reducible first | exact HB.out | apply below_alloc | apply pw_below_drewN | apply below_drew1) | exact HB.out)))); (case aL => have := LMc37.out; omega); intro v137 w41 ho hb hg hat; rw [← Ny136.out] at ho; have n0_ := Aside0.mk (Kd.V_afterv (ok := (fun k_ => ((P0_ k_ ∨ P1_ k_) ∨ w.heap.size ≤ k_))) (by (with_reducible repeat (first | apply Kd.V_alloc | apply Kd.V_drewN | apply Kd.V_drew)); exact HO_0.out) hg hat); have n1_ := Aside0.mk (Kd.V_afterv (ok := (fun k_ => ((P0_ k_ ∨ P1_ k_) ∨ w.heap.size ≤ k_))) (by (with_reducible repeat (first | apply Kd.V_alloc | apply Kd.V_drewN | apply Kd.V_drew)); exact HO_1.out) hg hat); have n2_ := Aside0.mk (hb); have n3_ := Aside0.mk (ho); clear HO_0; clear HO_1; clear HB; clear HO_5; have HO_0 := n0_; have HO_1 := n1_; have HB := n2_; have HO138 := n3_; clear n0_ n1_ n2_ n3_; clear ho hb hg hat; have q42 : (1 : Int) ≤ ((x1_1.length : Int) : Int) := of_decide_eq_true (by first | (with_reducible assumption) | assumption); obtain ⟨i042, hi042, _, hsz42, _⟩ := info_parts info9; have hroom42 : x1_1.length ≤ co40 := (Kd.V_reads' HO_1.out).2.1; have hC42 : Kd.F Kd.string _ _ (some ad133) x1_1.length x1_1 := (Kd.V_at (base := w.heap.size) HO_1.out).2.2; have hcut42 := cut_from (P := Try.prog) 26 9 .i64 Try.underlying26 hi042 1 hsz42 (some ad133) x1_1.length co40 1 (by omega) q42; have hr42 := Kd.F_cut (m := (1 : Int).toNat) (c := co40) hC42 (by omega) hroom42; obtain ⟨A42, hA42⟩ : ∃ A1, A1 = (if co40 = (1 : Int).toNat then (some ad133) else ((some ad133) : Option Addr).map (·.add ((1 : Int).toNat * 1))) := ⟨_, rfl⟩; obtain ⟨c42, hc42⟩ : ∃ c1, c1 = co40 - (1 : Int).toNat := ⟨_, rfl⟩; have hy42 : y139.length = x1_1.length - (1 : Int).toNat := (by rw [Ny139.out, List.length_drop] <;> omega); rw [show (x1_1).drop (1 : Int).toNat = y139 from Ny139.out.symm] at hr42; replace hr42 : Kd.F Kd.string _ _ A42 y139.length y139 := (by rw [hA42]; exact hr42); rw [← hy42, ← hA42, ← hc42] at hcut42; have HO143 := Aside0.mk (show Kd.V Kd.string 9 _ w.heap.size _ (.slice A42 y139.length c42) y139 from Kd.V_mk (by rw [hy42, hc42]; exact Nat.sub_le_sub_right hroom42 _) hr42); have HC143 := Aside0.mk (show y139.length ≤ c42 from by rw [hy42, hc42]; exact Nat.sub_le_sub_right hroom42 _); clear hr42 hC42 hroom42 hi042 hsz42 hc42; have KY42 := Aside0.mk hy42; have KA42 := Aside0.mk hA42; clear hy42 hA42; replace q42 := eq_true q42)); try go_wp2_with (first | ((with_reducible refine gate_builtin (b := .append) (xs := #[.tmp 58, .tmp 63]) rfl ?_); (try (refine gate_guard (by rfl) ?_; dsimp only)); at_builtin; refine Kd.R_append k40 (w0 := w) w.heap.size rfl (.tmp 58) (.tmp 63) 24 40 (.agg #[(.string ⟨#[]⟩), (.bool false)]) 24 rfl Try.underlying24 info40 rfl (by decide) (by omega) u5 x5_1 (⟨rdOf ByteArray.empty x1_1 0, true⟩ : S40) [.string (rdOf ByteArray.empty x1_1 0), .bool true] (fun k_ => (w.heap.size ≤ k_)) (fun _ => False) rfl rfl ?aP (fun _ hk => hk.elim) ?aF ?aO ?aB ?aS ?aL ?_; (case aP => exact k40_mkM _ _ _ (⟨rdOf ByteArray.empty x1_1 0, true⟩ : S40)); (case aB => exact (by repeat (first | (with_reducible first | exact HB.out | apply below_alloc | apply pw_below_drewN | apply below_drew1) | exact HB.out))); (case aF => exact (fun k_ hk => (Nat.le_trans (below_size (by repeat (first | (with_reducible first | exact HB.out | apply below_alloc | apply pw_below_drewN | apply below_drew1) | exact HB.out))) hk))); (case aO => exact (by (with_reducible repeat (first | apply Kd.R_alloc | apply Kd.R_drewN | apply Kd.R_drew)); exact HO_5.out)); (case aS => exact (below_size (by repeat (first | (with_reducible first | exact HB.out | apply below_alloc | apply pw_below_drewN | apply below_drew1) | exact HB.out)))); (case aL => have := LMc37.out; omega); intro v137 w41 ho hb hg hat; rw [← Ny136.out] at ho; have n0_ := Aside0.mk (Kd.V_afterv (ok := (fun k_ => ((P0_ k_ ∨ P1_ k_) ∨ w.heap.size ≤ k_))) (by (with_reducible repeat (first | apply Kd.V_alloc | apply Kd.V_drewN | apply Kd.V_drew)); exact HO_0.out) hg hat); have n1_ := Aside0.mk (Kd.V_afterv (ok := (fun k_ => ((P0_ k_ ∨ P1_ k_) ∨ w.heap.size ≤ k_))) (by (with_reducible repeat (first | apply Kd.V_alloc | apply Kd.V_drewN | apply Kd.V_drew)); exact HO_1.out) hg hat); have n2_ := Aside0.mk (hb); have n3_ := Aside0.mk (ho); clear HO_0; clear HO_1; clear HB; clear HO_5; have HO_0 := n0_; have HO_1 := n1_; have HB := n2_; have HO138 := n3_; clear n0_ n1_ n2_ n3_; clear ho hb hg hat; have q42 : (1 : Int) ≤ ((x1_1.length : Int) : Int) := of_decide_eq_true (by first | (with_reducible assumption) | assumption); obtain ⟨i042, hi042, _, hsz42, _⟩ := info_parts info9; have hroom42 : x1_1.length ≤ co40 := (Kd.V_reads' HO_1.out).2.1; have hC42 : Kd.F Kd.string _ _ (some ad133) x1_1.length x1_1 := (Kd.V_at (base := w.heap.size) HO_1.out).2.2; have hcut42 := cut_from (P := Try.prog) 26 9 .i64 Try.underlying26 hi042 1 hsz42 (some ad133) x1_1.length co40 1 (by omega) q42; have hr42 := Kd.F_cut (m := (1 : Int).toNat) (c := co40) hC42 (by omega) hroom42; obtain ⟨A42, hA42⟩ : ∃ A1, A1 = (if co40 = (1 : Int).toNat then (some ad133) else ((some ad133) : Option Addr).map (·.add ((1 : Int).toNat * 1))) := ⟨_, rfl⟩; obtain ⟨c42, hc42⟩ : ∃ c1, c1 = co40 - (1 : Int).toNat := ⟨_, rfl⟩; have hy42 : y139.length = x1_1.length - (1 : Int).toNat := (by rw [Ny139.out, List.length_drop] <;> omega); rw [show (x1_1).drop (1 : Int).toNat = y139 from Ny139.out.symm] at hr42; replace hr42 : Kd.F Kd.string _ _ A42 y139.length y139 := (by rw [hA42]; exact hr42); rw [← hy42, ← hA42, ← hc42] at hcut42; have HO143 := Aside0.mk (show Kd.V Kd.string 9 _ w.heap.size _ (.slice A42 y139.length c42) y139 from Kd.V_mk (by rw [hy42, hc42]; exact Nat.sub_le_sub_right hroom42 _) hr42); have HC143 := Aside0.mk (show y139.length ≤ c42 from by rw [hy42, hc42]; exact Nat.sub_le_sub_right hroom42 _); clear hr42 hC42 hroom42 hi042 hsz42 hc42; have KY42 := Aside0.mk hy42; have KA42 := Aside0.mk hA42; clear hy42 hA42; replace q42 := eq_true q42)))
                              go_roundg kj8
                              case measure => have := HK1.out; have := HJ2.out; have := HJ8.out; omega
                              case rel => exact ⟨(x0_1), (y139), (y136), H', ⟨by have := HK1.out; have := HJ2.out; have := HJ8.out; omega⟩, ⟨by (with_reducible repeat (first | apply Kd.V_alloc | apply Kd.V_drewN | apply Kd.V_drew)); exact HO_0.out⟩, ⟨by (with_reducible repeat (first | apply Kd.V_alloc | apply Kd.V_drewN | apply Kd.V_drew)); exact HO143.out⟩, ⟨by (with_reducible repeat (first | apply Kd.R_alloc | apply Kd.R_drewN | apply Kd.R_drew)); exact HO138.out⟩, ⟨by repeat (first | (with_reducible first | exact HB.out | apply below_alloc | apply pw_below_drewN | apply below_drew1) | exact HB.out)⟩⟩
                            · rw [if_neg c38] at H
                              exact absurd H (by simp)
                          · rw [if_neg c37] at H
                            exact absurd H (by simp)
                        · rw [if_neg c36] at H
                          have c36b0 : (Op.bytesLess ((rdOf ByteArray.empty x1_1 0).toList) ((rdOf ByteArray.empty x0_1 0).toList)) = false := by simpa using c36
                          clear c36
                          by_cases c43 : 1 ≤ (x0_1.length : Int)
                          · rw [if_pos c43] at H
                            have c43b0 := eq_true c43
                            have c43b1 : decide (1 ≤ (x0_1.length : Int)) = true := decide_eq_true c43
                            clear c43
                            obtain ⟨y144, hy144⟩ : ∃ y_ : List ByteArray, y_ = (x0_1.drop 1) := ⟨_, rfl⟩
                            replace H : (if 1 ≤ (x1_1.length : Int) then (match_Set_Diff.l0 kj8 y144 (x1_1.drop 1) x5_1) else (none)) = some r := by first | (rw [hy144]; with_reducible exact H) | (have H2_ := (Option.bind_some _ _).symm.trans H; rw [hy144]; with_reducible exact H2_) | (have H2_ := (Option.bind_some _ _).symm.trans H; with_reducible exact H2_) | with_reducible exact H | (rw [hy144]; exact H) | exact H
                            have Ny144 := Aside0.mk hy144
                            clear hy144
                            by_cases c44 : 1 ≤ (x1_1.length : Int)
                            · rw [if_pos c44] at H
                              have c44b0 := eq_true c44
                              have c44b1 : decide (1 ≤ (x1_1.length : Int)) = true := decide_eq_true c44
                              clear c44
                              obtain ⟨y149, hy149⟩ : ∃ y_ : List ByteArray, y_ = (x1_1.drop 1) := ⟨_, rfl⟩
                              replace H : (match_Set_Diff.l0 kj8 y144 y149 x5_1) = some r := by first | (rw [hy149]; with_reducible exact H) | (have H2_ := (Option.bind_some _ _).symm.trans H; rw [hy149]; with_reducible exact H2_) | (have H2_ := (Option.bind_some _ _).symm.trans H; with_reducible exact H2_) | with_reducible exact H | (rw [hy149]; exact H) | exact H
                              have Ny149 := Aside0.mk hy149
                              clear hy149
                              have H' := Aside0.mk H
                              clear H
                              obtain ⟨Ao45, co45, eo45⟩ := Kd.V_slice HO_0.out
                              subst eo45
                              obtain ⟨Ao46, co46, eo46⟩ := Kd.V_slice HO_1.out
                              subst eo46
                              have p133 : 0 ≤ (0 : Int) := (by omega)
                              have q133 : 0 < (x1_1.length : Int) := of_decide_eq_true (by first | (with_reducible assumption) | assumption)
                              obtain ⟨ad133, e133, hx133_0⟩ := Kd.at_string (Kd.V_reads' HO_1.out).2.2 0 p133 q133
                              cases e133
                              have qi133 : (0 < x1_1.length) = True := eq_true (by omega)
                              (try rw [show ((0 : Int)).toNat = 0 from rfl] at hx133_0)
                              (try rw [Addr.add_zero'] at hx133_0)
                              replace p133 := eq_true p133
                              replace q133 := eq_true q133
                              have p134 : 0 ≤ (0 : Int) := (by omega)
                              have q134 : 0 < (x0_1.length : Int) := of_decide_eq_true (by first | (with_reducible assumption) | assumption)
                              obtain ⟨ad134, e134, hx134_0⟩ := Kd.at_string (Kd.V_reads' HO_0.out).2.2 0 p134 q134
                              cases e134
                              have qi134 : (0 < x0_1.length) = True := eq_true (by omega)
                              (try rw [show ((0 : Int)).toNat = 0 from rfl] at hx134_0)
                              (try rw [Addr.add_zero'] at hx134_0)
                              replace p134 := eq_true p134
                              replace q134 := eq_true q134
                              have q47 : (1 : Int) ≤ ((x0_1.length : Int) : Int) := of_decide_eq_true (by first | (with_reducible assumption) | assumption)
                              obtain ⟨i047, hi047, _, hsz47, _⟩ := info_parts info9
                              have hroom47 : x0_1.length ≤ co45 := (Kd.V_reads' HO_0.out).2.1
                              have hC47 : Kd.F Kd.string _ _ (some ad134) x0_1.length x0_1 := (Kd.V_at (base := w.heap.size) HO_0.out).2.2
                              have hcut47 := cut_from (P := Try.prog) 26 9 .i64 Try.underlying26 hi047 1 hsz47 (some ad134) x0_1.length co45 1 (by omega) q47
                              have hr47 := Kd.F_cut (m := (1 : Int).toNat) (c := co45) hC47 (by omega) hroom47
                              obtain ⟨A47, hA47⟩ : ∃ A1, A1 = (if co45 = (1 : Int).toNat then (some ad134) else ((some ad134) : Option Addr).map (·.add ((1 : Int).toNat * 1))) := ⟨_, rfl⟩
                              obtain ⟨c47, hc47⟩ : ∃ c1, c1 = co45 - (1 : Int).toNat := ⟨_, rfl⟩
                              have hy47 : y144.length = x0_1.length - (1 : Int).toNat := (by rw [Ny144.out, List.length_drop] <;> omega)
                              rw [show (x0_1).drop (1 : Int).toNat = y144 from Ny144.out.symm] at hr47
                              replace hr47 : Kd.F Kd.string _ _ A47 y144.length y144 := (by rw [hA47]; exact hr47)
                              rw [← hy47, ← hA47, ← hc47] at hcut47
                              have HO148 := Aside0.mk (show Kd.V Kd.string 9 _ w.heap.size _ (.slice A47 y144.length c47) y144 from Kd.V_mk (by rw [hy47, hc47]; exact Nat.sub_le_sub_right hroom47 _) hr47)
                              have HC148 := Aside0.mk (show y144.length ≤ c47 from by rw [hy47, hc47]; exact Nat.sub_le_sub_right hroom47 _)
                              clear hr47 hC47 hroom47 hi047 hsz47 hc47
                              have KY47 := Aside0.mk hy47
                              have KA47 := Aside0.mk hA47
                              clear hy47 hA47
                              replace q47 := eq_true q47
                              have q48 : (1 : Int) ≤ ((x1_1.length : Int) : Int) := of_decide_eq_true (by first | (with_reducible assumption) | assumption)
                              obtain ⟨i048, hi048, _, hsz48, _⟩ := info_parts info9
                              have hroom48 : x1_1.length ≤ co46 := (Kd.V_reads' HO_1.out).2.1
                              have hC48 : Kd.F Kd.string _ _ (some ad133) x1_1.length x1_1 := (Kd.V_at (base := w.heap.size) HO_1.out).2.2
                              have hcut48 := cut_from (P := Try.prog) 26 9 .i64 Try.underlying26 hi048 1 hsz48 (some ad133) x1_1.length co46 1 (by omega) q48
                              have hr48 := Kd.F_cut (m := (1 : Int).toNat) (c := co46) hC48 (by omega) hroom48
                              obtain ⟨A48, hA48⟩ : ∃ A1, A1 = (if co46 = (1 : Int).toNat then (some ad133) else ((some ad133) : Option Addr).map (·.add ((1 : Int).toNat * 1))) := ⟨_, rfl⟩
                              obtain ⟨c48, hc48⟩ : ∃ c1, c1 = co46 - (1 : Int).toNat := ⟨_, rfl⟩
                              have hy48 : y149.length = x1_1.length - (1 : Int).toNat := (by rw [Ny149.out, List.length_drop] <;> omega)
                              rw [show (x1_1).drop (1 : Int).toNat = y149 from Ny149.out.symm] at hr48
                              replace hr48 : Kd.F Kd.string _ _ A48 y149.length y149 := (by rw [hA48]; exact hr48)
                              rw [← hy48, ← hA48, ← hc48] at hcut48
                              have HO153 := Aside0.mk (show Kd.V Kd.string 9 _ w.heap.size _ (.slice A48 y149.length c48) y149 from Kd.V_mk (by rw [hy48, hc48]; exact Nat.sub_le_sub_right hroom48 _) hr48)
                              have HC153 := Aside0.mk (show y149.length ≤ c48 from by rw [hy48, hc48]; exact Nat.sub_le_sub_right hroom48 _)
                              clear hr48 hC48 hroom48 hi048 hsz48 hc48
                              have KY48 := Aside0.mk hy48
                              have KA48 := Aside0.mk hA48
                              clear hy48 hA48
                              replace q48 := eq_true q48
                              go_wp2
                              repeat (go_quiet (fail); try go_wp2)
                              go_roundg kj8
                              case measure => have := HK1.out; have := HJ2.out; have := HJ8.out; omega
                              case rel => exact ⟨(y144), (y149), (x5_1), H', ⟨by have := HK1.out; have := HJ2.out; have := HJ8.out; omega⟩, ⟨by (with_reducible repeat (first | apply Kd.V_alloc | apply Kd.V_drewN | apply Kd.V_drew)); exact HO148.out⟩, ⟨by (with_reducible repeat (first | apply Kd.V_alloc | apply Kd.V_drewN | apply Kd.V_drew)); exact HO153.out⟩, ⟨by (with_reducible repeat (first | apply Kd.R_alloc | apply Kd.R_drewN | apply Kd.R_drew)); exact HO_5.out⟩, ⟨by repeat (first | (with_reducible first | exact HB.out | apply below_alloc | apply pw_below_drewN | apply below_drew1) | exact HB.out)⟩⟩
                            · rw [if_neg c44] at H
                              exact absurd H (by simp)
                          · rw [if_neg c43] at H
                            exact absurd H (by simp)
                      · rw [if_neg c35] at H
                        exact absurd H (by simp)
                    · rw [if_neg c34] at H
                      exact absurd H (by simp)
          · replace c8 := Bool.eq_false_iff.mpr c8
            subst c8
            have H1 : (some x5_1) = some r := by rw [if_neg (show ¬ (false = true) by decide)] at H; exact H
            clear H
            have H := H1
            clear H1
            obtain rfl := Option.some.inj H
            go_wp2
            repeat (go_quiet (fail); try go_wp2)
            go_ret
            exact ⟨_, by first | rfl | (simp [errW_none, errW_some] <;> rfl) | (simp [*, errW_none, errW_some] <;> rfl), by (with_reducible repeat (first | apply Kd.R_alloc | apply Kd.R_drewN | apply Kd.R_drew)); exact HO_5.out, by repeat (first | (with_reducible first | exact HB.out | apply below_alloc | apply pw_below_drewN | apply below_drew1) | exact HB.out)⟩

end Go.Proofs.Ythpcplpannbipaa.Y
