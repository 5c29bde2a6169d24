-- Written by a program of this session (wip/tools/drive.py) for this seat, partly by the kit's print.py; some functions by hand.
import Derived.Test.YtkgnhghaiopgcaaDoorX0
import Derived.Test.YtkgnhghaiopgcaaDoorX5
import Derived.Test.YtkgnhghaiopgcaaDoorX6
import Derived.Test.YtkgnhghaiopgcaaDoorX9
namespace Go.Proofs.YtkgnhghaiopgcaaDoor.X
open Go.RowKit Go.Proofs.YtkgnhghaiopgcaaDoorW.PrintWords Go.Proofs.YtkgnhghaiopgcaaDoorW.PrintLast Go.Proofs.YtkgnhghaiopgcaaDoorW.PrintMore
attribute [local go_sem] max2_int min2_int max_two min_two max_three min_three max_four min_four   -- for this text's walks alone
set_option linter.unusedVariables false
set_option linter.unusedSimpArgs false

/-! ### doormanref06_Key: function 28 -/
def doormanref06_Key.f (a0 : ByteArray) : Option (Bool) := if a0.toList = ([116, 121, 112, 101] : List UInt8) then (some true) else (if a0.toList = ([114, 101, 108] : List UInt8) then (some true) else (if a0.toList = ([105, 115] : List UInt8) then (some true) else (some (a0.toList == ([116, 104, 105, 115] : List UInt8)))))
set_option maxHeartbeats 8000000 in
set_option maxRecDepth 100000 in
theorem doormanref06_Key.calls (a0 : ByteArray) (r : Bool) (w : World) (h : doormanref06_Key.f a0 = some r) :
    Calls Tryd.prog 28 #[.string a0] w fun e w' => e = .returned (.bool r) ∧ Drawn0 w w' := by
  have H : (if a0.toList = ([116, 121, 112, 101] : List UInt8) then (some true) else (if a0.toList = ([114, 101, 108] : List UInt8) then (some true) else (if a0.toList = ([105, 115] : List UInt8) then (some true) else (some (a0.toList == ([116, 104, 105, 115] : List UInt8)))))) = some r := h
  clear h
  by_cases c2 : a0.toList = ([116, 121, 112, 101] : List UInt8)
  · rw [if_pos c2] at H
    have c2b0 : (a0.toList == ([116, 121, 112, 101] : List UInt8)) = true := beq_iff_eq.mpr c2
    have c2b1 : (a0.toList != ([116, 121, 112, 101] : List UInt8)) = false := bne_eq_false_iff_eq.mpr c2
    clear c2
    obtain rfl := Option.some.inj H
    go_enter Tryd.func28, Tryd.ntmps28
    go_wp2
    go_ret
    exact ⟨by first | rfl | (simp; done) | (simp [*]; done), by repeat (first | exact Drawn0.refl _ | apply Drawn0.step)⟩
  · rw [if_neg c2] at H
    have c2b0 : (a0.toList == ([116, 121, 112, 101] : List UInt8)) = false := beq_eq_false_iff_ne.mpr c2
    have c2b1 : (a0.toList != ([116, 121, 112, 101] : List UInt8)) = true := bne_iff_ne.mpr c2
    by_cases c3 : a0.toList = ([114, 101, 108] : List UInt8)
    · rw [if_pos c3] at H
      have c3b0 : (a0.toList == ([114, 101, 108] : List UInt8)) = true := beq_iff_eq.mpr c3
      have c3b1 : (a0.toList != ([114, 101, 108] : List UInt8)) = false := bne_eq_false_iff_eq.mpr c3
      clear c3
      obtain rfl := Option.some.inj H
      go_enter Tryd.func28, Tryd.ntmps28
      go_wp2
      go_ret
      exact ⟨by first | rfl | (simp; done) | (simp [*]; done), by repeat (first | exact Drawn0.refl _ | apply Drawn0.step)⟩
    · rw [if_neg c3] at H
      have c3b0 : (a0.toList == ([114, 101, 108] : List UInt8)) = false := beq_eq_false_iff_ne.mpr c3
      have c3b1 : (a0.toList != ([114, 101, 108] : List UInt8)) = true := bne_iff_ne.mpr c3
      by_cases c4 : a0.toList = ([105, 115] : List UInt8)
      · rw [if_pos c4] at H
        have c4b0 : (a0.toList == ([105, 115] : List UInt8)) = true := beq_iff_eq.mpr c4
        have c4b1 : (a0.toList != ([105, 115] : List UInt8)) = false := bne_eq_false_iff_eq.mpr c4
        clear c4
        obtain rfl := Option.some.inj H
        go_enter Tryd.func28, Tryd.ntmps28
        go_wp2
        go_ret
        exact ⟨by first | rfl | (simp; done) | (simp [*]; done), by repeat (first | exact Drawn0.refl _ | apply Drawn0.step)⟩
      · rw [if_neg c4] at H
        have c4b0 : (a0.toList == ([105, 115] : List UInt8)) = false := beq_eq_false_iff_ne.mpr c4
        have c4b1 : (a0.toList != ([105, 115] : List UInt8)) = true := bne_iff_ne.mpr c4
        obtain rfl := Option.some.inj H
        go_enter Tryd.func28, Tryd.ntmps28
        go_wp2
        go_ret
        exact ⟨by first | rfl | (simp; done) | (simp [*]; done), by repeat (first | exact Drawn0.refl _ | apply Drawn0.step)⟩

/-! ### doormanlaw06_TokenTells: function 3 -/
mutual
def doormanlaw06_TokenTells.j0 : Nat → List (S32) → List (S33) → Bool → Option (Bool)
  | 0, _, _, _ => none
  | k + 1, x4, x7, x50 => if x50 = true then (some false) else (doormanlaw06_TokenTells.l0 k x4 x7 0)
def doormanlaw06_TokenTells.l0 : Nat → List (S32) → List (S33) → Int → Option (Bool)
  | 0, _, _, _ => none
  | k + 1, x4, x7, x10 => if x10 < (x4.length : Int) then (if 0 ≤ x10 then (if x10 < (x7.length : Int) then (if ((rd_T32 x4 x10).f0) = ((rd_T33 x7 x10).f0) then (if ((rd_T32 x4 x10).f1).toList = ((rd_T33 x7 x10).f1).toList then (if ((rd_T32 x4 x10).f2) = ((rd_T33 x7 x10).f2) then (doormanlaw06_TokenTells.l0 k x4 x7 (wrap64 (x10 + 1))) else (some false)) else (some false)) else (some false)) else (none)) else (none)) else (some true)
end
def doormanlaw06_TokenTells.f (k : Nat) (a0 : ByteArray) : Option (Bool) := (doormanlaw06_awake.f).bind fun t147 => (if t147 = true then (if (a0.size : Int) > 2100 then (some true) else ((token_All.f a0).bind fun bt148 => ((doormanref06_All.f k a0).bind fun bt153 => (if bt148.2.1 = bt153.2.1 then (if bt148.2.2 = bt153.2.2 then (if (bt148.1.length : Int) = (bt153.1.length : Int) then ((token_Key.f a0).bind fun t158 => ((doormanref06_Key.f a0).bind fun t159 => (doormanlaw06_TokenTells.j0 k bt148.1 bt153.1 (t158 != t159)))) else (doormanlaw06_TokenTells.j0 k bt148.1 bt153.1 true)) else (doormanlaw06_TokenTells.j0 k bt148.1 bt153.1 true)) else (doormanlaw06_TokenTells.j0 k bt148.1 bt153.1 true))))) else (some false))
theorem doormanlaw06_TokenTells.mono_l : ∀ k, (∀ y0 y1 y2, LeO (doormanlaw06_TokenTells.j0 k y0 y1 y2) (doormanlaw06_TokenTells.j0 (k + 1) y0 y1 y2)) ∧ (∀ y0 y1 y2, LeO (doormanlaw06_TokenTells.l0 k y0 y1 y2) (doormanlaw06_TokenTells.l0 (k + 1) y0 y1 y2))
  | 0 => ⟨fun _ _ _ r h => by simp [doormanlaw06_TokenTells.j0] at h, fun _ _ _ r h => by simp [doormanlaw06_TokenTells.l0] at h⟩
  | k + 1 => by
    obtain ⟨ih0, ih1⟩ := doormanlaw06_TokenTells.mono_l k
    refine ⟨?_, ?_⟩
    · intro y0 y1 y2
      unfold doormanlaw06_TokenTells.j0
      repeat' first
      | (with_reducible exact ih0 _ _ _)
      | (with_reducible exact ih1 _ _ _)
      | (with_reducible exact doormanref06_All.mono _ _)
      | (with_reducible exact LeO.refl _)
      | (with_reducible exact LeO.none _)
      | (with_reducible refine LeO.ite ?_ ?_)
      | (with_reducible refine LeO.bind ?_ (fun _ => ?_))
      | exact ih0 _ _ _
      | exact ih1 _ _ _
      | exact doormanref06_All.mono _ _
      | exact LeO.none _
      | refine LeO.ite ?_ ?_
      | refine LeO.bind ?_ (fun _ => ?_)
    · intro y0 y1 y2
      unfold doormanlaw06_TokenTells.l0
      repeat' first
      | (with_reducible exact ih0 _ _ _)
      | (with_reducible exact ih1 _ _ _)
      | (with_reducible exact doormanref06_All.mono _ _)
      | (with_reducible exact LeO.refl _)
      | (with_reducible exact LeO.none _)
      | (with_reducible refine LeO.ite ?_ ?_)
      | (with_reducible refine LeO.bind ?_ (fun _ => ?_))
      | exact ih0 _ _ _
      | exact ih1 _ _ _
      | exact doormanref06_All.mono _ _
      | exact LeO.none _
      | refine LeO.ite ?_ ?_
      | refine LeO.bind ?_ (fun _ => ?_)
theorem doormanlaw06_TokenTells.mono : ∀ a0 k, LeO (doormanlaw06_TokenTells.f k a0) (doormanlaw06_TokenTells.f (k + 1) a0) := by
  intro a0 k
  obtain ⟨ih0, ih1⟩ := doormanlaw06_TokenTells.mono_l k
  unfold doormanlaw06_TokenTells.f
  repeat' first
      | (with_reducible exact ih0 _ _ _)
      | (with_reducible exact ih1 _ _ _)
      | (with_reducible exact doormanref06_All.mono _ _)
      | (with_reducible exact LeO.refl _)
      | (with_reducible exact LeO.none _)
      | (with_reducible refine LeO.ite ?_ ?_)
      | (with_reducible refine LeO.bind ?_ (fun _ => ?_))
      | exact ih0 _ _ _
      | exact ih1 _ _ _
      | exact doormanref06_All.mono _ _
      | exact LeO.none _
      | refine LeO.ite ?_ ?_
      | refine LeO.bind ?_ (fun _ => ?_)
set_option maxHeartbeats 8000000 in
set_option maxRecDepth 100000 in
theorem doormanlaw06_TokenTells.calls (k : Nat) (a0 : ByteArray) (r : Bool) (w : World) (hK : Aside0 (Go.Proofs.YtkgnhghaiopgcaaDoor.Aid.KeysIn w)) (h : doormanlaw06_TokenTells.f k a0 = some r) :
    Calls Tryd.prog 3 #[.string a0] w fun e w' => e = .returned (.bool r) ∧ Below w.heap.size w w' := by
  have HB := Aside0.mk (Below.refl w.heap.size w)
  have H : ((doormanlaw06_awake.f).bind fun t147 => (if t147 = true then (if (a0.size : Int) > 2100 then (some true) else ((token_All.f a0).bind fun bt148 => ((doormanref06_All.f k a0).bind fun bt153 => (if bt148.2.1 = bt153.2.1 then (if bt148.2.2 = bt153.2.2 then (if (bt148.1.length : Int) = (bt153.1.length : Int) then ((token_Key.f a0).bind fun t158 => ((doormanref06_Key.f a0).bind fun t159 => (doormanlaw06_TokenTells.j0 k bt148.1 bt153.1 (t158 != t159)))) else (doormanlaw06_TokenTells.j0 k bt148.1 bt153.1 true)) else (doormanlaw06_TokenTells.j0 k bt148.1 bt153.1 true)) else (doormanlaw06_TokenTells.j0 k bt148.1 bt153.1 true))))) else (some false))) = some r := h
  clear h
  replace H := Option.bind_eq_some_iff.mp H
  obtain ⟨t147, A20, H⟩ := H
  replace H : (if t147 = true then (if (a0.size : Int) > 2100 then (some true) else ((token_All.f a0).bind fun bt148 => ((doormanref06_All.f k a0).bind fun bt153 => (if bt148.2.1 = bt153.2.1 then (if bt148.2.2 = bt153.2.2 then (if (bt148.1.length : Int) = (bt153.1.length : Int) then ((token_Key.f a0).bind fun t158 => ((doormanref06_Key.f a0).bind fun t159 => (doormanlaw06_TokenTells.j0 k bt148.1 bt153.1 (t158 != t159)))) else (doormanlaw06_TokenTells.j0 k bt148.1 bt153.1 true)) else (doormanlaw06_TokenTells.j0 k bt148.1 bt153.1 true)) else (doormanlaw06_TokenTells.j0 k bt148.1 bt153.1 true))))) else (some false)) = some r := H
  have A2 := Aside0.mk A20
  clear A20
  by_cases c3 : t147 = true
  · subst c3
    have H1 : (if (a0.size : Int) > 2100 then (some true) else ((token_All.f a0).bind fun bt148 => ((doormanref06_All.f k a0).bind fun bt153 => (if bt148.2.1 = bt153.2.1 then (if bt148.2.2 = bt153.2.2 then (if (bt148.1.length : Int) = (bt153.1.length : Int) then ((token_Key.f a0).bind fun t158 => ((doormanref06_Key.f a0).bind fun t159 => (doormanlaw06_TokenTells.j0 k bt148.1 bt153.1 (t158 != t159)))) else (doormanlaw06_TokenTells.j0 k bt148.1 bt153.1 true)) else (doormanlaw06_TokenTells.j0 k bt148.1 bt153.1 true)) else (doormanlaw06_TokenTells.j0 k bt148.1 bt153.1 true))))) = some r := by rw [if_pos rfl] at H; exact H
    clear H
    have H := H1
    clear H1
    by_cases c4 : (a0.size : Int) > 2100
    · rw [if_pos c4] at H
      have c4b0 : decide (2100 < (a0.size : Int)) = true := decide_eq_true c4
      have c4b1 : decide (2100 < a0.size) = true := decide_eq_true (by omega)
      clear c4
      obtain rfl := Option.some.inj H
      go_enter Tryd.func3, Tryd.ntmps3
      go_wp2_with (first | (go_at_call 24; (with_reducible refine (doormanlaw06_awake.calls  true _ ?side1 A2.out).mono ?_); (case side1 => exact ⟨Go.Proofs.YtkgnhghaiopgcaaDoor.Aid.KeysIn.go hK.out (by first | exact Below.refl _ _ | (repeat (first | (with_reducible first | exact HB.out | apply below_alloc | apply pw_below_drewN | apply below_drew1) | exact HB.out)) | exact Drawn0.below (by repeat (first | exact Drawn0.refl _ | apply Drawn0.step)))⟩); rintro e w5 ⟨rfl, hb⟩; have n0_ := Aside0.mk (below_step (by repeat (first | (with_reducible first | exact HB.out | apply below_alloc | apply pw_below_drewN | apply below_drew1) | exact HB.out)) hb); clear HB; have HB := n0_; clear n0_; (try clear hb); (try clear hb2); (try clear hk); (try clear hi)))
      repeat (go_quiet (first | (go_at_call 24; (with_reducible refine (doormanlaw06_awake.calls  true _ ?side1 A2.out).mono ?_); (case side1 => exact ⟨Go.Proofs.YtkgnhghaiopgcaaDoor.Aid.KeysIn.go hK.out (by first | exact Below.refl _ _ | (repeat (first | (with_reducible first | exact HB.out | apply below_alloc | apply pw_below_drewN | apply below_drew1) | exact HB.out)) | exact Drawn0.below (by repeat (first | exact Drawn0.refl _ | apply Drawn0.step)))⟩); rintro e w5 ⟨rfl, hb⟩; have n0_ := Aside0.mk (below_step (by repeat (first | (with_reducible first | exact HB.out | apply below_alloc | apply pw_below_drewN | apply below_drew1) | exact HB.out)) hb); clear HB; have HB := n0_; clear n0_; (try clear hb); (try clear hb2); (try clear hk); (try clear hi))); try go_wp2_with (first | (go_at_call 24; (with_reducible refine (doormanlaw06_awake.calls  true _ ?side1 A2.out).mono ?_); (case side1 => exact ⟨Go.Proofs.YtkgnhghaiopgcaaDoor.Aid.KeysIn.go hK.out (by first | exact Below.refl _ _ | (repeat (first | (with_reducible first | exact HB.out | apply below_alloc | apply pw_below_drewN | apply below_drew1) | exact HB.out)) | exact Drawn0.below (by repeat (first | exact Drawn0.refl _ | apply Drawn0.step)))⟩); rintro e w5 ⟨rfl, hb⟩; have n0_ := Aside0.mk (below_step (by repeat (first | (with_reducible first | exact HB.out | apply below_alloc | apply pw_below_drewN | apply below_drew1) | exact HB.out)) hb); clear HB; have HB := n0_; clear n0_; (try clear hb); (try clear hb2); (try clear hk); (try clear hi))))
      go_ret
      exact ⟨by first | rfl | (simp [errW_none, errW_some] <;> rfl) | (simp [*, errW_none, errW_some] <;> rfl), by repeat (first | (with_reducible first | exact HB.out | apply below_alloc | apply pw_below_drewN | apply below_drew1) | exact HB.out)⟩
    · rw [if_neg c4] at H
      have c4b0 : decide (2100 < (a0.size : Int)) = false := decide_eq_false c4
      have c4b1 : decide (2100 < a0.size) = false := decide_eq_false (by omega)
      clear c4
      replace H := Option.bind_eq_some_iff.mp H
      obtain ⟨⟨t148, t149, t150⟩, A60, H⟩ := H
      replace H : ((doormanref06_All.f k a0).bind fun bt153 => (if t149 = bt153.2.1 then (if t150 = bt153.2.2 then (if (t148.length : Int) = (bt153.1.length : Int) then ((token_Key.f a0).bind fun t158 => ((doormanref06_Key.f a0).bind fun t159 => (doormanlaw06_TokenTells.j0 k t148 bt153.1 (t158 != t159)))) else (doormanlaw06_TokenTells.j0 k t148 bt153.1 true)) else (doormanlaw06_TokenTells.j0 k t148 bt153.1 true)) else (doormanlaw06_TokenTells.j0 k t148 bt153.1 true))) = some r := H
      have A6 := Aside0.mk A60
      clear A60
      replace H := Option.bind_eq_some_iff.mp H
      obtain ⟨⟨t153, t154, t155⟩, A70, H⟩ := H
      replace H : (if t149 = t154 then (if t150 = t155 then (if (t148.length : Int) = (t153.length : Int) then ((token_Key.f a0).bind fun t158 => ((doormanref06_Key.f a0).bind fun t159 => (doormanlaw06_TokenTells.j0 k t148 t153 (t158 != t159)))) else (doormanlaw06_TokenTells.j0 k t148 t153 true)) else (doormanlaw06_TokenTells.j0 k t148 t153 true)) else (doormanlaw06_TokenTells.j0 k t148 t153 true)) = some r := H
      have A7 := Aside0.mk A70
      clear A70
      have HC8 := Aside0.mk H
      clear H
      go_enter Tryd.func3, Tryd.ntmps3
      go_upto_region 8 with (first | (go_at_call 24; (with_reducible refine (doormanlaw06_awake.calls  true _ ?side1 A2.out).mono ?_); (case side1 => exact ⟨Go.Proofs.YtkgnhghaiopgcaaDoor.Aid.KeysIn.go hK.out (by first | exact Below.refl _ _ | (repeat (first | (with_reducible first | exact HB.out | apply below_alloc | apply pw_below_drewN | apply below_drew1) | exact HB.out)) | exact Drawn0.below (by repeat (first | exact Drawn0.refl _ | apply Drawn0.step)))⟩); rintro e w9 ⟨rfl, hb⟩; have n0_ := Aside0.mk (below_step (by repeat (first | (with_reducible first | exact HB.out | apply below_alloc | apply pw_below_drewN | apply below_drew1) | exact HB.out)) hb); clear HB; have HB := n0_; clear n0_; (try clear hb); (try clear hb2); (try clear hk); (try clear hi)) | (go_at_call 25; (with_reducible refine (token_All.calls a0 t148 t149 t150 _ A6.out).mono ?_); rintro e w10 ⟨v151, rfl, ho0, hb⟩; have n0_ := Aside0.mk (Kd.R_lower ho0 (below_size (by repeat (first | (with_reducible first | exact HB.out | apply below_alloc | apply pw_below_drewN | apply below_drew1) | exact HB.out)))); have n1_ := Aside0.mk (below_step (by repeat (first | (with_reducible first | exact HB.out | apply below_alloc | apply pw_below_drewN | apply below_drew1) | exact HB.out)) hb); clear HB; have HO152 := n0_; have HB := n1_; clear n0_ n1_; (try clear hb); (try clear hb2); (try clear hk); (try clear hi); (try clear ho0)) | (go_at_call 26; (with_reducible refine (doormanref06_All.calls k a0 t153 t154 t155 _ A7.out).mono ?_); rintro e w11 ⟨v156, rfl, ho0, hb⟩; have n0_ := Aside0.mk (Kd.R_below (by (with_reducible repeat (first | apply Kd.R_alloc | apply Kd.R_drewN | apply Kd.R_drew)); exact HO152.out) hb); have n1_ := Aside0.mk (Kd.R_lower ho0 (below_size (by repeat (first | (with_reducible first | exact HB.out | apply below_alloc | apply pw_below_drewN | apply below_drew1) | exact HB.out)))); have n2_ := Aside0.mk (below_step (by repeat (first | (with_reducible first | exact HB.out | apply below_alloc | apply pw_below_drewN | apply below_drew1) | exact HB.out)) hb); clear HO152; clear HB; have HO152 := n0_; have HO157 := n1_; have HB := n2_; clear n0_ n1_ n2_; (try clear hb); (try clear hb2); (try clear hk); (try clear hi); (try clear ho0)))
      repeat (go_quiet (first | (go_at_call 24; (with_reducible refine (doormanlaw06_awake.calls  true _ ?side1 A2.out).mono ?_); (case side1 => exact ⟨Go.Proofs.YtkgnhghaiopgcaaDoor.Aid.KeysIn.go hK.out (by first | exact Below.refl _ _ | (repeat (first | (with_reducible first | exact HB.out | apply below_alloc | apply pw_below_drewN | apply below_drew1) | exact HB.out)) | exact Drawn0.below (by repeat (first | exact Drawn0.refl _ | apply Drawn0.step)))⟩); rintro e w9 ⟨rfl, hb⟩; have n0_ := Aside0.mk (below_step (by repeat (first | (with_reducible first | exact HB.out | apply below_alloc | apply pw_below_drewN | apply below_drew1) | exact HB.out)) hb); clear HB; have HB := n0_; clear n0_; (try clear hb); (try clear hb2); (try clear hk); (try clear hi)) | (go_at_call 25; (with_reducible refine (token_All.calls a0 t148 t149 t150 _ A6.out).mono ?_); rintro e w10 ⟨v151, rfl, ho0, hb⟩; have n0_ := Aside0.mk (Kd.R_lower ho0 (below_size (by repeat (first | (with_reducible first | exact HB.out | apply below_alloc | apply pw_below_drewN | apply below_drew1) | exact HB.out)))); have n1_ := Aside0.mk (below_step (by repeat (first | (with_reducible first | exact HB.out | apply below_alloc | apply pw_below_drewN | apply below_drew1) | exact HB.out)) hb); clear HB; have HO152 := n0_; have HB := n1_; clear n0_ n1_; (try clear hb); (try clear hb2); (try clear hk); (try clear hi); (try clear ho0)) | (go_at_call 26; (with_reducible refine (doormanref06_All.calls k a0 t153 t154 t155 _ A7.out).mono ?_); rintro e w11 ⟨v156, rfl, ho0, hb⟩; have n0_ := Aside0.mk (Kd.R_below (by (with_reducible repeat (first | apply Kd.R_alloc | apply Kd.R_drewN | apply Kd.R_drew)); exact HO152.out) hb); have n1_ := Aside0.mk (Kd.R_lower ho0 (below_size (by repeat (first | (with_reducible first | exact HB.out | apply below_alloc | apply pw_below_drewN | apply below_drew1) | exact HB.out)))); have n2_ := Aside0.mk (below_step (by repeat (first | (with_reducible first | exact HB.out | apply below_alloc | apply pw_below_drewN | apply below_drew1) | exact HB.out)) hb); clear HO152; clear HB; have HO152 := n0_; have HO157 := n1_; have HB := n2_; clear n0_ n1_ n2_; (try clear hb); (try clear hb2); (try clear hk); (try clear hi); (try clear ho0))); go_upto_region 8 with (first | (go_at_call 24; (with_reducible refine (doormanlaw06_awake.calls  true _ ?side1 A2.out).mono ?_); (case side1 => exact ⟨Go.Proofs.YtkgnhghaiopgcaaDoor.Aid.KeysIn.go hK.out (by first | exact Below.refl _ _ | (repeat (first | (with_reducible first | exact HB.out | apply below_alloc | apply pw_below_drewN | apply below_drew1) | exact HB.out)) | exact Drawn0.below (by repeat (first | exact Drawn0.refl _ | apply Drawn0.step)))⟩); rintro e w9 ⟨rfl, hb⟩; have n0_ := Aside0.mk (below_step (by repeat (first | (with_reducible first | exact HB.out | apply below_alloc | apply pw_below_drewN | apply below_drew1) | exact HB.out)) hb); clear HB; have HB := n0_; clear n0_; (try clear hb); (try clear hb2); (try clear hk); (try clear hi)) | (go_at_call 25; (with_reducible refine (token_All.calls a0 t148 t149 t150 _ A6.out).mono ?_); rintro e w10 ⟨v151, rfl, ho0, hb⟩; have n0_ := Aside0.mk (Kd.R_lower ho0 (below_size (by repeat (first | (with_reducible first | exact HB.out | apply below_alloc | apply pw_below_drewN | apply below_drew1) | exact HB.out)))); have n1_ := Aside0.mk (below_step (by repeat (first | (with_reducible first | exact HB.out | apply below_alloc | apply pw_below_drewN | apply below_drew1) | exact HB.out)) hb); clear HB; have HO152 := n0_; have HB := n1_; clear n0_ n1_; (try clear hb); (try clear hb2); (try clear hk); (try clear hi); (try clear ho0)) | (go_at_call 26; (with_reducible refine (doormanref06_All.calls k a0 t153 t154 t155 _ A7.out).mono ?_); rintro e w11 ⟨v156, rfl, ho0, hb⟩; have n0_ := Aside0.mk (Kd.R_below (by (with_reducible repeat (first | apply Kd.R_alloc | apply Kd.R_drewN | apply Kd.R_drew)); exact HO152.out) hb); have n1_ := Aside0.mk (Kd.R_lower ho0 (below_size (by repeat (first | (with_reducible first | exact HB.out | apply below_alloc | apply pw_below_drewN | apply below_drew1) | exact HB.out)))); have n2_ := Aside0.mk (below_step (by repeat (first | (with_reducible first | exact HB.out | apply below_alloc | apply pw_below_drewN | apply below_drew1) | exact HB.out)) hb); clear HO152; clear HB; have HO152 := n0_; have HO157 := n1_; have HB := n2_; clear n0_ n1_ n2_; (try clear hb); (try clear hb2); (try clear hk); (try clear hi); (try clear ho0))))
      (try simp only [Act.put, List.setIfInBounds_toArray, List.set_cons_zero, List.set_cons_succ])
      go_cut [50] (fun v50 wc => ∃ (kq : Nat) (x50_7 : Bool), v50 = .bool x50_7 ∧ Aside0 (doormanlaw06_TokenTells.j0 kq t148 t153 x50_7 = some r) ∧ Aside0 (kq ≤ k) ∧ Aside0 (Kd.R k32 32 wc w.heap.size (fun _ => True) v151 t148) ∧ Aside0 (Kd.R k33 33 wc w.heap.size (fun _ => True) v156 t153) ∧ Aside0 (Below w.heap.size w wc))
      case first =>
        have H := HC8.out
        clear HC8
        by_cases c12 : t149 = t154
        · rw [if_pos c12] at H
          have c12b0 : (t149 == t154) = true := beq_iff_eq.mpr c12
          have c12b1 : (t149 != t154) = false := bne_eq_false_iff_eq.mpr c12
          clear c12
          (first | rw [c12b0] | (simp only [i64_w, i32_w]; rw [c12b0]) | skip)
          by_cases c13 : t150 = t155
          · rw [if_pos c13] at H
            have c13b0 : (t150 == t155) = true := beq_iff_eq.mpr c13
            have c13b1 : (t150 != t155) = false := bne_eq_false_iff_eq.mpr c13
            clear c13
            by_cases c14 : (t148.length : Int) = (t153.length : Int)
            · rw [if_pos c14] at H
              have c14b0 : ((t148.length : Int) == (t153.length : Int)) = true := beq_iff_eq.mpr c14
              have c14b1 : ((t148.length : Int) != (t153.length : Int)) = false := bne_eq_false_iff_eq.mpr c14
              have c14b2 : (t148.length == t153.length) = true := by first | simpa using c14 | (simp at c14 ⊢; omega)
              clear c14
              replace H := Option.bind_eq_some_iff.mp H
              obtain ⟨t158, A150, H⟩ := H
              replace H : ((doormanref06_Key.f a0).bind fun t159 => (doormanlaw06_TokenTells.j0 k t148 t153 (t158 != t159))) = some r := H
              have A15 := Aside0.mk A150
              clear A150
              replace H := Option.bind_eq_some_iff.mp H
              obtain ⟨t159, A160, H⟩ := H
              replace H : (doormanlaw06_TokenTells.j0 k t148 t153 (t158 != t159)) = some r := H
              have A16 := Aside0.mk A160
              clear A160
              have H' := Aside0.mk H
              clear H
              obtain ⟨Ao17, co17, eo17⟩ := Kd.R_slice HO152.out
              subst eo17
              obtain ⟨Ao18, co18, eo18⟩ := Kd.R_slice HO157.out
              subst eo18
              go_wp2_with (first | (go_at_call 27; (with_reducible refine (token_Key.calls a0 t158 _ ?side1 A15.out).mono ?_); (case side1 => exact ⟨Go.Proofs.YtkgnhghaiopgcaaDoor.Aid.KeysIn.go hK.out (by first | exact Below.refl _ _ | (repeat (first | (with_reducible first | exact HB.out | apply below_alloc | apply pw_below_drewN | apply below_drew1) | exact HB.out)) | exact Drawn0.below (by repeat (first | exact Drawn0.refl _ | apply Drawn0.step)))⟩); rintro e w' ⟨rfl, ⟨nd, rfl⟩⟩; (try first | exact ⟨rfl, _, World.drewN_drewN _ _ _⟩ | exact ⟨rfl, _, Eq.trans (World.drewN_drewN _ _ _) (congrArg (World.drewN _) (Nat.add_assoc _ _ _))⟩)) | (go_at_call 28; (with_reducible refine (doormanref06_Key.calls a0 t159 _ A16.out).mono ?_); rintro e w' ⟨rfl, ⟨nd, rfl⟩⟩; (try first | exact ⟨rfl, _, World.drewN_drewN _ _ _⟩ | exact ⟨rfl, _, Eq.trans (World.drewN_drewN _ _ _) (congrArg (World.drewN _) (Nat.add_assoc _ _ _))⟩)))
              repeat (go_quiet (first | (go_at_call 27; (with_reducible refine (token_Key.calls a0 t158 _ ?side1 A15.out).mono ?_); (case side1 => exact ⟨Go.Proofs.YtkgnhghaiopgcaaDoor.Aid.KeysIn.go hK.out (by first | exact Below.refl _ _ | (repeat (first | (with_reducible first | exact HB.out | apply below_alloc | apply pw_below_drewN | apply below_drew1) | exact HB.out)) | exact Drawn0.below (by repeat (first | exact Drawn0.refl _ | apply Drawn0.step)))⟩); rintro e w' ⟨rfl, ⟨nd, rfl⟩⟩; (try first | exact ⟨rfl, _, World.drewN_drewN _ _ _⟩ | exact ⟨rfl, _, Eq.trans (World.drewN_drewN _ _ _) (congrArg (World.drewN _) (Nat.add_assoc _ _ _))⟩)) | (go_at_call 28; (with_reducible refine (doormanref06_Key.calls a0 t159 _ A16.out).mono ?_); rintro e w' ⟨rfl, ⟨nd, rfl⟩⟩; (try first | exact ⟨rfl, _, World.drewN_drewN _ _ _⟩ | exact ⟨rfl, _, Eq.trans (World.drewN_drewN _ _ _) (congrArg (World.drewN _) (Nat.add_assoc _ _ _))⟩))); try go_wp2_with (first | (go_at_call 27; (with_reducible refine (token_Key.calls a0 t158 _ ?side1 A15.out).mono ?_); (case side1 => exact ⟨Go.Proofs.YtkgnhghaiopgcaaDoor.Aid.KeysIn.go hK.out (by first | exact Below.refl _ _ | (repeat (first | (with_reducible first | exact HB.out | apply below_alloc | apply pw_below_drewN | apply below_drew1) | exact HB.out)) | exact Drawn0.below (by repeat (first | exact Drawn0.refl _ | apply Drawn0.step)))⟩); rintro e w' ⟨rfl, ⟨nd, rfl⟩⟩; (try first | exact ⟨rfl, _, World.drewN_drewN _ _ _⟩ | exact ⟨rfl, _, Eq.trans (World.drewN_drewN _ _ _) (congrArg (World.drewN _) (Nat.add_assoc _ _ _))⟩)) | (go_at_call 28; (with_reducible refine (doormanref06_Key.calls a0 t159 _ A16.out).mono ?_); rintro e w' ⟨rfl, ⟨nd, rfl⟩⟩; (try first | exact ⟨rfl, _, World.drewN_drewN _ _ _⟩ | exact ⟨rfl, _, Eq.trans (World.drewN_drewN _ _ _) (congrArg (World.drewN _) (Nat.add_assoc _ _ _))⟩))))
              go_meet
              case rel => exact ⟨_, ((t158 != t159)), (by first | rfl | (simp; done) | (simp [*]; done)), H', ⟨by first | omega | exact Nat.le_refl _⟩, ⟨by (with_reducible repeat (first | apply Kd.R_alloc | apply Kd.R_drewN | apply Kd.R_drew)); exact HO152.out⟩, ⟨by (with_reducible repeat (first | apply Kd.R_alloc | apply Kd.R_drewN | apply Kd.R_drew)); exact HO157.out⟩, ⟨by repeat (first | (with_reducible first | exact HB.out | apply below_alloc | apply pw_below_drewN | apply below_drew1) | exact HB.out)⟩⟩
            · rw [if_neg c14] at H
              have c14b0 : ((t148.length : Int) == (t153.length : Int)) = false := beq_eq_false_iff_ne.mpr c14
              have c14b1 : ((t148.length : Int) != (t153.length : Int)) = true := bne_iff_ne.mpr c14
              have c14b2 : (t148.length == t153.length) = false := by first | simpa using c14 | (simp at c14 ⊢; omega)
              have H' := Aside0.mk H
              clear H
              obtain ⟨Ao19, co19, eo19⟩ := Kd.R_slice HO152.out
              subst eo19
              obtain ⟨Ao20, co20, eo20⟩ := Kd.R_slice HO157.out
              subst eo20
              go_wp2
              repeat (go_quiet (fail); try go_wp2)
              go_meet
              case rel => exact ⟨_, (true), (by first | rfl | (simp; done) | (simp [*]; done)), H', ⟨by first | omega | exact Nat.le_refl _⟩, ⟨by (with_reducible repeat (first | apply Kd.R_alloc | apply Kd.R_drewN | apply Kd.R_drew)); exact HO152.out⟩, ⟨by (with_reducible repeat (first | apply Kd.R_alloc | apply Kd.R_drewN | apply Kd.R_drew)); exact HO157.out⟩, ⟨by repeat (first | (with_reducible first | exact HB.out | apply below_alloc | apply pw_below_drewN | apply below_drew1) | exact HB.out)⟩⟩
          · rw [if_neg c13] at H
            have c13b0 : (t150 == t155) = false := beq_eq_false_iff_ne.mpr c13
            have c13b1 : (t150 != t155) = true := bne_iff_ne.mpr c13
            have H' := Aside0.mk H
            clear H
            go_wp2
            repeat (go_quiet (fail); try go_wp2)
            go_meet
            case rel => exact ⟨_, (true), (by first | rfl | (simp; done) | (simp [*]; done)), H', ⟨by first | omega | exact Nat.le_refl _⟩, ⟨by (with_reducible repeat (first | apply Kd.R_alloc | apply Kd.R_drewN | apply Kd.R_drew)); exact HO152.out⟩, ⟨by (with_reducible repeat (first | apply Kd.R_alloc | apply Kd.R_drewN | apply Kd.R_drew)); exact HO157.out⟩, ⟨by repeat (first | (with_reducible first | exact HB.out | apply below_alloc | apply pw_below_drewN | apply below_drew1) | exact HB.out)⟩⟩
        · rw [if_neg c12] at H
          have c12b0 : (t149 == t154) = false := beq_eq_false_iff_ne.mpr c12
          have c12b1 : (t149 != t154) = true := bne_iff_ne.mpr c12
          (first | rw [c12b0] | (simp only [i64_w, i32_w]; rw [c12b0]) | skip)
          have H' := Aside0.mk H
          clear H
          go_wp2
          repeat (go_quiet (fail); try go_wp2)
          go_meet
          case rel => exact ⟨_, (true), (by first | rfl | (simp; done) | (simp [*]; done)), H', ⟨by first | omega | exact Nat.le_refl _⟩, ⟨by (with_reducible repeat (first | apply Kd.R_alloc | apply Kd.R_drewN | apply Kd.R_drew)); exact HO152.out⟩, ⟨by (with_reducible repeat (first | apply Kd.R_alloc | apply Kd.R_drewN | apply Kd.R_drew)); exact HO157.out⟩, ⟨by repeat (first | (with_reducible first | exact HB.out | apply below_alloc | apply pw_below_drewN | apply below_drew1) | exact HB.out)⟩⟩
      case rest =>
        clear HC8
        try clear c1
        try clear p2
        try clear c3
        try clear c4
        try clear c4b0
        try clear c4b1
        try clear c12
        try clear c12b0
        try clear c12b1
        try clear c13
        try clear c13b0
        try clear c13b1
        try clear c14
        try clear c14b0
        try clear c14b1
        try clear c14b2
        obtain ⟨kq, x50_7, rfl, HA, HJ7, HO_4, HO_7, HB⟩ := hcut
        cases kq with
        | zero => exact absurd HA.out (by simp [doormanlaw06_TokenTells.j0])
        | succ kj7 =>
          have H := HA.out
          clear HA
          simp only [doormanlaw06_TokenTells.j0] at H
          by_cases c21 : x50_7 = true
          · subst c21
            have H1 : (some false) = some r := by rw [if_pos rfl] at H; exact H
            clear H
            have H := H1
            clear H1
            obtain rfl := Option.some.inj H
            go_wp2
            repeat (go_quiet (fail); try go_wp2)
            go_ret
            exact ⟨by first | rfl | (simp [errW_none, errW_some] <;> rfl) | (simp [*, errW_none, errW_some] <;> rfl), by repeat (first | (with_reducible first | exact HB.out | apply below_alloc | apply pw_below_drewN | apply below_drew1) | exact HB.out)⟩
          · replace c21 := Bool.eq_false_iff.mpr c21
            subst c21
            have H1 : (doormanlaw06_TokenTells.l0 kj7 t148 t153 0) = some r := by rw [if_neg (show ¬ (false = true) by decide)] at H; exact H
            clear H
            have H := H1
            clear H1
            have H' := Aside0.mk H
            clear H
            go_wp2
            repeat (go_quiet (fail); try go_wp2)
            go_loopg [10] kj7 (fun kq v10 w' => ∃ (x10_2 : Int), v10 = .int .i64 x10_2 ∧ Aside0 (doormanlaw06_TokenTells.l0 kq t148 t153 x10_2 = some r) ∧ Aside0 (kq ≤ kj7) ∧ Aside0 (Kd.R k32 32 w' w.heap.size (fun _ => True) v151 t148) ∧ Aside0 (Kd.R k33 33 w' w.heap.size (fun _ => True) v156 t153) ∧ Aside0 (Below w.heap.size w w'))
            case atStart => exact ⟨(0), (by first | rfl | (simp; done) | (simp [*]; done)), H', ⟨Nat.le_refl _⟩, ⟨by (with_reducible repeat (first | apply Kd.R_alloc | apply Kd.R_drewN | apply Kd.R_drew)); exact HO_4.out⟩, ⟨by (with_reducible repeat (first | apply Kd.R_alloc | apply Kd.R_drewN | apply Kd.R_drew)); exact HO_7.out⟩, ⟨by repeat (first | (with_reducible first | exact HB.out | apply below_alloc | apply pw_below_drewN | apply below_drew1) | exact HB.out)⟩⟩
            case round =>
              clear H'
              try clear c1
              try clear c2
              try clear p2
              try clear c3
              try clear c4
              try clear c4b0
              try clear c4b1
              try clear c12
              try clear c12b0
              try clear c12b1
              try clear c13
              try clear c13b0
              try clear c13b1
              try clear c14
              try clear c14b0
              try clear c14b1
              try clear c14b2
              try clear c21
              try clear p2
              obtain ⟨x10_2, rfl, HA, HK2, HO_4, HO_7, HB⟩ := hrel
              cases gk with
              | zero => exact absurd HA.out (by simp [doormanlaw06_TokenTells.l0])
              | succ k2 =>
                have H := HA.out
                clear HA
                simp only [doormanlaw06_TokenTells.l0] at H
                by_cases c22 : x10_2 < (t148.length : Int)
                · rw [if_pos c22] at H
                  have c22b0 : decide (x10_2 < (t148.length : Int)) = true := decide_eq_true c22
                  clear c22
                  by_cases c23 : 0 ≤ x10_2
                  · rw [if_pos c23] at H
                    have c23b0 : decide (0 ≤ x10_2) = true := decide_eq_true c23
                    clear c23
                    by_cases c24 : x10_2 < (t153.length : Int)
                    · rw [if_pos c24] at H
                      have c24b0 : decide (x10_2 < (t153.length : Int)) = true := decide_eq_true c24
                      clear c24
                      by_cases c25 : ((rd_T32 t148 x10_2).f0) = ((rd_T33 t153 x10_2).f0)
                      · rw [if_pos c25] at H
                        have c25b0 : (((rd_T32 t148 x10_2).f0) == ((rd_T33 t153 x10_2).f0)) = true := beq_iff_eq.mpr c25
                        have c25b1 : (((rd_T32 t148 x10_2).f0) != ((rd_T33 t153 x10_2).f0)) = false := bne_eq_false_iff_eq.mpr c25
                        clear c25
                        by_cases c26 : ((rd_T32 t148 x10_2).f1).toList = ((rd_T33 t153 x10_2).f1).toList
                        · rw [if_pos c26] at H
                          have c26b0 : (((rd_T32 t148 x10_2).f1).toList == ((rd_T33 t153 x10_2).f1).toList) = true := beq_iff_eq.mpr c26
                          have c26b1 : (((rd_T32 t148 x10_2).f1).toList != ((rd_T33 t153 x10_2).f1).toList) = false := bne_eq_false_iff_eq.mpr c26
                          clear c26
                          by_cases c27 : ((rd_T32 t148 x10_2).f2) = ((rd_T33 t153 x10_2).f2)
                          · rw [if_pos c27] at H
                            have c27b0 : (((rd_T32 t148 x10_2).f2) == ((rd_T33 t153 x10_2).f2)) = true := beq_iff_eq.mpr c27
                            have c27b1 : (((rd_T32 t148 x10_2).f2) != ((rd_T33 t153 x10_2).f2)) = false := bne_eq_false_iff_eq.mpr c27
                            clear c27
                            have H' := Aside0.mk H
                            clear H
                            obtain ⟨Ao28, co28, eo28⟩ := Kd.R_slice HO_4.out
                            subst eo28
                            have p160 : 0 ≤ (x10_2 : Int) := of_decide_eq_true (by first | (with_reducible assumption) | assumption)
                            have q160 : x10_2 < (t148.length : Int) := of_decide_eq_true (by first | (with_reducible assumption) | assumption)
                            obtain ⟨ad160, e160, hx160_0, hx160_1, hx160_2⟩ := at_T32 (Kd.R_reads' HO_4.out).2.2 x10_2 p160 q160
                            cases e160
                            replace p160 := eq_true p160
                            replace q160 := eq_true q160
                            obtain ⟨Ao29, co29, eo29⟩ := Kd.R_slice HO_7.out
                            subst eo29
                            have p161 : 0 ≤ (x10_2 : Int) := of_decide_eq_true (by first | (with_reducible assumption) | assumption)
                            have q161 : x10_2 < (t153.length : Int) := of_decide_eq_true (by first | (with_reducible assumption) | assumption)
                            obtain ⟨ad161, e161, hx161_0, hx161_1, hx161_2⟩ := at_T33 (Kd.R_reads' HO_7.out).2.2 x10_2 p161 q161
                            cases e161
                            replace p161 := eq_true p161
                            replace q161 := eq_true q161
                            have p162 : 0 ≤ (x10_2 : Int) := of_decide_eq_true (by first | (with_reducible assumption) | assumption)
                            have q162 : x10_2 < (t148.length : Int) := of_decide_eq_true (by first | (with_reducible assumption) | assumption)
                            obtain ⟨ad162, e162, hx162_0, hx162_1, hx162_2⟩ := at_T32 (Kd.R_reads' HO_4.out).2.2 x10_2 p162 q162
                            obtain rfl : ad160 = ad162 := (by injection e162)
                            replace p162 := eq_true p162
                            replace q162 := eq_true q162
                            have p163 : 0 ≤ (x10_2 : Int) := of_decide_eq_true (by first | (with_reducible assumption) | assumption)
                            have q163 : x10_2 < (t153.length : Int) := of_decide_eq_true (by first | (with_reducible assumption) | assumption)
                            obtain ⟨ad163, e163, hx163_0, hx163_1, hx163_2⟩ := at_T33 (Kd.R_reads' HO_7.out).2.2 x10_2 p163 q163
                            obtain rfl : ad161 = ad163 := (by injection e163)
                            replace p163 := eq_true p163
                            replace q163 := eq_true q163
                            have p164 : 0 ≤ (x10_2 : Int) := of_decide_eq_true (by first | (with_reducible assumption) | assumption)
                            have q164 : x10_2 < (t148.length : Int) := of_decide_eq_true (by first | (with_reducible assumption) | assumption)
                            obtain ⟨ad164, e164, hx164_0, hx164_1, hx164_2⟩ := at_T32 (Kd.R_reads' HO_4.out).2.2 x10_2 p164 q164
                            obtain rfl : ad160 = ad164 := (by injection e164)
                            replace p164 := eq_true p164
                            replace q164 := eq_true q164
                            have p165 : 0 ≤ (x10_2 : Int) := of_decide_eq_true (by first | (with_reducible assumption) | assumption)
                            have q165 : x10_2 < (t153.length : Int) := of_decide_eq_true (by first | (with_reducible assumption) | assumption)
                            obtain ⟨ad165, e165, hx165_0, hx165_1, hx165_2⟩ := at_T33 (Kd.R_reads' HO_7.out).2.2 x10_2 p165 q165
                            obtain rfl : ad161 = ad165 := (by injection e165)
                            replace p165 := eq_true p165
                            replace q165 := eq_true q165
                            go_wp2
                            repeat (go_quiet (fail); try go_wp2)
                            go_roundg k2
                            case measure => have := HJ7.out; have := HK2.out; omega
                            case rel => exact ⟨(wrap64 (x10_2 + 1)), (by first | rfl | (simp; done) | (simp [*]; done)), H', ⟨by have := HJ7.out; have := HK2.out; omega⟩, ⟨by (with_reducible repeat (first | apply Kd.R_alloc | apply Kd.R_drewN | apply Kd.R_drew)); exact HO_4.out⟩, ⟨by (with_reducible repeat (first | apply Kd.R_alloc | apply Kd.R_drewN | apply Kd.R_drew)); exact HO_7.out⟩, ⟨by repeat (first | (with_reducible first | exact HB.out | apply below_alloc | apply pw_below_drewN | apply below_drew1) | exact HB.out)⟩⟩
                          · rw [if_neg c27] at H
                            have c27b0 : (((rd_T32 t148 x10_2).f2) == ((rd_T33 t153 x10_2).f2)) = false := beq_eq_false_iff_ne.mpr c27
                            have c27b1 : (((rd_T32 t148 x10_2).f2) != ((rd_T33 t153 x10_2).f2)) = true := bne_iff_ne.mpr c27
                            obtain rfl := Option.some.inj H
                            obtain ⟨Ao30, co30, eo30⟩ := Kd.R_slice HO_4.out
                            subst eo30
                            have p160 : 0 ≤ (x10_2 : Int) := of_decide_eq_true (by first | (with_reducible assumption) | assumption)
                            have q160 : x10_2 < (t148.length : Int) := of_decide_eq_true (by first | (with_reducible assumption) | assumption)
                            obtain ⟨ad160, e160, hx160_0, hx160_1, hx160_2⟩ := at_T32 (Kd.R_reads' HO_4.out).2.2 x10_2 p160 q160
                            cases e160
                            replace p160 := eq_true p160
                            replace q160 := eq_true q160
                            obtain ⟨Ao31, co31, eo31⟩ := Kd.R_slice HO_7.out
                            subst eo31
                            have p161 : 0 ≤ (x10_2 : Int) := of_decide_eq_true (by first | (with_reducible assumption) | assumption)
                            have q161 : x10_2 < (t153.length : Int) := of_decide_eq_true (by first | (with_reducible assumption) | assumption)
                            obtain ⟨ad161, e161, hx161_0, hx161_1, hx161_2⟩ := at_T33 (Kd.R_reads' HO_7.out).2.2 x10_2 p161 q161
                            cases e161
                            replace p161 := eq_true p161
                            replace q161 := eq_true q161
                            have p162 : 0 ≤ (x10_2 : Int) := of_decide_eq_true (by first | (with_reducible assumption) | assumption)
                            have q162 : x10_2 < (t148.length : Int) := of_decide_eq_true (by first | (with_reducible assumption) | assumption)
                            obtain ⟨ad162, e162, hx162_0, hx162_1, hx162_2⟩ := at_T32 (Kd.R_reads' HO_4.out).2.2 x10_2 p162 q162
                            obtain rfl : ad160 = ad162 := (by injection e162)
                            replace p162 := eq_true p162
                            replace q162 := eq_true q162
                            have p163 : 0 ≤ (x10_2 : Int) := of_decide_eq_true (by first | (with_reducible assumption) | assumption)
                            have q163 : x10_2 < (t153.length : Int) := of_decide_eq_true (by first | (with_reducible assumption) | assumption)
                            obtain ⟨ad163, e163, hx163_0, hx163_1, hx163_2⟩ := at_T33 (Kd.R_reads' HO_7.out).2.2 x10_2 p163 q163
                            obtain rfl : ad161 = ad163 := (by injection e163)
                            replace p163 := eq_true p163
                            replace q163 := eq_true q163
                            have p164 : 0 ≤ (x10_2 : Int) := of_decide_eq_true (by first | (with_reducible assumption) | assumption)
                            have q164 : x10_2 < (t148.length : Int) := of_decide_eq_true (by first | (with_reducible assumption) | assumption)
                            obtain ⟨ad164, e164, hx164_0, hx164_1, hx164_2⟩ := at_T32 (Kd.R_reads' HO_4.out).2.2 x10_2 p164 q164
                            obtain rfl : ad160 = ad164 := (by injection e164)
                            replace p164 := eq_true p164
                            replace q164 := eq_true q164
                            have p165 : 0 ≤ (x10_2 : Int) := of_decide_eq_true (by first | (with_reducible assumption) | assumption)
                            have q165 : x10_2 < (t153.length : Int) := of_decide_eq_true (by first | (with_reducible assumption) | assumption)
                            obtain ⟨ad165, e165, hx165_0, hx165_1, hx165_2⟩ := at_T33 (Kd.R_reads' HO_7.out).2.2 x10_2 p165 q165
                            obtain rfl : ad161 = ad165 := (by injection e165)
                            replace p165 := eq_true p165
                            replace q165 := eq_true q165
                            go_wp2
                            repeat (go_quiet (fail); try go_wp2)
                            go_ret
                            exact ⟨by first | rfl | (simp [errW_none, errW_some] <;> rfl) | (simp [*, errW_none, errW_some] <;> rfl), by repeat (first | (with_reducible first | exact HB.out | apply below_alloc | apply pw_below_drewN | apply below_drew1) | exact HB.out)⟩
                        · rw [if_neg c26] at H
                          have c26b0 : (((rd_T32 t148 x10_2).f1).toList == ((rd_T33 t153 x10_2).f1).toList) = false := beq_eq_false_iff_ne.mpr c26
                          have c26b1 : (((rd_T32 t148 x10_2).f1).toList != ((rd_T33 t153 x10_2).f1).toList) = true := bne_iff_ne.mpr c26
                          obtain rfl := Option.some.inj H
                          obtain ⟨Ao32, co32, eo32⟩ := Kd.R_slice HO_4.out
                          subst eo32
                          have p160 : 0 ≤ (x10_2 : Int) := of_decide_eq_true (by first | (with_reducible assumption) | assumption)
                          have q160 : x10_2 < (t148.length : Int) := of_decide_eq_true (by first | (with_reducible assumption) | assumption)
                          obtain ⟨ad160, e160, hx160_0, hx160_1, hx160_2⟩ := at_T32 (Kd.R_reads' HO_4.out).2.2 x10_2 p160 q160
                          cases e160
                          replace p160 := eq_true p160
                          replace q160 := eq_true q160
                          obtain ⟨Ao33, co33, eo33⟩ := Kd.R_slice HO_7.out
                          subst eo33
                          have p161 : 0 ≤ (x10_2 : Int) := of_decide_eq_true (by first | (with_reducible assumption) | assumption)
                          have q161 : x10_2 < (t153.length : Int) := of_decide_eq_true (by first | (with_reducible assumption) | assumption)
                          obtain ⟨ad161, e161, hx161_0, hx161_1, hx161_2⟩ := at_T33 (Kd.R_reads' HO_7.out).2.2 x10_2 p161 q161
                          cases e161
                          replace p161 := eq_true p161
                          replace q161 := eq_true q161
                          have p162 : 0 ≤ (x10_2 : Int) := of_decide_eq_true (by first | (with_reducible assumption) | assumption)
                          have q162 : x10_2 < (t148.length : Int) := of_decide_eq_true (by first | (with_reducible assumption) | assumption)
                          obtain ⟨ad162, e162, hx162_0, hx162_1, hx162_2⟩ := at_T32 (Kd.R_reads' HO_4.out).2.2 x10_2 p162 q162
                          obtain rfl : ad160 = ad162 := (by injection e162)
                          replace p162 := eq_true p162
                          replace q162 := eq_true q162
                          have p163 : 0 ≤ (x10_2 : Int) := of_decide_eq_true (by first | (with_reducible assumption) | assumption)
                          have q163 : x10_2 < (t153.length : Int) := of_decide_eq_true (by first | (with_reducible assumption) | assumption)
                          obtain ⟨ad163, e163, hx163_0, hx163_1, hx163_2⟩ := at_T33 (Kd.R_reads' HO_7.out).2.2 x10_2 p163 q163
                          obtain rfl : ad161 = ad163 := (by injection e163)
                          replace p163 := eq_true p163
                          replace q163 := eq_true q163
                          go_wp2
                          repeat (go_quiet (fail); try go_wp2)
                          go_ret
                          exact ⟨by first | rfl | (simp [errW_none, errW_some] <;> rfl) | (simp [*, errW_none, errW_some] <;> rfl), by repeat (first | (with_reducible first | exact HB.out | apply below_alloc | apply pw_below_drewN | apply below_drew1) | exact HB.out)⟩
                      · rw [if_neg c25] at H
                        have c25b0 : (((rd_T32 t148 x10_2).f0) == ((rd_T33 t153 x10_2).f0)) = false := beq_eq_false_iff_ne.mpr c25
                        have c25b1 : (((rd_T32 t148 x10_2).f0) != ((rd_T33 t153 x10_2).f0)) = true := bne_iff_ne.mpr c25
                        obtain rfl := Option.some.inj H
                        obtain ⟨Ao34, co34, eo34⟩ := Kd.R_slice HO_4.out
                        subst eo34
                        have p160 : 0 ≤ (x10_2 : Int) := of_decide_eq_true (by first | (with_reducible assumption) | assumption)
                        have q160 : x10_2 < (t148.length : Int) := of_decide_eq_true (by first | (with_reducible assumption) | assumption)
                        obtain ⟨ad160, e160, hx160_0, hx160_1, hx160_2⟩ := at_T32 (Kd.R_reads' HO_4.out).2.2 x10_2 p160 q160
                        cases e160
                        replace p160 := eq_true p160
                        replace q160 := eq_true q160
                        obtain ⟨Ao35, co35, eo35⟩ := Kd.R_slice HO_7.out
                        subst eo35
                        have p161 : 0 ≤ (x10_2 : Int) := of_decide_eq_true (by first | (with_reducible assumption) | assumption)
                        have q161 : x10_2 < (t153.length : Int) := of_decide_eq_true (by first | (with_reducible assumption) | assumption)
                        obtain ⟨ad161, e161, hx161_0, hx161_1, hx161_2⟩ := at_T33 (Kd.R_reads' HO_7.out).2.2 x10_2 p161 q161
                        cases e161
                        replace p161 := eq_true p161
                        replace q161 := eq_true q161
                        go_wp2
                        repeat (go_quiet (fail); try go_wp2)
                        go_ret
                        exact ⟨by first | rfl | (simp [errW_none, errW_some] <;> rfl) | (simp [*, errW_none, errW_some] <;> rfl), by repeat (first | (with_reducible first | exact HB.out | apply below_alloc | apply pw_below_drewN | apply below_drew1) | exact HB.out)⟩
                    · rw [if_neg c24] at H
                      exact absurd H (by simp)
                  · rw [if_neg c23] at H
                    exact absurd H (by simp)
                · rw [if_neg c22] at H
                  have c22b0 : decide (x10_2 < (t148.length : Int)) = false := decide_eq_false c22
                  clear c22
                  obtain rfl := Option.some.inj H
                  obtain ⟨Ao36, co36, eo36⟩ := Kd.R_slice HO_4.out
                  subst eo36
                  go_wp2
                  repeat (go_quiet (fail); try go_wp2)
                  go_ret
                  exact ⟨by first | rfl | (simp [errW_none, errW_some] <;> rfl) | (simp [*, errW_none, errW_some] <;> rfl), by repeat (first | (with_reducible first | exact HB.out | apply below_alloc | apply pw_below_drewN | apply below_drew1) | exact HB.out)⟩
  · replace c3 := Bool.eq_false_iff.mpr c3
    subst c3
    have H1 : (some false) = some r := by rw [if_neg (show ¬ (false = true) by decide)] at H; exact H
    clear H
    have H := H1
    clear H1
    obtain rfl := Option.some.inj H
    go_enter Tryd.func3, Tryd.ntmps3
    go_wp2_with (first | (go_at_call 24; (with_reducible refine (doormanlaw06_awake.calls  false _ ?side1 A2.out).mono ?_); (case side1 => exact ⟨Go.Proofs.YtkgnhghaiopgcaaDoor.Aid.KeysIn.go hK.out (by first | exact Below.refl _ _ | (repeat (first | (with_reducible first | exact HB.out | apply below_alloc | apply pw_below_drewN | apply below_drew1) | exact HB.out)) | exact Drawn0.below (by repeat (first | exact Drawn0.refl _ | apply Drawn0.step)))⟩); rintro e w37 ⟨rfl, hb⟩; have n0_ := Aside0.mk (below_step (by repeat (first | (with_reducible first | exact HB.out | apply below_alloc | apply pw_below_drewN | apply below_drew1) | exact HB.out)) hb); clear HB; have HB := n0_; clear n0_; (try clear hb); (try clear hb2); (try clear hk); (try clear hi)))
    repeat (go_quiet (first | (go_at_call 24; (with_reducible refine (doormanlaw06_awake.calls  false _ ?side1 A2.out).mono ?_); (case side1 => exact ⟨Go.Proofs.YtkgnhghaiopgcaaDoor.Aid.KeysIn.go hK.out (by first | exact Below.refl _ _ | (repeat (first | (with_reducible first | exact HB.out | apply below_alloc | apply pw_below_drewN | apply below_drew1) | exact HB.out)) | exact Drawn0.below (by repeat (first | exact Drawn0.refl _ | apply Drawn0.step)))⟩); rintro e w37 ⟨rfl, hb⟩; have n0_ := Aside0.mk (below_step (by repeat (first | (with_reducible first | exact HB.out | apply below_alloc | apply pw_below_drewN | apply below_drew1) | exact HB.out)) hb); clear HB; have HB := n0_; clear n0_; (try clear hb); (try clear hb2); (try clear hk); (try clear hi))); try go_wp2_with (first | (go_at_call 24; (with_reducible refine (doormanlaw06_awake.calls  false _ ?side1 A2.out).mono ?_); (case side1 => exact ⟨Go.Proofs.YtkgnhghaiopgcaaDoor.Aid.KeysIn.go hK.out (by first | exact Below.refl _ _ | (repeat (first | (with_reducible first | exact HB.out | apply below_alloc | apply pw_below_drewN | apply below_drew1) | exact HB.out)) | exact Drawn0.below (by repeat (first | exact Drawn0.refl _ | apply Drawn0.step)))⟩); rintro e w37 ⟨rfl, hb⟩; have n0_ := Aside0.mk (below_step (by repeat (first | (with_reducible first | exact HB.out | apply below_alloc | apply pw_below_drewN | apply below_drew1) | exact HB.out)) hb); clear HB; have HB := n0_; clear n0_; (try clear hb); (try clear hb2); (try clear hk); (try clear hi))))
    go_ret
    exact ⟨by first | rfl | (simp [errW_none, errW_some] <;> rfl) | (simp [*, errW_none, errW_some] <;> rfl), by repeat (first | (with_reducible first | exact HB.out | apply below_alloc | apply pw_below_drewN | apply below_drew1) | exact HB.out)⟩

/-- THE ONE PURE STATEMENT of doormanlaw06_TokenTells: yours. -/
def doormanlaw06_TokenTells.Pure : Prop := ∀ (a0 : ByteArray), a0.size ≤ 140737488351232 → ∃ k, doormanlaw06_TokenTells.f k a0 = some true
theorem doormanlaw06_TokenTells.walk (P : doormanlaw06_TokenTells.Pure) (a0 : ByteArray) (w : World) (hK : Aside0 (Go.Proofs.YtkgnhghaiopgcaaDoor.Aid.KeysIn w)) (w0 : a0.size ≤ 140737488351232) :
    Calls Tryd.prog 3 #[.string a0] w fun e w' => e = .returned (.bool true) ∧ Below w.heap.size w w' := by
  obtain ⟨k, h⟩ := P a0 w0
  refine (doormanlaw06_TokenTells.calls k a0 true w hK h).mono ?_
  rintro e w' ⟨rfl, hd⟩
  exact ⟨rfl, hd⟩

end Go.Proofs.YtkgnhghaiopgcaaDoor.X
