-- Written by a program of this session (wip/tools/drive.py) for this seat, partly by the kit's print.py; some functions by hand.
import Derived.Test.YtkgnhghaiopgcaaDoorX0
namespace Go.Proofs.YtkgnhghaiopgcaaDoor.Nq
open Go.RowKit Go.Proofs.YtkgnhghaiopgcaaDoorW.PrintWords Go.Proofs.YtkgnhghaiopgcaaDoorW.PrintLast
open Go.Proofs.YtkgnhghaiopgcaaDoor.X
set_option linter.unusedVariables false
set_option linter.unusedSimpArgs false

/-! ### doormanref06_Sign: function 31 -/
def doormanref06_Sign.l0 : Nat → Int → ByteArray → Int → Option (Bool)
  | 0, _, _, _ => none
  | k + 1, x0, x3, x4 => if x4 < (x3.size : Int) then (if 0 ≤ x4 then (if (bt x3 x4) = x0 then (some true) else (doormanref06_Sign.l0 k x0 x3 (wrap64 (x4 + 1)))) else (none)) else (some false)
def doormanref06_Sign.f (k : Nat) (a0 : Int) : Option (Bool) := doormanref06_Sign.l0 k a0 (⟨#[123, 125, 40, 41, 58, 44, 59, 124, 38, 45, 46, 35]⟩ : ByteArray) 0
theorem doormanref06_Sign.mono_l : ∀ k, (∀ y0 y1 y2, LeO (doormanref06_Sign.l0 k y0 y1 y2) (doormanref06_Sign.l0 (k + 1) y0 y1 y2))
  | 0 => fun _ _ _ r h => by simp [doormanref06_Sign.l0] at h
  | k + 1 => by
    have ih0 := doormanref06_Sign.mono_l k
    · intro y0 y1 y2
      unfold doormanref06_Sign.l0
      repeat' first
      | (with_reducible exact ih0 _ _ _)
      | (with_reducible exact LeO.refl _)
      | (with_reducible exact LeO.none _)
      | (with_reducible refine LeO.ite ?_ ?_)
      | (with_reducible refine LeO.bind ?_ (fun _ => ?_))
      | exact ih0 _ _ _
      | exact LeO.none _
      | refine LeO.ite ?_ ?_
      | refine LeO.bind ?_ (fun _ => ?_)
theorem doormanref06_Sign.mono : ∀ a0 k, LeO (doormanref06_Sign.f k a0) (doormanref06_Sign.f (k + 1) a0) := by
  intro a0 k
  have ih0 := doormanref06_Sign.mono_l k
  unfold doormanref06_Sign.f
  repeat' first
      | (with_reducible exact ih0 _ _ _)
      | (with_reducible exact LeO.refl _)
      | (with_reducible exact LeO.none _)
      | (with_reducible refine LeO.ite ?_ ?_)
      | (with_reducible refine LeO.bind ?_ (fun _ => ?_))
      | exact ih0 _ _ _
      | exact LeO.none _
      | refine LeO.ite ?_ ?_
      | refine LeO.bind ?_ (fun _ => ?_)
set_option maxHeartbeats 8000000 in
set_option maxRecDepth 100000 in
theorem doormanref06_Sign.calls (k : Nat) (a0 : Int) (r : Bool) (w : World) (h : doormanref06_Sign.f k a0 = some r) :
    Calls Tryd.prog 31 #[.int .u8 a0] w fun e w' => e = .returned (.bool r) ∧ Drawn0 w w' := by
  have H : (doormanref06_Sign.l0 k a0 (⟨#[123, 125, 40, 41, 58, 44, 59, 124, 38, 45, 46, 35]⟩ : ByteArray) 0) = some r := h
  clear h
  have H' := Aside0.mk H
  clear H
  go_enter Tryd.func31, Tryd.ntmps31
  go_wp2
  go_loopg [4] k (fun kq v4 w' => ∃ (x4_1 : Int), v4 = .int .i64 x4_1 ∧ Aside0 (doormanref06_Sign.l0 kq a0 (⟨#[123, 125, 40, 41, 58, 44, 59, 124, 38, 45, 46, 35]⟩ : ByteArray) x4_1 = some r) ∧ Aside0 (kq ≤ k) ∧ Drawn0 w w')
  case atStart => exact ⟨(0), (by first | rfl | (simp; done) | (simp [*]; done)), H', ⟨Nat.le_refl _⟩, by repeat (first | exact Drawn0.refl _ | apply Drawn0.step)⟩
  case round =>
    clear H'
    obtain ⟨x4_1, rfl, HA, HK1, ⟨m1, rfl⟩⟩ := hrel
    cases gk with
    | zero => exact absurd HA.out (by simp [doormanref06_Sign.l0])
    | succ k1 =>
      have H := HA.out
      clear HA
      simp only [doormanref06_Sign.l0] at H
      by_cases c2 : x4_1 < ((⟨#[123, 125, 40, 41, 58, 44, 59, 124, 38, 45, 46, 35]⟩ : ByteArray).size : Int)
      · rw [if_pos c2] at H
        have c2b0 : decide (x4_1 < ((⟨#[123, 125, 40, 41, 58, 44, 59, 124, 38, 45, 46, 35]⟩ : ByteArray).size : Int)) = true := decide_eq_true c2
        have c2b8 : decide (x4_1 < (12 : Int)) = true := c2b0
        clear c2
        by_cases c3 : 0 ≤ x4_1
        · rw [if_pos c3] at H
          have c3b0 : decide (0 ≤ x4_1) = true := decide_eq_true c3
          clear c3
          by_cases c5 : (bt (⟨#[123, 125, 40, 41, 58, 44, 59, 124, 38, 45, 46, 35]⟩ : ByteArray) x4_1) = a0
          · rw [if_pos c5] at H
            have c5b0 : ((bt (⟨#[123, 125, 40, 41, 58, 44, 59, 124, 38, 45, 46, 35]⟩ : ByteArray) x4_1) == a0) = true := beq_iff_eq.mpr c5
            have c5b1 : ((bt (⟨#[123, 125, 40, 41, 58, 44, 59, 124, 38, 45, 46, 35]⟩ : ByteArray) x4_1) != a0) = false := bne_eq_false_iff_eq.mpr c5
            clear c5
            obtain rfl := Option.some.inj H
            have p4 : 0 ≤ (x4_1 : Int) := of_decide_eq_true (by first | (with_reducible assumption) | assumption)
            have q4 : x4_1 < (12 : Int) := of_decide_eq_true (by first | (with_reducible assumption) | assumption)
            have hx4 := bt_at (⟨#[123, 125, 40, 41, 58, 44, 59, 124, 38, 45, 46, 35]⟩ : ByteArray) x4_1
            replace p4 := eq_true p4
            replace q4 := eq_true q4
            go_wp2
            go_ret
            exact ⟨by first | rfl | (simp; done) | (simp [*]; done), by repeat (first | exact Drawn0.refl _ | apply Drawn0.step)⟩
          · rw [if_neg c5] at H
            have c5b0 : ((bt (⟨#[123, 125, 40, 41, 58, 44, 59, 124, 38, 45, 46, 35]⟩ : ByteArray) x4_1) == a0) = false := beq_eq_false_iff_ne.mpr c5
            have c5b1 : ((bt (⟨#[123, 125, 40, 41, 58, 44, 59, 124, 38, 45, 46, 35]⟩ : ByteArray) x4_1) != a0) = true := bne_iff_ne.mpr c5
            have H' := Aside0.mk H
            clear H
            have p4 : 0 ≤ (x4_1 : Int) := of_decide_eq_true (by first | (with_reducible assumption) | assumption)
            have q4 : x4_1 < (12 : Int) := of_decide_eq_true (by first | (with_reducible assumption) | assumption)
            have hx4 := bt_at (⟨#[123, 125, 40, 41, 58, 44, 59, 124, 38, 45, 46, 35]⟩ : ByteArray) x4_1
            replace p4 := eq_true p4
            replace q4 := eq_true q4
            go_wp2
            go_roundg k1
            case measure => have := HK1.out; omega
            case rel => exact ⟨(wrap64 (x4_1 + 1)), (by first | rfl | (simp; done) | (simp [*]; done)), H', ⟨by have := HK1.out; omega⟩, by repeat (first | exact Drawn0.refl _ | apply Drawn0.step)⟩
        · rw [if_neg c3] at H
          exact absurd H (by simp)
      · rw [if_neg c2] at H
        have c2b0 : decide (x4_1 < ((⟨#[123, 125, 40, 41, 58, 44, 59, 124, 38, 45, 46, 35]⟩ : ByteArray).size : Int)) = false := decide_eq_false c2
        have c2b8 : decide (x4_1 < (12 : Int)) = false := c2b0
        clear c2
        obtain rfl := Option.some.inj H
        go_wp2
        go_ret
        exact ⟨by first | rfl | (simp; done) | (simp [*]; done), by repeat (first | exact Drawn0.refl _ | apply Drawn0.step)⟩

/-! ### doormanref02_in: function 95 -/
def doormanref02_in.f (a0 : ByteArray) (a1 : Int) (a2 : Int) (a3 : Int) : Option (Bool) := if a1 < (a0.size : Int) then (if 0 ≤ a1 then (if (bt a0 a1) ≥ a2 then (some (decide ((bt a0 a1) ≤ a3))) else (some false)) else (none)) else (some false)
set_option maxHeartbeats 8000000 in
set_option maxRecDepth 100000 in
theorem doormanref02_in.calls (a0 : ByteArray) (a1 : Int) (a2 : Int) (a3 : Int) (r : Bool) (w : World) (h : doormanref02_in.f a0 a1 a2 a3 = some r) :
    Calls Tryd.prog 95 #[.string a0, .int .i64 a1, .int .u8 a2, .int .u8 a3] w fun e w' => e = .returned (.bool r) ∧ Drawn0 w w' := by
  have H : (if a1 < (a0.size : Int) then (if 0 ≤ a1 then (if (bt a0 a1) ≥ a2 then (some (decide ((bt a0 a1) ≤ a3))) else (some false)) else (none)) else (some false)) = some r := h
  clear h
  by_cases c5 : a1 < (a0.size : Int)
  · rw [if_pos c5] at H
    have c5b0 : decide (a1 < (a0.size : Int)) = true := decide_eq_true c5
    clear c5
    by_cases c6 : 0 ≤ a1
    · rw [if_pos c6] at H
      have c6b0 : decide (0 ≤ a1) = true := decide_eq_true c6
      clear c6
      by_cases c8 : (bt a0 a1) ≥ a2
      · rw [if_pos c8] at H
        have c8b0 : decide (a2 ≤ (bt a0 a1)) = true := decide_eq_true c8
        clear c8
        obtain rfl := Option.some.inj H
        have p7 : 0 ≤ (a1 : Int) := of_decide_eq_true (by first | (with_reducible assumption) | assumption)
        have q7 : a1 < (a0.size : Int) := of_decide_eq_true (by first | (with_reducible assumption) | assumption)
        have hx7 := bt_at a0 a1
        replace p7 := eq_true p7
        replace q7 := eq_true q7
        have p9 : 0 ≤ (a1 : Int) := of_decide_eq_true (by first | (with_reducible assumption) | assumption)
        have q9 : a1 < (a0.size : Int) := of_decide_eq_true (by first | (with_reducible assumption) | assumption)
        have hx9 := bt_at a0 a1
        replace p9 := eq_true p9
        replace q9 := eq_true q9
        go_enter Tryd.func95, Tryd.ntmps95
        go_wp2
        go_ret
        exact ⟨by first | rfl | (simp; done) | (simp [*]; done), by repeat (first | exact Drawn0.refl _ | apply Drawn0.step)⟩
      · rw [if_neg c8] at H
        have c8b0 : decide (a2 ≤ (bt a0 a1)) = false := decide_eq_false c8
        clear c8
        obtain rfl := Option.some.inj H
        have p7 : 0 ≤ (a1 : Int) := of_decide_eq_true (by first | (with_reducible assumption) | assumption)
        have q7 : a1 < (a0.size : Int) := of_decide_eq_true (by first | (with_reducible assumption) | assumption)
        have hx7 := bt_at a0 a1
        replace p7 := eq_true p7
        replace q7 := eq_true q7
        go_enter Tryd.func95, Tryd.ntmps95
        go_wp2
        go_ret
        exact ⟨by first | rfl | (simp; done) | (simp [*]; done), by repeat (first | exact Drawn0.refl _ | apply Drawn0.step)⟩
    · rw [if_neg c6] at H
      exact absurd H (by simp)
  · rw [if_neg c5] at H
    have c5b0 : decide (a1 < (a0.size : Int)) = false := decide_eq_false c5
    clear c5
    obtain rfl := Option.some.inj H
    go_enter Tryd.func95, Tryd.ntmps95
    go_wp2
    go_ret
    exact ⟨by first | rfl | (simp; done) | (simp [*]; done), by repeat (first | exact Drawn0.refl _ | apply Drawn0.step)⟩

end Go.Proofs.YtkgnhghaiopgcaaDoor.Nq
