-- Written by a program of this session (wip/tools/drive.py) for this seat, partly by the kit's print.py; some functions by hand.
import Derived.Test.YtkgnhghaiopgcaaDoorYTwo0
import Derived.Test.YtkgnhghaiopgcaaDoorYTwo1
import Derived.Test.YtkgnhghaiopgcaaDoorPu
import Derived.Test.YtkgnhghaiopgcaaDoorPwd
import Derived.BigQuiet
import Derived.Deep.QuietTactic
namespace Go.Proofs.YtkgnhghaiopgcaaDoor.YTwo
open Go.RowKit Go.Proofs.YtkgnhghaiopgcaaDoorW.PrintWords Go.Proofs.YtkgnhghaiopgcaaDoorW.PrintLast Go.Proofs.YtkgnhghaiopgcaaDoorW.PrintMore
attribute [local go_sem] max2_int min2_int max_two min_two max_three min_three max_four min_four   -- for this text's walks alone
open Go.Proofs.YtkgnhghaiopgcaaDoor.Kx
set_option linter.unusedVariables false
set_option linter.unusedSimpArgs false

attribute [local go_sem high] eqA114
section
-- @GIVEN@ 32
/-! ### doormanlaw07_awake: function 32 -/
-- GIVEN doorman/doormanlaw07.awake rounds=0 making=1 keys=1
--import Derived.Test.YtkgnhghaiopgcaaDoorPu
def doormanlaw07_awake.f : Option Bool := some true
theorem doormanlaw07_awake.calls (r : Bool) (w : World) (hK : Aside0 (Aid.KeysIn w)) (h : doormanlaw07_awake.f = some r) :
    Calls Tryd.prog 32 #[] w fun e w' => e = .returned (.bool r) ∧ Below w.heap.size w w' := by
  obtain rfl := Option.some.inj h
  exact Pu.awake_calls w hK

end
section
-- @GIVEN@ 33
/-! ### parse_Parse: function 33 -/
-- GIVEN doorman/parse.Parse rounds=0 making=1 keys=1
--import Derived.Test.YtkgnhghaiopgcaaDoorPwd
open Go.Proofs.YtkgnhghaiopgcaaDoor.Gl Go.Proofs.YtkgnhghaiopgcaaDoor.GlFn Go.Proofs.YtkgnhghaiopgcaaDoor.Tk Go.Proofs.YtkgnhghaiopgcaaDoor.Ps Go.Proofs.YtkgnhghaiopgcaaDoor.Pw

/-- What package parse tells of a text, as the printed functions have it. -/
def parse_Parse.f (a0 : ByteArray) : Option (List S53 × Int × Int) :=
  match Ps.parse (L a0) with
  | none => none
  | some (.ok X) => some (X, 0, 0)
  | some (.error e) => some ([], e.1, (e.2 : Int))

theorem parse_Parse.calls (a0 : ByteArray) (r0 : List S53) (r1 r2 : Int) (w : World) (hK : Aside0 (Aid.KeysIn w)) (h : parse_Parse.f a0 = some (r0, r1, r2)) :
    Calls Tryd.prog 33 #[.string a0] w fun e w' => ∃ v0_ : Value, e = .returned (.tuple #[.agg #[v0_], .int .i64 r1, .int .i64 r2]) ∧ Kd.R k53 53 w' w.heap.size (fun _ => True) v0_ r0 ∧ Below w.heap.size w w' := by
  unfold parse_Parse.f at h
  split at h
  · exact absurd h (by simp)
  · rename_i X hX
    simp only [Option.some.injEq, Prod.mk.injEq] at h
    obtain ⟨rfl, rfl, rfl⟩ := h
    refine (Parse_calls a0 rfl hX w hK).mono ?_
    intro e w' he
    obtain ⟨v, rfl, hv, hb⟩ := he
    exact ⟨v, rfl, hv, hb⟩
  · rename_i er hX
    simp only [Option.some.injEq, Prod.mk.injEq] at h
    obtain ⟨rfl, rfl, rfl⟩ := h
    refine (Parse_calls a0 rfl hX w hK).mono ?_
    intro e w' he
    obtain ⟨rfl, hb⟩ := he
    exact ⟨_, rfl, Kd.R_nil _ _ _ _ _, hb⟩

end
/-! ### doormanref07_SameOps: function 73 -/
def doormanref07_SameOps.l0 : Nat → List (S114) → List (S114) → Int → Option (Bool)
  | 0, _, _, _ => none
  | k + 1, x0, x1, x5 => if x5 < (x0.length : Int) then (if 0 ≤ x5 then (if x5 < (x1.length : Int) then (if (!(((rd_T114 x0 x5).f0) == ((rd_T114 x1 x5).f0)) || (!((((rd_T114 x0 x5).f1).toList) == (((rd_T114 x1 x5).f1).toList)) || (!((((rd_T114 x0 x5).f2).toList) == (((rd_T114 x1 x5).f2).toList))))) = true then (some false) else (doormanref07_SameOps.l0 k x0 x1 (wrap64 (x5 + 1)))) else (none)) else (none)) else (some true)
def doormanref07_SameOps.f (k : Nat) (l0 : List (S114)) (l1 : List (S114)) : Option (Bool) := if (l0.length : Int) = (l1.length : Int) then (doormanref07_SameOps.l0 k l0 l1 0) else (some false)
theorem doormanref07_SameOps.mono_l : ∀ k, (∀ y0 y1 y2, LeO (doormanref07_SameOps.l0 k y0 y1 y2) (doormanref07_SameOps.l0 (k + 1) y0 y1 y2))
  | 0 => fun _ _ _ r h => by simp [doormanref07_SameOps.l0] at h
  | k + 1 => by
    have ih0 := doormanref07_SameOps.mono_l k
    · intro y0 y1 y2
      unfold doormanref07_SameOps.l0
      repeat' first
      | (with_reducible exact ih0 _ _ _)
      | (with_reducible exact LeO.refl _)
      | (with_reducible exact LeO.none _)
      | (with_reducible refine LeO.ite ?_ ?_)
      | (with_reducible refine LeO.bind ?_ (fun _ => ?_))
      | exact ih0 _ _ _
      | exact LeO.none _
      | refine LeO.ite ?_ ?_
      | refine LeO.bind ?_ (fun _ => ?_)
theorem doormanref07_SameOps.mono : ∀ a0 a1 k, LeO (doormanref07_SameOps.f k a0 a1) (doormanref07_SameOps.f (k + 1) a0 a1) := by
  intro a0 a1 k
  have ih0 := doormanref07_SameOps.mono_l k
  unfold doormanref07_SameOps.f
  repeat' first
      | (with_reducible exact ih0 _ _ _)
      | (with_reducible exact LeO.refl _)
      | (with_reducible exact LeO.none _)
      | (with_reducible refine LeO.ite ?_ ?_)
      | (with_reducible refine LeO.bind ?_ (fun _ => ?_))
      | exact ih0 _ _ _
      | exact LeO.none _
      | refine LeO.ite ?_ ?_
      | refine LeO.bind ?_ (fun _ => ?_)
set_option maxHeartbeats 8000000 in
set_option maxRecDepth 100000 in
theorem doormanref07_SameOps.calls (k : Nat) (A0 : Option Addr) (c0 : Nat) (l0 : List (S114)) (A1 : Option Addr) (c1 : Nat) (l1 : List (S114)) (r : Bool) (w : World) (hr0 : Kd.C k114 w A0 l0.length l0) (hc0 : l0.length ≤ c0) (hr1 : Kd.C k114 w A1 l1.length l1) (hc1 : l1.length ≤ c1) (h : doormanref07_SameOps.f k l0 l1 = some r) :
    Calls Tryd.prog 73 #[.slice A0 l0.length c0, .slice A1 l1.length c1] w fun e w' => e = .returned (.bool r) ∧ Drawn0 w w' := by
  have hu114 := Tryd.underlying114
  have HR0 := Aside0.mk hr0
  have HC0 := Aside0.mk hc0
  clear hr0 hc0
  have HR1 := Aside0.mk hr1
  have HC1 := Aside0.mk hc1
  clear hr1 hc1
  have H : (if (l0.length : Int) = (l1.length : Int) then (doormanref07_SameOps.l0 k l0 l1 0) else (some false)) = some r := h
  clear h
  by_cases c3 : (l0.length : Int) = (l1.length : Int)
  · rw [if_pos c3] at H
    have c3b0 : ((l0.length : Int) == (l1.length : Int)) = true := beq_iff_eq.mpr c3
    have c3b1 : ((l0.length : Int) != (l1.length : Int)) = false := bne_eq_false_iff_eq.mpr c3
    have c3b2 : (l0.length == l1.length) = true := by first | simpa using c3 | (simp at c3 ⊢; omega)
    clear c3
    have H' := Aside0.mk H
    clear H
    go_enter Tryd.func73, Tryd.ntmps73
    go_wp2
    repeat (go_quiet (fail); try go_wp2)
    go_loopg [5] k (fun kq v5 w' => ∃ (x5_1 : Int), v5 = .int .i64 x5_1 ∧ Aside0 (doormanref07_SameOps.l0 kq l0 l1 x5_1 = some r) ∧ Aside0 (kq ≤ k) ∧ Drawn0 w w')
    case atStart => exact ⟨(0), (by first | rfl | (simp; done) | (simp [*]; done)), H', ⟨Nat.le_refl _⟩, by repeat (first | exact Drawn0.refl _ | apply Drawn0.step)⟩
    case round =>
      clear H'
      try clear c1
      try clear p2
      try clear c3
      try clear c3b0
      try clear c3b1
      try clear c3b2
      obtain ⟨x5_1, rfl, HA, HK1, ⟨m1, rfl⟩⟩ := hrel
      cases gk with
      | zero => exact absurd HA.out (by simp [doormanref07_SameOps.l0])
      | succ k1 =>
        have H := HA.out
        clear HA
        simp only [doormanref07_SameOps.l0] at H
        by_cases c4 : x5_1 < (l0.length : Int)
        · rw [if_pos c4] at H
          have c4b0 : decide (x5_1 < (l0.length : Int)) = true := decide_eq_true c4
          clear c4
          by_cases c5 : 0 ≤ x5_1
          · rw [if_pos c5] at H
            have c5b0 : decide (0 ≤ x5_1) = true := decide_eq_true c5
            clear c5
            by_cases c6 : x5_1 < (l1.length : Int)
            · rw [if_pos c6] at H
              have c6b0 : decide (x5_1 < (l1.length : Int)) = true := decide_eq_true c6
              clear c6
              by_cases c7 : (!(((rd_T114 l0 x5_1).f0) == ((rd_T114 l1 x5_1).f0)) || (!((((rd_T114 l0 x5_1).f1).toList) == (((rd_T114 l1 x5_1).f1).toList)) || (!((((rd_T114 l0 x5_1).f2).toList) == (((rd_T114 l1 x5_1).f2).toList))))) = true
              · rw [if_pos c7] at H
                have c7b0 : (!(((rd_T114 l0 x5_1).f0) == ((rd_T114 l1 x5_1).f0)) || (!((((rd_T114 l0 x5_1).f1).toList) == (((rd_T114 l1 x5_1).f1).toList)) || (!((((rd_T114 l0 x5_1).f2).toList) == (((rd_T114 l1 x5_1).f2).toList))))) = true := c7
                clear c7
                obtain rfl := Option.some.inj H
                have p101 : 0 ≤ (x5_1 : Int) := of_decide_eq_true (by first | (with_reducible assumption) | assumption)
                have q101 : x5_1 < (l0.length : Int) := of_decide_eq_true (by first | (with_reducible assumption) | assumption)
                obtain ⟨ad101, e101, hx101_0, hx101_1, hx101_2⟩ := at_T114 HR0.out x5_1 p101 q101
                cases e101
                replace p101 := eq_true p101
                replace q101 := eq_true q101
                have p102 : 0 ≤ (x5_1 : Int) := of_decide_eq_true (by first | (with_reducible assumption) | assumption)
                have q102 : x5_1 < (l1.length : Int) := of_decide_eq_true (by first | (with_reducible assumption) | assumption)
                obtain ⟨ad102, e102, hx102_0, hx102_1, hx102_2⟩ := at_T114 HR1.out x5_1 p102 q102
                cases e102
                replace p102 := eq_true p102
                replace q102 := eq_true q102
                go_wp2
                repeat (go_quiet (fail); try go_wp2)
                go_ret
                exact ⟨by first | rfl | (simp; done) | (simp [*]; done), by repeat (first | exact Drawn0.refl _ | apply Drawn0.step)⟩
              · rw [if_neg c7] at H
                have c7b0 : (!(((rd_T114 l0 x5_1).f0) == ((rd_T114 l1 x5_1).f0)) || (!((((rd_T114 l0 x5_1).f1).toList) == (((rd_T114 l1 x5_1).f1).toList)) || (!((((rd_T114 l0 x5_1).f2).toList) == (((rd_T114 l1 x5_1).f2).toList))))) = false := by simpa using c7
                clear c7
                have H' := Aside0.mk H
                clear H
                have p101 : 0 ≤ (x5_1 : Int) := of_decide_eq_true (by first | (with_reducible assumption) | assumption)
                have q101 : x5_1 < (l0.length : Int) := of_decide_eq_true (by first | (with_reducible assumption) | assumption)
                obtain ⟨ad101, e101, hx101_0, hx101_1, hx101_2⟩ := at_T114 HR0.out x5_1 p101 q101
                cases e101
                replace p101 := eq_true p101
                replace q101 := eq_true q101
                have p102 : 0 ≤ (x5_1 : Int) := of_decide_eq_true (by first | (with_reducible assumption) | assumption)
                have q102 : x5_1 < (l1.length : Int) := of_decide_eq_true (by first | (with_reducible assumption) | assumption)
                obtain ⟨ad102, e102, hx102_0, hx102_1, hx102_2⟩ := at_T114 HR1.out x5_1 p102 q102
                cases e102
                replace p102 := eq_true p102
                replace q102 := eq_true q102
                go_wp2
                repeat (go_quiet (fail); try go_wp2)
                go_roundg k1
                case measure => have := HK1.out; omega
                case rel => exact ⟨(wrap64 (x5_1 + 1)), (by first | rfl | (simp; done) | (simp [*]; done)), H', ⟨by have := HK1.out; omega⟩, by repeat (first | exact Drawn0.refl _ | apply Drawn0.step)⟩
            · rw [if_neg c6] at H
              exact absurd H (by simp)
          · rw [if_neg c5] at H
            exact absurd H (by simp)
        · rw [if_neg c4] at H
          have c4b0 : decide (x5_1 < (l0.length : Int)) = false := decide_eq_false c4
          clear c4
          obtain rfl := Option.some.inj H
          go_wp2
          repeat (go_quiet (fail); try go_wp2)
          go_ret
          exact ⟨by first | rfl | (simp; done) | (simp [*]; done), by repeat (first | exact Drawn0.refl _ | apply Drawn0.step)⟩
  · rw [if_neg c3] at H
    have c3b0 : ((l0.length : Int) == (l1.length : Int)) = false := beq_eq_false_iff_ne.mpr c3
    have c3b1 : ((l0.length : Int) != (l1.length : Int)) = true := bne_iff_ne.mpr c3
    have c3b2 : (l0.length == l1.length) = false := by first | simpa using c3 | (simp at c3 ⊢; omega)
    obtain rfl := Option.some.inj H
    go_enter Tryd.func73, Tryd.ntmps73
    go_wp2
    repeat (go_quiet (fail); try go_wp2)
    go_ret
    exact ⟨by first | rfl | (simp; done) | (simp [*]; done), by repeat (first | exact Drawn0.refl _ | apply Drawn0.step)⟩

section
-- @GIVEN@ 35
/-! ### doormanref07_Same: function 35 -/
-- GIVEN doorman/doormanref07.Same rounds=0 making=1 reach=doorman/doormanref07.SameOps
--import Derived.BigQuiet
--import Derived.Deep.QuietTactic

theorem eqA113 (d : Nat) (w : World) (x0 y0 : ByteArray) (x1 y1 : ByteArray) :
    (Op.equalIn (d + 2) 113 (.agg #[.string x0, .string x1]) (.agg #[.string y0, .string y1])).run Tryd.prog w = .ok (x0.toList == y0.toList && (x1.toList == y1.toList)) w := by
  refine eqA_of Tryd.underlying113 (by kernel_rfl) ?_
  refine eqf_cons (by rfl) (by go_simp; rfl) (by go_simp; rfl) (by go_simp) ?_
  exact eqf_last (by rfl) (by go_simp; rfl) (by go_simp; rfl) (by go_simp)
attribute [local go_sem high] eqA113
def s113 (a b : S113) : Bool := decide (a.f0 = b.f0) && decide (a.f1 = b.f1)
def s114 (a b : S114) : Bool := decide (a.f0 = b.f0) && (decide (a.f1 = b.f1) && decide (a.f2 = b.f2))
def sL {α : Type} (f : α → α → Bool) : List α → List α → Bool
  | [], [] => true
  | a :: r, b :: s => f a b && sL f r s
  | _, _ => false
def s78 (a b : S78) : Bool := decide (a.f0 = b.f0) && (decide (a.f1 = b.f1) && (decide (a.f2 = b.f2) && (decide (a.f3 = b.f3) && (sL s113 a.f4 b.f4 && sL s114 a.f5 b.f5))))
def s74 (a b : S74) : Bool := decide (a.f0 = b.f0) && sL s78 a.f1 b.f1
theorem sL_iff {α : Type} {f : α → α → Bool} (h : ∀ a b, f a b = true ↔ a = b) : ∀ x y : List α, sL f x y = true ↔ x = y
  | [], [] => by simp [sL]
  | [], b :: s => by simp [sL]
  | a :: r, [] => by simp [sL]
  | a :: r, b :: s => by rw [sL, Bool.and_eq_true, h, sL_iff h r s, List.cons.injEq]
theorem s113_iff (a b : S113) : s113 a b = true ↔ a = b := by
  cases a; cases b; simp [s113]
theorem s114_iff (a b : S114) : s114 a b = true ↔ a = b := by
  cases a; cases b; simp [s114]
theorem s78_iff (a b : S78) : s78 a b = true ↔ a = b := by
  cases a; cases b; simp [s78, sL_iff s113_iff, sL_iff s114_iff]
theorem s74_iff (a b : S74) : s74 a b = true ↔ a = b := by
  cases a; cases b; simp [s74, sL_iff s78_iff]
theorem s114_refl : ∀ x : List S114, sL s114 x x = true := fun x => (sL_iff s114_iff x x).2 rfl
theorem sameOps_l (x : List S114) (hx : x.length ≤ 9223372036854775807) : ∀ (d i : Nat), i + d = x.length → ∀ k, d < k → doormanref07_SameOps.l0 k x x (i : Int) = some true
  | 0, i, h, k, hk => by
    obtain ⟨k, rfl⟩ : ∃ j, k = j + 1 := ⟨k - 1, by omega⟩
    rw [doormanref07_SameOps.l0, if_neg (by omega)]
  | d + 1, i, h, k, hk => by
    obtain ⟨k, rfl⟩ : ∃ j, k = j + 1 := ⟨k - 1, by omega⟩
    have hw : wrap64 ((i : Int) + 1) = ((i + 1 : Nat) : Int) := by unfold wrap64; omega
    rw [doormanref07_SameOps.l0, if_pos (by omega), if_pos (by omega), if_pos (by omega), if_neg (by simp), hw]
    exact sameOps_l x hx d (i + 1) (by omega) k (by omega)
theorem sameOps_f (x : List S114) (hx : x.length ≤ 9223372036854775807) : doormanref07_SameOps.f (x.length + 1) x x = some true := by
  unfold doormanref07_SameOps.f
  rw [if_pos rfl]
  exact sameOps_l x hx x.length 0 (by omega) _ (by omega)
/-- Rows that are the same: else nothing is told here. -/
def doormanref07_Same.f (a b : List S74) : Option Bool := if sL s74 a b = true then some true else none
theorem doormanref07_Same.refl (a : List S74) : doormanref07_Same.f a a = some true := by
  unfold doormanref07_Same.f; rw [if_pos ((sL_iff s74_iff a a).2 rfl)]
set_option maxHeartbeats 8000000 in
set_option maxRecDepth 100000 in
theorem doormanref07_Same.same (X : List S74) (A0 : Option Addr) (c0 : Nat) (A1 : Option Addr) (c1 : Nat) (w : World) (hr0 : Kd.C k74 w A0 X.length X) (hr1 : Kd.C k74 w A1 X.length X) :
    Calls Tryd.prog 35 #[.slice A0 X.length c0, .slice A1 X.length c1] w fun e w' => e = .returned (.bool true) ∧ Below w.heap.size w w' := by
  have HC0 := Aside0.mk hr0
  have HC1 := Aside0.mk hr1
  have HSZX : Aside0 (X.length ≤ 9223372036854775807) := ⟨Kd.C_max hr0⟩
  clear hr0 hr1
  go_enter Tryd.func35, Tryd.ntmps35
  go_wp2
  go_loopg [5] (X.length + 1) (fun g v5 wx => ∃ i : Nat, v5 = .int .i64 i ∧ i + g = X.length + 1 ∧ i ≤ X.length ∧ Aside0 (Below w.heap.size w wx))
  case atStart => exact ⟨0, rfl, by omega, Nat.zero_le _, ⟨Below.refl _ _⟩⟩
  case round =>
    obtain ⟨i, rfl, hi, hil, HBx⟩ := hrel
    rename World => wx
    cases gk with
    | zero => omega
    | succ g1 =>
      by_cases hlt : i < X.length
      · have e1 : decide ((i : Int) < (X.length : Int)) = true := decide_eq_true (by omega)
        have e2 : ((i : Int) < (X.length : Int)) = True := eq_true (by omega)
        have e3 : decide (i < X.length) = true := decide_eq_true hlt
        have e4 : (0 ≤ (i : Int)) = True := eq_true (by omega)
        obtain ⟨T, hT⟩ : ∃ T, rd_T74 X (i : Int) = T := ⟨_, rfl⟩
        have hCx0 := Kd.C_below HC0.out HBx.out
        have hCx1 := Kd.C_below HC1.out HBx.out
        obtain ⟨ad, P, cp, rfl, t0, t1, t2, hP⟩ := at_T74 hCx0 (i : Int) (by omega) (by omega)
        obtain ⟨ae, Q, cq, rfl, u0, u1, u2, hQ⟩ := at_T74 hCx1 (i : Int) (by omega) (by omega)
        rw [hT] at t0 t1 t2 u0 u1 u2 hP hQ
        rw [Int.toNat_natCast] at t0 t1 u0 u1
        have HP := Aside0.mk hP
        have HQ := Aside0.mk hQ
        have HSZT : Aside0 (T.f1.length ≤ 9223372036854775807) := ⟨Kd.C_max hP⟩
        have HI := Aside0.mk (And.intro hi (And.intro hil hlt))
        have HT := Aside0.mk hT
        clear hP hQ hCx0 hCx1 hi hil hT t2 u2
        go_wp2_with fail
        go_quiet (fail)
        have HBq : Aside0 (Below w.heap.size w (wx.drewN nq)) := ⟨pw_below_drewN HBx.out nq⟩
        obtain ⟨wq, hwq⟩ : ∃ wq, wx.drewN nq = wq := ⟨_, rfl⟩
        rw [hwq] at HBq ⊢
        clear hwq t0 t1 u0 u1 HBx HP HQ
        go_wp2
        go_loopg [6] (T.f1.length + 1) (fun g v6 wy => ∃ j : Nat, v6 = .int .i64 j ∧ j + g = T.f1.length + 1 ∧ j ≤ T.f1.length ∧ Aside0 (Below w.heap.size w wy))
        case atStart => exact ⟨0, rfl, by omega, Nat.zero_le _, HBq⟩
        case round =>
          clear HBq
          obtain ⟨j, rfl, hj, hjl, HBy⟩ := hrel
          rename World => wy
          cases gk with
          | zero => omega
          | succ g2 =>
            obtain ⟨ad', P, cp, ea, t0, t1, t2, hP⟩ := at_T74 (Kd.C_below HC0.out HBy.out) (i : Int) (by omega) (by omega)
            obtain ⟨ae', Q, cq, eb, u0, u1, u2, hQ⟩ := at_T74 (Kd.C_below HC1.out HBy.out) (i : Int) (by omega) (by omega)
            obtain rfl : ad = ad' := by injection ea
            obtain rfl : ae = ae' := by injection eb
            rw [HT.out] at t0 t1 t2 u0 u1 u2 hP hQ
            rw [Int.toNat_natCast] at t0 t1 u0 u1
            have HP := Aside0.mk hP
            have HQ := Aside0.mk hQ
            clear hP hQ ea eb t2 u2 t0 u0
            by_cases hjt : j < T.f1.length
            · have f1 : decide ((j : Int) < (T.f1.length : Int)) = true := decide_eq_true (by omega)
              have f2 : ((j : Int) < (T.f1.length : Int)) = True := eq_true (by omega)
              have f3 : decide (j < T.f1.length) = true := decide_eq_true hjt
              have f4 : (0 ≤ (j : Int)) = True := eq_true (by omega)
              obtain ⟨R, hR⟩ : ∃ R, rd_T78 T.f1 (j : Int) = R := ⟨_, rfl⟩
              obtain ⟨ad1, P2, k2, P3, k3, rfl, r0, r1, r2, r3, r4, r5, r6, hP2, r7, hP3⟩ := at_T78 HP.out (j : Int) (by omega) (by omega)
              obtain ⟨ae1, Q2, m2, Q3, m3, rfl, s0, s1, s2, s3, s4, s5, s6, hQ2, s7, hQ3⟩ := at_T78 HQ.out (j : Int) (by omega) (by omega)
              rw [hR] at r0 r1 r2 r3 r4 r5 r6 r7 hP2 hP3 s0 s1 s2 s3 s4 s5 s6 s7 hQ2 hQ3
              rw [Int.toNat_natCast] at r0 r1 r2 r3 r4 r5 s0 s1 s2 s3 s4 s5
              have HP2 := Aside0.mk hP2
              have HP3 := Aside0.mk hP3
              have HQ2 := Aside0.mk hQ2
              have HQ3 := Aside0.mk hQ3
              have HN4 : Aside0 (R.f4.length ≤ 9223372036854775807) := ⟨Kd.C_max hP2⟩
              have HN5 : Aside0 (R.f5.length ≤ 9223372036854775807) := ⟨Kd.C_max hP3⟩
              have HLE := Aside0.mk (And.intro r6 (And.intro r7 (And.intro s6 s7)))
              have HJ := Aside0.mk (And.intro hj (And.intro hjl hjt))
              have HS := Aside0.mk (And.intro s0 (And.intro s1 (And.intro s2 (And.intro s3 (And.intro s4 s5)))))
              have HU := Aside0.mk u1
              have HQ1 := HQ
              clear hR hP2 hP3 hQ2 hQ3 r6 r7 s6 s7 hj hjl s0 s1 s2 s3 s4 s5 u1 HQ
              go_upto_region 12 with (fail)
              have HXb : Aside0 ((wy.alloc (.cells #[.string R.f0, .string R.f1, .string R.f2, .string R.f3, .slice P2 R.f4.length k2, .slice P3 R.f5.length k3] 78)).heap[wy.heap.size]? = some (.cells #[.string R.f0, .string R.f1, .string R.f2, .string R.f3, .slice P2 R.f4.length k2, .slice P3 R.f5.length k3] 78 (0, 0))) := ⟨(Go.MapKept.heap_alloc wy _).1⟩
              have hba : Below wy.heap.size wy (wy.alloc (.cells #[.string R.f0, .string R.f1, .string R.f2, .string R.f3, .slice P2 R.f4.length k2, .slice P3 R.f5.length k3] 78)) := below_alloc (Below.refl _ _) _
              obtain ⟨wz, hwz⟩ : ∃ wz, wy.alloc (.cells #[.string R.f0, .string R.f1, .string R.f2, .string R.f3, .slice P2 R.f4.length k2, .slice P3 R.f5.length k3] 78) = wz := ⟨_, rfl⟩
              rw [hwz] at HXb hba ⊢
              obtain ⟨x1, hx1⟩ : ∃ x1, wy.heap.size = x1 := ⟨_, rfl⟩
              have HBz : Aside0 (Below w.heap.size w wz) := ⟨HBy.out.trans (hba.mono HBy.out.size)⟩
              have HP2z := Aside0.mk (Kd.C_below HP2.out hba)
              have HP3z := Aside0.mk (Kd.C_below HP3.out hba)
              have HQ2z := Aside0.mk (Kd.C_below HQ2.out hba)
              have HQ3z := Aside0.mk (Kd.C_below HQ3.out hba)
              obtain ⟨y0, y1, y2, y3, y4, y5⟩ := HS.out
              have s0 := pw_cell_below hba y0
              have s1 := pw_cell_below hba y1
              have s2 := pw_cell_below hba y2
              have s3 := pw_cell_below hba y3
              have s4 := pw_cell_below hba y4
              have s5 := pw_cell_below hba y5
              have u1 := pw_cell_below hba HU.out
              rw [hx1] at HXb ⊢
              clear y0 y1 y2 y3 y4 y5 hba hwz r0 r1 r2 r3 r4 r5 t1 HS HU HP2 HP3 HQ2 HQ3 HP HQ1 hx1
              go_upto_region 13 with (fail)
              have HYb : Aside0 ((wz.alloc (.cells #[.string R.f0, .string R.f1, .string R.f2, .string R.f3, .slice Q2 R.f4.length m2, .slice Q3 R.f5.length m3] 78)).heap[wz.heap.size]? = some (.cells #[.string R.f0, .string R.f1, .string R.f2, .string R.f3, .slice Q2 R.f4.length m2, .slice Q3 R.f5.length m3] 78 (0, 0))) := ⟨(Go.MapKept.heap_alloc wz _).1⟩
              have HXc := Aside0.mk (blk_alloc HXb.out (.cells #[.string R.f0, .string R.f1, .string R.f2, .string R.f3, .slice Q2 R.f4.length m2, .slice Q3 R.f5.length m3] 78))
              have hba : Below wz.heap.size wz (wz.alloc (.cells #[.string R.f0, .string R.f1, .string R.f2, .string R.f3, .slice Q2 R.f4.length m2, .slice Q3 R.f5.length m3] 78)) := below_alloc (Below.refl _ _) _
              obtain ⟨wb, hwb⟩ : ∃ wb, wz.alloc (.cells #[.string R.f0, .string R.f1, .string R.f2, .string R.f3, .slice Q2 R.f4.length m2, .slice Q3 R.f5.length m3] 78) = wb := ⟨_, rfl⟩
              rw [hwb] at HYb HXc hba ⊢
              have HBb : Aside0 (Below w.heap.size w wb) := ⟨HBz.out.trans (hba.mono HBz.out.size)⟩
              have HP2b := Aside0.mk (Kd.C_below HP2z.out hba)
              have HP3b := Aside0.mk (Kd.C_below HP3z.out hba)
              have HQ2b := Aside0.mk (Kd.C_below HQ2z.out hba)
              have HQ3b := Aside0.mk (Kd.C_below HQ3z.out hba)
              obtain ⟨x2, hx2⟩ : ∃ x2, wz.heap.size = x2 := ⟨_, rfl⟩
              rw [hx2] at HYb ⊢
              clear hba hwb hx2 s0 s1 s2 s3 s4 s5 u1 HP2z HP3z HQ2z HQ3z HXb HBz
              have v5 := blk_cell HXc.out 5
              have z5 := blk_cell HYb.out 5
              go_wp2_with fail
              refine (doormanref07_SameOps.calls (R.f5.length + 1) P3 k3 R.f5 Q3 m3 R.f5 true _ HP3b.out HLE.out.2.1 HQ3b.out HLE.out.2.2.2 (sameOps_f _ HN5.out)).mono ?_
              rintro e wc ⟨rfl, hd⟩
              have hbd := Drawn0.below hd
              have HXd : Aside0 (wc.heap[x1]? = some (.cells #[.string R.f0, .string R.f1, .string R.f2, .string R.f3, .slice P2 R.f4.length k2, .slice P3 R.f5.length k3] 78 (0, 0))) := ⟨(hbd.block x1 (blk_lt HXc.out)).trans HXc.out⟩
              have HYd : Aside0 (wc.heap[x2]? = some (.cells #[.string R.f0, .string R.f1, .string R.f2, .string R.f3, .slice Q2 R.f4.length m2, .slice Q3 R.f5.length m3] 78 (0, 0))) := ⟨(hbd.block x2 (blk_lt HYb.out)).trans HYb.out⟩
              have HBd : Aside0 (Below w.heap.size w wc) := ⟨HBb.out.trans (hbd.mono HBb.out.size)⟩
              have HP2d := Aside0.mk (Kd.C_below HP2b.out hbd)
              have HQ2d := Aside0.mk (Kd.C_below HQ2b.out hbd)
              clear hd hbd HXc HYb HBb HP2b HP3b HQ2b HQ3b v5 z5
              have v0 := blk_cell HXd.out 0
              have v1 := blk_cell HXd.out 1
              have v2 := blk_cell HXd.out 2
              have v3 := blk_cell HXd.out 3
              have v4 := blk_cell HXd.out 4
              have z0 := blk_cell HYd.out 0
              have z1 := blk_cell HYd.out 1
              have z2 := blk_cell HYd.out 2
              have z3 := blk_cell HYd.out 3
              have z4 := blk_cell HYd.out 4
              go_wp2
              clear v0 v1 v2 v3 v4 z0 z1 z2 z3 z4
              go_loopg [10] (R.f4.length + 1) (fun g v10 wu => ∃ m : Nat, v10 = .int .i64 m ∧ m + g = R.f4.length + 1 ∧ m ≤ R.f4.length ∧ Aside0 (Below wc.heap.size wc wu))
              case atStart => exact ⟨0, rfl, by omega, Nat.zero_le _, ⟨Below.refl _ _⟩⟩
              case round =>
                obtain ⟨m, rfl, hm, hml, HBu⟩ := hrel
                rename World => wu
                cases gk with
                | zero => omega
                | succ g3 =>
                  have HXu : Aside0 (wu.heap[x1]? = some (.cells #[.string R.f0, .string R.f1, .string R.f2, .string R.f3, .slice P2 R.f4.length k2, .slice P3 R.f5.length k3] 78 (0, 0))) := ⟨(HBu.out.block x1 (blk_lt HXd.out)).trans HXd.out⟩
                  have HYu : Aside0 (wu.heap[x2]? = some (.cells #[.string R.f0, .string R.f1, .string R.f2, .string R.f3, .slice Q2 R.f4.length m2, .slice Q3 R.f5.length m3] 78 (0, 0))) := ⟨(HBu.out.block x2 (blk_lt HYd.out)).trans HYd.out⟩
                  have v4 := blk_cell HXu.out 4
                  have z4 := blk_cell HYu.out 4
                  by_cases hmt : m < R.f4.length
                  · have h1 : decide ((m : Int) < (R.f4.length : Int)) = true := decide_eq_true (by omega)
                    have h2 : ((m : Int) < (R.f4.length : Int)) = True := eq_true (by omega)
                    have h3 : decide (m < R.f4.length) = true := decide_eq_true hmt
                    have h4 : (0 ≤ (m : Int)) = True := eq_true (by omega)
                    obtain ⟨ad2, rfl, p0, p1⟩ := at_T113 (Kd.C_below HP2d.out HBu.out) (m : Int) (by omega) (by omega)
                    obtain ⟨ae2, rfl, q0, q1⟩ := at_T113 (Kd.C_below HQ2d.out HBu.out) (m : Int) (by omega) (by omega)
                    obtain ⟨U, hU⟩ : ∃ U, rd_T113 R.f4 (m : Int) = U := ⟨_, rfl⟩
                    rw [hU] at p0 p1 q0 q1
                    rw [Int.toNat_natCast] at p0 p1 q0 q1
                    have hw : IntKind.i64.wrap ((m : Int) + 1) = ((m + 1 : Nat) : Int) := by have := HN4.out; rw [IntKind.wrap_i64]; omega
                    have HM := Aside0.mk (And.intro hm hmt)
                    clear hU hmt hm hml
                    go_wp2_with fail
                    go_quiet (fail)
                    go_wp2
                    go_roundg g3
                    case measure => omega
                    case rel => exact ⟨m + 1, by simp, by have := HM.out; omega, by have := HM.out; omega, ⟨pw_below_drewN HBu.out _⟩⟩
                  · have h1 : decide ((m : Int) < (R.f4.length : Int)) = false := decide_eq_false (by omega)
                    have h2 : ((m : Int) < (R.f4.length : Int)) = False := eq_false (by omega)
                    have h3 : decide (m < R.f4.length) = false := decide_eq_false hmt
                    have hw : IntKind.i64.wrap ((j : Int) + 1) = ((j + 1 : Nat) : Int) := by have := HSZT.out; have := HJ.out; rw [IntKind.wrap_i64]; omega
                    clear hmt hm hml
                    go_wp2
                    go_roundg g2
                    case measure => omega
                    case rel => exact ⟨j + 1, by simp, by have := HJ.out; omega, HJ.out.2.2, ⟨HBd.out.trans (HBu.out.mono HBd.out.size)⟩⟩
            · have f1 : decide ((j : Int) < (T.f1.length : Int)) = false := decide_eq_false (by omega)
              have f2 : ((j : Int) < (T.f1.length : Int)) = False := eq_false (by omega)
              have f3 : decide (j < T.f1.length) = false := decide_eq_false hjt
              clear hjt hj hjl
              have hw : IntKind.i64.wrap ((i : Int) + 1) = ((i + 1 : Nat) : Int) := by have := HSZX.out; rw [IntKind.wrap_i64]; omega
              go_wp2
              go_roundg g1
              case measure => omega
              case rel => exact ⟨i + 1, by simp, by have := HI.out; omega, hlt, HBy⟩
      · have e1 : decide ((i : Int) < (X.length : Int)) = false := decide_eq_false (by omega)
        have e2 : ((i : Int) < (X.length : Int)) = False := eq_false (by omega)
        have e3 : decide (i < X.length) = false := decide_eq_false hlt
        clear hlt hi
        go_wp2
        go_ret
        exact ⟨rfl, HBx.out⟩
theorem doormanref07_Same.calls (A0 : Option Addr) (c0 : Nat) (l0 : List S74) (A1 : Option Addr) (c1 : Nat) (l1 : List S74) (r : Bool) (w : World) (hr0 : Kd.C k74 w A0 l0.length l0) (hc0 : l0.length ≤ c0) (hr1 : Kd.C k74 w A1 l1.length l1) (hc1 : l1.length ≤ c1) (h : doormanref07_Same.f l0 l1 = some r) :
    Calls Tryd.prog 35 #[.slice A0 l0.length c0, .slice A1 l1.length c1] w fun e w' => e = .returned (.bool r) ∧ Below w.heap.size w w' := by
  unfold doormanref07_Same.f at h
  split at h
  · rename_i he
    obtain rfl := (sL_iff s74_iff _ _).1 he
    obtain rfl := Option.some.inj h
    exact doormanref07_Same.same l0 A0 c0 A1 c1 w hr0 hr1
  · exact absurd h (by simp)

end
end Go.Proofs.YtkgnhghaiopgcaaDoor.YTwo
