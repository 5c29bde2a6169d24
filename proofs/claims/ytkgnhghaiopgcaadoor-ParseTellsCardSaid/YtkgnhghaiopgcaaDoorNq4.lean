-- Written by a program of this session (wip/tools/drive.py) for this seat, partly by the kit's print.py; some functions by hand.
import Derived.Test.YtkgnhghaiopgcaaDoorX0
import Derived.Test.YtkgnhghaiopgcaaDoorNq1
import Derived.Test.YtkgnhghaiopgcaaDoorNq2
import Derived.Test.YtkgnhghaiopgcaaDoorNq3
namespace Go.Proofs.YtkgnhghaiopgcaaDoor.Nq
open Go.RowKit Go.Proofs.YtkgnhghaiopgcaaDoorW.PrintWords Go.Proofs.YtkgnhghaiopgcaaDoorW.PrintLast
open Go.Proofs.YtkgnhghaiopgcaaDoor.X
set_option linter.unusedVariables false
set_option linter.unusedSimpArgs false

/-! ### doormanref06_All: function 26 -/
mutual
def doormanref06_All.l0 : Nat → ByteArray → Int → Option ((List (S33)) × Int × Int)
  | 0, _, _ => none
  | k + 1, x0, x5 => if x5 < (x0.size : Int) then ((doormanref02_Long.f k x0 x5).bind fun t110 => (if t110 = 0 then (some (([] : List (S33)), 11, x5)) else ((doormanref02_Step.f k x0 x5).bind fun t111 => (doormanref06_All.l0 k x0 t111)))) else (doormanref06_All.l1 k x0 ([] : List (S33)) 0)
def doormanref06_All.l1 : Nat → ByteArray → List (S33) → Int → Option ((List (S33)) × Int × Int)
  | 0, _, _, _ => none
  | k + 1, x0, x6, x7 => if x7 < (x0.size : Int) then (if 0 ≤ x7 then ((doormanref06_Sign.f k (bt x0 x7)).bind fun t115 => ((doormanref02_May.f k x0 x7).bind fun t116 => (if (bt x0 x7) = 32 then (doormanref06_All.j2 k x0 x6 x7 (bt x0 x7) t115 t116 true) else (if (bt x0 x7) = 9 then (doormanref06_All.j2 k x0 x6 x7 (bt x0 x7) t115 t116 true) else (doormanref06_All.j2 k x0 x6 x7 (bt x0 x7) t115 t116 ((bt x0 x7) == 10)))))) else (none)) else (if x6.length < 4398046511104 then (some ((x6 ++ [(⟨3, (⟨#[]⟩ : ByteArray), (x0.size : Int)⟩ : S33)]), 0, 0)) else (none))
def doormanref06_All.j2 : Nat → ByteArray → List (S33) → Int → Int → Bool → Bool → Bool → Option ((List (S33)) × Int × Int)
  | 0, _, _, _, _, _, _, _ => none
  | k + 1, x0, x6, x7, x8, x9, x10, x41 => if x41 = true then (doormanref06_All.l1 k x0 x6 (wrap64 (x7 + 1))) else (if x9 = true then (if 0 ≤ x7 then (if x7 ≤ (wrap64 (x7 + 1)) then (if (wrap64 (x7 + 1)) ≤ (x0.size : Int) then (if x6.length < 4398046511104 then (doormanref06_All.l1 k x0 (x6 ++ [(⟨2, x0.extract (x7 : Int).toNat ((wrap64 (x7 + 1)) : Int).toNat, x7⟩ : S33)]) (wrap64 (x7 + 1))) else (none)) else (none)) else (none)) else (none)) else (if x8 = 47 then (if (wrap64 (x7 + 1)) < (x0.size : Int) then (if 0 ≤ (wrap64 (x7 + 1)) then (doormanref06_All.j3 k x0 x6 x7 x10 ((bt x0 (wrap64 (x7 + 1))) == 47)) else (none)) else (doormanref06_All.j3 k x0 x6 x7 x10 false)) else (doormanref06_All.j3 k x0 x6 x7 x10 false)))
def doormanref06_All.j3 : Nat → ByteArray → List (S33) → Int → Bool → Bool → Option ((List (S33)) × Int × Int)
  | 0, _, _, _, _, _ => none
  | k + 1, x0, x6, x7, x10, x68 => if x68 = true then (doormanref06_All.l2 k x0 x6 x7) else (if x10 = true then (doormanref06_All.l3 k x0 x6 x7 x7 0) else (some (([] : List (S33)), 30, x7)))
def doormanref06_All.l2 : Nat → ByteArray → List (S33) → Int → Option ((List (S33)) × Int × Int)
  | 0, _, _, _ => none
  | k + 1, x0, x6, x7 => if x7 < (x0.size : Int) then (if 0 ≤ x7 then (if (bt x0 x7) = 10 then (doormanref06_All.l1 k x0 x6 x7) else (doormanref06_All.l2 k x0 x6 (wrap64 (x7 + 1)))) else (none)) else (doormanref06_All.l1 k x0 x6 x7)
def doormanref06_All.l3 : Nat → ByteArray → List (S33) → Int → Int → Int → Option ((List (S33)) × Int × Int)
  | 0, _, _, _, _, _ => none
  | k + 1, x0, x6, x7, x11, x12 => if x11 < (x0.size : Int) then ((doormanref02_May.f k x0 x11).bind fun t120 => (if t120 = true then ((doormanref02_Step.f k x0 x11).bind fun t121 => (doormanref06_All.l3 k x0 x6 x7 t121 (wrap64 (x12 + 1)))) else (if x12 > 24 then (some (([] : List (S33)), 31, x7)) else (if 0 ≤ x7 then (if x7 ≤ x11 then (if x11 ≤ (x0.size : Int) then (if x6.length < 4398046511104 then (doormanref06_All.l1 k x0 (x6 ++ [(⟨1, x0.extract (x7 : Int).toNat (x11 : Int).toNat, x7⟩ : S33)]) x11) else (none)) else (none)) else (none)) else (none))))) else (if x12 > 24 then (some (([] : List (S33)), 31, x7)) else (if 0 ≤ x7 then (if x7 ≤ x11 then (if x11 ≤ (x0.size : Int) then (if x6.length < 4398046511104 then (doormanref06_All.l1 k x0 (x6 ++ [(⟨1, x0.extract (x7 : Int).toNat (x11 : Int).toNat, x7⟩ : S33)]) x11) else (none)) else (none)) else (none)) else (none)))
end
def doormanref06_All.f (k : Nat) (a0 : ByteArray) : Option ((List (S33)) × Int × Int) := if (a0.size : Int) > 2048 then (some (([] : List (S33)), 13, 0)) else (doormanref06_All.l0 k a0 0)
theorem doormanref06_All.mono_l : ∀ k, (∀ y0 y1, LeO (doormanref06_All.l0 k y0 y1) (doormanref06_All.l0 (k + 1) y0 y1)) ∧ (∀ y0 y1 y2, LeO (doormanref06_All.l1 k y0 y1 y2) (doormanref06_All.l1 (k + 1) y0 y1 y2)) ∧ (∀ y0 y1 y2 y3 y4 y5 y6, LeO (doormanref06_All.j2 k y0 y1 y2 y3 y4 y5 y6) (doormanref06_All.j2 (k + 1) y0 y1 y2 y3 y4 y5 y6)) ∧ (∀ y0 y1 y2 y3 y4, LeO (doormanref06_All.j3 k y0 y1 y2 y3 y4) (doormanref06_All.j3 (k + 1) y0 y1 y2 y3 y4)) ∧ (∀ y0 y1 y2, LeO (doormanref06_All.l2 k y0 y1 y2) (doormanref06_All.l2 (k + 1) y0 y1 y2)) ∧ (∀ y0 y1 y2 y3 y4, LeO (doormanref06_All.l3 k y0 y1 y2 y3 y4) (doormanref06_All.l3 (k + 1) y0 y1 y2 y3 y4))
  | 0 => ⟨fun _ _ r h => by simp [doormanref06_All.l0] at h, fun _ _ _ r h => by simp [doormanref06_All.l1] at h, fun _ _ _ _ _ _ _ r h => by simp [doormanref06_All.j2] at h, fun _ _ _ _ _ r h => by simp [doormanref06_All.j3] at h, fun _ _ _ r h => by simp [doormanref06_All.l2] at h, fun _ _ _ _ _ r h => by simp [doormanref06_All.l3] at h⟩
  | k + 1 => by
    obtain ⟨ih0, ih1, ih2, ih3, ih4, ih5⟩ := doormanref06_All.mono_l k
    refine ⟨?_, ?_, ?_, ?_, ?_, ?_⟩
    · intro y0 y1
      unfold doormanref06_All.l0
      repeat' first
      | (with_reducible exact ih0 _ _)
      | (with_reducible exact ih1 _ _ _)
      | (with_reducible exact ih2 _ _ _ _ _ _ _)
      | (with_reducible exact ih3 _ _ _ _ _)
      | (with_reducible exact ih4 _ _ _)
      | (with_reducible exact ih5 _ _ _ _ _)
      | (with_reducible exact doormanref02_Long.mono _ _ _)
      | (with_reducible exact doormanref02_May.mono _ _ _)
      | (with_reducible exact doormanref02_Step.mono _ _ _)
      | (with_reducible exact doormanref06_Sign.mono _ _)
      | (with_reducible exact LeO.refl _)
      | (with_reducible exact LeO.none _)
      | (with_reducible refine LeO.ite ?_ ?_)
      | (with_reducible refine LeO.bind ?_ (fun _ => ?_))
      | exact ih0 _ _
      | exact ih1 _ _ _
      | exact ih2 _ _ _ _ _ _ _
      | exact ih3 _ _ _ _ _
      | exact ih4 _ _ _
      | exact ih5 _ _ _ _ _
      | exact doormanref02_Long.mono _ _ _
      | exact doormanref02_May.mono _ _ _
      | exact doormanref02_Step.mono _ _ _
      | exact doormanref06_Sign.mono _ _
      | exact LeO.none _
      | refine LeO.ite ?_ ?_
      | refine LeO.bind ?_ (fun _ => ?_)
    · intro y0 y1 y2
      unfold doormanref06_All.l1
      repeat' first
      | (with_reducible exact ih0 _ _)
      | (with_reducible exact ih1 _ _ _)
      | (with_reducible exact ih2 _ _ _ _ _ _ _)
      | (with_reducible exact ih3 _ _ _ _ _)
      | (with_reducible exact ih4 _ _ _)
      | (with_reducible exact ih5 _ _ _ _ _)
      | (with_reducible exact doormanref02_Long.mono _ _ _)
      | (with_reducible exact doormanref02_May.mono _ _ _)
      | (with_reducible exact doormanref02_Step.mono _ _ _)
      | (with_reducible exact doormanref06_Sign.mono _ _)
      | (with_reducible exact LeO.refl _)
      | (with_reducible exact LeO.none _)
      | (with_reducible refine LeO.ite ?_ ?_)
      | (with_reducible refine LeO.bind ?_ (fun _ => ?_))
      | exact ih0 _ _
      | exact ih1 _ _ _
      | exact ih2 _ _ _ _ _ _ _
      | exact ih3 _ _ _ _ _
      | exact ih4 _ _ _
      | exact ih5 _ _ _ _ _
      | exact doormanref02_Long.mono _ _ _
      | exact doormanref02_May.mono _ _ _
      | exact doormanref02_Step.mono _ _ _
      | exact doormanref06_Sign.mono _ _
      | exact LeO.none _
      | refine LeO.ite ?_ ?_
      | refine LeO.bind ?_ (fun _ => ?_)
    · intro y0 y1 y2 y3 y4 y5 y6
      unfold doormanref06_All.j2
      repeat' first
      | (with_reducible exact ih0 _ _)
      | (with_reducible exact ih1 _ _ _)
      | (with_reducible exact ih2 _ _ _ _ _ _ _)
      | (with_reducible exact ih3 _ _ _ _ _)
      | (with_reducible exact ih4 _ _ _)
      | (with_reducible exact ih5 _ _ _ _ _)
      | (with_reducible exact doormanref02_Long.mono _ _ _)
      | (with_reducible exact doormanref02_May.mono _ _ _)
      | (with_reducible exact doormanref02_Step.mono _ _ _)
      | (with_reducible exact doormanref06_Sign.mono _ _)
      | (with_reducible exact LeO.refl _)
      | (with_reducible exact LeO.none _)
      | (with_reducible refine LeO.ite ?_ ?_)
      | (with_reducible refine LeO.bind ?_ (fun _ => ?_))
      | exact ih0 _ _
      | exact ih1 _ _ _
      | exact ih2 _ _ _ _ _ _ _
      | exact ih3 _ _ _ _ _
      | exact ih4 _ _ _
      | exact ih5 _ _ _ _ _
      | exact doormanref02_Long.mono _ _ _
      | exact doormanref02_May.mono _ _ _
      | exact doormanref02_Step.mono _ _ _
      | exact doormanref06_Sign.mono _ _
      | exact LeO.none _
      | refine LeO.ite ?_ ?_
      | refine LeO.bind ?_ (fun _ => ?_)
    · intro y0 y1 y2 y3 y4
      unfold doormanref06_All.j3
      repeat' first
      | (with_reducible exact ih0 _ _)
      | (with_reducible exact ih1 _ _ _)
      | (with_reducible exact ih2 _ _ _ _ _ _ _)
      | (with_reducible exact ih3 _ _ _ _ _)
      | (with_reducible exact ih4 _ _ _)
      | (with_reducible exact ih5 _ _ _ _ _)
      | (with_reducible exact doormanref02_Long.mono _ _ _)
      | (with_reducible exact doormanref02_May.mono _ _ _)
      | (with_reducible exact doormanref02_Step.mono _ _ _)
      | (with_reducible exact doormanref06_Sign.mono _ _)
      | (with_reducible exact LeO.refl _)
      | (with_reducible exact LeO.none _)
      | (with_reducible refine LeO.ite ?_ ?_)
      | (with_reducible refine LeO.bind ?_ (fun _ => ?_))
      | exact ih0 _ _
      | exact ih1 _ _ _
      | exact ih2 _ _ _ _ _ _ _
      | exact ih3 _ _ _ _ _
      | exact ih4 _ _ _
      | exact ih5 _ _ _ _ _
      | exact doormanref02_Long.mono _ _ _
      | exact doormanref02_May.mono _ _ _
      | exact doormanref02_Step.mono _ _ _
      | exact doormanref06_Sign.mono _ _
      | exact LeO.none _
      | refine LeO.ite ?_ ?_
      | refine LeO.bind ?_ (fun _ => ?_)
    · intro y0 y1 y2
      unfold doormanref06_All.l2
      repeat' first
      | (with_reducible exact ih0 _ _)
      | (with_reducible exact ih1 _ _ _)
      | (with_reducible exact ih2 _ _ _ _ _ _ _)
      | (with_reducible exact ih3 _ _ _ _ _)
      | (with_reducible exact ih4 _ _ _)
      | (with_reducible exact ih5 _ _ _ _ _)
      | (with_reducible exact doormanref02_Long.mono _ _ _)
      | (with_reducible exact doormanref02_May.mono _ _ _)
      | (with_reducible exact doormanref02_Step.mono _ _ _)
      | (with_reducible exact doormanref06_Sign.mono _ _)
      | (with_reducible exact LeO.refl _)
      | (with_reducible exact LeO.none _)
      | (with_reducible refine LeO.ite ?_ ?_)
      | (with_reducible refine LeO.bind ?_ (fun _ => ?_))
      | exact ih0 _ _
      | exact ih1 _ _ _
      | exact ih2 _ _ _ _ _ _ _
      | exact ih3 _ _ _ _ _
      | exact ih4 _ _ _
      | exact ih5 _ _ _ _ _
      | exact doormanref02_Long.mono _ _ _
      | exact doormanref02_May.mono _ _ _
      | exact doormanref02_Step.mono _ _ _
      | exact doormanref06_Sign.mono _ _
      | exact LeO.none _
      | refine LeO.ite ?_ ?_
      | refine LeO.bind ?_ (fun _ => ?_)
    · intro y0 y1 y2 y3 y4
      unfold doormanref06_All.l3
      repeat' first
      | (with_reducible exact ih0 _ _)
      | (with_reducible exact ih1 _ _ _)
      | (with_reducible exact ih2 _ _ _ _ _ _ _)
      | (with_reducible exact ih3 _ _ _ _ _)
      | (with_reducible exact ih4 _ _ _)
      | (with_reducible exact ih5 _ _ _ _ _)
      | (with_reducible exact doormanref02_Long.mono _ _ _)
      | (with_reducible exact doormanref02_May.mono _ _ _)
      | (with_reducible exact doormanref02_Step.mono _ _ _)
      | (with_reducible exact doormanref06_Sign.mono _ _)
      | (with_reducible exact LeO.refl _)
      | (with_reducible exact LeO.none _)
      | (with_reducible refine LeO.ite ?_ ?_)
      | (with_reducible refine LeO.bind ?_ (fun _ => ?_))
      | exact ih0 _ _
      | exact ih1 _ _ _
      | exact ih2 _ _ _ _ _ _ _
      | exact ih3 _ _ _ _ _
      | exact ih4 _ _ _
      | exact ih5 _ _ _ _ _
      | exact doormanref02_Long.mono _ _ _
      | exact doormanref02_May.mono _ _ _
      | exact doormanref02_Step.mono _ _ _
      | exact doormanref06_Sign.mono _ _
      | exact LeO.none _
      | refine LeO.ite ?_ ?_
      | refine LeO.bind ?_ (fun _ => ?_)
theorem doormanref06_All.mono : ∀ a0 k, LeO (doormanref06_All.f k a0) (doormanref06_All.f (k + 1) a0) := by
  intro a0 k
  obtain ⟨ih0, ih1, ih2, ih3, ih4, ih5⟩ := doormanref06_All.mono_l k
  unfold doormanref06_All.f
  repeat' first
      | (with_reducible exact ih0 _ _)
      | (with_reducible exact ih1 _ _ _)
      | (with_reducible exact ih2 _ _ _ _ _ _ _)
      | (with_reducible exact ih3 _ _ _ _ _)
      | (with_reducible exact ih4 _ _ _)
      | (with_reducible exact ih5 _ _ _ _ _)
      | (with_reducible exact doormanref02_Long.mono _ _ _)
      | (with_reducible exact doormanref02_May.mono _ _ _)
      | (with_reducible exact doormanref02_Step.mono _ _ _)
      | (with_reducible exact doormanref06_Sign.mono _ _)
      | (with_reducible exact LeO.refl _)
      | (with_reducible exact LeO.none _)
      | (with_reducible refine LeO.ite ?_ ?_)
      | (with_reducible refine LeO.bind ?_ (fun _ => ?_))
      | exact ih0 _ _
      | exact ih1 _ _ _
      | exact ih2 _ _ _ _ _ _ _
      | exact ih3 _ _ _ _ _
      | exact ih4 _ _ _
      | exact ih5 _ _ _ _ _
      | exact doormanref02_Long.mono _ _ _
      | exact doormanref02_May.mono _ _ _
      | exact doormanref02_Step.mono _ _ _
      | exact doormanref06_Sign.mono _ _
      | exact LeO.none _
      | refine LeO.ite ?_ ?_
      | refine LeO.bind ?_ (fun _ => ?_)
set_option maxHeartbeats 8000000 in
set_option maxRecDepth 100000 in
theorem doormanref06_All.calls (k : Nat) (a0 : ByteArray) (r1 : List (S33)) (r2 : Int) (r3 : Int) (w : World) (h : doormanref06_All.f k a0 = some (r1, r2, r3)) :
    Calls Tryd.prog 26 #[.string a0] w fun e w' => ∃ v0_ : Value, e = .returned (.tuple #[v0_, .int .i64 r2, .int .i64 r3]) ∧ Kd.R k33 33 w' w.heap.size (fun _ => True) v0_ r1 ∧ Below w.heap.size w w' := by
  have hu33 := Tryd.underlying33
  have HB := Aside0.mk (Below.refl w.heap.size w)
  have H : (if (a0.size : Int) > 2048 then (some (([] : List (S33)), 13, 0)) else (doormanref06_All.l0 k a0 0)) = some (r1, r2, r3) := h
  clear h
  by_cases c2 : (a0.size : Int) > 2048
  · rw [if_pos c2] at H
    have c2b0 : decide (2048 < (a0.size : Int)) = true := decide_eq_true c2
    have c2b1 : decide (2048 < a0.size) = true := decide_eq_true (by omega)
    clear c2
    simp only [Option.some.injEq, Prod.mk.injEq] at H
    obtain ⟨rfl, rfl, rfl⟩ := H
    go_enter Tryd.func26, Tryd.ntmps26
    go_wp2
    go_ret3
    exact ⟨_, by first | rfl | (simp [errW_none, errW_some] <;> rfl) | (simp [*, errW_none, errW_some] <;> rfl), by first | exact Kd.R_nil _ _ _ _ _ | exact Kd.N_nil _ _ _ _ _ | exact Kd.V_nil _ _ _ _ _ | exact Kd.Q_nil _ _ _ _ _ | exact Kd.S_nil _ _ _ _ _, by repeat (first | (with_reducible first | exact HB.out | apply below_alloc | apply pw_below_drewN | apply below_drew1) | exact HB.out)⟩
  · rw [if_neg c2] at H
    have c2b0 : decide (2048 < (a0.size : Int)) = false := decide_eq_false c2
    have c2b1 : decide (2048 < a0.size) = false := decide_eq_false (by omega)
    clear c2
    have H' := Aside0.mk H
    clear H
    go_enter Tryd.func26, Tryd.ntmps26
    go_wp2
    go_loopg [5] k (fun kq v5 w' => ∃ (x5_1 : Int), v5 = .int .i64 x5_1 ∧ Aside0 (doormanref06_All.l0 kq a0 x5_1 = some (r1, r2, r3)) ∧ Aside0 (kq ≤ k) ∧ Aside0 (Below w.heap.size w w'))
    case atStart => exact ⟨(0), (by first | rfl | (simp; done) | (simp [*]; done)), H', ⟨Nat.le_refl _⟩, ⟨by repeat (first | (with_reducible first | exact HB.out | apply below_alloc | apply pw_below_drewN | apply below_drew1) | exact HB.out)⟩⟩
    case round =>
      clear H'
      try clear c2
      try clear c2b0
      try clear c2b1
      try clear p2
      obtain ⟨x5_1, rfl, HA, HK1, HB⟩ := hrel
      cases gk with
      | zero => exact absurd HA.out (by simp [doormanref06_All.l0])
      | succ k1 =>
        have H := HA.out
        clear HA
        simp only [doormanref06_All.l0] at H
        by_cases c3 : x5_1 < (a0.size : Int)
        · rw [if_pos c3] at H
          have c3b0 : decide (x5_1 < (a0.size : Int)) = true := decide_eq_true c3
          clear c3
          replace H := Option.bind_eq_some_iff.mp H
          obtain ⟨t110, A40, H⟩ := H
          replace H : (if t110 = 0 then (some (([] : List (S33)), 11, x5_1)) else ((doormanref02_Step.f k1 a0 x5_1).bind fun t111 => (doormanref06_All.l0 k1 a0 t111))) = some (r1, r2, r3) := H
          have A4 := Aside0.mk A40
          clear A40
          by_cases c5 : t110 = 0
          · rw [if_pos c5] at H
            have c5b0 : (t110 == 0) = true := beq_iff_eq.mpr c5
            have c5b1 : (t110 != 0) = false := bne_eq_false_iff_eq.mpr c5
            clear c5
            simp only [Option.some.injEq, Prod.mk.injEq] at H
            obtain ⟨rfl, rfl, rfl⟩ := H
            go_wp2_with (first | ((with_reducible refine gate_callee (f := 60) rfl ?_); refine goesL_ (some 25) rfl rfl Tryd.func60 (by kernel_rfl) rfl #[.string a0, .int .i64 x5_1] rfl (by (try simp only [List.map_toArray, List.map_cons, List.map_nil]); first | done | rfl | (simp only [List.length_drop, List.length_take]; rfl)) ?_; (with_reducible refine (doormanref02_Long.calls k1 a0 x5_1 t110 _ A4.out).mono ?_); rintro e w' ⟨rfl, ⟨nd, rfl⟩⟩; refine ⟨_, rfl, ?_⟩))
            go_ret3
            exact ⟨_, by first | rfl | (simp [errW_none, errW_some] <;> rfl) | (simp [*, errW_none, errW_some] <;> rfl), by first | exact Kd.R_nil _ _ _ _ _ | exact Kd.N_nil _ _ _ _ _ | exact Kd.V_nil _ _ _ _ _ | exact Kd.Q_nil _ _ _ _ _ | exact Kd.S_nil _ _ _ _ _, by repeat (first | (with_reducible first | exact HB.out | apply below_alloc | apply pw_below_drewN | apply below_drew1) | exact HB.out)⟩
          · rw [if_neg c5] at H
            have c5b0 : (t110 == 0) = false := beq_eq_false_iff_ne.mpr c5
            have c5b1 : (t110 != 0) = true := bne_iff_ne.mpr c5
            replace H := Option.bind_eq_some_iff.mp H
            obtain ⟨t111, A60, H⟩ := H
            replace H : (doormanref06_All.l0 k1 a0 t111) = some (r1, r2, r3) := H
            have A6 := Aside0.mk A60
            clear A60
            have H' := Aside0.mk H
            clear H
            go_wp2_with (first | ((with_reducible refine gate_callee (f := 60) rfl ?_); refine goesL_ (some 25) rfl rfl Tryd.func60 (by kernel_rfl) rfl #[.string a0, .int .i64 x5_1] rfl (by (try simp only [List.map_toArray, List.map_cons, List.map_nil]); first | done | rfl | (simp only [List.length_drop, List.length_take]; rfl)) ?_; (with_reducible refine (doormanref02_Long.calls k1 a0 x5_1 t110 _ A4.out).mono ?_); rintro e w' ⟨rfl, ⟨nd, rfl⟩⟩; refine ⟨_, rfl, ?_⟩) | ((with_reducible refine gate_callee (f := 59) rfl ?_); refine goesL_ (some 22) rfl rfl Tryd.func59 (by kernel_rfl) rfl #[.string a0, .int .i64 x5_1] rfl (by (try simp only [List.map_toArray, List.map_cons, List.map_nil]); first | done | rfl | (simp only [List.length_drop, List.length_take]; rfl)) ?_; (with_reducible refine (doormanref02_Step.calls k1 a0 x5_1 t111 _ A6.out).mono ?_); rintro e w' ⟨rfl, ⟨nd, rfl⟩⟩; refine ⟨_, rfl, ?_⟩))
            go_roundg k1
            case measure => have := HK1.out; omega
            case rel => exact ⟨(t111), (by first | rfl | (simp; done) | (simp [*]; done)), H', ⟨by have := HK1.out; omega⟩, ⟨by repeat (first | (with_reducible first | exact HB.out | apply below_alloc | apply pw_below_drewN | apply below_drew1) | exact HB.out)⟩⟩
        · rw [if_neg c3] at H
          have c3b0 : decide (x5_1 < (a0.size : Int)) = false := decide_eq_false c3
          clear c3
          have H' := Aside0.mk H
          clear H
          go_wp2
          go_loopg [6, 7] k1 (fun kq v6 v7 w' => ∃ (x6_2 : List (S33)) (x7_2 : Int), v7 = .int .i64 x7_2 ∧ Aside0 (doormanref06_All.l1 kq a0 x6_2 x7_2 = some (r1, r2, r3)) ∧ Aside0 (kq ≤ k1) ∧ Aside0 (Kd.R k33 33 w' w.heap.size (fun _ => True) v6 x6_2) ∧ Aside0 (Below w.heap.size w w'))
          case atStart => exact ⟨(([] : List (S33))), (0), (by first | rfl | (simp; done) | (simp [*]; done)), H', ⟨Nat.le_refl _⟩, ⟨by first | exact Kd.R_nil _ _ _ _ _ | exact Kd.N_nil _ _ _ _ _ | exact Kd.V_nil _ _ _ _ _ | exact Kd.Q_nil _ _ _ _ _ | exact Kd.S_nil _ _ _ _ _⟩, ⟨by repeat (first | (with_reducible first | exact HB.out | apply below_alloc | apply pw_below_drewN | apply below_drew1) | exact HB.out)⟩⟩
          case round =>
            clear H'
            try clear c2
            try clear c2b0
            try clear c2b1
            try clear p2
            try clear c3
            try clear c3b0
            try clear c5
            try clear c5b0
            try clear c5b1
            try clear c6
            try clear p2
            obtain ⟨x6_2, x7_2, rfl, HA, HK2, HO_6, HB⟩ := hrel
            cases gk with
            | zero => exact absurd HA.out (by simp [doormanref06_All.l1])
            | succ k2 =>
              have H := HA.out
              clear HA
              simp only [doormanref06_All.l1] at H
              by_cases c7 : x7_2 < (a0.size : Int)
              · rw [if_pos c7] at H
                have c7b0 : decide (x7_2 < (a0.size : Int)) = true := decide_eq_true c7
                clear c7
                by_cases c8 : 0 ≤ x7_2
                · rw [if_pos c8] at H
                  have c8b0 : decide (0 ≤ x7_2) = true := decide_eq_true c8
                  clear c8
                  replace H := Option.bind_eq_some_iff.mp H
                  obtain ⟨t115, A100, H⟩ := H
                  replace H : ((doormanref02_May.f k2 a0 x7_2).bind fun t116 => (if (bt a0 x7_2) = 32 then (doormanref06_All.j2 k2 a0 x6_2 x7_2 (bt a0 x7_2) t115 t116 true) else (if (bt a0 x7_2) = 9 then (doormanref06_All.j2 k2 a0 x6_2 x7_2 (bt a0 x7_2) t115 t116 true) else (doormanref06_All.j2 k2 a0 x6_2 x7_2 (bt a0 x7_2) t115 t116 ((bt a0 x7_2) == 10))))) = some (r1, r2, r3) := H
                  have A10 := Aside0.mk A100
                  clear A100
                  replace H := Option.bind_eq_some_iff.mp H
                  obtain ⟨t116, A110, H⟩ := H
                  replace H : (if (bt a0 x7_2) = 32 then (doormanref06_All.j2 k2 a0 x6_2 x7_2 (bt a0 x7_2) t115 t116 true) else (if (bt a0 x7_2) = 9 then (doormanref06_All.j2 k2 a0 x6_2 x7_2 (bt a0 x7_2) t115 t116 true) else (doormanref06_All.j2 k2 a0 x6_2 x7_2 (bt a0 x7_2) t115 t116 ((bt a0 x7_2) == 10)))) = some (r1, r2, r3) := H
                  have A11 := Aside0.mk A110
                  clear A110
                  have HC12 := Aside0.mk H
                  clear H
                  have p9 : 0 ≤ (x7_2 : Int) := of_decide_eq_true (by first | (with_reducible assumption) | assumption)
                  have q9 : x7_2 < (a0.size : Int) := of_decide_eq_true (by first | (with_reducible assumption) | assumption)
                  have hx9 := bt_at a0 x7_2
                  replace p9 := eq_true p9
                  replace q9 := eq_true q9
                  go_upto_region 15 with (first | ((with_reducible refine gate_callee (f := 31) rfl ?_); refine goesL_ (some 36) rfl rfl Tryd.func31 (by kernel_rfl) rfl #[.int .u8 (bt a0 x7_2)] rfl (by (try simp only [List.map_toArray, List.map_cons, List.map_nil]); first | done | rfl | (simp only [List.length_drop, List.length_take]; rfl)) ?_; (with_reducible refine (doormanref06_Sign.calls k2 (bt a0 x7_2) t115 _ A10.out).mono ?_); rintro e w' ⟨rfl, ⟨nd, rfl⟩⟩; refine ⟨_, rfl, ?_⟩) | ((with_reducible refine gate_callee (f := 61) rfl ?_); refine goesL_ (some 39) rfl rfl Tryd.func61 (by kernel_rfl) rfl #[.string a0, .int .i64 x7_2] rfl (by (try simp only [List.map_toArray, List.map_cons, List.map_nil]); first | done | rfl | (simp only [List.length_drop, List.length_take]; rfl)) ?_; (with_reducible refine (doormanref02_May.calls k2 a0 x7_2 t116 _ A11.out).mono ?_); rintro e w' ⟨rfl, ⟨nd, rfl⟩⟩; refine ⟨_, rfl, ?_⟩))
                  (try simp only [Act.put, List.setIfInBounds_toArray, List.set_cons_zero, List.set_cons_succ])
                  go_cut [41] (fun v41 wc => ∃ (kq : Nat) (x41_11 : Bool), v41 = .bool x41_11 ∧ Aside0 (doormanref06_All.j2 kq a0 x6_2 x7_2 (bt a0 x7_2) t115 t116 x41_11 = some (r1, r2, r3)) ∧ Aside0 (kq ≤ k2) ∧ Aside0 (Kd.R k33 33 wc w.heap.size (fun _ => True) u6 x6_2) ∧ Aside0 (Below w.heap.size w wc))
                  case first =>
                    have H := HC12.out
                    clear HC12
                    by_cases c13 : (bt a0 x7_2) = 32
                    · rw [if_pos c13] at H
                      have c13b0 : ((bt a0 x7_2) == 32) = true := beq_iff_eq.mpr c13
                      have c13b1 : ((bt a0 x7_2) != 32) = false := bne_eq_false_iff_eq.mpr c13
                      clear c13
                      (first | rw [c13b0] | (simp only [i64_w, i32_w]; rw [c13b0]) | skip)
                      have H' := Aside0.mk H
                      clear H
                      go_wp2
                      go_meet
                      case rel => exact ⟨_, (true), (by first | rfl | (simp; done) | (simp [*]; done)), H', ⟨by have := HK1.out; have := HK2.out; first | omega | exact Nat.le_refl _⟩, ⟨by (with_reducible repeat (first | apply Kd.R_alloc | apply Kd.R_drewN | apply Kd.R_drew)); exact HO_6.out⟩, ⟨by repeat (first | (with_reducible first | exact HB.out | apply below_alloc | apply pw_below_drewN | apply below_drew1) | exact HB.out)⟩⟩
                    · rw [if_neg c13] at H
                      have c13b0 : ((bt a0 x7_2) == 32) = false := beq_eq_false_iff_ne.mpr c13
                      have c13b1 : ((bt a0 x7_2) != 32) = true := bne_iff_ne.mpr c13
                      (first | rw [c13b0] | (simp only [i64_w, i32_w]; rw [c13b0]) | skip)
                      by_cases c14 : (bt a0 x7_2) = 9
                      · rw [if_pos c14] at H
                        have c14b0 : ((bt a0 x7_2) == 9) = true := beq_iff_eq.mpr c14
                        have c14b1 : ((bt a0 x7_2) != 9) = false := bne_eq_false_iff_eq.mpr c14
                        clear c14
                        have H' := Aside0.mk H
                        clear H
                        go_wp2
                        go_meet
                        case rel => exact ⟨_, (true), (by first | rfl | (simp; done) | (simp [*]; done)), H', ⟨by have := HK1.out; have := HK2.out; first | omega | exact Nat.le_refl _⟩, ⟨by (with_reducible repeat (first | apply Kd.R_alloc | apply Kd.R_drewN | apply Kd.R_drew)); exact HO_6.out⟩, ⟨by repeat (first | (with_reducible first | exact HB.out | apply below_alloc | apply pw_below_drewN | apply below_drew1) | exact HB.out)⟩⟩
                      · rw [if_neg c14] at H
                        have c14b0 : ((bt a0 x7_2) == 9) = false := beq_eq_false_iff_ne.mpr c14
                        have c14b1 : ((bt a0 x7_2) != 9) = true := bne_iff_ne.mpr c14
                        have H' := Aside0.mk H
                        clear H
                        go_wp2
                        go_meet
                        case rel => exact ⟨_, (((bt a0 x7_2) == 10)), (by first | rfl | (simp; done) | (simp [*]; done)), H', ⟨by have := HK1.out; have := HK2.out; first | omega | exact Nat.le_refl _⟩, ⟨by (with_reducible repeat (first | apply Kd.R_alloc | apply Kd.R_drewN | apply Kd.R_drew)); exact HO_6.out⟩, ⟨by repeat (first | (with_reducible first | exact HB.out | apply below_alloc | apply pw_below_drewN | apply below_drew1) | exact HB.out)⟩⟩
                  case rest =>
                    clear HC12
                    try clear c1
                    try clear c2
                    try clear c2b0
                    try clear c2b1
                    try clear p2
                    try clear c3
                    try clear c3b0
                    try clear c5
                    try clear c5b0
                    try clear c5b1
                    try clear c6
                    try clear c7
                    try clear c7b0
                    try clear c8
                    try clear c8b0
                    try clear p9
                    try clear q9
                    try clear hx9
                    try clear c13
                    try clear c13b0
                    try clear c13b1
                    try clear c14
                    try clear c14b0
                    try clear c14b1
                    try clear p2
                    try clear p9
                    try clear q9
                    obtain ⟨kq, x41_11, rfl, HA, HJ11, HO_6, HB⟩ := hcut
                    cases kq with
                    | zero => exact absurd HA.out (by simp [doormanref06_All.j2])
                    | succ kj11 =>
                      have H := HA.out
                      clear HA
                      simp only [doormanref06_All.j2] at H
                      by_cases c15 : x41_11 = true
                      · subst c15
                        have H1 : (doormanref06_All.l1 kj11 a0 x6_2 (wrap64 (x7_2 + 1))) = some (r1, r2, r3) := by rw [if_pos rfl] at H; exact H
                        clear H
                        have H := H1
                        clear H1
                        have H' := Aside0.mk H
                        clear H
                        go_wp2
                        go_roundg kj11
                        case measure => have := HK1.out; have := HK2.out; have := HJ11.out; omega
                        case rel => exact ⟨(x6_2), (wrap64 (x7_2 + 1)), (by first | rfl | (simp; done) | (simp [*]; done)), H', ⟨by have := HK1.out; have := HK2.out; have := HJ11.out; omega⟩, ⟨by (with_reducible repeat (first | apply Kd.R_alloc | apply Kd.R_drewN | apply Kd.R_drew)); exact HO_6.out⟩, ⟨by repeat (first | (with_reducible first | exact HB.out | apply below_alloc | apply pw_below_drewN | apply below_drew1) | exact HB.out)⟩⟩
                      · replace c15 := Bool.eq_false_iff.mpr c15
                        subst c15
                        have H1 : (if t115 = true then (if 0 ≤ x7_2 then (if x7_2 ≤ (wrap64 (x7_2 + 1)) then (if (wrap64 (x7_2 + 1)) ≤ (a0.size : Int) then (if x6_2.length < 4398046511104 then (doormanref06_All.l1 kj11 a0 (x6_2 ++ [(⟨2, a0.extract (x7_2 : Int).toNat ((wrap64 (x7_2 + 1)) : Int).toNat, x7_2⟩ : S33)]) (wrap64 (x7_2 + 1))) else (none)) else (none)) else (none)) else (none)) else (if (bt a0 x7_2) = 47 then (if (wrap64 (x7_2 + 1)) < (a0.size : Int) then (if 0 ≤ (wrap64 (x7_2 + 1)) then (doormanref06_All.j3 kj11 a0 x6_2 x7_2 t116 ((bt a0 (wrap64 (x7_2 + 1))) == 47)) else (none)) else (doormanref06_All.j3 kj11 a0 x6_2 x7_2 t116 false)) else (doormanref06_All.j3 kj11 a0 x6_2 x7_2 t116 false))) = some (r1, r2, r3) := by rw [if_neg (show ¬ (false = true) by decide)] at H; exact H
                        clear H
                        have H := H1
                        clear H1
                        by_cases c16 : t115 = true
                        · subst c16
                          have H1 : (if 0 ≤ x7_2 then (if x7_2 ≤ (wrap64 (x7_2 + 1)) then (if (wrap64 (x7_2 + 1)) ≤ (a0.size : Int) then (if x6_2.length < 4398046511104 then (doormanref06_All.l1 kj11 a0 (x6_2 ++ [(⟨2, a0.extract (x7_2 : Int).toNat ((wrap64 (x7_2 + 1)) : Int).toNat, x7_2⟩ : S33)]) (wrap64 (x7_2 + 1))) else (none)) else (none)) else (none)) else (none)) = some (r1, r2, r3) := by rw [if_pos rfl] at H; exact H
                          clear H
                          have H := H1
                          clear H1
                          by_cases c17 : 0 ≤ x7_2
                          · rw [if_pos c17] at H
                            have c17b0 := eq_true c17
                            have c17b1 : decide (0 ≤ x7_2) = true := decide_eq_true c17
                            clear c17
                            by_cases c18 : x7_2 ≤ (wrap64 (x7_2 + 1))
                            · rw [if_pos c18] at H
                              have c18b0 := eq_true c18
                              have c18b1 : decide (x7_2 ≤ (wrap64 (x7_2 + 1))) = true := decide_eq_true c18
                              by_cases c19 : (wrap64 (x7_2 + 1)) ≤ (a0.size : Int)
                              · rw [if_pos c19] at H
                                have c19b0 := eq_true c19
                                have c19b1 : decide ((wrap64 (x7_2 + 1)) ≤ (a0.size : Int)) = true := decide_eq_true c19
                                by_cases c20 : x6_2.length < 4398046511104
                                · rw [if_pos c20] at H
                                  have LMc20 := Aside0.mk c20
                                  clear c20
                                  obtain ⟨y117, hy117⟩ : ∃ y_ : List (S33), y_ = (x6_2 ++ [(⟨2, a0.extract (x7_2 : Int).toNat ((wrap64 (x7_2 + 1)) : Int).toNat, x7_2⟩ : S33)]) := ⟨_, rfl⟩
                                  replace H : (doormanref06_All.l1 kj11 a0 y117 (wrap64 (x7_2 + 1))) = some (r1, r2, r3) := by first | (rw [hy117]; with_reducible exact H) | (have H2_ := (Option.bind_some _ _).symm.trans H; rw [hy117]; with_reducible exact H2_) | (have H2_ := (Option.bind_some _ _).symm.trans H; with_reducible exact H2_) | with_reducible exact H | (rw [hy117]; exact H) | exact H
                                  have Ny117 := Aside0.mk hy117
                                  clear hy117
                                  have H' := Aside0.mk H
                                  clear H
                                  go_wp2_with (first | ((with_reducible refine gate_builtin (b := .append) (xs := #[.tmp 56, .tmp 64]) rfl ?_); (try (refine gate_guard (by rfl) ?_; dsimp only)); at_builtin; refine Kd.R_append k33 (w0 := w) w.heap.size rfl (.tmp 56) (.tmp 64) 27 33 (.agg #[(.int .i64 0), (.string ⟨#[]⟩), (.int .i64 0)]) 32 rfl Tryd.underlying27 info33 rfl (by decide) (by omega) u6 x6_2 (⟨2, a0.extract (x7_2 : Int).toNat ((wrap64 (x7_2 + 1)) : Int).toNat, x7_2⟩ : S33) [.int .i64 2, .string (a0.extract (x7_2 : Int).toNat ((wrap64 (x7_2 + 1)) : Int).toNat), .int .i64 x7_2] (fun _ => True) (fun _ => False) rfl rfl ?aP (fun _ hk => hk.elim) ?aF ?aO ?aB ?aS ?aL ?_; (case aP => exact k33_mkM _ _ _ (⟨2, a0.extract (x7_2 : Int).toNat ((wrap64 (x7_2 + 1)) : Int).toNat, x7_2⟩ : S33)); (case aB => exact (by repeat (first | (with_reducible first | exact HB.out | apply below_alloc | apply pw_below_drewN | apply below_drew1) | exact HB.out))); (case aF => exact (fun _ _ => trivial)); (case aO => exact (by (with_reducible repeat (first | apply Kd.R_alloc | apply Kd.R_drewN | apply Kd.R_drew)); exact HO_6.out)); (case aS => exact (below_size (by repeat (first | (with_reducible first | exact HB.out | apply below_alloc | apply pw_below_drewN | apply below_drew1) | exact HB.out)))); (case aL => have := LMc20.out; omega); intro v118 w21 ho hb hg hat; rw [← Ny117.out] at ho; have n0_ := Aside0.mk (hb); have n1_ := Aside0.mk (ho); clear HB; clear HO_6; have HB := n0_; have HO119 := n1_; clear n0_ n1_; clear ho hb hg hat))
                                  go_roundg kj11
                                  case measure => have := HK1.out; have := HK2.out; have := HJ11.out; omega
                                  case rel => exact ⟨(y117), (wrap64 (x7_2 + 1)), (by first | rfl | (simp; done) | (simp [*]; done)), H', ⟨by have := HK1.out; have := HK2.out; have := HJ11.out; omega⟩, ⟨by (with_reducible repeat (first | apply Kd.R_alloc | apply Kd.R_drewN | apply Kd.R_drew)); exact HO119.out⟩, ⟨by repeat (first | (with_reducible first | exact HB.out | apply below_alloc | apply pw_below_drewN | apply below_drew1) | exact HB.out)⟩⟩
                                · rw [if_neg c20] at H
                                  exact absurd H (by simp)
                              · rw [if_neg c19] at H
                                exact absurd H (by simp)
                            · rw [if_neg c18] at H
                              exact absurd H (by simp)
                          · rw [if_neg c17] at H
                            exact absurd H (by simp)
                        · replace c16 := Bool.eq_false_iff.mpr c16
                          subst c16
                          have H1 : (if (bt a0 x7_2) = 47 then (if (wrap64 (x7_2 + 1)) < (a0.size : Int) then (if 0 ≤ (wrap64 (x7_2 + 1)) then (doormanref06_All.j3 kj11 a0 x6_2 x7_2 t116 ((bt a0 (wrap64 (x7_2 + 1))) == 47)) else (none)) else (doormanref06_All.j3 kj11 a0 x6_2 x7_2 t116 false)) else (doormanref06_All.j3 kj11 a0 x6_2 x7_2 t116 false)) = some (r1, r2, r3) := by rw [if_neg (show ¬ (false = true) by decide)] at H; exact H
                          clear H
                          have H := H1
                          clear H1
                          have HC22 := Aside0.mk H
                          clear H
                          go_upto_region 20 with (fail)
                          go_cut [68] (fun v68 wc => ∃ (kq : Nat) (x68_21 : Bool), v68 = .bool x68_21 ∧ Aside0 (doormanref06_All.j3 kq a0 x6_2 x7_2 t116 x68_21 = some (r1, r2, r3)) ∧ Aside0 (kq ≤ kj11) ∧ Aside0 (Kd.R k33 33 wc w.heap.size (fun _ => True) u6 x6_2) ∧ Aside0 (Below w.heap.size w wc))
                          case first =>
                            have H := HC22.out
                            clear HC22
                            by_cases c23 : (bt a0 x7_2) = 47
                            · rw [if_pos c23] at H
                              have c23b0 : ((bt a0 x7_2) == 47) = true := beq_iff_eq.mpr c23
                              have c23b1 : ((bt a0 x7_2) != 47) = false := bne_eq_false_iff_eq.mpr c23
                              clear c23
                              (first | rw [c23b0] | (simp only [i64_w, i32_w]; rw [c23b0]) | skip)
                              by_cases c24 : (wrap64 (x7_2 + 1)) < (a0.size : Int)
                              · rw [if_pos c24] at H
                                have c24b0 : decide ((wrap64 (x7_2 + 1)) < (a0.size : Int)) = true := decide_eq_true c24
                                clear c24
                                obtain ⟨ji25, hji25⟩ : ∃ j_ : Int, (wrap64 (x7_2 + 1)) = j_ := ⟨_, rfl⟩
                                replace H : (if 0 ≤ (ji25) then (doormanref06_All.j3 kj11 a0 x6_2 x7_2 t116 ((bt a0 (ji25)) == 47)) else (none)) = some (r1, r2, r3) := by first | (rw [hji25] at H; exact H) | (simp only [hji25] at H ⊢; exact H)
                                (try rw [hji25] at c24b0)
                                have hji25w : (IntKind.i64.wrap (x7_2 + 1)) = ji25 := (i64_w _).trans hji25
                                by_cases c26 : 0 ≤ (ji25)
                                · rw [if_pos c26] at H
                                  have c26b0 : decide (0 ≤ (ji25)) = true := decide_eq_true c26
                                  clear c26
                                  have H' := Aside0.mk H
                                  clear H
                                  have p27 : 0 ≤ ((ji25) : Int) := of_decide_eq_true (by first | (with_reducible assumption) | assumption)
                                  have q27 : (ji25) < (a0.size : Int) := of_decide_eq_true (by first | (with_reducible assumption) | assumption)
                                  have hx27 := bt_at a0 (ji25)
                                  replace p27 := eq_true p27
                                  replace q27 := eq_true q27
                                  go_wp2
                                  go_meet
                                  case rel => exact ⟨_, (((bt a0 (ji25)) == 47)), (by first | rfl | (simp; done) | (simp only [← hji25] <;> (first | rfl | simp)) | (simp [*]; done)), H', ⟨by have := HK1.out; have := HK2.out; have := HJ11.out; first | omega | exact Nat.le_refl _⟩, ⟨by (with_reducible repeat (first | apply Kd.R_alloc | apply Kd.R_drewN | apply Kd.R_drew)); exact HO_6.out⟩, ⟨by repeat (first | (with_reducible first | exact HB.out | apply below_alloc | apply pw_below_drewN | apply below_drew1) | exact HB.out)⟩⟩
                                · rw [if_neg c26] at H
                                  exact absurd H (by simp)
                              · rw [if_neg c24] at H
                                have c24b0 : decide ((wrap64 (x7_2 + 1)) < (a0.size : Int)) = false := decide_eq_false c24
                                clear c24
                                have H' := Aside0.mk H
                                clear H
                                go_wp2
                                go_meet
                                case rel => exact ⟨_, (false), (by first | rfl | (simp; done) | (simp [*]; done)), H', ⟨by have := HK1.out; have := HK2.out; have := HJ11.out; first | omega | exact Nat.le_refl _⟩, ⟨by (with_reducible repeat (first | apply Kd.R_alloc | apply Kd.R_drewN | apply Kd.R_drew)); exact HO_6.out⟩, ⟨by repeat (first | (with_reducible first | exact HB.out | apply below_alloc | apply pw_below_drewN | apply below_drew1) | exact HB.out)⟩⟩
                            · rw [if_neg c23] at H
                              have c23b0 : ((bt a0 x7_2) == 47) = false := beq_eq_false_iff_ne.mpr c23
                              have c23b1 : ((bt a0 x7_2) != 47) = true := bne_iff_ne.mpr c23
                              (first | rw [c23b0] | (simp only [i64_w, i32_w]; rw [c23b0]) | skip)
                              have H' := Aside0.mk H
                              clear H
                              go_wp2
                              go_meet
                              case rel => exact ⟨_, (false), (by first | rfl | (simp; done) | (simp [*]; done)), H', ⟨by have := HK1.out; have := HK2.out; have := HJ11.out; first | omega | exact Nat.le_refl _⟩, ⟨by (with_reducible repeat (first | apply Kd.R_alloc | apply Kd.R_drewN | apply Kd.R_drew)); exact HO_6.out⟩, ⟨by repeat (first | (with_reducible first | exact HB.out | apply below_alloc | apply pw_below_drewN | apply below_drew1) | exact HB.out)⟩⟩
                          case rest =>
                            clear HC22
                            try clear c1
                            try clear c2
                            try clear c2b0
                            try clear c2b1
                            try clear p2
                            try clear q2
                            try clear hx2
                            try clear c3
                            try clear c3b0
                            try clear c5
                            try clear c5b0
                            try clear c5b1
                            try clear c6
                            try clear p6
                            try clear c7
                            try clear c7b0
                            try clear c8
                            try clear c8b0
                            try clear p9
                            try clear q9
                            try clear hx9
                            try clear c13
                            try clear c13b0
                            try clear c13b1
                            try clear c14
                            try clear c14b0
                            try clear c14b1
                            try clear c15
                            try clear c16
                            try clear c17
                            try clear c17b0
                            try clear c17b1
                            try clear c18
                            try clear c18b0
                            try clear c18b1
                            try clear c19
                            try clear c19b0
                            try clear c19b1
                            try clear c20
                            try clear c23
                            try clear c23b0
                            try clear c23b1
                            try clear c24
                            try clear c24b0
                            try clear c26
                            try clear c26b0
                            try clear p27
                            try clear q27
                            try clear hx27
                            try clear p2
                            try clear p27
                            try clear p9
                            try clear q27
                            try clear q9
                            obtain ⟨kq, x68_21, rfl, HA, HJ21, HO_6, HB⟩ := hcut
                            cases kq with
                            | zero => exact absurd HA.out (by simp [doormanref06_All.j3])
                            | succ kj21 =>
                              have H := HA.out
                              clear HA
                              simp only [doormanref06_All.j3] at H
                              by_cases c28 : x68_21 = true
                              · subst c28
                                have H1 : (doormanref06_All.l2 kj21 a0 x6_2 x7_2) = some (r1, r2, r3) := by rw [if_pos rfl] at H; exact H
                                clear H
                                have H := H1
                                clear H1
                                have H' := Aside0.mk H
                                clear H
                                go_wp2
                                go_loopg [7] kj21 (fun kq v7 w' => ∃ (x7_5 : Int), v7 = .int .i64 x7_5 ∧ Aside0 (doormanref06_All.l2 kq a0 x6_2 x7_5 = some (r1, r2, r3)) ∧ Aside0 (kq ≤ kj21) ∧ Aside0 (Kd.R k33 33 w' w.heap.size (fun _ => True) u6 x6_2) ∧ Aside0 (Below w.heap.size w w'))
                                case atStart => exact ⟨(x7_2), (by first | rfl | (simp; done) | (simp [*]; done)), H', ⟨Nat.le_refl _⟩, ⟨by (with_reducible repeat (first | apply Kd.R_alloc | apply Kd.R_drewN | apply Kd.R_drew)); exact HO_6.out⟩, ⟨by repeat (first | (with_reducible first | exact HB.out | apply below_alloc | apply pw_below_drewN | apply below_drew1) | exact HB.out)⟩⟩
                                case round =>
                                  clear H'
                                  try clear c1
                                  try clear c2
                                  try clear c2b0
                                  try clear c2b1
                                  try clear p2
                                  try clear q2
                                  try clear hx2
                                  try clear c3
                                  try clear c3b0
                                  try clear c5
                                  try clear c5b0
                                  try clear c5b1
                                  try clear c6
                                  try clear p6
                                  try clear c7
                                  try clear c7b0
                                  try clear c8
                                  try clear c8b0
                                  try clear p9
                                  try clear q9
                                  try clear hx9
                                  try clear c13
                                  try clear c13b0
                                  try clear c13b1
                                  try clear c14
                                  try clear c14b0
                                  try clear c14b1
                                  try clear c15
                                  try clear c16
                                  try clear c17
                                  try clear c17b0
                                  try clear c17b1
                                  try clear c18
                                  try clear c18b0
                                  try clear c18b1
                                  try clear c19
                                  try clear c19b0
                                  try clear c19b1
                                  try clear c20
                                  try clear c23
                                  try clear c23b0
                                  try clear c23b1
                                  try clear c24
                                  try clear c24b0
                                  try clear c26
                                  try clear c26b0
                                  try clear p27
                                  try clear q27
                                  try clear hx27
                                  try clear c28
                                  try clear p2
                                  try clear p27
                                  try clear p6
                                  try clear p9
                                  try clear q2
                                  try clear q27
                                  try clear q9
                                  obtain ⟨x7_5, rfl, HA, HK5, HO_6, HB⟩ := hrel
                                  cases gk with
                                  | zero => exact absurd HA.out (by simp [doormanref06_All.l2])
                                  | succ k5 =>
                                    have H := HA.out
                                    clear HA
                                    simp only [doormanref06_All.l2] at H
                                    by_cases c29 : x7_5 < (a0.size : Int)
                                    · rw [if_pos c29] at H
                                      have c29b0 : decide (x7_5 < (a0.size : Int)) = true := decide_eq_true c29
                                      clear c29
                                      by_cases c30 : 0 ≤ x7_5
                                      · rw [if_pos c30] at H
                                        have c30b0 : decide (0 ≤ x7_5) = true := decide_eq_true c30
                                        clear c30
                                        by_cases c32 : (bt a0 x7_5) = 10
                                        · rw [if_pos c32] at H
                                          have c32b0 : ((bt a0 x7_5) == 10) = true := beq_iff_eq.mpr c32
                                          have c32b1 : ((bt a0 x7_5) != 10) = false := bne_eq_false_iff_eq.mpr c32
                                          clear c32
                                          have H' := Aside0.mk H
                                          clear H
                                          have p31 : 0 ≤ (x7_5 : Int) := of_decide_eq_true (by first | (with_reducible assumption) | assumption)
                                          have q31 : x7_5 < (a0.size : Int) := of_decide_eq_true (by first | (with_reducible assumption) | assumption)
                                          have hx31 := bt_at a0 x7_5
                                          replace p31 := eq_true p31
                                          replace q31 := eq_true q31
                                          go_wp2
                                          go_roundg k5
                                          case measure => have := HK1.out; have := HK2.out; have := HJ11.out; have := HJ21.out; have := HK5.out; omega
                                          case rel => exact ⟨(x6_2), (x7_5), (by first | rfl | (simp; done) | (simp [*]; done)), H', ⟨by have := HK1.out; have := HK2.out; have := HJ11.out; have := HJ21.out; have := HK5.out; omega⟩, ⟨by (with_reducible repeat (first | apply Kd.R_alloc | apply Kd.R_drewN | apply Kd.R_drew)); exact HO_6.out⟩, ⟨by repeat (first | (with_reducible first | exact HB.out | apply below_alloc | apply pw_below_drewN | apply below_drew1) | exact HB.out)⟩⟩
                                        · rw [if_neg c32] at H
                                          have c32b0 : ((bt a0 x7_5) == 10) = false := beq_eq_false_iff_ne.mpr c32
                                          have c32b1 : ((bt a0 x7_5) != 10) = true := bne_iff_ne.mpr c32
                                          have H' := Aside0.mk H
                                          clear H
                                          have p31 : 0 ≤ (x7_5 : Int) := of_decide_eq_true (by first | (with_reducible assumption) | assumption)
                                          have q31 : x7_5 < (a0.size : Int) := of_decide_eq_true (by first | (with_reducible assumption) | assumption)
                                          have hx31 := bt_at a0 x7_5
                                          replace p31 := eq_true p31
                                          replace q31 := eq_true q31
                                          go_wp2
                                          go_roundg k5
                                          case measure => have := HK1.out; have := HK2.out; have := HJ11.out; have := HJ21.out; have := HK5.out; omega
                                          case rel => exact ⟨(wrap64 (x7_5 + 1)), (by first | rfl | (simp; done) | (simp [*]; done)), H', ⟨by have := HK1.out; have := HK2.out; have := HJ11.out; have := HJ21.out; have := HK5.out; omega⟩, ⟨by (with_reducible repeat (first | apply Kd.R_alloc | apply Kd.R_drewN | apply Kd.R_drew)); exact HO_6.out⟩, ⟨by repeat (first | (with_reducible first | exact HB.out | apply below_alloc | apply pw_below_drewN | apply below_drew1) | exact HB.out)⟩⟩
                                      · rw [if_neg c30] at H
                                        exact absurd H (by simp)
                                    · rw [if_neg c29] at H
                                      have c29b0 : decide (x7_5 < (a0.size : Int)) = false := decide_eq_false c29
                                      clear c29
                                      have H' := Aside0.mk H
                                      clear H
                                      go_wp2
                                      go_roundg k5
                                      case measure => have := HK1.out; have := HK2.out; have := HJ11.out; have := HJ21.out; have := HK5.out; omega
                                      case rel => exact ⟨(x6_2), (x7_5), (by first | rfl | (simp; done) | (simp [*]; done)), H', ⟨by have := HK1.out; have := HK2.out; have := HJ11.out; have := HJ21.out; have := HK5.out; omega⟩, ⟨by (with_reducible repeat (first | apply Kd.R_alloc | apply Kd.R_drewN | apply Kd.R_drew)); exact HO_6.out⟩, ⟨by repeat (first | (with_reducible first | exact HB.out | apply below_alloc | apply pw_below_drewN | apply below_drew1) | exact HB.out)⟩⟩
                              · replace c28 := Bool.eq_false_iff.mpr c28
                                subst c28
                                have H1 : (if t116 = true then (doormanref06_All.l3 kj21 a0 x6_2 x7_2 x7_2 0) else (some (([] : List (S33)), 30, x7_2))) = some (r1, r2, r3) := by rw [if_neg (show ¬ (false = true) by decide)] at H; exact H
                                clear H
                                have H := H1
                                clear H1
                                by_cases c33 : t116 = true
                                · subst c33
                                  have H1 : (doormanref06_All.l3 kj21 a0 x6_2 x7_2 x7_2 0) = some (r1, r2, r3) := by rw [if_pos rfl] at H; exact H
                                  clear H
                                  have H := H1
                                  clear H1
                                  have H' := Aside0.mk H
                                  clear H
                                  go_wp2
                                  go_loopg [11, 12] kj21 (fun kq v11 v12 w' => ∃ (x11_5 : Int) (x12_5 : Int), v11 = .int .i64 x11_5 ∧ v12 = .int .i64 x12_5 ∧ Aside0 (doormanref06_All.l3 kq a0 x6_2 x7_2 x11_5 x12_5 = some (r1, r2, r3)) ∧ Aside0 (kq ≤ kj21) ∧ Aside0 (Kd.R k33 33 w' w.heap.size (fun _ => True) u6 x6_2) ∧ Aside0 (Below w.heap.size w w'))
                                  case atStart => exact ⟨(x7_2), (0), (by first | rfl | (simp; done) | (simp [*]; done)), (by first | rfl | (simp; done) | (simp [*]; done)), H', ⟨Nat.le_refl _⟩, ⟨by (with_reducible repeat (first | apply Kd.R_alloc | apply Kd.R_drewN | apply Kd.R_drew)); exact HO_6.out⟩, ⟨by repeat (first | (with_reducible first | exact HB.out | apply below_alloc | apply pw_below_drewN | apply below_drew1) | exact HB.out)⟩⟩
                                  case round =>
                                    clear H'
                                    try clear c1
                                    try clear c2
                                    try clear c2b0
                                    try clear c2b1
                                    try clear p2
                                    try clear q2
                                    try clear hx2
                                    try clear c3
                                    try clear c3b0
                                    try clear p3
                                    try clear q3
                                    try clear hx3
                                    try clear c5
                                    try clear c5b0
                                    try clear c5b1
                                    try clear c6
                                    try clear p6
                                    try clear c7
                                    try clear c7b0
                                    try clear c8
                                    try clear c8b0
                                    try clear p9
                                    try clear q9
                                    try clear hx9
                                    try clear c13
                                    try clear c13b0
                                    try clear c13b1
                                    try clear c14
                                    try clear c14b0
                                    try clear c14b1
                                    try clear c15
                                    try clear c16
                                    try clear c17
                                    try clear c17b0
                                    try clear c17b1
                                    try clear c18
                                    try clear c18b0
                                    try clear c18b1
                                    try clear c19
                                    try clear c19b0
                                    try clear c19b1
                                    try clear c20
                                    try clear c23
                                    try clear c23b0
                                    try clear c23b1
                                    try clear c24
                                    try clear c24b0
                                    try clear c26
                                    try clear c26b0
                                    try clear p27
                                    try clear q27
                                    try clear hx27
                                    try clear c28
                                    try clear c29
                                    try clear c29b0
                                    try clear c30
                                    try clear c30b0
                                    try clear c31
                                    try clear p31
                                    try clear q31
                                    try clear hx31
                                    try clear c32
                                    try clear c32b0
                                    try clear c32b1
                                    try clear c33
                                    try clear p2
                                    try clear p27
                                    try clear p31
                                    try clear p6
                                    try clear p9
                                    try clear q2
                                    try clear q27
                                    try clear q31
                                    try clear q9
                                    obtain ⟨x11_5, x12_5, rfl, rfl, HA, HK5, HO_6, HB⟩ := hrel
                                    cases gk with
                                    | zero => exact absurd HA.out (by simp [doormanref06_All.l3])
                                    | succ k5 =>
                                      have H := HA.out
                                      clear HA
                                      simp only [doormanref06_All.l3] at H
                                      by_cases c34 : x11_5 < (a0.size : Int)
                                      · rw [if_pos c34] at H
                                        have c34b0 : decide (x11_5 < (a0.size : Int)) = true := decide_eq_true c34
                                        clear c34
                                        replace H := Option.bind_eq_some_iff.mp H
                                        obtain ⟨t120, A350, H⟩ := H
                                        replace H : (if t120 = true then ((doormanref02_Step.f k5 a0 x11_5).bind fun t121 => (doormanref06_All.l3 k5 a0 x6_2 x7_2 t121 (wrap64 (x12_5 + 1)))) else (if x12_5 > 24 then (some (([] : List (S33)), 31, x7_2)) else (if 0 ≤ x7_2 then (if x7_2 ≤ x11_5 then (if x11_5 ≤ (a0.size : Int) then (if x6_2.length < 4398046511104 then (doormanref06_All.l1 k5 a0 (x6_2 ++ [(⟨1, a0.extract (x7_2 : Int).toNat (x11_5 : Int).toNat, x7_2⟩ : S33)]) x11_5) else (none)) else (none)) else (none)) else (none)))) = some (r1, r2, r3) := H
                                        have A35 := Aside0.mk A350
                                        clear A350
                                        by_cases c36 : t120 = true
                                        · subst c36
                                          have H1 : ((doormanref02_Step.f k5 a0 x11_5).bind fun t121 => (doormanref06_All.l3 k5 a0 x6_2 x7_2 t121 (wrap64 (x12_5 + 1)))) = some (r1, r2, r3) := by rw [if_pos rfl] at H; exact H
                                          clear H
                                          have H := H1
                                          clear H1
                                          replace H := Option.bind_eq_some_iff.mp H
                                          obtain ⟨t121, A370, H⟩ := H
                                          replace H : (doormanref06_All.l3 k5 a0 x6_2 x7_2 t121 (wrap64 (x12_5 + 1))) = some (r1, r2, r3) := H
                                          have A37 := Aside0.mk A370
                                          clear A370
                                          have H' := Aside0.mk H
                                          clear H
                                          go_wp2_with (first | (go_at_call 61; (with_reducible refine (doormanref02_May.calls k5 a0 x11_5 true _ A35.out).mono ?_); rintro e w' ⟨rfl, ⟨nd, rfl⟩⟩) | ((with_reducible refine gate_callee (f := 59) rfl ?_); refine goesL_ (some 111) rfl rfl Tryd.func59 (by kernel_rfl) rfl #[.string a0, .int .i64 x11_5] rfl (by (try simp only [List.map_toArray, List.map_cons, List.map_nil]); first | done | rfl | (simp only [List.length_drop, List.length_take]; rfl)) ?_; (with_reducible refine (doormanref02_Step.calls k5 a0 x11_5 t121 _ A37.out).mono ?_); rintro e w' ⟨rfl, ⟨nd, rfl⟩⟩; refine ⟨_, rfl, ?_⟩))
                                          go_roundg k5
                                          case measure => have := HK1.out; have := HK2.out; have := HJ11.out; have := HJ21.out; have := HK5.out; omega
                                          case rel => exact ⟨(t121), (wrap64 (x12_5 + 1)), (by first | rfl | (simp; done) | (simp [*]; done)), (by first | rfl | (simp; done) | (simp [*]; done)), H', ⟨by have := HK1.out; have := HK2.out; have := HJ11.out; have := HJ21.out; have := HK5.out; omega⟩, ⟨by (with_reducible repeat (first | apply Kd.R_alloc | apply Kd.R_drewN | apply Kd.R_drew)); exact HO_6.out⟩, ⟨by repeat (first | (with_reducible first | exact HB.out | apply below_alloc | apply pw_below_drewN | apply below_drew1) | exact HB.out)⟩⟩
                                        · replace c36 := Bool.eq_false_iff.mpr c36
                                          subst c36
                                          have H1 : (if x12_5 > 24 then (some (([] : List (S33)), 31, x7_2)) else (if 0 ≤ x7_2 then (if x7_2 ≤ x11_5 then (if x11_5 ≤ (a0.size : Int) then (if x6_2.length < 4398046511104 then (doormanref06_All.l1 k5 a0 (x6_2 ++ [(⟨1, a0.extract (x7_2 : Int).toNat (x11_5 : Int).toNat, x7_2⟩ : S33)]) x11_5) else (none)) else (none)) else (none)) else (none))) = some (r1, r2, r3) := by rw [if_neg (show ¬ (false = true) by decide)] at H; exact H
                                          clear H
                                          have H := H1
                                          clear H1
                                          by_cases c38 : x12_5 > 24
                                          · rw [if_pos c38] at H
                                            have c38b0 : decide (24 < x12_5) = true := decide_eq_true c38
                                            clear c38
                                            simp only [Option.some.injEq, Prod.mk.injEq] at H
                                            obtain ⟨rfl, rfl, rfl⟩ := H
                                            go_wp2_with (first | (go_at_call 61; (with_reducible refine (doormanref02_May.calls k5 a0 x11_5 false _ A35.out).mono ?_); rintro e w' ⟨rfl, ⟨nd, rfl⟩⟩))
                                            go_ret3
                                            exact ⟨_, by first | rfl | (simp [errW_none, errW_some] <;> rfl) | (simp [*, errW_none, errW_some] <;> rfl), by first | exact Kd.R_nil _ _ _ _ _ | exact Kd.N_nil _ _ _ _ _ | exact Kd.V_nil _ _ _ _ _ | exact Kd.Q_nil _ _ _ _ _ | exact Kd.S_nil _ _ _ _ _, by repeat (first | (with_reducible first | exact HB.out | apply below_alloc | apply pw_below_drewN | apply below_drew1) | exact HB.out)⟩
                                          · rw [if_neg c38] at H
                                            have c38b0 : decide (24 < x12_5) = false := decide_eq_false c38
                                            clear c38
                                            by_cases c39 : 0 ≤ x7_2
                                            · rw [if_pos c39] at H
                                              have c39b0 := eq_true c39
                                              have c39b1 : decide (0 ≤ x7_2) = true := decide_eq_true c39
                                              clear c39
                                              by_cases c40 : x7_2 ≤ x11_5
                                              · rw [if_pos c40] at H
                                                have c40b0 := eq_true c40
                                                have c40b1 : decide (x7_2 ≤ x11_5) = true := decide_eq_true c40
                                                clear c40
                                                by_cases c41 : x11_5 ≤ (a0.size : Int)
                                                · rw [if_pos c41] at H
                                                  have c41b0 := eq_true c41
                                                  have c41b1 : decide (x11_5 ≤ (a0.size : Int)) = true := decide_eq_true c41
                                                  clear c41
                                                  by_cases c42 : x6_2.length < 4398046511104
                                                  · rw [if_pos c42] at H
                                                    have LMc42 := Aside0.mk c42
                                                    clear c42
                                                    obtain ⟨y122, hy122⟩ : ∃ y_ : List (S33), y_ = (x6_2 ++ [(⟨1, a0.extract (x7_2 : Int).toNat (x11_5 : Int).toNat, x7_2⟩ : S33)]) := ⟨_, rfl⟩
                                                    replace H : (doormanref06_All.l1 k5 a0 y122 x11_5) = some (r1, r2, r3) := by first | (rw [hy122]; with_reducible exact H) | (have H2_ := (Option.bind_some _ _).symm.trans H; rw [hy122]; with_reducible exact H2_) | (have H2_ := (Option.bind_some _ _).symm.trans H; with_reducible exact H2_) | with_reducible exact H | (rw [hy122]; exact H) | exact H
                                                    have Ny122 := Aside0.mk hy122
                                                    clear hy122
                                                    have H' := Aside0.mk H
                                                    clear H
                                                    go_wp2_with (first | (go_at_call 61; (with_reducible refine (doormanref02_May.calls k5 a0 x11_5 false _ A35.out).mono ?_); rintro e w' ⟨rfl, ⟨nd, rfl⟩⟩) | ((with_reducible refine gate_builtin (b := .append) (xs := #[.tmp 117, .tmp 124]) rfl ?_); (try (refine gate_guard (by rfl) ?_; dsimp only)); at_builtin; refine Kd.R_append k33 (w0 := w) w.heap.size rfl (.tmp 117) (.tmp 124) 27 33 (.agg #[(.int .i64 0), (.string ⟨#[]⟩), (.int .i64 0)]) 32 rfl Tryd.underlying27 info33 rfl (by decide) (by omega) u6 x6_2 (⟨1, a0.extract (x7_2 : Int).toNat (x11_5 : Int).toNat, x7_2⟩ : S33) [.int .i64 1, .string (a0.extract (x7_2 : Int).toNat (x11_5 : Int).toNat), .int .i64 x7_2] (fun _ => True) (fun _ => False) rfl rfl ?aP (fun _ hk => hk.elim) ?aF ?aO ?aB ?aS ?aL ?_; (case aP => exact k33_mkM _ _ _ (⟨1, a0.extract (x7_2 : Int).toNat (x11_5 : Int).toNat, x7_2⟩ : S33)); (case aB => exact (by repeat (first | (with_reducible first | exact HB.out | apply below_alloc | apply pw_below_drewN | apply below_drew1) | exact HB.out))); (case aF => exact (fun _ _ => trivial)); (case aO => exact (by (with_reducible repeat (first | apply Kd.R_alloc | apply Kd.R_drewN | apply Kd.R_drew)); exact HO_6.out)); (case aS => exact (below_size (by repeat (first | (with_reducible first | exact HB.out | apply below_alloc | apply pw_below_drewN | apply below_drew1) | exact HB.out)))); (case aL => have := LMc42.out; omega); intro v123 w43 ho hb hg hat; rw [← Ny122.out] at ho; have n0_ := Aside0.mk (hb); have n1_ := Aside0.mk (ho); clear HB; clear HO_6; have HB := n0_; have HO124 := n1_; clear n0_ n1_; clear ho hb hg hat))
                                                    go_roundg k5
                                                    case measure => have := HK1.out; have := HK2.out; have := HJ11.out; have := HJ21.out; have := HK5.out; omega
                                                    case rel => exact ⟨(y122), (x11_5), (by first | rfl | (simp; done) | (simp [*]; done)), H', ⟨by have := HK1.out; have := HK2.out; have := HJ11.out; have := HJ21.out; have := HK5.out; omega⟩, ⟨by (with_reducible repeat (first | apply Kd.R_alloc | apply Kd.R_drewN | apply Kd.R_drew)); exact HO124.out⟩, ⟨by repeat (first | (with_reducible first | exact HB.out | apply below_alloc | apply pw_below_drewN | apply below_drew1) | exact HB.out)⟩⟩
                                                  · rw [if_neg c42] at H
                                                    exact absurd H (by simp)
                                                · rw [if_neg c41] at H
                                                  exact absurd H (by simp)
                                              · rw [if_neg c40] at H
                                                exact absurd H (by simp)
                                            · rw [if_neg c39] at H
                                              exact absurd H (by simp)
                                      · rw [if_neg c34] at H
                                        have c34b0 : decide (x11_5 < (a0.size : Int)) = false := decide_eq_false c34
                                        clear c34
                                        by_cases c44 : x12_5 > 24
                                        · rw [if_pos c44] at H
                                          have c44b0 : decide (24 < x12_5) = true := decide_eq_true c44
                                          clear c44
                                          simp only [Option.some.injEq, Prod.mk.injEq] at H
                                          obtain ⟨rfl, rfl, rfl⟩ := H
                                          go_wp2
                                          go_ret3
                                          exact ⟨_, by first | rfl | (simp [errW_none, errW_some] <;> rfl) | (simp [*, errW_none, errW_some] <;> rfl), by first | exact Kd.R_nil _ _ _ _ _ | exact Kd.N_nil _ _ _ _ _ | exact Kd.V_nil _ _ _ _ _ | exact Kd.Q_nil _ _ _ _ _ | exact Kd.S_nil _ _ _ _ _, by repeat (first | (with_reducible first | exact HB.out | apply below_alloc | apply pw_below_drewN | apply below_drew1) | exact HB.out)⟩
                                        · rw [if_neg c44] at H
                                          have c44b0 : decide (24 < x12_5) = false := decide_eq_false c44
                                          clear c44
                                          by_cases c45 : 0 ≤ x7_2
                                          · rw [if_pos c45] at H
                                            have c45b0 := eq_true c45
                                            have c45b1 : decide (0 ≤ x7_2) = true := decide_eq_true c45
                                            clear c45
                                            by_cases c46 : x7_2 ≤ x11_5
                                            · rw [if_pos c46] at H
                                              have c46b0 := eq_true c46
                                              have c46b1 : decide (x7_2 ≤ x11_5) = true := decide_eq_true c46
                                              clear c46
                                              by_cases c47 : x11_5 ≤ (a0.size : Int)
                                              · rw [if_pos c47] at H
                                                have c47b0 := eq_true c47
                                                have c47b1 : decide (x11_5 ≤ (a0.size : Int)) = true := decide_eq_true c47
                                                clear c47
                                                by_cases c48 : x6_2.length < 4398046511104
                                                · rw [if_pos c48] at H
                                                  have LMc48 := Aside0.mk c48
                                                  clear c48
                                                  obtain ⟨y125, hy125⟩ : ∃ y_ : List (S33), y_ = (x6_2 ++ [(⟨1, a0.extract (x7_2 : Int).toNat (x11_5 : Int).toNat, x7_2⟩ : S33)]) := ⟨_, rfl⟩
                                                  replace H : (doormanref06_All.l1 k5 a0 y125 x11_5) = some (r1, r2, r3) := by first | (rw [hy125]; with_reducible exact H) | (have H2_ := (Option.bind_some _ _).symm.trans H; rw [hy125]; with_reducible exact H2_) | (have H2_ := (Option.bind_some _ _).symm.trans H; with_reducible exact H2_) | with_reducible exact H | (rw [hy125]; exact H) | exact H
                                                  have Ny125 := Aside0.mk hy125
                                                  clear hy125
                                                  have H' := Aside0.mk H
                                                  clear H
                                                  go_wp2_with (first | ((with_reducible refine gate_builtin (b := .append) (xs := #[.tmp 117, .tmp 124]) rfl ?_); (try (refine gate_guard (by rfl) ?_; dsimp only)); at_builtin; refine Kd.R_append k33 (w0 := w) w.heap.size rfl (.tmp 117) (.tmp 124) 27 33 (.agg #[(.int .i64 0), (.string ⟨#[]⟩), (.int .i64 0)]) 32 rfl Tryd.underlying27 info33 rfl (by decide) (by omega) u6 x6_2 (⟨1, a0.extract (x7_2 : Int).toNat (x11_5 : Int).toNat, x7_2⟩ : S33) [.int .i64 1, .string (a0.extract (x7_2 : Int).toNat (x11_5 : Int).toNat), .int .i64 x7_2] (fun _ => True) (fun _ => False) rfl rfl ?aP (fun _ hk => hk.elim) ?aF ?aO ?aB ?aS ?aL ?_; (case aP => exact k33_mkM _ _ _ (⟨1, a0.extract (x7_2 : Int).toNat (x11_5 : Int).toNat, x7_2⟩ : S33)); (case aB => exact (by repeat (first | (with_reducible first | exact HB.out | apply below_alloc | apply pw_below_drewN | apply below_drew1) | exact HB.out))); (case aF => exact (fun _ _ => trivial)); (case aO => exact (by (with_reducible repeat (first | apply Kd.R_alloc | apply Kd.R_drewN | apply Kd.R_drew)); exact HO_6.out)); (case aS => exact (below_size (by repeat (first | (with_reducible first | exact HB.out | apply below_alloc | apply pw_below_drewN | apply below_drew1) | exact HB.out)))); (case aL => have := LMc48.out; omega); intro v126 w49 ho hb hg hat; rw [← Ny125.out] at ho; have n0_ := Aside0.mk (hb); have n1_ := Aside0.mk (ho); clear HB; clear HO_6; have HB := n0_; have HO127 := n1_; clear n0_ n1_; clear ho hb hg hat))
                                                  go_roundg k5
                                                  case measure => have := HK1.out; have := HK2.out; have := HJ11.out; have := HJ21.out; have := HK5.out; omega
                                                  case rel => exact ⟨(y125), (x11_5), (by first | rfl | (simp; done) | (simp [*]; done)), H', ⟨by have := HK1.out; have := HK2.out; have := HJ11.out; have := HJ21.out; have := HK5.out; omega⟩, ⟨by (with_reducible repeat (first | apply Kd.R_alloc | apply Kd.R_drewN | apply Kd.R_drew)); exact HO127.out⟩, ⟨by repeat (first | (with_reducible first | exact HB.out | apply below_alloc | apply pw_below_drewN | apply below_drew1) | exact HB.out)⟩⟩
                                                · rw [if_neg c48] at H
                                                  exact absurd H (by simp)
                                              · rw [if_neg c47] at H
                                                exact absurd H (by simp)
                                            · rw [if_neg c46] at H
                                              exact absurd H (by simp)
                                          · rw [if_neg c45] at H
                                            exact absurd H (by simp)
                                · replace c33 := Bool.eq_false_iff.mpr c33
                                  subst c33
                                  have H1 : (some (([] : List (S33)), 30, x7_2)) = some (r1, r2, r3) := by rw [if_neg (show ¬ (false = true) by decide)] at H; exact H
                                  clear H
                                  have H := H1
                                  clear H1
                                  simp only [Option.some.injEq, Prod.mk.injEq] at H
                                  obtain ⟨rfl, rfl, rfl⟩ := H
                                  go_wp2
                                  go_ret3
                                  exact ⟨_, by first | rfl | (simp [errW_none, errW_some] <;> rfl) | (simp [*, errW_none, errW_some] <;> rfl), by first | exact Kd.R_nil _ _ _ _ _ | exact Kd.N_nil _ _ _ _ _ | exact Kd.V_nil _ _ _ _ _ | exact Kd.Q_nil _ _ _ _ _ | exact Kd.S_nil _ _ _ _ _, by repeat (first | (with_reducible first | exact HB.out | apply below_alloc | apply pw_below_drewN | apply below_drew1) | exact HB.out)⟩
                · rw [if_neg c8] at H
                  exact absurd H (by simp)
              · rw [if_neg c7] at H
                have c7b0 : decide (x7_2 < (a0.size : Int)) = false := decide_eq_false c7
                clear c7
                by_cases c50 : x6_2.length < 4398046511104
                · rw [if_pos c50] at H
                  have LMc50 := Aside0.mk c50
                  clear c50
                  obtain ⟨y112, hy112⟩ : ∃ y_ : List (S33), y_ = (x6_2 ++ [(⟨3, (⟨#[]⟩ : ByteArray), (a0.size : Int)⟩ : S33)]) := ⟨_, rfl⟩
                  replace H : (some (y112, 0, 0)) = some (r1, r2, r3) := by first | (rw [hy112]; with_reducible exact H) | (have H2_ := (Option.bind_some _ _).symm.trans H; rw [hy112]; with_reducible exact H2_) | (have H2_ := (Option.bind_some _ _).symm.trans H; with_reducible exact H2_) | with_reducible exact H | (rw [hy112]; exact H) | exact H
                  have Ny112 := Aside0.mk hy112
                  clear hy112
                  simp only [Option.some.injEq, Prod.mk.injEq] at H
                  obtain ⟨rfl, rfl, rfl⟩ := H
                  go_wp2_with (first | ((with_reducible refine gate_builtin (b := .append) (xs := #[.tmp 127, .tmp 131]) rfl ?_); (try (refine gate_guard (by rfl) ?_; dsimp only)); at_builtin; refine Kd.R_append k33 (w0 := w) w.heap.size rfl (.tmp 127) (.tmp 131) 27 33 (.agg #[(.int .i64 0), (.string ⟨#[]⟩), (.int .i64 0)]) 32 rfl Tryd.underlying27 info33 rfl (by decide) (by omega) u6 x6_2 (⟨3, (⟨#[]⟩ : ByteArray), (a0.size : Int)⟩ : S33) [.int .i64 3, .string (⟨#[]⟩ : ByteArray), .int .i64 (a0.size : Int)] (fun _ => True) (fun _ => False) rfl rfl ?aP (fun _ hk => hk.elim) ?aF ?aO ?aB ?aS ?aL ?_; (case aP => exact k33_mkM _ _ _ (⟨3, (⟨#[]⟩ : ByteArray), (a0.size : Int)⟩ : S33)); (case aB => exact (by repeat (first | (with_reducible first | exact HB.out | apply below_alloc | apply pw_below_drewN | apply below_drew1) | exact HB.out))); (case aF => exact (fun _ _ => trivial)); (case aO => exact (by (with_reducible repeat (first | apply Kd.R_alloc | apply Kd.R_drewN | apply Kd.R_drew)); exact HO_6.out)); (case aS => exact (below_size (by repeat (first | (with_reducible first | exact HB.out | apply below_alloc | apply pw_below_drewN | apply below_drew1) | exact HB.out)))); (case aL => have := LMc50.out; omega); intro v113 w51 ho hb hg hat; rw [← Ny112.out] at ho; have n0_ := Aside0.mk (hb); have n1_ := Aside0.mk (ho); clear HB; clear HO_6; have HB := n0_; have HO114 := n1_; clear n0_ n1_; clear ho hb hg hat))
                  go_ret3
                  exact ⟨_, by first | rfl | (simp [errW_none, errW_some] <;> rfl) | (simp [*, errW_none, errW_some] <;> rfl), by (with_reducible repeat (first | apply Kd.R_alloc | apply Kd.R_drewN | apply Kd.R_drew)); exact HO114.out, by repeat (first | (with_reducible first | exact HB.out | apply below_alloc | apply pw_below_drewN | apply below_drew1) | exact HB.out)⟩
                · rw [if_neg c50] at H
                  exact absurd H (by simp)

end Go.Proofs.YtkgnhghaiopgcaaDoor.Nq
