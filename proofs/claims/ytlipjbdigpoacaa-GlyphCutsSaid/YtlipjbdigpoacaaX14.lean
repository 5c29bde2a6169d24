-- Written by a program of this session (wip/tools/drive.py) for this seat, partly by the kit's print.py; some functions by hand.
import Derived.Test.YtlipjbdigpoacaaX0
import Derived.Test.YtlipjbdigpoacaaX1
import Derived.Test.YtlipjbdigpoacaaX2
import Derived.Test.YtlipjbdigpoacaaX4
import Derived.Test.YtlipjbdigpoacaaX5
import Derived.Test.YtlipjbdigpoacaaX8
namespace Go.Proofs.Ytlipjbdigpoacaa.X
open Go.RowKit Go.Proofs.YtlipjbdigpoacaaW.PrintWords Go.Proofs.YtlipjbdigpoacaaW.PrintLast Go.Proofs.YtlipjbdigpoacaaW.PrintMore
attribute [local go_sem] max2_int min2_int max_two min_two max_three min_three max_four min_four   -- for this text's walks alone
set_option linter.unusedVariables false
set_option linter.unusedSimpArgs false

/-! ### doormanlaw02_GlyphWhere: function 7 -/
mutual
def doormanlaw02_GlyphWhere.j0 : Nat → ByteArray → Int → Int → Int → ByteArray → Int → Int → Bool → Option (Bool)
  | 0, _, _, _, _, _, _, _, _ => none
  | k + 1, x0, x6, x7, x8, x9, x11, x12, x100 => if x100 = true then (some false) else (if x9.toList = ([] : List UInt8) then (doormanlaw02_GlyphWhere.j1 k x7 x8 x9 x11 x12 true) else ((glyph_Valid.f x0).bind fun t208 => (if t208 = true then (if 0 ≤ x6 then (if x6 ≤ (x0.size : Int) then ((glyph_Valid.f (x0.extract (x6 : Int).toNat x0.size)).bind fun t209 => (doormanlaw02_GlyphWhere.j1 k x7 x8 x9 x11 x12 (!t209))) else (none)) else (none)) else (doormanlaw02_GlyphWhere.j1 k x7 x8 x9 x11 x12 true))))
def doormanlaw02_GlyphWhere.j1 : Nat → Int → Int → ByteArray → Int → Int → Bool → Option (Bool)
  | 0, _, _, _, _, _, _ => none
  | k + 1, x7, x8, x9, x11, x12, x114 => if x114 = true then (some true) else (if x9.toList = ([10] : List UInt8) then (if x11 = (wrap64 (x7 + 1)) then (some (x12 == 1)) else (some false)) else (if x11 = x7 then (some (x12 == (wrap64 (x8 + 1)))) else (some false)))
end
def doormanlaw02_GlyphWhere.f (k : Nat) (a0 : ByteArray) (a1 : Int) : Option (Bool) := (doormanlaw02_awake.f).bind fun t195 => (if t195 = true then (if (a0.size : Int) > 200 then (some true) else (if (wrap64 ((a0.size : Int) + 1)) = 0 then (none) else ((glyph_Where.f a0 (Int.tmod (wrap64 (a1)) (wrap64 ((a0.size : Int) + 1)))).bind fun bt196 => (if 0 ≤ (Int.tmod (wrap64 (a1)) (wrap64 ((a0.size : Int) + 1))) then (if (Int.tmod (wrap64 (a1)) (wrap64 ((a0.size : Int) + 1))) ≤ (a0.size : Int) then ((glyph_Cut.f (a0.extract ((Int.tmod (wrap64 (a1)) (wrap64 ((a0.size : Int) + 1))) : Int).toNat a0.size) 1).bind fun bt198 => ((glyph_Where.f a0 (wrap64 ((Int.tmod (wrap64 (a1)) (wrap64 ((a0.size : Int) + 1))) + (bt198.1.size : Int)))).bind fun bt200 => ((glyph_Where.f a0 (-3)).bind fun bt202 => ((glyph_Where.f a0 (wrap64 ((a0.size : Int) + 9))).bind fun bt204 => ((glyph_Where.f a0 (a0.size : Int)).bind fun bt206 => (if bt202.1 = 1 then (if bt202.2 = 1 then (if bt204.1 = bt206.1 then (if bt204.2 = bt206.2 then (doormanlaw02_GlyphWhere.j0 k a0 (Int.tmod (wrap64 (a1)) (wrap64 ((a0.size : Int) + 1))) bt196.1 bt196.2 bt198.1 bt200.1 bt200.2 ((wrap64 ((bt198.1.size : Int) + (bt198.2.size : Int))) != (wrap64 ((a0.size : Int) - (Int.tmod (wrap64 (a1)) (wrap64 ((a0.size : Int) + 1))))))) else (doormanlaw02_GlyphWhere.j0 k a0 (Int.tmod (wrap64 (a1)) (wrap64 ((a0.size : Int) + 1))) bt196.1 bt196.2 bt198.1 bt200.1 bt200.2 true)) else (doormanlaw02_GlyphWhere.j0 k a0 (Int.tmod (wrap64 (a1)) (wrap64 ((a0.size : Int) + 1))) bt196.1 bt196.2 bt198.1 bt200.1 bt200.2 true)) else (doormanlaw02_GlyphWhere.j0 k a0 (Int.tmod (wrap64 (a1)) (wrap64 ((a0.size : Int) + 1))) bt196.1 bt196.2 bt198.1 bt200.1 bt200.2 true)) else (doormanlaw02_GlyphWhere.j0 k a0 (Int.tmod (wrap64 (a1)) (wrap64 ((a0.size : Int) + 1))) bt196.1 bt196.2 bt198.1 bt200.1 bt200.2 true))))))) else (none)) else (none))))) else (some false))
theorem doormanlaw02_GlyphWhere.mono_l : ∀ k, (∀ y0 y1 y2 y3 y4 y5 y6 y7, LeO (doormanlaw02_GlyphWhere.j0 k y0 y1 y2 y3 y4 y5 y6 y7) (doormanlaw02_GlyphWhere.j0 (k + 1) y0 y1 y2 y3 y4 y5 y6 y7)) ∧ (∀ y0 y1 y2 y3 y4 y5, LeO (doormanlaw02_GlyphWhere.j1 k y0 y1 y2 y3 y4 y5) (doormanlaw02_GlyphWhere.j1 (k + 1) y0 y1 y2 y3 y4 y5))
  | 0 => ⟨fun _ _ _ _ _ _ _ _ r h => by simp [doormanlaw02_GlyphWhere.j0] at h, fun _ _ _ _ _ _ r h => by simp [doormanlaw02_GlyphWhere.j1] at h⟩
  | k + 1 => by
    obtain ⟨ih0, ih1⟩ := doormanlaw02_GlyphWhere.mono_l k
    refine ⟨?_, ?_⟩
    · intro y0 y1 y2 y3 y4 y5 y6 y7
      unfold doormanlaw02_GlyphWhere.j0
      repeat' first
      | (with_reducible exact ih0 _ _ _ _ _ _ _ _)
      | (with_reducible exact ih1 _ _ _ _ _ _)
      | (with_reducible exact LeO.refl _)
      | (with_reducible exact LeO.none _)
      | (with_reducible refine LeO.ite ?_ ?_)
      | (with_reducible refine LeO.bind ?_ (fun _ => ?_))
      | exact ih0 _ _ _ _ _ _ _ _
      | exact ih1 _ _ _ _ _ _
      | exact LeO.none _
      | refine LeO.ite ?_ ?_
      | refine LeO.bind ?_ (fun _ => ?_)
    · intro y0 y1 y2 y3 y4 y5
      unfold doormanlaw02_GlyphWhere.j1
      repeat' first
      | (with_reducible exact ih0 _ _ _ _ _ _ _ _)
      | (with_reducible exact ih1 _ _ _ _ _ _)
      | (with_reducible exact LeO.refl _)
      | (with_reducible exact LeO.none _)
      | (with_reducible refine LeO.ite ?_ ?_)
      | (with_reducible refine LeO.bind ?_ (fun _ => ?_))
      | exact ih0 _ _ _ _ _ _ _ _
      | exact ih1 _ _ _ _ _ _
      | exact LeO.none _
      | refine LeO.ite ?_ ?_
      | refine LeO.bind ?_ (fun _ => ?_)
theorem doormanlaw02_GlyphWhere.mono : ∀ a0 a1 k, LeO (doormanlaw02_GlyphWhere.f k a0 a1) (doormanlaw02_GlyphWhere.f (k + 1) a0 a1) := by
  intro a0 a1 k
  obtain ⟨ih0, ih1⟩ := doormanlaw02_GlyphWhere.mono_l k
  unfold doormanlaw02_GlyphWhere.f
  repeat' first
      | (with_reducible exact ih0 _ _ _ _ _ _ _ _)
      | (with_reducible exact ih1 _ _ _ _ _ _)
      | (with_reducible exact LeO.refl _)
      | (with_reducible exact LeO.none _)
      | (with_reducible refine LeO.ite ?_ ?_)
      | (with_reducible refine LeO.bind ?_ (fun _ => ?_))
      | exact ih0 _ _ _ _ _ _ _ _
      | exact ih1 _ _ _ _ _ _
      | exact LeO.none _
      | refine LeO.ite ?_ ?_
      | refine LeO.bind ?_ (fun _ => ?_)
set_option maxHeartbeats 8000000 in
set_option maxRecDepth 100000 in
theorem doormanlaw02_GlyphWhere.calls (k : Nat) (a0 : ByteArray) (a1 : Int) (r : Bool) (w : World) (h : doormanlaw02_GlyphWhere.f k a0 a1 = some r) :
    Calls Try.prog 7 #[.string a0, .int .u8 a1] w fun e w' => e = .returned (.bool r) ∧ Below w.heap.size w w' := by
  have HB := Aside0.mk (Below.refl w.heap.size w)
  have H : ((doormanlaw02_awake.f).bind fun t195 => (if t195 = true then (if (a0.size : Int) > 200 then (some true) else (if (wrap64 ((a0.size : Int) + 1)) = 0 then (none) else ((glyph_Where.f a0 (Int.tmod (wrap64 (a1)) (wrap64 ((a0.size : Int) + 1)))).bind fun bt196 => (if 0 ≤ (Int.tmod (wrap64 (a1)) (wrap64 ((a0.size : Int) + 1))) then (if (Int.tmod (wrap64 (a1)) (wrap64 ((a0.size : Int) + 1))) ≤ (a0.size : Int) then ((glyph_Cut.f (a0.extract ((Int.tmod (wrap64 (a1)) (wrap64 ((a0.size : Int) + 1))) : Int).toNat a0.size) 1).bind fun bt198 => ((glyph_Where.f a0 (wrap64 ((Int.tmod (wrap64 (a1)) (wrap64 ((a0.size : Int) + 1))) + (bt198.1.size : Int)))).bind fun bt200 => ((glyph_Where.f a0 (-3)).bind fun bt202 => ((glyph_Where.f a0 (wrap64 ((a0.size : Int) + 9))).bind fun bt204 => ((glyph_Where.f a0 (a0.size : Int)).bind fun bt206 => (if bt202.1 = 1 then (if bt202.2 = 1 then (if bt204.1 = bt206.1 then (if bt204.2 = bt206.2 then (doormanlaw02_GlyphWhere.j0 k a0 (Int.tmod (wrap64 (a1)) (wrap64 ((a0.size : Int) + 1))) bt196.1 bt196.2 bt198.1 bt200.1 bt200.2 ((wrap64 ((bt198.1.size : Int) + (bt198.2.size : Int))) != (wrap64 ((a0.size : Int) - (Int.tmod (wrap64 (a1)) (wrap64 ((a0.size : Int) + 1))))))) else (doormanlaw02_GlyphWhere.j0 k a0 (Int.tmod (wrap64 (a1)) (wrap64 ((a0.size : Int) + 1))) bt196.1 bt196.2 bt198.1 bt200.1 bt200.2 true)) else (doormanlaw02_GlyphWhere.j0 k a0 (Int.tmod (wrap64 (a1)) (wrap64 ((a0.size : Int) + 1))) bt196.1 bt196.2 bt198.1 bt200.1 bt200.2 true)) else (doormanlaw02_GlyphWhere.j0 k a0 (Int.tmod (wrap64 (a1)) (wrap64 ((a0.size : Int) + 1))) bt196.1 bt196.2 bt198.1 bt200.1 bt200.2 true)) else (doormanlaw02_GlyphWhere.j0 k a0 (Int.tmod (wrap64 (a1)) (wrap64 ((a0.size : Int) + 1))) bt196.1 bt196.2 bt198.1 bt200.1 bt200.2 true))))))) else (none)) else (none))))) else (some false))) = some r := h
  clear h
  replace H := Option.bind_eq_some_iff.mp H
  obtain ⟨t195, A30, H⟩ := H
  replace H : (if t195 = true then (if (a0.size : Int) > 200 then (some true) else (if (wrap64 ((a0.size : Int) + 1)) = 0 then (none) else ((glyph_Where.f a0 (Int.tmod (wrap64 (a1)) (wrap64 ((a0.size : Int) + 1)))).bind fun bt196 => (if 0 ≤ (Int.tmod (wrap64 (a1)) (wrap64 ((a0.size : Int) + 1))) then (if (Int.tmod (wrap64 (a1)) (wrap64 ((a0.size : Int) + 1))) ≤ (a0.size : Int) then ((glyph_Cut.f (a0.extract ((Int.tmod (wrap64 (a1)) (wrap64 ((a0.size : Int) + 1))) : Int).toNat a0.size) 1).bind fun bt198 => ((glyph_Where.f a0 (wrap64 ((Int.tmod (wrap64 (a1)) (wrap64 ((a0.size : Int) + 1))) + (bt198.1.size : Int)))).bind fun bt200 => ((glyph_Where.f a0 (-3)).bind fun bt202 => ((glyph_Where.f a0 (wrap64 ((a0.size : Int) + 9))).bind fun bt204 => ((glyph_Where.f a0 (a0.size : Int)).bind fun bt206 => (if bt202.1 = 1 then (if bt202.2 = 1 then (if bt204.1 = bt206.1 then (if bt204.2 = bt206.2 then (doormanlaw02_GlyphWhere.j0 k a0 (Int.tmod (wrap64 (a1)) (wrap64 ((a0.size : Int) + 1))) bt196.1 bt196.2 bt198.1 bt200.1 bt200.2 ((wrap64 ((bt198.1.size : Int) + (bt198.2.size : Int))) != (wrap64 ((a0.size : Int) - (Int.tmod (wrap64 (a1)) (wrap64 ((a0.size : Int) + 1))))))) else (doormanlaw02_GlyphWhere.j0 k a0 (Int.tmod (wrap64 (a1)) (wrap64 ((a0.size : Int) + 1))) bt196.1 bt196.2 bt198.1 bt200.1 bt200.2 true)) else (doormanlaw02_GlyphWhere.j0 k a0 (Int.tmod (wrap64 (a1)) (wrap64 ((a0.size : Int) + 1))) bt196.1 bt196.2 bt198.1 bt200.1 bt200.2 true)) else (doormanlaw02_GlyphWhere.j0 k a0 (Int.tmod (wrap64 (a1)) (wrap64 ((a0.size : Int) + 1))) bt196.1 bt196.2 bt198.1 bt200.1 bt200.2 true)) else (doormanlaw02_GlyphWhere.j0 k a0 (Int.tmod (wrap64 (a1)) (wrap64 ((a0.size : Int) + 1))) bt196.1 bt196.2 bt198.1 bt200.1 bt200.2 true))))))) else (none)) else (none))))) else (some false)) = some r := H
  have A3 := Aside0.mk A30
  clear A30
  by_cases c4 : t195 = true
  · subst c4
    have H1 : (if (a0.size : Int) > 200 then (some true) else (if (wrap64 ((a0.size : Int) + 1)) = 0 then (none) else ((glyph_Where.f a0 (Int.tmod (wrap64 (a1)) (wrap64 ((a0.size : Int) + 1)))).bind fun bt196 => (if 0 ≤ (Int.tmod (wrap64 (a1)) (wrap64 ((a0.size : Int) + 1))) then (if (Int.tmod (wrap64 (a1)) (wrap64 ((a0.size : Int) + 1))) ≤ (a0.size : Int) then ((glyph_Cut.f (a0.extract ((Int.tmod (wrap64 (a1)) (wrap64 ((a0.size : Int) + 1))) : Int).toNat a0.size) 1).bind fun bt198 => ((glyph_Where.f a0 (wrap64 ((Int.tmod (wrap64 (a1)) (wrap64 ((a0.size : Int) + 1))) + (bt198.1.size : Int)))).bind fun bt200 => ((glyph_Where.f a0 (-3)).bind fun bt202 => ((glyph_Where.f a0 (wrap64 ((a0.size : Int) + 9))).bind fun bt204 => ((glyph_Where.f a0 (a0.size : Int)).bind fun bt206 => (if bt202.1 = 1 then (if bt202.2 = 1 then (if bt204.1 = bt206.1 then (if bt204.2 = bt206.2 then (doormanlaw02_GlyphWhere.j0 k a0 (Int.tmod (wrap64 (a1)) (wrap64 ((a0.size : Int) + 1))) bt196.1 bt196.2 bt198.1 bt200.1 bt200.2 ((wrap64 ((bt198.1.size : Int) + (bt198.2.size : Int))) != (wrap64 ((a0.size : Int) - (Int.tmod (wrap64 (a1)) (wrap64 ((a0.size : Int) + 1))))))) else (doormanlaw02_GlyphWhere.j0 k a0 (Int.tmod (wrap64 (a1)) (wrap64 ((a0.size : Int) + 1))) bt196.1 bt196.2 bt198.1 bt200.1 bt200.2 true)) else (doormanlaw02_GlyphWhere.j0 k a0 (Int.tmod (wrap64 (a1)) (wrap64 ((a0.size : Int) + 1))) bt196.1 bt196.2 bt198.1 bt200.1 bt200.2 true)) else (doormanlaw02_GlyphWhere.j0 k a0 (Int.tmod (wrap64 (a1)) (wrap64 ((a0.size : Int) + 1))) bt196.1 bt196.2 bt198.1 bt200.1 bt200.2 true)) else (doormanlaw02_GlyphWhere.j0 k a0 (Int.tmod (wrap64 (a1)) (wrap64 ((a0.size : Int) + 1))) bt196.1 bt196.2 bt198.1 bt200.1 bt200.2 true))))))) else (none)) else (none))))) = some r := by rw [if_pos rfl] at H; exact H
    clear H
    have H := H1
    clear H1
    by_cases c5 : (a0.size : Int) > 200
    · rw [if_pos c5] at H
      have c5b0 : decide (200 < (a0.size : Int)) = true := decide_eq_true c5
      have c5b1 : decide (200 < a0.size) = true := decide_eq_true (by omega)
      clear c5
      obtain rfl := Option.some.inj H
      go_enter Try.func7, Try.ntmps7
      go_wp2_with (first | ((with_reducible refine gate_callee (f := 9) rfl ?_); refine goesL_ (some 19) rfl rfl Try.func9 (by kernel_rfl) rfl #[] rfl (by (try simp only [List.map_toArray, List.map_cons, List.map_nil]); first | done | rfl | (simp only [List.length_drop, List.length_take]; rfl)) ?_; (with_reducible refine (doormanlaw02_awake.calls  true _ A3.out).mono ?_); rintro e w6 ⟨rfl, hb⟩; refine ⟨_, rfl, ?_⟩; have n0_ := Aside0.mk (below_step (by repeat (first | (with_reducible first | exact HB.out | apply below_alloc | apply pw_below_drewN | apply below_drew1) | exact HB.out)) hb); clear HB; have HB := n0_; clear n0_; (try clear hb); (try clear hb2); (try clear hk); (try clear hi)))
      go_ret
      exact ⟨by first | rfl | (simp [errW_none, errW_some] <;> rfl) | (simp [*, errW_none, errW_some] <;> rfl), by repeat (first | (with_reducible first | exact HB.out | apply below_alloc | apply pw_below_drewN | apply below_drew1) | exact HB.out)⟩
    · rw [if_neg c5] at H
      have c5b0 : decide (200 < (a0.size : Int)) = false := decide_eq_false c5
      have c5b1 : decide (200 < a0.size) = false := decide_eq_false (by omega)
      clear c5
      by_cases c7 : (wrap64 ((a0.size : Int) + 1)) = 0
      · rw [if_pos c7] at H
        exact absurd H (by simp)
      · rw [if_neg c7] at H
        have c7b0 : ((wrap64 ((a0.size : Int) + 1)) == 0) = false := beq_eq_false_iff_ne.mpr c7
        have c7b1 : ((wrap64 ((a0.size : Int) + 1)) != 0) = true := bne_iff_ne.mpr c7
        replace H := Option.bind_eq_some_iff.mp H
        obtain ⟨⟨t196, t197⟩, A80, H⟩ := H
        replace H : (if 0 ≤ (Int.tmod (wrap64 (a1)) (wrap64 ((a0.size : Int) + 1))) then (if (Int.tmod (wrap64 (a1)) (wrap64 ((a0.size : Int) + 1))) ≤ (a0.size : Int) then ((glyph_Cut.f (a0.extract ((Int.tmod (wrap64 (a1)) (wrap64 ((a0.size : Int) + 1))) : Int).toNat a0.size) 1).bind fun bt198 => ((glyph_Where.f a0 (wrap64 ((Int.tmod (wrap64 (a1)) (wrap64 ((a0.size : Int) + 1))) + (bt198.1.size : Int)))).bind fun bt200 => ((glyph_Where.f a0 (-3)).bind fun bt202 => ((glyph_Where.f a0 (wrap64 ((a0.size : Int) + 9))).bind fun bt204 => ((glyph_Where.f a0 (a0.size : Int)).bind fun bt206 => (if bt202.1 = 1 then (if bt202.2 = 1 then (if bt204.1 = bt206.1 then (if bt204.2 = bt206.2 then (doormanlaw02_GlyphWhere.j0 k a0 (Int.tmod (wrap64 (a1)) (wrap64 ((a0.size : Int) + 1))) t196 t197 bt198.1 bt200.1 bt200.2 ((wrap64 ((bt198.1.size : Int) + (bt198.2.size : Int))) != (wrap64 ((a0.size : Int) - (Int.tmod (wrap64 (a1)) (wrap64 ((a0.size : Int) + 1))))))) else (doormanlaw02_GlyphWhere.j0 k a0 (Int.tmod (wrap64 (a1)) (wrap64 ((a0.size : Int) + 1))) t196 t197 bt198.1 bt200.1 bt200.2 true)) else (doormanlaw02_GlyphWhere.j0 k a0 (Int.tmod (wrap64 (a1)) (wrap64 ((a0.size : Int) + 1))) t196 t197 bt198.1 bt200.1 bt200.2 true)) else (doormanlaw02_GlyphWhere.j0 k a0 (Int.tmod (wrap64 (a1)) (wrap64 ((a0.size : Int) + 1))) t196 t197 bt198.1 bt200.1 bt200.2 true)) else (doormanlaw02_GlyphWhere.j0 k a0 (Int.tmod (wrap64 (a1)) (wrap64 ((a0.size : Int) + 1))) t196 t197 bt198.1 bt200.1 bt200.2 true))))))) else (none)) else (none)) = some r := H
        have A8 := Aside0.mk A80
        clear A80
        obtain ⟨ji9, hji9⟩ : ∃ j_ : Int, (Int.tmod (wrap64 (a1)) (wrap64 ((a0.size : Int) + 1))) = j_ := ⟨_, rfl⟩
        replace H : (if 0 ≤ (ji9) then (if (ji9) ≤ (a0.size : Int) then ((glyph_Cut.f (a0.extract ((ji9) : Int).toNat a0.size) 1).bind fun bt198 => ((glyph_Where.f a0 (wrap64 ((ji9) + (bt198.1.size : Int)))).bind fun bt200 => ((glyph_Where.f a0 (-3)).bind fun bt202 => ((glyph_Where.f a0 (wrap64 ((a0.size : Int) + 9))).bind fun bt204 => ((glyph_Where.f a0 (a0.size : Int)).bind fun bt206 => (if bt202.1 = 1 then (if bt202.2 = 1 then (if bt204.1 = bt206.1 then (if bt204.2 = bt206.2 then (doormanlaw02_GlyphWhere.j0 k a0 ji9 t196 t197 bt198.1 bt200.1 bt200.2 ((wrap64 ((bt198.1.size : Int) + (bt198.2.size : Int))) != (wrap64 ((a0.size : Int) - (ji9))))) else (doormanlaw02_GlyphWhere.j0 k a0 ji9 t196 t197 bt198.1 bt200.1 bt200.2 true)) else (doormanlaw02_GlyphWhere.j0 k a0 ji9 t196 t197 bt198.1 bt200.1 bt200.2 true)) else (doormanlaw02_GlyphWhere.j0 k a0 ji9 t196 t197 bt198.1 bt200.1 bt200.2 true)) else (doormanlaw02_GlyphWhere.j0 k a0 ji9 t196 t197 bt198.1 bt200.1 bt200.2 true))))))) else (none)) else (none)) = some r := by first | (rw [hji9] at H; exact H) | (simp only [hji9] at H ⊢; exact H)
        (try rw [hji9] at A3)
        (try rw [hji9] at A8)
        by_cases c10 : 0 ≤ (ji9)
        · rw [if_pos c10] at H
          have c10b0 := eq_true c10
          have c10b1 : decide (0 ≤ (ji9)) = true := decide_eq_true c10
          clear c10
          by_cases c11 : (ji9) ≤ (a0.size : Int)
          · rw [if_pos c11] at H
            have c11b0 := eq_true c11
            have c11b1 : decide ((ji9) ≤ (a0.size : Int)) = true := decide_eq_true c11
            clear c11
            replace H := Option.bind_eq_some_iff.mp H
            obtain ⟨⟨t198, t199⟩, A120, H⟩ := H
            replace H : ((glyph_Where.f a0 (wrap64 ((ji9) + (t198.size : Int)))).bind fun bt200 => ((glyph_Where.f a0 (-3)).bind fun bt202 => ((glyph_Where.f a0 (wrap64 ((a0.size : Int) + 9))).bind fun bt204 => ((glyph_Where.f a0 (a0.size : Int)).bind fun bt206 => (if bt202.1 = 1 then (if bt202.2 = 1 then (if bt204.1 = bt206.1 then (if bt204.2 = bt206.2 then (doormanlaw02_GlyphWhere.j0 k a0 ji9 t196 t197 t198 bt200.1 bt200.2 ((wrap64 ((t198.size : Int) + (t199.size : Int))) != (wrap64 ((a0.size : Int) - (ji9))))) else (doormanlaw02_GlyphWhere.j0 k a0 ji9 t196 t197 t198 bt200.1 bt200.2 true)) else (doormanlaw02_GlyphWhere.j0 k a0 ji9 t196 t197 t198 bt200.1 bt200.2 true)) else (doormanlaw02_GlyphWhere.j0 k a0 ji9 t196 t197 t198 bt200.1 bt200.2 true)) else (doormanlaw02_GlyphWhere.j0 k a0 ji9 t196 t197 t198 bt200.1 bt200.2 true)))))) = some r := H
            have A12 := Aside0.mk A120
            clear A120
            replace H := Option.bind_eq_some_iff.mp H
            obtain ⟨⟨t200, t201⟩, A130, H⟩ := H
            replace H : ((glyph_Where.f a0 (-3)).bind fun bt202 => ((glyph_Where.f a0 (wrap64 ((a0.size : Int) + 9))).bind fun bt204 => ((glyph_Where.f a0 (a0.size : Int)).bind fun bt206 => (if bt202.1 = 1 then (if bt202.2 = 1 then (if bt204.1 = bt206.1 then (if bt204.2 = bt206.2 then (doormanlaw02_GlyphWhere.j0 k a0 ji9 t196 t197 t198 t200 t201 ((wrap64 ((t198.size : Int) + (t199.size : Int))) != (wrap64 ((a0.size : Int) - (ji9))))) else (doormanlaw02_GlyphWhere.j0 k a0 ji9 t196 t197 t198 t200 t201 true)) else (doormanlaw02_GlyphWhere.j0 k a0 ji9 t196 t197 t198 t200 t201 true)) else (doormanlaw02_GlyphWhere.j0 k a0 ji9 t196 t197 t198 t200 t201 true)) else (doormanlaw02_GlyphWhere.j0 k a0 ji9 t196 t197 t198 t200 t201 true))))) = some r := H
            have A13 := Aside0.mk A130
            clear A130
            replace H := Option.bind_eq_some_iff.mp H
            obtain ⟨⟨t202, t203⟩, A140, H⟩ := H
            replace H : ((glyph_Where.f a0 (wrap64 ((a0.size : Int) + 9))).bind fun bt204 => ((glyph_Where.f a0 (a0.size : Int)).bind fun bt206 => (if t202 = 1 then (if t203 = 1 then (if bt204.1 = bt206.1 then (if bt204.2 = bt206.2 then (doormanlaw02_GlyphWhere.j0 k a0 ji9 t196 t197 t198 t200 t201 ((wrap64 ((t198.size : Int) + (t199.size : Int))) != (wrap64 ((a0.size : Int) - (ji9))))) else (doormanlaw02_GlyphWhere.j0 k a0 ji9 t196 t197 t198 t200 t201 true)) else (doormanlaw02_GlyphWhere.j0 k a0 ji9 t196 t197 t198 t200 t201 true)) else (doormanlaw02_GlyphWhere.j0 k a0 ji9 t196 t197 t198 t200 t201 true)) else (doormanlaw02_GlyphWhere.j0 k a0 ji9 t196 t197 t198 t200 t201 true)))) = some r := H
            have A14 := Aside0.mk A140
            clear A140
            replace H := Option.bind_eq_some_iff.mp H
            obtain ⟨⟨t204, t205⟩, A150, H⟩ := H
            replace H : ((glyph_Where.f a0 (a0.size : Int)).bind fun bt206 => (if t202 = 1 then (if t203 = 1 then (if t204 = bt206.1 then (if t205 = bt206.2 then (doormanlaw02_GlyphWhere.j0 k a0 ji9 t196 t197 t198 t200 t201 ((wrap64 ((t198.size : Int) + (t199.size : Int))) != (wrap64 ((a0.size : Int) - (ji9))))) else (doormanlaw02_GlyphWhere.j0 k a0 ji9 t196 t197 t198 t200 t201 true)) else (doormanlaw02_GlyphWhere.j0 k a0 ji9 t196 t197 t198 t200 t201 true)) else (doormanlaw02_GlyphWhere.j0 k a0 ji9 t196 t197 t198 t200 t201 true)) else (doormanlaw02_GlyphWhere.j0 k a0 ji9 t196 t197 t198 t200 t201 true))) = some r := H
            have A15 := Aside0.mk A150
            clear A150
            replace H := Option.bind_eq_some_iff.mp H
            obtain ⟨⟨t206, t207⟩, A160, H⟩ := H
            replace H : (if t202 = 1 then (if t203 = 1 then (if t204 = t206 then (if t205 = t207 then (doormanlaw02_GlyphWhere.j0 k a0 ji9 t196 t197 t198 t200 t201 ((wrap64 ((t198.size : Int) + (t199.size : Int))) != (wrap64 ((a0.size : Int) - (ji9))))) else (doormanlaw02_GlyphWhere.j0 k a0 ji9 t196 t197 t198 t200 t201 true)) else (doormanlaw02_GlyphWhere.j0 k a0 ji9 t196 t197 t198 t200 t201 true)) else (doormanlaw02_GlyphWhere.j0 k a0 ji9 t196 t197 t198 t200 t201 true)) else (doormanlaw02_GlyphWhere.j0 k a0 ji9 t196 t197 t198 t200 t201 true)) = some r := H
            have A16 := Aside0.mk A160
            clear A160
            have HC17 := Aside0.mk H
            clear H
            go_enter Try.func7, Try.ntmps7
            go_upto_region 13 with (first | ((with_reducible refine gate_callee (f := 9) rfl ?_); refine goesL_ (some 19) rfl rfl Try.func9 (by kernel_rfl) rfl #[] rfl (by (try simp only [List.map_toArray, List.map_cons, List.map_nil]); first | done | rfl | (simp only [List.length_drop, List.length_take]; rfl)) ?_; (with_reducible refine (doormanlaw02_awake.calls  true _ A3.out).mono ?_); rintro e w18 ⟨rfl, hb⟩; refine ⟨_, rfl, ?_⟩; have n0_ := Aside0.mk (below_step (by repeat (first | (with_reducible first | exact HB.out | apply below_alloc | apply pw_below_drewN | apply below_drew1) | exact HB.out)) hb); clear HB; have HB := n0_; clear n0_; (try clear hb); (try clear hb2); (try clear hk); (try clear hi)) | ((with_reducible refine gate_callee (f := 12) rfl ?_); refine goesL_ (some 34) rfl rfl Try.func12 (by kernel_rfl) rfl #[.string a0, .int .i64 ji9] rfl (by (try simp only [List.map_toArray, List.map_cons, List.map_nil]); first | done | (simp only [hji9]; rfl) | rfl | (simp only [List.length_drop, List.length_take]; rfl)) ?_; (with_reducible refine (glyph_Where.calls a0 ji9 t196 t197 _ A8.out).mono ?_); rintro e w19 ⟨rfl, hb⟩; refine ⟨_, rfl, ?_⟩; have n0_ := Aside0.mk (below_step (by repeat (first | (with_reducible first | exact HB.out | apply below_alloc | apply pw_below_drewN | apply below_drew1) | exact HB.out)) hb); clear HB; have HB := n0_; clear n0_; (try clear hb); (try clear hb2); (try clear hk); (try clear hi)) | ((with_reducible refine gate_callee (f := 10) rfl ?_); refine goesL_ (some 41) rfl rfl Try.func10 (by kernel_rfl) rfl #[.string (a0.extract ((ji9) : Int).toNat a0.size), .int .i64 1] rfl (by (try simp only [List.map_toArray, List.map_cons, List.map_nil]); first | done | (simp only [hji9]; rfl) | rfl | (simp only [List.length_drop, List.length_take]; rfl)) ?_; (with_reducible refine (glyph_Cut.calls (a0.extract ((ji9) : Int).toNat a0.size) 1 t198 t199 _ A12.out).mono ?_); rintro e w20 ⟨rfl, hb⟩; refine ⟨_, rfl, ?_⟩; have n0_ := Aside0.mk (below_step (by repeat (first | (with_reducible first | exact HB.out | apply below_alloc | apply pw_below_drewN | apply below_drew1) | exact HB.out)) hb); clear HB; have HB := n0_; clear n0_; (try clear hb); (try clear hb2); (try clear hk); (try clear hi)) | ((with_reducible refine gate_callee (f := 12) rfl ?_); refine goesL_ (some 50) rfl rfl Try.func12 (by kernel_rfl) rfl #[.string a0, .int .i64 (wrap64 ((ji9) + (t198.size : Int)))] rfl (by (try simp only [List.map_toArray, List.map_cons, List.map_nil]); first | done | (simp only [hji9]; rfl) | rfl | (simp only [List.length_drop, List.length_take]; rfl)) ?_; (with_reducible refine (glyph_Where.calls a0 (wrap64 ((ji9) + (t198.size : Int))) t200 t201 _ A13.out).mono ?_); rintro e w21 ⟨rfl, hb⟩; refine ⟨_, rfl, ?_⟩; have n0_ := Aside0.mk (below_step (by repeat (first | (with_reducible first | exact HB.out | apply below_alloc | apply pw_below_drewN | apply below_drew1) | exact HB.out)) hb); clear HB; have HB := n0_; clear n0_; (try clear hb); (try clear hb2); (try clear hk); (try clear hi)) | ((with_reducible refine gate_callee (f := 12) rfl ?_); refine goesL_ (some 55) rfl rfl Try.func12 (by kernel_rfl) rfl #[.string a0, .int .i64 (-3)] rfl (by (try simp only [List.map_toArray, List.map_cons, List.map_nil]); first | done | rfl | (simp only [List.length_drop, List.length_take]; rfl)) ?_; (with_reducible refine (glyph_Where.calls a0 (-3) t202 t203 _ A14.out).mono ?_); rintro e w22 ⟨rfl, hb⟩; refine ⟨_, rfl, ?_⟩; have n0_ := Aside0.mk (below_step (by repeat (first | (with_reducible first | exact HB.out | apply below_alloc | apply pw_below_drewN | apply below_drew1) | exact HB.out)) hb); clear HB; have HB := n0_; clear n0_; (try clear hb); (try clear hb2); (try clear hk); (try clear hi)) | ((with_reducible refine gate_callee (f := 12) rfl ?_); refine goesL_ (some 63) rfl rfl Try.func12 (by kernel_rfl) rfl #[.string a0, .int .i64 (wrap64 ((a0.size : Int) + 9))] rfl (by (try simp only [List.map_toArray, List.map_cons, List.map_nil]); first | done | rfl | (simp only [List.length_drop, List.length_take]; rfl)) ?_; (with_reducible refine (glyph_Where.calls a0 (wrap64 ((a0.size : Int) + 9)) t204 t205 _ A15.out).mono ?_); rintro e w23 ⟨rfl, hb⟩; refine ⟨_, rfl, ?_⟩; have n0_ := Aside0.mk (below_step (by repeat (first | (with_reducible first | exact HB.out | apply below_alloc | apply pw_below_drewN | apply below_drew1) | exact HB.out)) hb); clear HB; have HB := n0_; clear n0_; (try clear hb); (try clear hb2); (try clear hk); (try clear hi)) | ((with_reducible refine gate_callee (f := 12) rfl ?_); refine goesL_ (some 70) rfl rfl Try.func12 (by kernel_rfl) rfl #[.string a0, .int .i64 (a0.size : Int)] rfl (by (try simp only [List.map_toArray, List.map_cons, List.map_nil]); first | done | rfl | (simp only [List.length_drop, List.length_take]; rfl)) ?_; (with_reducible refine (glyph_Where.calls a0 (a0.size : Int) t206 t207 _ A16.out).mono ?_); rintro e w24 ⟨rfl, hb⟩; refine ⟨_, rfl, ?_⟩; have n0_ := Aside0.mk (below_step (by repeat (first | (with_reducible first | exact HB.out | apply below_alloc | apply pw_below_drewN | apply below_drew1) | exact HB.out)) hb); clear HB; have HB := n0_; clear n0_; (try clear hb); (try clear hb2); (try clear hk); (try clear hi)))
            (try simp only [Act.put, List.setIfInBounds_toArray, List.set_cons_zero, List.set_cons_succ])
            go_cut [100] (fun v100 wc => ∃ (kq : Nat) (x100_16 : Bool), v100 = .bool x100_16 ∧ Aside0 (doormanlaw02_GlyphWhere.j0 kq a0 ji9 t196 t197 t198 t200 t201 x100_16 = some r) ∧ Aside0 (kq ≤ k) ∧ Aside0 (Below w.heap.size w wc))
            case first =>
              have H := HC17.out
              clear HC17
              by_cases c25 : t202 = 1
              · rw [if_pos c25] at H
                have c25b0 : (t202 == 1) = true := beq_iff_eq.mpr c25
                have c25b1 : (t202 != 1) = false := bne_eq_false_iff_eq.mpr c25
                clear c25
                (first | rw [c25b0] | (simp only [i64_w, i32_w]; rw [c25b0]) | skip)
                by_cases c26 : t203 = 1
                · rw [if_pos c26] at H
                  have c26b0 : (t203 == 1) = true := beq_iff_eq.mpr c26
                  have c26b1 : (t203 != 1) = false := bne_eq_false_iff_eq.mpr c26
                  clear c26
                  by_cases c27 : t204 = t206
                  · rw [if_pos c27] at H
                    have c27b0 : (t204 == t206) = true := beq_iff_eq.mpr c27
                    have c27b1 : (t204 != t206) = false := bne_eq_false_iff_eq.mpr c27
                    clear c27
                    by_cases c28 : t205 = t207
                    · rw [if_pos c28] at H
                      have c28b0 : (t205 == t207) = true := beq_iff_eq.mpr c28
                      have c28b1 : (t205 != t207) = false := bne_eq_false_iff_eq.mpr c28
                      clear c28
                      have H' := Aside0.mk H
                      clear H
                      go_wp2
                      go_meet
                      case rel => exact ⟨_, (((wrap64 ((t198.size : Int) + (t199.size : Int))) != (wrap64 ((a0.size : Int) - (ji9))))), (by first | rfl | (simp; done) | (simp only [← hji9] <;> (first | rfl | simp)) | (simp [*]; done)), H', ⟨by first | omega | exact Nat.le_refl _⟩, ⟨by repeat (first | (with_reducible first | exact HB.out | apply below_alloc | apply pw_below_drewN | apply below_drew1) | exact HB.out)⟩⟩
                    · rw [if_neg c28] at H
                      have c28b0 : (t205 == t207) = false := beq_eq_false_iff_ne.mpr c28
                      have c28b1 : (t205 != t207) = true := bne_iff_ne.mpr c28
                      have H' := Aside0.mk H
                      clear H
                      go_wp2
                      go_meet
                      case rel => exact ⟨_, (true), (by first | rfl | (simp; done) | (simp [*]; done)), H', ⟨by first | omega | exact Nat.le_refl _⟩, ⟨by repeat (first | (with_reducible first | exact HB.out | apply below_alloc | apply pw_below_drewN | apply below_drew1) | exact HB.out)⟩⟩
                  · rw [if_neg c27] at H
                    have c27b0 : (t204 == t206) = false := beq_eq_false_iff_ne.mpr c27
                    have c27b1 : (t204 != t206) = true := bne_iff_ne.mpr c27
                    have H' := Aside0.mk H
                    clear H
                    go_wp2
                    go_meet
                    case rel => exact ⟨_, (true), (by first | rfl | (simp; done) | (simp [*]; done)), H', ⟨by first | omega | exact Nat.le_refl _⟩, ⟨by repeat (first | (with_reducible first | exact HB.out | apply below_alloc | apply pw_below_drewN | apply below_drew1) | exact HB.out)⟩⟩
                · rw [if_neg c26] at H
                  have c26b0 : (t203 == 1) = false := beq_eq_false_iff_ne.mpr c26
                  have c26b1 : (t203 != 1) = true := bne_iff_ne.mpr c26
                  have H' := Aside0.mk H
                  clear H
                  go_wp2
                  go_meet
                  case rel => exact ⟨_, (true), (by first | rfl | (simp; done) | (simp [*]; done)), H', ⟨by first | omega | exact Nat.le_refl _⟩, ⟨by repeat (first | (with_reducible first | exact HB.out | apply below_alloc | apply pw_below_drewN | apply below_drew1) | exact HB.out)⟩⟩
              · rw [if_neg c25] at H
                have c25b0 : (t202 == 1) = false := beq_eq_false_iff_ne.mpr c25
                have c25b1 : (t202 != 1) = true := bne_iff_ne.mpr c25
                (first | rw [c25b0] | (simp only [i64_w, i32_w]; rw [c25b0]) | skip)
                have H' := Aside0.mk H
                clear H
                go_wp2
                go_meet
                case rel => exact ⟨_, (true), (by first | rfl | (simp; done) | (simp [*]; done)), H', ⟨by first | omega | exact Nat.le_refl _⟩, ⟨by repeat (first | (with_reducible first | exact HB.out | apply below_alloc | apply pw_below_drewN | apply below_drew1) | exact HB.out)⟩⟩
            case rest =>
              clear HC17
              try clear c1
              try clear c2
              try clear p2
              try clear c4
              try clear c5
              try clear c5b0
              try clear c5b1
              try clear p6
              try clear c7
              try clear c7b0
              try clear c7b1
              try clear c9
              try clear c10
              try clear c10b0
              try clear c10b1
              try clear c11
              try clear c11b0
              try clear c11b1
              try clear c12
              try clear c25
              try clear c25b0
              try clear c25b1
              try clear c26
              try clear c26b0
              try clear c26b1
              try clear c27
              try clear c27b0
              try clear c27b1
              try clear c28
              try clear c28b0
              try clear c28b1
              obtain ⟨kq, x100_16, rfl, HA, HJ16, HB⟩ := hcut
              cases kq with
              | zero => exact absurd HA.out (by simp [doormanlaw02_GlyphWhere.j0])
              | succ kj16 =>
                have H := HA.out
                clear HA
                simp only [doormanlaw02_GlyphWhere.j0] at H
                by_cases c29 : x100_16 = true
                · subst c29
                  have H1 : (some false) = some r := by rw [if_pos rfl] at H; exact H
                  clear H
                  have H := H1
                  clear H1
                  obtain rfl := Option.some.inj H
                  go_wp2
                  go_ret
                  exact ⟨by first | rfl | (simp [errW_none, errW_some] <;> rfl) | (simp only [← hji9]; first | rfl | (simp [errW_none, errW_some] <;> rfl)) | (simp [*, errW_none, errW_some] <;> rfl), by repeat (first | (with_reducible first | exact HB.out | apply below_alloc | apply pw_below_drewN | apply below_drew1) | exact HB.out)⟩
                · replace c29 := Bool.eq_false_iff.mpr c29
                  subst c29
                  have H1 : (if t198.toList = ([] : List UInt8) then (doormanlaw02_GlyphWhere.j1 kj16 t196 t197 t198 t200 t201 true) else ((glyph_Valid.f a0).bind fun t208 => (if t208 = true then (if 0 ≤ ji9 then (if ji9 ≤ (a0.size : Int) then ((glyph_Valid.f (a0.extract (ji9 : Int).toNat a0.size)).bind fun t209 => (doormanlaw02_GlyphWhere.j1 kj16 t196 t197 t198 t200 t201 (!t209))) else (none)) else (none)) else (doormanlaw02_GlyphWhere.j1 kj16 t196 t197 t198 t200 t201 true)))) = some r := by rw [if_neg (show ¬ (false = true) by decide)] at H; exact H
                  clear H
                  have H := H1
                  clear H1
                  have HC30 := Aside0.mk H
                  clear H
                  go_upto_region 15 with (fail)
                  go_cut [114] (fun v114 wc => ∃ (kq : Nat) (x114_29 : Bool), v114 = .bool x114_29 ∧ Aside0 (doormanlaw02_GlyphWhere.j1 kq t196 t197 t198 t200 t201 x114_29 = some r) ∧ Aside0 (kq ≤ kj16) ∧ Aside0 (Below w.heap.size w wc))
                  case first =>
                    have H := HC30.out
                    clear HC30
                    by_cases c31 : t198.toList = ([] : List UInt8)
                    · rw [if_pos c31] at H
                      have c31b0 : (t198.toList == ([] : List UInt8)) = true := beq_iff_eq.mpr c31
                      have c31b1 : (t198.toList != ([] : List UInt8)) = false := bne_eq_false_iff_eq.mpr c31
                      clear c31
                      (first | rw [c31b0] | (simp only [i64_w, i32_w]; rw [c31b0]) | skip)
                      have H' := Aside0.mk H
                      clear H
                      go_wp2
                      go_meet
                      case rel => exact ⟨_, (true), (by first | rfl | (simp; done) | (simp [*]; done)), H', ⟨by have := HJ16.out; first | omega | exact Nat.le_refl _⟩, ⟨by repeat (first | (with_reducible first | exact HB.out | apply below_alloc | apply pw_below_drewN | apply below_drew1) | exact HB.out)⟩⟩
                    · rw [if_neg c31] at H
                      have c31b0 : (t198.toList == ([] : List UInt8)) = false := beq_eq_false_iff_ne.mpr c31
                      have c31b1 : (t198.toList != ([] : List UInt8)) = true := bne_iff_ne.mpr c31
                      (first | rw [c31b0] | (simp only [i64_w, i32_w]; rw [c31b0]) | skip)
                      replace H := Option.bind_eq_some_iff.mp H
                      obtain ⟨t208, A320, H⟩ := H
                      replace H : (if t208 = true then (if 0 ≤ ji9 then (if ji9 ≤ (a0.size : Int) then ((glyph_Valid.f (a0.extract (ji9 : Int).toNat a0.size)).bind fun t209 => (doormanlaw02_GlyphWhere.j1 kj16 t196 t197 t198 t200 t201 (!t209))) else (none)) else (none)) else (doormanlaw02_GlyphWhere.j1 kj16 t196 t197 t198 t200 t201 true)) = some r := H
                      have A32 := Aside0.mk A320
                      clear A320
                      by_cases c33 : t208 = true
                      · subst c33
                        have H1 : (if 0 ≤ ji9 then (if ji9 ≤ (a0.size : Int) then ((glyph_Valid.f (a0.extract (ji9 : Int).toNat a0.size)).bind fun t209 => (doormanlaw02_GlyphWhere.j1 kj16 t196 t197 t198 t200 t201 (!t209))) else (none)) else (none)) = some r := by rw [if_pos rfl] at H; exact H
                        clear H
                        have H := H1
                        clear H1
                        by_cases c34 : 0 ≤ ji9
                        · rw [if_pos c34] at H
                          have c34b0 := eq_true c34
                          have c34b1 : decide (0 ≤ ji9) = true := decide_eq_true c34
                          clear c34
                          by_cases c35 : ji9 ≤ (a0.size : Int)
                          · rw [if_pos c35] at H
                            have c35b0 := eq_true c35
                            have c35b1 : decide (ji9 ≤ (a0.size : Int)) = true := decide_eq_true c35
                            clear c35
                            replace H := Option.bind_eq_some_iff.mp H
                            obtain ⟨t209, A360, H⟩ := H
                            replace H : (doormanlaw02_GlyphWhere.j1 kj16 t196 t197 t198 t200 t201 (!t209)) = some r := H
                            have A36 := Aside0.mk A360
                            clear A360
                            have H' := Aside0.mk H
                            clear H
                            go_wp2_with (first | (go_at_call 14; (with_reducible refine (glyph_Valid.calls a0 true _ A32.out).mono ?_); rintro e w37 ⟨rfl, hb⟩; have n0_ := Aside0.mk (below_step (by repeat (first | (with_reducible first | exact HB.out | apply below_alloc | apply pw_below_drewN | apply below_drew1) | exact HB.out)) hb); clear HB; have HB := n0_; clear n0_; (try clear hb); (try clear hb2); (try clear hk); (try clear hi)) | (go_at_call 14; (with_reducible refine (glyph_Valid.calls (a0.extract (ji9 : Int).toNat a0.size) t209 _ A36.out).mono ?_); rintro e w38 ⟨rfl, hb⟩; have n0_ := Aside0.mk (below_step (by repeat (first | (with_reducible first | exact HB.out | apply below_alloc | apply pw_below_drewN | apply below_drew1) | exact HB.out)) hb); clear HB; have HB := n0_; clear n0_; (try clear hb); (try clear hb2); (try clear hk); (try clear hi)))
                            go_meet
                            case rel => exact ⟨_, (!t209), (by first | rfl | (simp; done) | (simp [*]; done)), H', ⟨by have := HJ16.out; first | omega | exact Nat.le_refl _⟩, ⟨by repeat (first | (with_reducible first | exact HB.out | apply below_alloc | apply pw_below_drewN | apply below_drew1) | exact HB.out)⟩⟩
                          · rw [if_neg c35] at H
                            exact absurd H (by simp)
                        · rw [if_neg c34] at H
                          exact absurd H (by simp)
                      · replace c33 := Bool.eq_false_iff.mpr c33
                        subst c33
                        have H1 : (doormanlaw02_GlyphWhere.j1 kj16 t196 t197 t198 t200 t201 true) = some r := by rw [if_neg (show ¬ (false = true) by decide)] at H; exact H
                        clear H
                        have H := H1
                        clear H1
                        have H' := Aside0.mk H
                        clear H
                        go_wp2_with (first | (go_at_call 14; (with_reducible refine (glyph_Valid.calls a0 false _ A32.out).mono ?_); rintro e w39 ⟨rfl, hb⟩; have n0_ := Aside0.mk (below_step (by repeat (first | (with_reducible first | exact HB.out | apply below_alloc | apply pw_below_drewN | apply below_drew1) | exact HB.out)) hb); clear HB; have HB := n0_; clear n0_; (try clear hb); (try clear hb2); (try clear hk); (try clear hi)))
                        go_meet
                        case rel => exact ⟨_, (true), (by first | rfl | (simp; done) | (simp [*]; done)), H', ⟨by have := HJ16.out; first | omega | exact Nat.le_refl _⟩, ⟨by repeat (first | (with_reducible first | exact HB.out | apply below_alloc | apply pw_below_drewN | apply below_drew1) | exact HB.out)⟩⟩
                  case rest =>
                    clear HC30
                    try clear c1
                    try clear c2
                    try clear p2
                    try clear c3
                    try clear c4
                    try clear c5
                    try clear c5b0
                    try clear c5b1
                    try clear p6
                    try clear c7
                    try clear c7b0
                    try clear c7b1
                    try clear c9
                    try clear c10
                    try clear c10b0
                    try clear c10b1
                    try clear c11
                    try clear c11b0
                    try clear c11b1
                    try clear c12
                    try clear c25
                    try clear c25b0
                    try clear c25b1
                    try clear c26
                    try clear c26b0
                    try clear c26b1
                    try clear c27
                    try clear c27b0
                    try clear c27b1
                    try clear c28
                    try clear c28b0
                    try clear c28b1
                    try clear c29
                    try clear c31
                    try clear c31b0
                    try clear c31b1
                    try clear c33
                    try clear c34
                    try clear c34b0
                    try clear c34b1
                    try clear c35
                    try clear c35b0
                    try clear c35b1
                    try clear p2
                    try clear p6
                    obtain ⟨kq, x114_29, rfl, HA, HJ29, HB⟩ := hcut
                    cases kq with
                    | zero => exact absurd HA.out (by simp [doormanlaw02_GlyphWhere.j1])
                    | succ kj29 =>
                      have H := HA.out
                      clear HA
                      simp only [doormanlaw02_GlyphWhere.j1] at H
                      by_cases c40 : x114_29 = true
                      · subst c40
                        have H1 : (some true) = some r := by rw [if_pos rfl] at H; exact H
                        clear H
                        have H := H1
                        clear H1
                        obtain rfl := Option.some.inj H
                        go_wp2
                        go_ret
                        exact ⟨by first | rfl | (simp [errW_none, errW_some] <;> rfl) | (simp only [← hji9]; first | rfl | (simp [errW_none, errW_some] <;> rfl)) | (simp [*, errW_none, errW_some] <;> rfl), by repeat (first | (with_reducible first | exact HB.out | apply below_alloc | apply pw_below_drewN | apply below_drew1) | exact HB.out)⟩
                      · replace c40 := Bool.eq_false_iff.mpr c40
                        subst c40
                        have H1 : (if t198.toList = ([10] : List UInt8) then (if t200 = (wrap64 (t196 + 1)) then (some (t201 == 1)) else (some false)) else (if t200 = t196 then (some (t201 == (wrap64 (t197 + 1)))) else (some false))) = some r := by rw [if_neg (show ¬ (false = true) by decide)] at H; exact H
                        clear H
                        have H := H1
                        clear H1
                        by_cases c41 : t198.toList = ([10] : List UInt8)
                        · rw [if_pos c41] at H
                          have c41b0 : (t198.toList == ([10] : List UInt8)) = true := beq_iff_eq.mpr c41
                          have c41b1 : (t198.toList != ([10] : List UInt8)) = false := bne_eq_false_iff_eq.mpr c41
                          clear c41
                          by_cases c42 : t200 = (wrap64 (t196 + 1))
                          · rw [if_pos c42] at H
                            have c42b0 : (t200 == (wrap64 (t196 + 1))) = true := beq_iff_eq.mpr c42
                            have c42b1 : (t200 != (wrap64 (t196 + 1))) = false := bne_eq_false_iff_eq.mpr c42
                            clear c42
                            obtain rfl := Option.some.inj H
                            go_wp2
                            go_ret
                            exact ⟨by first | rfl | (simp [errW_none, errW_some] <;> rfl) | (simp only [← hji9]; first | rfl | (simp [errW_none, errW_some] <;> rfl)) | (simp [*, errW_none, errW_some] <;> rfl), by repeat (first | (with_reducible first | exact HB.out | apply below_alloc | apply pw_below_drewN | apply below_drew1) | exact HB.out)⟩
                          · rw [if_neg c42] at H
                            have c42b0 : (t200 == (wrap64 (t196 + 1))) = false := beq_eq_false_iff_ne.mpr c42
                            have c42b1 : (t200 != (wrap64 (t196 + 1))) = true := bne_iff_ne.mpr c42
                            obtain rfl := Option.some.inj H
                            go_wp2
                            go_ret
                            exact ⟨by first | rfl | (simp [errW_none, errW_some] <;> rfl) | (simp only [← hji9]; first | rfl | (simp [errW_none, errW_some] <;> rfl)) | (simp [*, errW_none, errW_some] <;> rfl), by repeat (first | (with_reducible first | exact HB.out | apply below_alloc | apply pw_below_drewN | apply below_drew1) | exact HB.out)⟩
                        · rw [if_neg c41] at H
                          have c41b0 : (t198.toList == ([10] : List UInt8)) = false := beq_eq_false_iff_ne.mpr c41
                          have c41b1 : (t198.toList != ([10] : List UInt8)) = true := bne_iff_ne.mpr c41
                          by_cases c43 : t200 = t196
                          · rw [if_pos c43] at H
                            have c43b0 : (t200 == t196) = true := beq_iff_eq.mpr c43
                            have c43b1 : (t200 != t196) = false := bne_eq_false_iff_eq.mpr c43
                            clear c43
                            obtain rfl := Option.some.inj H
                            go_wp2
                            go_ret
                            exact ⟨by first | rfl | (simp [errW_none, errW_some] <;> rfl) | (simp only [← hji9]; first | rfl | (simp [errW_none, errW_some] <;> rfl)) | (simp [*, errW_none, errW_some] <;> rfl), by repeat (first | (with_reducible first | exact HB.out | apply below_alloc | apply pw_below_drewN | apply below_drew1) | exact HB.out)⟩
                          · rw [if_neg c43] at H
                            have c43b0 : (t200 == t196) = false := beq_eq_false_iff_ne.mpr c43
                            have c43b1 : (t200 != t196) = true := bne_iff_ne.mpr c43
                            obtain rfl := Option.some.inj H
                            go_wp2
                            go_ret
                            exact ⟨by first | rfl | (simp [errW_none, errW_some] <;> rfl) | (simp only [← hji9]; first | rfl | (simp [errW_none, errW_some] <;> rfl)) | (simp [*, errW_none, errW_some] <;> rfl), by repeat (first | (with_reducible first | exact HB.out | apply below_alloc | apply pw_below_drewN | apply below_drew1) | exact HB.out)⟩
          · rw [if_neg c11] at H
            exact absurd H (by simp)
        · rw [if_neg c10] at H
          exact absurd H (by simp)
  · replace c4 := Bool.eq_false_iff.mpr c4
    subst c4
    have H1 : (some false) = some r := by rw [if_neg (show ¬ (false = true) by decide)] at H; exact H
    clear H
    have H := H1
    clear H1
    obtain rfl := Option.some.inj H
    go_enter Try.func7, Try.ntmps7
    go_wp2_with (first | ((with_reducible refine gate_callee (f := 9) rfl ?_); refine goesL_ (some 19) rfl rfl Try.func9 (by kernel_rfl) rfl #[] rfl (by (try simp only [List.map_toArray, List.map_cons, List.map_nil]); first | done | rfl | (simp only [List.length_drop, List.length_take]; rfl)) ?_; (with_reducible refine (doormanlaw02_awake.calls  false _ A3.out).mono ?_); rintro e w44 ⟨rfl, hb⟩; refine ⟨_, rfl, ?_⟩; have n0_ := Aside0.mk (below_step (by repeat (first | (with_reducible first | exact HB.out | apply below_alloc | apply pw_below_drewN | apply below_drew1) | exact HB.out)) hb); clear HB; have HB := n0_; clear n0_; (try clear hb); (try clear hb2); (try clear hk); (try clear hi)))
    go_ret
    exact ⟨by first | rfl | (simp [errW_none, errW_some] <;> rfl) | (simp [*, errW_none, errW_some] <;> rfl), by repeat (first | (with_reducible first | exact HB.out | apply below_alloc | apply pw_below_drewN | apply below_drew1) | exact HB.out)⟩

/-- THE ONE PURE STATEMENT of doormanlaw02_GlyphWhere: yours. -/
def doormanlaw02_GlyphWhere.Pure : Prop := ∀ (a0 : ByteArray) (a1 : Int), a0.size ≤ 140737488351232 → (Lit.int .u8 a1).wf = true → ∃ k, doormanlaw02_GlyphWhere.f k a0 a1 = some true
theorem doormanlaw02_GlyphWhere.walk (P : doormanlaw02_GlyphWhere.Pure) (a0 : ByteArray) (a1 : Int) (w : World) (w0 : a0.size ≤ 140737488351232) (w1 : (Lit.int .u8 a1).wf = true) :
    Calls Try.prog 7 #[.string a0, .int .u8 a1] w fun e w' => e = .returned (.bool true) ∧ Below w.heap.size w w' := by
  obtain ⟨k, h⟩ := P a0 a1 w0 w1
  refine (doormanlaw02_GlyphWhere.calls k a0 a1 true w h).mono ?_
  rintro e w' ⟨rfl, hd⟩
  exact ⟨rfl, hd⟩

/-! ### doormanlaw02_GlyphCuts: function 8 -/
mutual
def doormanlaw02_GlyphCuts.j0 : Nat → ByteArray → Bool → Option (Bool)
  | 0, _, _ => none
  | k + 1, x0, x73 => if x73 = true then (some false) else (doormanlaw02_GlyphCuts.l0 k x0 0 x0)
def doormanlaw02_GlyphCuts.l0 : Nat → ByteArray → Int → ByteArray → Option (Bool)
  | 0, _, _, _ => none
  | k + 1, x0, x16, x17 => if x17.toList = ([] : List UInt8) then ((glyph_Count.f x0).bind fun t219 => (some (x16 == t219))) else ((glyph_Cut.f x17 1).bind fun bt220 => (if bt220.1.toList = ([] : List UInt8) then (some false) else ((glyph_Count.f bt220.1).bind fun t222 => (if t222 = 1 then (doormanlaw02_GlyphCuts.l0 k x0 (wrap64 (x16 + 1)) bt220.2) else (some false)))))
end
def doormanlaw02_GlyphCuts.f (k : Nat) (a0 : ByteArray) (a1 : Int) (a2 : Int) : Option (Bool) := (doormanlaw02_awake.f).bind fun t210 => (if t210 = true then (if (a0.size : Int) > 200 then (some true) else ((glyph_Cut.f a0 (wrap64 (a1))).bind fun bt211 => ((glyph_Cut.f bt211.2 (wrap64 (a2))).bind fun bt213 => ((glyph_Cut.f a0 (wrap64 ((wrap64 (a1)) + (wrap64 (a2))))).bind fun bt215 => ((glyph_Cut.f a0 (-1)).bind fun bt217 => (if bt211.1.size + bt213.1.size ≤ 9223372036854775807 then (if (bt211.1 ++ bt213.1).toList = bt215.1.toList then (if bt213.2.toList = bt215.2.toList then (if bt217.1.toList = ([] : List UInt8) then (doormanlaw02_GlyphCuts.j0 k a0 (bt217.2.toList != a0.toList)) else (doormanlaw02_GlyphCuts.j0 k a0 true)) else (doormanlaw02_GlyphCuts.j0 k a0 true)) else (doormanlaw02_GlyphCuts.j0 k a0 true)) else (none))))))) else (some false))
theorem doormanlaw02_GlyphCuts.mono_l : ∀ k, (∀ y0 y1, LeO (doormanlaw02_GlyphCuts.j0 k y0 y1) (doormanlaw02_GlyphCuts.j0 (k + 1) y0 y1)) ∧ (∀ y0 y1 y2, LeO (doormanlaw02_GlyphCuts.l0 k y0 y1 y2) (doormanlaw02_GlyphCuts.l0 (k + 1) y0 y1 y2))
  | 0 => ⟨fun _ _ r h => by simp [doormanlaw02_GlyphCuts.j0] at h, fun _ _ _ r h => by simp [doormanlaw02_GlyphCuts.l0] at h⟩
  | k + 1 => by
    obtain ⟨ih0, ih1⟩ := doormanlaw02_GlyphCuts.mono_l k
    refine ⟨?_, ?_⟩
    · intro y0 y1
      unfold doormanlaw02_GlyphCuts.j0
      repeat' first
      | (with_reducible exact ih0 _ _)
      | (with_reducible exact ih1 _ _ _)
      | (with_reducible exact LeO.refl _)
      | (with_reducible exact LeO.none _)
      | (with_reducible refine LeO.ite ?_ ?_)
      | (with_reducible refine LeO.bind ?_ (fun _ => ?_))
      | exact ih0 _ _
      | exact ih1 _ _ _
      | exact LeO.none _
      | refine LeO.ite ?_ ?_
      | refine LeO.bind ?_ (fun _ => ?_)
    · intro y0 y1 y2
      unfold doormanlaw02_GlyphCuts.l0
      repeat' first
      | (with_reducible exact ih0 _ _)
      | (with_reducible exact ih1 _ _ _)
      | (with_reducible exact LeO.refl _)
      | (with_reducible exact LeO.none _)
      | (with_reducible refine LeO.ite ?_ ?_)
      | (with_reducible refine LeO.bind ?_ (fun _ => ?_))
      | exact ih0 _ _
      | exact ih1 _ _ _
      | exact LeO.none _
      | refine LeO.ite ?_ ?_
      | refine LeO.bind ?_ (fun _ => ?_)
theorem doormanlaw02_GlyphCuts.mono : ∀ a0 a1 a2 k, LeO (doormanlaw02_GlyphCuts.f k a0 a1 a2) (doormanlaw02_GlyphCuts.f (k + 1) a0 a1 a2) := by
  intro a0 a1 a2 k
  obtain ⟨ih0, ih1⟩ := doormanlaw02_GlyphCuts.mono_l k
  unfold doormanlaw02_GlyphCuts.f
  repeat' first
      | (with_reducible exact ih0 _ _)
      | (with_reducible exact ih1 _ _ _)
      | (with_reducible exact LeO.refl _)
      | (with_reducible exact LeO.none _)
      | (with_reducible refine LeO.ite ?_ ?_)
      | (with_reducible refine LeO.bind ?_ (fun _ => ?_))
      | exact ih0 _ _
      | exact ih1 _ _ _
      | exact LeO.none _
      | refine LeO.ite ?_ ?_
      | refine LeO.bind ?_ (fun _ => ?_)
set_option maxHeartbeats 8000000 in
set_option maxRecDepth 100000 in
theorem doormanlaw02_GlyphCuts.calls (k : Nat) (a0 : ByteArray) (a1 : Int) (a2 : Int) (r : Bool) (w : World) (h : doormanlaw02_GlyphCuts.f k a0 a1 a2 = some r) :
    Calls Try.prog 8 #[.string a0, .int .u8 a1, .int .u8 a2] w fun e w' => e = .returned (.bool r) ∧ Below w.heap.size w w' := by
  have HB := Aside0.mk (Below.refl w.heap.size w)
  have H : ((doormanlaw02_awake.f).bind fun t210 => (if t210 = true then (if (a0.size : Int) > 200 then (some true) else ((glyph_Cut.f a0 (wrap64 (a1))).bind fun bt211 => ((glyph_Cut.f bt211.2 (wrap64 (a2))).bind fun bt213 => ((glyph_Cut.f a0 (wrap64 ((wrap64 (a1)) + (wrap64 (a2))))).bind fun bt215 => ((glyph_Cut.f a0 (-1)).bind fun bt217 => (if bt211.1.size + bt213.1.size ≤ 9223372036854775807 then (if (bt211.1 ++ bt213.1).toList = bt215.1.toList then (if bt213.2.toList = bt215.2.toList then (if bt217.1.toList = ([] : List UInt8) then (doormanlaw02_GlyphCuts.j0 k a0 (bt217.2.toList != a0.toList)) else (doormanlaw02_GlyphCuts.j0 k a0 true)) else (doormanlaw02_GlyphCuts.j0 k a0 true)) else (doormanlaw02_GlyphCuts.j0 k a0 true)) else (none))))))) else (some false))) = some r := h
  clear h
  replace H := Option.bind_eq_some_iff.mp H
  obtain ⟨t210, A40, H⟩ := H
  replace H : (if t210 = true then (if (a0.size : Int) > 200 then (some true) else ((glyph_Cut.f a0 (wrap64 (a1))).bind fun bt211 => ((glyph_Cut.f bt211.2 (wrap64 (a2))).bind fun bt213 => ((glyph_Cut.f a0 (wrap64 ((wrap64 (a1)) + (wrap64 (a2))))).bind fun bt215 => ((glyph_Cut.f a0 (-1)).bind fun bt217 => (if bt211.1.size + bt213.1.size ≤ 9223372036854775807 then (if (bt211.1 ++ bt213.1).toList = bt215.1.toList then (if bt213.2.toList = bt215.2.toList then (if bt217.1.toList = ([] : List UInt8) then (doormanlaw02_GlyphCuts.j0 k a0 (bt217.2.toList != a0.toList)) else (doormanlaw02_GlyphCuts.j0 k a0 true)) else (doormanlaw02_GlyphCuts.j0 k a0 true)) else (doormanlaw02_GlyphCuts.j0 k a0 true)) else (none))))))) else (some false)) = some r := H
  have A4 := Aside0.mk A40
  clear A40
  by_cases c5 : t210 = true
  · subst c5
    have H1 : (if (a0.size : Int) > 200 then (some true) else ((glyph_Cut.f a0 (wrap64 (a1))).bind fun bt211 => ((glyph_Cut.f bt211.2 (wrap64 (a2))).bind fun bt213 => ((glyph_Cut.f a0 (wrap64 ((wrap64 (a1)) + (wrap64 (a2))))).bind fun bt215 => ((glyph_Cut.f a0 (-1)).bind fun bt217 => (if bt211.1.size + bt213.1.size ≤ 9223372036854775807 then (if (bt211.1 ++ bt213.1).toList = bt215.1.toList then (if bt213.2.toList = bt215.2.toList then (if bt217.1.toList = ([] : List UInt8) then (doormanlaw02_GlyphCuts.j0 k a0 (bt217.2.toList != a0.toList)) else (doormanlaw02_GlyphCuts.j0 k a0 true)) else (doormanlaw02_GlyphCuts.j0 k a0 true)) else (doormanlaw02_GlyphCuts.j0 k a0 true)) else (none))))))) = some r := by rw [if_pos rfl] at H; exact H
    clear H
    have H := H1
    clear H1
    by_cases c6 : (a0.size : Int) > 200
    · rw [if_pos c6] at H
      have c6b0 : decide (200 < (a0.size : Int)) = true := decide_eq_true c6
      have c6b1 : decide (200 < a0.size) = true := decide_eq_true (by omega)
      clear c6
      obtain rfl := Option.some.inj H
      go_enter Try.func8, Try.ntmps8
      go_wp2_with (first | ((with_reducible refine gate_callee (f := 9) rfl ?_); refine goesL_ (some 20) rfl rfl Try.func9 (by kernel_rfl) rfl #[] rfl (by (try simp only [List.map_toArray, List.map_cons, List.map_nil]); first | done | rfl | (simp only [List.length_drop, List.length_take]; rfl)) ?_; (with_reducible refine (doormanlaw02_awake.calls  true _ A4.out).mono ?_); rintro e w7 ⟨rfl, hb⟩; refine ⟨_, rfl, ?_⟩; have n0_ := Aside0.mk (below_step (by repeat (first | (with_reducible first | exact HB.out | apply below_alloc | apply pw_below_drewN | apply below_drew1) | exact HB.out)) hb); clear HB; have HB := n0_; clear n0_; (try clear hb); (try clear hb2); (try clear hk); (try clear hi)))
      go_ret
      exact ⟨by first | rfl | (simp [errW_none, errW_some] <;> rfl) | (simp [*, errW_none, errW_some] <;> rfl), by repeat (first | (with_reducible first | exact HB.out | apply below_alloc | apply pw_below_drewN | apply below_drew1) | exact HB.out)⟩
    · rw [if_neg c6] at H
      have c6b0 : decide (200 < (a0.size : Int)) = false := decide_eq_false c6
      have c6b1 : decide (200 < a0.size) = false := decide_eq_false (by omega)
      clear c6
      replace H := Option.bind_eq_some_iff.mp H
      obtain ⟨⟨t211, t212⟩, A80, H⟩ := H
      replace H : ((glyph_Cut.f t212 (wrap64 (a2))).bind fun bt213 => ((glyph_Cut.f a0 (wrap64 ((wrap64 (a1)) + (wrap64 (a2))))).bind fun bt215 => ((glyph_Cut.f a0 (-1)).bind fun bt217 => (if t211.size + bt213.1.size ≤ 9223372036854775807 then (if (t211 ++ bt213.1).toList = bt215.1.toList then (if bt213.2.toList = bt215.2.toList then (if bt217.1.toList = ([] : List UInt8) then (doormanlaw02_GlyphCuts.j0 k a0 (bt217.2.toList != a0.toList)) else (doormanlaw02_GlyphCuts.j0 k a0 true)) else (doormanlaw02_GlyphCuts.j0 k a0 true)) else (doormanlaw02_GlyphCuts.j0 k a0 true)) else (none))))) = some r := H
      have A8 := Aside0.mk A80
      clear A80
      replace H := Option.bind_eq_some_iff.mp H
      obtain ⟨⟨t213, t214⟩, A90, H⟩ := H
      replace H : ((glyph_Cut.f a0 (wrap64 ((wrap64 (a1)) + (wrap64 (a2))))).bind fun bt215 => ((glyph_Cut.f a0 (-1)).bind fun bt217 => (if t211.size + t213.size ≤ 9223372036854775807 then (if (t211 ++ t213).toList = bt215.1.toList then (if t214.toList = bt215.2.toList then (if bt217.1.toList = ([] : List UInt8) then (doormanlaw02_GlyphCuts.j0 k a0 (bt217.2.toList != a0.toList)) else (doormanlaw02_GlyphCuts.j0 k a0 true)) else (doormanlaw02_GlyphCuts.j0 k a0 true)) else (doormanlaw02_GlyphCuts.j0 k a0 true)) else (none)))) = some r := H
      have A9 := Aside0.mk A90
      clear A90
      replace H := Option.bind_eq_some_iff.mp H
      obtain ⟨⟨t215, t216⟩, A100, H⟩ := H
      replace H : ((glyph_Cut.f a0 (-1)).bind fun bt217 => (if t211.size + t213.size ≤ 9223372036854775807 then (if (t211 ++ t213).toList = t215.toList then (if t214.toList = t216.toList then (if bt217.1.toList = ([] : List UInt8) then (doormanlaw02_GlyphCuts.j0 k a0 (bt217.2.toList != a0.toList)) else (doormanlaw02_GlyphCuts.j0 k a0 true)) else (doormanlaw02_GlyphCuts.j0 k a0 true)) else (doormanlaw02_GlyphCuts.j0 k a0 true)) else (none))) = some r := H
      have A10 := Aside0.mk A100
      clear A100
      replace H := Option.bind_eq_some_iff.mp H
      obtain ⟨⟨t217, t218⟩, A110, H⟩ := H
      replace H : (if t211.size + t213.size ≤ 9223372036854775807 then (if (t211 ++ t213).toList = t215.toList then (if t214.toList = t216.toList then (if t217.toList = ([] : List UInt8) then (doormanlaw02_GlyphCuts.j0 k a0 (t218.toList != a0.toList)) else (doormanlaw02_GlyphCuts.j0 k a0 true)) else (doormanlaw02_GlyphCuts.j0 k a0 true)) else (doormanlaw02_GlyphCuts.j0 k a0 true)) else (none)) = some r := H
      have A11 := Aside0.mk A110
      clear A110
      have HC12 := Aside0.mk H
      clear H
      go_enter Try.func8, Try.ntmps8
      go_upto_region 10 with (first | ((with_reducible refine gate_callee (f := 9) rfl ?_); refine goesL_ (some 20) rfl rfl Try.func9 (by kernel_rfl) rfl #[] rfl (by (try simp only [List.map_toArray, List.map_cons, List.map_nil]); first | done | rfl | (simp only [List.length_drop, List.length_take]; rfl)) ?_; (with_reducible refine (doormanlaw02_awake.calls  true _ A4.out).mono ?_); rintro e w13 ⟨rfl, hb⟩; refine ⟨_, rfl, ?_⟩; have n0_ := Aside0.mk (below_step (by repeat (first | (with_reducible first | exact HB.out | apply below_alloc | apply pw_below_drewN | apply below_drew1) | exact HB.out)) hb); clear HB; have HB := n0_; clear n0_; (try clear hb); (try clear hb2); (try clear hk); (try clear hi)) | ((with_reducible refine gate_callee (f := 10) rfl ?_); refine goesL_ (some 30) rfl rfl Try.func10 (by kernel_rfl) rfl #[.string a0, .int .i64 (wrap64 (a1))] rfl (by (try simp only [List.map_toArray, List.map_cons, List.map_nil]); first | done | rfl | (simp only [List.length_drop, List.length_take]; rfl)) ?_; (with_reducible refine (glyph_Cut.calls a0 (wrap64 (a1)) t211 t212 _ A8.out).mono ?_); rintro e w14 ⟨rfl, hb⟩; refine ⟨_, rfl, ?_⟩; have n0_ := Aside0.mk (below_step (by repeat (first | (with_reducible first | exact HB.out | apply below_alloc | apply pw_below_drewN | apply below_drew1) | exact HB.out)) hb); clear HB; have HB := n0_; clear n0_; (try clear hb); (try clear hb2); (try clear hk); (try clear hi)) | ((with_reducible refine gate_callee (f := 10) rfl ?_); refine goesL_ (some 37) rfl rfl Try.func10 (by kernel_rfl) rfl #[.string t212, .int .i64 (wrap64 (a2))] rfl (by (try simp only [List.map_toArray, List.map_cons, List.map_nil]); first | done | rfl | (simp only [List.length_drop, List.length_take]; rfl)) ?_; (with_reducible refine (glyph_Cut.calls t212 (wrap64 (a2)) t213 t214 _ A9.out).mono ?_); rintro e w15 ⟨rfl, hb⟩; refine ⟨_, rfl, ?_⟩; have n0_ := Aside0.mk (below_step (by repeat (first | (with_reducible first | exact HB.out | apply below_alloc | apply pw_below_drewN | apply below_drew1) | exact HB.out)) hb); clear HB; have HB := n0_; clear n0_; (try clear hb); (try clear hb2); (try clear hk); (try clear hi)) | ((with_reducible refine gate_callee (f := 10) rfl ?_); refine goesL_ (some 47) rfl rfl Try.func10 (by kernel_rfl) rfl #[.string a0, .int .i64 (wrap64 ((wrap64 (a1)) + (wrap64 (a2))))] rfl (by (try simp only [List.map_toArray, List.map_cons, List.map_nil]); first | done | rfl | (simp only [List.length_drop, List.length_take]; rfl)) ?_; (with_reducible refine (glyph_Cut.calls a0 (wrap64 ((wrap64 (a1)) + (wrap64 (a2)))) t215 t216 _ A10.out).mono ?_); rintro e w16 ⟨rfl, hb⟩; refine ⟨_, rfl, ?_⟩; have n0_ := Aside0.mk (below_step (by repeat (first | (with_reducible first | exact HB.out | apply below_alloc | apply pw_below_drewN | apply below_drew1) | exact HB.out)) hb); clear HB; have HB := n0_; clear n0_; (try clear hb); (try clear hb2); (try clear hk); (try clear hi)) | ((with_reducible refine gate_callee (f := 10) rfl ?_); refine goesL_ (some 52) rfl rfl Try.func10 (by kernel_rfl) rfl #[.string a0, .int .i64 (-1)] rfl (by (try simp only [List.map_toArray, List.map_cons, List.map_nil]); first | done | rfl | (simp only [List.length_drop, List.length_take]; rfl)) ?_; (with_reducible refine (glyph_Cut.calls a0 (-1) t217 t218 _ A11.out).mono ?_); rintro e w17 ⟨rfl, hb⟩; refine ⟨_, rfl, ?_⟩; have n0_ := Aside0.mk (below_step (by repeat (first | (with_reducible first | exact HB.out | apply below_alloc | apply pw_below_drewN | apply below_drew1) | exact HB.out)) hb); clear HB; have HB := n0_; clear n0_; (try clear hb); (try clear hb2); (try clear hk); (try clear hi)))
      (try simp only [Act.put, List.setIfInBounds_toArray, List.set_cons_zero, List.set_cons_succ])
      go_cut [73] (fun v73 wc => ∃ (kq : Nat) (x73_11 : Bool), v73 = .bool x73_11 ∧ Aside0 (doormanlaw02_GlyphCuts.j0 kq a0 x73_11 = some r) ∧ Aside0 (kq ≤ k) ∧ Aside0 (Below w.heap.size w wc))
      case first =>
        have H := HC12.out
        clear HC12
        by_cases c18 : t211.size + t213.size ≤ 9223372036854775807
        · rw [if_pos c18] at H
          have c18b0 := eq_true c18
          have c18b1 : decide (t211.size + t213.size ≤ 9223372036854775807) = true := decide_eq_true c18
          try have c18b2 : (9223372036854775807 < t211.size + t213.size) = False := eq_false (Nat.not_lt.2 c18)
          by_cases c19 : (t211 ++ t213).toList = t215.toList
          · rw [if_pos c19] at H
            have c19b0 : ((t211 ++ t213).toList == t215.toList) = true := beq_iff_eq.mpr c19
            have c19b1 : ((t211 ++ t213).toList != t215.toList) = false := bne_eq_false_iff_eq.mpr c19
            clear c19
            (first | rw [c19b0] | (simp only [i64_w, i32_w]; rw [c19b0]) | skip)
            by_cases c20 : t214.toList = t216.toList
            · rw [if_pos c20] at H
              have c20b0 : (t214.toList == t216.toList) = true := beq_iff_eq.mpr c20
              have c20b1 : (t214.toList != t216.toList) = false := bne_eq_false_iff_eq.mpr c20
              clear c20
              by_cases c21 : t217.toList = ([] : List UInt8)
              · rw [if_pos c21] at H
                have c21b0 : (t217.toList == ([] : List UInt8)) = true := beq_iff_eq.mpr c21
                have c21b1 : (t217.toList != ([] : List UInt8)) = false := bne_eq_false_iff_eq.mpr c21
                clear c21
                have H' := Aside0.mk H
                clear H
                go_wp2
                go_meet
                case rel => exact ⟨_, ((t218.toList != a0.toList)), (by first | rfl | (simp; done) | (simp [*]; done)), H', ⟨by first | omega | exact Nat.le_refl _⟩, ⟨by repeat (first | (with_reducible first | exact HB.out | apply below_alloc | apply pw_below_drewN | apply below_drew1) | exact HB.out)⟩⟩
              · rw [if_neg c21] at H
                have c21b0 : (t217.toList == ([] : List UInt8)) = false := beq_eq_false_iff_ne.mpr c21
                have c21b1 : (t217.toList != ([] : List UInt8)) = true := bne_iff_ne.mpr c21
                have H' := Aside0.mk H
                clear H
                go_wp2
                go_meet
                case rel => exact ⟨_, (true), (by first | rfl | (simp; done) | (simp [*]; done)), H', ⟨by first | omega | exact Nat.le_refl _⟩, ⟨by repeat (first | (with_reducible first | exact HB.out | apply below_alloc | apply pw_below_drewN | apply below_drew1) | exact HB.out)⟩⟩
            · rw [if_neg c20] at H
              have c20b0 : (t214.toList == t216.toList) = false := beq_eq_false_iff_ne.mpr c20
              have c20b1 : (t214.toList != t216.toList) = true := bne_iff_ne.mpr c20
              have H' := Aside0.mk H
              clear H
              go_wp2
              go_meet
              case rel => exact ⟨_, (true), (by first | rfl | (simp; done) | (simp [*]; done)), H', ⟨by first | omega | exact Nat.le_refl _⟩, ⟨by repeat (first | (with_reducible first | exact HB.out | apply below_alloc | apply pw_below_drewN | apply below_drew1) | exact HB.out)⟩⟩
          · rw [if_neg c19] at H
            have c19b0 : ((t211 ++ t213).toList == t215.toList) = false := beq_eq_false_iff_ne.mpr c19
            have c19b1 : ((t211 ++ t213).toList != t215.toList) = true := bne_iff_ne.mpr c19
            (first | rw [c19b0] | (simp only [i64_w, i32_w]; rw [c19b0]) | skip)
            have H' := Aside0.mk H
            clear H
            go_wp2
            go_meet
            case rel => exact ⟨_, (true), (by first | rfl | (simp; done) | (simp [*]; done)), H', ⟨by first | omega | exact Nat.le_refl _⟩, ⟨by repeat (first | (with_reducible first | exact HB.out | apply below_alloc | apply pw_below_drewN | apply below_drew1) | exact HB.out)⟩⟩
        · rw [if_neg c18] at H
          exact absurd H (by simp)
      case rest =>
        clear HC12
        try clear c1
        try clear c2
        try clear p2
        try clear c5
        try clear c6
        try clear c6b0
        try clear c6b1
        try clear p6
        try clear c8
        try clear c9
        try clear c10
        try clear c18
        try clear c18b0
        try clear c18b1
        try clear c18b2
        try clear c19
        try clear c19b0
        try clear c19b1
        try clear c20
        try clear c20b0
        try clear c20b1
        try clear c21
        try clear c21b0
        try clear c21b1
        obtain ⟨kq, x73_11, rfl, HA, HJ11, HB⟩ := hcut
        cases kq with
        | zero => exact absurd HA.out (by simp [doormanlaw02_GlyphCuts.j0])
        | succ kj11 =>
          have H := HA.out
          clear HA
          simp only [doormanlaw02_GlyphCuts.j0] at H
          by_cases c22 : x73_11 = true
          · subst c22
            have H1 : (some false) = some r := by rw [if_pos rfl] at H; exact H
            clear H
            have H := H1
            clear H1
            obtain rfl := Option.some.inj H
            go_wp2
            go_ret
            exact ⟨by first | rfl | (simp [errW_none, errW_some] <;> rfl) | (simp [*, errW_none, errW_some] <;> rfl), by repeat (first | (with_reducible first | exact HB.out | apply below_alloc | apply pw_below_drewN | apply below_drew1) | exact HB.out)⟩
          · replace c22 := Bool.eq_false_iff.mpr c22
            subst c22
            have H1 : (doormanlaw02_GlyphCuts.l0 kj11 a0 0 a0) = some r := by rw [if_neg (show ¬ (false = true) by decide)] at H; exact H
            clear H
            have H := H1
            clear H1
            have H' := Aside0.mk H
            clear H
            go_wp2
            go_loopg [16, 17] kj11 (fun kq v16 v17 w' => ∃ (x16_2 : Int) (x17_2 : ByteArray), v16 = .int .i64 x16_2 ∧ v17 = .string x17_2 ∧ Aside0 (doormanlaw02_GlyphCuts.l0 kq a0 x16_2 x17_2 = some r) ∧ Aside0 (kq ≤ kj11) ∧ Aside0 (Below w.heap.size w w'))
            case atStart => exact ⟨(0), (a0), (by first | rfl | (simp; done) | (simp [*]; done)), (by first | rfl | (simp; done) | (simp [*]; done)), H', ⟨Nat.le_refl _⟩, ⟨by repeat (first | (with_reducible first | exact HB.out | apply below_alloc | apply pw_below_drewN | apply below_drew1) | exact HB.out)⟩⟩
            case round =>
              clear H'
              try clear c1
              try clear c2
              try clear p2
              try clear c5
              try clear c6
              try clear c6b0
              try clear c6b1
              try clear p6
              try clear c8
              try clear c9
              try clear c10
              try clear c18
              try clear c18b0
              try clear c18b1
              try clear c18b2
              try clear c19
              try clear c19b0
              try clear c19b1
              try clear c20
              try clear c20b0
              try clear c20b1
              try clear c21
              try clear c21b0
              try clear c21b1
              try clear c22
              try clear p2
              try clear p6
              obtain ⟨x16_2, x17_2, rfl, rfl, HA, HK2, HB⟩ := hrel
              cases gk with
              | zero => exact absurd HA.out (by simp [doormanlaw02_GlyphCuts.l0])
              | succ k2 =>
                have H := HA.out
                clear HA
                simp only [doormanlaw02_GlyphCuts.l0] at H
                by_cases c23 : x17_2.toList = ([] : List UInt8)
                · rw [if_pos c23] at H
                  have c23b0 : (x17_2.toList == ([] : List UInt8)) = true := beq_iff_eq.mpr c23
                  have c23b1 : (x17_2.toList != ([] : List UInt8)) = false := bne_eq_false_iff_eq.mpr c23
                  clear c23
                  replace H := Option.bind_eq_some_iff.mp H
                  obtain ⟨t219, A240, H⟩ := H
                  replace H : (some (x16_2 == t219)) = some r := H
                  have A24 := Aside0.mk A240
                  clear A240
                  obtain rfl := Option.some.inj H
                  go_wp2_with (first | ((with_reducible refine gate_callee (f := 16) rfl ?_); refine goesL_ (some 94) rfl rfl Try.func16 (by kernel_rfl) rfl #[.string a0] rfl (by (try simp only [List.map_toArray, List.map_cons, List.map_nil]); first | done | rfl | (simp only [List.length_drop, List.length_take]; rfl)) ?_; (with_reducible refine (glyph_Count.calls a0 t219 _ A24.out).mono ?_); rintro e w25 ⟨rfl, hb⟩; refine ⟨_, rfl, ?_⟩; have n0_ := Aside0.mk (below_step (by repeat (first | (with_reducible first | exact HB.out | apply below_alloc | apply pw_below_drewN | apply below_drew1) | exact HB.out)) hb); clear HB; have HB := n0_; clear n0_; (try clear hb); (try clear hb2); (try clear hk); (try clear hi)))
                  go_ret
                  exact ⟨by first | rfl | (simp [errW_none, errW_some] <;> rfl) | (simp [*, errW_none, errW_some] <;> rfl), by repeat (first | (with_reducible first | exact HB.out | apply below_alloc | apply pw_below_drewN | apply below_drew1) | exact HB.out)⟩
                · rw [if_neg c23] at H
                  have c23b0 : (x17_2.toList == ([] : List UInt8)) = false := beq_eq_false_iff_ne.mpr c23
                  have c23b1 : (x17_2.toList != ([] : List UInt8)) = true := bne_iff_ne.mpr c23
                  replace H := Option.bind_eq_some_iff.mp H
                  obtain ⟨⟨t220, t221⟩, A260, H⟩ := H
                  replace H : (if t220.toList = ([] : List UInt8) then (some false) else ((glyph_Count.f t220).bind fun t222 => (if t222 = 1 then (doormanlaw02_GlyphCuts.l0 k2 a0 (wrap64 (x16_2 + 1)) t221) else (some false)))) = some r := H
                  have A26 := Aside0.mk A260
                  clear A260
                  by_cases c27 : t220.toList = ([] : List UInt8)
                  · rw [if_pos c27] at H
                    have c27b0 : (t220.toList == ([] : List UInt8)) = true := beq_iff_eq.mpr c27
                    have c27b1 : (t220.toList != ([] : List UInt8)) = false := bne_eq_false_iff_eq.mpr c27
                    clear c27
                    obtain rfl := Option.some.inj H
                    go_wp2_with (first | ((with_reducible refine gate_callee (f := 10) rfl ?_); refine goesL_ (some 79) rfl rfl Try.func10 (by kernel_rfl) rfl #[.string x17_2, .int .i64 1] rfl (by (try simp only [List.map_toArray, List.map_cons, List.map_nil]); first | done | rfl | (simp only [List.length_drop, List.length_take]; rfl)) ?_; (with_reducible refine (glyph_Cut.calls x17_2 1 t220 t221 _ A26.out).mono ?_); rintro e w28 ⟨rfl, hb⟩; refine ⟨_, rfl, ?_⟩; have n0_ := Aside0.mk (below_step (by repeat (first | (with_reducible first | exact HB.out | apply below_alloc | apply pw_below_drewN | apply below_drew1) | exact HB.out)) hb); clear HB; have HB := n0_; clear n0_; (try clear hb); (try clear hb2); (try clear hk); (try clear hi)))
                    go_ret
                    exact ⟨by first | rfl | (simp [errW_none, errW_some] <;> rfl) | (simp [*, errW_none, errW_some] <;> rfl), by repeat (first | (with_reducible first | exact HB.out | apply below_alloc | apply pw_below_drewN | apply below_drew1) | exact HB.out)⟩
                  · rw [if_neg c27] at H
                    have c27b0 : (t220.toList == ([] : List UInt8)) = false := beq_eq_false_iff_ne.mpr c27
                    have c27b1 : (t220.toList != ([] : List UInt8)) = true := bne_iff_ne.mpr c27
                    replace H := Option.bind_eq_some_iff.mp H
                    obtain ⟨t222, A290, H⟩ := H
                    replace H : (if t222 = 1 then (doormanlaw02_GlyphCuts.l0 k2 a0 (wrap64 (x16_2 + 1)) t221) else (some false)) = some r := H
                    have A29 := Aside0.mk A290
                    clear A290
                    by_cases c30 : t222 = 1
                    · rw [if_pos c30] at H
                      have c30b0 : (t222 == 1) = true := beq_iff_eq.mpr c30
                      have c30b1 : (t222 != 1) = false := bne_eq_false_iff_eq.mpr c30
                      clear c30
                      have H' := Aside0.mk H
                      clear H
                      go_wp2_with (first | ((with_reducible refine gate_callee (f := 10) rfl ?_); refine goesL_ (some 79) rfl rfl Try.func10 (by kernel_rfl) rfl #[.string x17_2, .int .i64 1] rfl (by (try simp only [List.map_toArray, List.map_cons, List.map_nil]); first | done | rfl | (simp only [List.length_drop, List.length_take]; rfl)) ?_; (with_reducible refine (glyph_Cut.calls x17_2 1 t220 t221 _ A26.out).mono ?_); rintro e w31 ⟨rfl, hb⟩; refine ⟨_, rfl, ?_⟩; have n0_ := Aside0.mk (below_step (by repeat (first | (with_reducible first | exact HB.out | apply below_alloc | apply pw_below_drewN | apply below_drew1) | exact HB.out)) hb); clear HB; have HB := n0_; clear n0_; (try clear hb); (try clear hb2); (try clear hk); (try clear hi)) | (go_at_call 16; (with_reducible refine (glyph_Count.calls t220 t222 _ A29.out).mono ?_); rintro e w32 ⟨rfl, hb⟩; have n0_ := Aside0.mk (below_step (by repeat (first | (with_reducible first | exact HB.out | apply below_alloc | apply pw_below_drewN | apply below_drew1) | exact HB.out)) hb); clear HB; have HB := n0_; clear n0_; (try clear hb); (try clear hb2); (try clear hk); (try clear hi)))
                      go_roundg k2
                      case measure => have := HJ11.out; have := HK2.out; omega
                      case rel => exact ⟨(wrap64 (x16_2 + 1)), (t221), (by first | rfl | (simp; done) | (simp [*]; done)), (by first | rfl | (simp; done) | (simp [*]; done)), H', ⟨by have := HJ11.out; have := HK2.out; omega⟩, ⟨by repeat (first | (with_reducible first | exact HB.out | apply below_alloc | apply pw_below_drewN | apply below_drew1) | exact HB.out)⟩⟩
                    · rw [if_neg c30] at H
                      have c30b0 : (t222 == 1) = false := beq_eq_false_iff_ne.mpr c30
                      have c30b1 : (t222 != 1) = true := bne_iff_ne.mpr c30
                      obtain rfl := Option.some.inj H
                      go_wp2_with (first | ((with_reducible refine gate_callee (f := 10) rfl ?_); refine goesL_ (some 79) rfl rfl Try.func10 (by kernel_rfl) rfl #[.string x17_2, .int .i64 1] rfl (by (try simp only [List.map_toArray, List.map_cons, List.map_nil]); first | done | rfl | (simp only [List.length_drop, List.length_take]; rfl)) ?_; (with_reducible refine (glyph_Cut.calls x17_2 1 t220 t221 _ A26.out).mono ?_); rintro e w33 ⟨rfl, hb⟩; refine ⟨_, rfl, ?_⟩; have n0_ := Aside0.mk (below_step (by repeat (first | (with_reducible first | exact HB.out | apply below_alloc | apply pw_below_drewN | apply below_drew1) | exact HB.out)) hb); clear HB; have HB := n0_; clear n0_; (try clear hb); (try clear hb2); (try clear hk); (try clear hi)) | (go_at_call 16; (with_reducible refine (glyph_Count.calls t220 t222 _ A29.out).mono ?_); rintro e w34 ⟨rfl, hb⟩; have n0_ := Aside0.mk (below_step (by repeat (first | (with_reducible first | exact HB.out | apply below_alloc | apply pw_below_drewN | apply below_drew1) | exact HB.out)) hb); clear HB; have HB := n0_; clear n0_; (try clear hb); (try clear hb2); (try clear hk); (try clear hi)))
                      go_ret
                      exact ⟨by first | rfl | (simp [errW_none, errW_some] <;> rfl) | (simp [*, errW_none, errW_some] <;> rfl), by repeat (first | (with_reducible first | exact HB.out | apply below_alloc | apply pw_below_drewN | apply below_drew1) | exact HB.out)⟩
  · replace c5 := Bool.eq_false_iff.mpr c5
    subst c5
    have H1 : (some false) = some r := by rw [if_neg (show ¬ (false = true) by decide)] at H; exact H
    clear H
    have H := H1
    clear H1
    obtain rfl := Option.some.inj H
    go_enter Try.func8, Try.ntmps8
    go_wp2_with (first | ((with_reducible refine gate_callee (f := 9) rfl ?_); refine goesL_ (some 20) rfl rfl Try.func9 (by kernel_rfl) rfl #[] rfl (by (try simp only [List.map_toArray, List.map_cons, List.map_nil]); first | done | rfl | (simp only [List.length_drop, List.length_take]; rfl)) ?_; (with_reducible refine (doormanlaw02_awake.calls  false _ A4.out).mono ?_); rintro e w35 ⟨rfl, hb⟩; refine ⟨_, rfl, ?_⟩; have n0_ := Aside0.mk (below_step (by repeat (first | (with_reducible first | exact HB.out | apply below_alloc | apply pw_below_drewN | apply below_drew1) | exact HB.out)) hb); clear HB; have HB := n0_; clear n0_; (try clear hb); (try clear hb2); (try clear hk); (try clear hi)))
    go_ret
    exact ⟨by first | rfl | (simp [errW_none, errW_some] <;> rfl) | (simp [*, errW_none, errW_some] <;> rfl), by repeat (first | (with_reducible first | exact HB.out | apply below_alloc | apply pw_below_drewN | apply below_drew1) | exact HB.out)⟩

/-- THE ONE PURE STATEMENT of doormanlaw02_GlyphCuts: yours. -/
def doormanlaw02_GlyphCuts.Pure : Prop := ∀ (a0 : ByteArray) (a1 : Int) (a2 : Int), a0.size ≤ 140737488351232 → (Lit.int .u8 a1).wf = true → (Lit.int .u8 a2).wf = true → ∃ k, doormanlaw02_GlyphCuts.f k a0 a1 a2 = some true
theorem doormanlaw02_GlyphCuts.walk (P : doormanlaw02_GlyphCuts.Pure) (a0 : ByteArray) (a1 : Int) (a2 : Int) (w : World) (w0 : a0.size ≤ 140737488351232) (w1 : (Lit.int .u8 a1).wf = true) (w2 : (Lit.int .u8 a2).wf = true) :
    Calls Try.prog 8 #[.string a0, .int .u8 a1, .int .u8 a2] w fun e w' => e = .returned (.bool true) ∧ Below w.heap.size w w' := by
  obtain ⟨k, h⟩ := P a0 a1 a2 w0 w1 w2
  refine (doormanlaw02_GlyphCuts.calls k a0 a1 a2 true w h).mono ?_
  rintro e w' ⟨rfl, hd⟩
  exact ⟨rfl, hd⟩

end Go.Proofs.Ytlipjbdigpoacaa.X
