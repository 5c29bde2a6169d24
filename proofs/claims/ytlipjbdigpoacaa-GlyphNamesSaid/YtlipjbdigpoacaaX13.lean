-- Written by a program of this session (wip/tools/drive.py) for this seat, partly by the kit's print.py; some functions by hand.
import Derived.Test.YtlipjbdigpoacaaX0
import Derived.Test.YtlipjbdigpoacaaX4
import Derived.Test.YtlipjbdigpoacaaX5
import Derived.Test.YtlipjbdigpoacaaX7
import Derived.Test.YtlipjbdigpoacaaX8
namespace Go.Proofs.Ytlipjbdigpoacaa.X
open Go.RowKit Go.Proofs.YtlipjbdigpoacaaW.PrintWords Go.Proofs.YtlipjbdigpoacaaW.PrintLast Go.Proofs.YtlipjbdigpoacaaW.PrintMore
attribute [local go_sem] max2_int min2_int max_two min_two max_three min_three max_four min_four   -- for this text's walks alone
set_option linter.unusedVariables false
set_option linter.unusedSimpArgs false

/-! ### doormanlaw02_GlyphNames: function 6 -/
mutual
def doormanlaw02_GlyphNames.j0 : Nat → ByteArray → ByteArray → Int → Bool → Option (Bool)
  | 0, _, _, _, _ => none
  | k + 1, x0, x1, x2, x21 => if x21 = true then (some true) else ((some (([x2] : List Int) : List Int)).bind fun y183 => (if x2 = 95 then (doormanlaw02_GlyphNames.j1 k x0 x1 x2 (strOfNums y183) true) else (if x2 ≥ 97 then (if x2 ≤ 122 then (doormanlaw02_GlyphNames.j1 k x0 x1 x2 (strOfNums y183) true) else (if x2 ≥ 65 then (if x2 ≤ 90 then (doormanlaw02_GlyphNames.j1 k x0 x1 x2 (strOfNums y183) true) else (if x2 ≥ 48 then (doormanlaw02_GlyphNames.j1 k x0 x1 x2 (strOfNums y183) (decide (x2 ≤ 57))) else (doormanlaw02_GlyphNames.j1 k x0 x1 x2 (strOfNums y183) false))) else (if x2 ≥ 48 then (doormanlaw02_GlyphNames.j1 k x0 x1 x2 (strOfNums y183) (decide (x2 ≤ 57))) else (doormanlaw02_GlyphNames.j1 k x0 x1 x2 (strOfNums y183) false)))) else (if x2 ≥ 65 then (if x2 ≤ 90 then (doormanlaw02_GlyphNames.j1 k x0 x1 x2 (strOfNums y183) true) else (if x2 ≥ 48 then (doormanlaw02_GlyphNames.j1 k x0 x1 x2 (strOfNums y183) (decide (x2 ≤ 57))) else (doormanlaw02_GlyphNames.j1 k x0 x1 x2 (strOfNums y183) false))) else (if x2 ≥ 48 then (doormanlaw02_GlyphNames.j1 k x0 x1 x2 (strOfNums y183) (decide (x2 ≤ 57))) else (doormanlaw02_GlyphNames.j1 k x0 x1 x2 (strOfNums y183) false))))))
def doormanlaw02_GlyphNames.j1 : Nat → ByteArray → ByteArray → Int → ByteArray → Bool → Option (Bool)
  | 0, _, _, _, _, _ => none
  | k + 1, x0, x1, x2, x8, x9 => (glyph_Name.f x8).bind fun t186 => (if (t186 != x9) = true then (some false) else ((glyph_Name.f x0).bind fun t187 => (if t187 = true then ((glyph_Name.f x1).bind fun t188 => (doormanlaw02_GlyphNames.j2 k x0 x1 x2 x8 x9 (!t188))) else (doormanlaw02_GlyphNames.j2 k x0 x1 x2 x8 x9 true))))
def doormanlaw02_GlyphNames.j2 : Nat → ByteArray → ByteArray → Int → ByteArray → Bool → Bool → Option (Bool)
  | 0, _, _, _, _, _, _ => none
  | k + 1, x0, x1, x2, x8, x9, x62 => if x62 = true then (some true) else ((glyph_Count.f x0).bind fun t189 => ((glyph_Count.f x1).bind fun t190 => (if x0.size + x1.size ≤ 9223372036854775807 then ((glyph_Name.f (x0 ++ x1)).bind fun t191 => (if (t191 == (decide ((wrap64 (t189 + t190)) ≤ 24))) = true then ((glyph_Valid.f x0).bind fun t192 => (if t192 = true then (if x2 > 127 then (some true) else (if x9 = true then (some true) else (if x8.size + x0.size ≤ 9223372036854775807 then ((glyph_Name.f (x8 ++ x0)).bind fun t193 => (if t193 = true then (some false) else (if x0.size + x8.size ≤ 9223372036854775807 then ((glyph_Name.f (x0 ++ x8)).bind fun t194 => (some (!t194))) else (none)))) else (none)))) else (some false))) else (some false))) else (none))))
end
def doormanlaw02_GlyphNames.f (k : Nat) (a0 : ByteArray) (a1 : ByteArray) (a2 : Int) : Option (Bool) := (doormanlaw02_awake.f).bind fun t182 => (if t182 = true then (if (a0.size : Int) > 100 then (doormanlaw02_GlyphNames.j0 k a0 a1 a2 true) else (doormanlaw02_GlyphNames.j0 k a0 a1 a2 (decide ((a1.size : Int) > 100)))) else (some false))
theorem doormanlaw02_GlyphNames.mono_l : ∀ k, (∀ y0 y1 y2 y3, LeO (doormanlaw02_GlyphNames.j0 k y0 y1 y2 y3) (doormanlaw02_GlyphNames.j0 (k + 1) y0 y1 y2 y3)) ∧ (∀ y0 y1 y2 y3 y4, LeO (doormanlaw02_GlyphNames.j1 k y0 y1 y2 y3 y4) (doormanlaw02_GlyphNames.j1 (k + 1) y0 y1 y2 y3 y4)) ∧ (∀ y0 y1 y2 y3 y4 y5, LeO (doormanlaw02_GlyphNames.j2 k y0 y1 y2 y3 y4 y5) (doormanlaw02_GlyphNames.j2 (k + 1) y0 y1 y2 y3 y4 y5))
  | 0 => ⟨fun _ _ _ _ r h => by simp [doormanlaw02_GlyphNames.j0] at h, fun _ _ _ _ _ r h => by simp [doormanlaw02_GlyphNames.j1] at h, fun _ _ _ _ _ _ r h => by simp [doormanlaw02_GlyphNames.j2] at h⟩
  | k + 1 => by
    obtain ⟨ih0, ih1, ih2⟩ := doormanlaw02_GlyphNames.mono_l k
    refine ⟨?_, ?_, ?_⟩
    · intro y0 y1 y2 y3
      unfold doormanlaw02_GlyphNames.j0
      repeat' first
      | (with_reducible exact ih0 _ _ _ _)
      | (with_reducible exact ih1 _ _ _ _ _)
      | (with_reducible exact ih2 _ _ _ _ _ _)
      | (with_reducible exact LeO.refl _)
      | (with_reducible exact LeO.none _)
      | (with_reducible refine LeO.ite ?_ ?_)
      | (with_reducible refine LeO.bind ?_ (fun _ => ?_))
      | exact ih0 _ _ _ _
      | exact ih1 _ _ _ _ _
      | exact ih2 _ _ _ _ _ _
      | exact LeO.none _
      | refine LeO.ite ?_ ?_
      | refine LeO.bind ?_ (fun _ => ?_)
    · intro y0 y1 y2 y3 y4
      unfold doormanlaw02_GlyphNames.j1
      repeat' first
      | (with_reducible exact ih0 _ _ _ _)
      | (with_reducible exact ih1 _ _ _ _ _)
      | (with_reducible exact ih2 _ _ _ _ _ _)
      | (with_reducible exact LeO.refl _)
      | (with_reducible exact LeO.none _)
      | (with_reducible refine LeO.ite ?_ ?_)
      | (with_reducible refine LeO.bind ?_ (fun _ => ?_))
      | exact ih0 _ _ _ _
      | exact ih1 _ _ _ _ _
      | exact ih2 _ _ _ _ _ _
      | exact LeO.none _
      | refine LeO.ite ?_ ?_
      | refine LeO.bind ?_ (fun _ => ?_)
    · intro y0 y1 y2 y3 y4 y5
      unfold doormanlaw02_GlyphNames.j2
      repeat' first
      | (with_reducible exact ih0 _ _ _ _)
      | (with_reducible exact ih1 _ _ _ _ _)
      | (with_reducible exact ih2 _ _ _ _ _ _)
      | (with_reducible exact LeO.refl _)
      | (with_reducible exact LeO.none _)
      | (with_reducible refine LeO.ite ?_ ?_)
      | (with_reducible refine LeO.bind ?_ (fun _ => ?_))
      | exact ih0 _ _ _ _
      | exact ih1 _ _ _ _ _
      | exact ih2 _ _ _ _ _ _
      | exact LeO.none _
      | refine LeO.ite ?_ ?_
      | refine LeO.bind ?_ (fun _ => ?_)
theorem doormanlaw02_GlyphNames.mono : ∀ a0 a1 a2 k, LeO (doormanlaw02_GlyphNames.f k a0 a1 a2) (doormanlaw02_GlyphNames.f (k + 1) a0 a1 a2) := by
  intro a0 a1 a2 k
  obtain ⟨ih0, ih1, ih2⟩ := doormanlaw02_GlyphNames.mono_l k
  unfold doormanlaw02_GlyphNames.f
  repeat' first
      | (with_reducible exact ih0 _ _ _ _)
      | (with_reducible exact ih1 _ _ _ _ _)
      | (with_reducible exact ih2 _ _ _ _ _ _)
      | (with_reducible exact LeO.refl _)
      | (with_reducible exact LeO.none _)
      | (with_reducible refine LeO.ite ?_ ?_)
      | (with_reducible refine LeO.bind ?_ (fun _ => ?_))
      | exact ih0 _ _ _ _
      | exact ih1 _ _ _ _ _
      | exact ih2 _ _ _ _ _ _
      | exact LeO.none _
      | refine LeO.ite ?_ ?_
      | refine LeO.bind ?_ (fun _ => ?_)
set_option maxHeartbeats 8000000 in
set_option maxRecDepth 100000 in
theorem doormanlaw02_GlyphNames.calls (k : Nat) (a0 : ByteArray) (a1 : ByteArray) (a2 : Int) (r : Bool) (w : World) (h : doormanlaw02_GlyphNames.f k a0 a1 a2 = some r) :
    Calls Try.prog 6 #[.string a0, .string a1, .int .u8 a2] w fun e w' => e = .returned (.bool r) ∧ Below w.heap.size w w' := by
  have HB := Aside0.mk (Below.refl w.heap.size w)
  have H : ((doormanlaw02_awake.f).bind fun t182 => (if t182 = true then (if (a0.size : Int) > 100 then (doormanlaw02_GlyphNames.j0 k a0 a1 a2 true) else (doormanlaw02_GlyphNames.j0 k a0 a1 a2 (decide ((a1.size : Int) > 100)))) else (some false))) = some r := h
  clear h
  replace H := Option.bind_eq_some_iff.mp H
  obtain ⟨t182, A40, H⟩ := H
  replace H : (if t182 = true then (if (a0.size : Int) > 100 then (doormanlaw02_GlyphNames.j0 k a0 a1 a2 true) else (doormanlaw02_GlyphNames.j0 k a0 a1 a2 (decide ((a1.size : Int) > 100)))) else (some false)) = some r := H
  have A4 := Aside0.mk A40
  clear A40
  by_cases c5 : t182 = true
  · subst c5
    have H1 : (if (a0.size : Int) > 100 then (doormanlaw02_GlyphNames.j0 k a0 a1 a2 true) else (doormanlaw02_GlyphNames.j0 k a0 a1 a2 (decide ((a1.size : Int) > 100)))) = some r := by rw [if_pos rfl] at H; exact H
    clear H
    have H := H1
    clear H1
    have HC6 := Aside0.mk H
    clear H
    go_enter Try.func6, Try.ntmps6
    go_upto_region 4 with (first | ((with_reducible refine gate_callee (f := 9) rfl ?_); refine goesL_ (some 11) rfl rfl Try.func9 (by kernel_rfl) rfl #[] rfl (by (try simp only [List.map_toArray, List.map_cons, List.map_nil]); first | done | rfl | (simp only [List.length_drop, List.length_take]; rfl)) ?_; (with_reducible refine (doormanlaw02_awake.calls  true _ A4.out).mono ?_); rintro e w7 ⟨rfl, hb⟩; refine ⟨_, rfl, ?_⟩; have n0_ := Aside0.mk (below_step (by repeat (first | (with_reducible first | exact HB.out | apply below_alloc | apply pw_below_drewN | apply below_drew1) | exact HB.out)) hb); clear HB; have HB := n0_; clear n0_; (try clear hb); (try clear hb2); (try clear hk); (try clear hi)))
    (try simp only [Act.put, List.setIfInBounds_toArray, List.set_cons_zero, List.set_cons_succ])
    go_cut [21] (fun v21 wc => ∃ (kq : Nat) (x21_5 : Bool), v21 = .bool x21_5 ∧ Aside0 (doormanlaw02_GlyphNames.j0 kq a0 a1 a2 x21_5 = some r) ∧ Aside0 (kq ≤ k) ∧ Aside0 (Below w.heap.size w wc))
    case first =>
      have H := HC6.out
      clear HC6
      by_cases c8 : (a0.size : Int) > 100
      · rw [if_pos c8] at H
        have c8b0 : decide (100 < (a0.size : Int)) = true := decide_eq_true c8
        have c8b1 : decide (100 < a0.size) = true := decide_eq_true (by omega)
        clear c8
        (first | rw [c8b0] | (simp only [i64_w, i32_w]; rw [c8b0]) | skip)
        have H' := Aside0.mk H
        clear H
        go_wp2
        go_meet
        case rel => exact ⟨_, (true), (by first | rfl | (simp; done) | (simp [*]; done)), H', ⟨by first | omega | exact Nat.le_refl _⟩, ⟨by repeat (first | (with_reducible first | exact HB.out | apply below_alloc | apply pw_below_drewN | apply below_drew1) | exact HB.out)⟩⟩
      · rw [if_neg c8] at H
        have c8b0 : decide (100 < (a0.size : Int)) = false := decide_eq_false c8
        have c8b1 : decide (100 < a0.size) = false := decide_eq_false (by omega)
        clear c8
        (first | rw [c8b0] | (simp only [i64_w, i32_w]; rw [c8b0]) | skip)
        have H' := Aside0.mk H
        clear H
        go_wp2
        go_meet
        case rel => exact ⟨_, (decide ((a1.size : Int) > 100)), (by first | rfl | (simp; done) | (simp [*]; done)), H', ⟨by first | omega | exact Nat.le_refl _⟩, ⟨by repeat (first | (with_reducible first | exact HB.out | apply below_alloc | apply pw_below_drewN | apply below_drew1) | exact HB.out)⟩⟩
    case rest =>
      clear HC6
      try clear p2
      try clear c5
      try clear c6
      try clear c8
      try clear c8b0
      try clear c8b1
      obtain ⟨kq, x21_5, rfl, HA, HJ5, HB⟩ := hcut
      cases kq with
      | zero => exact absurd HA.out (by simp [doormanlaw02_GlyphNames.j0])
      | succ kj5 =>
        have H := HA.out
        clear HA
        simp only [doormanlaw02_GlyphNames.j0] at H
        by_cases c9 : x21_5 = true
        · subst c9
          have H1 : (some true) = some r := by rw [if_pos rfl] at H; exact H
          clear H
          have H := H1
          clear H1
          obtain rfl := Option.some.inj H
          go_wp2
          go_ret
          exact ⟨by first | rfl | (simp [errW_none, errW_some] <;> rfl) | (simp [*, errW_none, errW_some] <;> rfl), by repeat (first | (with_reducible first | exact HB.out | apply below_alloc | apply pw_below_drewN | apply below_drew1) | exact HB.out)⟩
        · replace c9 := Bool.eq_false_iff.mpr c9
          subst c9
          have H1 : ((some (([a2] : List Int) : List Int)).bind fun y183 => (if a2 = 95 then (doormanlaw02_GlyphNames.j1 kj5 a0 a1 a2 (strOfNums y183) true) else (if a2 ≥ 97 then (if a2 ≤ 122 then (doormanlaw02_GlyphNames.j1 kj5 a0 a1 a2 (strOfNums y183) true) else (if a2 ≥ 65 then (if a2 ≤ 90 then (doormanlaw02_GlyphNames.j1 kj5 a0 a1 a2 (strOfNums y183) true) else (if a2 ≥ 48 then (doormanlaw02_GlyphNames.j1 kj5 a0 a1 a2 (strOfNums y183) (decide (a2 ≤ 57))) else (doormanlaw02_GlyphNames.j1 kj5 a0 a1 a2 (strOfNums y183) false))) else (if a2 ≥ 48 then (doormanlaw02_GlyphNames.j1 kj5 a0 a1 a2 (strOfNums y183) (decide (a2 ≤ 57))) else (doormanlaw02_GlyphNames.j1 kj5 a0 a1 a2 (strOfNums y183) false)))) else (if a2 ≥ 65 then (if a2 ≤ 90 then (doormanlaw02_GlyphNames.j1 kj5 a0 a1 a2 (strOfNums y183) true) else (if a2 ≥ 48 then (doormanlaw02_GlyphNames.j1 kj5 a0 a1 a2 (strOfNums y183) (decide (a2 ≤ 57))) else (doormanlaw02_GlyphNames.j1 kj5 a0 a1 a2 (strOfNums y183) false))) else (if a2 ≥ 48 then (doormanlaw02_GlyphNames.j1 kj5 a0 a1 a2 (strOfNums y183) (decide (a2 ≤ 57))) else (doormanlaw02_GlyphNames.j1 kj5 a0 a1 a2 (strOfNums y183) false)))))) = some r := by rw [if_neg (show ¬ (false = true) by decide)] at H; exact H
          clear H
          have H := H1
          clear H1
          obtain ⟨y183, hy183⟩ : ∃ y_ : List Int, y_ = (([a2] : List Int)) := ⟨_, rfl⟩
          replace H : (if a2 = 95 then (doormanlaw02_GlyphNames.j1 kj5 a0 a1 a2 (strOfNums y183) true) else (if a2 ≥ 97 then (if a2 ≤ 122 then (doormanlaw02_GlyphNames.j1 kj5 a0 a1 a2 (strOfNums y183) true) else (if a2 ≥ 65 then (if a2 ≤ 90 then (doormanlaw02_GlyphNames.j1 kj5 a0 a1 a2 (strOfNums y183) true) else (if a2 ≥ 48 then (doormanlaw02_GlyphNames.j1 kj5 a0 a1 a2 (strOfNums y183) (decide (a2 ≤ 57))) else (doormanlaw02_GlyphNames.j1 kj5 a0 a1 a2 (strOfNums y183) false))) else (if a2 ≥ 48 then (doormanlaw02_GlyphNames.j1 kj5 a0 a1 a2 (strOfNums y183) (decide (a2 ≤ 57))) else (doormanlaw02_GlyphNames.j1 kj5 a0 a1 a2 (strOfNums y183) false)))) else (if a2 ≥ 65 then (if a2 ≤ 90 then (doormanlaw02_GlyphNames.j1 kj5 a0 a1 a2 (strOfNums y183) true) else (if a2 ≥ 48 then (doormanlaw02_GlyphNames.j1 kj5 a0 a1 a2 (strOfNums y183) (decide (a2 ≤ 57))) else (doormanlaw02_GlyphNames.j1 kj5 a0 a1 a2 (strOfNums y183) false))) else (if a2 ≥ 48 then (doormanlaw02_GlyphNames.j1 kj5 a0 a1 a2 (strOfNums y183) (decide (a2 ≤ 57))) else (doormanlaw02_GlyphNames.j1 kj5 a0 a1 a2 (strOfNums y183) false))))) = some r := by first | (rw [hy183]; with_reducible exact H) | (have H2_ := (Option.bind_some _ _).symm.trans H; rw [hy183]; with_reducible exact H2_) | (have H2_ := (Option.bind_some _ _).symm.trans H; with_reducible exact H2_) | with_reducible exact H | (rw [hy183]; exact H) | exact H
          have Ny183 := Aside0.mk hy183
          clear hy183
          have HC10 := Aside0.mk H
          clear H
          go_upto_region 7 with (first | ((with_reducible refine gate_dst (N := 23) rfl ?_); (try (refine gate_guard (by rfl) ?_; dsimp only)); refine Kd.R_lit (Kd.int .u8) _ 5 ?hg (N := 23) ?hd (xs := ([a2] : List Int)) (inner := [.int .u8 a2]) (ok := fun _ => True) (okp := fun _ => True) ?hr ?hp (fun _ hk => hk) trivial (Below.refl _ _) (Nat.le_refl _) (by simp) ?_; (case hd => rfl); (case hg => rfl); (case hr => first | (go_simp; done) | (go_simp; rfl)); (case hp => exact (Reps.one (show Kd.M (Kd.int .u8) _ _ _ a2 [.int .u8 a2] from rfl) (Reps.none _ _))); intro v184 w11 ho12 hb hg_ hnew_; clear hg_ hnew_; (first | rw [← Ny183.out] at ho12 | (simp only [Int.reduceToNat] at ho12; rw [← Ny183.out] at ho12)); have n0_ := Aside0.mk (Kd.R_lower ho12 (below_size (by repeat (first | (with_reducible first | exact HB.out | apply below_alloc | apply pw_below_drewN | apply below_drew1) | exact HB.out)))); have n1_ := Aside0.mk (below_step (by repeat (first | (with_reducible first | exact HB.out | apply below_alloc | apply pw_below_drewN | apply below_drew1) | exact HB.out)) hb); clear HB; have HO185 := n0_; have HB := n1_; clear n0_ n1_; clear hb ho12; have hcv13 := own_string (P := Try.prog) Try.underlying34 Try.underlying5 Try.underlying9 (Kd.own_of_R HO185.out)))
          (try simp only [Act.put, List.setIfInBounds_toArray, List.set_cons_zero, List.set_cons_succ])
          go_cut [9] (fun v9 wc => ∃ (kq : Nat) (x9_9 : Bool), v9 = .bool x9_9 ∧ Aside0 (doormanlaw02_GlyphNames.j1 kq a0 a1 a2 (strOfNums y183) x9_9 = some r) ∧ Aside0 (kq ≤ kj5) ∧ Aside0 (Below w.heap.size w wc))
          case first =>
            have H := HC10.out
            clear HC10
            by_cases c14 : a2 = 95
            · rw [if_pos c14] at H
              have c14b0 : (a2 == 95) = true := beq_iff_eq.mpr c14
              have c14b1 : (a2 != 95) = false := bne_eq_false_iff_eq.mpr c14
              clear c14
              (first | rw [c14b0] | (simp only [i64_w, i32_w]; rw [c14b0]) | skip)
              have H' := Aside0.mk H
              clear H
              go_wp2
              go_meet
              case rel => exact ⟨_, (true), (by first | rfl | (simp; done) | (simp [*]; done)), H', ⟨by have := HJ5.out; first | omega | exact Nat.le_refl _⟩, ⟨by repeat (first | (with_reducible first | exact HB.out | apply below_alloc | apply pw_below_drewN | apply below_drew1) | exact HB.out)⟩⟩
            · rw [if_neg c14] at H
              have c14b0 : (a2 == 95) = false := beq_eq_false_iff_ne.mpr c14
              have c14b1 : (a2 != 95) = true := bne_iff_ne.mpr c14
              (first | rw [c14b0] | (simp only [i64_w, i32_w]; rw [c14b0]) | skip)
              by_cases c15 : a2 ≥ 97
              · rw [if_pos c15] at H
                have c15b0 : decide (97 ≤ a2) = true := decide_eq_true c15
                clear c15
                by_cases c16 : a2 ≤ 122
                · rw [if_pos c16] at H
                  have c16b0 : decide (a2 ≤ 122) = true := decide_eq_true c16
                  clear c16
                  have H' := Aside0.mk H
                  clear H
                  go_wp2
                  go_meet
                  case rel => exact ⟨_, (true), (by first | rfl | (simp; done) | (simp [*]; done)), H', ⟨by have := HJ5.out; first | omega | exact Nat.le_refl _⟩, ⟨by repeat (first | (with_reducible first | exact HB.out | apply below_alloc | apply pw_below_drewN | apply below_drew1) | exact HB.out)⟩⟩
                · rw [if_neg c16] at H
                  have c16b0 : decide (a2 ≤ 122) = false := decide_eq_false c16
                  clear c16
                  by_cases c17 : a2 ≥ 65
                  · rw [if_pos c17] at H
                    have c17b0 : decide (65 ≤ a2) = true := decide_eq_true c17
                    clear c17
                    by_cases c18 : a2 ≤ 90
                    · rw [if_pos c18] at H
                      have c18b0 : decide (a2 ≤ 90) = true := decide_eq_true c18
                      clear c18
                      have H' := Aside0.mk H
                      clear H
                      go_wp2
                      go_meet
                      case rel => exact ⟨_, (true), (by first | rfl | (simp; done) | (simp [*]; done)), H', ⟨by have := HJ5.out; first | omega | exact Nat.le_refl _⟩, ⟨by repeat (first | (with_reducible first | exact HB.out | apply below_alloc | apply pw_below_drewN | apply below_drew1) | exact HB.out)⟩⟩
                    · rw [if_neg c18] at H
                      have c18b0 : decide (a2 ≤ 90) = false := decide_eq_false c18
                      clear c18
                      by_cases c19 : a2 ≥ 48
                      · rw [if_pos c19] at H
                        have c19b0 : decide (48 ≤ a2) = true := decide_eq_true c19
                        clear c19
                        have H' := Aside0.mk H
                        clear H
                        go_wp2
                        go_meet
                        case rel => exact ⟨_, (decide (a2 ≤ 57)), (by first | rfl | (simp; done) | (simp [*]; done)), H', ⟨by have := HJ5.out; first | omega | exact Nat.le_refl _⟩, ⟨by repeat (first | (with_reducible first | exact HB.out | apply below_alloc | apply pw_below_drewN | apply below_drew1) | exact HB.out)⟩⟩
                      · rw [if_neg c19] at H
                        have c19b0 : decide (48 ≤ a2) = false := decide_eq_false c19
                        clear c19
                        have H' := Aside0.mk H
                        clear H
                        go_wp2
                        go_meet
                        case rel => exact ⟨_, (false), (by first | rfl | (simp; done) | (simp [*]; done)), H', ⟨by have := HJ5.out; first | omega | exact Nat.le_refl _⟩, ⟨by repeat (first | (with_reducible first | exact HB.out | apply below_alloc | apply pw_below_drewN | apply below_drew1) | exact HB.out)⟩⟩
                  · rw [if_neg c17] at H
                    have c17b0 : decide (65 ≤ a2) = false := decide_eq_false c17
                    clear c17
                    by_cases c20 : a2 ≥ 48
                    · rw [if_pos c20] at H
                      have c20b0 : decide (48 ≤ a2) = true := decide_eq_true c20
                      clear c20
                      have H' := Aside0.mk H
                      clear H
                      go_wp2
                      go_meet
                      case rel => exact ⟨_, (decide (a2 ≤ 57)), (by first | rfl | (simp; done) | (simp [*]; done)), H', ⟨by have := HJ5.out; first | omega | exact Nat.le_refl _⟩, ⟨by repeat (first | (with_reducible first | exact HB.out | apply below_alloc | apply pw_below_drewN | apply below_drew1) | exact HB.out)⟩⟩
                    · rw [if_neg c20] at H
                      have c20b0 : decide (48 ≤ a2) = false := decide_eq_false c20
                      clear c20
                      have H' := Aside0.mk H
                      clear H
                      go_wp2
                      go_meet
                      case rel => exact ⟨_, (false), (by first | rfl | (simp; done) | (simp [*]; done)), H', ⟨by have := HJ5.out; first | omega | exact Nat.le_refl _⟩, ⟨by repeat (first | (with_reducible first | exact HB.out | apply below_alloc | apply pw_below_drewN | apply below_drew1) | exact HB.out)⟩⟩
              · rw [if_neg c15] at H
                have c15b0 : decide (97 ≤ a2) = false := decide_eq_false c15
                clear c15
                by_cases c21 : a2 ≥ 65
                · rw [if_pos c21] at H
                  have c21b0 : decide (65 ≤ a2) = true := decide_eq_true c21
                  clear c21
                  by_cases c22 : a2 ≤ 90
                  · rw [if_pos c22] at H
                    have c22b0 : decide (a2 ≤ 90) = true := decide_eq_true c22
                    clear c22
                    have H' := Aside0.mk H
                    clear H
                    go_wp2
                    go_meet
                    case rel => exact ⟨_, (true), (by first | rfl | (simp; done) | (simp [*]; done)), H', ⟨by have := HJ5.out; first | omega | exact Nat.le_refl _⟩, ⟨by repeat (first | (with_reducible first | exact HB.out | apply below_alloc | apply pw_below_drewN | apply below_drew1) | exact HB.out)⟩⟩
                  · rw [if_neg c22] at H
                    have c22b0 : decide (a2 ≤ 90) = false := decide_eq_false c22
                    clear c22
                    by_cases c23 : a2 ≥ 48
                    · rw [if_pos c23] at H
                      have c23b0 : decide (48 ≤ a2) = true := decide_eq_true c23
                      clear c23
                      have H' := Aside0.mk H
                      clear H
                      go_wp2
                      go_meet
                      case rel => exact ⟨_, (decide (a2 ≤ 57)), (by first | rfl | (simp; done) | (simp [*]; done)), H', ⟨by have := HJ5.out; first | omega | exact Nat.le_refl _⟩, ⟨by repeat (first | (with_reducible first | exact HB.out | apply below_alloc | apply pw_below_drewN | apply below_drew1) | exact HB.out)⟩⟩
                    · rw [if_neg c23] at H
                      have c23b0 : decide (48 ≤ a2) = false := decide_eq_false c23
                      clear c23
                      have H' := Aside0.mk H
                      clear H
                      go_wp2
                      go_meet
                      case rel => exact ⟨_, (false), (by first | rfl | (simp; done) | (simp [*]; done)), H', ⟨by have := HJ5.out; first | omega | exact Nat.le_refl _⟩, ⟨by repeat (first | (with_reducible first | exact HB.out | apply below_alloc | apply pw_below_drewN | apply below_drew1) | exact HB.out)⟩⟩
                · rw [if_neg c21] at H
                  have c21b0 : decide (65 ≤ a2) = false := decide_eq_false c21
                  clear c21
                  by_cases c24 : a2 ≥ 48
                  · rw [if_pos c24] at H
                    have c24b0 : decide (48 ≤ a2) = true := decide_eq_true c24
                    clear c24
                    have H' := Aside0.mk H
                    clear H
                    go_wp2
                    go_meet
                    case rel => exact ⟨_, (decide (a2 ≤ 57)), (by first | rfl | (simp; done) | (simp [*]; done)), H', ⟨by have := HJ5.out; first | omega | exact Nat.le_refl _⟩, ⟨by repeat (first | (with_reducible first | exact HB.out | apply below_alloc | apply pw_below_drewN | apply below_drew1) | exact HB.out)⟩⟩
                  · rw [if_neg c24] at H
                    have c24b0 : decide (48 ≤ a2) = false := decide_eq_false c24
                    clear c24
                    have H' := Aside0.mk H
                    clear H
                    go_wp2
                    go_meet
                    case rel => exact ⟨_, (false), (by first | rfl | (simp; done) | (simp [*]; done)), H', ⟨by have := HJ5.out; first | omega | exact Nat.le_refl _⟩, ⟨by repeat (first | (with_reducible first | exact HB.out | apply below_alloc | apply pw_below_drewN | apply below_drew1) | exact HB.out)⟩⟩
          case rest =>
            clear HC10
            try clear c1
            try clear hcv1
            try clear c2
            try clear p2
            try clear c5
            try clear c6
            try clear c8
            try clear c8b0
            try clear c8b1
            try clear c9
            try clear hcv13
            try clear c14
            try clear c14b0
            try clear c14b1
            try clear c15
            try clear c15b0
            try clear c16
            try clear c16b0
            try clear c17
            try clear c17b0
            try clear c18
            try clear c18b0
            try clear c19
            try clear c19b0
            try clear c20
            try clear c20b0
            try clear c21
            try clear c21b0
            try clear c22
            try clear c22b0
            try clear c23
            try clear c23b0
            try clear c24
            try clear c24b0
            try clear p2
            obtain ⟨kq, x9_9, rfl, HA, HJ9, HB⟩ := hcut
            cases kq with
            | zero => exact absurd HA.out (by simp [doormanlaw02_GlyphNames.j1])
            | succ kj9 =>
              have H := HA.out
              clear HA
              simp only [doormanlaw02_GlyphNames.j1] at H
              replace H := Option.bind_eq_some_iff.mp H
              obtain ⟨t186, A250, H⟩ := H
              replace H : (if (t186 != x9_9) = true then (some false) else ((glyph_Name.f a0).bind fun t187 => (if t187 = true then ((glyph_Name.f a1).bind fun t188 => (doormanlaw02_GlyphNames.j2 kj9 a0 a1 a2 (strOfNums y183) x9_9 (!t188))) else (doormanlaw02_GlyphNames.j2 kj9 a0 a1 a2 (strOfNums y183) x9_9 true)))) = some r := H
              have A25 := Aside0.mk A250
              clear A250
              by_cases c26 : (t186 != x9_9) = true
              · rw [if_pos c26] at H
                have c26b0 : (t186 != x9_9) = true := c26
                (try (have c26b1 : decide (t186 = x9_9) = false := by simpa using c26))
                (try (have c26b2 : (t186 == x9_9) = false := by simpa using c26))
                (try (have c26b3 : ¬ (t186 = x9_9) := by simpa using c26))
                clear c26
                obtain rfl := Option.some.inj H
                go_wp2_with (first | ((with_reducible refine gate_callee (f := 18) rfl ?_); refine goesL_ (some 52) rfl rfl Try.func18 (by kernel_rfl) rfl #[.string (strOfNums y183)] rfl (by (try simp only [List.map_toArray, List.map_cons, List.map_nil]); first | done | rfl | (simp only [List.length_drop, List.length_take]; rfl)) ?_; (with_reducible refine (glyph_Name.calls (strOfNums y183) t186 _ A25.out).mono ?_); rintro e w27 ⟨rfl, hb⟩; refine ⟨_, rfl, ?_⟩; have n0_ := Aside0.mk (below_step (by repeat (first | (with_reducible first | exact HB.out | apply below_alloc | apply pw_below_drewN | apply below_drew1) | exact HB.out)) hb); clear HB; have HB := n0_; clear n0_; (try clear hb); (try clear hb2); (try clear hk); (try clear hi)))
                go_ret
                exact ⟨by first | rfl | (simp [errW_none, errW_some] <;> rfl) | (simp [*, errW_none, errW_some] <;> rfl), by repeat (first | (with_reducible first | exact HB.out | apply below_alloc | apply pw_below_drewN | apply below_drew1) | exact HB.out)⟩
              · rw [if_neg c26] at H
                have c26b0 : (t186 != x9_9) = false := by simpa using c26
                (try (have c26b1 : decide (t186 = x9_9) = true := by simpa using c26))
                (try (have c26b2 : (t186 == x9_9) = true := by simpa using c26))
                clear c26
                have HC28 := Aside0.mk H
                clear H
                go_upto_region 10 with (first | ((with_reducible refine gate_callee (f := 18) rfl ?_); refine goesL_ (some 52) rfl rfl Try.func18 (by kernel_rfl) rfl #[.string (strOfNums y183)] rfl (by (try simp only [List.map_toArray, List.map_cons, List.map_nil]); first | done | rfl | (simp only [List.length_drop, List.length_take]; rfl)) ?_; (with_reducible refine (glyph_Name.calls (strOfNums y183) t186 _ A25.out).mono ?_); rintro e w29 ⟨rfl, hb⟩; refine ⟨_, rfl, ?_⟩; have n0_ := Aside0.mk (below_step (by repeat (first | (with_reducible first | exact HB.out | apply below_alloc | apply pw_below_drewN | apply below_drew1) | exact HB.out)) hb); clear HB; have HB := n0_; clear n0_; (try clear hb); (try clear hb2); (try clear hk); (try clear hi)))
                (try simp only [Act.put, List.setIfInBounds_toArray, List.set_cons_zero, List.set_cons_succ])
                go_cut [62] (fun v62 wc => ∃ (kq : Nat) (x62_27 : Bool), v62 = .bool x62_27 ∧ Aside0 (doormanlaw02_GlyphNames.j2 kq a0 a1 a2 (strOfNums y183) x9_9 x62_27 = some r) ∧ Aside0 (kq ≤ kj9) ∧ Aside0 (Below w.heap.size w wc))
                case first =>
                  have H := HC28.out
                  clear HC28
                  replace H := Option.bind_eq_some_iff.mp H
                  obtain ⟨t187, A300, H⟩ := H
                  replace H : (if t187 = true then ((glyph_Name.f a1).bind fun t188 => (doormanlaw02_GlyphNames.j2 kj9 a0 a1 a2 (strOfNums y183) x9_9 (!t188))) else (doormanlaw02_GlyphNames.j2 kj9 a0 a1 a2 (strOfNums y183) x9_9 true)) = some r := H
                  have A30 := Aside0.mk A300
                  clear A300
                  by_cases c31 : t187 = true
                  · subst c31
                    have H1 : ((glyph_Name.f a1).bind fun t188 => (doormanlaw02_GlyphNames.j2 kj9 a0 a1 a2 (strOfNums y183) x9_9 (!t188))) = some r := by rw [if_pos rfl] at H; exact H
                    clear H
                    have H := H1
                    clear H1
                    replace H := Option.bind_eq_some_iff.mp H
                    obtain ⟨t188, A320, H⟩ := H
                    replace H : (doormanlaw02_GlyphNames.j2 kj9 a0 a1 a2 (strOfNums y183) x9_9 (!t188)) = some r := H
                    have A32 := Aside0.mk A320
                    clear A320
                    have H' := Aside0.mk H
                    clear H
                    go_wp2_with (first | ((with_reducible refine gate_callee (f := 18) rfl ?_); refine goesL_ (some 56) rfl rfl Try.func18 (by kernel_rfl) rfl #[.string a0] rfl (by (try simp only [List.map_toArray, List.map_cons, List.map_nil]); first | done | rfl | (simp only [List.length_drop, List.length_take]; rfl)) ?_; (with_reducible refine (glyph_Name.calls a0 true _ A30.out).mono ?_); rintro e w33 ⟨rfl, hb⟩; refine ⟨_, rfl, ?_⟩; have n0_ := Aside0.mk (below_step (by repeat (first | (with_reducible first | exact HB.out | apply below_alloc | apply pw_below_drewN | apply below_drew1) | exact HB.out)) hb); clear HB; have HB := n0_; clear n0_; (try clear hb); (try clear hb2); (try clear hk); (try clear hi)) | (go_at_call 18; (with_reducible refine (glyph_Name.calls a1 t188 _ A32.out).mono ?_); rintro e w34 ⟨rfl, hb⟩; have n0_ := Aside0.mk (below_step (by repeat (first | (with_reducible first | exact HB.out | apply below_alloc | apply pw_below_drewN | apply below_drew1) | exact HB.out)) hb); clear HB; have HB := n0_; clear n0_; (try clear hb); (try clear hb2); (try clear hk); (try clear hi)))
                    go_meet
                    case rel => exact ⟨_, (!t188), (by first | rfl | (simp; done) | (simp [*]; done)), H', ⟨by have := HJ5.out; have := HJ9.out; first | omega | exact Nat.le_refl _⟩, ⟨by repeat (first | (with_reducible first | exact HB.out | apply below_alloc | apply pw_below_drewN | apply below_drew1) | exact HB.out)⟩⟩
                  · replace c31 := Bool.eq_false_iff.mpr c31
                    subst c31
                    have H1 : (doormanlaw02_GlyphNames.j2 kj9 a0 a1 a2 (strOfNums y183) x9_9 true) = some r := by rw [if_neg (show ¬ (false = true) by decide)] at H; exact H
                    clear H
                    have H := H1
                    clear H1
                    have H' := Aside0.mk H
                    clear H
                    go_wp2_with (first | ((with_reducible refine gate_callee (f := 18) rfl ?_); refine goesL_ (some 56) rfl rfl Try.func18 (by kernel_rfl) rfl #[.string a0] rfl (by (try simp only [List.map_toArray, List.map_cons, List.map_nil]); first | done | rfl | (simp only [List.length_drop, List.length_take]; rfl)) ?_; (with_reducible refine (glyph_Name.calls a0 false _ A30.out).mono ?_); rintro e w35 ⟨rfl, hb⟩; refine ⟨_, rfl, ?_⟩; have n0_ := Aside0.mk (below_step (by repeat (first | (with_reducible first | exact HB.out | apply below_alloc | apply pw_below_drewN | apply below_drew1) | exact HB.out)) hb); clear HB; have HB := n0_; clear n0_; (try clear hb); (try clear hb2); (try clear hk); (try clear hi)))
                    go_meet
                    case rel => exact ⟨_, (true), (by first | rfl | (simp; done) | (simp [*]; done)), H', ⟨by have := HJ5.out; have := HJ9.out; first | omega | exact Nat.le_refl _⟩, ⟨by repeat (first | (with_reducible first | exact HB.out | apply below_alloc | apply pw_below_drewN | apply below_drew1) | exact HB.out)⟩⟩
                case rest =>
                  clear HC28
                  try clear c1
                  try clear hcv1
                  try clear c2
                  try clear p2
                  try clear c3
                  try clear c5
                  try clear c6
                  try clear c8
                  try clear c8b0
                  try clear c8b1
                  try clear c9
                  try clear hcv13
                  try clear c14
                  try clear c14b0
                  try clear c14b1
                  try clear c15
                  try clear c15b0
                  try clear c16
                  try clear c16b0
                  try clear c17
                  try clear c17b0
                  try clear c18
                  try clear c18b0
                  try clear c19
                  try clear c19b0
                  try clear c20
                  try clear c20b0
                  try clear c21
                  try clear c21b0
                  try clear c22
                  try clear c22b0
                  try clear c23
                  try clear c23b0
                  try clear c24
                  try clear c24b0
                  try clear c26
                  try clear c26b0
                  try clear c26b1
                  try clear c26b2
                  try clear c31
                  try clear p2
                  obtain ⟨kq, x62_27, rfl, HA, HJ27, HB⟩ := hcut
                  cases kq with
                  | zero => exact absurd HA.out (by simp [doormanlaw02_GlyphNames.j2])
                  | succ kj27 =>
                    have H := HA.out
                    clear HA
                    simp only [doormanlaw02_GlyphNames.j2] at H
                    by_cases c36 : x62_27 = true
                    · subst c36
                      have H1 : (some true) = some r := by rw [if_pos rfl] at H; exact H
                      clear H
                      have H := H1
                      clear H1
                      obtain rfl := Option.some.inj H
                      go_wp2
                      go_ret
                      exact ⟨by first | rfl | (simp [errW_none, errW_some] <;> rfl) | (simp [*, errW_none, errW_some] <;> rfl), by repeat (first | (with_reducible first | exact HB.out | apply below_alloc | apply pw_below_drewN | apply below_drew1) | exact HB.out)⟩
                    · replace c36 := Bool.eq_false_iff.mpr c36
                      subst c36
                      have H1 : ((glyph_Count.f a0).bind fun t189 => ((glyph_Count.f a1).bind fun t190 => (if a0.size + a1.size ≤ 9223372036854775807 then ((glyph_Name.f (a0 ++ a1)).bind fun t191 => (if (t191 == (decide ((wrap64 (t189 + t190)) ≤ 24))) = true then ((glyph_Valid.f a0).bind fun t192 => (if t192 = true then (if a2 > 127 then (some true) else (if x9_9 = true then (some true) else (if (strOfNums y183).size + a0.size ≤ 9223372036854775807 then ((glyph_Name.f ((strOfNums y183) ++ a0)).bind fun t193 => (if t193 = true then (some false) else (if a0.size + (strOfNums y183).size ≤ 9223372036854775807 then ((glyph_Name.f (a0 ++ (strOfNums y183))).bind fun t194 => (some (!t194))) else (none)))) else (none)))) else (some false))) else (some false))) else (none)))) = some r := by rw [if_neg (show ¬ (false = true) by decide)] at H; exact H
                      clear H
                      have H := H1
                      clear H1
                      replace H := Option.bind_eq_some_iff.mp H
                      obtain ⟨t189, A370, H⟩ := H
                      replace H : ((glyph_Count.f a1).bind fun t190 => (if a0.size + a1.size ≤ 9223372036854775807 then ((glyph_Name.f (a0 ++ a1)).bind fun t191 => (if (t191 == (decide ((wrap64 (t189 + t190)) ≤ 24))) = true then ((glyph_Valid.f a0).bind fun t192 => (if t192 = true then (if a2 > 127 then (some true) else (if x9_9 = true then (some true) else (if (strOfNums y183).size + a0.size ≤ 9223372036854775807 then ((glyph_Name.f ((strOfNums y183) ++ a0)).bind fun t193 => (if t193 = true then (some false) else (if a0.size + (strOfNums y183).size ≤ 9223372036854775807 then ((glyph_Name.f (a0 ++ (strOfNums y183))).bind fun t194 => (some (!t194))) else (none)))) else (none)))) else (some false))) else (some false))) else (none))) = some r := H
                      have A37 := Aside0.mk A370
                      clear A370
                      replace H := Option.bind_eq_some_iff.mp H
                      obtain ⟨t190, A380, H⟩ := H
                      replace H : (if a0.size + a1.size ≤ 9223372036854775807 then ((glyph_Name.f (a0 ++ a1)).bind fun t191 => (if (t191 == (decide ((wrap64 (t189 + t190)) ≤ 24))) = true then ((glyph_Valid.f a0).bind fun t192 => (if t192 = true then (if a2 > 127 then (some true) else (if x9_9 = true then (some true) else (if (strOfNums y183).size + a0.size ≤ 9223372036854775807 then ((glyph_Name.f ((strOfNums y183) ++ a0)).bind fun t193 => (if t193 = true then (some false) else (if a0.size + (strOfNums y183).size ≤ 9223372036854775807 then ((glyph_Name.f (a0 ++ (strOfNums y183))).bind fun t194 => (some (!t194))) else (none)))) else (none)))) else (some false))) else (some false))) else (none)) = some r := H
                      have A38 := Aside0.mk A380
                      clear A380
                      by_cases c39 : a0.size + a1.size ≤ 9223372036854775807
                      · rw [if_pos c39] at H
                        have c39b0 := eq_true c39
                        have c39b1 : decide (a0.size + a1.size ≤ 9223372036854775807) = true := decide_eq_true c39
                        try have c39b2 : (9223372036854775807 < a0.size + a1.size) = False := eq_false (Nat.not_lt.2 c39)
                        replace H := Option.bind_eq_some_iff.mp H
                        obtain ⟨t191, A400, H⟩ := H
                        replace H : (if (t191 == (decide ((wrap64 (t189 + t190)) ≤ 24))) = true then ((glyph_Valid.f a0).bind fun t192 => (if t192 = true then (if a2 > 127 then (some true) else (if x9_9 = true then (some true) else (if (strOfNums y183).size + a0.size ≤ 9223372036854775807 then ((glyph_Name.f ((strOfNums y183) ++ a0)).bind fun t193 => (if t193 = true then (some false) else (if a0.size + (strOfNums y183).size ≤ 9223372036854775807 then ((glyph_Name.f (a0 ++ (strOfNums y183))).bind fun t194 => (some (!t194))) else (none)))) else (none)))) else (some false))) else (some false)) = some r := H
                        have A40 := Aside0.mk A400
                        clear A400
                        by_cases c41 : (t191 == (decide ((wrap64 (t189 + t190)) ≤ 24))) = true
                        · rw [if_pos c41] at H
                          have c41b0 : (t191 == (decide ((wrap64 (t189 + t190)) ≤ 24))) = true := c41
                          (try (have c41b1 : decide (t191 = (decide ((wrap64 (t189 + t190)) ≤ 24))) = true := by simpa using c41))
                          (try (have c41b2 : (t191 == (decide ((wrap64 (t189 + t190)) ≤ 24))) = true := by simpa using c41))
                          clear c41
                          replace H := Option.bind_eq_some_iff.mp H
                          obtain ⟨t192, A420, H⟩ := H
                          replace H : (if t192 = true then (if a2 > 127 then (some true) else (if x9_9 = true then (some true) else (if (strOfNums y183).size + a0.size ≤ 9223372036854775807 then ((glyph_Name.f ((strOfNums y183) ++ a0)).bind fun t193 => (if t193 = true then (some false) else (if a0.size + (strOfNums y183).size ≤ 9223372036854775807 then ((glyph_Name.f (a0 ++ (strOfNums y183))).bind fun t194 => (some (!t194))) else (none)))) else (none)))) else (some false)) = some r := H
                          have A42 := Aside0.mk A420
                          clear A420
                          by_cases c43 : t192 = true
                          · subst c43
                            have H1 : (if a2 > 127 then (some true) else (if x9_9 = true then (some true) else (if (strOfNums y183).size + a0.size ≤ 9223372036854775807 then ((glyph_Name.f ((strOfNums y183) ++ a0)).bind fun t193 => (if t193 = true then (some false) else (if a0.size + (strOfNums y183).size ≤ 9223372036854775807 then ((glyph_Name.f (a0 ++ (strOfNums y183))).bind fun t194 => (some (!t194))) else (none)))) else (none)))) = some r := by rw [if_pos rfl] at H; exact H
                            clear H
                            have H := H1
                            clear H1
                            by_cases c44 : a2 > 127
                            · rw [if_pos c44] at H
                              have c44b0 : decide (127 < a2) = true := decide_eq_true c44
                              clear c44
                              obtain rfl := Option.some.inj H
                              go_wp2_with (first | ((with_reducible refine gate_callee (f := 16) rfl ?_); refine goesL_ (some 64) rfl rfl Try.func16 (by kernel_rfl) rfl #[.string a0] rfl (by (try simp only [List.map_toArray, List.map_cons, List.map_nil]); first | done | rfl | (simp only [List.length_drop, List.length_take]; rfl)) ?_; (with_reducible refine (glyph_Count.calls a0 t189 _ A37.out).mono ?_); rintro e w45 ⟨rfl, hb⟩; refine ⟨_, rfl, ?_⟩; have n0_ := Aside0.mk (below_step (by repeat (first | (with_reducible first | exact HB.out | apply below_alloc | apply pw_below_drewN | apply below_drew1) | exact HB.out)) hb); clear HB; have HB := n0_; clear n0_; (try clear hb); (try clear hb2); (try clear hk); (try clear hi)) | ((with_reducible refine gate_callee (f := 16) rfl ?_); refine goesL_ (some 66) rfl rfl Try.func16 (by kernel_rfl) rfl #[.string a1] rfl (by (try simp only [List.map_toArray, List.map_cons, List.map_nil]); first | done | rfl | (simp only [List.length_drop, List.length_take]; rfl)) ?_; (with_reducible refine (glyph_Count.calls a1 t190 _ A38.out).mono ?_); rintro e w46 ⟨rfl, hb⟩; refine ⟨_, rfl, ?_⟩; have n0_ := Aside0.mk (below_step (by repeat (first | (with_reducible first | exact HB.out | apply below_alloc | apply pw_below_drewN | apply below_drew1) | exact HB.out)) hb); clear HB; have HB := n0_; clear n0_; (try clear hb); (try clear hb2); (try clear hk); (try clear hi)) | ((with_reducible refine gate_callee (f := 18) rfl ?_); refine goesL_ (some 71) rfl rfl Try.func18 (by kernel_rfl) rfl #[.string (a0 ++ a1)] rfl (by (try simp only [List.map_toArray, List.map_cons, List.map_nil]); first | done | rfl | (simp only [List.length_drop, List.length_take]; rfl)) ?_; (with_reducible refine (glyph_Name.calls (a0 ++ a1) t191 _ A40.out).mono ?_); rintro e w47 ⟨rfl, hb⟩; refine ⟨_, rfl, ?_⟩; have n0_ := Aside0.mk (below_step (by repeat (first | (with_reducible first | exact HB.out | apply below_alloc | apply pw_below_drewN | apply below_drew1) | exact HB.out)) hb); clear HB; have HB := n0_; clear n0_; (try clear hb); (try clear hb2); (try clear hk); (try clear hi)) | (go_at_call 14; (with_reducible refine (glyph_Valid.calls a0 true _ A42.out).mono ?_); rintro e w48 ⟨rfl, hb⟩; have n0_ := Aside0.mk (below_step (by repeat (first | (with_reducible first | exact HB.out | apply below_alloc | apply pw_below_drewN | apply below_drew1) | exact HB.out)) hb); clear HB; have HB := n0_; clear n0_; (try clear hb); (try clear hb2); (try clear hk); (try clear hi)))
                              go_ret
                              exact ⟨by first | rfl | (simp [errW_none, errW_some] <;> rfl) | (simp [*, errW_none, errW_some] <;> rfl), by repeat (first | (with_reducible first | exact HB.out | apply below_alloc | apply pw_below_drewN | apply below_drew1) | exact HB.out)⟩
                            · rw [if_neg c44] at H
                              have c44b0 : decide (127 < a2) = false := decide_eq_false c44
                              clear c44
                              by_cases c49 : x9_9 = true
                              · subst c49
                                have H1 : (some true) = some r := by rw [if_pos rfl] at H; exact H
                                clear H
                                have H := H1
                                clear H1
                                obtain rfl := Option.some.inj H
                                go_wp2_with (first | ((with_reducible refine gate_callee (f := 16) rfl ?_); refine goesL_ (some 64) rfl rfl Try.func16 (by kernel_rfl) rfl #[.string a0] rfl (by (try simp only [List.map_toArray, List.map_cons, List.map_nil]); first | done | rfl | (simp only [List.length_drop, List.length_take]; rfl)) ?_; (with_reducible refine (glyph_Count.calls a0 t189 _ A37.out).mono ?_); rintro e w50 ⟨rfl, hb⟩; refine ⟨_, rfl, ?_⟩; have n0_ := Aside0.mk (below_step (by repeat (first | (with_reducible first | exact HB.out | apply below_alloc | apply pw_below_drewN | apply below_drew1) | exact HB.out)) hb); clear HB; have HB := n0_; clear n0_; (try clear hb); (try clear hb2); (try clear hk); (try clear hi)) | ((with_reducible refine gate_callee (f := 16) rfl ?_); refine goesL_ (some 66) rfl rfl Try.func16 (by kernel_rfl) rfl #[.string a1] rfl (by (try simp only [List.map_toArray, List.map_cons, List.map_nil]); first | done | rfl | (simp only [List.length_drop, List.length_take]; rfl)) ?_; (with_reducible refine (glyph_Count.calls a1 t190 _ A38.out).mono ?_); rintro e w51 ⟨rfl, hb⟩; refine ⟨_, rfl, ?_⟩; have n0_ := Aside0.mk (below_step (by repeat (first | (with_reducible first | exact HB.out | apply below_alloc | apply pw_below_drewN | apply below_drew1) | exact HB.out)) hb); clear HB; have HB := n0_; clear n0_; (try clear hb); (try clear hb2); (try clear hk); (try clear hi)) | ((with_reducible refine gate_callee (f := 18) rfl ?_); refine goesL_ (some 71) rfl rfl Try.func18 (by kernel_rfl) rfl #[.string (a0 ++ a1)] rfl (by (try simp only [List.map_toArray, List.map_cons, List.map_nil]); first | done | rfl | (simp only [List.length_drop, List.length_take]; rfl)) ?_; (with_reducible refine (glyph_Name.calls (a0 ++ a1) t191 _ A40.out).mono ?_); rintro e w52 ⟨rfl, hb⟩; refine ⟨_, rfl, ?_⟩; have n0_ := Aside0.mk (below_step (by repeat (first | (with_reducible first | exact HB.out | apply below_alloc | apply pw_below_drewN | apply below_drew1) | exact HB.out)) hb); clear HB; have HB := n0_; clear n0_; (try clear hb); (try clear hb2); (try clear hk); (try clear hi)) | (go_at_call 14; (with_reducible refine (glyph_Valid.calls a0 true _ A42.out).mono ?_); rintro e w53 ⟨rfl, hb⟩; have n0_ := Aside0.mk (below_step (by repeat (first | (with_reducible first | exact HB.out | apply below_alloc | apply pw_below_drewN | apply below_drew1) | exact HB.out)) hb); clear HB; have HB := n0_; clear n0_; (try clear hb); (try clear hb2); (try clear hk); (try clear hi)))
                                go_ret
                                exact ⟨by first | rfl | (simp [errW_none, errW_some] <;> rfl) | (simp [*, errW_none, errW_some] <;> rfl), by repeat (first | (with_reducible first | exact HB.out | apply below_alloc | apply pw_below_drewN | apply below_drew1) | exact HB.out)⟩
                              · replace c49 := Bool.eq_false_iff.mpr c49
                                subst c49
                                have H1 : (if (strOfNums y183).size + a0.size ≤ 9223372036854775807 then ((glyph_Name.f ((strOfNums y183) ++ a0)).bind fun t193 => (if t193 = true then (some false) else (if a0.size + (strOfNums y183).size ≤ 9223372036854775807 then ((glyph_Name.f (a0 ++ (strOfNums y183))).bind fun t194 => (some (!t194))) else (none)))) else (none)) = some r := by rw [if_neg (show ¬ (false = true) by decide)] at H; exact H
                                clear H
                                have H := H1
                                clear H1
                                by_cases c54 : (strOfNums y183).size + a0.size ≤ 9223372036854775807
                                · rw [if_pos c54] at H
                                  have c54b0 := eq_true c54
                                  have c54b1 : decide ((strOfNums y183).size + a0.size ≤ 9223372036854775807) = true := decide_eq_true c54
                                  try have c54b2 : (9223372036854775807 < (strOfNums y183).size + a0.size) = False := eq_false (Nat.not_lt.2 c54)
                                  replace H := Option.bind_eq_some_iff.mp H
                                  obtain ⟨t193, A550, H⟩ := H
                                  replace H : (if t193 = true then (some false) else (if a0.size + (strOfNums y183).size ≤ 9223372036854775807 then ((glyph_Name.f (a0 ++ (strOfNums y183))).bind fun t194 => (some (!t194))) else (none))) = some r := H
                                  have A55 := Aside0.mk A550
                                  clear A550
                                  by_cases c56 : t193 = true
                                  · subst c56
                                    have H1 : (some false) = some r := by rw [if_pos rfl] at H; exact H
                                    clear H
                                    have H := H1
                                    clear H1
                                    obtain rfl := Option.some.inj H
                                    go_wp2_with (first | ((with_reducible refine gate_callee (f := 16) rfl ?_); refine goesL_ (some 64) rfl rfl Try.func16 (by kernel_rfl) rfl #[.string a0] rfl (by (try simp only [List.map_toArray, List.map_cons, List.map_nil]); first | done | rfl | (simp only [List.length_drop, List.length_take]; rfl)) ?_; (with_reducible refine (glyph_Count.calls a0 t189 _ A37.out).mono ?_); rintro e w57 ⟨rfl, hb⟩; refine ⟨_, rfl, ?_⟩; have n0_ := Aside0.mk (below_step (by repeat (first | (with_reducible first | exact HB.out | apply below_alloc | apply pw_below_drewN | apply below_drew1) | exact HB.out)) hb); clear HB; have HB := n0_; clear n0_; (try clear hb); (try clear hb2); (try clear hk); (try clear hi)) | ((with_reducible refine gate_callee (f := 16) rfl ?_); refine goesL_ (some 66) rfl rfl Try.func16 (by kernel_rfl) rfl #[.string a1] rfl (by (try simp only [List.map_toArray, List.map_cons, List.map_nil]); first | done | rfl | (simp only [List.length_drop, List.length_take]; rfl)) ?_; (with_reducible refine (glyph_Count.calls a1 t190 _ A38.out).mono ?_); rintro e w58 ⟨rfl, hb⟩; refine ⟨_, rfl, ?_⟩; have n0_ := Aside0.mk (below_step (by repeat (first | (with_reducible first | exact HB.out | apply below_alloc | apply pw_below_drewN | apply below_drew1) | exact HB.out)) hb); clear HB; have HB := n0_; clear n0_; (try clear hb); (try clear hb2); (try clear hk); (try clear hi)) | ((with_reducible refine gate_callee (f := 18) rfl ?_); refine goesL_ (some 71) rfl rfl Try.func18 (by kernel_rfl) rfl #[.string (a0 ++ a1)] rfl (by (try simp only [List.map_toArray, List.map_cons, List.map_nil]); first | done | rfl | (simp only [List.length_drop, List.length_take]; rfl)) ?_; (with_reducible refine (glyph_Name.calls (a0 ++ a1) t191 _ A40.out).mono ?_); rintro e w59 ⟨rfl, hb⟩; refine ⟨_, rfl, ?_⟩; have n0_ := Aside0.mk (below_step (by repeat (first | (with_reducible first | exact HB.out | apply below_alloc | apply pw_below_drewN | apply below_drew1) | exact HB.out)) hb); clear HB; have HB := n0_; clear n0_; (try clear hb); (try clear hb2); (try clear hk); (try clear hi)) | (go_at_call 14; (with_reducible refine (glyph_Valid.calls a0 true _ A42.out).mono ?_); rintro e w60 ⟨rfl, hb⟩; have n0_ := Aside0.mk (below_step (by repeat (first | (with_reducible first | exact HB.out | apply below_alloc | apply pw_below_drewN | apply below_drew1) | exact HB.out)) hb); clear HB; have HB := n0_; clear n0_; (try clear hb); (try clear hb2); (try clear hk); (try clear hi)) | (go_at_call 18; (with_reducible refine (glyph_Name.calls ((strOfNums y183) ++ a0) true _ A55.out).mono ?_); rintro e w61 ⟨rfl, hb⟩; have n0_ := Aside0.mk (below_step (by repeat (first | (with_reducible first | exact HB.out | apply below_alloc | apply pw_below_drewN | apply below_drew1) | exact HB.out)) hb); clear HB; have HB := n0_; clear n0_; (try clear hb); (try clear hb2); (try clear hk); (try clear hi)))
                                    go_ret
                                    exact ⟨by first | rfl | (simp [errW_none, errW_some] <;> rfl) | (simp [*, errW_none, errW_some] <;> rfl), by repeat (first | (with_reducible first | exact HB.out | apply below_alloc | apply pw_below_drewN | apply below_drew1) | exact HB.out)⟩
                                  · replace c56 := Bool.eq_false_iff.mpr c56
                                    subst c56
                                    have H1 : (if a0.size + (strOfNums y183).size ≤ 9223372036854775807 then ((glyph_Name.f (a0 ++ (strOfNums y183))).bind fun t194 => (some (!t194))) else (none)) = some r := by rw [if_neg (show ¬ (false = true) by decide)] at H; exact H
                                    clear H
                                    have H := H1
                                    clear H1
                                    by_cases c62 : a0.size + (strOfNums y183).size ≤ 9223372036854775807
                                    · rw [if_pos c62] at H
                                      have c62b0 := eq_true c62
                                      have c62b1 : decide (a0.size + (strOfNums y183).size ≤ 9223372036854775807) = true := decide_eq_true c62
                                      try have c62b2 : (9223372036854775807 < a0.size + (strOfNums y183).size) = False := eq_false (Nat.not_lt.2 c62)
                                      replace H := Option.bind_eq_some_iff.mp H
                                      obtain ⟨t194, A630, H⟩ := H
                                      replace H : (some (!t194)) = some r := H
                                      have A63 := Aside0.mk A630
                                      clear A630
                                      obtain rfl := Option.some.inj H
                                      go_wp2_with (first | ((with_reducible refine gate_callee (f := 16) rfl ?_); refine goesL_ (some 64) rfl rfl Try.func16 (by kernel_rfl) rfl #[.string a0] rfl (by (try simp only [List.map_toArray, List.map_cons, List.map_nil]); first | done | rfl | (simp only [List.length_drop, List.length_take]; rfl)) ?_; (with_reducible refine (glyph_Count.calls a0 t189 _ A37.out).mono ?_); rintro e w64 ⟨rfl, hb⟩; refine ⟨_, rfl, ?_⟩; have n0_ := Aside0.mk (below_step (by repeat (first | (with_reducible first | exact HB.out | apply below_alloc | apply pw_below_drewN | apply below_drew1) | exact HB.out)) hb); clear HB; have HB := n0_; clear n0_; (try clear hb); (try clear hb2); (try clear hk); (try clear hi)) | ((with_reducible refine gate_callee (f := 16) rfl ?_); refine goesL_ (some 66) rfl rfl Try.func16 (by kernel_rfl) rfl #[.string a1] rfl (by (try simp only [List.map_toArray, List.map_cons, List.map_nil]); first | done | rfl | (simp only [List.length_drop, List.length_take]; rfl)) ?_; (with_reducible refine (glyph_Count.calls a1 t190 _ A38.out).mono ?_); rintro e w65 ⟨rfl, hb⟩; refine ⟨_, rfl, ?_⟩; have n0_ := Aside0.mk (below_step (by repeat (first | (with_reducible first | exact HB.out | apply below_alloc | apply pw_below_drewN | apply below_drew1) | exact HB.out)) hb); clear HB; have HB := n0_; clear n0_; (try clear hb); (try clear hb2); (try clear hk); (try clear hi)) | ((with_reducible refine gate_callee (f := 18) rfl ?_); refine goesL_ (some 71) rfl rfl Try.func18 (by kernel_rfl) rfl #[.string (a0 ++ a1)] rfl (by (try simp only [List.map_toArray, List.map_cons, List.map_nil]); first | done | rfl | (simp only [List.length_drop, List.length_take]; rfl)) ?_; (with_reducible refine (glyph_Name.calls (a0 ++ a1) t191 _ A40.out).mono ?_); rintro e w66 ⟨rfl, hb⟩; refine ⟨_, rfl, ?_⟩; have n0_ := Aside0.mk (below_step (by repeat (first | (with_reducible first | exact HB.out | apply below_alloc | apply pw_below_drewN | apply below_drew1) | exact HB.out)) hb); clear HB; have HB := n0_; clear n0_; (try clear hb); (try clear hb2); (try clear hk); (try clear hi)) | (go_at_call 14; (with_reducible refine (glyph_Valid.calls a0 true _ A42.out).mono ?_); rintro e w67 ⟨rfl, hb⟩; have n0_ := Aside0.mk (below_step (by repeat (first | (with_reducible first | exact HB.out | apply below_alloc | apply pw_below_drewN | apply below_drew1) | exact HB.out)) hb); clear HB; have HB := n0_; clear n0_; (try clear hb); (try clear hb2); (try clear hk); (try clear hi)) | (go_at_call 18; (with_reducible refine (glyph_Name.calls ((strOfNums y183) ++ a0) false _ A55.out).mono ?_); rintro e w68 ⟨rfl, hb⟩; have n0_ := Aside0.mk (below_step (by repeat (first | (with_reducible first | exact HB.out | apply below_alloc | apply pw_below_drewN | apply below_drew1) | exact HB.out)) hb); clear HB; have HB := n0_; clear n0_; (try clear hb); (try clear hb2); (try clear hk); (try clear hi)) | (go_at_call 18; (with_reducible refine (glyph_Name.calls (a0 ++ (strOfNums y183)) t194 _ A63.out).mono ?_); rintro e w69 ⟨rfl, hb⟩; have n0_ := Aside0.mk (below_step (by repeat (first | (with_reducible first | exact HB.out | apply below_alloc | apply pw_below_drewN | apply below_drew1) | exact HB.out)) hb); clear HB; have HB := n0_; clear n0_; (try clear hb); (try clear hb2); (try clear hk); (try clear hi)))
                                      go_ret
                                      exact ⟨by first | rfl | (simp [errW_none, errW_some] <;> rfl) | (simp [*, errW_none, errW_some] <;> rfl), by repeat (first | (with_reducible first | exact HB.out | apply below_alloc | apply pw_below_drewN | apply below_drew1) | exact HB.out)⟩
                                    · rw [if_neg c62] at H
                                      exact absurd H (by simp)
                                · rw [if_neg c54] at H
                                  exact absurd H (by simp)
                          · replace c43 := Bool.eq_false_iff.mpr c43
                            subst c43
                            have H1 : (some false) = some r := by rw [if_neg (show ¬ (false = true) by decide)] at H; exact H
                            clear H
                            have H := H1
                            clear H1
                            obtain rfl := Option.some.inj H
                            go_wp2_with (first | ((with_reducible refine gate_callee (f := 16) rfl ?_); refine goesL_ (some 64) rfl rfl Try.func16 (by kernel_rfl) rfl #[.string a0] rfl (by (try simp only [List.map_toArray, List.map_cons, List.map_nil]); first | done | rfl | (simp only [List.length_drop, List.length_take]; rfl)) ?_; (with_reducible refine (glyph_Count.calls a0 t189 _ A37.out).mono ?_); rintro e w70 ⟨rfl, hb⟩; refine ⟨_, rfl, ?_⟩; have n0_ := Aside0.mk (below_step (by repeat (first | (with_reducible first | exact HB.out | apply below_alloc | apply pw_below_drewN | apply below_drew1) | exact HB.out)) hb); clear HB; have HB := n0_; clear n0_; (try clear hb); (try clear hb2); (try clear hk); (try clear hi)) | ((with_reducible refine gate_callee (f := 16) rfl ?_); refine goesL_ (some 66) rfl rfl Try.func16 (by kernel_rfl) rfl #[.string a1] rfl (by (try simp only [List.map_toArray, List.map_cons, List.map_nil]); first | done | rfl | (simp only [List.length_drop, List.length_take]; rfl)) ?_; (with_reducible refine (glyph_Count.calls a1 t190 _ A38.out).mono ?_); rintro e w71 ⟨rfl, hb⟩; refine ⟨_, rfl, ?_⟩; have n0_ := Aside0.mk (below_step (by repeat (first | (with_reducible first | exact HB.out | apply below_alloc | apply pw_below_drewN | apply below_drew1) | exact HB.out)) hb); clear HB; have HB := n0_; clear n0_; (try clear hb); (try clear hb2); (try clear hk); (try clear hi)) | ((with_reducible refine gate_callee (f := 18) rfl ?_); refine goesL_ (some 71) rfl rfl Try.func18 (by kernel_rfl) rfl #[.string (a0 ++ a1)] rfl (by (try simp only [List.map_toArray, List.map_cons, List.map_nil]); first | done | rfl | (simp only [List.length_drop, List.length_take]; rfl)) ?_; (with_reducible refine (glyph_Name.calls (a0 ++ a1) t191 _ A40.out).mono ?_); rintro e w72 ⟨rfl, hb⟩; refine ⟨_, rfl, ?_⟩; have n0_ := Aside0.mk (below_step (by repeat (first | (with_reducible first | exact HB.out | apply below_alloc | apply pw_below_drewN | apply below_drew1) | exact HB.out)) hb); clear HB; have HB := n0_; clear n0_; (try clear hb); (try clear hb2); (try clear hk); (try clear hi)) | (go_at_call 14; (with_reducible refine (glyph_Valid.calls a0 false _ A42.out).mono ?_); rintro e w73 ⟨rfl, hb⟩; have n0_ := Aside0.mk (below_step (by repeat (first | (with_reducible first | exact HB.out | apply below_alloc | apply pw_below_drewN | apply below_drew1) | exact HB.out)) hb); clear HB; have HB := n0_; clear n0_; (try clear hb); (try clear hb2); (try clear hk); (try clear hi)))
                            go_ret
                            exact ⟨by first | rfl | (simp [errW_none, errW_some] <;> rfl) | (simp [*, errW_none, errW_some] <;> rfl), by repeat (first | (with_reducible first | exact HB.out | apply below_alloc | apply pw_below_drewN | apply below_drew1) | exact HB.out)⟩
                        · rw [if_neg c41] at H
                          have c41b0 : (t191 == (decide ((wrap64 (t189 + t190)) ≤ 24))) = false := by simpa using c41
                          (try (have c41b1 : decide (t191 = (decide ((wrap64 (t189 + t190)) ≤ 24))) = false := by simpa using c41))
                          (try (have c41b2 : (t191 == (decide ((wrap64 (t189 + t190)) ≤ 24))) = false := by simpa using c41))
                          (try (have c41b3 : ¬ (t191 = (decide ((wrap64 (t189 + t190)) ≤ 24))) := by simpa using c41))
                          clear c41
                          obtain rfl := Option.some.inj H
                          go_wp2_with (first | ((with_reducible refine gate_callee (f := 16) rfl ?_); refine goesL_ (some 64) rfl rfl Try.func16 (by kernel_rfl) rfl #[.string a0] rfl (by (try simp only [List.map_toArray, List.map_cons, List.map_nil]); first | done | rfl | (simp only [List.length_drop, List.length_take]; rfl)) ?_; (with_reducible refine (glyph_Count.calls a0 t189 _ A37.out).mono ?_); rintro e w74 ⟨rfl, hb⟩; refine ⟨_, rfl, ?_⟩; have n0_ := Aside0.mk (below_step (by repeat (first | (with_reducible first | exact HB.out | apply below_alloc | apply pw_below_drewN | apply below_drew1) | exact HB.out)) hb); clear HB; have HB := n0_; clear n0_; (try clear hb); (try clear hb2); (try clear hk); (try clear hi)) | ((with_reducible refine gate_callee (f := 16) rfl ?_); refine goesL_ (some 66) rfl rfl Try.func16 (by kernel_rfl) rfl #[.string a1] rfl (by (try simp only [List.map_toArray, List.map_cons, List.map_nil]); first | done | rfl | (simp only [List.length_drop, List.length_take]; rfl)) ?_; (with_reducible refine (glyph_Count.calls a1 t190 _ A38.out).mono ?_); rintro e w75 ⟨rfl, hb⟩; refine ⟨_, rfl, ?_⟩; have n0_ := Aside0.mk (below_step (by repeat (first | (with_reducible first | exact HB.out | apply below_alloc | apply pw_below_drewN | apply below_drew1) | exact HB.out)) hb); clear HB; have HB := n0_; clear n0_; (try clear hb); (try clear hb2); (try clear hk); (try clear hi)) | ((with_reducible refine gate_callee (f := 18) rfl ?_); refine goesL_ (some 71) rfl rfl Try.func18 (by kernel_rfl) rfl #[.string (a0 ++ a1)] rfl (by (try simp only [List.map_toArray, List.map_cons, List.map_nil]); first | done | rfl | (simp only [List.length_drop, List.length_take]; rfl)) ?_; (with_reducible refine (glyph_Name.calls (a0 ++ a1) t191 _ A40.out).mono ?_); rintro e w76 ⟨rfl, hb⟩; refine ⟨_, rfl, ?_⟩; have n0_ := Aside0.mk (below_step (by repeat (first | (with_reducible first | exact HB.out | apply below_alloc | apply pw_below_drewN | apply below_drew1) | exact HB.out)) hb); clear HB; have HB := n0_; clear n0_; (try clear hb); (try clear hb2); (try clear hk); (try clear hi)))
                          go_ret
                          exact ⟨by first | rfl | (simp [errW_none, errW_some] <;> rfl) | (simp [*, errW_none, errW_some] <;> rfl), by repeat (first | (with_reducible first | exact HB.out | apply below_alloc | apply pw_below_drewN | apply below_drew1) | exact HB.out)⟩
                      · rw [if_neg c39] at H
                        exact absurd H (by simp)
  · replace c5 := Bool.eq_false_iff.mpr c5
    subst c5
    have H1 : (some false) = some r := by rw [if_neg (show ¬ (false = true) by decide)] at H; exact H
    clear H
    have H := H1
    clear H1
    obtain rfl := Option.some.inj H
    go_enter Try.func6, Try.ntmps6
    go_wp2_with (first | ((with_reducible refine gate_callee (f := 9) rfl ?_); refine goesL_ (some 11) rfl rfl Try.func9 (by kernel_rfl) rfl #[] rfl (by (try simp only [List.map_toArray, List.map_cons, List.map_nil]); first | done | rfl | (simp only [List.length_drop, List.length_take]; rfl)) ?_; (with_reducible refine (doormanlaw02_awake.calls  false _ A4.out).mono ?_); rintro e w77 ⟨rfl, hb⟩; refine ⟨_, rfl, ?_⟩; have n0_ := Aside0.mk (below_step (by repeat (first | (with_reducible first | exact HB.out | apply below_alloc | apply pw_below_drewN | apply below_drew1) | exact HB.out)) hb); clear HB; have HB := n0_; clear n0_; (try clear hb); (try clear hb2); (try clear hk); (try clear hi)))
    go_ret
    exact ⟨by first | rfl | (simp [errW_none, errW_some] <;> rfl) | (simp [*, errW_none, errW_some] <;> rfl), by repeat (first | (with_reducible first | exact HB.out | apply below_alloc | apply pw_below_drewN | apply below_drew1) | exact HB.out)⟩

/-- THE ONE PURE STATEMENT of doormanlaw02_GlyphNames: yours. -/
def doormanlaw02_GlyphNames.Pure : Prop := ∀ (a0 : ByteArray) (a1 : ByteArray) (a2 : Int), a0.size ≤ 140737488351232 → a1.size ≤ 140737488351232 → (Lit.int .u8 a2).wf = true → ∃ k, doormanlaw02_GlyphNames.f k a0 a1 a2 = some true
theorem doormanlaw02_GlyphNames.walk (P : doormanlaw02_GlyphNames.Pure) (a0 : ByteArray) (a1 : ByteArray) (a2 : Int) (w : World) (w0 : a0.size ≤ 140737488351232) (w1 : a1.size ≤ 140737488351232) (w2 : (Lit.int .u8 a2).wf = true) :
    Calls Try.prog 6 #[.string a0, .string a1, .int .u8 a2] w fun e w' => e = .returned (.bool true) ∧ Below w.heap.size w w' := by
  obtain ⟨k, h⟩ := P a0 a1 a2 w0 w1 w2
  refine (doormanlaw02_GlyphNames.calls k a0 a1 a2 true w h).mono ?_
  rintro e w' ⟨rfl, hd⟩
  exact ⟨rfl, hd⟩

end Go.Proofs.Ytlipjbdigpoacaa.X
