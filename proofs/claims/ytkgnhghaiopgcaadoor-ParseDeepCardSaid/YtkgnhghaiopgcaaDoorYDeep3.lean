-- Written by a program of this session (wip/tools/drive.py) for this seat, partly by the kit's print.py; some functions by hand.
import Derived.Test.YtkgnhghaiopgcaaDoorYDeep0
import Derived.Test.YtkgnhghaiopgcaaDoorYDeep1
import Derived.Test.YtkgnhghaiopgcaaDoorYDeep2
namespace Go.Proofs.YtkgnhghaiopgcaaDoor.YDeep
open Go.RowKit Go.Proofs.YtkgnhghaiopgcaaDoorW.PrintWords Go.Proofs.YtkgnhghaiopgcaaDoorW.PrintLast Go.Proofs.YtkgnhghaiopgcaaDoorW.PrintMore
attribute [local go_sem] max2_int min2_int max_two min_two max_three min_three max_four min_four   -- for this text's walks alone
open Go.Proofs.YtkgnhghaiopgcaaDoor.Kx
set_option linter.unusedVariables false
set_option linter.unusedSimpArgs false

attribute [local go_sem high] eqA59
/-! ### doormanlaw07_ParseDeep: function 11 -/
mutual
def doormanlaw07_ParseDeep.l0 : Nat → Bool → Int → ByteArray → ByteArray → ByteArray → Int → Option (Bool)
  | 0, _, _, _, _, _, _ => none
  | k + 1, x1, x6, x7, x8, x9, x10 => if x10 < x6 then (if x1 = true then (if x8.size + 3 ≤ 9223372036854775807 then (if x9.size + 1 ≤ 9223372036854775807 then (doormanlaw07_ParseDeep.l0 k x1 x6 x7 (x8 ++ (⟨#[40, 97, 124]⟩ : ByteArray)) (x9 ++ (⟨#[41]⟩ : ByteArray)) (wrap64 (x10 + 1))) else (none)) else (none)) else (if x8.size + 1 ≤ 9223372036854775807 then (if x9.size + 1 ≤ 9223372036854775807 then (doormanlaw07_ParseDeep.l0 k x1 x6 x7 (x8 ++ (⟨#[40]⟩ : ByteArray)) (x9 ++ (⟨#[41]⟩ : ByteArray)) (wrap64 (x10 + 1))) else (none)) else (none))) else (if x7.size + x8.size ≤ 9223372036854775807 then (if (x7 ++ x8).size + 1 ≤ 9223372036854775807 then (if ((x7 ++ x8) ++ (⟨#[97]⟩ : ByteArray)).size + x9.size ≤ 9223372036854775807 then (if (((x7 ++ x8) ++ (⟨#[97]⟩ : ByteArray)) ++ x9).size + 3 ≤ 9223372036854775807 then ((parse_Parse.f ((((x7 ++ x8) ++ (⟨#[97]⟩ : ByteArray)) ++ x9) ++ (⟨#[59, 32, 125]⟩ : ByteArray))).bind fun bt102 => (if x6 > 8 then (if x1 = true then (if bt102.2.1 = 13 then (if bt102.2.2 = (wrap64 ((x7.size : Int) + (8 * 3))) then (some ((bt102.1.length : Int) == 0)) else (some false)) else (some false)) else (if bt102.2.1 = 13 then (if bt102.2.2 = (wrap64 ((x7.size : Int) + (8 * 1))) then (some ((bt102.1.length : Int) == 0)) else (some false)) else (some false))) else (if bt102.2.1 = 0 then (if (bt102.1.length : Int) = 1 then (if 0 < (bt102.1.length : Int) then (doormanlaw07_ParseDeep.j1 k x1 x6 ((((rd_T53 bt102.1 0).f1).length : Int) != 1) bt102.1) else (none)) else (doormanlaw07_ParseDeep.j1 k x1 x6 true bt102.1)) else (doormanlaw07_ParseDeep.j1 k x1 x6 true bt102.1)))) else (none)) else (none)) else (none)) else (none))
def doormanlaw07_ParseDeep.j1 : Nat → Bool → Int → Bool → List (S53) → Option (Bool)
  | 0, _, _, _, _ => none
  | k + 1, x1, x6, x83, x108000 => if x83 = true then (some false) else (if 0 < (x108000.length : Int) then (if 0 < (((rd_T53 x108000 0).f1).length : Int) then (if x1 = true then (if (((rd_T57 ((rd_T53 x108000 0).f1) 0).f5).length : Int) = (wrap64 ((wrap64 (2 * x6)) + 1)) then (doormanlaw07_ParseDeep.l1 k x6 ((rd_T57 ((rd_T53 x108000 0).f1) 0).f5) 0) else (some false)) else (if (((rd_T57 ((rd_T53 x108000 0).f1) 0).f5).length : Int) = 1 then (if 0 < (((rd_T57 ((rd_T53 x108000 0).f1) 0).f5).length : Int) then (some (((rd_T59 ((rd_T57 ((rd_T53 x108000 0).f1) 0).f5) 0).f0) == 2 && ((((rd_T59 ((rd_T57 ((rd_T53 x108000 0).f1) 0).f5) 0).f1).toList) == ([97] : List UInt8) && ((((rd_T59 ((rd_T57 ((rd_T53 x108000 0).f1) 0).f5) 0).f2).toList) == ([] : List UInt8))))) else (none)) else (some false))) else (none)) else (none))
def doormanlaw07_ParseDeep.l1 : Nat → Int → List (S59) → Int → Option (Bool)
  | 0, _, _, _ => none
  | k + 1, x6, x15, x16 => if x16 < (x15.length : Int) then (if 0 ≤ x16 then (if ((((rd_T59 x15 x16).f0) == 4) != (decide (x16 > x6))) = true then (some false) else (doormanlaw07_ParseDeep.l1 k x6 x15 (wrap64 (x16 + 1)))) else (none)) else (some true)
end
def doormanlaw07_ParseDeep.f (k : Nat) (a0 : Int) (a1 : Bool) : Option (Bool) := (doormanlaw07_awake.f).bind fun t101 => (if t101 = true then (doormanlaw07_ParseDeep.l0 k a1 (Int.tmod (wrap64 (a0)) 14) (⟨#[116, 121, 112, 101, 32, 116, 32, 123, 32, 114, 101, 108, 32, 114, 32, 40, 114, 44, 32, 114, 44, 32, 114, 41, 58, 32, 116, 32, 105, 115, 32]⟩ : ByteArray) (⟨#[]⟩ : ByteArray) (⟨#[]⟩ : ByteArray) 0) else (some false))
theorem doormanlaw07_ParseDeep.mono_l : ∀ k, (∀ y0 y1 y2 y3 y4 y5, LeO (doormanlaw07_ParseDeep.l0 k y0 y1 y2 y3 y4 y5) (doormanlaw07_ParseDeep.l0 (k + 1) y0 y1 y2 y3 y4 y5)) ∧ (∀ y0 y1 y2 y3, LeO (doormanlaw07_ParseDeep.j1 k y0 y1 y2 y3) (doormanlaw07_ParseDeep.j1 (k + 1) y0 y1 y2 y3)) ∧ (∀ y0 y1 y2, LeO (doormanlaw07_ParseDeep.l1 k y0 y1 y2) (doormanlaw07_ParseDeep.l1 (k + 1) y0 y1 y2))
  | 0 => ⟨fun _ _ _ _ _ _ r h => by simp [doormanlaw07_ParseDeep.l0] at h, fun _ _ _ _ r h => by simp [doormanlaw07_ParseDeep.j1] at h, fun _ _ _ r h => by simp [doormanlaw07_ParseDeep.l1] at h⟩
  | k + 1 => by
    obtain ⟨ih0, ih1, ih2⟩ := doormanlaw07_ParseDeep.mono_l k
    refine ⟨?_, ?_, ?_⟩
    · intro y0 y1 y2 y3 y4 y5
      unfold doormanlaw07_ParseDeep.l0
      repeat' first
      | (with_reducible exact ih0 _ _ _ _ _ _)
      | (with_reducible exact ih1 _ _ _ _)
      | (with_reducible exact ih2 _ _ _)
      | (with_reducible exact LeO.refl _)
      | (with_reducible exact LeO.none _)
      | (with_reducible refine LeO.ite ?_ ?_)
      | (with_reducible refine LeO.bind ?_ (fun _ => ?_))
      | exact ih0 _ _ _ _ _ _
      | exact ih1 _ _ _ _
      | exact ih2 _ _ _
      | exact LeO.none _
      | refine LeO.ite ?_ ?_
      | refine LeO.bind ?_ (fun _ => ?_)
    · intro y0 y1 y2 y3
      unfold doormanlaw07_ParseDeep.j1
      repeat' first
      | (with_reducible exact ih0 _ _ _ _ _ _)
      | (with_reducible exact ih1 _ _ _ _)
      | (with_reducible exact ih2 _ _ _)
      | (with_reducible exact LeO.refl _)
      | (with_reducible exact LeO.none _)
      | (with_reducible refine LeO.ite ?_ ?_)
      | (with_reducible refine LeO.bind ?_ (fun _ => ?_))
      | exact ih0 _ _ _ _ _ _
      | exact ih1 _ _ _ _
      | exact ih2 _ _ _
      | exact LeO.none _
      | refine LeO.ite ?_ ?_
      | refine LeO.bind ?_ (fun _ => ?_)
    · intro y0 y1 y2
      unfold doormanlaw07_ParseDeep.l1
      repeat' first
      | (with_reducible exact ih0 _ _ _ _ _ _)
      | (with_reducible exact ih1 _ _ _ _)
      | (with_reducible exact ih2 _ _ _)
      | (with_reducible exact LeO.refl _)
      | (with_reducible exact LeO.none _)
      | (with_reducible refine LeO.ite ?_ ?_)
      | (with_reducible refine LeO.bind ?_ (fun _ => ?_))
      | exact ih0 _ _ _ _ _ _
      | exact ih1 _ _ _ _
      | exact ih2 _ _ _
      | exact LeO.none _
      | refine LeO.ite ?_ ?_
      | refine LeO.bind ?_ (fun _ => ?_)
theorem doormanlaw07_ParseDeep.mono : ∀ a0 a1 k, LeO (doormanlaw07_ParseDeep.f k a0 a1) (doormanlaw07_ParseDeep.f (k + 1) a0 a1) := by
  intro a0 a1 k
  obtain ⟨ih0, ih1, ih2⟩ := doormanlaw07_ParseDeep.mono_l k
  unfold doormanlaw07_ParseDeep.f
  repeat' first
      | (with_reducible exact ih0 _ _ _ _ _ _)
      | (with_reducible exact ih1 _ _ _ _)
      | (with_reducible exact ih2 _ _ _)
      | (with_reducible exact LeO.refl _)
      | (with_reducible exact LeO.none _)
      | (with_reducible refine LeO.ite ?_ ?_)
      | (with_reducible refine LeO.bind ?_ (fun _ => ?_))
      | exact ih0 _ _ _ _ _ _
      | exact ih1 _ _ _ _
      | exact ih2 _ _ _
      | exact LeO.none _
      | refine LeO.ite ?_ ?_
      | refine LeO.bind ?_ (fun _ => ?_)
set_option maxHeartbeats 8000000 in
set_option maxRecDepth 100000 in
theorem doormanlaw07_ParseDeep.calls (k : Nat) (a0 : Int) (a1 : Bool) (r : Bool) (w : World) (hK : Aside0 (Go.Proofs.YtkgnhghaiopgcaaDoor.Aid.KeysIn w)) (h : doormanlaw07_ParseDeep.f k a0 a1 = some r) :
    Calls Tryd.prog 11 #[.int .u8 a0, .bool a1] w fun e w' => e = .returned (.bool r) ∧ Below w.heap.size w w' := by
  have hu43 := Tryd.underlying43
  have hu59 := Tryd.underlying59
  have HB := Aside0.mk (Below.refl w.heap.size w)
  have H : ((doormanlaw07_awake.f).bind fun t101 => (if t101 = true then (doormanlaw07_ParseDeep.l0 k a1 (Int.tmod (wrap64 (a0)) 14) (⟨#[116, 121, 112, 101, 32, 116, 32, 123, 32, 114, 101, 108, 32, 114, 32, 40, 114, 44, 32, 114, 44, 32, 114, 41, 58, 32, 116, 32, 105, 115, 32]⟩ : ByteArray) (⟨#[]⟩ : ByteArray) (⟨#[]⟩ : ByteArray) 0) else (some false))) = some r := h
  clear h
  replace H := Option.bind_eq_some_iff.mp H
  obtain ⟨t101, A30, H⟩ := H
  replace H : (if t101 = true then (doormanlaw07_ParseDeep.l0 k a1 (Int.tmod (wrap64 (a0)) 14) (⟨#[116, 121, 112, 101, 32, 116, 32, 123, 32, 114, 101, 108, 32, 114, 32, 40, 114, 44, 32, 114, 44, 32, 114, 41, 58, 32, 116, 32, 105, 115, 32]⟩ : ByteArray) (⟨#[]⟩ : ByteArray) (⟨#[]⟩ : ByteArray) 0) else (some false)) = some r := H
  have A3 := Aside0.mk A30
  clear A30
  by_cases c4 : t101 = true
  · subst c4
    have H1 : (doormanlaw07_ParseDeep.l0 k a1 (Int.tmod (wrap64 (a0)) 14) (⟨#[116, 121, 112, 101, 32, 116, 32, 123, 32, 114, 101, 108, 32, 114, 32, 40, 114, 44, 32, 114, 44, 32, 114, 41, 58, 32, 116, 32, 105, 115, 32]⟩ : ByteArray) (⟨#[]⟩ : ByteArray) (⟨#[]⟩ : ByteArray) 0) = some r := by rw [if_pos rfl] at H; exact H
    clear H
    have H := H1
    clear H1
    have H' := Aside0.mk H
    clear H
    go_enter Tryd.func11, Tryd.ntmps11
    go_wp2_with (first | ((with_reducible refine gate_callee (f := 32) rfl ?_); refine goesL_ (some 17) rfl rfl Tryd.func32 (by kernel_rfl) rfl #[] rfl (by (try simp only [List.map_toArray, List.map_cons, List.map_nil]); first | done | rfl | (simp only [List.length_drop, List.length_take]; rfl)) ?_; (with_reducible refine (doormanlaw07_awake.calls  true _ ?side1 A3.out).mono ?_); (case side1 => exact ⟨Go.Proofs.YtkgnhghaiopgcaaDoor.Aid.KeysIn.go hK.out (by first | exact Below.refl _ _ | (repeat (first | (with_reducible first | exact HB.out | apply below_alloc | apply pw_below_drewN | apply below_drew1) | exact HB.out)) | exact Drawn0.below (by repeat (first | exact Drawn0.refl _ | apply Drawn0.step)))⟩); rintro e w5 ⟨rfl, hb⟩; refine ⟨_, rfl, ?_⟩; have n0_ := Aside0.mk (below_step (by repeat (first | (with_reducible first | exact HB.out | apply below_alloc | apply pw_below_drewN | apply below_drew1) | exact HB.out)) hb); clear HB; have HB := n0_; clear n0_; (try clear hb); (try clear hb2); (try clear hk); (try clear hi)))
    go_loopg [8, 9, 10] k (fun kq v8 v9 v10 w' => ∃ (x8_1 : ByteArray) (x9_1 : ByteArray) (x10_1 : Int), v8 = .string x8_1 ∧ v9 = .string x9_1 ∧ v10 = .int .i64 x10_1 ∧ Aside0 (doormanlaw07_ParseDeep.l0 kq a1 (Int.tmod (wrap64 (a0)) 14) (⟨#[116, 121, 112, 101, 32, 116, 32, 123, 32, 114, 101, 108, 32, 114, 32, 40, 114, 44, 32, 114, 44, 32, 114, 41, 58, 32, 116, 32, 105, 115, 32]⟩ : ByteArray) x8_1 x9_1 x10_1 = some r) ∧ Aside0 (kq ≤ k) ∧ Aside0 (Below w.heap.size w w'))
    case atStart => exact ⟨((⟨#[]⟩ : ByteArray)), ((⟨#[]⟩ : ByteArray)), (0), (by first | rfl | (simp; done) | (simp [*]; done)), (by first | rfl | (simp; done) | (simp [*]; done)), (by first | rfl | (simp; done) | (simp [*]; done)), H', ⟨Nat.le_refl _⟩, ⟨by repeat (first | (with_reducible first | exact HB.out | apply below_alloc | apply pw_below_drewN | apply below_drew1) | exact HB.out)⟩⟩
    case round =>
      clear H'
      try clear c1
      try clear p2
      try clear c3
      try clear c4
      obtain ⟨x8_1, x9_1, x10_1, rfl, rfl, rfl, HA, HK1, HB⟩ := hrel
      cases gk with
      | zero => exact absurd HA.out (by simp [doormanlaw07_ParseDeep.l0])
      | succ k1 =>
        have H := HA.out
        clear HA
        simp only [doormanlaw07_ParseDeep.l0] at H
        by_cases c6 : x10_1 < (Int.tmod (wrap64 (a0)) 14)
        · rw [if_pos c6] at H
          have c6b0 : decide (x10_1 < (Int.tmod (wrap64 (a0)) 14)) = true := decide_eq_true c6
          clear c6
          by_cases c7 : a1 = true
          · subst c7
            have H1 : (if x8_1.size + 3 ≤ 9223372036854775807 then (if x9_1.size + 1 ≤ 9223372036854775807 then (doormanlaw07_ParseDeep.l0 k1 true (Int.tmod (wrap64 (a0)) 14) (⟨#[116, 121, 112, 101, 32, 116, 32, 123, 32, 114, 101, 108, 32, 114, 32, 40, 114, 44, 32, 114, 44, 32, 114, 41, 58, 32, 116, 32, 105, 115, 32]⟩ : ByteArray) (x8_1 ++ (⟨#[40, 97, 124]⟩ : ByteArray)) (x9_1 ++ (⟨#[41]⟩ : ByteArray)) (wrap64 (x10_1 + 1))) else (none)) else (none)) = some r := by rw [if_pos rfl] at H; exact H
            clear H
            have H := H1
            clear H1
            by_cases c8 : x8_1.size + 3 ≤ 9223372036854775807
            · rw [if_pos c8] at H
              have c8b0 := eq_true c8
              have c8b1 : decide (x8_1.size + 3 ≤ 9223372036854775807) = true := decide_eq_true c8
              try have c8b2 : (9223372036854775807 < x8_1.size + 3) = False := eq_false (Nat.not_lt.2 c8)
              by_cases c9 : x9_1.size + 1 ≤ 9223372036854775807
              · rw [if_pos c9] at H
                have c9b0 := eq_true c9
                have c9b1 : decide (x9_1.size + 1 ≤ 9223372036854775807) = true := decide_eq_true c9
                try have c9b2 : (9223372036854775807 < x9_1.size + 1) = False := eq_false (Nat.not_lt.2 c9)
                have H' := Aside0.mk H
                clear H
                go_wp2
                go_roundg k1
                case measure => have := HK1.out; omega
                case rel => exact ⟨(x8_1 ++ (⟨#[40, 97, 124]⟩ : ByteArray)), (x9_1 ++ (⟨#[41]⟩ : ByteArray)), (wrap64 (x10_1 + 1)), (by first | rfl | (simp; done) | (simp [*]; done)), (by first | rfl | (simp; done) | (simp [*]; done)), (by first | rfl | (simp; done) | (simp [*]; done)), H', ⟨by have := HK1.out; omega⟩, ⟨by repeat (first | (with_reducible first | exact HB.out | apply below_alloc | apply pw_below_drewN | apply below_drew1) | exact HB.out)⟩⟩
              · rw [if_neg c9] at H
                exact absurd H (by simp)
            · rw [if_neg c8] at H
              exact absurd H (by simp)
          · replace c7 := Bool.eq_false_iff.mpr c7
            subst c7
            have H1 : (if x8_1.size + 1 ≤ 9223372036854775807 then (if x9_1.size + 1 ≤ 9223372036854775807 then (doormanlaw07_ParseDeep.l0 k1 false (Int.tmod (wrap64 (a0)) 14) (⟨#[116, 121, 112, 101, 32, 116, 32, 123, 32, 114, 101, 108, 32, 114, 32, 40, 114, 44, 32, 114, 44, 32, 114, 41, 58, 32, 116, 32, 105, 115, 32]⟩ : ByteArray) (x8_1 ++ (⟨#[40]⟩ : ByteArray)) (x9_1 ++ (⟨#[41]⟩ : ByteArray)) (wrap64 (x10_1 + 1))) else (none)) else (none)) = some r := by rw [if_neg (show ¬ (false = true) by decide)] at H; exact H
            clear H
            have H := H1
            clear H1
            by_cases c10 : x8_1.size + 1 ≤ 9223372036854775807
            · rw [if_pos c10] at H
              have c10b0 := eq_true c10
              have c10b1 : decide (x8_1.size + 1 ≤ 9223372036854775807) = true := decide_eq_true c10
              try have c10b2 : (9223372036854775807 < x8_1.size + 1) = False := eq_false (Nat.not_lt.2 c10)
              by_cases c11 : x9_1.size + 1 ≤ 9223372036854775807
              · rw [if_pos c11] at H
                have c11b0 := eq_true c11
                have c11b1 : decide (x9_1.size + 1 ≤ 9223372036854775807) = true := decide_eq_true c11
                try have c11b2 : (9223372036854775807 < x9_1.size + 1) = False := eq_false (Nat.not_lt.2 c11)
                have H' := Aside0.mk H
                clear H
                go_wp2
                go_roundg k1
                case measure => have := HK1.out; omega
                case rel => exact ⟨(x8_1 ++ (⟨#[40]⟩ : ByteArray)), (x9_1 ++ (⟨#[41]⟩ : ByteArray)), (wrap64 (x10_1 + 1)), (by first | rfl | (simp; done) | (simp [*]; done)), (by first | rfl | (simp; done) | (simp [*]; done)), (by first | rfl | (simp; done) | (simp [*]; done)), H', ⟨by have := HK1.out; omega⟩, ⟨by repeat (first | (with_reducible first | exact HB.out | apply below_alloc | apply pw_below_drewN | apply below_drew1) | exact HB.out)⟩⟩
              · rw [if_neg c11] at H
                exact absurd H (by simp)
            · rw [if_neg c10] at H
              exact absurd H (by simp)
        · rw [if_neg c6] at H
          have c6b0 : decide (x10_1 < (Int.tmod (wrap64 (a0)) 14)) = false := decide_eq_false c6
          clear c6
          by_cases c12 : (⟨#[116, 121, 112, 101, 32, 116, 32, 123, 32, 114, 101, 108, 32, 114, 32, 40, 114, 44, 32, 114, 44, 32, 114, 41, 58, 32, 116, 32, 105, 115, 32]⟩ : ByteArray).size + x8_1.size ≤ 9223372036854775807
          · rw [if_pos c12] at H
            have c12b0 := eq_true c12
            have c12b1 : decide ((⟨#[116, 121, 112, 101, 32, 116, 32, 123, 32, 114, 101, 108, 32, 114, 32, 40, 114, 44, 32, 114, 44, 32, 114, 41, 58, 32, 116, 32, 105, 115, 32]⟩ : ByteArray).size + x8_1.size ≤ 9223372036854775807) = true := decide_eq_true c12
            try have c12b2 : (9223372036854775807 < (⟨#[116, 121, 112, 101, 32, 116, 32, 123, 32, 114, 101, 108, 32, 114, 32, 40, 114, 44, 32, 114, 44, 32, 114, 41, 58, 32, 116, 32, 105, 115, 32]⟩ : ByteArray).size + x8_1.size) = False := eq_false (Nat.not_lt.2 c12)
            (try (have c12b7 : (9223372036854775807 < 31 + x8_1.size) = False := eq_false (by have h_ := c12; have e0_ : (⟨#[116, 121, 112, 101, 32, 116, 32, 123, 32, 114, 101, 108, 32, 114, 32, 40, 114, 44, 32, 114, 44, 32, 114, 41, 58, 32, 116, 32, 105, 115, 32]⟩ : ByteArray).size = 31 := rfl; (try simp only [ByteArray.size_append] at h_); omega)))
            by_cases c13 : ((⟨#[116, 121, 112, 101, 32, 116, 32, 123, 32, 114, 101, 108, 32, 114, 32, 40, 114, 44, 32, 114, 44, 32, 114, 41, 58, 32, 116, 32, 105, 115, 32]⟩ : ByteArray) ++ x8_1).size + 1 ≤ 9223372036854775807
            · rw [if_pos c13] at H
              have c13b0 := eq_true c13
              have c13b1 : decide (((⟨#[116, 121, 112, 101, 32, 116, 32, 123, 32, 114, 101, 108, 32, 114, 32, 40, 114, 44, 32, 114, 44, 32, 114, 41, 58, 32, 116, 32, 105, 115, 32]⟩ : ByteArray) ++ x8_1).size + 1 ≤ 9223372036854775807) = true := decide_eq_true c13
              try have c13b2 : (9223372036854775807 < ((⟨#[116, 121, 112, 101, 32, 116, 32, 123, 32, 114, 101, 108, 32, 114, 32, 40, 114, 44, 32, 114, 44, 32, 114, 41, 58, 32, 116, 32, 105, 115, 32]⟩ : ByteArray) ++ x8_1).size + 1) = False := eq_false (Nat.not_lt.2 c13)
              (try (have c13b7 : (9223372036854775807 < 31 + x8_1.size + 1) = False := eq_false (by have h_ := c13; have e0_ : (⟨#[116, 121, 112, 101, 32, 116, 32, 123, 32, 114, 101, 108, 32, 114, 32, 40, 114, 44, 32, 114, 44, 32, 114, 41, 58, 32, 116, 32, 105, 115, 32]⟩ : ByteArray).size = 31 := rfl; (try simp only [ByteArray.size_append] at h_); omega)))
              by_cases c14 : (((⟨#[116, 121, 112, 101, 32, 116, 32, 123, 32, 114, 101, 108, 32, 114, 32, 40, 114, 44, 32, 114, 44, 32, 114, 41, 58, 32, 116, 32, 105, 115, 32]⟩ : ByteArray) ++ x8_1) ++ (⟨#[97]⟩ : ByteArray)).size + x9_1.size ≤ 9223372036854775807
              · rw [if_pos c14] at H
                have c14b0 := eq_true c14
                have c14b1 : decide ((((⟨#[116, 121, 112, 101, 32, 116, 32, 123, 32, 114, 101, 108, 32, 114, 32, 40, 114, 44, 32, 114, 44, 32, 114, 41, 58, 32, 116, 32, 105, 115, 32]⟩ : ByteArray) ++ x8_1) ++ (⟨#[97]⟩ : ByteArray)).size + x9_1.size ≤ 9223372036854775807) = true := decide_eq_true c14
                try have c14b2 : (9223372036854775807 < (((⟨#[116, 121, 112, 101, 32, 116, 32, 123, 32, 114, 101, 108, 32, 114, 32, 40, 114, 44, 32, 114, 44, 32, 114, 41, 58, 32, 116, 32, 105, 115, 32]⟩ : ByteArray) ++ x8_1) ++ (⟨#[97]⟩ : ByteArray)).size + x9_1.size) = False := eq_false (Nat.not_lt.2 c14)
                (try (have c14b7 : (9223372036854775807 < 31 + x8_1.size + 1 + x9_1.size) = False := eq_false (by have h_ := c14; have e0_ : (⟨#[116, 121, 112, 101, 32, 116, 32, 123, 32, 114, 101, 108, 32, 114, 32, 40, 114, 44, 32, 114, 44, 32, 114, 41, 58, 32, 116, 32, 105, 115, 32]⟩ : ByteArray).size = 31 := rfl; have e1_ : (⟨#[97]⟩ : ByteArray).size = 1 := rfl; (try simp only [ByteArray.size_append] at h_); omega)))
                by_cases c15 : ((((⟨#[116, 121, 112, 101, 32, 116, 32, 123, 32, 114, 101, 108, 32, 114, 32, 40, 114, 44, 32, 114, 44, 32, 114, 41, 58, 32, 116, 32, 105, 115, 32]⟩ : ByteArray) ++ x8_1) ++ (⟨#[97]⟩ : ByteArray)) ++ x9_1).size + 3 ≤ 9223372036854775807
                · rw [if_pos c15] at H
                  have c15b0 := eq_true c15
                  have c15b1 : decide (((((⟨#[116, 121, 112, 101, 32, 116, 32, 123, 32, 114, 101, 108, 32, 114, 32, 40, 114, 44, 32, 114, 44, 32, 114, 41, 58, 32, 116, 32, 105, 115, 32]⟩ : ByteArray) ++ x8_1) ++ (⟨#[97]⟩ : ByteArray)) ++ x9_1).size + 3 ≤ 9223372036854775807) = true := decide_eq_true c15
                  try have c15b2 : (9223372036854775807 < ((((⟨#[116, 121, 112, 101, 32, 116, 32, 123, 32, 114, 101, 108, 32, 114, 32, 40, 114, 44, 32, 114, 44, 32, 114, 41, 58, 32, 116, 32, 105, 115, 32]⟩ : ByteArray) ++ x8_1) ++ (⟨#[97]⟩ : ByteArray)) ++ x9_1).size + 3) = False := eq_false (Nat.not_lt.2 c15)
                  (try (have c15b7 : (9223372036854775807 < 31 + x8_1.size + 1 + x9_1.size + 3) = False := eq_false (by have h_ := c15; have e0_ : (⟨#[116, 121, 112, 101, 32, 116, 32, 123, 32, 114, 101, 108, 32, 114, 32, 40, 114, 44, 32, 114, 44, 32, 114, 41, 58, 32, 116, 32, 105, 115, 32]⟩ : ByteArray).size = 31 := rfl; have e1_ : (⟨#[97]⟩ : ByteArray).size = 1 := rfl; (try simp only [ByteArray.size_append] at h_); omega)))
                  replace H := Option.bind_eq_some_iff.mp H
                  obtain ⟨⟨t102, t105, t106⟩, A160, H⟩ := H
                  replace H : (if (Int.tmod (wrap64 (a0)) 14) > 8 then (if a1 = true then (if t105 = 13 then (if t106 = (wrap64 (((⟨#[116, 121, 112, 101, 32, 116, 32, 123, 32, 114, 101, 108, 32, 114, 32, 40, 114, 44, 32, 114, 44, 32, 114, 41, 58, 32, 116, 32, 105, 115, 32]⟩ : ByteArray).size : Int) + (8 * 3))) then (some ((t102.length : Int) == 0)) else (some false)) else (some false)) else (if t105 = 13 then (if t106 = (wrap64 (((⟨#[116, 121, 112, 101, 32, 116, 32, 123, 32, 114, 101, 108, 32, 114, 32, 40, 114, 44, 32, 114, 44, 32, 114, 41, 58, 32, 116, 32, 105, 115, 32]⟩ : ByteArray).size : Int) + (8 * 1))) then (some ((t102.length : Int) == 0)) else (some false)) else (some false))) else (if t105 = 0 then (if (t102.length : Int) = 1 then (if 0 < (t102.length : Int) then (doormanlaw07_ParseDeep.j1 k1 a1 (Int.tmod (wrap64 (a0)) 14) ((((rd_T53 t102 0).f1).length : Int) != 1) t102) else (none)) else (doormanlaw07_ParseDeep.j1 k1 a1 (Int.tmod (wrap64 (a0)) 14) true t102)) else (doormanlaw07_ParseDeep.j1 k1 a1 (Int.tmod (wrap64 (a0)) 14) true t102))) = some r := H
                  have A16 := Aside0.mk A160
                  clear A160
                  by_cases c17 : (Int.tmod (wrap64 (a0)) 14) > 8
                  · rw [if_pos c17] at H
                    have c17b0 : decide (8 < (Int.tmod (wrap64 (a0)) 14)) = true := decide_eq_true c17
                    clear c17
                    by_cases c18 : a1 = true
                    · subst c18
                      have H1 : (if t105 = 13 then (if t106 = (wrap64 (((⟨#[116, 121, 112, 101, 32, 116, 32, 123, 32, 114, 101, 108, 32, 114, 32, 40, 114, 44, 32, 114, 44, 32, 114, 41, 58, 32, 116, 32, 105, 115, 32]⟩ : ByteArray).size : Int) + (8 * 3))) then (some ((t102.length : Int) == 0)) else (some false)) else (some false)) = some r := by rw [if_pos rfl] at H; exact H
                      clear H
                      have H := H1
                      clear H1
                      by_cases c19 : t105 = 13
                      · rw [if_pos c19] at H
                        have c19b0 : (t105 == 13) = true := beq_iff_eq.mpr c19
                        have c19b1 : (t105 != 13) = false := bne_eq_false_iff_eq.mpr c19
                        clear c19
                        by_cases c20 : t106 = (wrap64 (((⟨#[116, 121, 112, 101, 32, 116, 32, 123, 32, 114, 101, 108, 32, 114, 32, 40, 114, 44, 32, 114, 44, 32, 114, 41, 58, 32, 116, 32, 105, 115, 32]⟩ : ByteArray).size : Int) + (8 * 3)))
                        · rw [if_pos c20] at H
                          have c20b0 : (t106 == (wrap64 (((⟨#[116, 121, 112, 101, 32, 116, 32, 123, 32, 114, 101, 108, 32, 114, 32, 40, 114, 44, 32, 114, 44, 32, 114, 41, 58, 32, 116, 32, 105, 115, 32]⟩ : ByteArray).size : Int) + (8 * 3)))) = true := beq_iff_eq.mpr c20
                          (try (have c20b0k : (t106 == (55 : Int)) = true := by have h_ := c20b0; rwa [show (wrap64 (((⟨#[116, 121, 112, 101, 32, 116, 32, 123, 32, 114, 101, 108, 32, 114, 32, 40, 114, 44, 32, 114, 44, 32, 114, 41, 58, 32, 116, 32, 105, 115, 32]⟩ : ByteArray).size : Int) + (8 * 3)) : Int) = (55 : Int) from (by kernel_rfl)] at h_))
                          have c20b1 : (t106 != (wrap64 (((⟨#[116, 121, 112, 101, 32, 116, 32, 123, 32, 114, 101, 108, 32, 114, 32, 40, 114, 44, 32, 114, 44, 32, 114, 41, 58, 32, 116, 32, 105, 115, 32]⟩ : ByteArray).size : Int) + (8 * 3)))) = false := bne_eq_false_iff_eq.mpr c20
                          (try (have c20b1k : (t106 != (55 : Int)) = false := by have h_ := c20b1; rwa [show (wrap64 (((⟨#[116, 121, 112, 101, 32, 116, 32, 123, 32, 114, 101, 108, 32, 114, 32, 40, 114, 44, 32, 114, 44, 32, 114, 41, 58, 32, 116, 32, 105, 115, 32]⟩ : ByteArray).size : Int) + (8 * 3)) : Int) = (55 : Int) from (by kernel_rfl)] at h_))
                          clear c20
                          obtain rfl := Option.some.inj H
                          go_wp2_with (first | ((with_reducible refine gate_callee (f := 33) rfl ?_); refine goesL_ (some 43) rfl rfl Tryd.func33 (by kernel_rfl) rfl #[.string (((((⟨#[116, 121, 112, 101, 32, 116, 32, 123, 32, 114, 101, 108, 32, 114, 32, 40, 114, 44, 32, 114, 44, 32, 114, 41, 58, 32, 116, 32, 105, 115, 32]⟩ : ByteArray) ++ x8_1) ++ (⟨#[97]⟩ : ByteArray)) ++ x9_1) ++ (⟨#[59, 32, 125]⟩ : ByteArray))] rfl (by (try simp only [List.map_toArray, List.map_cons, List.map_nil]); first | done | rfl | (simp only [List.length_drop, List.length_take]; rfl)) ?_; (with_reducible refine (parse_Parse.calls (((((⟨#[116, 121, 112, 101, 32, 116, 32, 123, 32, 114, 101, 108, 32, 114, 32, 40, 114, 44, 32, 114, 44, 32, 114, 41, 58, 32, 116, 32, 105, 115, 32]⟩ : ByteArray) ++ x8_1) ++ (⟨#[97]⟩ : ByteArray)) ++ x9_1) ++ (⟨#[59, 32, 125]⟩ : ByteArray)) t102 t105 t106 _ ?side1 A16.out).mono ?_); (case side1 => exact ⟨Go.Proofs.YtkgnhghaiopgcaaDoor.Aid.KeysIn.go hK.out (by first | exact Below.refl _ _ | (repeat (first | (with_reducible first | exact HB.out | apply below_alloc | apply pw_below_drewN | apply below_drew1) | exact HB.out)) | exact Drawn0.below (by repeat (first | exact Drawn0.refl _ | apply Drawn0.step)))⟩); rintro e w21 ⟨v103, rfl, ho0, hb⟩; refine ⟨_, rfl, ?_⟩; have n0_ := Aside0.mk (Kd.R_lower ho0 (below_size (by repeat (first | (with_reducible first | exact HB.out | apply below_alloc | apply pw_below_drewN | apply below_drew1) | exact HB.out)))); have n1_ := Aside0.mk (below_step (by repeat (first | (with_reducible first | exact HB.out | apply below_alloc | apply pw_below_drewN | apply below_drew1) | exact HB.out)) hb); clear HB; have HO104 := n0_; have HB := n1_; clear n0_ n1_; (try clear hb); (try clear hb2); (try clear hk); (try clear hi); (try clear ho0)) | ((with_reducible refine gate_dst (N := 11) rfl ?_); (try (refine gate_guard (by rfl) ?_; dsimp only)); refine box_event ?hg (N := 11) ?hd (cs := #[.slice none 0 0]) (t := 43) ?hr ?_; (case hd => rfl); (case hg => rfl); (case hr => first | (go_simp; done) | (go_simp; rfl)); intro gb107 hg w22 hbox hb; have n0_ := Aside0.mk (Kd.R_below (by (with_reducible repeat (first | apply Kd.R_alloc | apply Kd.R_drewN | apply Kd.R_drew)); exact HO104.out) hb); have n1_ := Aside0.mk (below_step (by repeat (first | (with_reducible first | exact HB.out | apply below_alloc | apply pw_below_drewN | apply below_drew1) | exact HB.out)) hb); have n2_ := Aside0.mk (hbox); have n3_ := Aside0.mk ((by rw [hg]; exact (below_size (by repeat (first | (with_reducible first | exact HB.out | apply below_alloc | apply pw_below_drewN | apply below_drew1) | exact HB.out))) : w.heap.size ≤ gb107)); have n4_ := Aside0.mk ((by rw [hg]; exact (below_size (by repeat (first | (with_reducible first | exact HB.out | apply below_alloc | apply pw_below_drewN | apply below_drew1) | exact HB.out))) : w.heap.size ≤ gb107)); clear HO104; clear HB; have HO104 := n0_; have HB := n1_; have BK107 := n2_; have GW107 := n3_; have GE107 := n4_; clear n0_ n1_ n2_ n3_ n4_; clear hb hbox hg; obtain ⟨Ao23, co23, eo23⟩ := Kd.R_slice HO104.out; subst eo23; have hcz24_0 : w22.cell? ⟨gb107, 0, none⟩ = some (.slice none 0 0) := (blk_cell BK107.out 0).trans rfl; have hfz24_0 := blk_frozen BK107.out 0))
                          go_ret
                          exact ⟨by first | rfl | (simp [errW_none, errW_some] <;> rfl) | (simp [*, errW_none, errW_some] <;> rfl), by repeat (first | (with_reducible first | exact HB.out | apply below_alloc | apply pw_below_drewN | apply below_drew1 | refine below_set ?_ GE107.out) | exact HB.out)⟩
                        · rw [if_neg c20] at H
                          have c20b0 : (t106 == (wrap64 (((⟨#[116, 121, 112, 101, 32, 116, 32, 123, 32, 114, 101, 108, 32, 114, 32, 40, 114, 44, 32, 114, 44, 32, 114, 41, 58, 32, 116, 32, 105, 115, 32]⟩ : ByteArray).size : Int) + (8 * 3)))) = false := beq_eq_false_iff_ne.mpr c20
                          (try (have c20b0k : (t106 == (55 : Int)) = false := by have h_ := c20b0; rwa [show (wrap64 (((⟨#[116, 121, 112, 101, 32, 116, 32, 123, 32, 114, 101, 108, 32, 114, 32, 40, 114, 44, 32, 114, 44, 32, 114, 41, 58, 32, 116, 32, 105, 115, 32]⟩ : ByteArray).size : Int) + (8 * 3)) : Int) = (55 : Int) from (by kernel_rfl)] at h_))
                          have c20b1 : (t106 != (wrap64 (((⟨#[116, 121, 112, 101, 32, 116, 32, 123, 32, 114, 101, 108, 32, 114, 32, 40, 114, 44, 32, 114, 44, 32, 114, 41, 58, 32, 116, 32, 105, 115, 32]⟩ : ByteArray).size : Int) + (8 * 3)))) = true := bne_iff_ne.mpr c20
                          (try (have c20b1k : (t106 != (55 : Int)) = true := by have h_ := c20b1; rwa [show (wrap64 (((⟨#[116, 121, 112, 101, 32, 116, 32, 123, 32, 114, 101, 108, 32, 114, 32, 40, 114, 44, 32, 114, 44, 32, 114, 41, 58, 32, 116, 32, 105, 115, 32]⟩ : ByteArray).size : Int) + (8 * 3)) : Int) = (55 : Int) from (by kernel_rfl)] at h_))
                          obtain rfl := Option.some.inj H
                          go_wp2_with (first | ((with_reducible refine gate_callee (f := 33) rfl ?_); refine goesL_ (some 43) rfl rfl Tryd.func33 (by kernel_rfl) rfl #[.string (((((⟨#[116, 121, 112, 101, 32, 116, 32, 123, 32, 114, 101, 108, 32, 114, 32, 40, 114, 44, 32, 114, 44, 32, 114, 41, 58, 32, 116, 32, 105, 115, 32]⟩ : ByteArray) ++ x8_1) ++ (⟨#[97]⟩ : ByteArray)) ++ x9_1) ++ (⟨#[59, 32, 125]⟩ : ByteArray))] rfl (by (try simp only [List.map_toArray, List.map_cons, List.map_nil]); first | done | rfl | (simp only [List.length_drop, List.length_take]; rfl)) ?_; (with_reducible refine (parse_Parse.calls (((((⟨#[116, 121, 112, 101, 32, 116, 32, 123, 32, 114, 101, 108, 32, 114, 32, 40, 114, 44, 32, 114, 44, 32, 114, 41, 58, 32, 116, 32, 105, 115, 32]⟩ : ByteArray) ++ x8_1) ++ (⟨#[97]⟩ : ByteArray)) ++ x9_1) ++ (⟨#[59, 32, 125]⟩ : ByteArray)) t102 t105 t106 _ ?side1 A16.out).mono ?_); (case side1 => exact ⟨Go.Proofs.YtkgnhghaiopgcaaDoor.Aid.KeysIn.go hK.out (by first | exact Below.refl _ _ | (repeat (first | (with_reducible first | exact HB.out | apply below_alloc | apply pw_below_drewN | apply below_drew1) | exact HB.out)) | exact Drawn0.below (by repeat (first | exact Drawn0.refl _ | apply Drawn0.step)))⟩); rintro e w25 ⟨v103, rfl, ho0, hb⟩; refine ⟨_, rfl, ?_⟩; have n0_ := Aside0.mk (Kd.R_lower ho0 (below_size (by repeat (first | (with_reducible first | exact HB.out | apply below_alloc | apply pw_below_drewN | apply below_drew1) | exact HB.out)))); have n1_ := Aside0.mk (below_step (by repeat (first | (with_reducible first | exact HB.out | apply below_alloc | apply pw_below_drewN | apply below_drew1) | exact HB.out)) hb); clear HB; have HO104 := n0_; have HB := n1_; clear n0_ n1_; (try clear hb); (try clear hb2); (try clear hk); (try clear hi); (try clear ho0)) | ((with_reducible refine gate_dst (N := 11) rfl ?_); (try (refine gate_guard (by rfl) ?_; dsimp only)); refine box_event ?hg (N := 11) ?hd (cs := #[.slice none 0 0]) (t := 43) ?hr ?_; (case hd => rfl); (case hg => rfl); (case hr => first | (go_simp; done) | (go_simp; rfl)); intro gb107 hg w26 hbox hb; have n0_ := Aside0.mk (Kd.R_below (by (with_reducible repeat (first | apply Kd.R_alloc | apply Kd.R_drewN | apply Kd.R_drew)); exact HO104.out) hb); have n1_ := Aside0.mk (below_step (by repeat (first | (with_reducible first | exact HB.out | apply below_alloc | apply pw_below_drewN | apply below_drew1) | exact HB.out)) hb); have n2_ := Aside0.mk (hbox); have n3_ := Aside0.mk ((by rw [hg]; exact (below_size (by repeat (first | (with_reducible first | exact HB.out | apply below_alloc | apply pw_below_drewN | apply below_drew1) | exact HB.out))) : w.heap.size ≤ gb107)); have n4_ := Aside0.mk ((by rw [hg]; exact (below_size (by repeat (first | (with_reducible first | exact HB.out | apply below_alloc | apply pw_below_drewN | apply below_drew1) | exact HB.out))) : w.heap.size ≤ gb107)); clear HO104; clear HB; have HO104 := n0_; have HB := n1_; have BK107 := n2_; have GW107 := n3_; have GE107 := n4_; clear n0_ n1_ n2_ n3_ n4_; clear hb hbox hg; obtain ⟨Ao27, co27, eo27⟩ := Kd.R_slice HO104.out; subst eo27; have hcz28_0 : w26.cell? ⟨gb107, 0, none⟩ = some (.slice none 0 0) := (blk_cell BK107.out 0).trans rfl; have hfz28_0 := blk_frozen BK107.out 0))
                          go_ret
                          exact ⟨by first | rfl | (simp [errW_none, errW_some] <;> rfl) | (simp [*, errW_none, errW_some] <;> rfl), by repeat (first | (with_reducible first | exact HB.out | apply below_alloc | apply pw_below_drewN | apply below_drew1 | refine below_set ?_ GE107.out) | exact HB.out)⟩
                      · rw [if_neg c19] at H
                        have c19b0 : (t105 == 13) = false := beq_eq_false_iff_ne.mpr c19
                        have c19b1 : (t105 != 13) = true := bne_iff_ne.mpr c19
                        obtain rfl := Option.some.inj H
                        go_wp2_with (first | ((with_reducible refine gate_callee (f := 33) rfl ?_); refine goesL_ (some 43) rfl rfl Tryd.func33 (by kernel_rfl) rfl #[.string (((((⟨#[116, 121, 112, 101, 32, 116, 32, 123, 32, 114, 101, 108, 32, 114, 32, 40, 114, 44, 32, 114, 44, 32, 114, 41, 58, 32, 116, 32, 105, 115, 32]⟩ : ByteArray) ++ x8_1) ++ (⟨#[97]⟩ : ByteArray)) ++ x9_1) ++ (⟨#[59, 32, 125]⟩ : ByteArray))] rfl (by (try simp only [List.map_toArray, List.map_cons, List.map_nil]); first | done | rfl | (simp only [List.length_drop, List.length_take]; rfl)) ?_; (with_reducible refine (parse_Parse.calls (((((⟨#[116, 121, 112, 101, 32, 116, 32, 123, 32, 114, 101, 108, 32, 114, 32, 40, 114, 44, 32, 114, 44, 32, 114, 41, 58, 32, 116, 32, 105, 115, 32]⟩ : ByteArray) ++ x8_1) ++ (⟨#[97]⟩ : ByteArray)) ++ x9_1) ++ (⟨#[59, 32, 125]⟩ : ByteArray)) t102 t105 t106 _ ?side1 A16.out).mono ?_); (case side1 => exact ⟨Go.Proofs.YtkgnhghaiopgcaaDoor.Aid.KeysIn.go hK.out (by first | exact Below.refl _ _ | (repeat (first | (with_reducible first | exact HB.out | apply below_alloc | apply pw_below_drewN | apply below_drew1) | exact HB.out)) | exact Drawn0.below (by repeat (first | exact Drawn0.refl _ | apply Drawn0.step)))⟩); rintro e w29 ⟨v103, rfl, ho0, hb⟩; refine ⟨_, rfl, ?_⟩; have n0_ := Aside0.mk (Kd.R_lower ho0 (below_size (by repeat (first | (with_reducible first | exact HB.out | apply below_alloc | apply pw_below_drewN | apply below_drew1) | exact HB.out)))); have n1_ := Aside0.mk (below_step (by repeat (first | (with_reducible first | exact HB.out | apply below_alloc | apply pw_below_drewN | apply below_drew1) | exact HB.out)) hb); clear HB; have HO104 := n0_; have HB := n1_; clear n0_ n1_; (try clear hb); (try clear hb2); (try clear hk); (try clear hi); (try clear ho0)) | ((with_reducible refine gate_dst (N := 11) rfl ?_); (try (refine gate_guard (by rfl) ?_; dsimp only)); refine box_event ?hg (N := 11) ?hd (cs := #[.slice none 0 0]) (t := 43) ?hr ?_; (case hd => rfl); (case hg => rfl); (case hr => first | (go_simp; done) | (go_simp; rfl)); intro gb107 hg w30 hbox hb; have n0_ := Aside0.mk (Kd.R_below (by (with_reducible repeat (first | apply Kd.R_alloc | apply Kd.R_drewN | apply Kd.R_drew)); exact HO104.out) hb); have n1_ := Aside0.mk (below_step (by repeat (first | (with_reducible first | exact HB.out | apply below_alloc | apply pw_below_drewN | apply below_drew1) | exact HB.out)) hb); have n2_ := Aside0.mk (hbox); have n3_ := Aside0.mk ((by rw [hg]; exact (below_size (by repeat (first | (with_reducible first | exact HB.out | apply below_alloc | apply pw_below_drewN | apply below_drew1) | exact HB.out))) : w.heap.size ≤ gb107)); have n4_ := Aside0.mk ((by rw [hg]; exact (below_size (by repeat (first | (with_reducible first | exact HB.out | apply below_alloc | apply pw_below_drewN | apply below_drew1) | exact HB.out))) : w.heap.size ≤ gb107)); clear HO104; clear HB; have HO104 := n0_; have HB := n1_; have BK107 := n2_; have GW107 := n3_; have GE107 := n4_; clear n0_ n1_ n2_ n3_ n4_; clear hb hbox hg; obtain ⟨Ao31, co31, eo31⟩ := Kd.R_slice HO104.out; subst eo31; have hcz32_0 : w30.cell? ⟨gb107, 0, none⟩ = some (.slice none 0 0) := (blk_cell BK107.out 0).trans rfl; have hfz32_0 := blk_frozen BK107.out 0))
                        go_ret
                        exact ⟨by first | rfl | (simp [errW_none, errW_some] <;> rfl) | (simp [*, errW_none, errW_some] <;> rfl), by repeat (first | (with_reducible first | exact HB.out | apply below_alloc | apply pw_below_drewN | apply below_drew1 | refine below_set ?_ GE107.out) | exact HB.out)⟩
                    · replace c18 := Bool.eq_false_iff.mpr c18
                      subst c18
                      have H1 : (if t105 = 13 then (if t106 = (wrap64 (((⟨#[116, 121, 112, 101, 32, 116, 32, 123, 32, 114, 101, 108, 32, 114, 32, 40, 114, 44, 32, 114, 44, 32, 114, 41, 58, 32, 116, 32, 105, 115, 32]⟩ : ByteArray).size : Int) + (8 * 1))) then (some ((t102.length : Int) == 0)) else (some false)) else (some false)) = some r := by rw [if_neg (show ¬ (false = true) by decide)] at H; exact H
                      clear H
                      have H := H1
                      clear H1
                      by_cases c33 : t105 = 13
                      · rw [if_pos c33] at H
                        have c33b0 : (t105 == 13) = true := beq_iff_eq.mpr c33
                        have c33b1 : (t105 != 13) = false := bne_eq_false_iff_eq.mpr c33
                        clear c33
                        by_cases c34 : t106 = (wrap64 (((⟨#[116, 121, 112, 101, 32, 116, 32, 123, 32, 114, 101, 108, 32, 114, 32, 40, 114, 44, 32, 114, 44, 32, 114, 41, 58, 32, 116, 32, 105, 115, 32]⟩ : ByteArray).size : Int) + (8 * 1)))
                        · rw [if_pos c34] at H
                          have c34b0 : (t106 == (wrap64 (((⟨#[116, 121, 112, 101, 32, 116, 32, 123, 32, 114, 101, 108, 32, 114, 32, 40, 114, 44, 32, 114, 44, 32, 114, 41, 58, 32, 116, 32, 105, 115, 32]⟩ : ByteArray).size : Int) + (8 * 1)))) = true := beq_iff_eq.mpr c34
                          (try (have c34b0k : (t106 == (39 : Int)) = true := by have h_ := c34b0; rwa [show (wrap64 (((⟨#[116, 121, 112, 101, 32, 116, 32, 123, 32, 114, 101, 108, 32, 114, 32, 40, 114, 44, 32, 114, 44, 32, 114, 41, 58, 32, 116, 32, 105, 115, 32]⟩ : ByteArray).size : Int) + (8 * 1)) : Int) = (39 : Int) from (by kernel_rfl)] at h_))
                          have c34b1 : (t106 != (wrap64 (((⟨#[116, 121, 112, 101, 32, 116, 32, 123, 32, 114, 101, 108, 32, 114, 32, 40, 114, 44, 32, 114, 44, 32, 114, 41, 58, 32, 116, 32, 105, 115, 32]⟩ : ByteArray).size : Int) + (8 * 1)))) = false := bne_eq_false_iff_eq.mpr c34
                          (try (have c34b1k : (t106 != (39 : Int)) = false := by have h_ := c34b1; rwa [show (wrap64 (((⟨#[116, 121, 112, 101, 32, 116, 32, 123, 32, 114, 101, 108, 32, 114, 32, 40, 114, 44, 32, 114, 44, 32, 114, 41, 58, 32, 116, 32, 105, 115, 32]⟩ : ByteArray).size : Int) + (8 * 1)) : Int) = (39 : Int) from (by kernel_rfl)] at h_))
                          clear c34
                          obtain rfl := Option.some.inj H
                          go_wp2_with (first | ((with_reducible refine gate_callee (f := 33) rfl ?_); refine goesL_ (some 43) rfl rfl Tryd.func33 (by kernel_rfl) rfl #[.string (((((⟨#[116, 121, 112, 101, 32, 116, 32, 123, 32, 114, 101, 108, 32, 114, 32, 40, 114, 44, 32, 114, 44, 32, 114, 41, 58, 32, 116, 32, 105, 115, 32]⟩ : ByteArray) ++ x8_1) ++ (⟨#[97]⟩ : ByteArray)) ++ x9_1) ++ (⟨#[59, 32, 125]⟩ : ByteArray))] rfl (by (try simp only [List.map_toArray, List.map_cons, List.map_nil]); first | done | rfl | (simp only [List.length_drop, List.length_take]; rfl)) ?_; (with_reducible refine (parse_Parse.calls (((((⟨#[116, 121, 112, 101, 32, 116, 32, 123, 32, 114, 101, 108, 32, 114, 32, 40, 114, 44, 32, 114, 44, 32, 114, 41, 58, 32, 116, 32, 105, 115, 32]⟩ : ByteArray) ++ x8_1) ++ (⟨#[97]⟩ : ByteArray)) ++ x9_1) ++ (⟨#[59, 32, 125]⟩ : ByteArray)) t102 t105 t106 _ ?side1 A16.out).mono ?_); (case side1 => exact ⟨Go.Proofs.YtkgnhghaiopgcaaDoor.Aid.KeysIn.go hK.out (by first | exact Below.refl _ _ | (repeat (first | (with_reducible first | exact HB.out | apply below_alloc | apply pw_below_drewN | apply below_drew1) | exact HB.out)) | exact Drawn0.below (by repeat (first | exact Drawn0.refl _ | apply Drawn0.step)))⟩); rintro e w35 ⟨v103, rfl, ho0, hb⟩; refine ⟨_, rfl, ?_⟩; have n0_ := Aside0.mk (Kd.R_lower ho0 (below_size (by repeat (first | (with_reducible first | exact HB.out | apply below_alloc | apply pw_below_drewN | apply below_drew1) | exact HB.out)))); have n1_ := Aside0.mk (below_step (by repeat (first | (with_reducible first | exact HB.out | apply below_alloc | apply pw_below_drewN | apply below_drew1) | exact HB.out)) hb); clear HB; have HO104 := n0_; have HB := n1_; clear n0_ n1_; (try clear hb); (try clear hb2); (try clear hk); (try clear hi); (try clear ho0)) | ((with_reducible refine gate_dst (N := 11) rfl ?_); (try (refine gate_guard (by rfl) ?_; dsimp only)); refine box_event ?hg (N := 11) ?hd (cs := #[.slice none 0 0]) (t := 43) ?hr ?_; (case hd => rfl); (case hg => rfl); (case hr => first | (go_simp; done) | (go_simp; rfl)); intro gb107 hg w36 hbox hb; have n0_ := Aside0.mk (Kd.R_below (by (with_reducible repeat (first | apply Kd.R_alloc | apply Kd.R_drewN | apply Kd.R_drew)); exact HO104.out) hb); have n1_ := Aside0.mk (below_step (by repeat (first | (with_reducible first | exact HB.out | apply below_alloc | apply pw_below_drewN | apply below_drew1) | exact HB.out)) hb); have n2_ := Aside0.mk (hbox); have n3_ := Aside0.mk ((by rw [hg]; exact (below_size (by repeat (first | (with_reducible first | exact HB.out | apply below_alloc | apply pw_below_drewN | apply below_drew1) | exact HB.out))) : w.heap.size ≤ gb107)); have n4_ := Aside0.mk ((by rw [hg]; exact (below_size (by repeat (first | (with_reducible first | exact HB.out | apply below_alloc | apply pw_below_drewN | apply below_drew1) | exact HB.out))) : w.heap.size ≤ gb107)); clear HO104; clear HB; have HO104 := n0_; have HB := n1_; have BK107 := n2_; have GW107 := n3_; have GE107 := n4_; clear n0_ n1_ n2_ n3_ n4_; clear hb hbox hg; obtain ⟨Ao37, co37, eo37⟩ := Kd.R_slice HO104.out; subst eo37; have hcz38_0 : w36.cell? ⟨gb107, 0, none⟩ = some (.slice none 0 0) := (blk_cell BK107.out 0).trans rfl; have hfz38_0 := blk_frozen BK107.out 0))
                          go_ret
                          exact ⟨by first | rfl | (simp [errW_none, errW_some] <;> rfl) | (simp [*, errW_none, errW_some] <;> rfl), by repeat (first | (with_reducible first | exact HB.out | apply below_alloc | apply pw_below_drewN | apply below_drew1 | refine below_set ?_ GE107.out) | exact HB.out)⟩
                        · rw [if_neg c34] at H
                          have c34b0 : (t106 == (wrap64 (((⟨#[116, 121, 112, 101, 32, 116, 32, 123, 32, 114, 101, 108, 32, 114, 32, 40, 114, 44, 32, 114, 44, 32, 114, 41, 58, 32, 116, 32, 105, 115, 32]⟩ : ByteArray).size : Int) + (8 * 1)))) = false := beq_eq_false_iff_ne.mpr c34
                          (try (have c34b0k : (t106 == (39 : Int)) = false := by have h_ := c34b0; rwa [show (wrap64 (((⟨#[116, 121, 112, 101, 32, 116, 32, 123, 32, 114, 101, 108, 32, 114, 32, 40, 114, 44, 32, 114, 44, 32, 114, 41, 58, 32, 116, 32, 105, 115, 32]⟩ : ByteArray).size : Int) + (8 * 1)) : Int) = (39 : Int) from (by kernel_rfl)] at h_))
                          have c34b1 : (t106 != (wrap64 (((⟨#[116, 121, 112, 101, 32, 116, 32, 123, 32, 114, 101, 108, 32, 114, 32, 40, 114, 44, 32, 114, 44, 32, 114, 41, 58, 32, 116, 32, 105, 115, 32]⟩ : ByteArray).size : Int) + (8 * 1)))) = true := bne_iff_ne.mpr c34
                          (try (have c34b1k : (t106 != (39 : Int)) = true := by have h_ := c34b1; rwa [show (wrap64 (((⟨#[116, 121, 112, 101, 32, 116, 32, 123, 32, 114, 101, 108, 32, 114, 32, 40, 114, 44, 32, 114, 44, 32, 114, 41, 58, 32, 116, 32, 105, 115, 32]⟩ : ByteArray).size : Int) + (8 * 1)) : Int) = (39 : Int) from (by kernel_rfl)] at h_))
                          obtain rfl := Option.some.inj H
                          go_wp2_with (first | ((with_reducible refine gate_callee (f := 33) rfl ?_); refine goesL_ (some 43) rfl rfl Tryd.func33 (by kernel_rfl) rfl #[.string (((((⟨#[116, 121, 112, 101, 32, 116, 32, 123, 32, 114, 101, 108, 32, 114, 32, 40, 114, 44, 32, 114, 44, 32, 114, 41, 58, 32, 116, 32, 105, 115, 32]⟩ : ByteArray) ++ x8_1) ++ (⟨#[97]⟩ : ByteArray)) ++ x9_1) ++ (⟨#[59, 32, 125]⟩ : ByteArray))] rfl (by (try simp only [List.map_toArray, List.map_cons, List.map_nil]); first | done | rfl | (simp only [List.length_drop, List.length_take]; rfl)) ?_; (with_reducible refine (parse_Parse.calls (((((⟨#[116, 121, 112, 101, 32, 116, 32, 123, 32, 114, 101, 108, 32, 114, 32, 40, 114, 44, 32, 114, 44, 32, 114, 41, 58, 32, 116, 32, 105, 115, 32]⟩ : ByteArray) ++ x8_1) ++ (⟨#[97]⟩ : ByteArray)) ++ x9_1) ++ (⟨#[59, 32, 125]⟩ : ByteArray)) t102 t105 t106 _ ?side1 A16.out).mono ?_); (case side1 => exact ⟨Go.Proofs.YtkgnhghaiopgcaaDoor.Aid.KeysIn.go hK.out (by first | exact Below.refl _ _ | (repeat (first | (with_reducible first | exact HB.out | apply below_alloc | apply pw_below_drewN | apply below_drew1) | exact HB.out)) | exact Drawn0.below (by repeat (first | exact Drawn0.refl _ | apply Drawn0.step)))⟩); rintro e w39 ⟨v103, rfl, ho0, hb⟩; refine ⟨_, rfl, ?_⟩; have n0_ := Aside0.mk (Kd.R_lower ho0 (below_size (by repeat (first | (with_reducible first | exact HB.out | apply below_alloc | apply pw_below_drewN | apply below_drew1) | exact HB.out)))); have n1_ := Aside0.mk (below_step (by repeat (first | (with_reducible first | exact HB.out | apply below_alloc | apply pw_below_drewN | apply below_drew1) | exact HB.out)) hb); clear HB; have HO104 := n0_; have HB := n1_; clear n0_ n1_; (try clear hb); (try clear hb2); (try clear hk); (try clear hi); (try clear ho0)) | ((with_reducible refine gate_dst (N := 11) rfl ?_); (try (refine gate_guard (by rfl) ?_; dsimp only)); refine box_event ?hg (N := 11) ?hd (cs := #[.slice none 0 0]) (t := 43) ?hr ?_; (case hd => rfl); (case hg => rfl); (case hr => first | (go_simp; done) | (go_simp; rfl)); intro gb107 hg w40 hbox hb; have n0_ := Aside0.mk (Kd.R_below (by (with_reducible repeat (first | apply Kd.R_alloc | apply Kd.R_drewN | apply Kd.R_drew)); exact HO104.out) hb); have n1_ := Aside0.mk (below_step (by repeat (first | (with_reducible first | exact HB.out | apply below_alloc | apply pw_below_drewN | apply below_drew1) | exact HB.out)) hb); have n2_ := Aside0.mk (hbox); have n3_ := Aside0.mk ((by rw [hg]; exact (below_size (by repeat (first | (with_reducible first | exact HB.out | apply below_alloc | apply pw_below_drewN | apply below_drew1) | exact HB.out))) : w.heap.size ≤ gb107)); have n4_ := Aside0.mk ((by rw [hg]; exact (below_size (by repeat (first | (with_reducible first | exact HB.out | apply below_alloc | apply pw_below_drewN | apply below_drew1) | exact HB.out))) : w.heap.size ≤ gb107)); clear HO104; clear HB; have HO104 := n0_; have HB := n1_; have BK107 := n2_; have GW107 := n3_; have GE107 := n4_; clear n0_ n1_ n2_ n3_ n4_; clear hb hbox hg; obtain ⟨Ao41, co41, eo41⟩ := Kd.R_slice HO104.out; subst eo41; have hcz42_0 : w40.cell? ⟨gb107, 0, none⟩ = some (.slice none 0 0) := (blk_cell BK107.out 0).trans rfl; have hfz42_0 := blk_frozen BK107.out 0))
                          go_ret
                          exact ⟨by first | rfl | (simp [errW_none, errW_some] <;> rfl) | (simp [*, errW_none, errW_some] <;> rfl), by repeat (first | (with_reducible first | exact HB.out | apply below_alloc | apply pw_below_drewN | apply below_drew1 | refine below_set ?_ GE107.out) | exact HB.out)⟩
                      · rw [if_neg c33] at H
                        have c33b0 : (t105 == 13) = false := beq_eq_false_iff_ne.mpr c33
                        have c33b1 : (t105 != 13) = true := bne_iff_ne.mpr c33
                        obtain rfl := Option.some.inj H
                        go_wp2_with (first | ((with_reducible refine gate_callee (f := 33) rfl ?_); refine goesL_ (some 43) rfl rfl Tryd.func33 (by kernel_rfl) rfl #[.string (((((⟨#[116, 121, 112, 101, 32, 116, 32, 123, 32, 114, 101, 108, 32, 114, 32, 40, 114, 44, 32, 114, 44, 32, 114, 41, 58, 32, 116, 32, 105, 115, 32]⟩ : ByteArray) ++ x8_1) ++ (⟨#[97]⟩ : ByteArray)) ++ x9_1) ++ (⟨#[59, 32, 125]⟩ : ByteArray))] rfl (by (try simp only [List.map_toArray, List.map_cons, List.map_nil]); first | done | rfl | (simp only [List.length_drop, List.length_take]; rfl)) ?_; (with_reducible refine (parse_Parse.calls (((((⟨#[116, 121, 112, 101, 32, 116, 32, 123, 32, 114, 101, 108, 32, 114, 32, 40, 114, 44, 32, 114, 44, 32, 114, 41, 58, 32, 116, 32, 105, 115, 32]⟩ : ByteArray) ++ x8_1) ++ (⟨#[97]⟩ : ByteArray)) ++ x9_1) ++ (⟨#[59, 32, 125]⟩ : ByteArray)) t102 t105 t106 _ ?side1 A16.out).mono ?_); (case side1 => exact ⟨Go.Proofs.YtkgnhghaiopgcaaDoor.Aid.KeysIn.go hK.out (by first | exact Below.refl _ _ | (repeat (first | (with_reducible first | exact HB.out | apply below_alloc | apply pw_below_drewN | apply below_drew1) | exact HB.out)) | exact Drawn0.below (by repeat (first | exact Drawn0.refl _ | apply Drawn0.step)))⟩); rintro e w43 ⟨v103, rfl, ho0, hb⟩; refine ⟨_, rfl, ?_⟩; have n0_ := Aside0.mk (Kd.R_lower ho0 (below_size (by repeat (first | (with_reducible first | exact HB.out | apply below_alloc | apply pw_below_drewN | apply below_drew1) | exact HB.out)))); have n1_ := Aside0.mk (below_step (by repeat (first | (with_reducible first | exact HB.out | apply below_alloc | apply pw_below_drewN | apply below_drew1) | exact HB.out)) hb); clear HB; have HO104 := n0_; have HB := n1_; clear n0_ n1_; (try clear hb); (try clear hb2); (try clear hk); (try clear hi); (try clear ho0)) | ((with_reducible refine gate_dst (N := 11) rfl ?_); (try (refine gate_guard (by rfl) ?_; dsimp only)); refine box_event ?hg (N := 11) ?hd (cs := #[.slice none 0 0]) (t := 43) ?hr ?_; (case hd => rfl); (case hg => rfl); (case hr => first | (go_simp; done) | (go_simp; rfl)); intro gb107 hg w44 hbox hb; have n0_ := Aside0.mk (Kd.R_below (by (with_reducible repeat (first | apply Kd.R_alloc | apply Kd.R_drewN | apply Kd.R_drew)); exact HO104.out) hb); have n1_ := Aside0.mk (below_step (by repeat (first | (with_reducible first | exact HB.out | apply below_alloc | apply pw_below_drewN | apply below_drew1) | exact HB.out)) hb); have n2_ := Aside0.mk (hbox); have n3_ := Aside0.mk ((by rw [hg]; exact (below_size (by repeat (first | (with_reducible first | exact HB.out | apply below_alloc | apply pw_below_drewN | apply below_drew1) | exact HB.out))) : w.heap.size ≤ gb107)); have n4_ := Aside0.mk ((by rw [hg]; exact (below_size (by repeat (first | (with_reducible first | exact HB.out | apply below_alloc | apply pw_below_drewN | apply below_drew1) | exact HB.out))) : w.heap.size ≤ gb107)); clear HO104; clear HB; have HO104 := n0_; have HB := n1_; have BK107 := n2_; have GW107 := n3_; have GE107 := n4_; clear n0_ n1_ n2_ n3_ n4_; clear hb hbox hg; obtain ⟨Ao45, co45, eo45⟩ := Kd.R_slice HO104.out; subst eo45; have hcz46_0 : w44.cell? ⟨gb107, 0, none⟩ = some (.slice none 0 0) := (blk_cell BK107.out 0).trans rfl; have hfz46_0 := blk_frozen BK107.out 0))
                        go_ret
                        exact ⟨by first | rfl | (simp [errW_none, errW_some] <;> rfl) | (simp [*, errW_none, errW_some] <;> rfl), by repeat (first | (with_reducible first | exact HB.out | apply below_alloc | apply pw_below_drewN | apply below_drew1 | refine below_set ?_ GE107.out) | exact HB.out)⟩
                  · rw [if_neg c17] at H
                    have c17b0 : decide (8 < (Int.tmod (wrap64 (a0)) 14)) = false := decide_eq_false c17
                    clear c17
                    have HC47 := Aside0.mk H
                    clear H
                    go_upto_region 21 with (first | ((with_reducible refine gate_callee (f := 33) rfl ?_); refine goesL_ (some 43) rfl rfl Tryd.func33 (by kernel_rfl) rfl #[.string (((((⟨#[116, 121, 112, 101, 32, 116, 32, 123, 32, 114, 101, 108, 32, 114, 32, 40, 114, 44, 32, 114, 44, 32, 114, 41, 58, 32, 116, 32, 105, 115, 32]⟩ : ByteArray) ++ x8_1) ++ (⟨#[97]⟩ : ByteArray)) ++ x9_1) ++ (⟨#[59, 32, 125]⟩ : ByteArray))] rfl (by (try simp only [List.map_toArray, List.map_cons, List.map_nil]); first | done | rfl | (simp only [List.length_drop, List.length_take]; rfl)) ?_; (with_reducible refine (parse_Parse.calls (((((⟨#[116, 121, 112, 101, 32, 116, 32, 123, 32, 114, 101, 108, 32, 114, 32, 40, 114, 44, 32, 114, 44, 32, 114, 41, 58, 32, 116, 32, 105, 115, 32]⟩ : ByteArray) ++ x8_1) ++ (⟨#[97]⟩ : ByteArray)) ++ x9_1) ++ (⟨#[59, 32, 125]⟩ : ByteArray)) t102 t105 t106 _ ?side1 A16.out).mono ?_); (case side1 => exact ⟨Go.Proofs.YtkgnhghaiopgcaaDoor.Aid.KeysIn.go hK.out (by first | exact Below.refl _ _ | (repeat (first | (with_reducible first | exact HB.out | apply below_alloc | apply pw_below_drewN | apply below_drew1) | exact HB.out)) | exact Drawn0.below (by repeat (first | exact Drawn0.refl _ | apply Drawn0.step)))⟩); rintro e w48 ⟨v103, rfl, ho0, hb⟩; refine ⟨_, rfl, ?_⟩; have n0_ := Aside0.mk (Kd.R_lower ho0 (below_size (by repeat (first | (with_reducible first | exact HB.out | apply below_alloc | apply pw_below_drewN | apply below_drew1) | exact HB.out)))); have n1_ := Aside0.mk (below_step (by repeat (first | (with_reducible first | exact HB.out | apply below_alloc | apply pw_below_drewN | apply below_drew1) | exact HB.out)) hb); clear HB; have HO104 := n0_; have HB := n1_; clear n0_ n1_; (try clear hb); (try clear hb2); (try clear hk); (try clear hi); (try clear ho0)) | ((with_reducible refine gate_dst (N := 11) rfl ?_); (try (refine gate_guard (by rfl) ?_; dsimp only)); refine box_event ?hg (N := 11) ?hd (cs := #[.slice none 0 0]) (t := 43) ?hr ?_; (case hd => rfl); (case hg => rfl); (case hr => first | (go_simp; done) | (go_simp; rfl)); intro gb107 hg w49 hbox hb; have n0_ := Aside0.mk (Kd.R_below (by (with_reducible repeat (first | apply Kd.R_alloc | apply Kd.R_drewN | apply Kd.R_drew)); exact HO104.out) hb); have n1_ := Aside0.mk (below_step (by repeat (first | (with_reducible first | exact HB.out | apply below_alloc | apply pw_below_drewN | apply below_drew1) | exact HB.out)) hb); have n2_ := Aside0.mk (hbox); have n3_ := Aside0.mk ((by rw [hg]; exact (below_size (by repeat (first | (with_reducible first | exact HB.out | apply below_alloc | apply pw_below_drewN | apply below_drew1) | exact HB.out))) : w.heap.size ≤ gb107)); have n4_ := Aside0.mk ((by rw [hg]; exact (below_size (by repeat (first | (with_reducible first | exact HB.out | apply below_alloc | apply pw_below_drewN | apply below_drew1) | exact HB.out))) : w.heap.size ≤ gb107)); clear HO104; clear HB; have HO104 := n0_; have HB := n1_; have BK107 := n2_; have GW107 := n3_; have GE107 := n4_; clear n0_ n1_ n2_ n3_ n4_; clear hb hbox hg; obtain ⟨Ao50, co50, eo50⟩ := Kd.R_slice HO104.out; subst eo50; have hcz51_0 : w49.cell? ⟨gb107, 0, none⟩ = some (.slice none 0 0) := (blk_cell BK107.out 0).trans rfl; have hfz51_0 := blk_frozen BK107.out 0))
                    (try simp only [Act.put, List.setIfInBounds_toArray, List.set_cons_zero, List.set_cons_succ])
                    go_cut [83] (fun v83 wc => ∃ (kq : Nat) (x83_46 : Bool), v83 = .bool x83_46 ∧ Aside0 (doormanlaw07_ParseDeep.j1 kq a1 (Int.tmod (wrap64 (a0)) 14) x83_46 t102 = some r) ∧ Aside0 (kq ≤ k1) ∧ Aside0 (Kd.R k53 53 wc w.heap.size (fun _ => True) (.slice Ao50 t102.length co50) t102) ∧ Aside0 (wc.heap[gb107]? = some (.cells #[(.slice Ao50 t102.length co50)] 43 (0, 0))) ∧ Aside0 (Below w.heap.size w wc))
                    case first =>
                      have H := HC47.out
                      clear HC47
                      by_cases c52 : t105 = 0
                      · rw [if_pos c52] at H
                        have c52b0 : (t105 == 0) = true := beq_iff_eq.mpr c52
                        have c52b1 : (t105 != 0) = false := bne_eq_false_iff_eq.mpr c52
                        clear c52
                        (first | rw [c52b0] | (simp only [i64_w, i32_w]; rw [c52b0]) | skip)
                        by_cases c53 : (t102.length : Int) = 1
                        · rw [if_pos c53] at H
                          have c53b0 : ((t102.length : Int) == 1) = true := beq_iff_eq.mpr c53
                          have c53b1 : ((t102.length : Int) != 1) = false := bne_eq_false_iff_eq.mpr c53
                          clear c53
                          by_cases c54 : 0 < (t102.length : Int)
                          · rw [if_pos c54] at H
                            have c54b0 : decide (0 < (t102.length : Int)) = true := decide_eq_true c54
                            have c54b1 : decide (0 < t102.length) = true := decide_eq_true (by omega)
                            clear c54
                            have H' := Aside0.mk H
                            clear H
                            have hcz55_0 : w49.cell? ⟨gb107, 0, none⟩ = some (.slice none 0 0) := (blk_cell BK107.out 0).trans rfl
                            have hfz55_0 := blk_frozen BK107.out 0
                            have p108 : 0 ≤ (0 : Int) := (by omega)
                            have q108 : 0 < (t102.length : Int) := of_decide_eq_true (by first | (with_reducible assumption) | assumption)
                            obtain ⟨ad108, A108_1, c108_1, e108, hx108_0, hx108_1, hl108_1, hi108_1⟩ := at_T53 (Kd.R_reads' HO104.out).2.2 0 p108 q108
                            cases e108
                            have qi108 : (0 < t102.length) = True := eq_true (by omega)
                            (try rw [show ((0 : Int)).toNat = 0 from rfl] at hx108_0)
                            (try rw [show 0 * 2 = 0 from rfl] at hx108_0)
                            (try rw [Addr.add_zero'] at hx108_0)
                            (try rw [show ((0 : Int)).toNat = 0 from rfl] at hx108_1)
                            (try rw [show 0 * 2 = 0 from rfl] at hx108_1)
                            (try rw [Addr.add_zero'] at hx108_1)
                            have hn108_0 : ad108.block ≠ gb107 := Kd.own_blk (Kd.R_ne HO104.out BK107.out (by decide))
                            have HR108_1 := Aside0.mk hi108_1
                            have HC108_1 := Aside0.mk hl108_1
                            clear hi108_1 hl108_1
                            replace hx108_0 := (cell_far (p := ⟨gb107, 0, none⟩) (by first | (rw [add_block]; exact hn108_0) | (show (Addr.add _ _).block ≠ _; rw [add_block]; exact hn108_0) | exact hn108_0) (.slice (some ad108) t102.length co50)).trans hx108_0
                            replace hx108_1 := (cell_far (p := ⟨gb107, 0, none⟩) (by first | (rw [add_block]; exact hn108_0) | (show (Addr.add _ _).block ≠ _; rw [add_block]; exact hn108_0) | exact hn108_0) (.slice (some ad108) t102.length co50)).trans hx108_1
                            clear hn108_0
                            replace p108 := eq_true p108
                            replace q108 := eq_true q108
                            go_wp2
                            go_meet
                            case rel => exact ⟨_, (((((rd_T53 t102 0).f1).length : Int) != 1)), (by first | rfl | (simp; done) | (simp [*]; done)), H', ⟨by have := HK1.out; first | omega | exact Nat.le_refl _⟩, ⟨by (with_reducible repeat (first | apply Kd.R_alloc | apply Kd.R_drewN | apply Kd.R_drew)); exact Kd.R_mono (Kd.R_far (p := ⟨gb107, 0, none⟩) (Kd.R_types HO104.out BK107.out (by decide)) (fun _ hk => hk.2) (.slice (some ad108) t102.length co50)) (fun _ hk => trivial)⟩, ⟨by (with_reducible repeat (first | refine blk_drewN ?_ _ | refine blk_drew ?_ | refine blk_alloc ?_ _)); refine blk_put (cs := #[.slice none 0 0]) ?_ 0 _ rfl; (with_reducible repeat (first | refine blk_drewN ?_ _ | refine blk_drew ?_ | refine blk_alloc ?_ _)); exact BK107.out⟩, ⟨by repeat (first | (with_reducible first | exact HB.out | apply below_alloc | apply pw_below_drewN | apply below_drew1 | refine below_set ?_ GE107.out) | exact HB.out)⟩⟩
                          · rw [if_neg c54] at H
                            exact absurd H (by simp)
                        · rw [if_neg c53] at H
                          have c53b0 : ((t102.length : Int) == 1) = false := beq_eq_false_iff_ne.mpr c53
                          have c53b1 : ((t102.length : Int) != 1) = true := bne_iff_ne.mpr c53
                          have H' := Aside0.mk H
                          clear H
                          have hcz56_0 : w49.cell? ⟨gb107, 0, none⟩ = some (.slice none 0 0) := (blk_cell BK107.out 0).trans rfl
                          have hfz56_0 := blk_frozen BK107.out 0
                          go_wp2
                          go_meet
                          case rel => exact ⟨_, (true), (by first | rfl | (simp; done) | (simp [*]; done)), H', ⟨by have := HK1.out; first | omega | exact Nat.le_refl _⟩, ⟨by (with_reducible repeat (first | apply Kd.R_alloc | apply Kd.R_drewN | apply Kd.R_drew)); exact Kd.R_mono (Kd.R_far (p := ⟨gb107, 0, none⟩) (Kd.R_types HO104.out BK107.out (by decide)) (fun _ hk => hk.2) (.slice Ao50 t102.length co50)) (fun _ hk => trivial)⟩, ⟨by (with_reducible repeat (first | refine blk_drewN ?_ _ | refine blk_drew ?_ | refine blk_alloc ?_ _)); refine blk_put (cs := #[.slice none 0 0]) ?_ 0 _ rfl; (with_reducible repeat (first | refine blk_drewN ?_ _ | refine blk_drew ?_ | refine blk_alloc ?_ _)); exact BK107.out⟩, ⟨by repeat (first | (with_reducible first | exact HB.out | apply below_alloc | apply pw_below_drewN | apply below_drew1 | refine below_set ?_ GE107.out) | exact HB.out)⟩⟩
                      · rw [if_neg c52] at H
                        have c52b0 : (t105 == 0) = false := beq_eq_false_iff_ne.mpr c52
                        have c52b1 : (t105 != 0) = true := bne_iff_ne.mpr c52
                        (first | rw [c52b0] | (simp only [i64_w, i32_w]; rw [c52b0]) | skip)
                        have H' := Aside0.mk H
                        clear H
                        go_wp2
                        go_meet
                        case rel => exact ⟨_, (true), (by first | rfl | (simp; done) | (simp [*]; done)), H', ⟨by have := HK1.out; first | omega | exact Nat.le_refl _⟩, ⟨by (with_reducible repeat (first | apply Kd.R_alloc | apply Kd.R_drewN | apply Kd.R_drew)); exact Kd.R_mono (Kd.R_far (p := ⟨gb107, 0, none⟩) (Kd.R_types HO104.out BK107.out (by decide)) (fun _ hk => hk.2) (.slice Ao50 t102.length co50)) (fun _ hk => trivial)⟩, ⟨by (with_reducible repeat (first | refine blk_drewN ?_ _ | refine blk_drew ?_ | refine blk_alloc ?_ _)); refine blk_put (cs := #[.slice none 0 0]) ?_ 0 _ rfl; (with_reducible repeat (first | refine blk_drewN ?_ _ | refine blk_drew ?_ | refine blk_alloc ?_ _)); exact BK107.out⟩, ⟨by repeat (first | (with_reducible first | exact HB.out | apply below_alloc | apply pw_below_drewN | apply below_drew1 | refine below_set ?_ GE107.out) | exact HB.out)⟩⟩
                    case rest =>
                      clear HC47
                      try clear c1
                      try clear p1
                      try clear q1
                      try clear hx1
                      try clear qi1
                      try clear c2
                      try clear p2
                      try clear c3
                      try clear c4
                      try clear c5
                      try clear c6
                      try clear c6b0
                      try clear p6
                      try clear c7
                      try clear c8
                      try clear c8b0
                      try clear c8b1
                      try clear c8b2
                      try clear c9
                      try clear c9b0
                      try clear c9b1
                      try clear c9b2
                      try clear c10
                      try clear c10b0
                      try clear c10b1
                      try clear c10b2
                      try clear p10
                      try clear q10
                      try clear hx10
                      try clear qi10
                      try clear c11
                      try clear c11b0
                      try clear c11b1
                      try clear c11b2
                      try clear c12
                      try clear c12b0
                      try clear c12b1
                      try clear c12b2
                      try clear c13
                      try clear c13b0
                      try clear c13b1
                      try clear c13b2
                      try clear c14
                      try clear c14b0
                      try clear c14b1
                      try clear c14b2
                      try clear c15
                      try clear c15b0
                      try clear c15b1
                      try clear c15b2
                      try clear c17
                      try clear c17b0
                      try clear c18
                      try clear c19
                      try clear c19b0
                      try clear c19b1
                      try clear c20
                      try clear c20b0
                      try clear c20b1
                      try clear c32
                      try clear c33
                      try clear c33b0
                      try clear c33b1
                      try clear c34
                      try clear c34b0
                      try clear c34b1
                      try clear c52
                      try clear c52b0
                      try clear c52b1
                      try clear c53
                      try clear c53b0
                      try clear c53b1
                      try clear c54
                      try clear c54b0
                      try clear c54b1
                      try clear hcz24_0
                      try clear hcz28_0
                      try clear hcz32_0
                      try clear hcz38_0
                      try clear hcz42_0
                      try clear hcz46_0
                      try clear hcz51_0
                      try clear hcz55_0
                      try clear hcz56_0
                      try clear hfz24_0
                      try clear hfz28_0
                      try clear hfz32_0
                      try clear hfz38_0
                      try clear hfz42_0
                      try clear hfz46_0
                      try clear hfz51_0
                      try clear hfz55_0
                      try clear hfz56_0
                      try clear hx108_0
                      try clear hx108_1
                      try clear p108
                      try clear p2
                      try clear q108
                      obtain ⟨kq, x83_46, rfl, HA, HJ46, HO_108000, BK107, HB⟩ := hcut
                      cases kq with
                      | zero => exact absurd HA.out (by simp [doormanlaw07_ParseDeep.j1])
                      | succ kj46 =>
                        have H := HA.out
                        clear HA
                        simp only [doormanlaw07_ParseDeep.j1] at H
                        by_cases c57 : x83_46 = true
                        · subst c57
                          have H1 : (some false) = some r := by rw [if_pos rfl] at H; exact H
                          clear H
                          have H := H1
                          clear H1
                          obtain rfl := Option.some.inj H
                          go_wp2
                          go_ret
                          exact ⟨by first | rfl | (simp [errW_none, errW_some] <;> rfl) | (simp [*, errW_none, errW_some] <;> rfl), by repeat (first | (with_reducible first | exact HB.out | apply below_alloc | apply pw_below_drewN | apply below_drew1 | refine below_set ?_ GE107.out) | exact HB.out)⟩
                        · replace c57 := Bool.eq_false_iff.mpr c57
                          subst c57
                          have H1 : (if 0 < (t102.length : Int) then (if 0 < (((rd_T53 t102 0).f1).length : Int) then (if a1 = true then (if (((rd_T57 ((rd_T53 t102 0).f1) 0).f5).length : Int) = (wrap64 ((wrap64 (2 * (Int.tmod (wrap64 (a0)) 14))) + 1)) then (doormanlaw07_ParseDeep.l1 kj46 (Int.tmod (wrap64 (a0)) 14) ((rd_T57 ((rd_T53 t102 0).f1) 0).f5) 0) else (some false)) else (if (((rd_T57 ((rd_T53 t102 0).f1) 0).f5).length : Int) = 1 then (if 0 < (((rd_T57 ((rd_T53 t102 0).f1) 0).f5).length : Int) then (some (((rd_T59 ((rd_T57 ((rd_T53 t102 0).f1) 0).f5) 0).f0) == 2 && ((((rd_T59 ((rd_T57 ((rd_T53 t102 0).f1) 0).f5) 0).f1).toList) == ([97] : List UInt8) && ((((rd_T59 ((rd_T57 ((rd_T53 t102 0).f1) 0).f5) 0).f2).toList) == ([] : List UInt8))))) else (none)) else (some false))) else (none)) else (none)) = some r := by rw [if_neg (show ¬ (false = true) by decide)] at H; exact H
                          clear H
                          have H := H1
                          clear H1
                          by_cases c58 : 0 < (t102.length : Int)
                          · rw [if_pos c58] at H
                            have c58b0 : decide (0 < (t102.length : Int)) = true := decide_eq_true c58
                            have c58b1 : decide (0 < t102.length) = true := decide_eq_true (by omega)
                            clear c58
                            by_cases c59 : 0 < (((rd_T53 t102 0).f1).length : Int)
                            · rw [if_pos c59] at H
                              have c59b0 : decide (0 < (((rd_T53 t102 0).f1).length : Int)) = true := decide_eq_true c59
                              have c59b1 : decide (0 < ((rd_T53 t102 0).f1).length) = true := decide_eq_true (by omega)
                              clear c59
                              by_cases c60 : a1 = true
                              · subst c60
                                have H1 : (if (((rd_T57 ((rd_T53 t102 0).f1) 0).f5).length : Int) = (wrap64 ((wrap64 (2 * (Int.tmod (wrap64 (a0)) 14))) + 1)) then (doormanlaw07_ParseDeep.l1 kj46 (Int.tmod (wrap64 (a0)) 14) ((rd_T57 ((rd_T53 t102 0).f1) 0).f5) 0) else (some false)) = some r := by rw [if_pos rfl] at H; exact H
                                clear H
                                have H := H1
                                clear H1
                                by_cases c61 : (((rd_T57 ((rd_T53 t102 0).f1) 0).f5).length : Int) = (wrap64 ((wrap64 (2 * (Int.tmod (wrap64 (a0)) 14))) + 1))
                                · rw [if_pos c61] at H
                                  have c61b0 : ((((rd_T57 ((rd_T53 t102 0).f1) 0).f5).length : Int) == (wrap64 ((wrap64 (2 * (Int.tmod (wrap64 (a0)) 14))) + 1))) = true := beq_iff_eq.mpr c61
                                  have c61b1 : ((((rd_T57 ((rd_T53 t102 0).f1) 0).f5).length : Int) != (wrap64 ((wrap64 (2 * (Int.tmod (wrap64 (a0)) 14))) + 1))) = false := bne_eq_false_iff_eq.mpr c61
                                  clear c61
                                  have H' := Aside0.mk H
                                  clear H
                                  have hcz62_0 : wc.cell? ⟨gb107, 0, none⟩ = some (.slice Ao50 t102.length co50) := (blk_cell BK107.out 0).trans rfl
                                  have hfz62_0 := blk_frozen BK107.out 0
                                  have p109 : 0 ≤ (0 : Int) := (by omega)
                                  have q109 : 0 < (t102.length : Int) := of_decide_eq_true (by first | (with_reducible assumption) | assumption)
                                  obtain ⟨ad109, A109_1, c109_1, e109, hx109_0, hx109_1, hl109_1, hi109_1⟩ := at_T53 (Kd.R_reads' HO_108000.out).2.2 0 p109 q109
                                  cases e109
                                  obtain ⟨ce109, hce109, hMe109, hcc109⟩ := Kd.R_get HO_108000.out z53 0 p109 (by first | exact q109 | exact of_decide_eq_true (by first | (with_reducible assumption) | assumption) | (have e_ := (Kd.R_reads' HO_108000.out).1; omega))
                                  obtain ⟨ve109_1, rfl, ge109_1⟩ := k53_openM hMe109
                                  have hv109_1 := hcc109 1 _ rfl
                                  rw [add_field _ _ 1 (by omega)] at hv109_1
                                  replace hv109_1 := Option.some.inj (hv109_1.symm.trans hx109_1)
                                  rw [hv109_1] at ge109_1
                                  have HL109_1 := Aside0.mk (show Kd.R k57 57 _ _ _ _ ((rd_T53 t102 0).f1) from ge109_1)
                                  clear hv109_1 ge109_1
                                  clear hcc109 hce109
                                  have qi109 : (0 < t102.length) = True := eq_true (by omega)
                                  (try rw [show ((0 : Int)).toNat = 0 from rfl] at hx109_0)
                                  (try rw [show 0 * 2 = 0 from rfl] at hx109_0)
                                  (try rw [Addr.add_zero'] at hx109_0)
                                  (try rw [show ((0 : Int)).toNat = 0 from rfl] at hx109_1)
                                  (try rw [show 0 * 2 = 0 from rfl] at hx109_1)
                                  (try rw [Addr.add_zero'] at hx109_1)
                                  have HR109_1 := Aside0.mk hi109_1
                                  have HC109_1 := Aside0.mk hl109_1
                                  clear hi109_1 hl109_1
                                  replace p109 := eq_true p109
                                  replace q109 := eq_true q109
                                  have p110 : 0 ≤ (0 : Int) := (by omega)
                                  have q110 : 0 < (((rd_T53 t102 0).f1).length : Int) := of_decide_eq_true (by first | (with_reducible assumption) | assumption)
                                  obtain ⟨ad110, A110_4, c110_4, A110_5, c110_5, e110, hx110_0, hx110_1, hx110_2, hx110_3, hx110_4, hx110_5, hl110_4, hi110_4, hl110_5, hi110_5⟩ := at_T57 (by repeat (first | (with_reducible exact HR109_1.out) | (with_reducible refine Kd.C_alloc ?_ _) | (with_reducible refine Kd.C_drewN ?_ _) | (with_reducible refine Kd.C_drew ?_) | exact HR109_1.out)) 0 p110 q110
                                  cases e110
                                  obtain ⟨ce110, hce110, hMe110, hcc110⟩ := Kd.R_get HL109_1.out z57 0 p110 (by first | exact q110 | exact of_decide_eq_true (by first | (with_reducible assumption) | assumption) | (have e_ := (Kd.R_reads' HL109_1.out).1; omega))
                                  obtain ⟨ve110_4, ve110_5, rfl, ge110_4, ge110_5⟩ := k57_openM hMe110
                                  have hv110_4 := hcc110 4 _ rfl
                                  rw [add_field _ _ 4 (by omega)] at hv110_4
                                  replace hv110_4 := Option.some.inj (hv110_4.symm.trans hx110_4)
                                  rw [hv110_4] at ge110_4
                                  have HL110_4 := Aside0.mk (show Kd.R k62 62 _ _ _ _ ((rd_T57 ((rd_T53 t102 0).f1) 0).f4) from ge110_4)
                                  clear hv110_4 ge110_4
                                  have hv110_5 := hcc110 5 _ rfl
                                  rw [add_field _ _ 5 (by omega)] at hv110_5
                                  replace hv110_5 := Option.some.inj (hv110_5.symm.trans hx110_5)
                                  rw [hv110_5] at ge110_5
                                  have HL110_5 := Aside0.mk (show Kd.R k59 59 _ _ _ _ ((rd_T57 ((rd_T53 t102 0).f1) 0).f5) from ge110_5)
                                  clear hv110_5 ge110_5
                                  clear hcc110 hce110
                                  have qi110 : (0 < ((rd_T53 t102 0).f1).length) = True := eq_true (by omega)
                                  (try rw [show ((0 : Int)).toNat = 0 from rfl] at hx110_0)
                                  (try rw [show 0 * 6 = 0 from rfl] at hx110_0)
                                  (try rw [Addr.add_zero'] at hx110_0)
                                  (try rw [show ((0 : Int)).toNat = 0 from rfl] at hx110_1)
                                  (try rw [show 0 * 6 = 0 from rfl] at hx110_1)
                                  (try rw [Addr.add_zero'] at hx110_1)
                                  (try rw [show ((0 : Int)).toNat = 0 from rfl] at hx110_2)
                                  (try rw [show 0 * 6 = 0 from rfl] at hx110_2)
                                  (try rw [Addr.add_zero'] at hx110_2)
                                  (try rw [show ((0 : Int)).toNat = 0 from rfl] at hx110_3)
                                  (try rw [show 0 * 6 = 0 from rfl] at hx110_3)
                                  (try rw [Addr.add_zero'] at hx110_3)
                                  (try rw [show ((0 : Int)).toNat = 0 from rfl] at hx110_4)
                                  (try rw [show 0 * 6 = 0 from rfl] at hx110_4)
                                  (try rw [Addr.add_zero'] at hx110_4)
                                  (try rw [show ((0 : Int)).toNat = 0 from rfl] at hx110_5)
                                  (try rw [show 0 * 6 = 0 from rfl] at hx110_5)
                                  (try rw [Addr.add_zero'] at hx110_5)
                                  have HR110_4 := Aside0.mk hi110_4
                                  have HC110_4 := Aside0.mk hl110_4
                                  clear hi110_4 hl110_4
                                  have HR110_5 := Aside0.mk hi110_5
                                  have HC110_5 := Aside0.mk hl110_5
                                  clear hi110_5 hl110_5
                                  replace p110 := eq_true p110
                                  replace q110 := eq_true q110
                                  go_wp2
                                  go_loopg [16] kj46 (fun kq v16 w' => ∃ (x16_3 : Int), v16 = .int .i64 x16_3 ∧ Aside0 (doormanlaw07_ParseDeep.l1 kq (Int.tmod (wrap64 (a0)) 14) ((rd_T57 ((rd_T53 t102 0).f1) 0).f5) x16_3 = some r) ∧ Aside0 (kq ≤ kj46) ∧ Aside0 (Kd.R k53 53 w' w.heap.size (fun _ => True) (.slice (some ad109) t102.length co50) t102) ∧ Aside0 (w'.heap[gb107]? = some (.cells #[(.slice (some ad109) t102.length co50)] 43 (0, 0))) ∧ Aside0 (Kd.C k57 w' (some ad110) ((rd_T53 t102 0).f1).length ((rd_T53 t102 0).f1)) ∧ Aside0 (Kd.C k62 w' A110_4 ((rd_T57 ((rd_T53 t102 0).f1) 0).f4).length ((rd_T57 ((rd_T53 t102 0).f1) 0).f4)) ∧ Aside0 (Kd.C k59 w' A110_5 ((rd_T57 ((rd_T53 t102 0).f1) 0).f5).length ((rd_T57 ((rd_T53 t102 0).f1) 0).f5)) ∧ Aside0 (Below w.heap.size w w'))
                                  case atStart => exact ⟨(0), (by first | rfl | (simp; done) | (simp [*]; done)), H', ⟨Nat.le_refl _⟩, ⟨by (with_reducible repeat (first | apply Kd.R_alloc | apply Kd.R_drewN | apply Kd.R_drew)); exact HO_108000.out⟩, ⟨by (with_reducible repeat (first | refine blk_drewN ?_ _ | refine blk_drew ?_ | refine blk_alloc ?_ _)); exact BK107.out⟩, ⟨by repeat (first | (with_reducible exact HR109_1.out) | (with_reducible refine Kd.C_alloc ?_ _) | (with_reducible refine Kd.C_drewN ?_ _) | (with_reducible refine Kd.C_drew ?_) | exact HR109_1.out)⟩, ⟨by repeat (first | (with_reducible exact HR110_4.out) | (with_reducible refine Kd.C_alloc ?_ _) | (with_reducible refine Kd.C_drewN ?_ _) | (with_reducible refine Kd.C_drew ?_) | exact HR110_4.out)⟩, ⟨by repeat (first | (with_reducible exact HR110_5.out) | (with_reducible refine Kd.C_alloc ?_ _) | (with_reducible refine Kd.C_drewN ?_ _) | (with_reducible refine Kd.C_drew ?_) | exact HR110_5.out)⟩, ⟨by repeat (first | (with_reducible first | exact HB.out | apply below_alloc | apply pw_below_drewN | apply below_drew1 | refine below_set ?_ GE107.out) | exact HB.out)⟩⟩
                                  case round =>
                                    clear H'
                                    try clear c1
                                    try clear p1
                                    try clear q1
                                    try clear hx1
                                    try clear qi1
                                    try clear c2
                                    try clear p2
                                    try clear c3
                                    try clear c4
                                    try clear c5
                                    try clear c6
                                    try clear c6b0
                                    try clear p6
                                    try clear c7
                                    try clear c8
                                    try clear c8b0
                                    try clear c8b1
                                    try clear c8b2
                                    try clear c9
                                    try clear c9b0
                                    try clear c9b1
                                    try clear c9b2
                                    try clear c10
                                    try clear c10b0
                                    try clear c10b1
                                    try clear c10b2
                                    try clear p10
                                    try clear q10
                                    try clear hx10
                                    try clear qi10
                                    try clear c11
                                    try clear c11b0
                                    try clear c11b1
                                    try clear c11b2
                                    try clear p11
                                    try clear q11
                                    try clear hx11
                                    try clear qi11
                                    try clear c12
                                    try clear c12b0
                                    try clear c12b1
                                    try clear c12b2
                                    try clear c13
                                    try clear c13b0
                                    try clear c13b1
                                    try clear c13b2
                                    try clear c14
                                    try clear c14b0
                                    try clear c14b1
                                    try clear c14b2
                                    try clear c15
                                    try clear c15b0
                                    try clear c15b1
                                    try clear c15b2
                                    try clear c17
                                    try clear c17b0
                                    try clear c18
                                    try clear c19
                                    try clear c19b0
                                    try clear c19b1
                                    try clear c20
                                    try clear c20b0
                                    try clear c20b1
                                    try clear c32
                                    try clear c33
                                    try clear c33b0
                                    try clear c33b1
                                    try clear c34
                                    try clear c34b0
                                    try clear c34b1
                                    try clear c52
                                    try clear c52b0
                                    try clear c52b1
                                    try clear c53
                                    try clear c53b0
                                    try clear c53b1
                                    try clear c54
                                    try clear c54b0
                                    try clear c54b1
                                    try clear c57
                                    try clear c58
                                    try clear c58b0
                                    try clear c58b1
                                    try clear c59
                                    try clear c59b0
                                    try clear c59b1
                                    try clear c60
                                    try clear c61
                                    try clear c61b0
                                    try clear c61b1
                                    try clear hcz24_0
                                    try clear hcz28_0
                                    try clear hcz32_0
                                    try clear hcz38_0
                                    try clear hcz42_0
                                    try clear hcz46_0
                                    try clear hcz51_0
                                    try clear hcz55_0
                                    try clear hcz56_0
                                    try clear hcz62_0
                                    try clear hfz24_0
                                    try clear hfz28_0
                                    try clear hfz32_0
                                    try clear hfz38_0
                                    try clear hfz42_0
                                    try clear hfz46_0
                                    try clear hfz51_0
                                    try clear hfz55_0
                                    try clear hfz56_0
                                    try clear hfz62_0
                                    try clear hx108_0
                                    try clear hx108_1
                                    try clear hx109_0
                                    try clear hx109_1
                                    try clear hx110_0
                                    try clear hx110_1
                                    try clear hx110_2
                                    try clear hx110_3
                                    try clear hx110_4
                                    try clear hx110_5
                                    try clear p1
                                    try clear p10
                                    try clear p108
                                    try clear p109
                                    try clear p110
                                    try clear p2
                                    try clear p6
                                    try clear q1
                                    try clear q10
                                    try clear q108
                                    try clear q109
                                    try clear q110
                                    obtain ⟨x16_3, rfl, HA, HK3, HO_108000, BK107, HR109_1, HR110_4, HR110_5, HB⟩ := hrel
                                    cases gk with
                                    | zero => exact absurd HA.out (by simp [doormanlaw07_ParseDeep.l1])
                                    | succ k3 =>
                                      have H := HA.out
                                      clear HA
                                      simp only [doormanlaw07_ParseDeep.l1] at H
                                      by_cases c63 : x16_3 < (((rd_T57 ((rd_T53 t102 0).f1) 0).f5).length : Int)
                                      · rw [if_pos c63] at H
                                        have c63b0 : decide (x16_3 < (((rd_T57 ((rd_T53 t102 0).f1) 0).f5).length : Int)) = true := decide_eq_true c63
                                        clear c63
                                        by_cases c64 : 0 ≤ x16_3
                                        · rw [if_pos c64] at H
                                          have c64b0 : decide (0 ≤ x16_3) = true := decide_eq_true c64
                                          clear c64
                                          by_cases c65 : ((((rd_T59 ((rd_T57 ((rd_T53 t102 0).f1) 0).f5) x16_3).f0) == 4) != (decide (x16_3 > (Int.tmod (wrap64 (a0)) 14)))) = true
                                          · rw [if_pos c65] at H
                                            have c65b0 : ((((rd_T59 ((rd_T57 ((rd_T53 t102 0).f1) 0).f5) x16_3).f0) == 4) != (decide (x16_3 > (Int.tmod (wrap64 (a0)) 14)))) = true := c65
                                            (try (have c65b1 : decide ((((rd_T59 ((rd_T57 ((rd_T53 t102 0).f1) 0).f5) x16_3).f0) == 4) = (decide (x16_3 > (Int.tmod (wrap64 (a0)) 14)))) = false := by simpa using c65))
                                            (try (have c65b2 : ((((rd_T59 ((rd_T57 ((rd_T53 t102 0).f1) 0).f5) x16_3).f0) == 4) == (decide (x16_3 > (Int.tmod (wrap64 (a0)) 14)))) = false := by simpa using c65))
                                            (try (have c65b3 : ¬ ((((rd_T59 ((rd_T57 ((rd_T53 t102 0).f1) 0).f5) x16_3).f0) == 4) = (decide (x16_3 > (Int.tmod (wrap64 (a0)) 14)))) := by simpa using c65))
                                            clear c65
                                            obtain rfl := Option.some.inj H
                                            have p112 : 0 ≤ (x16_3 : Int) := of_decide_eq_true (by first | (with_reducible assumption) | assumption)
                                            have q112 : x16_3 < (((rd_T57 ((rd_T53 t102 0).f1) 0).f5).length : Int) := of_decide_eq_true (by first | (with_reducible assumption) | assumption)
                                            obtain ⟨ad112, e112, hx112_0, hx112_1, hx112_2⟩ := at_T59 HR110_5.out x16_3 p112 q112
                                            cases e112
                                            try replace hx112_0 := (HB.out.cell (World.block_lt_of_cell? w _ hx112_0)).trans hx112_0
                                            try replace hx112_1 := (HB.out.cell (World.block_lt_of_cell? w _ hx112_1)).trans hx112_1
                                            try replace hx112_2 := (HB.out.cell (World.block_lt_of_cell? w _ hx112_2)).trans hx112_2
                                            replace p112 := eq_true p112
                                            replace q112 := eq_true q112
                                            go_wp2
                                            go_ret
                                            exact ⟨by first | rfl | (simp [errW_none, errW_some] <;> rfl) | (simp [*, errW_none, errW_some] <;> rfl), by repeat (first | (with_reducible first | exact HB.out | apply below_alloc | apply pw_below_drewN | apply below_drew1 | refine below_set ?_ GE107.out) | exact HB.out)⟩
                                          · rw [if_neg c65] at H
                                            have c65b0 : ((((rd_T59 ((rd_T57 ((rd_T53 t102 0).f1) 0).f5) x16_3).f0) == 4) != (decide (x16_3 > (Int.tmod (wrap64 (a0)) 14)))) = false := by simpa using c65
                                            (try (have c65b1 : decide ((((rd_T59 ((rd_T57 ((rd_T53 t102 0).f1) 0).f5) x16_3).f0) == 4) = (decide (x16_3 > (Int.tmod (wrap64 (a0)) 14)))) = true := by simpa using c65))
                                            (try (have c65b2 : ((((rd_T59 ((rd_T57 ((rd_T53 t102 0).f1) 0).f5) x16_3).f0) == 4) == (decide (x16_3 > (Int.tmod (wrap64 (a0)) 14)))) = true := by simpa using c65))
                                            clear c65
                                            have H' := Aside0.mk H
                                            clear H
                                            have p112 : 0 ≤ (x16_3 : Int) := of_decide_eq_true (by first | (with_reducible assumption) | assumption)
                                            have q112 : x16_3 < (((rd_T57 ((rd_T53 t102 0).f1) 0).f5).length : Int) := of_decide_eq_true (by first | (with_reducible assumption) | assumption)
                                            obtain ⟨ad112, e112, hx112_0, hx112_1, hx112_2⟩ := at_T59 HR110_5.out x16_3 p112 q112
                                            cases e112
                                            try replace hx112_0 := (HB.out.cell (World.block_lt_of_cell? w _ hx112_0)).trans hx112_0
                                            try replace hx112_1 := (HB.out.cell (World.block_lt_of_cell? w _ hx112_1)).trans hx112_1
                                            try replace hx112_2 := (HB.out.cell (World.block_lt_of_cell? w _ hx112_2)).trans hx112_2
                                            replace p112 := eq_true p112
                                            replace q112 := eq_true q112
                                            go_wp2
                                            go_roundg k3
                                            case measure => have := HK1.out; have := HJ46.out; have := HK3.out; omega
                                            case rel => exact ⟨(wrap64 (x16_3 + 1)), (by first | rfl | (simp; done) | (simp [*]; done)), H', ⟨by have := HK1.out; have := HJ46.out; have := HK3.out; omega⟩, ⟨by (with_reducible repeat (first | apply Kd.R_alloc | apply Kd.R_drewN | apply Kd.R_drew)); exact HO_108000.out⟩, ⟨by (with_reducible repeat (first | refine blk_drewN ?_ _ | refine blk_drew ?_ | refine blk_alloc ?_ _)); exact BK107.out⟩, ⟨by repeat (first | (with_reducible exact HR109_1.out) | (with_reducible refine Kd.C_alloc ?_ _) | (with_reducible refine Kd.C_drewN ?_ _) | (with_reducible refine Kd.C_drew ?_) | exact HR109_1.out)⟩, ⟨by repeat (first | (with_reducible exact HR110_4.out) | (with_reducible refine Kd.C_alloc ?_ _) | (with_reducible refine Kd.C_drewN ?_ _) | (with_reducible refine Kd.C_drew ?_) | exact HR110_4.out)⟩, ⟨by repeat (first | (with_reducible exact HR110_5.out) | (with_reducible refine Kd.C_alloc ?_ _) | (with_reducible refine Kd.C_drewN ?_ _) | (with_reducible refine Kd.C_drew ?_) | exact HR110_5.out)⟩, ⟨by repeat (first | (with_reducible first | exact HB.out | apply below_alloc | apply pw_below_drewN | apply below_drew1 | refine below_set ?_ GE107.out) | exact HB.out)⟩⟩
                                        · rw [if_neg c64] at H
                                          exact absurd H (by simp)
                                      · rw [if_neg c63] at H
                                        have c63b0 : decide (x16_3 < (((rd_T57 ((rd_T53 t102 0).f1) 0).f5).length : Int)) = false := decide_eq_false c63
                                        clear c63
                                        obtain rfl := Option.some.inj H
                                        go_wp2
                                        go_ret
                                        exact ⟨by first | rfl | (simp [errW_none, errW_some] <;> rfl) | (simp [*, errW_none, errW_some] <;> rfl), by repeat (first | (with_reducible first | exact HB.out | apply below_alloc | apply pw_below_drewN | apply below_drew1 | refine below_set ?_ GE107.out) | exact HB.out)⟩
                                · rw [if_neg c61] at H
                                  have c61b0 : ((((rd_T57 ((rd_T53 t102 0).f1) 0).f5).length : Int) == (wrap64 ((wrap64 (2 * (Int.tmod (wrap64 (a0)) 14))) + 1))) = false := beq_eq_false_iff_ne.mpr c61
                                  have c61b1 : ((((rd_T57 ((rd_T53 t102 0).f1) 0).f5).length : Int) != (wrap64 ((wrap64 (2 * (Int.tmod (wrap64 (a0)) 14))) + 1))) = true := bne_iff_ne.mpr c61
                                  obtain rfl := Option.some.inj H
                                  have hcz66_0 : wc.cell? ⟨gb107, 0, none⟩ = some (.slice Ao50 t102.length co50) := (blk_cell BK107.out 0).trans rfl
                                  have hfz66_0 := blk_frozen BK107.out 0
                                  have p109 : 0 ≤ (0 : Int) := (by omega)
                                  have q109 : 0 < (t102.length : Int) := of_decide_eq_true (by first | (with_reducible assumption) | assumption)
                                  obtain ⟨ad109, A109_1, c109_1, e109, hx109_0, hx109_1, hl109_1, hi109_1⟩ := at_T53 (Kd.R_reads' HO_108000.out).2.2 0 p109 q109
                                  cases e109
                                  obtain ⟨ce109, hce109, hMe109, hcc109⟩ := Kd.R_get HO_108000.out z53 0 p109 (by first | exact q109 | exact of_decide_eq_true (by first | (with_reducible assumption) | assumption) | (have e_ := (Kd.R_reads' HO_108000.out).1; omega))
                                  obtain ⟨ve109_1, rfl, ge109_1⟩ := k53_openM hMe109
                                  have hv109_1 := hcc109 1 _ rfl
                                  rw [add_field _ _ 1 (by omega)] at hv109_1
                                  replace hv109_1 := Option.some.inj (hv109_1.symm.trans hx109_1)
                                  rw [hv109_1] at ge109_1
                                  have HL109_1 := Aside0.mk (show Kd.R k57 57 _ _ _ _ ((rd_T53 t102 0).f1) from ge109_1)
                                  clear hv109_1 ge109_1
                                  clear hcc109 hce109
                                  have qi109 : (0 < t102.length) = True := eq_true (by omega)
                                  (try rw [show ((0 : Int)).toNat = 0 from rfl] at hx109_0)
                                  (try rw [show 0 * 2 = 0 from rfl] at hx109_0)
                                  (try rw [Addr.add_zero'] at hx109_0)
                                  (try rw [show ((0 : Int)).toNat = 0 from rfl] at hx109_1)
                                  (try rw [show 0 * 2 = 0 from rfl] at hx109_1)
                                  (try rw [Addr.add_zero'] at hx109_1)
                                  have HR109_1 := Aside0.mk hi109_1
                                  have HC109_1 := Aside0.mk hl109_1
                                  clear hi109_1 hl109_1
                                  replace p109 := eq_true p109
                                  replace q109 := eq_true q109
                                  have p110 : 0 ≤ (0 : Int) := (by omega)
                                  have q110 : 0 < (((rd_T53 t102 0).f1).length : Int) := of_decide_eq_true (by first | (with_reducible assumption) | assumption)
                                  obtain ⟨ad110, A110_4, c110_4, A110_5, c110_5, e110, hx110_0, hx110_1, hx110_2, hx110_3, hx110_4, hx110_5, hl110_4, hi110_4, hl110_5, hi110_5⟩ := at_T57 (by repeat (first | (with_reducible exact HR109_1.out) | (with_reducible refine Kd.C_alloc ?_ _) | (with_reducible refine Kd.C_drewN ?_ _) | (with_reducible refine Kd.C_drew ?_) | exact HR109_1.out)) 0 p110 q110
                                  cases e110
                                  obtain ⟨ce110, hce110, hMe110, hcc110⟩ := Kd.R_get HL109_1.out z57 0 p110 (by first | exact q110 | exact of_decide_eq_true (by first | (with_reducible assumption) | assumption) | (have e_ := (Kd.R_reads' HL109_1.out).1; omega))
                                  obtain ⟨ve110_4, ve110_5, rfl, ge110_4, ge110_5⟩ := k57_openM hMe110
                                  have hv110_4 := hcc110 4 _ rfl
                                  rw [add_field _ _ 4 (by omega)] at hv110_4
                                  replace hv110_4 := Option.some.inj (hv110_4.symm.trans hx110_4)
                                  rw [hv110_4] at ge110_4
                                  have HL110_4 := Aside0.mk (show Kd.R k62 62 _ _ _ _ ((rd_T57 ((rd_T53 t102 0).f1) 0).f4) from ge110_4)
                                  clear hv110_4 ge110_4
                                  have hv110_5 := hcc110 5 _ rfl
                                  rw [add_field _ _ 5 (by omega)] at hv110_5
                                  replace hv110_5 := Option.some.inj (hv110_5.symm.trans hx110_5)
                                  rw [hv110_5] at ge110_5
                                  have HL110_5 := Aside0.mk (show Kd.R k59 59 _ _ _ _ ((rd_T57 ((rd_T53 t102 0).f1) 0).f5) from ge110_5)
                                  clear hv110_5 ge110_5
                                  clear hcc110 hce110
                                  have qi110 : (0 < ((rd_T53 t102 0).f1).length) = True := eq_true (by omega)
                                  (try rw [show ((0 : Int)).toNat = 0 from rfl] at hx110_0)
                                  (try rw [show 0 * 6 = 0 from rfl] at hx110_0)
                                  (try rw [Addr.add_zero'] at hx110_0)
                                  (try rw [show ((0 : Int)).toNat = 0 from rfl] at hx110_1)
                                  (try rw [show 0 * 6 = 0 from rfl] at hx110_1)
                                  (try rw [Addr.add_zero'] at hx110_1)
                                  (try rw [show ((0 : Int)).toNat = 0 from rfl] at hx110_2)
                                  (try rw [show 0 * 6 = 0 from rfl] at hx110_2)
                                  (try rw [Addr.add_zero'] at hx110_2)
                                  (try rw [show ((0 : Int)).toNat = 0 from rfl] at hx110_3)
                                  (try rw [show 0 * 6 = 0 from rfl] at hx110_3)
                                  (try rw [Addr.add_zero'] at hx110_3)
                                  (try rw [show ((0 : Int)).toNat = 0 from rfl] at hx110_4)
                                  (try rw [show 0 * 6 = 0 from rfl] at hx110_4)
                                  (try rw [Addr.add_zero'] at hx110_4)
                                  (try rw [show ((0 : Int)).toNat = 0 from rfl] at hx110_5)
                                  (try rw [show 0 * 6 = 0 from rfl] at hx110_5)
                                  (try rw [Addr.add_zero'] at hx110_5)
                                  have HR110_4 := Aside0.mk hi110_4
                                  have HC110_4 := Aside0.mk hl110_4
                                  clear hi110_4 hl110_4
                                  have HR110_5 := Aside0.mk hi110_5
                                  have HC110_5 := Aside0.mk hl110_5
                                  clear hi110_5 hl110_5
                                  replace p110 := eq_true p110
                                  replace q110 := eq_true q110
                                  go_wp2
                                  go_ret
                                  exact ⟨by first | rfl | (simp [errW_none, errW_some] <;> rfl) | (simp [*, errW_none, errW_some] <;> rfl), by repeat (first | (with_reducible first | exact HB.out | apply below_alloc | apply pw_below_drewN | apply below_drew1 | refine below_set ?_ GE107.out) | exact HB.out)⟩
                              · replace c60 := Bool.eq_false_iff.mpr c60
                                subst c60
                                have H1 : (if (((rd_T57 ((rd_T53 t102 0).f1) 0).f5).length : Int) = 1 then (if 0 < (((rd_T57 ((rd_T53 t102 0).f1) 0).f5).length : Int) then (some (((rd_T59 ((rd_T57 ((rd_T53 t102 0).f1) 0).f5) 0).f0) == 2 && ((((rd_T59 ((rd_T57 ((rd_T53 t102 0).f1) 0).f5) 0).f1).toList) == ([97] : List UInt8) && ((((rd_T59 ((rd_T57 ((rd_T53 t102 0).f1) 0).f5) 0).f2).toList) == ([] : List UInt8))))) else (none)) else (some false)) = some r := by rw [if_neg (show ¬ (false = true) by decide)] at H; exact H
                                clear H
                                have H := H1
                                clear H1
                                by_cases c67 : (((rd_T57 ((rd_T53 t102 0).f1) 0).f5).length : Int) = 1
                                · rw [if_pos c67] at H
                                  have c67b0 : ((((rd_T57 ((rd_T53 t102 0).f1) 0).f5).length : Int) == 1) = true := beq_iff_eq.mpr c67
                                  have c67b1 : ((((rd_T57 ((rd_T53 t102 0).f1) 0).f5).length : Int) != 1) = false := bne_eq_false_iff_eq.mpr c67
                                  clear c67
                                  by_cases c68 : 0 < (((rd_T57 ((rd_T53 t102 0).f1) 0).f5).length : Int)
                                  · rw [if_pos c68] at H
                                    have c68b0 : decide (0 < (((rd_T57 ((rd_T53 t102 0).f1) 0).f5).length : Int)) = true := decide_eq_true c68
                                    have c68b1 : decide (0 < ((rd_T57 ((rd_T53 t102 0).f1) 0).f5).length) = true := decide_eq_true (by omega)
                                    clear c68
                                    obtain rfl := Option.some.inj H
                                    have hcz69_0 : wc.cell? ⟨gb107, 0, none⟩ = some (.slice Ao50 t102.length co50) := (blk_cell BK107.out 0).trans rfl
                                    have hfz69_0 := blk_frozen BK107.out 0
                                    have p109 : 0 ≤ (0 : Int) := (by omega)
                                    have q109 : 0 < (t102.length : Int) := of_decide_eq_true (by first | (with_reducible assumption) | assumption)
                                    obtain ⟨ad109, A109_1, c109_1, e109, hx109_0, hx109_1, hl109_1, hi109_1⟩ := at_T53 (Kd.R_reads' HO_108000.out).2.2 0 p109 q109
                                    cases e109
                                    obtain ⟨ce109, hce109, hMe109, hcc109⟩ := Kd.R_get HO_108000.out z53 0 p109 (by first | exact q109 | exact of_decide_eq_true (by first | (with_reducible assumption) | assumption) | (have e_ := (Kd.R_reads' HO_108000.out).1; omega))
                                    obtain ⟨ve109_1, rfl, ge109_1⟩ := k53_openM hMe109
                                    have hv109_1 := hcc109 1 _ rfl
                                    rw [add_field _ _ 1 (by omega)] at hv109_1
                                    replace hv109_1 := Option.some.inj (hv109_1.symm.trans hx109_1)
                                    rw [hv109_1] at ge109_1
                                    have HL109_1 := Aside0.mk (show Kd.R k57 57 _ _ _ _ ((rd_T53 t102 0).f1) from ge109_1)
                                    clear hv109_1 ge109_1
                                    clear hcc109 hce109
                                    have qi109 : (0 < t102.length) = True := eq_true (by omega)
                                    (try rw [show ((0 : Int)).toNat = 0 from rfl] at hx109_0)
                                    (try rw [show 0 * 2 = 0 from rfl] at hx109_0)
                                    (try rw [Addr.add_zero'] at hx109_0)
                                    (try rw [show ((0 : Int)).toNat = 0 from rfl] at hx109_1)
                                    (try rw [show 0 * 2 = 0 from rfl] at hx109_1)
                                    (try rw [Addr.add_zero'] at hx109_1)
                                    have HR109_1 := Aside0.mk hi109_1
                                    have HC109_1 := Aside0.mk hl109_1
                                    clear hi109_1 hl109_1
                                    replace p109 := eq_true p109
                                    replace q109 := eq_true q109
                                    have p110 : 0 ≤ (0 : Int) := (by omega)
                                    have q110 : 0 < (((rd_T53 t102 0).f1).length : Int) := of_decide_eq_true (by first | (with_reducible assumption) | assumption)
                                    obtain ⟨ad110, A110_4, c110_4, A110_5, c110_5, e110, hx110_0, hx110_1, hx110_2, hx110_3, hx110_4, hx110_5, hl110_4, hi110_4, hl110_5, hi110_5⟩ := at_T57 (by repeat (first | (with_reducible exact HR109_1.out) | (with_reducible refine Kd.C_alloc ?_ _) | (with_reducible refine Kd.C_drewN ?_ _) | (with_reducible refine Kd.C_drew ?_) | exact HR109_1.out)) 0 p110 q110
                                    cases e110
                                    obtain ⟨ce110, hce110, hMe110, hcc110⟩ := Kd.R_get HL109_1.out z57 0 p110 (by first | exact q110 | exact of_decide_eq_true (by first | (with_reducible assumption) | assumption) | (have e_ := (Kd.R_reads' HL109_1.out).1; omega))
                                    obtain ⟨ve110_4, ve110_5, rfl, ge110_4, ge110_5⟩ := k57_openM hMe110
                                    have hv110_4 := hcc110 4 _ rfl
                                    rw [add_field _ _ 4 (by omega)] at hv110_4
                                    replace hv110_4 := Option.some.inj (hv110_4.symm.trans hx110_4)
                                    rw [hv110_4] at ge110_4
                                    have HL110_4 := Aside0.mk (show Kd.R k62 62 _ _ _ _ ((rd_T57 ((rd_T53 t102 0).f1) 0).f4) from ge110_4)
                                    clear hv110_4 ge110_4
                                    have hv110_5 := hcc110 5 _ rfl
                                    rw [add_field _ _ 5 (by omega)] at hv110_5
                                    replace hv110_5 := Option.some.inj (hv110_5.symm.trans hx110_5)
                                    rw [hv110_5] at ge110_5
                                    have HL110_5 := Aside0.mk (show Kd.R k59 59 _ _ _ _ ((rd_T57 ((rd_T53 t102 0).f1) 0).f5) from ge110_5)
                                    clear hv110_5 ge110_5
                                    clear hcc110 hce110
                                    have qi110 : (0 < ((rd_T53 t102 0).f1).length) = True := eq_true (by omega)
                                    (try rw [show ((0 : Int)).toNat = 0 from rfl] at hx110_0)
                                    (try rw [show 0 * 6 = 0 from rfl] at hx110_0)
                                    (try rw [Addr.add_zero'] at hx110_0)
                                    (try rw [show ((0 : Int)).toNat = 0 from rfl] at hx110_1)
                                    (try rw [show 0 * 6 = 0 from rfl] at hx110_1)
                                    (try rw [Addr.add_zero'] at hx110_1)
                                    (try rw [show ((0 : Int)).toNat = 0 from rfl] at hx110_2)
                                    (try rw [show 0 * 6 = 0 from rfl] at hx110_2)
                                    (try rw [Addr.add_zero'] at hx110_2)
                                    (try rw [show ((0 : Int)).toNat = 0 from rfl] at hx110_3)
                                    (try rw [show 0 * 6 = 0 from rfl] at hx110_3)
                                    (try rw [Addr.add_zero'] at hx110_3)
                                    (try rw [show ((0 : Int)).toNat = 0 from rfl] at hx110_4)
                                    (try rw [show 0 * 6 = 0 from rfl] at hx110_4)
                                    (try rw [Addr.add_zero'] at hx110_4)
                                    (try rw [show ((0 : Int)).toNat = 0 from rfl] at hx110_5)
                                    (try rw [show 0 * 6 = 0 from rfl] at hx110_5)
                                    (try rw [Addr.add_zero'] at hx110_5)
                                    have HR110_4 := Aside0.mk hi110_4
                                    have HC110_4 := Aside0.mk hl110_4
                                    clear hi110_4 hl110_4
                                    have HR110_5 := Aside0.mk hi110_5
                                    have HC110_5 := Aside0.mk hl110_5
                                    clear hi110_5 hl110_5
                                    replace p110 := eq_true p110
                                    replace q110 := eq_true q110
                                    have p111 : 0 ≤ (0 : Int) := (by omega)
                                    have q111 : 0 < (((rd_T57 ((rd_T53 t102 0).f1) 0).f5).length : Int) := of_decide_eq_true (by first | (with_reducible assumption) | assumption)
                                    obtain ⟨ad111, e111, hx111_0, hx111_1, hx111_2⟩ := at_T59 (by repeat (first | (with_reducible exact HR110_5.out) | (with_reducible refine Kd.C_alloc ?_ _) | (with_reducible refine Kd.C_drewN ?_ _) | (with_reducible refine Kd.C_drew ?_) | exact HR110_5.out)) 0 p111 q111
                                    cases e111
                                    have qi111 : (0 < ((rd_T57 ((rd_T53 t102 0).f1) 0).f5).length) = True := eq_true (by omega)
                                    (try rw [show ((0 : Int)).toNat = 0 from rfl] at hx111_0)
                                    (try rw [show 0 * 3 = 0 from rfl] at hx111_0)
                                    (try rw [Addr.add_zero'] at hx111_0)
                                    (try rw [show ((0 : Int)).toNat = 0 from rfl] at hx111_1)
                                    (try rw [show 0 * 3 = 0 from rfl] at hx111_1)
                                    (try rw [Addr.add_zero'] at hx111_1)
                                    (try rw [show ((0 : Int)).toNat = 0 from rfl] at hx111_2)
                                    (try rw [show 0 * 3 = 0 from rfl] at hx111_2)
                                    (try rw [Addr.add_zero'] at hx111_2)
                                    replace p111 := eq_true p111
                                    replace q111 := eq_true q111
                                    go_wp2
                                    go_ret
                                    exact ⟨by first | rfl | (simp [errW_none, errW_some] <;> rfl) | (simp [*, errW_none, errW_some] <;> rfl), by repeat (first | (with_reducible first | exact HB.out | apply below_alloc | apply pw_below_drewN | apply below_drew1 | refine below_set ?_ GE107.out) | exact HB.out)⟩
                                  · rw [if_neg c68] at H
                                    exact absurd H (by simp)
                                · rw [if_neg c67] at H
                                  have c67b0 : ((((rd_T57 ((rd_T53 t102 0).f1) 0).f5).length : Int) == 1) = false := beq_eq_false_iff_ne.mpr c67
                                  have c67b1 : ((((rd_T57 ((rd_T53 t102 0).f1) 0).f5).length : Int) != 1) = true := bne_iff_ne.mpr c67
                                  obtain rfl := Option.some.inj H
                                  have hcz70_0 : wc.cell? ⟨gb107, 0, none⟩ = some (.slice Ao50 t102.length co50) := (blk_cell BK107.out 0).trans rfl
                                  have hfz70_0 := blk_frozen BK107.out 0
                                  have p109 : 0 ≤ (0 : Int) := (by omega)
                                  have q109 : 0 < (t102.length : Int) := of_decide_eq_true (by first | (with_reducible assumption) | assumption)
                                  obtain ⟨ad109, A109_1, c109_1, e109, hx109_0, hx109_1, hl109_1, hi109_1⟩ := at_T53 (Kd.R_reads' HO_108000.out).2.2 0 p109 q109
                                  cases e109
                                  obtain ⟨ce109, hce109, hMe109, hcc109⟩ := Kd.R_get HO_108000.out z53 0 p109 (by first | exact q109 | exact of_decide_eq_true (by first | (with_reducible assumption) | assumption) | (have e_ := (Kd.R_reads' HO_108000.out).1; omega))
                                  obtain ⟨ve109_1, rfl, ge109_1⟩ := k53_openM hMe109
                                  have hv109_1 := hcc109 1 _ rfl
                                  rw [add_field _ _ 1 (by omega)] at hv109_1
                                  replace hv109_1 := Option.some.inj (hv109_1.symm.trans hx109_1)
                                  rw [hv109_1] at ge109_1
                                  have HL109_1 := Aside0.mk (show Kd.R k57 57 _ _ _ _ ((rd_T53 t102 0).f1) from ge109_1)
                                  clear hv109_1 ge109_1
                                  clear hcc109 hce109
                                  have qi109 : (0 < t102.length) = True := eq_true (by omega)
                                  (try rw [show ((0 : Int)).toNat = 0 from rfl] at hx109_0)
                                  (try rw [show 0 * 2 = 0 from rfl] at hx109_0)
                                  (try rw [Addr.add_zero'] at hx109_0)
                                  (try rw [show ((0 : Int)).toNat = 0 from rfl] at hx109_1)
                                  (try rw [show 0 * 2 = 0 from rfl] at hx109_1)
                                  (try rw [Addr.add_zero'] at hx109_1)
                                  have HR109_1 := Aside0.mk hi109_1
                                  have HC109_1 := Aside0.mk hl109_1
                                  clear hi109_1 hl109_1
                                  replace p109 := eq_true p109
                                  replace q109 := eq_true q109
                                  have p110 : 0 ≤ (0 : Int) := (by omega)
                                  have q110 : 0 < (((rd_T53 t102 0).f1).length : Int) := of_decide_eq_true (by first | (with_reducible assumption) | assumption)
                                  obtain ⟨ad110, A110_4, c110_4, A110_5, c110_5, e110, hx110_0, hx110_1, hx110_2, hx110_3, hx110_4, hx110_5, hl110_4, hi110_4, hl110_5, hi110_5⟩ := at_T57 (by repeat (first | (with_reducible exact HR109_1.out) | (with_reducible refine Kd.C_alloc ?_ _) | (with_reducible refine Kd.C_drewN ?_ _) | (with_reducible refine Kd.C_drew ?_) | exact HR109_1.out)) 0 p110 q110
                                  cases e110
                                  obtain ⟨ce110, hce110, hMe110, hcc110⟩ := Kd.R_get HL109_1.out z57 0 p110 (by first | exact q110 | exact of_decide_eq_true (by first | (with_reducible assumption) | assumption) | (have e_ := (Kd.R_reads' HL109_1.out).1; omega))
                                  obtain ⟨ve110_4, ve110_5, rfl, ge110_4, ge110_5⟩ := k57_openM hMe110
                                  have hv110_4 := hcc110 4 _ rfl
                                  rw [add_field _ _ 4 (by omega)] at hv110_4
                                  replace hv110_4 := Option.some.inj (hv110_4.symm.trans hx110_4)
                                  rw [hv110_4] at ge110_4
                                  have HL110_4 := Aside0.mk (show Kd.R k62 62 _ _ _ _ ((rd_T57 ((rd_T53 t102 0).f1) 0).f4) from ge110_4)
                                  clear hv110_4 ge110_4
                                  have hv110_5 := hcc110 5 _ rfl
                                  rw [add_field _ _ 5 (by omega)] at hv110_5
                                  replace hv110_5 := Option.some.inj (hv110_5.symm.trans hx110_5)
                                  rw [hv110_5] at ge110_5
                                  have HL110_5 := Aside0.mk (show Kd.R k59 59 _ _ _ _ ((rd_T57 ((rd_T53 t102 0).f1) 0).f5) from ge110_5)
                                  clear hv110_5 ge110_5
                                  clear hcc110 hce110
                                  have qi110 : (0 < ((rd_T53 t102 0).f1).length) = True := eq_true (by omega)
                                  (try rw [show ((0 : Int)).toNat = 0 from rfl] at hx110_0)
                                  (try rw [show 0 * 6 = 0 from rfl] at hx110_0)
                                  (try rw [Addr.add_zero'] at hx110_0)
                                  (try rw [show ((0 : Int)).toNat = 0 from rfl] at hx110_1)
                                  (try rw [show 0 * 6 = 0 from rfl] at hx110_1)
                                  (try rw [Addr.add_zero'] at hx110_1)
                                  (try rw [show ((0 : Int)).toNat = 0 from rfl] at hx110_2)
                                  (try rw [show 0 * 6 = 0 from rfl] at hx110_2)
                                  (try rw [Addr.add_zero'] at hx110_2)
                                  (try rw [show ((0 : Int)).toNat = 0 from rfl] at hx110_3)
                                  (try rw [show 0 * 6 = 0 from rfl] at hx110_3)
                                  (try rw [Addr.add_zero'] at hx110_3)
                                  (try rw [show ((0 : Int)).toNat = 0 from rfl] at hx110_4)
                                  (try rw [show 0 * 6 = 0 from rfl] at hx110_4)
                                  (try rw [Addr.add_zero'] at hx110_4)
                                  (try rw [show ((0 : Int)).toNat = 0 from rfl] at hx110_5)
                                  (try rw [show 0 * 6 = 0 from rfl] at hx110_5)
                                  (try rw [Addr.add_zero'] at hx110_5)
                                  have HR110_4 := Aside0.mk hi110_4
                                  have HC110_4 := Aside0.mk hl110_4
                                  clear hi110_4 hl110_4
                                  have HR110_5 := Aside0.mk hi110_5
                                  have HC110_5 := Aside0.mk hl110_5
                                  clear hi110_5 hl110_5
                                  replace p110 := eq_true p110
                                  replace q110 := eq_true q110
                                  go_wp2
                                  go_ret
                                  exact ⟨by first | rfl | (simp [errW_none, errW_some] <;> rfl) | (simp [*, errW_none, errW_some] <;> rfl), by repeat (first | (with_reducible first | exact HB.out | apply below_alloc | apply pw_below_drewN | apply below_drew1 | refine below_set ?_ GE107.out) | exact HB.out)⟩
                            · rw [if_neg c59] at H
                              exact absurd H (by simp)
                          · rw [if_neg c58] at H
                            exact absurd H (by simp)
                · rw [if_neg c15] at H
                  exact absurd H (by simp)
              · rw [if_neg c14] at H
                exact absurd H (by simp)
            · rw [if_neg c13] at H
              exact absurd H (by simp)
          · rw [if_neg c12] at H
            exact absurd H (by simp)
  · replace c4 := Bool.eq_false_iff.mpr c4
    subst c4
    have H1 : (some false) = some r := by rw [if_neg (show ¬ (false = true) by decide)] at H; exact H
    clear H
    have H := H1
    clear H1
    obtain rfl := Option.some.inj H
    go_enter Tryd.func11, Tryd.ntmps11
    go_wp2_with (first | ((with_reducible refine gate_callee (f := 32) rfl ?_); refine goesL_ (some 17) rfl rfl Tryd.func32 (by kernel_rfl) rfl #[] rfl (by (try simp only [List.map_toArray, List.map_cons, List.map_nil]); first | done | rfl | (simp only [List.length_drop, List.length_take]; rfl)) ?_; (with_reducible refine (doormanlaw07_awake.calls  false _ ?side1 A3.out).mono ?_); (case side1 => exact ⟨Go.Proofs.YtkgnhghaiopgcaaDoor.Aid.KeysIn.go hK.out (by first | exact Below.refl _ _ | (repeat (first | (with_reducible first | exact HB.out | apply below_alloc | apply pw_below_drewN | apply below_drew1) | exact HB.out)) | exact Drawn0.below (by repeat (first | exact Drawn0.refl _ | apply Drawn0.step)))⟩); rintro e w71 ⟨rfl, hb⟩; refine ⟨_, rfl, ?_⟩; have n0_ := Aside0.mk (below_step (by repeat (first | (with_reducible first | exact HB.out | apply below_alloc | apply pw_below_drewN | apply below_drew1) | exact HB.out)) hb); clear HB; have HB := n0_; clear n0_; (try clear hb); (try clear hb2); (try clear hk); (try clear hi)))
    go_ret
    exact ⟨by first | rfl | (simp [errW_none, errW_some] <;> rfl) | (simp [*, errW_none, errW_some] <;> rfl), by repeat (first | (with_reducible first | exact HB.out | apply below_alloc | apply pw_below_drewN | apply below_drew1) | exact HB.out)⟩

/-- THE ONE PURE STATEMENT of doormanlaw07_ParseDeep: yours. -/
def doormanlaw07_ParseDeep.Pure : Prop := ∀ (a0 : Int) (a1 : Bool), (Lit.int .u8 a0).wf = true → ∃ k, doormanlaw07_ParseDeep.f k a0 a1 = some true
theorem doormanlaw07_ParseDeep.walk (P : doormanlaw07_ParseDeep.Pure) (a0 : Int) (a1 : Bool) (w : World) (hK : Aside0 (Go.Proofs.YtkgnhghaiopgcaaDoor.Aid.KeysIn w)) (w0 : (Lit.int .u8 a0).wf = true) :
    Calls Tryd.prog 11 #[.int .u8 a0, .bool a1] w fun e w' => e = .returned (.bool true) ∧ Below w.heap.size w w' := by
  obtain ⟨k, h⟩ := P a0 a1 w0
  refine (doormanlaw07_ParseDeep.calls k a0 a1 true w hK h).mono ?_
  rintro e w' ⟨rfl, hd⟩
  exact ⟨rfl, hd⟩

end Go.Proofs.YtkgnhghaiopgcaaDoor.YDeep
