-- Written by a program of this session (wip/tools/drive.py) for this seat, partly by the kit's print.py; some functions by hand.
import Derived.Test.YtkgnhghaiopgcaaDoorX0
import Derived.Test.YtkgnhghaiopgcaaDoorNq1
namespace Go.Proofs.YtkgnhghaiopgcaaDoor.Nq
open Go.RowKit Go.Proofs.YtkgnhghaiopgcaaDoorW.PrintWords Go.Proofs.YtkgnhghaiopgcaaDoorW.PrintLast
open Go.Proofs.YtkgnhghaiopgcaaDoor.X
set_option linter.unusedVariables false
set_option linter.unusedSimpArgs false

/-! ### doormanref02_Long: function 60 -/
mutual
def doormanref02_Long.j0 : Nat → ByteArray → Int → Int → Bool → Bool → Bool → Bool → Option (Int)
  | 0, _, _, _, _, _, _, _ => none
  | k + 1, x0, x1, x5, x6, x7, x8, x27 => if x27 = true then (if x6 = true then (some 2) else (some 0)) else (if x5 ≥ 224 then (doormanref02_Long.j1 k x0 x1 x5 x6 x7 x8 (decide (x5 ≤ 239))) else (doormanref02_Long.j1 k x0 x1 x5 x6 x7 x8 false))
def doormanref02_Long.j1 : Nat → ByteArray → Int → Int → Bool → Bool → Bool → Bool → Option (Int)
  | 0, _, _, _, _, _, _, _ => none
  | k + 1, x0, x1, x5, x6, x7, x8, x35 => if x35 = true then (if x5 = 224 then ((doormanref02_in.f x0 (wrap64 (x1 + 1)) 160 191).bind fun t104 => (doormanref02_Long.j2 k x0 x1 x5 t104 x7)) else (doormanref02_Long.j2 k x0 x1 x5 x6 x7)) else (if x5 ≥ 240 then (doormanref02_Long.j3 k x0 x1 x5 x6 x7 x8 (decide (x5 ≤ 244))) else (doormanref02_Long.j3 k x0 x1 x5 x6 x7 x8 false))
def doormanref02_Long.j2 : Nat → ByteArray → Int → Int → Bool → Bool → Option (Int)
  | 0, _, _, _, _, _ => none
  | k + 1, x0, x1, x5, x6, x7 => if x5 = 237 then ((doormanref02_in.f x0 (wrap64 (x1 + 1)) 128 159).bind fun t105 => (if t105 = true then (if x7 = true then (some 3) else (some 0)) else (some 0))) else (if x6 = true then (if x7 = true then (some 3) else (some 0)) else (some 0))
def doormanref02_Long.j3 : Nat → ByteArray → Int → Int → Bool → Bool → Bool → Bool → Option (Int)
  | 0, _, _, _, _, _, _, _ => none
  | k + 1, x0, x1, x5, x6, x7, x8, x58 => if x58 = true then (if x5 = 240 then ((doormanref02_in.f x0 (wrap64 (x1 + 1)) 144 191).bind fun t106 => (doormanref02_Long.j4 k x0 x1 x5 t106 x7 x8)) else (doormanref02_Long.j4 k x0 x1 x5 x6 x7 x8)) else (some 0)
def doormanref02_Long.j4 : Nat → ByteArray → Int → Int → Bool → Bool → Bool → Option (Int)
  | 0, _, _, _, _, _, _ => none
  | k + 1, x0, x1, x5, x6, x7, x8 => if x5 = 244 then ((doormanref02_in.f x0 (wrap64 (x1 + 1)) 128 143).bind fun t107 => (if t107 = true then (if x7 = true then (if x8 = true then (some 4) else (some 0)) else (some 0)) else (some 0))) else (if x6 = true then (if x7 = true then (if x8 = true then (some 4) else (some 0)) else (some 0)) else (some 0))
end
def doormanref02_Long.f (k : Nat) (a0 : ByteArray) (a1 : Int) : Option (Int) := if 0 ≤ a1 then (if a1 < (a0.size : Int) then ((doormanref02_in.f a0 (wrap64 (a1 + 1)) 128 191).bind fun t101 => ((doormanref02_in.f a0 (wrap64 (a1 + 2)) 128 191).bind fun t102 => ((doormanref02_in.f a0 (wrap64 (a1 + 3)) 128 191).bind fun t103 => (if (bt a0 a1) < 128 then (some 1) else (if (bt a0 a1) ≥ 194 then (doormanref02_Long.j0 k a0 a1 (bt a0 a1) t101 t102 t103 (decide ((bt a0 a1) ≤ 223))) else (doormanref02_Long.j0 k a0 a1 (bt a0 a1) t101 t102 t103 false)))))) else (none)) else (none)
theorem doormanref02_Long.mono_l : ∀ k, (∀ y0 y1 y2 y3 y4 y5 y6, LeO (doormanref02_Long.j0 k y0 y1 y2 y3 y4 y5 y6) (doormanref02_Long.j0 (k + 1) y0 y1 y2 y3 y4 y5 y6)) ∧ (∀ y0 y1 y2 y3 y4 y5 y6, LeO (doormanref02_Long.j1 k y0 y1 y2 y3 y4 y5 y6) (doormanref02_Long.j1 (k + 1) y0 y1 y2 y3 y4 y5 y6)) ∧ (∀ y0 y1 y2 y3 y4, LeO (doormanref02_Long.j2 k y0 y1 y2 y3 y4) (doormanref02_Long.j2 (k + 1) y0 y1 y2 y3 y4)) ∧ (∀ y0 y1 y2 y3 y4 y5 y6, LeO (doormanref02_Long.j3 k y0 y1 y2 y3 y4 y5 y6) (doormanref02_Long.j3 (k + 1) y0 y1 y2 y3 y4 y5 y6)) ∧ (∀ y0 y1 y2 y3 y4 y5, LeO (doormanref02_Long.j4 k y0 y1 y2 y3 y4 y5) (doormanref02_Long.j4 (k + 1) y0 y1 y2 y3 y4 y5))
  | 0 => ⟨fun _ _ _ _ _ _ _ r h => by simp [doormanref02_Long.j0] at h, fun _ _ _ _ _ _ _ r h => by simp [doormanref02_Long.j1] at h, fun _ _ _ _ _ r h => by simp [doormanref02_Long.j2] at h, fun _ _ _ _ _ _ _ r h => by simp [doormanref02_Long.j3] at h, fun _ _ _ _ _ _ r h => by simp [doormanref02_Long.j4] at h⟩
  | k + 1 => by
    obtain ⟨ih0, ih1, ih2, ih3, ih4⟩ := doormanref02_Long.mono_l k
    refine ⟨?_, ?_, ?_, ?_, ?_⟩
    · intro y0 y1 y2 y3 y4 y5 y6
      unfold doormanref02_Long.j0
      repeat' first
      | (with_reducible exact ih0 _ _ _ _ _ _ _)
      | (with_reducible exact ih1 _ _ _ _ _ _ _)
      | (with_reducible exact ih2 _ _ _ _ _)
      | (with_reducible exact ih3 _ _ _ _ _ _ _)
      | (with_reducible exact ih4 _ _ _ _ _ _)
      | (with_reducible exact LeO.refl _)
      | (with_reducible exact LeO.none _)
      | (with_reducible refine LeO.ite ?_ ?_)
      | (with_reducible refine LeO.bind ?_ (fun _ => ?_))
      | exact ih0 _ _ _ _ _ _ _
      | exact ih1 _ _ _ _ _ _ _
      | exact ih2 _ _ _ _ _
      | exact ih3 _ _ _ _ _ _ _
      | exact ih4 _ _ _ _ _ _
      | exact LeO.none _
      | refine LeO.ite ?_ ?_
      | refine LeO.bind ?_ (fun _ => ?_)
    · intro y0 y1 y2 y3 y4 y5 y6
      unfold doormanref02_Long.j1
      repeat' first
      | (with_reducible exact ih0 _ _ _ _ _ _ _)
      | (with_reducible exact ih1 _ _ _ _ _ _ _)
      | (with_reducible exact ih2 _ _ _ _ _)
      | (with_reducible exact ih3 _ _ _ _ _ _ _)
      | (with_reducible exact ih4 _ _ _ _ _ _)
      | (with_reducible exact LeO.refl _)
      | (with_reducible exact LeO.none _)
      | (with_reducible refine LeO.ite ?_ ?_)
      | (with_reducible refine LeO.bind ?_ (fun _ => ?_))
      | exact ih0 _ _ _ _ _ _ _
      | exact ih1 _ _ _ _ _ _ _
      | exact ih2 _ _ _ _ _
      | exact ih3 _ _ _ _ _ _ _
      | exact ih4 _ _ _ _ _ _
      | exact LeO.none _
      | refine LeO.ite ?_ ?_
      | refine LeO.bind ?_ (fun _ => ?_)
    · intro y0 y1 y2 y3 y4
      unfold doormanref02_Long.j2
      repeat' first
      | (with_reducible exact ih0 _ _ _ _ _ _ _)
      | (with_reducible exact ih1 _ _ _ _ _ _ _)
      | (with_reducible exact ih2 _ _ _ _ _)
      | (with_reducible exact ih3 _ _ _ _ _ _ _)
      | (with_reducible exact ih4 _ _ _ _ _ _)
      | (with_reducible exact LeO.refl _)
      | (with_reducible exact LeO.none _)
      | (with_reducible refine LeO.ite ?_ ?_)
      | (with_reducible refine LeO.bind ?_ (fun _ => ?_))
      | exact ih0 _ _ _ _ _ _ _
      | exact ih1 _ _ _ _ _ _ _
      | exact ih2 _ _ _ _ _
      | exact ih3 _ _ _ _ _ _ _
      | exact ih4 _ _ _ _ _ _
      | exact LeO.none _
      | refine LeO.ite ?_ ?_
      | refine LeO.bind ?_ (fun _ => ?_)
    · intro y0 y1 y2 y3 y4 y5 y6
      unfold doormanref02_Long.j3
      repeat' first
      | (with_reducible exact ih0 _ _ _ _ _ _ _)
      | (with_reducible exact ih1 _ _ _ _ _ _ _)
      | (with_reducible exact ih2 _ _ _ _ _)
      | (with_reducible exact ih3 _ _ _ _ _ _ _)
      | (with_reducible exact ih4 _ _ _ _ _ _)
      | (with_reducible exact LeO.refl _)
      | (with_reducible exact LeO.none _)
      | (with_reducible refine LeO.ite ?_ ?_)
      | (with_reducible refine LeO.bind ?_ (fun _ => ?_))
      | exact ih0 _ _ _ _ _ _ _
      | exact ih1 _ _ _ _ _ _ _
      | exact ih2 _ _ _ _ _
      | exact ih3 _ _ _ _ _ _ _
      | exact ih4 _ _ _ _ _ _
      | exact LeO.none _
      | refine LeO.ite ?_ ?_
      | refine LeO.bind ?_ (fun _ => ?_)
    · intro y0 y1 y2 y3 y4 y5
      unfold doormanref02_Long.j4
      repeat' first
      | (with_reducible exact ih0 _ _ _ _ _ _ _)
      | (with_reducible exact ih1 _ _ _ _ _ _ _)
      | (with_reducible exact ih2 _ _ _ _ _)
      | (with_reducible exact ih3 _ _ _ _ _ _ _)
      | (with_reducible exact ih4 _ _ _ _ _ _)
      | (with_reducible exact LeO.refl _)
      | (with_reducible exact LeO.none _)
      | (with_reducible refine LeO.ite ?_ ?_)
      | (with_reducible refine LeO.bind ?_ (fun _ => ?_))
      | exact ih0 _ _ _ _ _ _ _
      | exact ih1 _ _ _ _ _ _ _
      | exact ih2 _ _ _ _ _
      | exact ih3 _ _ _ _ _ _ _
      | exact ih4 _ _ _ _ _ _
      | exact LeO.none _
      | refine LeO.ite ?_ ?_
      | refine LeO.bind ?_ (fun _ => ?_)
theorem doormanref02_Long.mono : ∀ a0 a1 k, LeO (doormanref02_Long.f k a0 a1) (doormanref02_Long.f (k + 1) a0 a1) := by
  intro a0 a1 k
  obtain ⟨ih0, ih1, ih2, ih3, ih4⟩ := doormanref02_Long.mono_l k
  unfold doormanref02_Long.f
  repeat' first
      | (with_reducible exact ih0 _ _ _ _ _ _ _)
      | (with_reducible exact ih1 _ _ _ _ _ _ _)
      | (with_reducible exact ih2 _ _ _ _ _)
      | (with_reducible exact ih3 _ _ _ _ _ _ _)
      | (with_reducible exact ih4 _ _ _ _ _ _)
      | (with_reducible exact LeO.refl _)
      | (with_reducible exact LeO.none _)
      | (with_reducible refine LeO.ite ?_ ?_)
      | (with_reducible refine LeO.bind ?_ (fun _ => ?_))
      | exact ih0 _ _ _ _ _ _ _
      | exact ih1 _ _ _ _ _ _ _
      | exact ih2 _ _ _ _ _
      | exact ih3 _ _ _ _ _ _ _
      | exact ih4 _ _ _ _ _ _
      | exact LeO.none _
      | refine LeO.ite ?_ ?_
      | refine LeO.bind ?_ (fun _ => ?_)
set_option maxHeartbeats 8000000 in
set_option maxRecDepth 100000 in
theorem doormanref02_Long.calls (k : Nat) (a0 : ByteArray) (a1 : Int) (r : Int) (w : World) (h : doormanref02_Long.f k a0 a1 = some r) :
    Calls Tryd.prog 60 #[.string a0, .int .i64 a1] w fun e w' => e = .returned (.int .i64 r) ∧ Drawn0 w w' := by
  have H : (if 0 ≤ a1 then (if a1 < (a0.size : Int) then ((doormanref02_in.f a0 (wrap64 (a1 + 1)) 128 191).bind fun t101 => ((doormanref02_in.f a0 (wrap64 (a1 + 2)) 128 191).bind fun t102 => ((doormanref02_in.f a0 (wrap64 (a1 + 3)) 128 191).bind fun t103 => (if (bt a0 a1) < 128 then (some 1) else (if (bt a0 a1) ≥ 194 then (doormanref02_Long.j0 k a0 a1 (bt a0 a1) t101 t102 t103 (decide ((bt a0 a1) ≤ 223))) else (doormanref02_Long.j0 k a0 a1 (bt a0 a1) t101 t102 t103 false)))))) else (none)) else (none)) = some r := h
  clear h
  by_cases c3 : 0 ≤ a1
  · rw [if_pos c3] at H
    have c3b0 : decide (0 ≤ a1) = true := decide_eq_true c3
    clear c3
    by_cases c4 : a1 < (a0.size : Int)
    · rw [if_pos c4] at H
      have c4b0 : decide (a1 < (a0.size : Int)) = true := decide_eq_true c4
      clear c4
      replace H := Option.bind_eq_some_iff.mp H
      obtain ⟨t101, A60, H⟩ := H
      replace H : ((doormanref02_in.f a0 (wrap64 (a1 + 2)) 128 191).bind fun t102 => ((doormanref02_in.f a0 (wrap64 (a1 + 3)) 128 191).bind fun t103 => (if (bt a0 a1) < 128 then (some 1) else (if (bt a0 a1) ≥ 194 then (doormanref02_Long.j0 k a0 a1 (bt a0 a1) t101 t102 t103 (decide ((bt a0 a1) ≤ 223))) else (doormanref02_Long.j0 k a0 a1 (bt a0 a1) t101 t102 t103 false))))) = some r := H
      have A6 := Aside0.mk A60
      clear A60
      replace H := Option.bind_eq_some_iff.mp H
      obtain ⟨t102, A70, H⟩ := H
      replace H : ((doormanref02_in.f a0 (wrap64 (a1 + 3)) 128 191).bind fun t103 => (if (bt a0 a1) < 128 then (some 1) else (if (bt a0 a1) ≥ 194 then (doormanref02_Long.j0 k a0 a1 (bt a0 a1) t101 t102 t103 (decide ((bt a0 a1) ≤ 223))) else (doormanref02_Long.j0 k a0 a1 (bt a0 a1) t101 t102 t103 false)))) = some r := H
      have A7 := Aside0.mk A70
      clear A70
      replace H := Option.bind_eq_some_iff.mp H
      obtain ⟨t103, A80, H⟩ := H
      replace H : (if (bt a0 a1) < 128 then (some 1) else (if (bt a0 a1) ≥ 194 then (doormanref02_Long.j0 k a0 a1 (bt a0 a1) t101 t102 t103 (decide ((bt a0 a1) ≤ 223))) else (doormanref02_Long.j0 k a0 a1 (bt a0 a1) t101 t102 t103 false))) = some r := H
      have A8 := Aside0.mk A80
      clear A80
      by_cases c9 : (bt a0 a1) < 128
      · rw [if_pos c9] at H
        have c9b0 : decide ((bt a0 a1) < 128) = true := decide_eq_true c9
        clear c9
        obtain rfl := Option.some.inj H
        have p5 : 0 ≤ (a1 : Int) := of_decide_eq_true (by first | (with_reducible assumption) | assumption)
        have q5 : a1 < (a0.size : Int) := of_decide_eq_true (by first | (with_reducible assumption) | assumption)
        have hx5 := bt_at a0 a1
        replace p5 := eq_true p5
        replace q5 := eq_true q5
        go_enter Tryd.func60, Tryd.ntmps60
        go_wp2_with (first | ((with_reducible refine gate_callee (f := 95) rfl ?_); refine goesL_ (some 15) rfl rfl Tryd.func95 (by kernel_rfl) rfl #[.string a0, .int .i64 (wrap64 (a1 + 1)), .int .u8 128, .int .u8 191] rfl (by (try simp only [List.map_toArray, List.map_cons, List.map_nil]); first | done | rfl | (simp only [List.length_drop, List.length_take]; rfl)) ?_; (with_reducible refine (doormanref02_in.calls a0 (wrap64 (a1 + 1)) 128 191 t101 _ A6.out).mono ?_); rintro e w' ⟨rfl, ⟨nd, rfl⟩⟩; refine ⟨_, rfl, ?_⟩) | ((with_reducible refine gate_callee (f := 95) rfl ?_); refine goesL_ (some 19) rfl rfl Tryd.func95 (by kernel_rfl) rfl #[.string a0, .int .i64 (wrap64 (a1 + 2)), .int .u8 128, .int .u8 191] rfl (by (try simp only [List.map_toArray, List.map_cons, List.map_nil]); first | done | rfl | (simp only [List.length_drop, List.length_take]; rfl)) ?_; (with_reducible refine (doormanref02_in.calls a0 (wrap64 (a1 + 2)) 128 191 t102 _ A7.out).mono ?_); rintro e w' ⟨rfl, ⟨nd, rfl⟩⟩; refine ⟨_, rfl, ?_⟩) | ((with_reducible refine gate_callee (f := 95) rfl ?_); refine goesL_ (some 23) rfl rfl Tryd.func95 (by kernel_rfl) rfl #[.string a0, .int .i64 (wrap64 (a1 + 3)), .int .u8 128, .int .u8 191] rfl (by (try simp only [List.map_toArray, List.map_cons, List.map_nil]); first | done | rfl | (simp only [List.length_drop, List.length_take]; rfl)) ?_; (with_reducible refine (doormanref02_in.calls a0 (wrap64 (a1 + 3)) 128 191 t103 _ A8.out).mono ?_); rintro e w' ⟨rfl, ⟨nd, rfl⟩⟩; refine ⟨_, rfl, ?_⟩))
        go_ret
        exact ⟨by first | rfl | (simp; done) | (simp [*]; done), by repeat (first | exact Drawn0.refl _ | apply Drawn0.step)⟩
      · rw [if_neg c9] at H
        have c9b0 : decide ((bt a0 a1) < 128) = false := decide_eq_false c9
        clear c9
        have HC10 := Aside0.mk H
        clear H
        have p5 : 0 ≤ (a1 : Int) := of_decide_eq_true (by first | (with_reducible assumption) | assumption)
        have q5 : a1 < (a0.size : Int) := of_decide_eq_true (by first | (with_reducible assumption) | assumption)
        have hx5 := bt_at a0 a1
        replace p5 := eq_true p5
        replace q5 := eq_true q5
        go_enter Tryd.func60, Tryd.ntmps60
        go_upto_region 7 with (first | ((with_reducible refine gate_callee (f := 95) rfl ?_); refine goesL_ (some 15) rfl rfl Tryd.func95 (by kernel_rfl) rfl #[.string a0, .int .i64 (wrap64 (a1 + 1)), .int .u8 128, .int .u8 191] rfl (by (try simp only [List.map_toArray, List.map_cons, List.map_nil]); first | done | rfl | (simp only [List.length_drop, List.length_take]; rfl)) ?_; (with_reducible refine (doormanref02_in.calls a0 (wrap64 (a1 + 1)) 128 191 t101 _ A6.out).mono ?_); rintro e w' ⟨rfl, ⟨nd, rfl⟩⟩; refine ⟨_, rfl, ?_⟩) | ((with_reducible refine gate_callee (f := 95) rfl ?_); refine goesL_ (some 19) rfl rfl Tryd.func95 (by kernel_rfl) rfl #[.string a0, .int .i64 (wrap64 (a1 + 2)), .int .u8 128, .int .u8 191] rfl (by (try simp only [List.map_toArray, List.map_cons, List.map_nil]); first | done | rfl | (simp only [List.length_drop, List.length_take]; rfl)) ?_; (with_reducible refine (doormanref02_in.calls a0 (wrap64 (a1 + 2)) 128 191 t102 _ A7.out).mono ?_); rintro e w' ⟨rfl, ⟨nd, rfl⟩⟩; refine ⟨_, rfl, ?_⟩) | ((with_reducible refine gate_callee (f := 95) rfl ?_); refine goesL_ (some 23) rfl rfl Tryd.func95 (by kernel_rfl) rfl #[.string a0, .int .i64 (wrap64 (a1 + 3)), .int .u8 128, .int .u8 191] rfl (by (try simp only [List.map_toArray, List.map_cons, List.map_nil]); first | done | rfl | (simp only [List.length_drop, List.length_take]; rfl)) ?_; (with_reducible refine (doormanref02_in.calls a0 (wrap64 (a1 + 3)) 128 191 t103 _ A8.out).mono ?_); rintro e w' ⟨rfl, ⟨nd, rfl⟩⟩; refine ⟨_, rfl, ?_⟩))
        (try simp only [Act.put, List.setIfInBounds_toArray, List.set_cons_zero, List.set_cons_succ])
        go_cut [27] (fun v27 wc => ∃ (kq : Nat) (x27_9 : Bool), v27 = .bool x27_9 ∧ Aside0 (doormanref02_Long.j0 kq a0 a1 (bt a0 a1) t101 t102 t103 x27_9 = some r) ∧ Aside0 (kq ≤ k) ∧ Drawn0 w wc)
        case first =>
          have H := HC10.out
          clear HC10
          by_cases c11 : (bt a0 a1) ≥ 194
          · rw [if_pos c11] at H
            have c11b0 : decide (194 ≤ (bt a0 a1)) = true := decide_eq_true c11
            clear c11
            (first | rw [c11b0] | (simp only [i64_w, i32_w]; rw [c11b0]) | skip)
            have H' := Aside0.mk H
            clear H
            go_wp2
            go_meet
            case rel => exact ⟨_, (decide ((bt a0 a1) ≤ 223)), (by first | rfl | (simp; done) | (simp [*]; done)), H', ⟨by first | omega | exact Nat.le_refl _⟩, by repeat (first | exact Drawn0.refl _ | apply Drawn0.step)⟩
          · rw [if_neg c11] at H
            have c11b0 : decide (194 ≤ (bt a0 a1)) = false := decide_eq_false c11
            clear c11
            (first | rw [c11b0] | (simp only [i64_w, i32_w]; rw [c11b0]) | skip)
            have H' := Aside0.mk H
            clear H
            go_wp2
            go_meet
            case rel => exact ⟨_, (false), (by first | rfl | (simp; done) | (simp [*]; done)), H', ⟨by first | omega | exact Nat.le_refl _⟩, by repeat (first | exact Drawn0.refl _ | apply Drawn0.step)⟩
        case rest =>
          clear HC10
          try clear c1
          try clear p2
          try clear c3
          try clear c3b0
          try clear c4
          try clear c4b0
          try clear p5
          try clear q5
          try clear hx5
          try clear c6
          try clear p6
          try clear c9
          try clear c9b0
          try clear c11
          try clear c11b0
          try clear p5
          try clear q5
          obtain ⟨kq, x27_9, rfl, HA, HJ9, ⟨mc9, rfl⟩⟩ := hcut
          cases kq with
          | zero => exact absurd HA.out (by simp [doormanref02_Long.j0])
          | succ kj9 =>
            have H := HA.out
            clear HA
            simp only [doormanref02_Long.j0] at H
            by_cases c12 : x27_9 = true
            · subst c12
              have H1 : (if t101 = true then (some 2) else (some 0)) = some r := by rw [if_pos rfl] at H; exact H
              clear H
              have H := H1
              clear H1
              by_cases c13 : t101 = true
              · subst c13
                have H1 : (some 2) = some r := by rw [if_pos rfl] at H; exact H
                clear H
                have H := H1
                clear H1
                obtain rfl := Option.some.inj H
                go_wp2
                go_ret
                exact ⟨by first | rfl | (simp; done) | (simp [*]; done), by repeat (first | exact Drawn0.refl _ | apply Drawn0.step)⟩
              · replace c13 := Bool.eq_false_iff.mpr c13
                subst c13
                have H1 : (some 0) = some r := by rw [if_neg (show ¬ (false = true) by decide)] at H; exact H
                clear H
                have H := H1
                clear H1
                obtain rfl := Option.some.inj H
                go_wp2
                go_ret
                exact ⟨by first | rfl | (simp; done) | (simp [*]; done), by repeat (first | exact Drawn0.refl _ | apply Drawn0.step)⟩
            · replace c12 := Bool.eq_false_iff.mpr c12
              subst c12
              have H1 : (if (bt a0 a1) ≥ 224 then (doormanref02_Long.j1 kj9 a0 a1 (bt a0 a1) t101 t102 t103 (decide ((bt a0 a1) ≤ 239))) else (doormanref02_Long.j1 kj9 a0 a1 (bt a0 a1) t101 t102 t103 false)) = some r := by rw [if_neg (show ¬ (false = true) by decide)] at H; exact H
              clear H
              have H := H1
              clear H1
              have HC14 := Aside0.mk H
              clear H
              go_upto_region 11 with (fail)
              go_cut [35] (fun v35 wc => ∃ (kq : Nat) (x35_13 : Bool), v35 = .bool x35_13 ∧ Aside0 (doormanref02_Long.j1 kq a0 a1 (bt a0 a1) t101 t102 t103 x35_13 = some r) ∧ Aside0 (kq ≤ kj9) ∧ Drawn0 w wc)
              case first =>
                have H := HC14.out
                clear HC14
                by_cases c15 : (bt a0 a1) ≥ 224
                · rw [if_pos c15] at H
                  have c15b0 : decide (224 ≤ (bt a0 a1)) = true := decide_eq_true c15
                  clear c15
                  (first | rw [c15b0] | (simp only [i64_w, i32_w]; rw [c15b0]) | skip)
                  have H' := Aside0.mk H
                  clear H
                  go_wp2
                  go_meet
                  case rel => exact ⟨_, (decide ((bt a0 a1) ≤ 239)), (by first | rfl | (simp; done) | (simp [*]; done)), H', ⟨by have := HJ9.out; first | omega | exact Nat.le_refl _⟩, by repeat (first | exact Drawn0.refl _ | apply Drawn0.step)⟩
                · rw [if_neg c15] at H
                  have c15b0 : decide (224 ≤ (bt a0 a1)) = false := decide_eq_false c15
                  clear c15
                  (first | rw [c15b0] | (simp only [i64_w, i32_w]; rw [c15b0]) | skip)
                  have H' := Aside0.mk H
                  clear H
                  go_wp2
                  go_meet
                  case rel => exact ⟨_, (false), (by first | rfl | (simp; done) | (simp [*]; done)), H', ⟨by have := HJ9.out; first | omega | exact Nat.le_refl _⟩, by repeat (first | exact Drawn0.refl _ | apply Drawn0.step)⟩
              case rest =>
                clear HC14
                try clear c1
                try clear p2
                try clear c3
                try clear c3b0
                try clear c4
                try clear c4b0
                try clear p5
                try clear q5
                try clear hx5
                try clear c6
                try clear p6
                try clear c9
                try clear c9b0
                try clear c11
                try clear c11b0
                try clear c12
                try clear c13
                try clear c15
                try clear c15b0
                try clear p2
                try clear p5
                try clear p6
                try clear q5
                obtain ⟨kq, x35_13, rfl, HA, HJ13, ⟨mc13, rfl⟩⟩ := hcut
                cases kq with
                | zero => exact absurd HA.out (by simp [doormanref02_Long.j1])
                | succ kj13 =>
                  have H := HA.out
                  clear HA
                  simp only [doormanref02_Long.j1] at H
                  by_cases c16 : x35_13 = true
                  · subst c16
                    have H1 : (if (bt a0 a1) = 224 then ((doormanref02_in.f a0 (wrap64 (a1 + 1)) 160 191).bind fun t104 => (doormanref02_Long.j2 kj13 a0 a1 (bt a0 a1) t104 t102)) else (doormanref02_Long.j2 kj13 a0 a1 (bt a0 a1) t101 t102)) = some r := by rw [if_pos rfl] at H; exact H
                    clear H
                    have H := H1
                    clear H1
                    have HC17 := Aside0.mk H
                    clear H
                    go_upto_if 43 with (fail)
                    go_cut [6] (fun v6 wc => ∃ (kq : Nat) (x6_16 : Bool), v6 = .bool x6_16 ∧ Aside0 (doormanref02_Long.j2 kq a0 a1 (bt a0 a1) x6_16 t102 = some r) ∧ Aside0 (kq ≤ kj13) ∧ Drawn0 w wc)
                    case first =>
                      have H := HC17.out
                      clear HC17
                      by_cases c18 : (bt a0 a1) = 224
                      · rw [if_pos c18] at H
                        have c18b0 : ((bt a0 a1) == 224) = true := beq_iff_eq.mpr c18
                        have c18b1 : ((bt a0 a1) != 224) = false := bne_eq_false_iff_eq.mpr c18
                        clear c18
                        (first | rw [c18b0] | (simp only [i64_w, i32_w]; rw [c18b0]) | skip)
                        replace H := Option.bind_eq_some_iff.mp H
                        obtain ⟨t104, A190, H⟩ := H
                        replace H : (doormanref02_Long.j2 kj13 a0 a1 (bt a0 a1) t104 t102) = some r := H
                        have A19 := Aside0.mk A190
                        clear A190
                        have H' := Aside0.mk H
                        clear H
                        go_wp2_with (first | ((with_reducible refine gate_callee (f := 95) rfl ?_); refine goesL_ (some 47) rfl rfl Tryd.func95 (by kernel_rfl) rfl #[.string a0, .int .i64 (wrap64 (a1 + 1)), .int .u8 160, .int .u8 191] rfl (by (try simp only [List.map_toArray, List.map_cons, List.map_nil]); first | done | rfl | (simp only [List.length_drop, List.length_take]; rfl)) ?_; (with_reducible refine (doormanref02_in.calls a0 (wrap64 (a1 + 1)) 160 191 t104 _ A19.out).mono ?_); rintro e w' ⟨rfl, ⟨nd, rfl⟩⟩; refine ⟨_, rfl, ?_⟩))
                        go_meet
                        case rel => exact ⟨_, (t104), (by first | rfl | (simp; done) | (simp [*]; done)), H', ⟨by have := HJ9.out; have := HJ13.out; first | omega | exact Nat.le_refl _⟩, by repeat (first | exact Drawn0.refl _ | apply Drawn0.step)⟩
                      · rw [if_neg c18] at H
                        have c18b0 : ((bt a0 a1) == 224) = false := beq_eq_false_iff_ne.mpr c18
                        have c18b1 : ((bt a0 a1) != 224) = true := bne_iff_ne.mpr c18
                        (first | rw [c18b0] | (simp only [i64_w, i32_w]; rw [c18b0]) | skip)
                        have H' := Aside0.mk H
                        clear H
                        go_wp2
                        go_meet
                        case rel => exact ⟨_, (t101), (by first | rfl | (simp; done) | (simp [*]; done)), H', ⟨by have := HJ9.out; have := HJ13.out; first | omega | exact Nat.le_refl _⟩, by repeat (first | exact Drawn0.refl _ | apply Drawn0.step)⟩
                    case rest =>
                      clear HC17
                      try clear c1
                      try clear p2
                      try clear c3
                      try clear c3b0
                      try clear c4
                      try clear c4b0
                      try clear p5
                      try clear q5
                      try clear hx5
                      try clear c6
                      try clear p6
                      try clear c9
                      try clear c9b0
                      try clear c11
                      try clear c11b0
                      try clear c12
                      try clear c13
                      try clear c15
                      try clear c15b0
                      try clear c16
                      try clear c18
                      try clear c18b0
                      try clear c18b1
                      try clear p2
                      try clear p5
                      try clear p6
                      try clear q5
                      obtain ⟨kq, x6_16, rfl, HA, HJ16, ⟨mc16, rfl⟩⟩ := hcut
                      cases kq with
                      | zero => exact absurd HA.out (by simp [doormanref02_Long.j2])
                      | succ kj16 =>
                        have H := HA.out
                        clear HA
                        simp only [doormanref02_Long.j2] at H
                        by_cases c20 : (bt a0 a1) = 237
                        · rw [if_pos c20] at H
                          have c20b0 : ((bt a0 a1) == 237) = true := beq_iff_eq.mpr c20
                          have c20b1 : ((bt a0 a1) != 237) = false := bne_eq_false_iff_eq.mpr c20
                          clear c20
                          replace H := Option.bind_eq_some_iff.mp H
                          obtain ⟨t105, A210, H⟩ := H
                          replace H : (if t105 = true then (if t102 = true then (some 3) else (some 0)) else (some 0)) = some r := H
                          have A21 := Aside0.mk A210
                          clear A210
                          by_cases c22 : t105 = true
                          · subst c22
                            have H1 : (if t102 = true then (some 3) else (some 0)) = some r := by rw [if_pos rfl] at H; exact H
                            clear H
                            have H := H1
                            clear H1
                            by_cases c23 : t102 = true
                            · subst c23
                              have H1 : (some 3) = some r := by rw [if_pos rfl] at H; exact H
                              clear H
                              have H := H1
                              clear H1
                              obtain rfl := Option.some.inj H
                              go_wp2_with (first | ((with_reducible refine gate_callee (f := 95) rfl ?_); refine goesL_ (some 53) rfl rfl Tryd.func95 (by kernel_rfl) rfl #[.string a0, .int .i64 (wrap64 (a1 + 1)), .int .u8 128, .int .u8 159] rfl (by (try simp only [List.map_toArray, List.map_cons, List.map_nil]); first | done | rfl | (simp only [List.length_drop, List.length_take]; rfl)) ?_; (with_reducible refine (doormanref02_in.calls a0 (wrap64 (a1 + 1)) 128 159 true _ A21.out).mono ?_); rintro e w' ⟨rfl, ⟨nd, rfl⟩⟩; refine ⟨_, rfl, ?_⟩))
                              go_ret
                              exact ⟨by first | rfl | (simp; done) | (simp [*]; done), by repeat (first | exact Drawn0.refl _ | apply Drawn0.step)⟩
                            · replace c23 := Bool.eq_false_iff.mpr c23
                              subst c23
                              have H1 : (some 0) = some r := by rw [if_neg (show ¬ (false = true) by decide)] at H; exact H
                              clear H
                              have H := H1
                              clear H1
                              obtain rfl := Option.some.inj H
                              go_wp2_with (first | ((with_reducible refine gate_callee (f := 95) rfl ?_); refine goesL_ (some 53) rfl rfl Tryd.func95 (by kernel_rfl) rfl #[.string a0, .int .i64 (wrap64 (a1 + 1)), .int .u8 128, .int .u8 159] rfl (by (try simp only [List.map_toArray, List.map_cons, List.map_nil]); first | done | rfl | (simp only [List.length_drop, List.length_take]; rfl)) ?_; (with_reducible refine (doormanref02_in.calls a0 (wrap64 (a1 + 1)) 128 159 true _ A21.out).mono ?_); rintro e w' ⟨rfl, ⟨nd, rfl⟩⟩; refine ⟨_, rfl, ?_⟩))
                              go_ret
                              exact ⟨by first | rfl | (simp; done) | (simp [*]; done), by repeat (first | exact Drawn0.refl _ | apply Drawn0.step)⟩
                          · replace c22 := Bool.eq_false_iff.mpr c22
                            subst c22
                            have H1 : (some 0) = some r := by rw [if_neg (show ¬ (false = true) by decide)] at H; exact H
                            clear H
                            have H := H1
                            clear H1
                            obtain rfl := Option.some.inj H
                            go_wp2_with (first | ((with_reducible refine gate_callee (f := 95) rfl ?_); refine goesL_ (some 53) rfl rfl Tryd.func95 (by kernel_rfl) rfl #[.string a0, .int .i64 (wrap64 (a1 + 1)), .int .u8 128, .int .u8 159] rfl (by (try simp only [List.map_toArray, List.map_cons, List.map_nil]); first | done | rfl | (simp only [List.length_drop, List.length_take]; rfl)) ?_; (with_reducible refine (doormanref02_in.calls a0 (wrap64 (a1 + 1)) 128 159 false _ A21.out).mono ?_); rintro e w' ⟨rfl, ⟨nd, rfl⟩⟩; refine ⟨_, rfl, ?_⟩))
                            go_ret
                            exact ⟨by first | rfl | (simp; done) | (simp [*]; done), by repeat (first | exact Drawn0.refl _ | apply Drawn0.step)⟩
                        · rw [if_neg c20] at H
                          have c20b0 : ((bt a0 a1) == 237) = false := beq_eq_false_iff_ne.mpr c20
                          have c20b1 : ((bt a0 a1) != 237) = true := bne_iff_ne.mpr c20
                          by_cases c24 : x6_16 = true
                          · subst c24
                            have H1 : (if t102 = true then (some 3) else (some 0)) = some r := by rw [if_pos rfl] at H; exact H
                            clear H
                            have H := H1
                            clear H1
                            by_cases c25 : t102 = true
                            · subst c25
                              have H1 : (some 3) = some r := by rw [if_pos rfl] at H; exact H
                              clear H
                              have H := H1
                              clear H1
                              obtain rfl := Option.some.inj H
                              go_wp2
                              go_ret
                              exact ⟨by first | rfl | (simp; done) | (simp [*]; done), by repeat (first | exact Drawn0.refl _ | apply Drawn0.step)⟩
                            · replace c25 := Bool.eq_false_iff.mpr c25
                              subst c25
                              have H1 : (some 0) = some r := by rw [if_neg (show ¬ (false = true) by decide)] at H; exact H
                              clear H
                              have H := H1
                              clear H1
                              obtain rfl := Option.some.inj H
                              go_wp2
                              go_ret
                              exact ⟨by first | rfl | (simp; done) | (simp [*]; done), by repeat (first | exact Drawn0.refl _ | apply Drawn0.step)⟩
                          · replace c24 := Bool.eq_false_iff.mpr c24
                            subst c24
                            have H1 : (some 0) = some r := by rw [if_neg (show ¬ (false = true) by decide)] at H; exact H
                            clear H
                            have H := H1
                            clear H1
                            obtain rfl := Option.some.inj H
                            go_wp2
                            go_ret
                            exact ⟨by first | rfl | (simp; done) | (simp [*]; done), by repeat (first | exact Drawn0.refl _ | apply Drawn0.step)⟩
                  · replace c16 := Bool.eq_false_iff.mpr c16
                    subst c16
                    have H1 : (if (bt a0 a1) ≥ 240 then (doormanref02_Long.j3 kj13 a0 a1 (bt a0 a1) t101 t102 t103 (decide ((bt a0 a1) ≤ 244))) else (doormanref02_Long.j3 kj13 a0 a1 (bt a0 a1) t101 t102 t103 false)) = some r := by rw [if_neg (show ¬ (false = true) by decide)] at H; exact H
                    clear H
                    have H := H1
                    clear H1
                    have HC26 := Aside0.mk H
                    clear H
                    go_upto_region 19 with (fail)
                    go_cut [58] (fun v58 wc => ∃ (kq : Nat) (x58_25 : Bool), v58 = .bool x58_25 ∧ Aside0 (doormanref02_Long.j3 kq a0 a1 (bt a0 a1) t101 t102 t103 x58_25 = some r) ∧ Aside0 (kq ≤ kj13) ∧ Drawn0 w wc)
                    case first =>
                      have H := HC26.out
                      clear HC26
                      by_cases c27 : (bt a0 a1) ≥ 240
                      · rw [if_pos c27] at H
                        have c27b0 : decide (240 ≤ (bt a0 a1)) = true := decide_eq_true c27
                        clear c27
                        (first | rw [c27b0] | (simp only [i64_w, i32_w]; rw [c27b0]) | skip)
                        have H' := Aside0.mk H
                        clear H
                        go_wp2
                        go_meet
                        case rel => exact ⟨_, (decide ((bt a0 a1) ≤ 244)), (by first | rfl | (simp; done) | (simp [*]; done)), H', ⟨by have := HJ9.out; have := HJ13.out; first | omega | exact Nat.le_refl _⟩, by repeat (first | exact Drawn0.refl _ | apply Drawn0.step)⟩
                      · rw [if_neg c27] at H
                        have c27b0 : decide (240 ≤ (bt a0 a1)) = false := decide_eq_false c27
                        clear c27
                        (first | rw [c27b0] | (simp only [i64_w, i32_w]; rw [c27b0]) | skip)
                        have H' := Aside0.mk H
                        clear H
                        go_wp2
                        go_meet
                        case rel => exact ⟨_, (false), (by first | rfl | (simp; done) | (simp [*]; done)), H', ⟨by have := HJ9.out; have := HJ13.out; first | omega | exact Nat.le_refl _⟩, by repeat (first | exact Drawn0.refl _ | apply Drawn0.step)⟩
                    case rest =>
                      clear HC26
                      try clear c1
                      try clear c2
                      try clear p2
                      try clear c3
                      try clear c3b0
                      try clear c4
                      try clear c4b0
                      try clear p5
                      try clear q5
                      try clear hx5
                      try clear c6
                      try clear p6
                      try clear c9
                      try clear c9b0
                      try clear c11
                      try clear c11b0
                      try clear c12
                      try clear c13
                      try clear c15
                      try clear c15b0
                      try clear c16
                      try clear c18
                      try clear c18b0
                      try clear c18b1
                      try clear c20
                      try clear c20b0
                      try clear c20b1
                      try clear c22
                      try clear c23
                      try clear c24
                      try clear c25
                      try clear c27
                      try clear c27b0
                      try clear p2
                      try clear p5
                      try clear p6
                      try clear q5
                      obtain ⟨kq, x58_25, rfl, HA, HJ25, ⟨mc25, rfl⟩⟩ := hcut
                      cases kq with
                      | zero => exact absurd HA.out (by simp [doormanref02_Long.j3])
                      | succ kj25 =>
                        have H := HA.out
                        clear HA
                        simp only [doormanref02_Long.j3] at H
                        by_cases c28 : x58_25 = true
                        · subst c28
                          have H1 : (if (bt a0 a1) = 240 then ((doormanref02_in.f a0 (wrap64 (a1 + 1)) 144 191).bind fun t106 => (doormanref02_Long.j4 kj25 a0 a1 (bt a0 a1) t106 t102 t103)) else (doormanref02_Long.j4 kj25 a0 a1 (bt a0 a1) t101 t102 t103)) = some r := by rw [if_pos rfl] at H; exact H
                          clear H
                          have H := H1
                          clear H1
                          have HC29 := Aside0.mk H
                          clear H
                          go_upto_if 66 with (fail)
                          go_cut [6] (fun v6 wc => ∃ (kq : Nat) (x6_28 : Bool), v6 = .bool x6_28 ∧ Aside0 (doormanref02_Long.j4 kq a0 a1 (bt a0 a1) x6_28 t102 t103 = some r) ∧ Aside0 (kq ≤ kj25) ∧ Drawn0 w wc)
                          case first =>
                            have H := HC29.out
                            clear HC29
                            by_cases c30 : (bt a0 a1) = 240
                            · rw [if_pos c30] at H
                              have c30b0 : ((bt a0 a1) == 240) = true := beq_iff_eq.mpr c30
                              have c30b1 : ((bt a0 a1) != 240) = false := bne_eq_false_iff_eq.mpr c30
                              clear c30
                              (first | rw [c30b0] | (simp only [i64_w, i32_w]; rw [c30b0]) | skip)
                              replace H := Option.bind_eq_some_iff.mp H
                              obtain ⟨t106, A310, H⟩ := H
                              replace H : (doormanref02_Long.j4 kj25 a0 a1 (bt a0 a1) t106 t102 t103) = some r := H
                              have A31 := Aside0.mk A310
                              clear A310
                              have H' := Aside0.mk H
                              clear H
                              go_wp2_with (first | ((with_reducible refine gate_callee (f := 95) rfl ?_); refine goesL_ (some 70) rfl rfl Tryd.func95 (by kernel_rfl) rfl #[.string a0, .int .i64 (wrap64 (a1 + 1)), .int .u8 144, .int .u8 191] rfl (by (try simp only [List.map_toArray, List.map_cons, List.map_nil]); first | done | rfl | (simp only [List.length_drop, List.length_take]; rfl)) ?_; (with_reducible refine (doormanref02_in.calls a0 (wrap64 (a1 + 1)) 144 191 t106 _ A31.out).mono ?_); rintro e w' ⟨rfl, ⟨nd, rfl⟩⟩; refine ⟨_, rfl, ?_⟩))
                              go_meet
                              case rel => exact ⟨_, (t106), (by first | rfl | (simp; done) | (simp [*]; done)), H', ⟨by have := HJ9.out; have := HJ13.out; have := HJ25.out; first | omega | exact Nat.le_refl _⟩, by repeat (first | exact Drawn0.refl _ | apply Drawn0.step)⟩
                            · rw [if_neg c30] at H
                              have c30b0 : ((bt a0 a1) == 240) = false := beq_eq_false_iff_ne.mpr c30
                              have c30b1 : ((bt a0 a1) != 240) = true := bne_iff_ne.mpr c30
                              (first | rw [c30b0] | (simp only [i64_w, i32_w]; rw [c30b0]) | skip)
                              have H' := Aside0.mk H
                              clear H
                              go_wp2
                              go_meet
                              case rel => exact ⟨_, (t101), (by first | rfl | (simp; done) | (simp [*]; done)), H', ⟨by have := HJ9.out; have := HJ13.out; have := HJ25.out; first | omega | exact Nat.le_refl _⟩, by repeat (first | exact Drawn0.refl _ | apply Drawn0.step)⟩
                          case rest =>
                            clear HC29
                            try clear c1
                            try clear c2
                            try clear p2
                            try clear c3
                            try clear c3b0
                            try clear c4
                            try clear c4b0
                            try clear p5
                            try clear q5
                            try clear hx5
                            try clear c6
                            try clear p6
                            try clear c9
                            try clear c9b0
                            try clear c11
                            try clear c11b0
                            try clear c12
                            try clear c13
                            try clear c15
                            try clear c15b0
                            try clear c16
                            try clear c18
                            try clear c18b0
                            try clear c18b1
                            try clear c20
                            try clear c20b0
                            try clear c20b1
                            try clear c22
                            try clear c23
                            try clear c24
                            try clear c25
                            try clear c27
                            try clear c27b0
                            try clear c28
                            try clear c30
                            try clear c30b0
                            try clear c30b1
                            try clear p2
                            try clear p5
                            try clear p6
                            try clear q5
                            obtain ⟨kq, x6_28, rfl, HA, HJ28, ⟨mc28, rfl⟩⟩ := hcut
                            cases kq with
                            | zero => exact absurd HA.out (by simp [doormanref02_Long.j4])
                            | succ kj28 =>
                              have H := HA.out
                              clear HA
                              simp only [doormanref02_Long.j4] at H
                              by_cases c32 : (bt a0 a1) = 244
                              · rw [if_pos c32] at H
                                have c32b0 : ((bt a0 a1) == 244) = true := beq_iff_eq.mpr c32
                                have c32b1 : ((bt a0 a1) != 244) = false := bne_eq_false_iff_eq.mpr c32
                                clear c32
                                replace H := Option.bind_eq_some_iff.mp H
                                obtain ⟨t107, A330, H⟩ := H
                                replace H : (if t107 = true then (if t102 = true then (if t103 = true then (some 4) else (some 0)) else (some 0)) else (some 0)) = some r := H
                                have A33 := Aside0.mk A330
                                clear A330
                                by_cases c34 : t107 = true
                                · subst c34
                                  have H1 : (if t102 = true then (if t103 = true then (some 4) else (some 0)) else (some 0)) = some r := by rw [if_pos rfl] at H; exact H
                                  clear H
                                  have H := H1
                                  clear H1
                                  by_cases c35 : t102 = true
                                  · subst c35
                                    have H1 : (if t103 = true then (some 4) else (some 0)) = some r := by rw [if_pos rfl] at H; exact H
                                    clear H
                                    have H := H1
                                    clear H1
                                    by_cases c36 : t103 = true
                                    · subst c36
                                      have H1 : (some 4) = some r := by rw [if_pos rfl] at H; exact H
                                      clear H
                                      have H := H1
                                      clear H1
                                      obtain rfl := Option.some.inj H
                                      go_wp2_with (first | ((with_reducible refine gate_callee (f := 95) rfl ?_); refine goesL_ (some 76) rfl rfl Tryd.func95 (by kernel_rfl) rfl #[.string a0, .int .i64 (wrap64 (a1 + 1)), .int .u8 128, .int .u8 143] rfl (by (try simp only [List.map_toArray, List.map_cons, List.map_nil]); first | done | rfl | (simp only [List.length_drop, List.length_take]; rfl)) ?_; (with_reducible refine (doormanref02_in.calls a0 (wrap64 (a1 + 1)) 128 143 true _ A33.out).mono ?_); rintro e w' ⟨rfl, ⟨nd, rfl⟩⟩; refine ⟨_, rfl, ?_⟩))
                                      go_ret
                                      exact ⟨by first | rfl | (simp; done) | (simp [*]; done), by repeat (first | exact Drawn0.refl _ | apply Drawn0.step)⟩
                                    · replace c36 := Bool.eq_false_iff.mpr c36
                                      subst c36
                                      have H1 : (some 0) = some r := by rw [if_neg (show ¬ (false = true) by decide)] at H; exact H
                                      clear H
                                      have H := H1
                                      clear H1
                                      obtain rfl := Option.some.inj H
                                      go_wp2_with (first | ((with_reducible refine gate_callee (f := 95) rfl ?_); refine goesL_ (some 76) rfl rfl Tryd.func95 (by kernel_rfl) rfl #[.string a0, .int .i64 (wrap64 (a1 + 1)), .int .u8 128, .int .u8 143] rfl (by (try simp only [List.map_toArray, List.map_cons, List.map_nil]); first | done | rfl | (simp only [List.length_drop, List.length_take]; rfl)) ?_; (with_reducible refine (doormanref02_in.calls a0 (wrap64 (a1 + 1)) 128 143 true _ A33.out).mono ?_); rintro e w' ⟨rfl, ⟨nd, rfl⟩⟩; refine ⟨_, rfl, ?_⟩))
                                      go_ret
                                      exact ⟨by first | rfl | (simp; done) | (simp [*]; done), by repeat (first | exact Drawn0.refl _ | apply Drawn0.step)⟩
                                  · replace c35 := Bool.eq_false_iff.mpr c35
                                    subst c35
                                    have H1 : (some 0) = some r := by rw [if_neg (show ¬ (false = true) by decide)] at H; exact H
                                    clear H
                                    have H := H1
                                    clear H1
                                    obtain rfl := Option.some.inj H
                                    go_wp2_with (first | ((with_reducible refine gate_callee (f := 95) rfl ?_); refine goesL_ (some 76) rfl rfl Tryd.func95 (by kernel_rfl) rfl #[.string a0, .int .i64 (wrap64 (a1 + 1)), .int .u8 128, .int .u8 143] rfl (by (try simp only [List.map_toArray, List.map_cons, List.map_nil]); first | done | rfl | (simp only [List.length_drop, List.length_take]; rfl)) ?_; (with_reducible refine (doormanref02_in.calls a0 (wrap64 (a1 + 1)) 128 143 true _ A33.out).mono ?_); rintro e w' ⟨rfl, ⟨nd, rfl⟩⟩; refine ⟨_, rfl, ?_⟩))
                                    go_ret
                                    exact ⟨by first | rfl | (simp; done) | (simp [*]; done), by repeat (first | exact Drawn0.refl _ | apply Drawn0.step)⟩
                                · replace c34 := Bool.eq_false_iff.mpr c34
                                  subst c34
                                  have H1 : (some 0) = some r := by rw [if_neg (show ¬ (false = true) by decide)] at H; exact H
                                  clear H
                                  have H := H1
                                  clear H1
                                  obtain rfl := Option.some.inj H
                                  go_wp2_with (first | ((with_reducible refine gate_callee (f := 95) rfl ?_); refine goesL_ (some 76) rfl rfl Tryd.func95 (by kernel_rfl) rfl #[.string a0, .int .i64 (wrap64 (a1 + 1)), .int .u8 128, .int .u8 143] rfl (by (try simp only [List.map_toArray, List.map_cons, List.map_nil]); first | done | rfl | (simp only [List.length_drop, List.length_take]; rfl)) ?_; (with_reducible refine (doormanref02_in.calls a0 (wrap64 (a1 + 1)) 128 143 false _ A33.out).mono ?_); rintro e w' ⟨rfl, ⟨nd, rfl⟩⟩; refine ⟨_, rfl, ?_⟩))
                                  go_ret
                                  exact ⟨by first | rfl | (simp; done) | (simp [*]; done), by repeat (first | exact Drawn0.refl _ | apply Drawn0.step)⟩
                              · rw [if_neg c32] at H
                                have c32b0 : ((bt a0 a1) == 244) = false := beq_eq_false_iff_ne.mpr c32
                                have c32b1 : ((bt a0 a1) != 244) = true := bne_iff_ne.mpr c32
                                by_cases c37 : x6_28 = true
                                · subst c37
                                  have H1 : (if t102 = true then (if t103 = true then (some 4) else (some 0)) else (some 0)) = some r := by rw [if_pos rfl] at H; exact H
                                  clear H
                                  have H := H1
                                  clear H1
                                  by_cases c38 : t102 = true
                                  · subst c38
                                    have H1 : (if t103 = true then (some 4) else (some 0)) = some r := by rw [if_pos rfl] at H; exact H
                                    clear H
                                    have H := H1
                                    clear H1
                                    by_cases c39 : t103 = true
                                    · subst c39
                                      have H1 : (some 4) = some r := by rw [if_pos rfl] at H; exact H
                                      clear H
                                      have H := H1
                                      clear H1
                                      obtain rfl := Option.some.inj H
                                      go_wp2
                                      go_ret
                                      exact ⟨by first | rfl | (simp; done) | (simp [*]; done), by repeat (first | exact Drawn0.refl _ | apply Drawn0.step)⟩
                                    · replace c39 := Bool.eq_false_iff.mpr c39
                                      subst c39
                                      have H1 : (some 0) = some r := by rw [if_neg (show ¬ (false = true) by decide)] at H; exact H
                                      clear H
                                      have H := H1
                                      clear H1
                                      obtain rfl := Option.some.inj H
                                      go_wp2
                                      go_ret
                                      exact ⟨by first | rfl | (simp; done) | (simp [*]; done), by repeat (first | exact Drawn0.refl _ | apply Drawn0.step)⟩
                                  · replace c38 := Bool.eq_false_iff.mpr c38
                                    subst c38
                                    have H1 : (some 0) = some r := by rw [if_neg (show ¬ (false = true) by decide)] at H; exact H
                                    clear H
                                    have H := H1
                                    clear H1
                                    obtain rfl := Option.some.inj H
                                    go_wp2
                                    go_ret
                                    exact ⟨by first | rfl | (simp; done) | (simp [*]; done), by repeat (first | exact Drawn0.refl _ | apply Drawn0.step)⟩
                                · replace c37 := Bool.eq_false_iff.mpr c37
                                  subst c37
                                  have H1 : (some 0) = some r := by rw [if_neg (show ¬ (false = true) by decide)] at H; exact H
                                  clear H
                                  have H := H1
                                  clear H1
                                  obtain rfl := Option.some.inj H
                                  go_wp2
                                  go_ret
                                  exact ⟨by first | rfl | (simp; done) | (simp [*]; done), by repeat (first | exact Drawn0.refl _ | apply Drawn0.step)⟩
                        · replace c28 := Bool.eq_false_iff.mpr c28
                          subst c28
                          have H1 : (some 0) = some r := by rw [if_neg (show ¬ (false = true) by decide)] at H; exact H
                          clear H
                          have H := H1
                          clear H1
                          obtain rfl := Option.some.inj H
                          go_wp2
                          go_ret
                          exact ⟨by first | rfl | (simp; done) | (simp [*]; done), by repeat (first | exact Drawn0.refl _ | apply Drawn0.step)⟩
    · rw [if_neg c4] at H
      exact absurd H (by simp)
  · rw [if_neg c3] at H
    exact absurd H (by simp)

/-! ### doormanref02_Step: function 59 -/
def doormanref02_Step.f (k : Nat) (a0 : ByteArray) (a1 : Int) : Option (Int) := (doormanref02_Long.f k a0 a1).bind fun t108 => (if t108 = 0 then (some (wrap64 (a1 + 1))) else (some (wrap64 (a1 + t108))))
theorem doormanref02_Step.mono : ∀ a0 a1 k, LeO (doormanref02_Step.f k a0 a1) (doormanref02_Step.f (k + 1) a0 a1) := by
  intro a0 a1 k
  unfold doormanref02_Step.f
  repeat' first
      | (with_reducible exact doormanref02_Long.mono _ _ _)
      | (with_reducible exact LeO.refl _)
      | (with_reducible exact LeO.none _)
      | (with_reducible refine LeO.ite ?_ ?_)
      | (with_reducible refine LeO.bind ?_ (fun _ => ?_))
      | exact doormanref02_Long.mono _ _ _
      | exact LeO.none _
      | refine LeO.ite ?_ ?_
      | refine LeO.bind ?_ (fun _ => ?_)
set_option maxHeartbeats 8000000 in
set_option maxRecDepth 100000 in
theorem doormanref02_Step.calls (k : Nat) (a0 : ByteArray) (a1 : Int) (r : Int) (w : World) (h : doormanref02_Step.f k a0 a1 = some r) :
    Calls Tryd.prog 59 #[.string a0, .int .i64 a1] w fun e w' => e = .returned (.int .i64 r) ∧ Drawn0 w w' := by
  have H : ((doormanref02_Long.f k a0 a1).bind fun t108 => (if t108 = 0 then (some (wrap64 (a1 + 1))) else (some (wrap64 (a1 + t108))))) = some r := h
  clear h
  replace H := Option.bind_eq_some_iff.mp H
  obtain ⟨t108, A30, H⟩ := H
  replace H : (if t108 = 0 then (some (wrap64 (a1 + 1))) else (some (wrap64 (a1 + t108)))) = some r := H
  have A3 := Aside0.mk A30
  clear A30
  by_cases c4 : t108 = 0
  · rw [if_pos c4] at H
    have c4b0 : (t108 == 0) = true := beq_iff_eq.mpr c4
    have c4b1 : (t108 != 0) = false := bne_eq_false_iff_eq.mpr c4
    clear c4
    obtain rfl := Option.some.inj H
    go_enter Tryd.func59, Tryd.ntmps59
    go_wp2_with (first | ((with_reducible refine gate_callee (f := 60) rfl ?_); refine goesL_ (some 8) rfl rfl Tryd.func60 (by kernel_rfl) rfl #[.string a0, .int .i64 a1] rfl (by (try simp only [List.map_toArray, List.map_cons, List.map_nil]); first | done | rfl | (simp only [List.length_drop, List.length_take]; rfl)) ?_; (with_reducible refine (doormanref02_Long.calls k a0 a1 t108 _ A3.out).mono ?_); rintro e w' ⟨rfl, ⟨nd, rfl⟩⟩; refine ⟨_, rfl, ?_⟩))
    go_ret
    exact ⟨by first | rfl | (simp; done) | (simp [*]; done), by repeat (first | exact Drawn0.refl _ | apply Drawn0.step)⟩
  · rw [if_neg c4] at H
    have c4b0 : (t108 == 0) = false := beq_eq_false_iff_ne.mpr c4
    have c4b1 : (t108 != 0) = true := bne_iff_ne.mpr c4
    obtain rfl := Option.some.inj H
    go_enter Tryd.func59, Tryd.ntmps59
    go_wp2_with (first | ((with_reducible refine gate_callee (f := 60) rfl ?_); refine goesL_ (some 8) rfl rfl Tryd.func60 (by kernel_rfl) rfl #[.string a0, .int .i64 a1] rfl (by (try simp only [List.map_toArray, List.map_cons, List.map_nil]); first | done | rfl | (simp only [List.length_drop, List.length_take]; rfl)) ?_; (with_reducible refine (doormanref02_Long.calls k a0 a1 t108 _ A3.out).mono ?_); rintro e w' ⟨rfl, ⟨nd, rfl⟩⟩; refine ⟨_, rfl, ?_⟩))
    go_ret
    exact ⟨by first | rfl | (simp; done) | (simp [*]; done), by repeat (first | exact Drawn0.refl _ | apply Drawn0.step)⟩

end Go.Proofs.YtkgnhghaiopgcaaDoor.Nq
