-- Written by a program of this session (wip/tools/drive.py) for this seat, partly by the kit's print.py; some functions by hand.
import Derived.Test.YthpcplpannbipaaY0
import Derived.Test.YthpcplpannbipaaY2
import Derived.Test.YthpcplpannbipaaY4
import Derived.Test.YthpcplpannbipaaY5
namespace Go.Proofs.Ythpcplpannbipaa.Y
open Go.RowKit Go.Proofs.YthpcplpannbipaaW.PrintWords Go.Proofs.YthpcplpannbipaaW.PrintLast Go.Proofs.YthpcplpannbipaaW.PrintMore
attribute [local go_sem] max2_int min2_int max_two min_two max_three min_three max_four min_four   -- for this text's walks alone
open Go.Proofs.Ythpcplpannbipaa.Kx
set_option linter.unusedVariables false
set_option linter.unusedSimpArgs false

/-! ### doormanlaw13_MatchSets: function 6 -/
mutual
def doormanlaw13_MatchSets.l0 : Nat → List ByteArray → ByteArray → List ByteArray → Int → Option (Bool)
  | 0, _, _, _, _ => none
  | k + 1, x0, x1, x6, x7 => if x7 ≥ 0 then (if 0 ≤ x7 then (if x7 < (x0.length : Int) then ((some (([rdOf ByteArray.empty x0 x7, rdOf ByteArray.empty x0 x7] : List ByteArray) : List ByteArray)).bind fun y195 => (if x6.length + y195.length < 8796093022208 then (doormanlaw13_MatchSets.l0 k x0 x1 (x6 ++ y195) (wrap64 (x7 - 1))) else (none))) else (none)) else (none)) else ((match_Of.f x0).bind fun t201 => ((match_Of.f x6).bind fun t204 => (doormanlaw13_MatchSets.l1 k x0 x1 t201 t204 false 0)))
def doormanlaw13_MatchSets.l1 : Nat → List ByteArray → ByteArray → List ByteArray → List ByteArray → Bool → Int → Option (Bool)
  | 0, _, _, _, _, _, _ => none
  | k + 1, x0, x1, x8, x9, x10, x11 => if x11 < (x0.length : Int) then (if x10 = true then (if 0 ≤ x11 then ((match_Set_Has.f k x8 (rdOf ByteArray.empty x0 x11)).bind fun t208 => (if t208 = true then (doormanlaw13_MatchSets.l1 k x0 x1 x8 x9 true (wrap64 (x11 + 1))) else (some false))) else (none)) else (if 0 ≤ x11 then ((match_Set_Has.f k x8 (rdOf ByteArray.empty x0 x11)).bind fun t211 => (if t211 = true then (doormanlaw13_MatchSets.l1 k x0 x1 x8 x9 ((rdOf ByteArray.empty x0 x11).toList == x1.toList) (wrap64 (x11 + 1))) else (some false))) else (none))) else (doormanlaw13_MatchSets.l2 k x1 x8 x9 x10 1)
def doormanlaw13_MatchSets.l2 : Nat → ByteArray → List ByteArray → List ByteArray → Bool → Int → Option (Bool)
  | 0, _, _, _, _, _ => none
  | k + 1, x1, x8, x9, x10, x12 => if x12 < (x8.length : Int) then (if 0 ≤ (wrap64 (x12 - 1)) then (if (wrap64 (x12 - 1)) < (x8.length : Int) then (if 0 ≤ x12 then (if ((Op.bytesLess ((rdOf ByteArray.empty x8 (wrap64 (x12 - 1))).toList) ((rdOf ByteArray.empty x8 x12).toList)) = true) then (doormanlaw13_MatchSets.l2 k x1 x8 x9 x10 (wrap64 (x12 + 1))) else (some false)) else (none)) else (none)) else (none)) else ((doormanlaw13_same.f k x8 x9).bind fun t214 => (if t214 = true then ((match_Set_Has.f k x8 x1).bind fun t215 => (if (t215 == x10) = true then ((match_Set_Diff.f k x8 x9).bind fun t216 => (if (t216.length : Int) = 0 then ((match_Of.f x8).bind fun t219 => (some ((t219.length : Int) == (x8.length : Int)))) else (some false))) else (some false))) else (some false)))
end
def doormanlaw13_MatchSets.f (k : Nat) (l0 : List ByteArray) (a1 : ByteArray) : Option (Bool) := (doormanlaw13_awake.f k).bind fun t192 => (if t192 = true then (if (l0.length : Int) > 60 then (some true) else (doormanlaw13_MatchSets.l0 k l0 a1 ([] : List ByteArray) (wrap64 ((l0.length : Int) - 1)))) else (some false))
theorem doormanlaw13_MatchSets.mono_l : ∀ k, (∀ y0 y1 y2 y3, LeO (doormanlaw13_MatchSets.l0 k y0 y1 y2 y3) (doormanlaw13_MatchSets.l0 (k + 1) y0 y1 y2 y3)) ∧ (∀ y0 y1 y2 y3 y4 y5, LeO (doormanlaw13_MatchSets.l1 k y0 y1 y2 y3 y4 y5) (doormanlaw13_MatchSets.l1 (k + 1) y0 y1 y2 y3 y4 y5)) ∧ (∀ y0 y1 y2 y3 y4, LeO (doormanlaw13_MatchSets.l2 k y0 y1 y2 y3 y4) (doormanlaw13_MatchSets.l2 (k + 1) y0 y1 y2 y3 y4))
  | 0 => ⟨fun _ _ _ _ r h => by simp [doormanlaw13_MatchSets.l0] at h, fun _ _ _ _ _ _ r h => by simp [doormanlaw13_MatchSets.l1] at h, fun _ _ _ _ _ r h => by simp [doormanlaw13_MatchSets.l2] at h⟩
  | k + 1 => by
    obtain ⟨ih0, ih1, ih2⟩ := doormanlaw13_MatchSets.mono_l k
    refine ⟨?_, ?_, ?_⟩
    · intro y0 y1 y2 y3
      unfold doormanlaw13_MatchSets.l0
      repeat' first
      | (with_reducible exact ih0 _ _ _ _)
      | (with_reducible exact ih1 _ _ _ _ _ _)
      | (with_reducible exact ih2 _ _ _ _ _)
      | (with_reducible exact doormanlaw13_awake.mono _)
      | (with_reducible exact doormanlaw13_same.mono _ _ _)
      | (with_reducible exact match_Set_Diff.mono _ _ _)
      | (with_reducible exact match_Set_Has.mono _ _ _)
      | (with_reducible exact LeO.refl _)
      | (with_reducible exact LeO.none _)
      | (with_reducible refine LeO.ite ?_ ?_)
      | (with_reducible refine LeO.bind ?_ (fun _ => ?_))
      | exact ih0 _ _ _ _
      | exact ih1 _ _ _ _ _ _
      | exact ih2 _ _ _ _ _
      | exact doormanlaw13_awake.mono _
      | exact doormanlaw13_same.mono _ _ _
      | exact match_Set_Diff.mono _ _ _
      | exact match_Set_Has.mono _ _ _
      | exact LeO.none _
      | refine LeO.ite ?_ ?_
      | refine LeO.bind ?_ (fun _ => ?_)
    · intro y0 y1 y2 y3 y4 y5
      unfold doormanlaw13_MatchSets.l1
      repeat' first
      | (with_reducible exact ih0 _ _ _ _)
      | (with_reducible exact ih1 _ _ _ _ _ _)
      | (with_reducible exact ih2 _ _ _ _ _)
      | (with_reducible exact doormanlaw13_awake.mono _)
      | (with_reducible exact doormanlaw13_same.mono _ _ _)
      | (with_reducible exact match_Set_Diff.mono _ _ _)
      | (with_reducible exact match_Set_Has.mono _ _ _)
      | (with_reducible exact LeO.refl _)
      | (with_reducible exact LeO.none _)
      | (with_reducible refine LeO.ite ?_ ?_)
      | (with_reducible refine LeO.bind ?_ (fun _ => ?_))
      | exact ih0 _ _ _ _
      | exact ih1 _ _ _ _ _ _
      | exact ih2 _ _ _ _ _
      | exact doormanlaw13_awake.mono _
      | exact doormanlaw13_same.mono _ _ _
      | exact match_Set_Diff.mono _ _ _
      | exact match_Set_Has.mono _ _ _
      | exact LeO.none _
      | refine LeO.ite ?_ ?_
      | refine LeO.bind ?_ (fun _ => ?_)
    · intro y0 y1 y2 y3 y4
      unfold doormanlaw13_MatchSets.l2
      repeat' first
      | (with_reducible exact ih0 _ _ _ _)
      | (with_reducible exact ih1 _ _ _ _ _ _)
      | (with_reducible exact ih2 _ _ _ _ _)
      | (with_reducible exact doormanlaw13_awake.mono _)
      | (with_reducible exact doormanlaw13_same.mono _ _ _)
      | (with_reducible exact match_Set_Diff.mono _ _ _)
      | (with_reducible exact match_Set_Has.mono _ _ _)
      | (with_reducible exact LeO.refl _)
      | (with_reducible exact LeO.none _)
      | (with_reducible refine LeO.ite ?_ ?_)
      | (with_reducible refine LeO.bind ?_ (fun _ => ?_))
      | exact ih0 _ _ _ _
      | exact ih1 _ _ _ _ _ _
      | exact ih2 _ _ _ _ _
      | exact doormanlaw13_awake.mono _
      | exact doormanlaw13_same.mono _ _ _
      | exact match_Set_Diff.mono _ _ _
      | exact match_Set_Has.mono _ _ _
      | exact LeO.none _
      | refine LeO.ite ?_ ?_
      | refine LeO.bind ?_ (fun _ => ?_)
theorem doormanlaw13_MatchSets.mono : ∀ a0 a1 k, LeO (doormanlaw13_MatchSets.f k a0 a1) (doormanlaw13_MatchSets.f (k + 1) a0 a1) := by
  intro a0 a1 k
  obtain ⟨ih0, ih1, ih2⟩ := doormanlaw13_MatchSets.mono_l k
  unfold doormanlaw13_MatchSets.f
  repeat' first
      | (with_reducible exact ih0 _ _ _ _)
      | (with_reducible exact ih1 _ _ _ _ _ _)
      | (with_reducible exact ih2 _ _ _ _ _)
      | (with_reducible exact doormanlaw13_awake.mono _)
      | (with_reducible exact doormanlaw13_same.mono _ _ _)
      | (with_reducible exact match_Set_Diff.mono _ _ _)
      | (with_reducible exact match_Set_Has.mono _ _ _)
      | (with_reducible exact LeO.refl _)
      | (with_reducible exact LeO.none _)
      | (with_reducible refine LeO.ite ?_ ?_)
      | (with_reducible refine LeO.bind ?_ (fun _ => ?_))
      | exact ih0 _ _ _ _
      | exact ih1 _ _ _ _ _ _
      | exact ih2 _ _ _ _ _
      | exact doormanlaw13_awake.mono _
      | exact doormanlaw13_same.mono _ _ _
      | exact match_Set_Diff.mono _ _ _
      | exact match_Set_Has.mono _ _ _
      | exact LeO.none _
      | refine LeO.ite ?_ ?_
      | refine LeO.bind ?_ (fun _ => ?_)
def doormanlaw13_MatchSets.T10 : Bool × List (List Nat × List Nat) := (true, [([], []), ([], []), ([], []), ([1, 2], [1, 2]), ([3], [3]), ([], []), ([], []), ([5, 6], [5, 6]), ([7], [7]), ([4, 8], [4, 8]), ([0, 9], [0, 9]), ([10, 10, 0, 1, 2, 3, 4, 5, 6, 7, 8, 9, 10], [0, 10])])
def doormanlaw13_MatchSets.B10 : List Nat := [0, 0, 0, 6, 14, 0, 0, 96, 224, 510, 1023, 2047]
theorem doormanlaw13_MatchSets.tab10 : rtab .any (opsOf Try.f6 10) = doormanlaw13_MatchSets.T10 := by kernel_rfl
theorem doormanlaw13_MatchSets.bits10 : waitsOk doormanlaw13_MatchSets.T10.2 doormanlaw13_MatchSets.B10 = true := by kernel_rfl
def doormanlaw13_MatchSets.T23 : Bool × List (List Nat × List Nat) := (true, [([], []), ([], []), ([1], [1]), ([0, 2], [0, 2]), ([3], [3]), ([], []), ([], []), ([5, 6], [5, 6]), ([7], [7]), ([4, 8], [4, 8])])
def doormanlaw13_MatchSets.B23 : List Nat := [0, 0, 2, 7, 15, 0, 0, 96, 224, 511]
theorem doormanlaw13_MatchSets.tab23 : rtab .any (opsOf Try.f6 23) = doormanlaw13_MatchSets.T23 := by kernel_rfl
theorem doormanlaw13_MatchSets.bits23 : waitsOk doormanlaw13_MatchSets.T23.2 doormanlaw13_MatchSets.B23 = true := by kernel_rfl
set_option maxHeartbeats 8000000 in
set_option maxRecDepth 100000 in
theorem doormanlaw13_MatchSets.calls (k : Nat) (A0 : Option Addr) (c0 : Nat) (l0 : List ByteArray) (a1 : ByteArray) (r : Bool) (w : World) (hr0 : Kd.C Kd.string w A0 l0.length l0) (hc0 : l0.length ≤ c0) (h : doormanlaw13_MatchSets.f k l0 a1 = some r) :
    Calls Try.prog 6 #[.slice A0 l0.length c0, .string a1] w fun e w' => e = .returned (.bool r) ∧ Below w.heap.size w w' := by
  have HR0 := Aside0.mk hr0
  have HC0 := Aside0.mk hc0
  clear hr0 hc0
  have HB := Aside0.mk (Below.refl w.heap.size w)
  have H : ((doormanlaw13_awake.f k).bind fun t192 => (if t192 = true then (if (l0.length : Int) > 60 then (some true) else (doormanlaw13_MatchSets.l0 k l0 a1 ([] : List ByteArray) (wrap64 ((l0.length : Int) - 1)))) else (some false))) = some r := h
  clear h
  replace H := Option.bind_eq_some_iff.mp H
  obtain ⟨t192, A30, H⟩ := H
  replace H : (if t192 = true then (if (l0.length : Int) > 60 then (some true) else (doormanlaw13_MatchSets.l0 k l0 a1 ([] : List ByteArray) (wrap64 ((l0.length : Int) - 1)))) else (some false)) = some r := H
  have A3 := Aside0.mk A30
  clear A30
  by_cases c4 : t192 = true
  · subst c4
    have H1 : (if (l0.length : Int) > 60 then (some true) else (doormanlaw13_MatchSets.l0 k l0 a1 ([] : List ByteArray) (wrap64 ((l0.length : Int) - 1)))) = some r := by rw [if_pos rfl] at H; exact H
    clear H
    have H := H1
    clear H1
    by_cases c5 : (l0.length : Int) > 60
    · rw [if_pos c5] at H
      have c5b0 : decide (60 < (l0.length : Int)) = true := decide_eq_true c5
      have c5b1 : decide (60 < l0.length) = true := decide_eq_true (by omega)
      clear c5
      obtain rfl := Option.some.inj H
      go_enter Try.func6, Try.ntmps6
      go_wp2_with (first | ((with_reducible refine gate_callee (f := 13) rfl ?_); refine goesL_ (some 13) rfl rfl Try.func13 (by kernel_rfl) rfl #[] rfl (by (try simp only [List.map_toArray, List.map_cons, List.map_nil]); first | done | rfl | (simp only [List.length_drop, List.length_take]; rfl)) ?_; (with_reducible refine (doormanlaw13_awake.calls k  true _ A3.out).mono ?_); rintro e w6 ⟨rfl, hb⟩; refine ⟨_, rfl, ?_⟩; have n0_ := Aside0.mk (below_step (by repeat (first | (with_reducible first | exact HB.out | apply below_alloc | apply pw_below_drewN | apply below_drew1) | exact HB.out)) hb); clear HB; have HB := n0_; clear n0_; (try clear hb); (try clear hb2); (try clear hk); (try clear hi)))
      go_ret
      exact ⟨by first | rfl | (simp [errW_none, errW_some] <;> rfl) | (simp [*, errW_none, errW_some] <;> rfl), by repeat (first | (with_reducible first | exact HB.out | apply below_alloc | apply pw_below_drewN | apply below_drew1) | exact HB.out)⟩
    · rw [if_neg c5] at H
      have c5b0 : decide (60 < (l0.length : Int)) = false := decide_eq_false c5
      have c5b1 : decide (60 < l0.length) = false := decide_eq_false (by omega)
      clear c5
      have H' := Aside0.mk H
      clear H
      go_enter Try.func6, Try.ntmps6
      go_wp2_with (first | ((with_reducible refine gate_callee (f := 13) rfl ?_); refine goesL_ (some 13) rfl rfl Try.func13 (by kernel_rfl) rfl #[] rfl (by (try simp only [List.map_toArray, List.map_cons, List.map_nil]); first | done | rfl | (simp only [List.length_drop, List.length_take]; rfl)) ?_; (with_reducible refine (doormanlaw13_awake.calls k  true _ A3.out).mono ?_); rintro e w7 ⟨rfl, hb⟩; refine ⟨_, rfl, ?_⟩; have n0_ := Aside0.mk (below_step (by repeat (first | (with_reducible first | exact HB.out | apply below_alloc | apply pw_below_drewN | apply below_drew1) | exact HB.out)) hb); clear HB; have HB := n0_; clear n0_; (try clear hb); (try clear hb2); (try clear hk); (try clear hi)))
      go_loopg [6, 7] k (fun kq v6 v7 w' => ∃ (x6_1 : List ByteArray) (x7_1 : Int), v7 = .int .i64 x7_1 ∧ Aside0 (doormanlaw13_MatchSets.l0 kq l0 a1 x6_1 x7_1 = some r) ∧ Aside0 (kq ≤ k) ∧ Aside0 (Kd.R Kd.string 9 w' w.heap.size (fun _ => True) v6 x6_1) ∧ Aside0 (Below w.heap.size w w'))
      case atStart => exact ⟨(([] : List ByteArray)), (wrap64 ((l0.length : Int) - 1)), (by first | rfl | (simp; done) | (simp [*]; done)), H', ⟨Nat.le_refl _⟩, ⟨by first | exact Kd.R_nil _ _ _ _ _ | exact Kd.N_nil _ _ _ _ _ | exact Kd.V_nil _ _ _ _ _ | exact Kd.Q_nil _ _ _ _ _ | exact Kd.S_nil _ _ _ _ _⟩, ⟨by repeat (first | (with_reducible first | exact HB.out | apply below_alloc | apply pw_below_drewN | apply below_drew1) | exact HB.out)⟩⟩
      case round =>
        clear H'
        try clear c1
        try clear p2
        try clear c4
        try clear c5
        try clear c5b0
        try clear c5b1
        try clear c6
        try clear p6
        obtain ⟨x6_1, x7_1, rfl, HA, HK1, HO_6, HB⟩ := hrel
        cases gk with
        | zero => exact absurd HA.out (by simp [doormanlaw13_MatchSets.l0])
        | succ k1 =>
          have H := HA.out
          clear HA
          simp only [doormanlaw13_MatchSets.l0] at H
          by_cases c8 : x7_1 ≥ 0
          · rw [if_pos c8] at H
            have c8b0 : decide (0 ≤ x7_1) = true := decide_eq_true c8
            clear c8
            by_cases c9 : 0 ≤ x7_1
            · rw [if_pos c9] at H
              have c9b0 : decide (0 ≤ x7_1) = true := decide_eq_true c9
              clear c9
              by_cases c10 : x7_1 < (l0.length : Int)
              · rw [if_pos c10] at H
                have c10b0 : decide (x7_1 < (l0.length : Int)) = true := decide_eq_true c10
                clear c10
                obtain ⟨y195, hy195⟩ : ∃ y_ : List ByteArray, y_ = (([rdOf ByteArray.empty l0 x7_1, rdOf ByteArray.empty l0 x7_1] : List ByteArray)) := ⟨_, rfl⟩
                replace H : (if x6_1.length + y195.length < 8796093022208 then (doormanlaw13_MatchSets.l0 k1 l0 a1 (x6_1 ++ y195) (wrap64 (x7_1 - 1))) else (none)) = some r := by first | (rw [hy195]; with_reducible exact H) | (have H2_ := (Option.bind_some _ _).symm.trans H; rw [hy195]; with_reducible exact H2_) | (have H2_ := (Option.bind_some _ _).symm.trans H; with_reducible exact H2_) | with_reducible exact H | (rw [hy195]; exact H) | exact H
                have Ny195 := Aside0.mk hy195
                clear hy195
                by_cases c11 : x6_1.length + y195.length < 8796093022208
                · rw [if_pos c11] at H
                  have LMc11 := Aside0.mk c11
                  clear c11
                  obtain ⟨y198, hy198⟩ : ∃ y_ : List ByteArray, y_ = (x6_1 ++ y195) := ⟨_, rfl⟩
                  replace H : (doormanlaw13_MatchSets.l0 k1 l0 a1 y198 (wrap64 (x7_1 - 1))) = some r := by first | (rw [hy198]; with_reducible exact H) | (have H2_ := (Option.bind_some _ _).symm.trans H; rw [hy198]; with_reducible exact H2_) | (have H2_ := (Option.bind_some _ _).symm.trans H; with_reducible exact H2_) | with_reducible exact H | (rw [hy198]; exact H) | exact H
                  have Ny198 := Aside0.mk hy198
                  clear hy198
                  have H' := Aside0.mk H
                  clear H
                  try go_wp2
                  have n0_ := Aside0.mk (Kd.R_drew HO_6.out)
                  have n1_ := Aside0.mk (below_drew1 HB.out)
                  clear HO_6
                  clear HB
                  have HO_6 := n0_
                  have HB := n1_
                  clear n0_ n1_
                  have p193 : 0 ≤ (x7_1 : Int) := of_decide_eq_true (by first | (with_reducible assumption) | assumption)
                  have q193 : x7_1 < (l0.length : Int) := of_decide_eq_true (by first | (with_reducible assumption) | assumption)
                  obtain ⟨ad193, e193, hx193_0⟩ := Kd.at_string HR0.out x7_1 p193 q193
                  have hw193_0 := hx193_0
                  cases e193
                  try replace hx193_0 := (HB.out.cell (World.block_lt_of_cell? w _ hx193_0)).trans hx193_0
                  replace p193 := eq_true p193
                  replace q193 := eq_true q193
                  have p194 : 0 ≤ (x7_1 : Int) := of_decide_eq_true (by first | (with_reducible assumption) | assumption)
                  have q194 : x7_1 < (l0.length : Int) := of_decide_eq_true (by first | (with_reducible assumption) | assumption)
                  obtain ⟨ad194, e194, hx194_0⟩ := Kd.at_string HR0.out x7_1 p194 q194
                  have hw194_0 := hx194_0
                  obtain rfl : ad193 = ad194 := (by injection e194)
                  try replace hx194_0 := (HB.out.cell (World.block_lt_of_cell? w _ hx194_0)).trans hx194_0
                  replace p194 := eq_true p194
                  replace q194 := eq_true q194
                  refine start_ (n := 12) (S := fun w' => w'.cell? (ad193.add (x7_1).toNat) = some (.string (rdOf ByteArray.empty l0 x7_1)) ∧ w'.cell? (ad193.add (x7_1).toNat) = some (.string (rdOf ByteArray.empty l0 x7_1))) (ds := []) #[false, false, false, false, false, false, false, false, false, false, false, false] (by kernel_rfl) rfl rfl ⟨((HB.out.cell (World.block_lt_of_cell? w _ hw193_0)).trans hw193_0), ((HB.out.cell (World.block_lt_of_cell? w _ hw194_0)).trans hw194_0)⟩ (fun hHeld => ?_); refine with_tabW doormanlaw13_MatchSets.tab10 doormanlaw13_MatchSets.bits10 (fun HT_ HW_ => ?_)
                  generalize wr.drew = w12 at HO_6 HB hx193_0 hx194_0 hHeld ⊢
                  refine pure_ (i := 0) (N := some 26) (v := ?_) (a' := ?_) #[true, false, false, false, false, false, false, false, false, false, false, false] rfl rfl (any_of HT_.out (by kernel_rfl)) (fun _ _ _ h => h) (Or.inl ⟨by rfl, ?_⟩) ?_ ?_
                  rotate_left
                  · intro w'
                    go_simp
                    with_reducible rfl
                  rotate_left
                  · simp only [Act.put, List.setIfInBounds_toArray, List.set_cons_zero, List.set_cons_succ, i64_w, i32_w]
                    rfl
                  refine pure_ (i := 1) (N := some 27) (v := ?_) (a' := ?_) #[true, true, false, false, false, false, false, false, false, false, false, false] rfl rfl (any_of HT_.out (by kernel_rfl)) (fun _ _ _ h => h) (Or.inl ⟨by rfl, ?_⟩) ?_ ?_
                  rotate_left
                  · intro w'
                    go_simp
                    with_reducible rfl
                  rotate_left
                  · simp only [Act.put, List.setIfInBounds_toArray, List.set_cons_zero, List.set_cons_succ, i64_w, i32_w]
                    rfl
                  refine pure_ (i := 2) (N := some 28) (v := ?_) (a' := ?_) #[true, true, true, false, false, false, false, false, false, false, false, false] rfl rfl (any_of HT_.out (by kernel_rfl)) (fun _ _ _ h => h) (Or.inl ⟨by rfl, ?_⟩) ?_ ?_
                  rotate_left
                  · intro w'
                    go_simp
                    with_reducible rfl
                  rotate_left
                  · simp only [Act.put, List.setIfInBounds_toArray, List.set_cons_zero, List.set_cons_succ, i64_w, i32_w]
                    rfl
                  refine pure_ (i := 3) (N := some 29) (v := ?_) (a' := ?_) #[true, true, true, true, false, false, false, false, false, false, false, false] rfl rfl (any_of HT_.out (by kernel_rfl)) (fun _ _ _ h => h) (Or.inl ⟨by rfl, ?_⟩) ?_ ?_
                  rotate_left
                  · intro w'
                    go_simp
                    with_reducible rfl
                  rotate_left
                  · simp only [Act.put, List.setIfInBounds_toArray, List.set_cons_zero, List.set_cons_succ, i64_w, i32_w]
                    rfl
                  refine pure_ (i := 5) (N := some 31) (v := ?_) (a' := ?_) #[true, true, true, true, false, true, false, false, false, false, false, false] rfl rfl (any_of HT_.out (by kernel_rfl)) (fun _ _ _ h => h) (Or.inl ⟨by rfl, ?_⟩) ?_ ?_
                  rotate_left
                  · intro w'
                    go_simp
                    with_reducible rfl
                  rotate_left
                  · simp only [Act.put, List.setIfInBounds_toArray, List.set_cons_zero, List.set_cons_succ, i64_w, i32_w]
                    rfl
                  refine pure_ (i := 6) (N := some 32) (v := ?_) (a' := ?_) #[true, true, true, true, false, true, true, false, false, false, false, false] rfl rfl (any_of HT_.out (by kernel_rfl)) (fun _ _ _ h => h) (Or.inl ⟨by rfl, ?_⟩) ?_ ?_
                  rotate_left
                  · intro w'
                    go_simp
                    with_reducible rfl
                  rotate_left
                  · simp only [Act.put, List.setIfInBounds_toArray, List.set_cons_zero, List.set_cons_succ, i64_w, i32_w]
                    rfl
                  refine pure_ (i := 7) (N := some 33) (v := ?_) (a' := ?_) #[true, true, true, true, false, true, true, true, false, false, false, false] rfl rfl (any_of HT_.out (by kernel_rfl)) (fun _ _ _ h => h) (Or.inl ⟨by rfl, ?_⟩) ?_ ?_
                  rotate_left
                  · intro w'
                    go_simp
                    with_reducible rfl
                  rotate_left
                  · simp only [Act.put, List.setIfInBounds_toArray, List.set_cons_zero, List.set_cons_succ, i64_w, i32_w]
                    rfl
                  refine take_ (i := 4) (N := some 30) (v := ?_) (a' := ?_) #[true, true, true, true, true, true, true, true, false, false, false, false] rfl rfl (take_ofW HT_.out HW_.out (by kernel_rfl)) (fun _ _ _ h => h) (Or.inl ⟨by rfl, ?_⟩) hHeld ?_ ?_
                  rotate_left
                  · rintro w' ⟨s0, s1⟩
                    go_simp
                    with_reducible rfl
                  rotate_left
                  · simp only [Act.put, List.setIfInBounds_toArray, List.set_cons_zero, List.set_cons_succ, i64_w, i32_w]
                    rfl
                  refine take_ (i := 8) (N := some 34) (v := ?_) (a' := ?_) #[true, true, true, true, true, true, true, true, true, false, false, false] rfl rfl (take_ofW HT_.out HW_.out (by kernel_rfl)) (fun _ _ _ h => h) (Or.inl ⟨by rfl, ?_⟩) hHeld ?_ ?_
                  rotate_left
                  · rintro w' ⟨s0, s1⟩
                    go_simp
                    with_reducible rfl
                  rotate_left
                  · simp only [Act.put, List.setIfInBounds_toArray, List.set_cons_zero, List.set_cons_succ, i64_w, i32_w]
                    rfl
                  refine one_ (i := 9) (N := some 35) #[true, true, true, true, true, true, true, true, true, true, false, false] rfl rfl (one_of HT_.out (by kernel_rfl)) (by decide) (fun K hK => ?_)
                  refine Kd.R_lit_step Kd.string _ 9 ?hg (N := 35) ?hd (xs := ([rdOf ByteArray.empty l0 x7_1, rdOf ByteArray.empty l0 x7_1] : List ByteArray)) (inner := [.string (rdOf ByteArray.empty l0 x7_1), .string (rdOf ByteArray.empty l0 x7_1)]) (ok := fun _ => True) (okp := fun _ => True) ?hr ?hp (fun _ hk => hk) trivial (Below.refl _ _) (Nat.le_refl _) (by simp) ?_; (case hd => rfl); (case hg => rfl); (case hr => first | (go_simp; done) | (go_simp; rfl)); (case hp => exact (Reps.one (show Kd.M Kd.string _ _ _ (rdOf ByteArray.empty l0 x7_1) [.string (rdOf ByteArray.empty l0 x7_1)] from rfl) (Reps.one (show Kd.M Kd.string _ _ _ (rdOf ByteArray.empty l0 x7_1) [.string (rdOf ByteArray.empty l0 x7_1)] from rfl) (Reps.none _ _))))
                  intro v196 w13 ho14 hb hg_ hnew_
                  clear hg_ hnew_
                  (first | rw [← Ny195.out] at ho14 | (simp only [Int.reduceToNat] at ho14; rw [← Ny195.out] at ho14))
                  have n0_ := Aside0.mk (Kd.R_elder' (by (with_reducible repeat (first | apply Kd.R_alloc | apply Kd.R_drewN | apply Kd.R_drew)); exact HO_6.out) (Kd.R_base ho14) hb)
                  have n1_ := Aside0.mk (Kd.R_lower (Kd.R_new' ho14 (Kd.R_lt (by (with_reducible repeat (first | apply Kd.R_alloc | apply Kd.R_drewN | apply Kd.R_drew)); exact HO_6.out))) (below_size (by repeat (first | (with_reducible first | exact HB.out | apply below_alloc | apply pw_below_drewN | apply below_drew1) | exact HB.out))))
                  have n2_ := Aside0.mk (below_step (by repeat (first | (with_reducible first | exact HB.out | apply below_alloc | apply pw_below_drewN | apply below_drew1) | exact HB.out)) hb)
                  clear HO_6
                  clear HB
                  have HO_6 := n0_
                  have HO197 := n1_
                  have HB := n2_
                  clear n0_ n1_ n2_
                  clear hb ho14
                  obtain ⟨Ao16, co16, eo16⟩ := Kd.R_slice HO197.out
                  (first | subst eo16 | (injection eo16 with f1_ f2_ f3_; have f4_ := f1_.symm; have f5_ := f3_.symm; clear f1_ f2_ f3_; subst f4_; subst f5_))
                  refine hK.out _ _ ⟨((HB.out.cell (World.block_lt_of_cell? w _ hw193_0)).trans hw193_0), ((HB.out.cell (World.block_lt_of_cell? w _ hw194_0)).trans hw194_0)⟩ (fun hHeld => ?_)
                  clear hK K
                  refine norm_ (a' := ?_) ?_ ?_
                  rotate_left
                  · show Act.put _ (some 35) _ = _
                    simp only [Act.put, List.setIfInBounds_toArray, List.set_cons_zero, List.set_cons_succ, i64_w, i32_w]
                    rfl
                  refine one_ (i := 10) (N := some 36) #[true, true, true, true, true, true, true, true, true, true, true, false] rfl rfl (one_of HT_.out (by kernel_rfl)) (by decide) (fun K hK => ?_)
                  refine Kd.R_append_rows_step Kd.string (w0 := w) w.heap.size (by rfl) (.tmp 26) (.tmp 35) 22 9 (.string ⟨#[]⟩) 16 rfl Try.underlying22 info9 rfl (by decide) (by omega) u6 x6_1 y195 _ _ _ (fun k_ => some k_ ≠ (.slice Ao16 y195.length co16 : Value).ownBlock) (fun _ => False) rfl rfl ?aO ?aR (fun _ _ h => h) (fun _ h => h.elim) ?aF ?aB ?aS ?aL ?_
                  (case aR => repeat (first | exact (Kd.R_reads' HO197.out).2.2 | (with_reducible refine Kd.C_alloc ?_ _) | (with_reducible refine Kd.C_drewN ?_ _) | (with_reducible refine Kd.C_drew ?_)))
                  (case aB => exact (by repeat (first | (with_reducible first | exact HB.out | apply below_alloc | apply pw_below_drewN | apply below_drew1) | exact HB.out)))
                  (case aF => exact (fun k_ hk => Kd.fresh' (Kd.R_lt (by (with_reducible repeat (first | apply Kd.R_alloc | apply Kd.R_drewN | apply Kd.R_drew)); exact HO197.out)) k_ hk))
                  (case aO => exact (by (with_reducible repeat (first | apply Kd.R_alloc | apply Kd.R_drewN | apply Kd.R_drew)); exact Kd.R_mono HO_6.out (fun _ hk => hk.2)))
                  (case aS => exact (below_size (by repeat (first | (with_reducible first | exact HB.out | apply below_alloc | apply pw_below_drewN | apply below_drew1) | exact HB.out))))
                  (case aL => have := LMc11.out; omega)
                  intro v199 w15 ho hb hg hat
                  rw [← Ny198.out] at ho
                  have n0_ := Aside0.mk (Kd.R_after (ok := (fun _ => True)) (by (with_reducible repeat (first | apply Kd.R_alloc | apply Kd.R_drewN | apply Kd.R_drew)); exact HO197.out) hg hat)
                  have n1_ := Aside0.mk (hb)
                  have n2_ := Aside0.mk (ho)
                  clear HO197
                  clear HB
                  clear HO_6
                  have HO197 := n0_
                  have HB := n1_
                  have HO200 := n2_
                  clear n0_ n1_ n2_
                  clear ho hb hg hat
                  refine hK.out _ _ ⟨((HB.out.cell (World.block_lt_of_cell? w _ hw193_0)).trans hw193_0), ((HB.out.cell (World.block_lt_of_cell? w _ hw194_0)).trans hw194_0)⟩ (fun hHeld => ?_)
                  clear hK K
                  refine norm_ (a' := ?_) ?_ ?_
                  rotate_left
                  · show Act.put _ (some 36) _ = _
                    simp only [Act.put, List.setIfInBounds_toArray, List.set_cons_zero, List.set_cons_succ, i64_w, i32_w]
                    rfl
                  refine pure_ (i := 11) (N := some 6) (v := ?_) (a' := ?_) #[true, true, true, true, true, true, true, true, true, true, true, true] rfl rfl (any_of HT_.out (by kernel_rfl)) (fun _ _ _ h => h) (Or.inl ⟨by rfl, ?_⟩) ?_ ?_
                  rotate_left
                  · intro w'
                    go_simp
                    with_reducible rfl
                  rotate_left
                  · simp only [Act.put, List.setIfInBounds_toArray, List.set_cons_zero, List.set_cons_succ, i64_w, i32_w]
                    rfl
                  refine done_ (done_of HT_.out (by kernel_rfl)) ?_
                  try go_wp2
                  go_roundg k1
                  case measure => have := HK1.out; omega
                  case rel => exact ⟨(y198), (wrap64 (x7_1 - 1)), (by first | rfl | (simp; done) | (simp [*]; done)), H', ⟨by have := HK1.out; omega⟩, ⟨by (with_reducible repeat (first | apply Kd.R_alloc | apply Kd.R_drewN | apply Kd.R_drew)); exact Kd.R_mono HO200.out (fun _ hk => trivial)⟩, ⟨by repeat (first | (with_reducible first | exact HB.out | apply below_alloc | apply pw_below_drewN | apply below_drew1) | exact HB.out)⟩⟩
                · rw [if_neg c11] at H
                  exact absurd H (by simp)
              · rw [if_neg c10] at H
                exact absurd H (by simp)
            · rw [if_neg c9] at H
              exact absurd H (by simp)
          · rw [if_neg c8] at H
            have c8b0 : decide (0 ≤ x7_1) = false := decide_eq_false c8
            clear c8
            replace H := Option.bind_eq_some_iff.mp H
            obtain ⟨t201, A170, H⟩ := H
            replace H : ((match_Of.f x6_1).bind fun t204 => (doormanlaw13_MatchSets.l1 k1 l0 a1 t201 t204 false 0)) = some r := H
            have A17 := Aside0.mk A170
            clear A170
            replace H := Option.bind_eq_some_iff.mp H
            obtain ⟨t204, A180, H⟩ := H
            replace H : (doormanlaw13_MatchSets.l1 k1 l0 a1 t201 t204 false 0) = some r := H
            have A18 := Aside0.mk A180
            clear A180
            have H' := Aside0.mk H
            clear H
            go_wp2_with (first | ((with_reducible refine gate_callee (f := 14) rfl ?_); refine goesL_ (some 38) rfl rfl Try.func14 (by kernel_rfl) rfl #[.slice A0 l0.length c0] rfl (by (try simp only [List.map_toArray, List.map_cons, List.map_nil]); first | done | rfl | (simp only [List.length_drop, List.length_take]; rfl)) ?_; (with_reducible refine (match_Of.calls _ _ l0 t201 _ ?side1 ?side2 A17.out).mono ?_); (case side1 => repeat (first | exact (Kd.C_below HR0.out HB.out) | (with_reducible refine Kd.C_alloc ?_ _) | (with_reducible refine Kd.C_drewN ?_ _) | (with_reducible refine Kd.C_drew ?_))); (case side2 => exact HC0.out); rintro e w19 ⟨v202, rfl, ho0, hb⟩; refine ⟨_, rfl, ?_⟩; have n0_ := Aside0.mk (Kd.R_elder' (by (with_reducible repeat (first | apply Kd.R_alloc | apply Kd.R_drewN | apply Kd.R_drew)); exact HO_6.out) (Kd.R_base ho0) hb); have n1_ := Aside0.mk (Kd.R_lower (Kd.R_new' ho0 (Kd.R_lt (by (with_reducible repeat (first | apply Kd.R_alloc | apply Kd.R_drewN | apply Kd.R_drew)); exact HO_6.out))) (below_size (by repeat (first | (with_reducible first | exact HB.out | apply below_alloc | apply pw_below_drewN | apply below_drew1) | exact HB.out)))); have n2_ := Aside0.mk (below_step (by repeat (first | (with_reducible first | exact HB.out | apply below_alloc | apply pw_below_drewN | apply below_drew1) | exact HB.out)) hb); clear HO_6; clear HB; have HO_6 := n0_; have HO203 := n1_; have HB := n2_; clear n0_ n1_ n2_; (try clear hb); (try clear hb2); (try clear hk); (try clear hi); (try clear ho0); obtain ⟨Ao20, co20, eo20⟩ := Kd.R_slice HO_6.out; subst eo20) | ((with_reducible refine gate_callee (f := 14) rfl ?_); refine goesL_ (some 40) rfl rfl Try.func14 (by kernel_rfl) rfl #[.slice Ao20 x6_1.length co20] rfl (by (try simp only [List.map_toArray, List.map_cons, List.map_nil]); first | done | rfl | (simp only [List.length_drop, List.length_take]; rfl)) ?_; (with_reducible refine (match_Of.calls _ _ x6_1 t204 _ ?side1 ?side2 A18.out).mono ?_); (case side1 => repeat (first | exact (Kd.R_reads' HO_6.out).2.2 | (with_reducible refine Kd.C_alloc ?_ _) | (with_reducible refine Kd.C_drewN ?_ _) | (with_reducible refine Kd.C_drew ?_))); (case side2 => exact (Kd.R_reads' HO_6.out).2.1); rintro e w21 ⟨v205, rfl, ho0, hb⟩; refine ⟨_, rfl, ?_⟩; have n0_ := Aside0.mk (Kd.R_elder' (by (with_reducible repeat (first | apply Kd.R_alloc | apply Kd.R_drewN | apply Kd.R_drew)); exact HO_6.out) (Kd.R_base ho0) hb); have n1_ := Aside0.mk (Kd.R_elder' (by (with_reducible repeat (first | apply Kd.R_alloc | apply Kd.R_drewN | apply Kd.R_drew)); exact HO203.out) (Kd.R_base ho0) hb); have n2_ := Aside0.mk (Kd.R_lower (Kd.R_new' (Kd.R_new' ho0 (Kd.R_lt (by (with_reducible repeat (first | apply Kd.R_alloc | apply Kd.R_drewN | apply Kd.R_drew)); exact HO_6.out))) (Kd.R_lt (by (with_reducible repeat (first | apply Kd.R_alloc | apply Kd.R_drewN | apply Kd.R_drew)); exact HO203.out))) (below_size (by repeat (first | (with_reducible first | exact HB.out | apply below_alloc | apply pw_below_drewN | apply below_drew1) | exact HB.out)))); have n3_ := Aside0.mk (below_step (by repeat (first | (with_reducible first | exact HB.out | apply below_alloc | apply pw_below_drewN | apply below_drew1) | exact HB.out)) hb); clear HO_6; clear HO203; clear HB; have HO_6 := n0_; have HO203 := n1_; have HO206 := n2_; have HB := n3_; clear n0_ n1_ n2_ n3_; (try clear hb); (try clear hb2); (try clear hk); (try clear hi); (try clear ho0)))
            go_loopg [10, 11] k1 (fun kq v10 v11 w' => ∃ (x10_2 : Bool) (x11_2 : Int), v10 = .bool x10_2 ∧ v11 = .int .i64 x11_2 ∧ Aside0 (doormanlaw13_MatchSets.l1 kq l0 a1 t201 t204 x10_2 x11_2 = some r) ∧ Aside0 (kq ≤ k1) ∧ Aside0 (Kd.R Kd.string 9 w' w.heap.size (fun k_ => some k_ ≠ (v205 : Value).ownBlock) v202 t201) ∧ Aside0 (Kd.R Kd.string 9 w' w.heap.size (fun k_ => some k_ ≠ (v202 : Value).ownBlock) v205 t204) ∧ Aside0 (Below w.heap.size w w'))
            case atStart => exact ⟨(false), (0), (by first | rfl | (simp; done) | (simp [*]; done)), (by first | rfl | (simp; done) | (simp [*]; done)), H', ⟨Nat.le_refl _⟩, ⟨by (with_reducible repeat (first | apply Kd.R_alloc | apply Kd.R_drewN | apply Kd.R_drew)); exact Kd.R_mono HO203.out (fun _ hk => hk.2)⟩, ⟨by (with_reducible repeat (first | apply Kd.R_alloc | apply Kd.R_drewN | apply Kd.R_drew)); exact Kd.R_mono HO206.out (fun _ hk => hk.2)⟩, ⟨by repeat (first | (with_reducible first | exact HB.out | apply below_alloc | apply pw_below_drewN | apply below_drew1) | exact HB.out)⟩⟩
            case round =>
              clear H'
              try clear c1
              try clear p1
              try clear q1
              try clear hx1
              try clear p2
              try clear c4
              try clear c5
              try clear c5b0
              try clear c5b1
              try clear c6
              try clear p6
              try clear c8
              try clear c8b0
              try clear c9
              try clear c9b0
              try clear c10
              try clear c10b0
              try clear c11
              try clear c13
              try clear c14
              try clear p19
              try clear q19
              try clear hx19
              try clear hx193_0
              try clear hx194_0
              try clear p193
              try clear p194
              try clear p2
              try clear p6
              try clear q193
              try clear q194
              obtain ⟨x10_2, x11_2, rfl, rfl, HA, HK2, HO_8, HO_9, HB⟩ := hrel
              cases gk with
              | zero => exact absurd HA.out (by simp [doormanlaw13_MatchSets.l1])
              | succ k2 =>
                have H := HA.out
                clear HA
                simp only [doormanlaw13_MatchSets.l1] at H
                by_cases c22 : x11_2 < (l0.length : Int)
                · rw [if_pos c22] at H
                  have c22b0 : decide (x11_2 < (l0.length : Int)) = true := decide_eq_true c22
                  clear c22
                  by_cases c23 : x10_2 = true
                  · subst c23
                    have H1 : (if 0 ≤ x11_2 then ((match_Set_Has.f k2 t201 (rdOf ByteArray.empty l0 x11_2)).bind fun t208 => (if t208 = true then (doormanlaw13_MatchSets.l1 k2 l0 a1 t201 t204 true (wrap64 (x11_2 + 1))) else (some false))) else (none)) = some r := by rw [if_pos rfl] at H; exact H
                    clear H
                    have H := H1
                    clear H1
                    by_cases c24 : 0 ≤ x11_2
                    · rw [if_pos c24] at H
                      have c24b0 : decide (0 ≤ x11_2) = true := decide_eq_true c24
                      clear c24
                      replace H := Option.bind_eq_some_iff.mp H
                      obtain ⟨t208, A250, H⟩ := H
                      replace H : (if t208 = true then (doormanlaw13_MatchSets.l1 k2 l0 a1 t201 t204 true (wrap64 (x11_2 + 1))) else (some false)) = some r := H
                      have A25 := Aside0.mk A250
                      clear A250
                      by_cases c26 : t208 = true
                      · subst c26
                        have H1 : (doormanlaw13_MatchSets.l1 k2 l0 a1 t201 t204 true (wrap64 (x11_2 + 1))) = some r := by rw [if_pos rfl] at H; exact H
                        clear H
                        have H := H1
                        clear H1
                        have H' := Aside0.mk H
                        clear H
                        have p207 : 0 ≤ (x11_2 : Int) := of_decide_eq_true (by first | (with_reducible assumption) | assumption)
                        have q207 : x11_2 < (l0.length : Int) := of_decide_eq_true (by first | (with_reducible assumption) | assumption)
                        obtain ⟨ad207, e207, hx207_0⟩ := Kd.at_string HR0.out x11_2 p207 q207
                        cases e207
                        try replace hx207_0 := (HB.out.cell (World.block_lt_of_cell? w _ hx207_0)).trans hx207_0
                        replace p207 := eq_true p207
                        replace q207 := eq_true q207
                        obtain ⟨Ao27, co27, eo27⟩ := Kd.R_slice HO_8.out
                        subst eo27
                        go_wp2_with (first | ((with_reducible refine gate_callee (f := 20) rfl ?_); refine goesL_ (some 61) rfl rfl Try.func20 (by kernel_rfl) rfl #[.slice Ao27 t201.length co27, .string (rdOf ByteArray.empty l0 x11_2)] rfl (by (try simp only [List.map_toArray, List.map_cons, List.map_nil]); first | done | rfl | (simp only [List.length_drop, List.length_take]; rfl)) ?_; (with_reducible refine (match_Set_Has.calls k2 _ _ t201 (rdOf ByteArray.empty l0 x11_2) true _ ?side1 ?side2 A25.out).mono ?_); (case side1 => repeat (first | exact (Kd.R_reads' HO_8.out).2.2 | (with_reducible refine Kd.C_alloc ?_ _) | (with_reducible refine Kd.C_drewN ?_ _) | (with_reducible refine Kd.C_drew ?_))); (case side2 => exact (Kd.R_reads' HO_8.out).2.1); rintro e w' ⟨rfl, ⟨nd, rfl⟩⟩; refine ⟨_, rfl, ?_⟩))
                        go_roundg k2
                        case measure => have := HK1.out; have := HK2.out; omega
                        case rel => exact ⟨(true), (wrap64 (x11_2 + 1)), (by first | rfl | (simp; done) | (simp [*]; done)), (by first | rfl | (simp; done) | (simp [*]; done)), H', ⟨by have := HK1.out; have := HK2.out; omega⟩, ⟨by (with_reducible repeat (first | apply Kd.R_alloc | apply Kd.R_drewN | apply Kd.R_drew)); exact HO_8.out⟩, ⟨by (with_reducible repeat (first | apply Kd.R_alloc | apply Kd.R_drewN | apply Kd.R_drew)); exact HO_9.out⟩, ⟨by repeat (first | (with_reducible first | exact HB.out | apply below_alloc | apply pw_below_drewN | apply below_drew1) | exact HB.out)⟩⟩
                      · replace c26 := Bool.eq_false_iff.mpr c26
                        subst c26
                        have H1 : (some false) = some r := by rw [if_neg (show ¬ (false = true) by decide)] at H; exact H
                        clear H
                        have H := H1
                        clear H1
                        obtain rfl := Option.some.inj H
                        have p207 : 0 ≤ (x11_2 : Int) := of_decide_eq_true (by first | (with_reducible assumption) | assumption)
                        have q207 : x11_2 < (l0.length : Int) := of_decide_eq_true (by first | (with_reducible assumption) | assumption)
                        obtain ⟨ad207, e207, hx207_0⟩ := Kd.at_string HR0.out x11_2 p207 q207
                        cases e207
                        try replace hx207_0 := (HB.out.cell (World.block_lt_of_cell? w _ hx207_0)).trans hx207_0
                        replace p207 := eq_true p207
                        replace q207 := eq_true q207
                        obtain ⟨Ao28, co28, eo28⟩ := Kd.R_slice HO_8.out
                        subst eo28
                        go_wp2_with (first | ((with_reducible refine gate_callee (f := 20) rfl ?_); refine goesL_ (some 61) rfl rfl Try.func20 (by kernel_rfl) rfl #[.slice Ao28 t201.length co28, .string (rdOf ByteArray.empty l0 x11_2)] rfl (by (try simp only [List.map_toArray, List.map_cons, List.map_nil]); first | done | rfl | (simp only [List.length_drop, List.length_take]; rfl)) ?_; (with_reducible refine (match_Set_Has.calls k2 _ _ t201 (rdOf ByteArray.empty l0 x11_2) false _ ?side1 ?side2 A25.out).mono ?_); (case side1 => repeat (first | exact (Kd.R_reads' HO_8.out).2.2 | (with_reducible refine Kd.C_alloc ?_ _) | (with_reducible refine Kd.C_drewN ?_ _) | (with_reducible refine Kd.C_drew ?_))); (case side2 => exact (Kd.R_reads' HO_8.out).2.1); rintro e w' ⟨rfl, ⟨nd, rfl⟩⟩; refine ⟨_, rfl, ?_⟩))
                        go_ret
                        exact ⟨by first | rfl | (simp [errW_none, errW_some] <;> rfl) | (simp [*, errW_none, errW_some] <;> rfl), by repeat (first | (with_reducible first | exact HB.out | apply below_alloc | apply pw_below_drewN | apply below_drew1) | exact HB.out)⟩
                    · rw [if_neg c24] at H
                      exact absurd H (by simp)
                  · replace c23 := Bool.eq_false_iff.mpr c23
                    subst c23
                    have H1 : (if 0 ≤ x11_2 then ((match_Set_Has.f k2 t201 (rdOf ByteArray.empty l0 x11_2)).bind fun t211 => (if t211 = true then (doormanlaw13_MatchSets.l1 k2 l0 a1 t201 t204 ((rdOf ByteArray.empty l0 x11_2).toList == a1.toList) (wrap64 (x11_2 + 1))) else (some false))) else (none)) = some r := by rw [if_neg (show ¬ (false = true) by decide)] at H; exact H
                    clear H
                    have H := H1
                    clear H1
                    by_cases c29 : 0 ≤ x11_2
                    · rw [if_pos c29] at H
                      have c29b0 : decide (0 ≤ x11_2) = true := decide_eq_true c29
                      clear c29
                      replace H := Option.bind_eq_some_iff.mp H
                      obtain ⟨t211, A300, H⟩ := H
                      replace H : (if t211 = true then (doormanlaw13_MatchSets.l1 k2 l0 a1 t201 t204 ((rdOf ByteArray.empty l0 x11_2).toList == a1.toList) (wrap64 (x11_2 + 1))) else (some false)) = some r := H
                      have A30 := Aside0.mk A300
                      clear A300
                      by_cases c31 : t211 = true
                      · subst c31
                        have H1 : (doormanlaw13_MatchSets.l1 k2 l0 a1 t201 t204 ((rdOf ByteArray.empty l0 x11_2).toList == a1.toList) (wrap64 (x11_2 + 1))) = some r := by rw [if_pos rfl] at H; exact H
                        clear H
                        have H := H1
                        clear H1
                        have H' := Aside0.mk H
                        clear H
                        have p209 : 0 ≤ (x11_2 : Int) := of_decide_eq_true (by first | (with_reducible assumption) | assumption)
                        have q209 : x11_2 < (l0.length : Int) := of_decide_eq_true (by first | (with_reducible assumption) | assumption)
                        obtain ⟨ad209, e209, hx209_0⟩ := Kd.at_string HR0.out x11_2 p209 q209
                        cases e209
                        try replace hx209_0 := (HB.out.cell (World.block_lt_of_cell? w _ hx209_0)).trans hx209_0
                        replace p209 := eq_true p209
                        replace q209 := eq_true q209
                        have p210 : 0 ≤ (x11_2 : Int) := of_decide_eq_true (by first | (with_reducible assumption) | assumption)
                        have q210 : x11_2 < (l0.length : Int) := of_decide_eq_true (by first | (with_reducible assumption) | assumption)
                        obtain ⟨ad210, e210, hx210_0⟩ := Kd.at_string HR0.out x11_2 p210 q210
                        obtain rfl : ad209 = ad210 := (by injection e210)
                        try replace hx210_0 := (HB.out.cell (World.block_lt_of_cell? w _ hx210_0)).trans hx210_0
                        replace p210 := eq_true p210
                        replace q210 := eq_true q210
                        obtain ⟨Ao32, co32, eo32⟩ := Kd.R_slice HO_8.out
                        subst eo32
                        go_wp2_with (first | ((with_reducible refine gate_callee (f := 20) rfl ?_); refine goesL_ (some 61) rfl rfl Try.func20 (by kernel_rfl) rfl #[.slice Ao32 t201.length co32, .string (rdOf ByteArray.empty l0 x11_2)] rfl (by (try simp only [List.map_toArray, List.map_cons, List.map_nil]); first | done | rfl | (simp only [List.length_drop, List.length_take]; rfl)) ?_; (with_reducible refine (match_Set_Has.calls k2 _ _ t201 (rdOf ByteArray.empty l0 x11_2) true _ ?side1 ?side2 A30.out).mono ?_); (case side1 => repeat (first | exact (Kd.R_reads' HO_8.out).2.2 | (with_reducible refine Kd.C_alloc ?_ _) | (with_reducible refine Kd.C_drewN ?_ _) | (with_reducible refine Kd.C_drew ?_))); (case side2 => exact (Kd.R_reads' HO_8.out).2.1); rintro e w' ⟨rfl, ⟨nd, rfl⟩⟩; refine ⟨_, rfl, ?_⟩))
                        go_roundg k2
                        case measure => have := HK1.out; have := HK2.out; omega
                        case rel => exact ⟨(((rdOf ByteArray.empty l0 x11_2).toList == a1.toList)), (wrap64 (x11_2 + 1)), (by first | rfl | (simp; done) | (simp [*]; done)), (by first | rfl | (simp; done) | (simp [*]; done)), H', ⟨by have := HK1.out; have := HK2.out; omega⟩, ⟨by (with_reducible repeat (first | apply Kd.R_alloc | apply Kd.R_drewN | apply Kd.R_drew)); exact HO_8.out⟩, ⟨by (with_reducible repeat (first | apply Kd.R_alloc | apply Kd.R_drewN | apply Kd.R_drew)); exact HO_9.out⟩, ⟨by repeat (first | (with_reducible first | exact HB.out | apply below_alloc | apply pw_below_drewN | apply below_drew1) | exact HB.out)⟩⟩
                      · replace c31 := Bool.eq_false_iff.mpr c31
                        subst c31
                        have H1 : (some false) = some r := by rw [if_neg (show ¬ (false = true) by decide)] at H; exact H
                        clear H
                        have H := H1
                        clear H1
                        obtain rfl := Option.some.inj H
                        have p209 : 0 ≤ (x11_2 : Int) := of_decide_eq_true (by first | (with_reducible assumption) | assumption)
                        have q209 : x11_2 < (l0.length : Int) := of_decide_eq_true (by first | (with_reducible assumption) | assumption)
                        obtain ⟨ad209, e209, hx209_0⟩ := Kd.at_string HR0.out x11_2 p209 q209
                        cases e209
                        try replace hx209_0 := (HB.out.cell (World.block_lt_of_cell? w _ hx209_0)).trans hx209_0
                        replace p209 := eq_true p209
                        replace q209 := eq_true q209
                        have p210 : 0 ≤ (x11_2 : Int) := of_decide_eq_true (by first | (with_reducible assumption) | assumption)
                        have q210 : x11_2 < (l0.length : Int) := of_decide_eq_true (by first | (with_reducible assumption) | assumption)
                        obtain ⟨ad210, e210, hx210_0⟩ := Kd.at_string HR0.out x11_2 p210 q210
                        obtain rfl : ad209 = ad210 := (by injection e210)
                        try replace hx210_0 := (HB.out.cell (World.block_lt_of_cell? w _ hx210_0)).trans hx210_0
                        replace p210 := eq_true p210
                        replace q210 := eq_true q210
                        obtain ⟨Ao33, co33, eo33⟩ := Kd.R_slice HO_8.out
                        subst eo33
                        go_wp2_with (first | ((with_reducible refine gate_callee (f := 20) rfl ?_); refine goesL_ (some 61) rfl rfl Try.func20 (by kernel_rfl) rfl #[.slice Ao33 t201.length co33, .string (rdOf ByteArray.empty l0 x11_2)] rfl (by (try simp only [List.map_toArray, List.map_cons, List.map_nil]); first | done | rfl | (simp only [List.length_drop, List.length_take]; rfl)) ?_; (with_reducible refine (match_Set_Has.calls k2 _ _ t201 (rdOf ByteArray.empty l0 x11_2) false _ ?side1 ?side2 A30.out).mono ?_); (case side1 => repeat (first | exact (Kd.R_reads' HO_8.out).2.2 | (with_reducible refine Kd.C_alloc ?_ _) | (with_reducible refine Kd.C_drewN ?_ _) | (with_reducible refine Kd.C_drew ?_))); (case side2 => exact (Kd.R_reads' HO_8.out).2.1); rintro e w' ⟨rfl, ⟨nd, rfl⟩⟩; refine ⟨_, rfl, ?_⟩))
                        go_ret
                        exact ⟨by first | rfl | (simp [errW_none, errW_some] <;> rfl) | (simp [*, errW_none, errW_some] <;> rfl), by repeat (first | (with_reducible first | exact HB.out | apply below_alloc | apply pw_below_drewN | apply below_drew1) | exact HB.out)⟩
                    · rw [if_neg c29] at H
                      exact absurd H (by simp)
                · rw [if_neg c22] at H
                  have c22b0 : decide (x11_2 < (l0.length : Int)) = false := decide_eq_false c22
                  clear c22
                  have H' := Aside0.mk H
                  clear H
                  go_wp2
                  go_loopg [12] k2 (fun kq v12 w' => ∃ (x12_3 : Int), v12 = .int .i64 x12_3 ∧ Aside0 (doormanlaw13_MatchSets.l2 kq a1 t201 t204 x10_2 x12_3 = some r) ∧ Aside0 (kq ≤ k2) ∧ Aside0 (Kd.R Kd.string 9 w' w.heap.size (fun k_ => some k_ ≠ (v205 : Value).ownBlock) v202 t201) ∧ Aside0 (Kd.R Kd.string 9 w' w.heap.size (fun k_ => some k_ ≠ (v202 : Value).ownBlock) v205 t204) ∧ Aside0 (Below w.heap.size w w'))
                  case atStart => exact ⟨(1), (by first | rfl | (simp; done) | (simp [*]; done)), H', ⟨Nat.le_refl _⟩, ⟨by (with_reducible repeat (first | apply Kd.R_alloc | apply Kd.R_drewN | apply Kd.R_drew)); exact HO_8.out⟩, ⟨by (with_reducible repeat (first | apply Kd.R_alloc | apply Kd.R_drewN | apply Kd.R_drew)); exact HO_9.out⟩, ⟨by repeat (first | (with_reducible first | exact HB.out | apply below_alloc | apply pw_below_drewN | apply below_drew1) | exact HB.out)⟩⟩
                  case round =>
                    clear H'
                    try clear c1
                    try clear p1
                    try clear q1
                    try clear hx1
                    try clear c2
                    try clear p2
                    try clear q2
                    try clear hx2
                    try clear c3
                    try clear c4
                    try clear c5
                    try clear c5b0
                    try clear c5b1
                    try clear c6
                    try clear p6
                    try clear c8
                    try clear c8b0
                    try clear c9
                    try clear c9b0
                    try clear c10
                    try clear c10b0
                    try clear c11
                    try clear c13
                    try clear c14
                    try clear p19
                    try clear q19
                    try clear hx19
                    try clear c20
                    try clear p20
                    try clear q20
                    try clear hx20
                    try clear p21
                    try clear q21
                    try clear hx21
                    try clear c22
                    try clear c22b0
                    try clear c23
                    try clear c24
                    try clear c24b0
                    try clear c26
                    try clear c29
                    try clear c29b0
                    try clear c31
                    try clear hx193_0
                    try clear hx194_0
                    try clear hx207_0
                    try clear hx209_0
                    try clear hx210_0
                    try clear p1
                    try clear p19
                    try clear p193
                    try clear p194
                    try clear p2
                    try clear p207
                    try clear p209
                    try clear p210
                    try clear p6
                    try clear q1
                    try clear q19
                    try clear q193
                    try clear q194
                    try clear q207
                    try clear q209
                    try clear q210
                    obtain ⟨x12_3, rfl, HA, HK3, HO_8, HO_9, HB⟩ := hrel
                    cases gk with
                    | zero => exact absurd HA.out (by simp [doormanlaw13_MatchSets.l2])
                    | succ k3 =>
                      have H := HA.out
                      clear HA
                      simp only [doormanlaw13_MatchSets.l2] at H
                      by_cases c34 : x12_3 < (t201.length : Int)
                      · rw [if_pos c34] at H
                        have c34b0 : decide (x12_3 < (t201.length : Int)) = true := decide_eq_true c34
                        clear c34
                        obtain ⟨ji35, hji35⟩ : ∃ j_ : Int, (wrap64 (x12_3 - 1)) = j_ := ⟨_, rfl⟩
                        replace H : (if 0 ≤ (ji35) then (if (ji35) < (t201.length : Int) then (if 0 ≤ x12_3 then (if ((Op.bytesLess ((rdOf ByteArray.empty t201 (ji35)).toList) ((rdOf ByteArray.empty t201 x12_3).toList)) = true) then (doormanlaw13_MatchSets.l2 k3 a1 t201 t204 x10_2 (wrap64 (x12_3 + 1))) else (some false)) else (none)) else (none)) else (none)) = some r := by first | (rw [hji35] at H; exact H) | (simp only [hji35] at H ⊢; exact H)
                        have hji35w : (IntKind.i64.wrap (x12_3 - 1)) = ji35 := (i64_w _).trans hji35
                        by_cases c36 : 0 ≤ (ji35)
                        · rw [if_pos c36] at H
                          have c36b0 : decide (0 ≤ (ji35)) = true := decide_eq_true c36
                          clear c36
                          by_cases c37 : (ji35) < (t201.length : Int)
                          · rw [if_pos c37] at H
                            have c37b0 : decide ((ji35) < (t201.length : Int)) = true := decide_eq_true c37
                            clear c37
                            by_cases c38 : 0 ≤ x12_3
                            · rw [if_pos c38] at H
                              have c38b0 : decide (0 ≤ x12_3) = true := decide_eq_true c38
                              clear c38
                              by_cases c39 : ((Op.bytesLess ((rdOf ByteArray.empty t201 (ji35)).toList) ((rdOf ByteArray.empty t201 x12_3).toList)) = true)
                              · rw [if_pos c39] at H
                                have c39b0 : (Op.bytesLess ((rdOf ByteArray.empty t201 (ji35)).toList) ((rdOf ByteArray.empty t201 x12_3).toList)) = true := c39
                                clear c39
                                have H' := Aside0.mk H
                                clear H
                                obtain ⟨Ao40, co40, eo40⟩ := Kd.R_slice HO_8.out
                                subst eo40
                                try go_wp2
                                have n0_ := Aside0.mk (Kd.R_drew HO_8.out)
                                have n1_ := Aside0.mk (Kd.R_drew HO_9.out)
                                have n2_ := Aside0.mk (below_drew1 HB.out)
                                clear HO_8
                                clear HO_9
                                clear HB
                                have HO_8 := n0_
                                have HO_9 := n1_
                                have HB := n2_
                                clear n0_ n1_ n2_
                                have p212 : 0 ≤ ((ji35) : Int) := of_decide_eq_true (by first | (with_reducible assumption) | assumption)
                                have q212 : (ji35) < (t201.length : Int) := of_decide_eq_true (by first | (with_reducible assumption) | assumption)
                                obtain ⟨ad212, e212, hx212_0⟩ := Kd.at_string (Kd.R_reads' HO_8.out).2.2 (ji35) p212 q212
                                cases e212
                                replace p212 := eq_true p212
                                replace q212 := eq_true q212
                                have p213 : 0 ≤ (x12_3 : Int) := of_decide_eq_true (by first | (with_reducible assumption) | assumption)
                                have q213 : x12_3 < (t201.length : Int) := of_decide_eq_true (by first | (with_reducible assumption) | assumption)
                                obtain ⟨ad213, e213, hx213_0⟩ := Kd.at_string (Kd.R_reads' HO_8.out).2.2 x12_3 p213 q213
                                obtain rfl : ad212 = ad213 := (by injection e213)
                                replace p213 := eq_true p213
                                replace q213 := eq_true q213
                                refine start_ (n := 10) (S := fun w' => w'.cell? (ad212.add ((ji35)).toNat) = some (.string (rdOf ByteArray.empty t201 (ji35))) ∧ w'.cell? (ad212.add (x12_3).toNat) = some (.string (rdOf ByteArray.empty t201 x12_3))) (ds := []) #[false, false, false, false, false, false, false, false, false, false] (by kernel_rfl) rfl rfl ⟨hx212_0, hx213_0⟩ (fun hHeld => ?_); refine with_tabW doormanlaw13_MatchSets.tab23 doormanlaw13_MatchSets.bits23 (fun HT_ HW_ => ?_)
                                generalize wr.drew = w41 at HO_8 HO_9 HB hx212_0 hx213_0 hHeld ⊢
                                refine pure_ (i := 0) (N := some 69) (v := ?_) (a' := ?_) #[true, false, false, false, false, false, false, false, false, false] rfl rfl (any_of HT_.out (by kernel_rfl)) (fun _ _ _ h => h) (Or.inl ⟨by rfl, ?_⟩) ?_ ?_
                                rotate_left
                                · intro w'
                                  go_simp
                                  with_reducible rfl
                                rotate_left
                                · simp only [Act.put, List.setIfInBounds_toArray, List.set_cons_zero, List.set_cons_succ, i64_w, i32_w]
                                  rfl
                                refine pure_ (i := 1) (N := some 70) (v := ?_) (a' := ?_) #[true, true, false, false, false, false, false, false, false, false] rfl rfl (any_of HT_.out (by kernel_rfl)) (fun _ _ _ h => h) (Or.inl ⟨by rfl, ?_⟩) ?_ ?_
                                rotate_left
                                · intro w'
                                  go_simp
                                  with_reducible rfl
                                rotate_left
                                · simp only [Act.put, List.setIfInBounds_toArray, List.set_cons_zero, List.set_cons_succ, i64_w, i32_w]
                                  rfl
                                refine pure_ (i := 2) (N := some 71) (v := ?_) (a' := ?_) #[true, true, true, false, false, false, false, false, false, false] rfl rfl (any_of HT_.out (by kernel_rfl)) (fun _ _ _ h => h) (Or.inl ⟨by rfl, ?_⟩) ?_ ?_
                                rotate_left
                                · intro w'
                                  go_simp
                                  with_reducible rfl
                                rotate_left
                                · simp only [Act.put, List.setIfInBounds_toArray, List.set_cons_zero, List.set_cons_succ, i64_w, i32_w]
                                  rfl
                                refine pure_ (i := 3) (N := some 72) (v := ?_) (a' := ?_) #[true, true, true, true, false, false, false, false, false, false] rfl rfl (any_of HT_.out (by kernel_rfl)) (fun _ _ _ h => h) (Or.inl ⟨by rfl, ?_⟩) ?_ ?_
                                rotate_left
                                · intro w'
                                  go_simp
                                  with_reducible rfl
                                rotate_left
                                · simp only [Act.put, List.setIfInBounds_toArray, List.set_cons_zero, List.set_cons_succ, i64_w, i32_w]
                                  rfl
                                refine pure_ (i := 5) (N := some 74) (v := ?_) (a' := ?_) #[true, true, true, true, false, true, false, false, false, false] rfl rfl (any_of HT_.out (by kernel_rfl)) (fun _ _ _ h => h) (Or.inl ⟨by rfl, ?_⟩) ?_ ?_
                                rotate_left
                                · intro w'
                                  go_simp
                                  with_reducible rfl
                                rotate_left
                                · simp only [Act.put, List.setIfInBounds_toArray, List.set_cons_zero, List.set_cons_succ, i64_w, i32_w]
                                  rfl
                                refine pure_ (i := 6) (N := some 75) (v := ?_) (a' := ?_) #[true, true, true, true, false, true, true, false, false, false] rfl rfl (any_of HT_.out (by kernel_rfl)) (fun _ _ _ h => h) (Or.inl ⟨by rfl, ?_⟩) ?_ ?_
                                rotate_left
                                · intro w'
                                  go_simp
                                  with_reducible rfl
                                rotate_left
                                · simp only [Act.put, List.setIfInBounds_toArray, List.set_cons_zero, List.set_cons_succ, i64_w, i32_w]
                                  rfl
                                refine pure_ (i := 7) (N := some 76) (v := ?_) (a' := ?_) #[true, true, true, true, false, true, true, true, false, false] rfl rfl (any_of HT_.out (by kernel_rfl)) (fun _ _ _ h => h) (Or.inl ⟨by rfl, ?_⟩) ?_ ?_
                                rotate_left
                                · intro w'
                                  go_simp
                                  with_reducible rfl
                                rotate_left
                                · simp only [Act.put, List.setIfInBounds_toArray, List.set_cons_zero, List.set_cons_succ, i64_w, i32_w]
                                  rfl
                                refine take_ (i := 4) (N := some 73) (v := ?_) (a' := ?_) #[true, true, true, true, true, true, true, true, false, false] rfl rfl (take_ofW HT_.out HW_.out (by kernel_rfl)) (fun _ _ _ h => h) (Or.inl ⟨by rfl, ?_⟩) hHeld ?_ ?_
                                rotate_left
                                · rintro w' ⟨s0, s1⟩
                                  go_simp
                                  with_reducible rfl
                                rotate_left
                                · simp only [Act.put, List.setIfInBounds_toArray, List.set_cons_zero, List.set_cons_succ, i64_w, i32_w]
                                  rfl
                                refine take_ (i := 8) (N := some 77) (v := ?_) (a' := ?_) #[true, true, true, true, true, true, true, true, true, false] rfl rfl (take_ofW HT_.out HW_.out (by kernel_rfl)) (fun _ _ _ h => h) (Or.inl ⟨by rfl, ?_⟩) hHeld ?_ ?_
                                rotate_left
                                · rintro w' ⟨s0, s1⟩
                                  go_simp
                                  with_reducible rfl
                                rotate_left
                                · simp only [Act.put, List.setIfInBounds_toArray, List.set_cons_zero, List.set_cons_succ, i64_w, i32_w]
                                  rfl
                                refine pure_ (i := 9) (N := some 78) (v := ?_) (a' := ?_) #[true, true, true, true, true, true, true, true, true, true] rfl rfl (any_of HT_.out (by kernel_rfl)) (fun _ _ _ h => h) (Or.inl ⟨by rfl, ?_⟩) ?_ ?_
                                rotate_left
                                · intro w'
                                  go_simp
                                  with_reducible rfl
                                rotate_left
                                · simp only [Act.put, List.setIfInBounds_toArray, List.set_cons_zero, List.set_cons_succ, i64_w, i32_w]
                                  rfl
                                refine done_ (done_of HT_.out (by kernel_rfl)) ?_
                                try go_wp2
                                go_roundg k3
                                case measure => have := HK1.out; have := HK2.out; have := HK3.out; omega
                                case rel => exact ⟨(wrap64 (x12_3 + 1)), (by first | rfl | (simp; done) | (simp [*]; done)), H', ⟨by have := HK1.out; have := HK2.out; have := HK3.out; omega⟩, ⟨by (with_reducible repeat (first | apply Kd.R_alloc | apply Kd.R_drewN | apply Kd.R_drew)); exact HO_8.out⟩, ⟨by (with_reducible repeat (first | apply Kd.R_alloc | apply Kd.R_drewN | apply Kd.R_drew)); exact HO_9.out⟩, ⟨by repeat (first | (with_reducible first | exact HB.out | apply below_alloc | apply pw_below_drewN | apply below_drew1) | exact HB.out)⟩⟩
                              · rw [if_neg c39] at H
                                have c39b0 : (Op.bytesLess ((rdOf ByteArray.empty t201 (ji35)).toList) ((rdOf ByteArray.empty t201 x12_3).toList)) = false := by simpa using c39
                                clear c39
                                obtain rfl := Option.some.inj H
                                obtain ⟨Ao42, co42, eo42⟩ := Kd.R_slice HO_8.out
                                subst eo42
                                try go_wp2
                                have n0_ := Aside0.mk (Kd.R_drew HO_8.out)
                                have n1_ := Aside0.mk (Kd.R_drew HO_9.out)
                                have n2_ := Aside0.mk (below_drew1 HB.out)
                                clear HO_8
                                clear HO_9
                                clear HB
                                have HO_8 := n0_
                                have HO_9 := n1_
                                have HB := n2_
                                clear n0_ n1_ n2_
                                have p212 : 0 ≤ ((ji35) : Int) := of_decide_eq_true (by first | (with_reducible assumption) | assumption)
                                have q212 : (ji35) < (t201.length : Int) := of_decide_eq_true (by first | (with_reducible assumption) | assumption)
                                obtain ⟨ad212, e212, hx212_0⟩ := Kd.at_string (Kd.R_reads' HO_8.out).2.2 (ji35) p212 q212
                                cases e212
                                replace p212 := eq_true p212
                                replace q212 := eq_true q212
                                have p213 : 0 ≤ (x12_3 : Int) := of_decide_eq_true (by first | (with_reducible assumption) | assumption)
                                have q213 : x12_3 < (t201.length : Int) := of_decide_eq_true (by first | (with_reducible assumption) | assumption)
                                obtain ⟨ad213, e213, hx213_0⟩ := Kd.at_string (Kd.R_reads' HO_8.out).2.2 x12_3 p213 q213
                                obtain rfl : ad212 = ad213 := (by injection e213)
                                replace p213 := eq_true p213
                                replace q213 := eq_true q213
                                refine start_ (n := 10) (S := fun w' => w'.cell? (ad212.add ((ji35)).toNat) = some (.string (rdOf ByteArray.empty t201 (ji35))) ∧ w'.cell? (ad212.add (x12_3).toNat) = some (.string (rdOf ByteArray.empty t201 x12_3))) (ds := []) #[false, false, false, false, false, false, false, false, false, false] (by kernel_rfl) rfl rfl ⟨hx212_0, hx213_0⟩ (fun hHeld => ?_); refine with_tabW doormanlaw13_MatchSets.tab23 doormanlaw13_MatchSets.bits23 (fun HT_ HW_ => ?_)
                                generalize wr.drew = w43 at HO_8 HO_9 HB hx212_0 hx213_0 hHeld ⊢
                                refine pure_ (i := 0) (N := some 69) (v := ?_) (a' := ?_) #[true, false, false, false, false, false, false, false, false, false] rfl rfl (any_of HT_.out (by kernel_rfl)) (fun _ _ _ h => h) (Or.inl ⟨by rfl, ?_⟩) ?_ ?_
                                rotate_left
                                · intro w'
                                  go_simp
                                  with_reducible rfl
                                rotate_left
                                · simp only [Act.put, List.setIfInBounds_toArray, List.set_cons_zero, List.set_cons_succ, i64_w, i32_w]
                                  rfl
                                refine pure_ (i := 1) (N := some 70) (v := ?_) (a' := ?_) #[true, true, false, false, false, false, false, false, false, false] rfl rfl (any_of HT_.out (by kernel_rfl)) (fun _ _ _ h => h) (Or.inl ⟨by rfl, ?_⟩) ?_ ?_
                                rotate_left
                                · intro w'
                                  go_simp
                                  with_reducible rfl
                                rotate_left
                                · simp only [Act.put, List.setIfInBounds_toArray, List.set_cons_zero, List.set_cons_succ, i64_w, i32_w]
                                  rfl
                                refine pure_ (i := 2) (N := some 71) (v := ?_) (a' := ?_) #[true, true, true, false, false, false, false, false, false, false] rfl rfl (any_of HT_.out (by kernel_rfl)) (fun _ _ _ h => h) (Or.inl ⟨by rfl, ?_⟩) ?_ ?_
                                rotate_left
                                · intro w'
                                  go_simp
                                  with_reducible rfl
                                rotate_left
                                · simp only [Act.put, List.setIfInBounds_toArray, List.set_cons_zero, List.set_cons_succ, i64_w, i32_w]
                                  rfl
                                refine pure_ (i := 3) (N := some 72) (v := ?_) (a' := ?_) #[true, true, true, true, false, false, false, false, false, false] rfl rfl (any_of HT_.out (by kernel_rfl)) (fun _ _ _ h => h) (Or.inl ⟨by rfl, ?_⟩) ?_ ?_
                                rotate_left
                                · intro w'
                                  go_simp
                                  with_reducible rfl
                                rotate_left
                                · simp only [Act.put, List.setIfInBounds_toArray, List.set_cons_zero, List.set_cons_succ, i64_w, i32_w]
                                  rfl
                                refine pure_ (i := 5) (N := some 74) (v := ?_) (a' := ?_) #[true, true, true, true, false, true, false, false, false, false] rfl rfl (any_of HT_.out (by kernel_rfl)) (fun _ _ _ h => h) (Or.inl ⟨by rfl, ?_⟩) ?_ ?_
                                rotate_left
                                · intro w'
                                  go_simp
                                  with_reducible rfl
                                rotate_left
                                · simp only [Act.put, List.setIfInBounds_toArray, List.set_cons_zero, List.set_cons_succ, i64_w, i32_w]
                                  rfl
                                refine pure_ (i := 6) (N := some 75) (v := ?_) (a' := ?_) #[true, true, true, true, false, true, true, false, false, false] rfl rfl (any_of HT_.out (by kernel_rfl)) (fun _ _ _ h => h) (Or.inl ⟨by rfl, ?_⟩) ?_ ?_
                                rotate_left
                                · intro w'
                                  go_simp
                                  with_reducible rfl
                                rotate_left
                                · simp only [Act.put, List.setIfInBounds_toArray, List.set_cons_zero, List.set_cons_succ, i64_w, i32_w]
                                  rfl
                                refine pure_ (i := 7) (N := some 76) (v := ?_) (a' := ?_) #[true, true, true, true, false, true, true, true, false, false] rfl rfl (any_of HT_.out (by kernel_rfl)) (fun _ _ _ h => h) (Or.inl ⟨by rfl, ?_⟩) ?_ ?_
                                rotate_left
                                · intro w'
                                  go_simp
                                  with_reducible rfl
                                rotate_left
                                · simp only [Act.put, List.setIfInBounds_toArray, List.set_cons_zero, List.set_cons_succ, i64_w, i32_w]
                                  rfl
                                refine take_ (i := 4) (N := some 73) (v := ?_) (a' := ?_) #[true, true, true, true, true, true, true, true, false, false] rfl rfl (take_ofW HT_.out HW_.out (by kernel_rfl)) (fun _ _ _ h => h) (Or.inl ⟨by rfl, ?_⟩) hHeld ?_ ?_
                                rotate_left
                                · rintro w' ⟨s0, s1⟩
                                  go_simp
                                  with_reducible rfl
                                rotate_left
                                · simp only [Act.put, List.setIfInBounds_toArray, List.set_cons_zero, List.set_cons_succ, i64_w, i32_w]
                                  rfl
                                refine take_ (i := 8) (N := some 77) (v := ?_) (a' := ?_) #[true, true, true, true, true, true, true, true, true, false] rfl rfl (take_ofW HT_.out HW_.out (by kernel_rfl)) (fun _ _ _ h => h) (Or.inl ⟨by rfl, ?_⟩) hHeld ?_ ?_
                                rotate_left
                                · rintro w' ⟨s0, s1⟩
                                  go_simp
                                  with_reducible rfl
                                rotate_left
                                · simp only [Act.put, List.setIfInBounds_toArray, List.set_cons_zero, List.set_cons_succ, i64_w, i32_w]
                                  rfl
                                refine pure_ (i := 9) (N := some 78) (v := ?_) (a' := ?_) #[true, true, true, true, true, true, true, true, true, true] rfl rfl (any_of HT_.out (by kernel_rfl)) (fun _ _ _ h => h) (Or.inl ⟨by rfl, ?_⟩) ?_ ?_
                                rotate_left
                                · intro w'
                                  go_simp
                                  with_reducible rfl
                                rotate_left
                                · simp only [Act.put, List.setIfInBounds_toArray, List.set_cons_zero, List.set_cons_succ, i64_w, i32_w]
                                  rfl
                                refine done_ (done_of HT_.out (by kernel_rfl)) ?_
                                try go_wp2
                                go_ret
                                exact ⟨by first | rfl | (simp [errW_none, errW_some] <;> rfl) | (simp only [← hji35]; first | rfl | (simp [errW_none, errW_some] <;> rfl)) | (simp [*, errW_none, errW_some] <;> rfl), by repeat (first | (with_reducible first | exact HB.out | apply below_alloc | apply pw_below_drewN | apply below_drew1) | exact HB.out)⟩
                            · rw [if_neg c38] at H
                              exact absurd H (by simp)
                          · rw [if_neg c37] at H
                            exact absurd H (by simp)
                        · rw [if_neg c36] at H
                          exact absurd H (by simp)
                      · rw [if_neg c34] at H
                        have c34b0 : decide (x12_3 < (t201.length : Int)) = false := decide_eq_false c34
                        clear c34
                        replace H := Option.bind_eq_some_iff.mp H
                        obtain ⟨t214, A440, H⟩ := H
                        replace H : (if t214 = true then ((match_Set_Has.f k3 t201 a1).bind fun t215 => (if (t215 == x10_2) = true then ((match_Set_Diff.f k3 t201 t204).bind fun t216 => (if (t216.length : Int) = 0 then ((match_Of.f t201).bind fun t219 => (some ((t219.length : Int) == (t201.length : Int)))) else (some false))) else (some false))) else (some false)) = some r := H
                        have A44 := Aside0.mk A440
                        clear A440
                        by_cases c45 : t214 = true
                        · subst c45
                          have H1 : ((match_Set_Has.f k3 t201 a1).bind fun t215 => (if (t215 == x10_2) = true then ((match_Set_Diff.f k3 t201 t204).bind fun t216 => (if (t216.length : Int) = 0 then ((match_Of.f t201).bind fun t219 => (some ((t219.length : Int) == (t201.length : Int)))) else (some false))) else (some false))) = some r := by rw [if_pos rfl] at H; exact H
                          clear H
                          have H := H1
                          clear H1
                          replace H := Option.bind_eq_some_iff.mp H
                          obtain ⟨t215, A460, H⟩ := H
                          replace H : (if (t215 == x10_2) = true then ((match_Set_Diff.f k3 t201 t204).bind fun t216 => (if (t216.length : Int) = 0 then ((match_Of.f t201).bind fun t219 => (some ((t219.length : Int) == (t201.length : Int)))) else (some false))) else (some false)) = some r := H
                          have A46 := Aside0.mk A460
                          clear A460
                          by_cases c47 : (t215 == x10_2) = true
                          · rw [if_pos c47] at H
                            have c47b0 : (t215 == x10_2) = true := c47
                            (try (have c47b1 : decide (t215 = x10_2) = true := by simpa using c47))
                            (try (have c47b2 : (t215 == x10_2) = true := by simpa using c47))
                            clear c47
                            replace H := Option.bind_eq_some_iff.mp H
                            obtain ⟨t216, A480, H⟩ := H
                            replace H : (if (t216.length : Int) = 0 then ((match_Of.f t201).bind fun t219 => (some ((t219.length : Int) == (t201.length : Int)))) else (some false)) = some r := H
                            have A48 := Aside0.mk A480
                            clear A480
                            by_cases c49 : (t216.length : Int) = 0
                            · rw [if_pos c49] at H
                              have c49b0 : ((t216.length : Int) == 0) = true := beq_iff_eq.mpr c49
                              have c49b1 : ((t216.length : Int) != 0) = false := bne_eq_false_iff_eq.mpr c49
                              clear c49
                              replace H := Option.bind_eq_some_iff.mp H
                              obtain ⟨t219, A500, H⟩ := H
                              replace H : (some ((t219.length : Int) == (t201.length : Int))) = some r := H
                              have A50 := Aside0.mk A500
                              clear A500
                              obtain rfl := Option.some.inj H
                              obtain ⟨Ao51, co51, eo51⟩ := Kd.R_slice HO_8.out
                              subst eo51
                              obtain ⟨Ao52, co52, eo52⟩ := Kd.R_slice HO_9.out
                              subst eo52
                              go_wp2_with (first | ((with_reducible refine gate_callee (f := 19) rfl ?_); refine goesL_ (some 81) rfl rfl Try.func19 (by kernel_rfl) rfl #[.slice Ao51 t201.length co51, .slice Ao52 t204.length co52] rfl (by (try simp only [List.map_toArray, List.map_cons, List.map_nil]); first | done | rfl | (simp only [List.length_drop, List.length_take]; rfl)) ?_; (with_reducible refine (doormanlaw13_same.calls k3 _ _ t201 _ _ t204 true _ ?side1 ?side2 ?side3 ?side4 A44.out).mono ?_); (case side1 => repeat (first | exact (Kd.R_reads' HO_8.out).2.2 | (with_reducible refine Kd.C_alloc ?_ _) | (with_reducible refine Kd.C_drewN ?_ _) | (with_reducible refine Kd.C_drew ?_))); (case side2 => exact (Kd.R_reads' HO_8.out).2.1); (case side3 => repeat (first | exact (Kd.R_reads' HO_9.out).2.2 | (with_reducible refine Kd.C_alloc ?_ _) | (with_reducible refine Kd.C_drewN ?_ _) | (with_reducible refine Kd.C_drew ?_))); (case side4 => exact (Kd.R_reads' HO_9.out).2.1); rintro e w' ⟨rfl, ⟨nd, rfl⟩⟩; refine ⟨_, rfl, ?_⟩) | (go_at_call 20; (with_reducible refine (match_Set_Has.calls k3 _ _ t201 a1 t215 _ ?side1 ?side2 A46.out).mono ?_); (case side1 => repeat (first | exact (Kd.R_reads' HO_8.out).2.2 | (with_reducible refine Kd.C_alloc ?_ _) | (with_reducible refine Kd.C_drewN ?_ _) | (with_reducible refine Kd.C_drew ?_))); (case side2 => exact (Kd.R_reads' HO_8.out).2.1); rintro e w' ⟨rfl, ⟨nd, rfl⟩⟩) | (go_at_call 22; (with_reducible refine (match_Set_Diff.calls k3 (fun k_ => some k_ = (.slice Ao51 t201.length co51 : Value).ownBlock) _ _ t201 (fun k_ => some k_ = (.slice Ao52 t204.length co52 : Value).ownBlock) _ _ t204 t216 _ ?side1 ?side2 A48.out).mono ?_); (case side1 => exact Kd.R_V (Kd.R_tight rfl (HO_8.out))); (case side2 => exact Kd.R_V (Kd.R_tight rfl (HO_9.out))); rintro e w53 ⟨v217, rfl, ho0, hb⟩; have n0_ := Aside0.mk (Kd.R_below (by (with_reducible repeat (first | apply Kd.R_alloc | apply Kd.R_drewN | apply Kd.R_drew)); exact HO_8.out) hb); have n1_ := Aside0.mk (Kd.R_below (by (with_reducible repeat (first | apply Kd.R_alloc | apply Kd.R_drewN | apply Kd.R_drew)); exact HO_9.out) hb); have n2_ := Aside0.mk (Kd.R_lower (Kd.R_mono (ok' := fun k_ => True) ho0 (fun _ hk_ => trivial)) (below_size (by repeat (first | (with_reducible first | exact HB.out | apply below_alloc | apply pw_below_drewN | apply below_drew1) | exact HB.out)))); have n3_ := Aside0.mk (below_step (by repeat (first | (with_reducible first | exact HB.out | apply below_alloc | apply pw_below_drewN | apply below_drew1) | exact HB.out)) hb); clear HO_8; clear HO_9; clear HB; have HO_8 := n0_; have HO_9 := n1_; have HO218 := n2_; have HB := n3_; clear n0_ n1_ n2_ n3_; (try clear hb); (try clear hb2); (try clear hk); (try clear hi); (try clear ho0); obtain ⟨Ao54, co54, eo54⟩ := Kd.R_slice HO218.out; subst eo54) | (go_at_call 14; (with_reducible refine (match_Of.calls _ _ t201 t219 _ ?side1 ?side2 A50.out).mono ?_); (case side1 => repeat (first | exact (Kd.R_reads' HO_8.out).2.2 | (with_reducible refine Kd.C_alloc ?_ _) | (with_reducible refine Kd.C_drewN ?_ _) | (with_reducible refine Kd.C_drew ?_))); (case side2 => exact (Kd.R_reads' HO_8.out).2.1); rintro e w55 ⟨v220, rfl, ho0, hb⟩; have n0_ := Aside0.mk (Kd.R_elder' (by (with_reducible repeat (first | apply Kd.R_alloc | apply Kd.R_drewN | apply Kd.R_drew)); exact HO_8.out) (Kd.R_base ho0) hb); have n1_ := Aside0.mk (Kd.R_elder' (by (with_reducible repeat (first | apply Kd.R_alloc | apply Kd.R_drewN | apply Kd.R_drew)); exact HO_9.out) (Kd.R_base ho0) hb); have n2_ := Aside0.mk (Kd.R_below (by (with_reducible repeat (first | apply Kd.R_alloc | apply Kd.R_drewN | apply Kd.R_drew)); exact HO218.out) hb); have n3_ := Aside0.mk (Kd.R_lower (Kd.R_new' (Kd.R_new' ho0 (Kd.R_lt (by (with_reducible repeat (first | apply Kd.R_alloc | apply Kd.R_drewN | apply Kd.R_drew)); exact HO_8.out))) (Kd.R_lt (by (with_reducible repeat (first | apply Kd.R_alloc | apply Kd.R_drewN | apply Kd.R_drew)); exact HO_9.out))) (below_size (by repeat (first | (with_reducible first | exact HB.out | apply below_alloc | apply pw_below_drewN | apply below_drew1) | exact HB.out)))); have n4_ := Aside0.mk (below_step (by repeat (first | (with_reducible first | exact HB.out | apply below_alloc | apply pw_below_drewN | apply below_drew1) | exact HB.out)) hb); clear HO_8; clear HO_9; clear HO218; clear HB; have HO_8 := n0_; have HO_9 := n1_; have HO218 := n2_; have HO221 := n3_; have HB := n4_; clear n0_ n1_ n2_ n3_ n4_; (try clear hb); (try clear hb2); (try clear hk); (try clear hi); (try clear ho0); obtain ⟨Ao56, co56, eo56⟩ := Kd.R_slice HO221.out; subst eo56))
                              go_ret
                              exact ⟨by first | rfl | (simp [errW_none, errW_some] <;> rfl) | (simp [*, errW_none, errW_some] <;> rfl), by repeat (first | (with_reducible first | exact HB.out | apply below_alloc | apply pw_below_drewN | apply below_drew1) | exact HB.out)⟩
                            · rw [if_neg c49] at H
                              have c49b0 : ((t216.length : Int) == 0) = false := beq_eq_false_iff_ne.mpr c49
                              have c49b1 : ((t216.length : Int) != 0) = true := bne_iff_ne.mpr c49
                              have c49b2 : ¬ (t216 = []) := fun h_ => c49 (by rw [h_]; rfl)
                              obtain rfl := Option.some.inj H
                              obtain ⟨Ao57, co57, eo57⟩ := Kd.R_slice HO_8.out
                              subst eo57
                              obtain ⟨Ao58, co58, eo58⟩ := Kd.R_slice HO_9.out
                              subst eo58
                              go_wp2_with (first | ((with_reducible refine gate_callee (f := 19) rfl ?_); refine goesL_ (some 81) rfl rfl Try.func19 (by kernel_rfl) rfl #[.slice Ao57 t201.length co57, .slice Ao58 t204.length co58] rfl (by (try simp only [List.map_toArray, List.map_cons, List.map_nil]); first | done | rfl | (simp only [List.length_drop, List.length_take]; rfl)) ?_; (with_reducible refine (doormanlaw13_same.calls k3 _ _ t201 _ _ t204 true _ ?side1 ?side2 ?side3 ?side4 A44.out).mono ?_); (case side1 => repeat (first | exact (Kd.R_reads' HO_8.out).2.2 | (with_reducible refine Kd.C_alloc ?_ _) | (with_reducible refine Kd.C_drewN ?_ _) | (with_reducible refine Kd.C_drew ?_))); (case side2 => exact (Kd.R_reads' HO_8.out).2.1); (case side3 => repeat (first | exact (Kd.R_reads' HO_9.out).2.2 | (with_reducible refine Kd.C_alloc ?_ _) | (with_reducible refine Kd.C_drewN ?_ _) | (with_reducible refine Kd.C_drew ?_))); (case side4 => exact (Kd.R_reads' HO_9.out).2.1); rintro e w' ⟨rfl, ⟨nd, rfl⟩⟩; refine ⟨_, rfl, ?_⟩) | (go_at_call 20; (with_reducible refine (match_Set_Has.calls k3 _ _ t201 a1 t215 _ ?side1 ?side2 A46.out).mono ?_); (case side1 => repeat (first | exact (Kd.R_reads' HO_8.out).2.2 | (with_reducible refine Kd.C_alloc ?_ _) | (with_reducible refine Kd.C_drewN ?_ _) | (with_reducible refine Kd.C_drew ?_))); (case side2 => exact (Kd.R_reads' HO_8.out).2.1); rintro e w' ⟨rfl, ⟨nd, rfl⟩⟩) | (go_at_call 22; (with_reducible refine (match_Set_Diff.calls k3 (fun k_ => some k_ = (.slice Ao57 t201.length co57 : Value).ownBlock) _ _ t201 (fun k_ => some k_ = (.slice Ao58 t204.length co58 : Value).ownBlock) _ _ t204 t216 _ ?side1 ?side2 A48.out).mono ?_); (case side1 => exact Kd.R_V (Kd.R_tight rfl (HO_8.out))); (case side2 => exact Kd.R_V (Kd.R_tight rfl (HO_9.out))); rintro e w59 ⟨v217, rfl, ho0, hb⟩; have n0_ := Aside0.mk (Kd.R_below (by (with_reducible repeat (first | apply Kd.R_alloc | apply Kd.R_drewN | apply Kd.R_drew)); exact HO_8.out) hb); have n1_ := Aside0.mk (Kd.R_below (by (with_reducible repeat (first | apply Kd.R_alloc | apply Kd.R_drewN | apply Kd.R_drew)); exact HO_9.out) hb); have n2_ := Aside0.mk (Kd.R_lower (Kd.R_mono (ok' := fun k_ => True) ho0 (fun _ hk_ => trivial)) (below_size (by repeat (first | (with_reducible first | exact HB.out | apply below_alloc | apply pw_below_drewN | apply below_drew1) | exact HB.out)))); have n3_ := Aside0.mk (below_step (by repeat (first | (with_reducible first | exact HB.out | apply below_alloc | apply pw_below_drewN | apply below_drew1) | exact HB.out)) hb); clear HO_8; clear HO_9; clear HB; have HO_8 := n0_; have HO_9 := n1_; have HO218 := n2_; have HB := n3_; clear n0_ n1_ n2_ n3_; (try clear hb); (try clear hb2); (try clear hk); (try clear hi); (try clear ho0); obtain ⟨Ao60, co60, eo60⟩ := Kd.R_slice HO218.out; subst eo60))
                              go_ret
                              exact ⟨by first | rfl | (simp [errW_none, errW_some] <;> rfl) | (simp [*, errW_none, errW_some] <;> rfl), by repeat (first | (with_reducible first | exact HB.out | apply below_alloc | apply pw_below_drewN | apply below_drew1) | exact HB.out)⟩
                          · rw [if_neg c47] at H
                            have c47b0 : (t215 == x10_2) = false := by simpa using c47
                            (try (have c47b1 : decide (t215 = x10_2) = false := by simpa using c47))
                            (try (have c47b2 : (t215 == x10_2) = false := by simpa using c47))
                            (try (have c47b3 : ¬ (t215 = x10_2) := by simpa using c47))
                            clear c47
                            obtain rfl := Option.some.inj H
                            obtain ⟨Ao61, co61, eo61⟩ := Kd.R_slice HO_8.out
                            subst eo61
                            obtain ⟨Ao62, co62, eo62⟩ := Kd.R_slice HO_9.out
                            subst eo62
                            go_wp2_with (first | ((with_reducible refine gate_callee (f := 19) rfl ?_); refine goesL_ (some 81) rfl rfl Try.func19 (by kernel_rfl) rfl #[.slice Ao61 t201.length co61, .slice Ao62 t204.length co62] rfl (by (try simp only [List.map_toArray, List.map_cons, List.map_nil]); first | done | rfl | (simp only [List.length_drop, List.length_take]; rfl)) ?_; (with_reducible refine (doormanlaw13_same.calls k3 _ _ t201 _ _ t204 true _ ?side1 ?side2 ?side3 ?side4 A44.out).mono ?_); (case side1 => repeat (first | exact (Kd.R_reads' HO_8.out).2.2 | (with_reducible refine Kd.C_alloc ?_ _) | (with_reducible refine Kd.C_drewN ?_ _) | (with_reducible refine Kd.C_drew ?_))); (case side2 => exact (Kd.R_reads' HO_8.out).2.1); (case side3 => repeat (first | exact (Kd.R_reads' HO_9.out).2.2 | (with_reducible refine Kd.C_alloc ?_ _) | (with_reducible refine Kd.C_drewN ?_ _) | (with_reducible refine Kd.C_drew ?_))); (case side4 => exact (Kd.R_reads' HO_9.out).2.1); rintro e w' ⟨rfl, ⟨nd, rfl⟩⟩; refine ⟨_, rfl, ?_⟩) | (go_at_call 20; (with_reducible refine (match_Set_Has.calls k3 _ _ t201 a1 t215 _ ?side1 ?side2 A46.out).mono ?_); (case side1 => repeat (first | exact (Kd.R_reads' HO_8.out).2.2 | (with_reducible refine Kd.C_alloc ?_ _) | (with_reducible refine Kd.C_drewN ?_ _) | (with_reducible refine Kd.C_drew ?_))); (case side2 => exact (Kd.R_reads' HO_8.out).2.1); rintro e w' ⟨rfl, ⟨nd, rfl⟩⟩))
                            go_ret
                            exact ⟨by first | rfl | (simp [errW_none, errW_some] <;> rfl) | (simp [*, errW_none, errW_some] <;> rfl), by repeat (first | (with_reducible first | exact HB.out | apply below_alloc | apply pw_below_drewN | apply below_drew1) | exact HB.out)⟩
                        · replace c45 := Bool.eq_false_iff.mpr c45
                          subst c45
                          have H1 : (some false) = some r := by rw [if_neg (show ¬ (false = true) by decide)] at H; exact H
                          clear H
                          have H := H1
                          clear H1
                          obtain rfl := Option.some.inj H
                          obtain ⟨Ao63, co63, eo63⟩ := Kd.R_slice HO_8.out
                          subst eo63
                          obtain ⟨Ao64, co64, eo64⟩ := Kd.R_slice HO_9.out
                          subst eo64
                          go_wp2_with (first | ((with_reducible refine gate_callee (f := 19) rfl ?_); refine goesL_ (some 81) rfl rfl Try.func19 (by kernel_rfl) rfl #[.slice Ao63 t201.length co63, .slice Ao64 t204.length co64] rfl (by (try simp only [List.map_toArray, List.map_cons, List.map_nil]); first | done | rfl | (simp only [List.length_drop, List.length_take]; rfl)) ?_; (with_reducible refine (doormanlaw13_same.calls k3 _ _ t201 _ _ t204 false _ ?side1 ?side2 ?side3 ?side4 A44.out).mono ?_); (case side1 => repeat (first | exact (Kd.R_reads' HO_8.out).2.2 | (with_reducible refine Kd.C_alloc ?_ _) | (with_reducible refine Kd.C_drewN ?_ _) | (with_reducible refine Kd.C_drew ?_))); (case side2 => exact (Kd.R_reads' HO_8.out).2.1); (case side3 => repeat (first | exact (Kd.R_reads' HO_9.out).2.2 | (with_reducible refine Kd.C_alloc ?_ _) | (with_reducible refine Kd.C_drewN ?_ _) | (with_reducible refine Kd.C_drew ?_))); (case side4 => exact (Kd.R_reads' HO_9.out).2.1); rintro e w' ⟨rfl, ⟨nd, rfl⟩⟩; refine ⟨_, rfl, ?_⟩))
                          go_ret
                          exact ⟨by first | rfl | (simp [errW_none, errW_some] <;> rfl) | (simp [*, errW_none, errW_some] <;> rfl), by repeat (first | (with_reducible first | exact HB.out | apply below_alloc | apply pw_below_drewN | apply below_drew1) | exact HB.out)⟩
  · replace c4 := Bool.eq_false_iff.mpr c4
    subst c4
    have H1 : (some false) = some r := by rw [if_neg (show ¬ (false = true) by decide)] at H; exact H
    clear H
    have H := H1
    clear H1
    obtain rfl := Option.some.inj H
    go_enter Try.func6, Try.ntmps6
    go_wp2_with (first | ((with_reducible refine gate_callee (f := 13) rfl ?_); refine goesL_ (some 13) rfl rfl Try.func13 (by kernel_rfl) rfl #[] rfl (by (try simp only [List.map_toArray, List.map_cons, List.map_nil]); first | done | rfl | (simp only [List.length_drop, List.length_take]; rfl)) ?_; (with_reducible refine (doormanlaw13_awake.calls k  false _ A3.out).mono ?_); rintro e w65 ⟨rfl, hb⟩; refine ⟨_, rfl, ?_⟩; have n0_ := Aside0.mk (below_step (by repeat (first | (with_reducible first | exact HB.out | apply below_alloc | apply pw_below_drewN | apply below_drew1) | exact HB.out)) hb); clear HB; have HB := n0_; clear n0_; (try clear hb); (try clear hb2); (try clear hk); (try clear hi)))
    go_ret
    exact ⟨by first | rfl | (simp [errW_none, errW_some] <;> rfl) | (simp [*, errW_none, errW_some] <;> rfl), by repeat (first | (with_reducible first | exact HB.out | apply below_alloc | apply pw_below_drewN | apply below_drew1) | exact HB.out)⟩

end Go.Proofs.Ythpcplpannbipaa.Y
