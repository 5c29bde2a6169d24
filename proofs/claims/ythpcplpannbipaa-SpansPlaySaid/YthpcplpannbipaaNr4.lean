-- Written by a program of this session (wip/tools/drive.py) for this seat, partly by the kit's print.py; some functions by hand.
import Derived.Test.YthpcplpannbipaaX0
import Derived.Test.YthpcplpannbipaaKd
import Derived.Test.YthpcplpannbipaaNr3
namespace Go.Proofs.Ythpcplpannbipaa.Nr
open Go.RowKit Go.Proofs.YthpcplpannbipaaW.PrintWords Go.Proofs.YthpcplpannbipaaW.PrintLast Go.Proofs.Ythpcplpannbipaa.X
open Go.Proofs.Ythpcplpannbipaa.Kx
set_option linter.unusedVariables false
set_option linter.unusedSimpArgs false

/-! ### doormanref14_Events: function 39 -/
mutual
def doormanref14_Events.l0 : Nat → Int → Int → List (S74) → Int → List (S102) → Int → Option ((List (S74)))
  | 0, _, _, _, _, _, _ => none
  | k + 1, x1, x2, x7, x8, x185000, x185001 => if x8 < (x185000.length : Int) then (if 0 ≤ x8 then (if ((rd_T102 x185000 x8).f1) > x1 then (doormanref14_Events.j1 k x1 x2 x7 x8 (decide (((rd_T102 x185000 x8).f1) ≤ x2)) x185000 x185001 ((rd_T102 x185000 x8).f0) ((rd_T102 x185000 x8).f1) ((rd_T102 x185000 x8).f2)) else (doormanref14_Events.j1 k x1 x2 x7 x8 false x185000 x185001 ((rd_T102 x185000 x8).f0) ((rd_T102 x185000 x8).f1) ((rd_T102 x185000 x8).f2))) else (none)) else (some x7)
def doormanref14_Events.j1 : Nat → Int → Int → List (S74) → Int → Bool → List (S102) → Int → ByteArray → Int → Int → Option ((List (S74)))
  | 0, _, _, _, _, _, _, _, _, _, _ => none
  | k + 1, x1, x2, x7, x8, x31, x185000, x185001, x187000, x187001, x187002 => if x31 = true then ((doormanref14_put.f k x7 x187001 x187000 true).bind fun t187 => (if x187002 > 0 then (if x187002 > x1 then (if x187002 ≤ x2 then ((doormanref14_put.f k t187 x187002 x187000 false).bind fun t190 => (doormanref14_Events.l0 k x1 x2 t190 (wrap64 (x8 + 1)) x185000 x185001)) else (doormanref14_Events.l0 k x1 x2 t187 (wrap64 (x8 + 1)) x185000 x185001)) else (doormanref14_Events.l0 k x1 x2 t187 (wrap64 (x8 + 1)) x185000 x185001)) else (doormanref14_Events.l0 k x1 x2 t187 (wrap64 (x8 + 1)) x185000 x185001))) else (if x187002 > 0 then (if x187002 > x1 then (if x187002 ≤ x2 then ((doormanref14_put.f k x7 x187002 x187000 false).bind fun t193 => (doormanref14_Events.l0 k x1 x2 t193 (wrap64 (x8 + 1)) x185000 x185001)) else (doormanref14_Events.l0 k x1 x2 x7 (wrap64 (x8 + 1)) x185000 x185001)) else (doormanref14_Events.l0 k x1 x2 x7 (wrap64 (x8 + 1)) x185000 x185001)) else (doormanref14_Events.l0 k x1 x2 x7 (wrap64 (x8 + 1)) x185000 x185001))
end
def doormanref14_Events.f (k : Nat) (l0_0 : List (S102)) (a0_1 : Int) (a1 : Int) (a2 : Int) : Option ((List (S74))) := doormanref14_Events.l0 k a1 a2 ([] : List (S74)) 0 l0_0 a0_1
theorem doormanref14_Events.mono_l : ∀ k, (∀ y0 y1 y2 y3 y4 y5, LeO (doormanref14_Events.l0 k y0 y1 y2 y3 y4 y5) (doormanref14_Events.l0 (k + 1) y0 y1 y2 y3 y4 y5)) ∧ (∀ y0 y1 y2 y3 y4 y5 y6 y7 y8 y9, LeO (doormanref14_Events.j1 k y0 y1 y2 y3 y4 y5 y6 y7 y8 y9) (doormanref14_Events.j1 (k + 1) y0 y1 y2 y3 y4 y5 y6 y7 y8 y9))
  | 0 => ⟨fun _ _ _ _ _ _ r h => by simp [doormanref14_Events.l0] at h, fun _ _ _ _ _ _ _ _ _ _ r h => by simp [doormanref14_Events.j1] at h⟩
  | k + 1 => by
    obtain ⟨ih0, ih1⟩ := doormanref14_Events.mono_l k
    refine ⟨?_, ?_⟩
    · intro y0 y1 y2 y3 y4 y5
      unfold doormanref14_Events.l0
      repeat' first
      | (with_reducible exact ih0 _ _ _ _ _ _)
      | (with_reducible exact ih1 _ _ _ _ _ _ _ _ _ _)
      | (with_reducible exact doormanref14_put.mono _ _ _ _ _)
      | (with_reducible exact LeO.refl _)
      | (with_reducible exact LeO.none _)
      | (with_reducible refine LeO.ite ?_ ?_)
      | (with_reducible refine LeO.bind ?_ (fun _ => ?_))
      | exact ih0 _ _ _ _ _ _
      | exact ih1 _ _ _ _ _ _ _ _ _ _
      | exact doormanref14_put.mono _ _ _ _ _
      | exact LeO.none _
      | refine LeO.ite ?_ ?_
      | refine LeO.bind ?_ (fun _ => ?_)
    · intro y0 y1 y2 y3 y4 y5 y6 y7 y8 y9
      unfold doormanref14_Events.j1
      repeat' first
      | (with_reducible exact ih0 _ _ _ _ _ _)
      | (with_reducible exact ih1 _ _ _ _ _ _ _ _ _ _)
      | (with_reducible exact doormanref14_put.mono _ _ _ _ _)
      | (with_reducible exact LeO.refl _)
      | (with_reducible exact LeO.none _)
      | (with_reducible refine LeO.ite ?_ ?_)
      | (with_reducible refine LeO.bind ?_ (fun _ => ?_))
      | exact ih0 _ _ _ _ _ _
      | exact ih1 _ _ _ _ _ _ _ _ _ _
      | exact doormanref14_put.mono _ _ _ _ _
      | exact LeO.none _
      | refine LeO.ite ?_ ?_
      | refine LeO.bind ?_ (fun _ => ?_)
theorem doormanref14_Events.mono : ∀ a0 a1 a2 a3 k, LeO (doormanref14_Events.f k a0 a1 a2 a3) (doormanref14_Events.f (k + 1) a0 a1 a2 a3) := by
  intro a0 a1 a2 a3 k
  obtain ⟨ih0, ih1⟩ := doormanref14_Events.mono_l k
  unfold doormanref14_Events.f
  repeat' first
      | (with_reducible exact ih0 _ _ _ _ _ _)
      | (with_reducible exact ih1 _ _ _ _ _ _ _ _ _ _)
      | (with_reducible exact doormanref14_put.mono _ _ _ _ _)
      | (with_reducible exact LeO.refl _)
      | (with_reducible exact LeO.none _)
      | (with_reducible refine LeO.ite ?_ ?_)
      | (with_reducible refine LeO.bind ?_ (fun _ => ?_))
      | exact ih0 _ _ _ _ _ _
      | exact ih1 _ _ _ _ _ _ _ _ _ _
      | exact doormanref14_put.mono _ _ _ _ _
      | exact LeO.none _
      | refine LeO.ite ?_ ?_
      | refine LeO.bind ?_ (fun _ => ?_)
set_option maxHeartbeats 8000000 in
set_option maxRecDepth 100000 in
theorem doormanref14_Events.calls (k : Nat) (A0_0 : Option Addr) (c0_0 : Nat) (l0_0 : List (S102)) (a0_1 : Int) (a1 : Int) (a2 : Int) (r : List (S74)) (w : World) (hr0_0 : Kd.C k102 w A0_0 l0_0.length l0_0) (hc0_0 : l0_0.length ≤ c0_0) (h : doormanref14_Events.f k l0_0 a0_1 a1 a2 = some r) :
    Calls Try.prog 39 #[.agg #[.slice A0_0 l0_0.length c0_0, .int .i64 a0_1], .int .i64 a1, .int .i64 a2] w fun e w' => ∃ v0_ : Value, e = .returned (v0_) ∧ Kd.R k74 74 w' w.heap.size (fun _ => True) v0_ r ∧ Below w.heap.size w w' := by
  have hu54 := Try.underlying54
  have hu102 := Try.underlying102
  have hu74 := Try.underlying74
  have HR0_0 := Aside0.mk hr0_0
  have HC0_0 := Aside0.mk hc0_0
  clear hr0_0 hc0_0
  have HB := Aside0.mk (Below.refl w.heap.size w)
  have H : (doormanref14_Events.l0 k a1 a2 ([] : List (S74)) 0 l0_0 a0_1) = some r := h
  clear h
  have H' := Aside0.mk H
  clear H
  go_enter Try.func39, Try.ntmps39
  go_wp2_with (first | ((with_reducible refine gate_dst (N := 3) rfl ?_); refine box_event ?hg (N := 3) ?hd (cs := #[.slice A0_0 l0_0.length c0_0, .int .i64 a0_1]) (t := 54) ?hr ?_; (case hd => rfl); (case hg => rfl); (case hr => first | (go_simp; done) | (go_simp; rfl)); intro gb184 hg w4 hbox hb; have n0_ := Aside0.mk (below_step (by repeat (first | (with_reducible first | exact HB.out | apply below_alloc | apply pw_below_drewN | apply below_drew1) | exact HB.out)) hb); have n1_ := Aside0.mk (hbox); have n2_ := Aside0.mk ((by rw [hg]; exact (below_size (by repeat (first | (with_reducible first | exact HB.out | apply below_alloc | apply pw_below_drewN | apply below_drew1) | exact HB.out))) : w.heap.size ≤ gb184)); have n3_ := Aside0.mk ((by rw [hg]; exact (below_size (by repeat (first | (with_reducible first | exact HB.out | apply below_alloc | apply pw_below_drewN | apply below_drew1) | exact HB.out))) : w.heap.size ≤ gb184)); clear HB; have HB := n0_; have BK184 := n1_; have GW184 := n2_; have GE184 := n3_; clear n0_ n1_ n2_ n3_; clear hb hbox hg))
  go_loopg [7, 8] k (fun kq v7 v8 w' => ∃ (x7_1 : List (S74)) (x8_1 : Int), v8 = .int .i64 x8_1 ∧ Aside0 (doormanref14_Events.l0 kq a1 a2 x7_1 x8_1 l0_0 a0_1 = some r) ∧ Aside0 (kq ≤ k) ∧ Aside0 (Kd.R k74 74 w' w.heap.size (fun _ => True) v7 x7_1) ∧ Aside0 (w'.heap[gb184]? = some (.cells #[(.slice A0_0 l0_0.length c0_0), .int .i64 a0_1] 54 (0, 0))) ∧ Aside0 (Below w.heap.size w w'))
  case atStart => exact ⟨(([] : List (S74))), (0), (by first | rfl | (simp; done) | (simp [*]; done)), H', ⟨Nat.le_refl _⟩, ⟨by first | exact Kd.R_nil _ _ _ _ _ | exact Kd.N_nil _ _ _ _ _ | exact Kd.V_nil _ _ _ _ _ | exact Kd.Q_nil _ _ _ _ _ | exact Kd.S_nil _ _ _ _ _⟩, ⟨by (with_reducible repeat (first | refine blk_drewN ?_ _ | refine blk_drew ?_ | refine blk_alloc ?_ _)); exact BK184.out⟩, ⟨by repeat (first | (with_reducible first | exact HB.out | apply below_alloc | apply pw_below_drewN | apply below_drew1 | refine below_set ?_ GE184.out) | exact HB.out)⟩⟩
  case round =>
    clear H'
    try clear p2
    try clear c3
    obtain ⟨x7_1, x8_1, rfl, HA, HK1, HO_7, BK184, HB⟩ := hrel
    cases gk with
    | zero => exact absurd HA.out (by simp [doormanref14_Events.l0])
    | succ k1 =>
      have H := HA.out
      clear HA
      simp only [doormanref14_Events.l0] at H
      by_cases c5 : x8_1 < (l0_0.length : Int)
      · rw [if_pos c5] at H
        have c5b0 : decide (x8_1 < (l0_0.length : Int)) = true := decide_eq_true c5
        clear c5
        by_cases c6 : 0 ≤ x8_1
        · rw [if_pos c6] at H
          have c6b0 : decide (0 ≤ x8_1) = true := decide_eq_true c6
          clear c6
          have HC7 := Aside0.mk H
          clear H
          have hcz8_0 : wr.cell? ⟨gb184, 0, none⟩ = some (.slice A0_0 l0_0.length c0_0) := (blk_cell BK184.out 0).trans rfl
          have hcz8_1 : wr.cell? ⟨gb184, 1, none⟩ = some (.int .i64 a0_1) := (blk_cell BK184.out 1).trans rfl
          have hfz8_0 := blk_frozen BK184.out 0
          have hfz8_1 := blk_frozen BK184.out 1
          have p185 : 0 ≤ (x8_1 : Int) := of_decide_eq_true (by first | (with_reducible assumption) | assumption)
          have q185 : x8_1 < (l0_0.length : Int) := of_decide_eq_true (by first | (with_reducible assumption) | assumption)
          obtain ⟨ad185, e185, hx185_0, hx185_1, hx185_2⟩ := at_T102 HR0_0.out x8_1 p185 q185
          cases e185
          try replace hx185_0 := (HB.out.cell (World.block_lt_of_cell? w _ hx185_0)).trans hx185_0
          try replace hx185_1 := (HB.out.cell (World.block_lt_of_cell? w _ hx185_1)).trans hx185_1
          try replace hx185_2 := (HB.out.cell (World.block_lt_of_cell? w _ hx185_2)).trans hx185_2
          replace p185 := eq_true p185
          replace q185 := eq_true q185
          go_upto_region 6 with (first | ((with_reducible refine gate_dst (N := 9) rfl ?_); refine box_event ?hg (N := 9) ?hd (cs := #[.string (⟨#[]⟩ : ByteArray), .int .i64 0, .int .i64 0]) (t := 102) ?hr ?_; (case hd => rfl); (case hg => rfl); (case hr => first | (go_simp; done) | (go_simp; rfl)); intro gb186 hg w9 hbox hb; have n0_ := Aside0.mk (Kd.R_below (by (with_reducible repeat (first | apply Kd.R_alloc | apply Kd.R_drewN | apply Kd.R_drew)); exact HO_7.out) hb); have n1_ := Aside0.mk (blk_below (g := gb184) (o := .cells #[.slice (some ad185) l0_0.length c0_0, .int .i64 a0_1] 54 (0, 0)) (by (with_reducible repeat (first | refine blk_drewN ?_ _ | refine blk_drew ?_ | refine blk_alloc ?_ _)); exact BK184.out) hb); have n2_ := Aside0.mk (below_step (by repeat (first | (with_reducible first | exact HB.out | apply below_alloc | apply pw_below_drewN | apply below_drew1 | refine below_set ?_ GE184.out) | exact HB.out)) hb); have n3_ := Aside0.mk (hbox); have n4_ := Aside0.mk ((by rw [hg]; exact (below_size (by repeat (first | (with_reducible first | exact HB.out | apply below_alloc | apply pw_below_drewN | apply below_drew1 | refine below_set ?_ GE184.out) | exact HB.out))) : w.heap.size ≤ gb186)); have n5_ := Aside0.mk ((by rw [hg]; exact (below_size (by repeat (first | (with_reducible first | exact HB.out | apply below_alloc | apply pw_below_drewN | apply below_drew1 | refine below_set ?_ GE184.out) | exact HB.out))) : w.heap.size ≤ gb186)); have n6_ := Aside0.mk ((by rw [hg]; exact Nat.ne_of_lt (blk_lt (g := gb184) (o := .cells #[.slice (some ad185) l0_0.length c0_0, .int .i64 a0_1] 54 (0, 0)) (by (with_reducible repeat (first | refine blk_drewN ?_ _ | refine blk_drew ?_ | refine blk_alloc ?_ _)); exact BK184.out)) : gb184 ≠ gb186)); have n7_ := Aside0.mk ((by rw [hg]; exact Nat.ne_of_gt (blk_lt (g := gb184) (o := .cells #[.slice (some ad185) l0_0.length c0_0, .int .i64 a0_1] 54 (0, 0)) (by (with_reducible repeat (first | refine blk_drewN ?_ _ | refine blk_drew ?_ | refine blk_alloc ?_ _)); exact BK184.out)) : gb186 ≠ gb184)); clear HO_7; clear BK184; clear HB; have HO_7 := n0_; have BK184 := n1_; have HB := n2_; have BK186 := n3_; have GW186 := n4_; have GE186 := n5_; have NB184_186 := n6_; have NB186_184 := n7_; clear n0_ n1_ n2_ n3_ n4_ n5_ n6_ n7_; clear hb hbox hg; have hnb10 := NB186_184.out; have hnc10 := NB184_186.out; have hcz11_0 : w9.cell? ⟨gb186, 0, none⟩ = some (.string (⟨#[]⟩ : ByteArray)) := (blk_cell BK186.out 0).trans rfl; have hcz11_1 : w9.cell? ⟨gb186, 1, none⟩ = some (.int .i64 0) := (blk_cell BK186.out 1).trans rfl; have hcz11_2 : w9.cell? ⟨gb186, 2, none⟩ = some (.int .i64 0) := (blk_cell BK186.out 2).trans rfl; have hfz11_0 := blk_frozen BK186.out 0; have hfz11_1 := blk_frozen BK186.out 1; have hfz11_2 := blk_frozen BK186.out 2))
          (try simp only [Act.put, List.setIfInBounds_toArray, List.set_cons_zero, List.set_cons_succ])
          go_cut [31] (fun v31 wc => ∃ (kq : Nat) (x31_6 : Bool), v31 = .bool x31_6 ∧ Aside0 (doormanref14_Events.j1 kq a1 a2 x7_1 x8_1 x31_6 l0_0 a0_1 ((rd_T102 l0_0 x8_1).f0) ((rd_T102 l0_0 x8_1).f1) ((rd_T102 l0_0 x8_1).f2) = some r) ∧ Aside0 (kq ≤ k1) ∧ Aside0 (Kd.R k74 74 wc w.heap.size (fun _ => True) u7 x7_1) ∧ Aside0 (wc.heap[gb184]? = some (.cells #[(.slice (some ad185) l0_0.length c0_0), .int .i64 a0_1] 54 (0, 0))) ∧ Aside0 (wc.heap[gb186]? = some (.cells #[.string ((rd_T102 l0_0 x8_1).f0), .int .i64 ((rd_T102 l0_0 x8_1).f1), .int .i64 ((rd_T102 l0_0 x8_1).f2)] 102 (0, 0))) ∧ Aside0 (Below w.heap.size w wc))
          case first =>
            have H := HC7.out
            clear HC7
            by_cases c12 : ((rd_T102 l0_0 x8_1).f1) > a1
            · rw [if_pos c12] at H
              have c12b0 : decide (a1 < ((rd_T102 l0_0 x8_1).f1)) = true := decide_eq_true c12
              clear c12
              (first | rw [c12b0] | (simp only [i64_w, i32_w]; rw [c12b0]) | skip)
              have H' := Aside0.mk H
              clear H
              have hnb13 := NB186_184.out
              have hnc13 := NB184_186.out
              have hcz14_0 : w9.cell? ⟨gb186, 0, none⟩ = some (.string (⟨#[]⟩ : ByteArray)) := (blk_cell BK186.out 0).trans rfl
              have hcz14_1 : w9.cell? ⟨gb186, 1, none⟩ = some (.int .i64 0) := (blk_cell BK186.out 1).trans rfl
              have hcz14_2 : w9.cell? ⟨gb186, 2, none⟩ = some (.int .i64 0) := (blk_cell BK186.out 2).trans rfl
              have hfz14_0 := blk_frozen BK186.out 0
              have hfz14_1 := blk_frozen BK186.out 1
              have hfz14_2 := blk_frozen BK186.out 2
              go_wp2
              go_meet
              case rel => exact ⟨_, (decide (((rd_T102 l0_0 x8_1).f1) ≤ a2)), (by first | rfl | (simp; done) | (simp [*]; done)), H', ⟨by have := HK1.out; first | omega | exact Nat.le_refl _⟩, ⟨by (with_reducible repeat (first | apply Kd.R_alloc | apply Kd.R_drewN | apply Kd.R_drew)); exact Kd.R_mono (Kd.R_far (p := ⟨gb186, 2, none⟩) (Kd.R_far (p := ⟨gb186, 1, none⟩) (Kd.R_far (p := ⟨gb186, 0, none⟩) (Kd.R_types HO_7.out BK186.out (by decide)) (fun _ hk => hk.2) (.string ((rd_T102 l0_0 x8_1).f0))) (fun _ hk => hk.2) (.int .i64 ((rd_T102 l0_0 x8_1).f1))) (fun _ hk => hk.2) (.int .i64 ((rd_T102 l0_0 x8_1).f2))) (fun _ hk => trivial)⟩, ⟨by (with_reducible repeat (first | refine blk_drewN ?_ _ | refine blk_drew ?_ | refine blk_alloc ?_ _)); refine blk_far ?_ NB184_186.out _; (with_reducible repeat (first | refine blk_drewN ?_ _ | refine blk_drew ?_ | refine blk_alloc ?_ _)); refine blk_far ?_ NB184_186.out _; (with_reducible repeat (first | refine blk_drewN ?_ _ | refine blk_drew ?_ | refine blk_alloc ?_ _)); refine blk_far ?_ NB184_186.out _; (with_reducible repeat (first | refine blk_drewN ?_ _ | refine blk_drew ?_ | refine blk_alloc ?_ _)); exact BK184.out⟩, ⟨by (with_reducible repeat (first | refine blk_drewN ?_ _ | refine blk_drew ?_ | refine blk_alloc ?_ _)); refine blk_put (cs := #[.string ((rd_T102 l0_0 x8_1).f0), .int .i64 ((rd_T102 l0_0 x8_1).f1), .int .i64 0]) ?_ 2 _ rfl; (with_reducible repeat (first | refine blk_drewN ?_ _ | refine blk_drew ?_ | refine blk_alloc ?_ _)); refine blk_put (cs := #[.string ((rd_T102 l0_0 x8_1).f0), .int .i64 0, .int .i64 0]) ?_ 1 _ rfl; (with_reducible repeat (first | refine blk_drewN ?_ _ | refine blk_drew ?_ | refine blk_alloc ?_ _)); refine blk_put (cs := #[.string (⟨#[]⟩ : ByteArray), .int .i64 0, .int .i64 0]) ?_ 0 _ rfl; (with_reducible repeat (first | refine blk_drewN ?_ _ | refine blk_drew ?_ | refine blk_alloc ?_ _)); exact BK186.out⟩, ⟨by repeat (first | (with_reducible first | exact HB.out | apply below_alloc | apply pw_below_drewN | apply below_drew1 | refine below_set ?_ GE184.out | refine below_set ?_ GE186.out) | exact HB.out)⟩⟩
            · rw [if_neg c12] at H
              have c12b0 : decide (a1 < ((rd_T102 l0_0 x8_1).f1)) = false := decide_eq_false c12
              clear c12
              (first | rw [c12b0] | (simp only [i64_w, i32_w]; rw [c12b0]) | skip)
              have H' := Aside0.mk H
              clear H
              have hnb15 := NB186_184.out
              have hnc15 := NB184_186.out
              have hcz16_0 : w9.cell? ⟨gb186, 0, none⟩ = some (.string (⟨#[]⟩ : ByteArray)) := (blk_cell BK186.out 0).trans rfl
              have hcz16_1 : w9.cell? ⟨gb186, 1, none⟩ = some (.int .i64 0) := (blk_cell BK186.out 1).trans rfl
              have hcz16_2 : w9.cell? ⟨gb186, 2, none⟩ = some (.int .i64 0) := (blk_cell BK186.out 2).trans rfl
              have hfz16_0 := blk_frozen BK186.out 0
              have hfz16_1 := blk_frozen BK186.out 1
              have hfz16_2 := blk_frozen BK186.out 2
              go_wp2
              go_meet
              case rel => exact ⟨_, (false), (by first | rfl | (simp; done) | (simp [*]; done)), H', ⟨by have := HK1.out; first | omega | exact Nat.le_refl _⟩, ⟨by (with_reducible repeat (first | apply Kd.R_alloc | apply Kd.R_drewN | apply Kd.R_drew)); exact Kd.R_mono (Kd.R_far (p := ⟨gb186, 2, none⟩) (Kd.R_far (p := ⟨gb186, 1, none⟩) (Kd.R_far (p := ⟨gb186, 0, none⟩) (Kd.R_types HO_7.out BK186.out (by decide)) (fun _ hk => hk.2) (.string ((rd_T102 l0_0 x8_1).f0))) (fun _ hk => hk.2) (.int .i64 ((rd_T102 l0_0 x8_1).f1))) (fun _ hk => hk.2) (.int .i64 ((rd_T102 l0_0 x8_1).f2))) (fun _ hk => trivial)⟩, ⟨by (with_reducible repeat (first | refine blk_drewN ?_ _ | refine blk_drew ?_ | refine blk_alloc ?_ _)); refine blk_far ?_ NB184_186.out _; (with_reducible repeat (first | refine blk_drewN ?_ _ | refine blk_drew ?_ | refine blk_alloc ?_ _)); refine blk_far ?_ NB184_186.out _; (with_reducible repeat (first | refine blk_drewN ?_ _ | refine blk_drew ?_ | refine blk_alloc ?_ _)); refine blk_far ?_ NB184_186.out _; (with_reducible repeat (first | refine blk_drewN ?_ _ | refine blk_drew ?_ | refine blk_alloc ?_ _)); exact BK184.out⟩, ⟨by (with_reducible repeat (first | refine blk_drewN ?_ _ | refine blk_drew ?_ | refine blk_alloc ?_ _)); refine blk_put (cs := #[.string ((rd_T102 l0_0 x8_1).f0), .int .i64 ((rd_T102 l0_0 x8_1).f1), .int .i64 0]) ?_ 2 _ rfl; (with_reducible repeat (first | refine blk_drewN ?_ _ | refine blk_drew ?_ | refine blk_alloc ?_ _)); refine blk_put (cs := #[.string ((rd_T102 l0_0 x8_1).f0), .int .i64 0, .int .i64 0]) ?_ 1 _ rfl; (with_reducible repeat (first | refine blk_drewN ?_ _ | refine blk_drew ?_ | refine blk_alloc ?_ _)); refine blk_put (cs := #[.string (⟨#[]⟩ : ByteArray), .int .i64 0, .int .i64 0]) ?_ 0 _ rfl; (with_reducible repeat (first | refine blk_drewN ?_ _ | refine blk_drew ?_ | refine blk_alloc ?_ _)); exact BK186.out⟩, ⟨by repeat (first | (with_reducible first | exact HB.out | apply below_alloc | apply pw_below_drewN | apply below_drew1 | refine below_set ?_ GE184.out | refine below_set ?_ GE186.out) | exact HB.out)⟩⟩
          case rest =>
            clear HC7
            try clear c1
            try clear p1
            try clear q1
            try clear hx1
            try clear p2
            try clear c3
            try clear c5
            try clear c5b0
            try clear c6
            try clear c6b0
            try clear c10
            try clear c12
            try clear c12b0
            try clear c13
            try clear c15
            try clear hcz11_0
            try clear hcz11_1
            try clear hcz11_2
            try clear hcz14_0
            try clear hcz14_1
            try clear hcz14_2
            try clear hcz16_0
            try clear hcz16_1
            try clear hcz16_2
            try clear hcz8_0
            try clear hcz8_1
            try clear hfz11_0
            try clear hfz11_1
            try clear hfz11_2
            try clear hfz14_0
            try clear hfz14_1
            try clear hfz14_2
            try clear hfz16_0
            try clear hfz16_1
            try clear hfz16_2
            try clear hfz8_0
            try clear hfz8_1
            try clear hx185_0
            try clear hx185_1
            try clear hx185_2
            try clear p185
            try clear p2
            try clear q185
            obtain ⟨kq, x31_6, rfl, HA, HJ6, HO_7, BK184, BK186, HB⟩ := hcut
            cases kq with
            | zero => exact absurd HA.out (by simp [doormanref14_Events.j1])
            | succ kj6 =>
              have H := HA.out
              clear HA
              simp only [doormanref14_Events.j1] at H
              by_cases c17 : x31_6 = true
              · subst c17
                have H1 : ((doormanref14_put.f kj6 x7_1 ((rd_T102 l0_0 x8_1).f1) ((rd_T102 l0_0 x8_1).f0) true).bind fun t187 => (if ((rd_T102 l0_0 x8_1).f2) > 0 then (if ((rd_T102 l0_0 x8_1).f2) > a1 then (if ((rd_T102 l0_0 x8_1).f2) ≤ a2 then ((doormanref14_put.f kj6 t187 ((rd_T102 l0_0 x8_1).f2) ((rd_T102 l0_0 x8_1).f0) false).bind fun t190 => (doormanref14_Events.l0 kj6 a1 a2 t190 (wrap64 (x8_1 + 1)) l0_0 a0_1)) else (doormanref14_Events.l0 kj6 a1 a2 t187 (wrap64 (x8_1 + 1)) l0_0 a0_1)) else (doormanref14_Events.l0 kj6 a1 a2 t187 (wrap64 (x8_1 + 1)) l0_0 a0_1)) else (doormanref14_Events.l0 kj6 a1 a2 t187 (wrap64 (x8_1 + 1)) l0_0 a0_1))) = some r := by rw [if_pos rfl] at H; exact H
                clear H
                have H := H1
                clear H1
                replace H := Option.bind_eq_some_iff.mp H
                obtain ⟨t187, A180, H⟩ := H
                replace H : (if ((rd_T102 l0_0 x8_1).f2) > 0 then (if ((rd_T102 l0_0 x8_1).f2) > a1 then (if ((rd_T102 l0_0 x8_1).f2) ≤ a2 then ((doormanref14_put.f kj6 t187 ((rd_T102 l0_0 x8_1).f2) ((rd_T102 l0_0 x8_1).f0) false).bind fun t190 => (doormanref14_Events.l0 kj6 a1 a2 t190 (wrap64 (x8_1 + 1)) l0_0 a0_1)) else (doormanref14_Events.l0 kj6 a1 a2 t187 (wrap64 (x8_1 + 1)) l0_0 a0_1)) else (doormanref14_Events.l0 kj6 a1 a2 t187 (wrap64 (x8_1 + 1)) l0_0 a0_1)) else (doormanref14_Events.l0 kj6 a1 a2 t187 (wrap64 (x8_1 + 1)) l0_0 a0_1)) = some r := H
                have A18 := Aside0.mk A180
                clear A180
                by_cases c19 : ((rd_T102 l0_0 x8_1).f2) > 0
                · rw [if_pos c19] at H
                  have c19b0 : decide (0 < ((rd_T102 l0_0 x8_1).f2)) = true := decide_eq_true c19
                  clear c19
                  by_cases c20 : ((rd_T102 l0_0 x8_1).f2) > a1
                  · rw [if_pos c20] at H
                    have c20b0 : decide (a1 < ((rd_T102 l0_0 x8_1).f2)) = true := decide_eq_true c20
                    clear c20
                    by_cases c21 : ((rd_T102 l0_0 x8_1).f2) ≤ a2
                    · rw [if_pos c21] at H
                      have c21b0 : decide (((rd_T102 l0_0 x8_1).f2) ≤ a2) = true := decide_eq_true c21
                      clear c21
                      replace H := Option.bind_eq_some_iff.mp H
                      obtain ⟨t190, A220, H⟩ := H
                      replace H : (doormanref14_Events.l0 kj6 a1 a2 t190 (wrap64 (x8_1 + 1)) l0_0 a0_1) = some r := H
                      have A22 := Aside0.mk A220
                      clear A220
                      have H' := Aside0.mk H
                      clear H
                      have hnb23 := NB186_184.out
                      have hnc23 := NB184_186.out
                      have hcz24_0 : wc.cell? ⟨gb186, 0, none⟩ = some (.string ((rd_T102 l0_0 x8_1).f0)) := (blk_cell BK186.out 0).trans rfl
                      have hcz24_1 : wc.cell? ⟨gb186, 1, none⟩ = some (.int .i64 ((rd_T102 l0_0 x8_1).f1)) := (blk_cell BK186.out 1).trans rfl
                      have hcz24_2 : wc.cell? ⟨gb186, 2, none⟩ = some (.int .i64 ((rd_T102 l0_0 x8_1).f2)) := (blk_cell BK186.out 2).trans rfl
                      have hfz24_0 := blk_frozen BK186.out 0
                      have hfz24_1 := blk_frozen BK186.out 1
                      have hfz24_2 := blk_frozen BK186.out 2
                      obtain ⟨Ao25, co25, eo25⟩ := Kd.R_slice HO_7.out
                      subst eo25
                      go_wp2_with (first | ((with_reducible refine gate_callee (f := 67) rfl ?_); refine goesL_ (some 38) rfl rfl Try.func67 (by kernel_rfl) rfl #[.slice Ao25 x7_1.length co25, .agg #[.int .i64 ((rd_T102 l0_0 x8_1).f1), .string ((rd_T102 l0_0 x8_1).f0), .bool true]] rfl (by (try simp only [List.map_toArray, List.map_cons, List.map_nil]); first | done | rfl | (simp only [List.length_drop, List.length_take]; rfl)) ?_; (with_reducible refine (doormanref14_put.calls kj6 _ _ x7_1 ((rd_T102 l0_0 x8_1).f1) ((rd_T102 l0_0 x8_1).f0) true t187 _ ?side1 ?side2 A18.out).mono ?_); (case side1 => repeat (first | exact (Kd.R_reads' HO_7.out).2.2 | (with_reducible refine Kd.C_alloc ?_ _) | (with_reducible refine Kd.C_drewN ?_ _) | (with_reducible refine Kd.C_drew ?_))); (case side2 => exact (Kd.R_reads' HO_7.out).2.1); rintro e w26 ⟨v188, rfl, ho0, hb⟩; refine ⟨_, rfl, ?_⟩; have n0_ := Aside0.mk (Kd.R_elder' (by (with_reducible repeat (first | apply Kd.R_alloc | apply Kd.R_drewN | apply Kd.R_drew)); exact HO_7.out) (Kd.R_base ho0) hb); have n1_ := Aside0.mk (Kd.R_lower (Kd.R_new' ho0 (Kd.R_lt (by (with_reducible repeat (first | apply Kd.R_alloc | apply Kd.R_drewN | apply Kd.R_drew)); exact HO_7.out))) (below_size (by repeat (first | (with_reducible first | exact HB.out | apply below_alloc | apply pw_below_drewN | apply below_drew1 | refine below_set ?_ GE184.out | refine below_set ?_ GE186.out) | exact HB.out)))); have n2_ := Aside0.mk (blk_below (g := gb184) (o := .cells #[.slice (some ad185) l0_0.length c0_0, .int .i64 a0_1] 54 (0, 0)) (by (with_reducible repeat (first | refine blk_drewN ?_ _ | refine blk_drew ?_ | refine blk_alloc ?_ _)); exact BK184.out) hb); have n3_ := Aside0.mk (blk_below (g := gb186) (o := .cells #[.string ((rd_T102 l0_0 x8_1).f0), .int .i64 ((rd_T102 l0_0 x8_1).f1), .int .i64 ((rd_T102 l0_0 x8_1).f2)] 102 (0, 0)) (by (with_reducible repeat (first | refine blk_drewN ?_ _ | refine blk_drew ?_ | refine blk_alloc ?_ _)); exact BK186.out) hb); have n4_ := Aside0.mk (below_step (by repeat (first | (with_reducible first | exact HB.out | apply below_alloc | apply pw_below_drewN | apply below_drew1 | refine below_set ?_ GE184.out | refine below_set ?_ GE186.out) | exact HB.out)) hb); clear HO_7; clear BK184; clear BK186; clear HB; have HO_7 := n0_; have HO189 := n1_; have BK184 := n2_; have BK186 := n3_; have HB := n4_; clear n0_ n1_ n2_ n3_ n4_; (try clear hb); (try clear hb2); (try clear hk); (try clear hi); (try clear ho0); have hcz27_0 : w26.cell? ⟨gb186, 0, none⟩ = some (.string ((rd_T102 l0_0 x8_1).f0)) := (blk_cell BK186.out 0).trans rfl; have hcz27_1 : w26.cell? ⟨gb186, 1, none⟩ = some (.int .i64 ((rd_T102 l0_0 x8_1).f1)) := (blk_cell BK186.out 1).trans rfl; have hcz27_2 : w26.cell? ⟨gb186, 2, none⟩ = some (.int .i64 ((rd_T102 l0_0 x8_1).f2)) := (blk_cell BK186.out 2).trans rfl; have hfz27_0 := blk_frozen BK186.out 0; have hfz27_1 := blk_frozen BK186.out 1; have hfz27_2 := blk_frozen BK186.out 2; obtain ⟨Ao28, co28, eo28⟩ := Kd.R_slice HO189.out; subst eo28) | ((with_reducible refine gate_callee (f := 67) rfl ?_); refine goesL_ (some 60) rfl rfl Try.func67 (by kernel_rfl) rfl #[.slice Ao28 t187.length co28, .agg #[.int .i64 ((rd_T102 l0_0 x8_1).f2), .string ((rd_T102 l0_0 x8_1).f0), .bool false]] rfl (by (try simp only [List.map_toArray, List.map_cons, List.map_nil]); first | done | rfl | (simp only [List.length_drop, List.length_take]; rfl)) ?_; (with_reducible refine (doormanref14_put.calls kj6 _ _ t187 ((rd_T102 l0_0 x8_1).f2) ((rd_T102 l0_0 x8_1).f0) false t190 _ ?side1 ?side2 A22.out).mono ?_); (case side1 => repeat (first | exact (Kd.R_reads' HO189.out).2.2 | (with_reducible refine Kd.C_alloc ?_ _) | (with_reducible refine Kd.C_drewN ?_ _) | (with_reducible refine Kd.C_drew ?_))); (case side2 => exact (Kd.R_reads' HO189.out).2.1); rintro e w29 ⟨v191, rfl, ho0, hb⟩; refine ⟨_, rfl, ?_⟩; have n0_ := Aside0.mk (Kd.R_elder' (by (with_reducible repeat (first | apply Kd.R_alloc | apply Kd.R_drewN | apply Kd.R_drew)); exact HO_7.out) (Kd.R_base ho0) hb); have n1_ := Aside0.mk (Kd.R_elder' (by (with_reducible repeat (first | apply Kd.R_alloc | apply Kd.R_drewN | apply Kd.R_drew)); exact HO189.out) (Kd.R_base ho0) hb); have n2_ := Aside0.mk (Kd.R_lower (Kd.R_new' (Kd.R_new' ho0 (Kd.R_lt (by (with_reducible repeat (first | apply Kd.R_alloc | apply Kd.R_drewN | apply Kd.R_drew)); exact HO_7.out))) (Kd.R_lt (by (with_reducible repeat (first | apply Kd.R_alloc | apply Kd.R_drewN | apply Kd.R_drew)); exact HO189.out))) (below_size (by repeat (first | (with_reducible first | exact HB.out | apply below_alloc | apply pw_below_drewN | apply below_drew1 | refine below_set ?_ GE184.out | refine below_set ?_ GE186.out) | exact HB.out)))); have n3_ := Aside0.mk (blk_below (g := gb184) (o := .cells #[.slice (some ad185) l0_0.length c0_0, .int .i64 a0_1] 54 (0, 0)) (by (with_reducible repeat (first | refine blk_drewN ?_ _ | refine blk_drew ?_ | refine blk_alloc ?_ _)); exact BK184.out) hb); have n4_ := Aside0.mk (blk_below (g := gb186) (o := .cells #[.string ((rd_T102 l0_0 x8_1).f0), .int .i64 ((rd_T102 l0_0 x8_1).f1), .int .i64 ((rd_T102 l0_0 x8_1).f2)] 102 (0, 0)) (by (with_reducible repeat (first | refine blk_drewN ?_ _ | refine blk_drew ?_ | refine blk_alloc ?_ _)); exact BK186.out) hb); have n5_ := Aside0.mk (below_step (by repeat (first | (with_reducible first | exact HB.out | apply below_alloc | apply pw_below_drewN | apply below_drew1 | refine below_set ?_ GE184.out | refine below_set ?_ GE186.out) | exact HB.out)) hb); clear HO_7; clear HO189; clear BK184; clear BK186; clear HB; have HO_7 := n0_; have HO189 := n1_; have HO192 := n2_; have BK184 := n3_; have BK186 := n4_; have HB := n5_; clear n0_ n1_ n2_ n3_ n4_ n5_; (try clear hb); (try clear hb2); (try clear hk); (try clear hi); (try clear ho0)))
                      go_roundg kj6
                      case measure => have := HK1.out; have := HJ6.out; omega
                      case rel => exact ⟨(t190), (wrap64 (x8_1 + 1)), (by first | rfl | (simp; done) | (simp [*]; done)), H', ⟨by have := HK1.out; have := HJ6.out; omega⟩, ⟨by (with_reducible repeat (first | apply Kd.R_alloc | apply Kd.R_drewN | apply Kd.R_drew)); exact Kd.R_mono HO192.out (fun _ hk => trivial)⟩, ⟨by (with_reducible repeat (first | refine blk_drewN ?_ _ | refine blk_drew ?_ | refine blk_alloc ?_ _)); exact BK184.out⟩, ⟨by repeat (first | (with_reducible first | exact HB.out | apply below_alloc | apply pw_below_drewN | apply below_drew1 | refine below_set ?_ GE184.out | refine below_set ?_ GE186.out) | exact HB.out)⟩⟩
                    · rw [if_neg c21] at H
                      have c21b0 : decide (((rd_T102 l0_0 x8_1).f2) ≤ a2) = false := decide_eq_false c21
                      clear c21
                      have H' := Aside0.mk H
                      clear H
                      have hnb30 := NB186_184.out
                      have hnc30 := NB184_186.out
                      have hcz31_0 : wc.cell? ⟨gb186, 0, none⟩ = some (.string ((rd_T102 l0_0 x8_1).f0)) := (blk_cell BK186.out 0).trans rfl
                      have hcz31_1 : wc.cell? ⟨gb186, 1, none⟩ = some (.int .i64 ((rd_T102 l0_0 x8_1).f1)) := (blk_cell BK186.out 1).trans rfl
                      have hcz31_2 : wc.cell? ⟨gb186, 2, none⟩ = some (.int .i64 ((rd_T102 l0_0 x8_1).f2)) := (blk_cell BK186.out 2).trans rfl
                      have hfz31_0 := blk_frozen BK186.out 0
                      have hfz31_1 := blk_frozen BK186.out 1
                      have hfz31_2 := blk_frozen BK186.out 2
                      obtain ⟨Ao32, co32, eo32⟩ := Kd.R_slice HO_7.out
                      subst eo32
                      go_wp2_with (first | ((with_reducible refine gate_callee (f := 67) rfl ?_); refine goesL_ (some 38) rfl rfl Try.func67 (by kernel_rfl) rfl #[.slice Ao32 x7_1.length co32, .agg #[.int .i64 ((rd_T102 l0_0 x8_1).f1), .string ((rd_T102 l0_0 x8_1).f0), .bool true]] rfl (by (try simp only [List.map_toArray, List.map_cons, List.map_nil]); first | done | rfl | (simp only [List.length_drop, List.length_take]; rfl)) ?_; (with_reducible refine (doormanref14_put.calls kj6 _ _ x7_1 ((rd_T102 l0_0 x8_1).f1) ((rd_T102 l0_0 x8_1).f0) true t187 _ ?side1 ?side2 A18.out).mono ?_); (case side1 => repeat (first | exact (Kd.R_reads' HO_7.out).2.2 | (with_reducible refine Kd.C_alloc ?_ _) | (with_reducible refine Kd.C_drewN ?_ _) | (with_reducible refine Kd.C_drew ?_))); (case side2 => exact (Kd.R_reads' HO_7.out).2.1); rintro e w33 ⟨v188, rfl, ho0, hb⟩; refine ⟨_, rfl, ?_⟩; have n0_ := Aside0.mk (Kd.R_elder' (by (with_reducible repeat (first | apply Kd.R_alloc | apply Kd.R_drewN | apply Kd.R_drew)); exact HO_7.out) (Kd.R_base ho0) hb); have n1_ := Aside0.mk (Kd.R_lower (Kd.R_new' ho0 (Kd.R_lt (by (with_reducible repeat (first | apply Kd.R_alloc | apply Kd.R_drewN | apply Kd.R_drew)); exact HO_7.out))) (below_size (by repeat (first | (with_reducible first | exact HB.out | apply below_alloc | apply pw_below_drewN | apply below_drew1 | refine below_set ?_ GE184.out | refine below_set ?_ GE186.out) | exact HB.out)))); have n2_ := Aside0.mk (blk_below (g := gb184) (o := .cells #[.slice (some ad185) l0_0.length c0_0, .int .i64 a0_1] 54 (0, 0)) (by (with_reducible repeat (first | refine blk_drewN ?_ _ | refine blk_drew ?_ | refine blk_alloc ?_ _)); exact BK184.out) hb); have n3_ := Aside0.mk (blk_below (g := gb186) (o := .cells #[.string ((rd_T102 l0_0 x8_1).f0), .int .i64 ((rd_T102 l0_0 x8_1).f1), .int .i64 ((rd_T102 l0_0 x8_1).f2)] 102 (0, 0)) (by (with_reducible repeat (first | refine blk_drewN ?_ _ | refine blk_drew ?_ | refine blk_alloc ?_ _)); exact BK186.out) hb); have n4_ := Aside0.mk (below_step (by repeat (first | (with_reducible first | exact HB.out | apply below_alloc | apply pw_below_drewN | apply below_drew1 | refine below_set ?_ GE184.out | refine below_set ?_ GE186.out) | exact HB.out)) hb); clear HO_7; clear BK184; clear BK186; clear HB; have HO_7 := n0_; have HO189 := n1_; have BK184 := n2_; have BK186 := n3_; have HB := n4_; clear n0_ n1_ n2_ n3_ n4_; (try clear hb); (try clear hb2); (try clear hk); (try clear hi); (try clear ho0); have hcz34_0 : w33.cell? ⟨gb186, 0, none⟩ = some (.string ((rd_T102 l0_0 x8_1).f0)) := (blk_cell BK186.out 0).trans rfl; have hcz34_1 : w33.cell? ⟨gb186, 1, none⟩ = some (.int .i64 ((rd_T102 l0_0 x8_1).f1)) := (blk_cell BK186.out 1).trans rfl; have hcz34_2 : w33.cell? ⟨gb186, 2, none⟩ = some (.int .i64 ((rd_T102 l0_0 x8_1).f2)) := (blk_cell BK186.out 2).trans rfl; have hfz34_0 := blk_frozen BK186.out 0; have hfz34_1 := blk_frozen BK186.out 1; have hfz34_2 := blk_frozen BK186.out 2))
                      go_roundg kj6
                      case measure => have := HK1.out; have := HJ6.out; omega
                      case rel => exact ⟨(t187), (wrap64 (x8_1 + 1)), (by first | rfl | (simp; done) | (simp [*]; done)), H', ⟨by have := HK1.out; have := HJ6.out; omega⟩, ⟨by (with_reducible repeat (first | apply Kd.R_alloc | apply Kd.R_drewN | apply Kd.R_drew)); exact Kd.R_mono HO189.out (fun _ hk => trivial)⟩, ⟨by (with_reducible repeat (first | refine blk_drewN ?_ _ | refine blk_drew ?_ | refine blk_alloc ?_ _)); exact BK184.out⟩, ⟨by repeat (first | (with_reducible first | exact HB.out | apply below_alloc | apply pw_below_drewN | apply below_drew1 | refine below_set ?_ GE184.out | refine below_set ?_ GE186.out) | exact HB.out)⟩⟩
                  · rw [if_neg c20] at H
                    have c20b0 : decide (a1 < ((rd_T102 l0_0 x8_1).f2)) = false := decide_eq_false c20
                    clear c20
                    have H' := Aside0.mk H
                    clear H
                    have hnb35 := NB186_184.out
                    have hnc35 := NB184_186.out
                    have hcz36_0 : wc.cell? ⟨gb186, 0, none⟩ = some (.string ((rd_T102 l0_0 x8_1).f0)) := (blk_cell BK186.out 0).trans rfl
                    have hcz36_1 : wc.cell? ⟨gb186, 1, none⟩ = some (.int .i64 ((rd_T102 l0_0 x8_1).f1)) := (blk_cell BK186.out 1).trans rfl
                    have hcz36_2 : wc.cell? ⟨gb186, 2, none⟩ = some (.int .i64 ((rd_T102 l0_0 x8_1).f2)) := (blk_cell BK186.out 2).trans rfl
                    have hfz36_0 := blk_frozen BK186.out 0
                    have hfz36_1 := blk_frozen BK186.out 1
                    have hfz36_2 := blk_frozen BK186.out 2
                    obtain ⟨Ao37, co37, eo37⟩ := Kd.R_slice HO_7.out
                    subst eo37
                    go_wp2_with (first | ((with_reducible refine gate_callee (f := 67) rfl ?_); refine goesL_ (some 38) rfl rfl Try.func67 (by kernel_rfl) rfl #[.slice Ao37 x7_1.length co37, .agg #[.int .i64 ((rd_T102 l0_0 x8_1).f1), .string ((rd_T102 l0_0 x8_1).f0), .bool true]] rfl (by (try simp only [List.map_toArray, List.map_cons, List.map_nil]); first | done | rfl | (simp only [List.length_drop, List.length_take]; rfl)) ?_; (with_reducible refine (doormanref14_put.calls kj6 _ _ x7_1 ((rd_T102 l0_0 x8_1).f1) ((rd_T102 l0_0 x8_1).f0) true t187 _ ?side1 ?side2 A18.out).mono ?_); (case side1 => repeat (first | exact (Kd.R_reads' HO_7.out).2.2 | (with_reducible refine Kd.C_alloc ?_ _) | (with_reducible refine Kd.C_drewN ?_ _) | (with_reducible refine Kd.C_drew ?_))); (case side2 => exact (Kd.R_reads' HO_7.out).2.1); rintro e w38 ⟨v188, rfl, ho0, hb⟩; refine ⟨_, rfl, ?_⟩; have n0_ := Aside0.mk (Kd.R_elder' (by (with_reducible repeat (first | apply Kd.R_alloc | apply Kd.R_drewN | apply Kd.R_drew)); exact HO_7.out) (Kd.R_base ho0) hb); have n1_ := Aside0.mk (Kd.R_lower (Kd.R_new' ho0 (Kd.R_lt (by (with_reducible repeat (first | apply Kd.R_alloc | apply Kd.R_drewN | apply Kd.R_drew)); exact HO_7.out))) (below_size (by repeat (first | (with_reducible first | exact HB.out | apply below_alloc | apply pw_below_drewN | apply below_drew1 | refine below_set ?_ GE184.out | refine below_set ?_ GE186.out) | exact HB.out)))); have n2_ := Aside0.mk (blk_below (g := gb184) (o := .cells #[.slice (some ad185) l0_0.length c0_0, .int .i64 a0_1] 54 (0, 0)) (by (with_reducible repeat (first | refine blk_drewN ?_ _ | refine blk_drew ?_ | refine blk_alloc ?_ _)); exact BK184.out) hb); have n3_ := Aside0.mk (blk_below (g := gb186) (o := .cells #[.string ((rd_T102 l0_0 x8_1).f0), .int .i64 ((rd_T102 l0_0 x8_1).f1), .int .i64 ((rd_T102 l0_0 x8_1).f2)] 102 (0, 0)) (by (with_reducible repeat (first | refine blk_drewN ?_ _ | refine blk_drew ?_ | refine blk_alloc ?_ _)); exact BK186.out) hb); have n4_ := Aside0.mk (below_step (by repeat (first | (with_reducible first | exact HB.out | apply below_alloc | apply pw_below_drewN | apply below_drew1 | refine below_set ?_ GE184.out | refine below_set ?_ GE186.out) | exact HB.out)) hb); clear HO_7; clear BK184; clear BK186; clear HB; have HO_7 := n0_; have HO189 := n1_; have BK184 := n2_; have BK186 := n3_; have HB := n4_; clear n0_ n1_ n2_ n3_ n4_; (try clear hb); (try clear hb2); (try clear hk); (try clear hi); (try clear ho0); have hcz39_0 : w38.cell? ⟨gb186, 0, none⟩ = some (.string ((rd_T102 l0_0 x8_1).f0)) := (blk_cell BK186.out 0).trans rfl; have hcz39_1 : w38.cell? ⟨gb186, 1, none⟩ = some (.int .i64 ((rd_T102 l0_0 x8_1).f1)) := (blk_cell BK186.out 1).trans rfl; have hcz39_2 : w38.cell? ⟨gb186, 2, none⟩ = some (.int .i64 ((rd_T102 l0_0 x8_1).f2)) := (blk_cell BK186.out 2).trans rfl; have hfz39_0 := blk_frozen BK186.out 0; have hfz39_1 := blk_frozen BK186.out 1; have hfz39_2 := blk_frozen BK186.out 2))
                    go_roundg kj6
                    case measure => have := HK1.out; have := HJ6.out; omega
                    case rel => exact ⟨(t187), (wrap64 (x8_1 + 1)), (by first | rfl | (simp; done) | (simp [*]; done)), H', ⟨by have := HK1.out; have := HJ6.out; omega⟩, ⟨by (with_reducible repeat (first | apply Kd.R_alloc | apply Kd.R_drewN | apply Kd.R_drew)); exact Kd.R_mono HO189.out (fun _ hk => trivial)⟩, ⟨by (with_reducible repeat (first | refine blk_drewN ?_ _ | refine blk_drew ?_ | refine blk_alloc ?_ _)); exact BK184.out⟩, ⟨by repeat (first | (with_reducible first | exact HB.out | apply below_alloc | apply pw_below_drewN | apply below_drew1 | refine below_set ?_ GE184.out | refine below_set ?_ GE186.out) | exact HB.out)⟩⟩
                · rw [if_neg c19] at H
                  have c19b0 : decide (0 < ((rd_T102 l0_0 x8_1).f2)) = false := decide_eq_false c19
                  clear c19
                  have H' := Aside0.mk H
                  clear H
                  have hnb40 := NB186_184.out
                  have hnc40 := NB184_186.out
                  have hcz41_0 : wc.cell? ⟨gb186, 0, none⟩ = some (.string ((rd_T102 l0_0 x8_1).f0)) := (blk_cell BK186.out 0).trans rfl
                  have hcz41_1 : wc.cell? ⟨gb186, 1, none⟩ = some (.int .i64 ((rd_T102 l0_0 x8_1).f1)) := (blk_cell BK186.out 1).trans rfl
                  have hcz41_2 : wc.cell? ⟨gb186, 2, none⟩ = some (.int .i64 ((rd_T102 l0_0 x8_1).f2)) := (blk_cell BK186.out 2).trans rfl
                  have hfz41_0 := blk_frozen BK186.out 0
                  have hfz41_1 := blk_frozen BK186.out 1
                  have hfz41_2 := blk_frozen BK186.out 2
                  obtain ⟨Ao42, co42, eo42⟩ := Kd.R_slice HO_7.out
                  subst eo42
                  go_wp2_with (first | ((with_reducible refine gate_callee (f := 67) rfl ?_); refine goesL_ (some 38) rfl rfl Try.func67 (by kernel_rfl) rfl #[.slice Ao42 x7_1.length co42, .agg #[.int .i64 ((rd_T102 l0_0 x8_1).f1), .string ((rd_T102 l0_0 x8_1).f0), .bool true]] rfl (by (try simp only [List.map_toArray, List.map_cons, List.map_nil]); first | done | rfl | (simp only [List.length_drop, List.length_take]; rfl)) ?_; (with_reducible refine (doormanref14_put.calls kj6 _ _ x7_1 ((rd_T102 l0_0 x8_1).f1) ((rd_T102 l0_0 x8_1).f0) true t187 _ ?side1 ?side2 A18.out).mono ?_); (case side1 => repeat (first | exact (Kd.R_reads' HO_7.out).2.2 | (with_reducible refine Kd.C_alloc ?_ _) | (with_reducible refine Kd.C_drewN ?_ _) | (with_reducible refine Kd.C_drew ?_))); (case side2 => exact (Kd.R_reads' HO_7.out).2.1); rintro e w43 ⟨v188, rfl, ho0, hb⟩; refine ⟨_, rfl, ?_⟩; have n0_ := Aside0.mk (Kd.R_elder' (by (with_reducible repeat (first | apply Kd.R_alloc | apply Kd.R_drewN | apply Kd.R_drew)); exact HO_7.out) (Kd.R_base ho0) hb); have n1_ := Aside0.mk (Kd.R_lower (Kd.R_new' ho0 (Kd.R_lt (by (with_reducible repeat (first | apply Kd.R_alloc | apply Kd.R_drewN | apply Kd.R_drew)); exact HO_7.out))) (below_size (by repeat (first | (with_reducible first | exact HB.out | apply below_alloc | apply pw_below_drewN | apply below_drew1 | refine below_set ?_ GE184.out | refine below_set ?_ GE186.out) | exact HB.out)))); have n2_ := Aside0.mk (blk_below (g := gb184) (o := .cells #[.slice (some ad185) l0_0.length c0_0, .int .i64 a0_1] 54 (0, 0)) (by (with_reducible repeat (first | refine blk_drewN ?_ _ | refine blk_drew ?_ | refine blk_alloc ?_ _)); exact BK184.out) hb); have n3_ := Aside0.mk (blk_below (g := gb186) (o := .cells #[.string ((rd_T102 l0_0 x8_1).f0), .int .i64 ((rd_T102 l0_0 x8_1).f1), .int .i64 ((rd_T102 l0_0 x8_1).f2)] 102 (0, 0)) (by (with_reducible repeat (first | refine blk_drewN ?_ _ | refine blk_drew ?_ | refine blk_alloc ?_ _)); exact BK186.out) hb); have n4_ := Aside0.mk (below_step (by repeat (first | (with_reducible first | exact HB.out | apply below_alloc | apply pw_below_drewN | apply below_drew1 | refine below_set ?_ GE184.out | refine below_set ?_ GE186.out) | exact HB.out)) hb); clear HO_7; clear BK184; clear BK186; clear HB; have HO_7 := n0_; have HO189 := n1_; have BK184 := n2_; have BK186 := n3_; have HB := n4_; clear n0_ n1_ n2_ n3_ n4_; (try clear hb); (try clear hb2); (try clear hk); (try clear hi); (try clear ho0); have hcz44_0 : w43.cell? ⟨gb186, 0, none⟩ = some (.string ((rd_T102 l0_0 x8_1).f0)) := (blk_cell BK186.out 0).trans rfl; have hcz44_1 : w43.cell? ⟨gb186, 1, none⟩ = some (.int .i64 ((rd_T102 l0_0 x8_1).f1)) := (blk_cell BK186.out 1).trans rfl; have hcz44_2 : w43.cell? ⟨gb186, 2, none⟩ = some (.int .i64 ((rd_T102 l0_0 x8_1).f2)) := (blk_cell BK186.out 2).trans rfl; have hfz44_0 := blk_frozen BK186.out 0; have hfz44_1 := blk_frozen BK186.out 1; have hfz44_2 := blk_frozen BK186.out 2))
                  go_roundg kj6
                  case measure => have := HK1.out; have := HJ6.out; omega
                  case rel => exact ⟨(t187), (wrap64 (x8_1 + 1)), (by first | rfl | (simp; done) | (simp [*]; done)), H', ⟨by have := HK1.out; have := HJ6.out; omega⟩, ⟨by (with_reducible repeat (first | apply Kd.R_alloc | apply Kd.R_drewN | apply Kd.R_drew)); exact Kd.R_mono HO189.out (fun _ hk => trivial)⟩, ⟨by (with_reducible repeat (first | refine blk_drewN ?_ _ | refine blk_drew ?_ | refine blk_alloc ?_ _)); exact BK184.out⟩, ⟨by repeat (first | (with_reducible first | exact HB.out | apply below_alloc | apply pw_below_drewN | apply below_drew1 | refine below_set ?_ GE184.out | refine below_set ?_ GE186.out) | exact HB.out)⟩⟩
              · replace c17 := Bool.eq_false_iff.mpr c17
                subst c17
                have H1 : (if ((rd_T102 l0_0 x8_1).f2) > 0 then (if ((rd_T102 l0_0 x8_1).f2) > a1 then (if ((rd_T102 l0_0 x8_1).f2) ≤ a2 then ((doormanref14_put.f kj6 x7_1 ((rd_T102 l0_0 x8_1).f2) ((rd_T102 l0_0 x8_1).f0) false).bind fun t193 => (doormanref14_Events.l0 kj6 a1 a2 t193 (wrap64 (x8_1 + 1)) l0_0 a0_1)) else (doormanref14_Events.l0 kj6 a1 a2 x7_1 (wrap64 (x8_1 + 1)) l0_0 a0_1)) else (doormanref14_Events.l0 kj6 a1 a2 x7_1 (wrap64 (x8_1 + 1)) l0_0 a0_1)) else (doormanref14_Events.l0 kj6 a1 a2 x7_1 (wrap64 (x8_1 + 1)) l0_0 a0_1)) = some r := by rw [if_neg (show ¬ (false = true) by decide)] at H; exact H
                clear H
                have H := H1
                clear H1
                by_cases c45 : ((rd_T102 l0_0 x8_1).f2) > 0
                · rw [if_pos c45] at H
                  have c45b0 : decide (0 < ((rd_T102 l0_0 x8_1).f2)) = true := decide_eq_true c45
                  clear c45
                  by_cases c46 : ((rd_T102 l0_0 x8_1).f2) > a1
                  · rw [if_pos c46] at H
                    have c46b0 : decide (a1 < ((rd_T102 l0_0 x8_1).f2)) = true := decide_eq_true c46
                    clear c46
                    by_cases c47 : ((rd_T102 l0_0 x8_1).f2) ≤ a2
                    · rw [if_pos c47] at H
                      have c47b0 : decide (((rd_T102 l0_0 x8_1).f2) ≤ a2) = true := decide_eq_true c47
                      clear c47
                      replace H := Option.bind_eq_some_iff.mp H
                      obtain ⟨t193, A480, H⟩ := H
                      replace H : (doormanref14_Events.l0 kj6 a1 a2 t193 (wrap64 (x8_1 + 1)) l0_0 a0_1) = some r := H
                      have A48 := Aside0.mk A480
                      clear A480
                      have H' := Aside0.mk H
                      clear H
                      have hnb49 := NB186_184.out
                      have hnc49 := NB184_186.out
                      have hcz50_0 : wc.cell? ⟨gb186, 0, none⟩ = some (.string ((rd_T102 l0_0 x8_1).f0)) := (blk_cell BK186.out 0).trans rfl
                      have hcz50_1 : wc.cell? ⟨gb186, 1, none⟩ = some (.int .i64 ((rd_T102 l0_0 x8_1).f1)) := (blk_cell BK186.out 1).trans rfl
                      have hcz50_2 : wc.cell? ⟨gb186, 2, none⟩ = some (.int .i64 ((rd_T102 l0_0 x8_1).f2)) := (blk_cell BK186.out 2).trans rfl
                      have hfz50_0 := blk_frozen BK186.out 0
                      have hfz50_1 := blk_frozen BK186.out 1
                      have hfz50_2 := blk_frozen BK186.out 2
                      obtain ⟨Ao51, co51, eo51⟩ := Kd.R_slice HO_7.out
                      subst eo51
                      go_wp2_with (first | ((with_reducible refine gate_callee (f := 67) rfl ?_); refine goesL_ (some 60) rfl rfl Try.func67 (by kernel_rfl) rfl #[.slice Ao51 x7_1.length co51, .agg #[.int .i64 ((rd_T102 l0_0 x8_1).f2), .string ((rd_T102 l0_0 x8_1).f0), .bool false]] rfl (by (try simp only [List.map_toArray, List.map_cons, List.map_nil]); first | done | rfl | (simp only [List.length_drop, List.length_take]; rfl)) ?_; (with_reducible refine (doormanref14_put.calls kj6 _ _ x7_1 ((rd_T102 l0_0 x8_1).f2) ((rd_T102 l0_0 x8_1).f0) false t193 _ ?side1 ?side2 A48.out).mono ?_); (case side1 => repeat (first | exact (Kd.R_reads' HO_7.out).2.2 | (with_reducible refine Kd.C_alloc ?_ _) | (with_reducible refine Kd.C_drewN ?_ _) | (with_reducible refine Kd.C_drew ?_))); (case side2 => exact (Kd.R_reads' HO_7.out).2.1); rintro e w52 ⟨v194, rfl, ho0, hb⟩; refine ⟨_, rfl, ?_⟩; have n0_ := Aside0.mk (Kd.R_elder' (by (with_reducible repeat (first | apply Kd.R_alloc | apply Kd.R_drewN | apply Kd.R_drew)); exact HO_7.out) (Kd.R_base ho0) hb); have n1_ := Aside0.mk (Kd.R_lower (Kd.R_new' ho0 (Kd.R_lt (by (with_reducible repeat (first | apply Kd.R_alloc | apply Kd.R_drewN | apply Kd.R_drew)); exact HO_7.out))) (below_size (by repeat (first | (with_reducible first | exact HB.out | apply below_alloc | apply pw_below_drewN | apply below_drew1 | refine below_set ?_ GE184.out | refine below_set ?_ GE186.out) | exact HB.out)))); have n2_ := Aside0.mk (blk_below (g := gb184) (o := .cells #[.slice (some ad185) l0_0.length c0_0, .int .i64 a0_1] 54 (0, 0)) (by (with_reducible repeat (first | refine blk_drewN ?_ _ | refine blk_drew ?_ | refine blk_alloc ?_ _)); exact BK184.out) hb); have n3_ := Aside0.mk (blk_below (g := gb186) (o := .cells #[.string ((rd_T102 l0_0 x8_1).f0), .int .i64 ((rd_T102 l0_0 x8_1).f1), .int .i64 ((rd_T102 l0_0 x8_1).f2)] 102 (0, 0)) (by (with_reducible repeat (first | refine blk_drewN ?_ _ | refine blk_drew ?_ | refine blk_alloc ?_ _)); exact BK186.out) hb); have n4_ := Aside0.mk (below_step (by repeat (first | (with_reducible first | exact HB.out | apply below_alloc | apply pw_below_drewN | apply below_drew1 | refine below_set ?_ GE184.out | refine below_set ?_ GE186.out) | exact HB.out)) hb); clear HO_7; clear BK184; clear BK186; clear HB; have HO_7 := n0_; have HO195 := n1_; have BK184 := n2_; have BK186 := n3_; have HB := n4_; clear n0_ n1_ n2_ n3_ n4_; (try clear hb); (try clear hb2); (try clear hk); (try clear hi); (try clear ho0)))
                      go_roundg kj6
                      case measure => have := HK1.out; have := HJ6.out; omega
                      case rel => exact ⟨(t193), (wrap64 (x8_1 + 1)), (by first | rfl | (simp; done) | (simp [*]; done)), H', ⟨by have := HK1.out; have := HJ6.out; omega⟩, ⟨by (with_reducible repeat (first | apply Kd.R_alloc | apply Kd.R_drewN | apply Kd.R_drew)); exact Kd.R_mono HO195.out (fun _ hk => trivial)⟩, ⟨by (with_reducible repeat (first | refine blk_drewN ?_ _ | refine blk_drew ?_ | refine blk_alloc ?_ _)); exact BK184.out⟩, ⟨by repeat (first | (with_reducible first | exact HB.out | apply below_alloc | apply pw_below_drewN | apply below_drew1 | refine below_set ?_ GE184.out | refine below_set ?_ GE186.out) | exact HB.out)⟩⟩
                    · rw [if_neg c47] at H
                      have c47b0 : decide (((rd_T102 l0_0 x8_1).f2) ≤ a2) = false := decide_eq_false c47
                      clear c47
                      have H' := Aside0.mk H
                      clear H
                      have hnb53 := NB186_184.out
                      have hnc53 := NB184_186.out
                      have hcz54_0 : wc.cell? ⟨gb186, 0, none⟩ = some (.string ((rd_T102 l0_0 x8_1).f0)) := (blk_cell BK186.out 0).trans rfl
                      have hcz54_1 : wc.cell? ⟨gb186, 1, none⟩ = some (.int .i64 ((rd_T102 l0_0 x8_1).f1)) := (blk_cell BK186.out 1).trans rfl
                      have hcz54_2 : wc.cell? ⟨gb186, 2, none⟩ = some (.int .i64 ((rd_T102 l0_0 x8_1).f2)) := (blk_cell BK186.out 2).trans rfl
                      have hfz54_0 := blk_frozen BK186.out 0
                      have hfz54_1 := blk_frozen BK186.out 1
                      have hfz54_2 := blk_frozen BK186.out 2
                      go_wp2
                      go_roundg kj6
                      case measure => have := HK1.out; have := HJ6.out; omega
                      case rel => exact ⟨(x7_1), (wrap64 (x8_1 + 1)), (by first | rfl | (simp; done) | (simp [*]; done)), H', ⟨by have := HK1.out; have := HJ6.out; omega⟩, ⟨by (with_reducible repeat (first | apply Kd.R_alloc | apply Kd.R_drewN | apply Kd.R_drew)); exact HO_7.out⟩, ⟨by (with_reducible repeat (first | refine blk_drewN ?_ _ | refine blk_drew ?_ | refine blk_alloc ?_ _)); exact BK184.out⟩, ⟨by repeat (first | (with_reducible first | exact HB.out | apply below_alloc | apply pw_below_drewN | apply below_drew1 | refine below_set ?_ GE184.out | refine below_set ?_ GE186.out) | exact HB.out)⟩⟩
                  · rw [if_neg c46] at H
                    have c46b0 : decide (a1 < ((rd_T102 l0_0 x8_1).f2)) = false := decide_eq_false c46
                    clear c46
                    have H' := Aside0.mk H
                    clear H
                    have hnb55 := NB186_184.out
                    have hnc55 := NB184_186.out
                    have hcz56_0 : wc.cell? ⟨gb186, 0, none⟩ = some (.string ((rd_T102 l0_0 x8_1).f0)) := (blk_cell BK186.out 0).trans rfl
                    have hcz56_1 : wc.cell? ⟨gb186, 1, none⟩ = some (.int .i64 ((rd_T102 l0_0 x8_1).f1)) := (blk_cell BK186.out 1).trans rfl
                    have hcz56_2 : wc.cell? ⟨gb186, 2, none⟩ = some (.int .i64 ((rd_T102 l0_0 x8_1).f2)) := (blk_cell BK186.out 2).trans rfl
                    have hfz56_0 := blk_frozen BK186.out 0
                    have hfz56_1 := blk_frozen BK186.out 1
                    have hfz56_2 := blk_frozen BK186.out 2
                    go_wp2
                    go_roundg kj6
                    case measure => have := HK1.out; have := HJ6.out; omega
                    case rel => exact ⟨(x7_1), (wrap64 (x8_1 + 1)), (by first | rfl | (simp; done) | (simp [*]; done)), H', ⟨by have := HK1.out; have := HJ6.out; omega⟩, ⟨by (with_reducible repeat (first | apply Kd.R_alloc | apply Kd.R_drewN | apply Kd.R_drew)); exact HO_7.out⟩, ⟨by (with_reducible repeat (first | refine blk_drewN ?_ _ | refine blk_drew ?_ | refine blk_alloc ?_ _)); exact BK184.out⟩, ⟨by repeat (first | (with_reducible first | exact HB.out | apply below_alloc | apply pw_below_drewN | apply below_drew1 | refine below_set ?_ GE184.out | refine below_set ?_ GE186.out) | exact HB.out)⟩⟩
                · rw [if_neg c45] at H
                  have c45b0 : decide (0 < ((rd_T102 l0_0 x8_1).f2)) = false := decide_eq_false c45
                  clear c45
                  have H' := Aside0.mk H
                  clear H
                  have hnb57 := NB186_184.out
                  have hnc57 := NB184_186.out
                  have hcz58_0 : wc.cell? ⟨gb186, 0, none⟩ = some (.string ((rd_T102 l0_0 x8_1).f0)) := (blk_cell BK186.out 0).trans rfl
                  have hcz58_1 : wc.cell? ⟨gb186, 1, none⟩ = some (.int .i64 ((rd_T102 l0_0 x8_1).f1)) := (blk_cell BK186.out 1).trans rfl
                  have hcz58_2 : wc.cell? ⟨gb186, 2, none⟩ = some (.int .i64 ((rd_T102 l0_0 x8_1).f2)) := (blk_cell BK186.out 2).trans rfl
                  have hfz58_0 := blk_frozen BK186.out 0
                  have hfz58_1 := blk_frozen BK186.out 1
                  have hfz58_2 := blk_frozen BK186.out 2
                  go_wp2
                  go_roundg kj6
                  case measure => have := HK1.out; have := HJ6.out; omega
                  case rel => exact ⟨(x7_1), (wrap64 (x8_1 + 1)), (by first | rfl | (simp; done) | (simp [*]; done)), H', ⟨by have := HK1.out; have := HJ6.out; omega⟩, ⟨by (with_reducible repeat (first | apply Kd.R_alloc | apply Kd.R_drewN | apply Kd.R_drew)); exact HO_7.out⟩, ⟨by (with_reducible repeat (first | refine blk_drewN ?_ _ | refine blk_drew ?_ | refine blk_alloc ?_ _)); exact BK184.out⟩, ⟨by repeat (first | (with_reducible first | exact HB.out | apply below_alloc | apply pw_below_drewN | apply below_drew1 | refine below_set ?_ GE184.out | refine below_set ?_ GE186.out) | exact HB.out)⟩⟩
        · rw [if_neg c6] at H
          exact absurd H (by simp)
      · rw [if_neg c5] at H
        have c5b0 : decide (x8_1 < (l0_0.length : Int)) = false := decide_eq_false c5
        clear c5
        obtain rfl := Option.some.inj H
        have hcz59_0 : wr.cell? ⟨gb184, 0, none⟩ = some (.slice A0_0 l0_0.length c0_0) := (blk_cell BK184.out 0).trans rfl
        have hcz59_1 : wr.cell? ⟨gb184, 1, none⟩ = some (.int .i64 a0_1) := (blk_cell BK184.out 1).trans rfl
        have hfz59_0 := blk_frozen BK184.out 0
        have hfz59_1 := blk_frozen BK184.out 1
        go_wp2
        go_ret
        exact ⟨_, by first | rfl | (simp [errW_none, errW_some] <;> rfl) | (simp [*, errW_none, errW_some] <;> rfl), by (with_reducible repeat (first | apply Kd.R_alloc | apply Kd.R_drewN | apply Kd.R_drew)); exact HO_7.out, by repeat (first | (with_reducible first | exact HB.out | apply below_alloc | apply pw_below_drewN | apply below_drew1 | refine below_set ?_ GE184.out) | exact HB.out)⟩

end Go.Proofs.Ythpcplpannbipaa.Nr
