/- doormanref07.Same at equal rows: true; no condition. -/
import Derived.Test.YtkgnhghaiopgcaaDoorKd
import Derived.Test.YtkgnhghaiopgcaaDoorWEqStruct
import Derived.BigQuiet
import Derived.Deep.QuietTactic
set_option linter.unusedVariables false
set_option linter.unusedSimpArgs false
namespace Go.Proofs.YtkgnhghaiopgcaaDoor.Sm
open Go.RowKit Go.Proofs.YtkgnhghaiopgcaaDoorW.PrintWords Go.Proofs.YtkgnhghaiopgcaaDoorW.PrintLast Go.Proofs.YtkgnhghaiopgcaaDoor.X Go.Proofs.YtkgnhghaiopgcaaDoor.Kx
theorem eqA113 (d : Nat) (w : World) (x0 y0 : ByteArray) (x1 y1 : ByteArray) :
    (Op.equalIn (d + 2) 113 (.agg #[.string x0, .string x1]) (.agg #[.string y0, .string y1])).run Tryd.prog w = .ok (x0.toList == y0.toList && (x1.toList == y1.toList)) w := by
  refine eqA_of Tryd.underlying113 (by kernel_rfl) ?_
  refine eqf_cons (by rfl) (by go_simp; rfl) (by go_simp; rfl) (by go_simp) ?_
  exact eqf_last (by rfl) (by go_simp; rfl) (by go_simp; rfl) (by go_simp)
attribute [local go_sem high] eqA113
set_option maxHeartbeats 4000000 in
theorem SameOps_c (X : List S114) (A0 : Option Addr) (c0 : Nat) (A1 : Option Addr) (c1 : Nat) (w : World) (h0 : Kd.C k114 w A0 X.length X) (h1 : Kd.C k114 w A1 X.length X) :
    Calls Tryd.prog 73 #[.slice A0 X.length c0, .slice A1 X.length c1] w fun e w' => e = .returned (.bool true) ∧ Below w.heap.size w w' := by
  have H0 := Aside0.mk h0
  have H1 := Aside0.mk h1
  have HM : Aside0 (X.length ≤ 9223372036854775807) := ⟨Kd.C_max h0⟩
  clear h0 h1
  go_enter Tryd.func73, Tryd.ntmps73
  go_wp2
  go_loopg [5] (X.length + 1) (fun gg s5 wr => ∃ i : Nat, s5 = .int .i64 i ∧ i + gg = X.length + 1 ∧ i ≤ X.length ∧ Aside0 (Below w.heap.size w wr))
  case atStart => exact ⟨0, rfl, by omega, Nat.zero_le _, ⟨Below.refl _ _⟩⟩
  case round =>
    obtain ⟨i, rfl, hi, hil, HB⟩ := hrel
    rename World => wr
    cases gk with
    | zero => omega
    | succ g1 =>
      by_cases hlt : i < X.length
      · have e1 : decide ((i : Int) < (X.length : Int)) = true := decide_eq_true (by omega)
        have e2 : ((i : Int) < (X.length : Int)) = True := eq_true (by omega)
        have e3 : decide (i < X.length) = true := decide_eq_true hlt
        have e4 : (0 ≤ (i : Int)) = True := eq_true (by omega)
        have e5 : decide ((i : Int) < 0) = false := decide_eq_false (by omega)
        have e6 : ((i : Int) < 0) = False := eq_false (by omega)
        have e7 : decide (0 ≤ (i : Int)) = true := decide_eq_true (by omega)
        obtain ⟨x, hx⟩ : ∃ x, rd_T114 X (i : Int) = x := ⟨_, rfl⟩
        obtain ⟨a0, q0, r0, r1, r2⟩ := at_T114 (Kd.C_below H0.out HB.out) (i : Int) (by omega) (by omega)
        obtain ⟨a1, q1, s0, s1, s2⟩ := at_T114 (Kd.C_below H1.out HB.out) (i : Int) (by omega) (by omega)
        subst q0 q1
        rw [hx, Int.toNat_natCast] at r0 r1 r2 s0 s1 s2
        have hw : IntKind.i64.wrap ((i : Int) + 1) = ((i + 1 : Nat) : Int) := by have := HM.out; rw [IntKind.wrap_i64]; omega
        have HJ := Aside0.mk (And.intro hi (And.intro hil hlt))
        clear hx hi hil hlt
        go_wp2
        go_quiet (fail)
        have HBz : Aside0 (Below w.heap.size w (wr.drewN nq)) := ⟨pw_below_drewN HB.out nq⟩
        obtain ⟨wz, hwz⟩ : ∃ wz, wr.drewN nq = wz := ⟨_, rfl⟩
        rw [hwz] at HBz ⊢
        clear hwz
        go_wp2
        go_roundg g1
        case measure => omega
        case rel => exact ⟨i + 1, by simp, by have := HJ.out; omega, HJ.out.2.2, HBz⟩
      · have e1 : decide ((i : Int) < (X.length : Int)) = false := decide_eq_false (by omega)
        have e2 : ((i : Int) < (X.length : Int)) = False := eq_false (by omega)
        have e3 : decide (i < X.length) = false := decide_eq_false hlt
        clear hlt hi hil
        go_wp2
        go_ret
        exact ⟨rfl, HB.out⟩
set_option maxHeartbeats 8000000 in
set_option maxRecDepth 100000 in
theorem Same_c (X : List S74) (A0 : Option Addr) (c0 : Nat) (A1 : Option Addr) (c1 : Nat) (w : World) (hr0 : Kd.C k74 w A0 X.length X) (hr1 : Kd.C k74 w A1 X.length X) :
    Calls Tryd.prog 35 #[.slice A0 X.length c0, .slice A1 X.length c1] w fun e w' => e = .returned (.bool true) ∧ Below w.heap.size w w' := by
  have HC0 := Aside0.mk hr0
  have HC1 := Aside0.mk hr1
  have HSZX : Aside0 (X.length ≤ 9223372036854775807) := ⟨Kd.C_max hr0⟩
  clear hr0 hr1
  go_enter Tryd.func35, Tryd.ntmps35
  go_wp2
  go_loopg [5] (X.length + 1) (fun g v5 wx => ∃ i : Nat, v5 = .int .i64 i ∧ i + g = X.length + 1 ∧ i ≤ X.length ∧ Aside0 (Below w.heap.size w wx))
  case atStart => exact ⟨0, rfl, by omega, Nat.zero_le _, ⟨Below.refl _ _⟩⟩
  case round =>
    obtain ⟨i, rfl, hi, hil, HBx⟩ := hrel
    rename World => wx
    cases gk with
    | zero => omega
    | succ g1 =>
      by_cases hlt : i < X.length
      · have e1 : decide ((i : Int) < (X.length : Int)) = true := decide_eq_true (by omega)
        have e2 : ((i : Int) < (X.length : Int)) = True := eq_true (by omega)
        have e3 : decide (i < X.length) = true := decide_eq_true hlt
        have e4 : (0 ≤ (i : Int)) = True := eq_true (by omega)
        obtain ⟨T, hT⟩ : ∃ T, rd_T74 X (i : Int) = T := ⟨_, rfl⟩
        have hCx0 := Kd.C_below HC0.out HBx.out
        have hCx1 := Kd.C_below HC1.out HBx.out
        obtain ⟨ad, P, cp, rfl, t0, t1, t2, hP⟩ := at_T74 hCx0 (i : Int) (by omega) (by omega)
        obtain ⟨ae, Q, cq, rfl, u0, u1, u2, hQ⟩ := at_T74 hCx1 (i : Int) (by omega) (by omega)
        rw [hT] at t0 t1 t2 u0 u1 u2 hP hQ
        rw [Int.toNat_natCast] at t0 t1 u0 u1
        have HP := Aside0.mk hP
        have HQ := Aside0.mk hQ
        have HSZT : Aside0 (T.f1.length ≤ 9223372036854775807) := ⟨Kd.C_max hP⟩
        have HI := Aside0.mk (And.intro hi (And.intro hil hlt))
        have HT := Aside0.mk hT
        clear hP hQ hCx0 hCx1 hi hil hT t2 u2
        go_wp2_with fail
        go_quiet (fail)
        have HBq : Aside0 (Below w.heap.size w (wx.drewN nq)) := ⟨pw_below_drewN HBx.out nq⟩
        obtain ⟨wq, hwq⟩ : ∃ wq, wx.drewN nq = wq := ⟨_, rfl⟩
        rw [hwq] at HBq ⊢
        clear hwq t0 t1 u0 u1 HBx HP HQ
        go_wp2
        go_loopg [6] (T.f1.length + 1) (fun g v6 wy => ∃ j : Nat, v6 = .int .i64 j ∧ j + g = T.f1.length + 1 ∧ j ≤ T.f1.length ∧ Aside0 (Below w.heap.size w wy))
        case atStart => exact ⟨0, rfl, by omega, Nat.zero_le _, HBq⟩
        case round =>
          clear HBq
          obtain ⟨j, rfl, hj, hjl, HBy⟩ := hrel
          rename World => wy
          cases gk with
          | zero => omega
          | succ g2 =>
            obtain ⟨ad', P, cp, ea, t0, t1, t2, hP⟩ := at_T74 (Kd.C_below HC0.out HBy.out) (i : Int) (by omega) (by omega)
            obtain ⟨ae', Q, cq, eb, u0, u1, u2, hQ⟩ := at_T74 (Kd.C_below HC1.out HBy.out) (i : Int) (by omega) (by omega)
            obtain rfl : ad = ad' := by injection ea
            obtain rfl : ae = ae' := by injection eb
            rw [HT.out] at t0 t1 t2 u0 u1 u2 hP hQ
            rw [Int.toNat_natCast] at t0 t1 u0 u1
            have HP := Aside0.mk hP
            have HQ := Aside0.mk hQ
            clear hP hQ ea eb t2 u2 t0 u0
            by_cases hjt : j < T.f1.length
            · have f1 : decide ((j : Int) < (T.f1.length : Int)) = true := decide_eq_true (by omega)
              have f2 : ((j : Int) < (T.f1.length : Int)) = True := eq_true (by omega)
              have f3 : decide (j < T.f1.length) = true := decide_eq_true hjt
              have f4 : (0 ≤ (j : Int)) = True := eq_true (by omega)
              obtain ⟨R, hR⟩ : ∃ R, rd_T78 T.f1 (j : Int) = R := ⟨_, rfl⟩
              obtain ⟨ad1, P2, k2, P3, k3, rfl, r0, r1, r2, r3, r4, r5, r6, hP2, r7, hP3⟩ := at_T78 HP.out (j : Int) (by omega) (by omega)
              obtain ⟨ae1, Q2, m2, Q3, m3, rfl, s0, s1, s2, s3, s4, s5, s6, hQ2, s7, hQ3⟩ := at_T78 HQ.out (j : Int) (by omega) (by omega)
              rw [hR] at r0 r1 r2 r3 r4 r5 r6 r7 hP2 hP3 s0 s1 s2 s3 s4 s5 s6 s7 hQ2 hQ3
              rw [Int.toNat_natCast] at r0 r1 r2 r3 r4 r5 s0 s1 s2 s3 s4 s5
              have HP2 := Aside0.mk hP2
              have HP3 := Aside0.mk hP3
              have HQ2 := Aside0.mk hQ2
              have HQ3 := Aside0.mk hQ3
              have HN4 : Aside0 (R.f4.length ≤ 9223372036854775807) := ⟨Kd.C_max hP2⟩
              have HN5 : Aside0 (R.f5.length ≤ 9223372036854775807) := ⟨Kd.C_max hP3⟩
              have HLE := Aside0.mk (And.intro r6 (And.intro r7 (And.intro s6 s7)))
              have HJ := Aside0.mk (And.intro hj (And.intro hjl hjt))
              have HS := Aside0.mk (And.intro s0 (And.intro s1 (And.intro s2 (And.intro s3 (And.intro s4 s5)))))
              have HU := Aside0.mk u1
              have HQ1 := HQ
              clear hR hP2 hP3 hQ2 hQ3 r6 r7 s6 s7 hj hjl s0 s1 s2 s3 s4 s5 u1 HQ
              go_upto_region 12 with (fail)
              have HXb : Aside0 ((wy.alloc (.cells #[.string R.f0, .string R.f1, .string R.f2, .string R.f3, .slice P2 R.f4.length k2, .slice P3 R.f5.length k3] 78)).heap[wy.heap.size]? = some (.cells #[.string R.f0, .string R.f1, .string R.f2, .string R.f3, .slice P2 R.f4.length k2, .slice P3 R.f5.length k3] 78 (0, 0))) := ⟨(Go.MapKept.heap_alloc wy _).1⟩
              have hba : Below wy.heap.size wy (wy.alloc (.cells #[.string R.f0, .string R.f1, .string R.f2, .string R.f3, .slice P2 R.f4.length k2, .slice P3 R.f5.length k3] 78)) := below_alloc (Below.refl _ _) _
              obtain ⟨wz, hwz⟩ : ∃ wz, wy.alloc (.cells #[.string R.f0, .string R.f1, .string R.f2, .string R.f3, .slice P2 R.f4.length k2, .slice P3 R.f5.length k3] 78) = wz := ⟨_, rfl⟩
              rw [hwz] at HXb hba ⊢
              obtain ⟨x1, hx1⟩ : ∃ x1, wy.heap.size = x1 := ⟨_, rfl⟩
              have HBz : Aside0 (Below w.heap.size w wz) := ⟨HBy.out.trans (hba.mono HBy.out.size)⟩
              have HP2z := Aside0.mk (Kd.C_below HP2.out hba)
              have HP3z := Aside0.mk (Kd.C_below HP3.out hba)
              have HQ2z := Aside0.mk (Kd.C_below HQ2.out hba)
              have HQ3z := Aside0.mk (Kd.C_below HQ3.out hba)
              obtain ⟨y0, y1, y2, y3, y4, y5⟩ := HS.out
              have s0 := pw_cell_below hba y0
              have s1 := pw_cell_below hba y1
              have s2 := pw_cell_below hba y2
              have s3 := pw_cell_below hba y3
              have s4 := pw_cell_below hba y4
              have s5 := pw_cell_below hba y5
              have u1 := pw_cell_below hba HU.out
              rw [hx1] at HXb ⊢
              clear y0 y1 y2 y3 y4 y5 hba hwz r0 r1 r2 r3 r4 r5 t1 HS HU HP2 HP3 HQ2 HQ3 HP HQ1 hx1
              go_upto_region 13 with (fail)
              have HYb : Aside0 ((wz.alloc (.cells #[.string R.f0, .string R.f1, .string R.f2, .string R.f3, .slice Q2 R.f4.length m2, .slice Q3 R.f5.length m3] 78)).heap[wz.heap.size]? = some (.cells #[.string R.f0, .string R.f1, .string R.f2, .string R.f3, .slice Q2 R.f4.length m2, .slice Q3 R.f5.length m3] 78 (0, 0))) := ⟨(Go.MapKept.heap_alloc wz _).1⟩
              have HXc := Aside0.mk (blk_alloc HXb.out (.cells #[.string R.f0, .string R.f1, .string R.f2, .string R.f3, .slice Q2 R.f4.length m2, .slice Q3 R.f5.length m3] 78))
              have hba : Below wz.heap.size wz (wz.alloc (.cells #[.string R.f0, .string R.f1, .string R.f2, .string R.f3, .slice Q2 R.f4.length m2, .slice Q3 R.f5.length m3] 78)) := below_alloc (Below.refl _ _) _
              obtain ⟨wb, hwb⟩ : ∃ wb, wz.alloc (.cells #[.string R.f0, .string R.f1, .string R.f2, .string R.f3, .slice Q2 R.f4.length m2, .slice Q3 R.f5.length m3] 78) = wb := ⟨_, rfl⟩
              rw [hwb] at HYb HXc hba ⊢
              have HBb : Aside0 (Below w.heap.size w wb) := ⟨HBz.out.trans (hba.mono HBz.out.size)⟩
              have HP2b := Aside0.mk (Kd.C_below HP2z.out hba)
              have HP3b := Aside0.mk (Kd.C_below HP3z.out hba)
              have HQ2b := Aside0.mk (Kd.C_below HQ2z.out hba)
              have HQ3b := Aside0.mk (Kd.C_below HQ3z.out hba)
              obtain ⟨x2, hx2⟩ : ∃ x2, wz.heap.size = x2 := ⟨_, rfl⟩
              rw [hx2] at HYb ⊢
              clear hba hwb hx2 s0 s1 s2 s3 s4 s5 u1 HP2z HP3z HQ2z HQ3z HXb HBz
              have v5 := blk_cell HXc.out 5
              have z5 := blk_cell HYb.out 5
              go_wp2_with fail
              refine (SameOps_c R.f5 P3 k3 Q3 m3 _ HP3b.out HQ3b.out).mono ?_
              rintro e wc ⟨rfl, hbd⟩
              have HXd : Aside0 (wc.heap[x1]? = some (.cells #[.string R.f0, .string R.f1, .string R.f2, .string R.f3, .slice P2 R.f4.length k2, .slice P3 R.f5.length k3] 78 (0, 0))) := ⟨(hbd.block x1 (blk_lt HXc.out)).trans HXc.out⟩
              have HYd : Aside0 (wc.heap[x2]? = some (.cells #[.string R.f0, .string R.f1, .string R.f2, .string R.f3, .slice Q2 R.f4.length m2, .slice Q3 R.f5.length m3] 78 (0, 0))) := ⟨(hbd.block x2 (blk_lt HYb.out)).trans HYb.out⟩
              have HBd : Aside0 (Below w.heap.size w wc) := ⟨HBb.out.trans (hbd.mono HBb.out.size)⟩
              have HP2d := Aside0.mk (Kd.C_below HP2b.out hbd)
              have HQ2d := Aside0.mk (Kd.C_below HQ2b.out hbd)
              clear hbd HXc HYb HBb HP2b HP3b HQ2b HQ3b v5 z5
              have v0 := blk_cell HXd.out 0
              have v1 := blk_cell HXd.out 1
              have v2 := blk_cell HXd.out 2
              have v3 := blk_cell HXd.out 3
              have v4 := blk_cell HXd.out 4
              have z0 := blk_cell HYd.out 0
              have z1 := blk_cell HYd.out 1
              have z2 := blk_cell HYd.out 2
              have z3 := blk_cell HYd.out 3
              have z4 := blk_cell HYd.out 4
              go_wp2
              clear v0 v1 v2 v3 v4 z0 z1 z2 z3 z4
              go_loopg [10] (R.f4.length + 1) (fun g v10 wu => ∃ m : Nat, v10 = .int .i64 m ∧ m + g = R.f4.length + 1 ∧ m ≤ R.f4.length ∧ Aside0 (Below wc.heap.size wc wu))
              case atStart => exact ⟨0, rfl, by omega, Nat.zero_le _, ⟨Below.refl _ _⟩⟩
              case round =>
                obtain ⟨m, rfl, hm, hml, HBu⟩ := hrel
                rename World => wu
                cases gk with
                | zero => omega
                | succ g3 =>
                  have HXu : Aside0 (wu.heap[x1]? = some (.cells #[.string R.f0, .string R.f1, .string R.f2, .string R.f3, .slice P2 R.f4.length k2, .slice P3 R.f5.length k3] 78 (0, 0))) := ⟨(HBu.out.block x1 (blk_lt HXd.out)).trans HXd.out⟩
                  have HYu : Aside0 (wu.heap[x2]? = some (.cells #[.string R.f0, .string R.f1, .string R.f2, .string R.f3, .slice Q2 R.f4.length m2, .slice Q3 R.f5.length m3] 78 (0, 0))) := ⟨(HBu.out.block x2 (blk_lt HYd.out)).trans HYd.out⟩
                  have v4 := blk_cell HXu.out 4
                  have z4 := blk_cell HYu.out 4
                  by_cases hmt : m < R.f4.length
                  · have h1 : decide ((m : Int) < (R.f4.length : Int)) = true := decide_eq_true (by omega)
                    have h2 : ((m : Int) < (R.f4.length : Int)) = True := eq_true (by omega)
                    have h3 : decide (m < R.f4.length) = true := decide_eq_true hmt
                    have h4 : (0 ≤ (m : Int)) = True := eq_true (by omega)
                    obtain ⟨ad2, rfl, p0, p1⟩ := at_T113 (Kd.C_below HP2d.out HBu.out) (m : Int) (by omega) (by omega)
                    obtain ⟨ae2, rfl, q0, q1⟩ := at_T113 (Kd.C_below HQ2d.out HBu.out) (m : Int) (by omega) (by omega)
                    obtain ⟨U, hU⟩ : ∃ U, rd_T113 R.f4 (m : Int) = U := ⟨_, rfl⟩
                    rw [hU] at p0 p1 q0 q1
                    rw [Int.toNat_natCast] at p0 p1 q0 q1
                    have hw : IntKind.i64.wrap ((m : Int) + 1) = ((m + 1 : Nat) : Int) := by have := HN4.out; rw [IntKind.wrap_i64]; omega
                    have HM := Aside0.mk (And.intro hm hmt)
                    clear hU hmt hm hml
                    go_wp2_with fail
                    go_quiet (fail)
                    go_wp2
                    go_roundg g3
                    case measure => omega
                    case rel => exact ⟨m + 1, by simp, by have := HM.out; omega, by have := HM.out; omega, ⟨pw_below_drewN HBu.out _⟩⟩
                  · have h1 : decide ((m : Int) < (R.f4.length : Int)) = false := decide_eq_false (by omega)
                    have h2 : ((m : Int) < (R.f4.length : Int)) = False := eq_false (by omega)
                    have h3 : decide (m < R.f4.length) = false := decide_eq_false hmt
                    have hw : IntKind.i64.wrap ((j : Int) + 1) = ((j + 1 : Nat) : Int) := by have := HSZT.out; have := HJ.out; rw [IntKind.wrap_i64]; omega
                    clear hmt hm hml
                    go_wp2
                    go_roundg g2
                    case measure => omega
                    case rel => exact ⟨j + 1, by simp, by have := HJ.out; omega, HJ.out.2.2, ⟨HBd.out.trans (HBu.out.mono HBd.out.size)⟩⟩
            · have f1 : decide ((j : Int) < (T.f1.length : Int)) = false := decide_eq_false (by omega)
              have f2 : ((j : Int) < (T.f1.length : Int)) = False := eq_false (by omega)
              have f3 : decide (j < T.f1.length) = false := decide_eq_false hjt
              clear hjt hj hjl
              have hw : IntKind.i64.wrap ((i : Int) + 1) = ((i + 1 : Nat) : Int) := by have := HSZX.out; rw [IntKind.wrap_i64]; omega
              go_wp2
              go_roundg g1
              case measure => omega
              case rel => exact ⟨i + 1, by simp, by have := HI.out; omega, hlt, HBy⟩
      · have e1 : decide ((i : Int) < (X.length : Int)) = false := decide_eq_false (by omega)
        have e2 : ((i : Int) < (X.length : Int)) = False := eq_false (by omega)
        have e3 : decide (i < X.length) = false := decide_eq_false hlt
        clear hlt hi
        go_wp2
        go_ret
        exact ⟨rfl, HBx.out⟩
end Go.Proofs.YtkgnhghaiopgcaaDoor.Sm
