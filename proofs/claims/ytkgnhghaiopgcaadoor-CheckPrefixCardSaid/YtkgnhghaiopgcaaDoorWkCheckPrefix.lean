/- The walk of the law CheckPrefix; no condition. -/
import Derived.Test.YtkgnhghaiopgcaaDoorCa
import Derived.Test.YtkgnhghaiopgcaaDoorCn
import Derived.Test.YtkgnhghaiopgcaaDoorRo
set_option linter.unusedVariables false
set_option linter.unusedSimpArgs false
namespace Go.Proofs.YtkgnhghaiopgcaaDoor.Wk
open Go.RowKit Go.Maps Go.Proofs.YtkgnhghaiopgcaaDoorW.PrintWords Go.Proofs.YtkgnhghaiopgcaaDoorW.PrintLast Go.Proofs.YtkgnhghaiopgcaaDoor.X Go.Proofs.YtkgnhghaiopgcaaDoor.Kx Go.Proofs.YtkgnhghaiopgcaaDoor.Gl Go.Proofs.YtkgnhghaiopgcaaDoor.GlFn Go.Proofs.YtkgnhghaiopgcaaDoor.Tk Go.Proofs.YtkgnhghaiopgcaaDoor.Ps Go.Proofs.YtkgnhghaiopgcaaDoor.Pw Go.Proofs.YtkgnhghaiopgcaaDoor.Ck Go.Proofs.YtkgnhghaiopgcaaDoor.Cw Go.Proofs.YtkgnhghaiopgcaaDoor.Cx Go.Proofs.YtkgnhghaiopgcaaDoor.Cl Go.Proofs.YtkgnhghaiopgcaaDoor.Ca Go.Proofs.YtkgnhghaiopgcaaDoor.Ro

theorem ok_sum {X : List ST} (h : ∀ t ∈ X, OkT t) : ∀ t ∈ X, ∀ r ∈ t.f1, t.f0.size + r.f0.size + 1 ≤ 9223372036854775807 := fun t ht r hr => by
  have h1 := (h t ht).1
  have h2 := ((h t ht).2 r hr).1
  simp only [rb] at h1 h2
  omega
set_option maxHeartbeats 16000000 in
set_option maxRecDepth 100000 in
theorem CheckPrefix (A : Option Addr) (c : Nat) (X : List ST) (w : World) (hK : Aside0 (Aid.KeysIn w)) (hX : SchRow w A c X) :
    Calls Tryd.prog 16 #[.agg #[.slice A X.length c]] w fun e w' => e = .returned (.bool true) ∧ Below w.heap.size w w' := by
  have HC := Aside0.mk hX.hC
  have HL := Aside0.mk hX.hl
  have HZ := Aside0.mk (ok_sum hX.ok)
  have HM : Aside0 (X.length ≤ 9223372036854775807) := ⟨Kd.C_max hX.hC⟩
  obtain ⟨w1, e1, h1, b1, z1, k1⟩ := al1 w #[.slice A X.length c] 43
  have H1 := Aside0.mk h1
  have HB := Aside0.mk b1
  have HW := Aside0.mk e1
  have hcallA := awake_calls w1 ⟨hK.out.go b1⟩
  clear hX h1 b1 z1 k1 e1
  go_enter Tryd.func16, Tryd.ntmps16
  go_upto_region 1 with (fail)
  rw [HW.out]
  obtain ⟨q, hq⟩ : ∃ q, w.heap.size = q := ⟨_, rfl⟩
  have HQ := Aside0.mk hq
  rw [hq] at H1 ⊢
  clear HW hq
  go_wp2_with fail
  refine hcallA.mono ?_
  rintro e w2 ⟨rfl, hb⟩
  have HS2 := Aside0.mk ((hb.block q (blk_lt H1.out)).trans H1.out)
  have HB2 := Aside0.mk (bel2 HB.out hb)
  clear hb hcallA H1 HB
  have t0 := blk_cell HS2.out 0
  go_wp2_with fail
  refine (few_calls X A c w w2 HB2.out HC.out).mono ?_
  rintro e w3 ⟨fb, rfl, hb⟩
  have HS3 := Aside0.mk ((hb.block q (blk_lt HS2.out)).trans HS2.out)
  have HB3 := Aside0.mk (bel2 HB2.out hb)
  clear hb t0 HS2 HB2
  have t0 := blk_cell HS3.out 0
  go_wp2_with fail
  refine (Check_calls X A c w w3 HB3.out HC.out HL.out HZ.out).mono ?_
  rintro e w5 ⟨rfl, hb⟩
  have HS5 := Aside0.mk ((hb.block q (blk_lt HS3.out)).trans HS3.out)
  have HB5 := Aside0.mk (bel2 HB3.out hb)
  clear hb t0 HS3 HB3
  cases fb with
  | false =>
    go_wp2_with fail
    go_ret
    exact ⟨rfl, HB5.out⟩
  | true =>
  by_cases h0 : (checkX X).1 = 0
  case neg =>
    have n1 : ((checkX X).1 == 0) = false := by simpa using h0
    have n2 : decide ((checkX X).1 = 0) = false := decide_eq_false h0
    have n3 : ((checkX X).1 = 0) = False := eq_false h0
    go_wp2_with fail
    go_ret
    exact ⟨rfl, HB5.out⟩
  case pos =>
  have HRt : Aside0 (Right X) := ⟨h0⟩
  rw [h0]
  have hl8 := HRt.out.len
  have d1 : decide ((8 : Int) < (X.length : Int)) = false := decide_eq_false (by omega)
  have d2 : ((8 : Int) < (X.length : Int)) = False := eq_false (by omega)
  have d3 : decide (8 < X.length) = false := decide_eq_false (by omega)
  have t0 := blk_cell HS5.out 0
  clear h0 hl8
  go_wp2_with fail
  clear d1 d2 d3 t0
  go_loopg [7] (X.length + 1) (fun gg s7 wr => ∃ i : Nat, s7 = .int .i64 i ∧ i + gg = X.length + 1 ∧ i ≤ X.length ∧ Aside0 (Below w.heap.size w wr) ∧ Aside0 (wr.heap[q]? = some (.cells #[.slice A X.length c] 43 (0, 0))))
  case atStart => exact ⟨0, rfl, by omega, Nat.zero_le _, HB5, HS5⟩
  case round =>
    clear HB5 HS5
    obtain ⟨i, rfl, hi, hil, HB1, HS1⟩ := hrel
    rename World => wr
    cases gk with
    | zero => omega
    | succ g1 =>
      have t0 := blk_cell HS1.out 0
      by_cases hlt : i < X.length
      · have e1 : decide ((i : Int) < (X.length : Int)) = true := decide_eq_true (by omega)
        have e2 : ((i : Int) < (X.length : Int)) = True := eq_true (by omega)
        have e3 : decide (i < X.length) = true := decide_eq_true (by assumption)
        have e4 : (0 ≤ (i : Int)) = True := eq_true (by omega)
        have e5 : decide ((i : Int) < 0) = false := decide_eq_false (by omega)
        have e6 : ((i : Int) < 0) = False := eq_false (by omega)
        obtain ⟨T, hT⟩ : ∃ T, rd_T53 X (i : Int) = T := ⟨_, rfl⟩
        have hxi : X[i] = T := by rw [← hT]; unfold rd_T53; rw [Int.toNat_natCast, List.getD_eq_getElem?_getD, List.getElem?_eq_getElem hlt]; rfl
        have HTm : Aside0 (T ∈ X) := ⟨by rw [← hxi]; exact List.getElem_mem hlt⟩
        obtain ⟨ad, A1, c1, rfl, r0, r1, r2, hC1⟩ := at_T53 HC.out (i : Int) (by omega) (by omega)
        rw [hT] at r0 r1 r2 hC1
        rw [Int.toNat_natCast] at r0 r1
        replace r0 := pw_cell_below HB1.out r0
        replace r1 := pw_cell_below HB1.out r1
        have HC1 := Aside0.mk hC1
        have HM1 : Aside0 (T.f1.length ≤ 9223372036854775807) := ⟨Kd.C_max hC1⟩
        have HF : Aside0 (∀ k, ∀ h : k < T.f1.length, findR X T.f0 (T.f1[k]).f0 = some T.f1[k]) := ⟨by subst hxi; exact fun k h => HRt.out.rel hlt h⟩
        have hw : IntKind.i64.wrap ((i : Int) + 1) = ((i + 1 : Nat) : Int) := by have := HM.out; rw [IntKind.wrap_i64]; omega
        have HJ := Aside0.mk (And.intro hi (And.intro hil hlt))
        obtain ⟨w2, e2', h2, b2, z2, k2⟩ := al1 wr #[.string T.f0, .slice A1 T.f1.length c1] 53
        have HX2 := Aside0.mk h2
        have HS2 := Aside0.mk (k2 _ _ HS1.out)
        have HB2 := Aside0.mk (bel2 HB1.out b2)
        have HW := Aside0.mk e2'
        clear hT hi hil hxi hlt h2 b2 z2 k2 e2' hC1 r2
        go_upto_region 14 with (fail)
        rw [HW.out]
        obtain ⟨p, hp⟩ : ∃ p, wr.heap.size = p := ⟨_, rfl⟩
        rw [hp] at HX2 ⊢
        clear HW hp r0 r1 t0 HS1 HB1
        go_wp2_with fail
        go_loopg [9] (T.f1.length + 1) (fun gg s9 wy => ∃ k : Nat, s9 = .int .i64 k ∧ k + gg = T.f1.length + 1 ∧ k ≤ T.f1.length ∧ Aside0 (Below w.heap.size w wy) ∧ Aside0 (wy.heap[q]? = some (.cells #[.slice (some ad) X.length c] 43 (0, 0))) ∧ Aside0 (wy.heap[p]? = some (.cells #[.string T.f0, .slice A1 T.f1.length c1] 53 (0, 0))))
        case atStart => exact ⟨0, rfl, by omega, Nat.zero_le _, HB2, HS2, HX2⟩
        case round =>
          clear HB2 HS2 HX2
          obtain ⟨k, rfl, hk, hkl, HB3, HS3, HX3⟩ := hrel
          rename World => wy
          cases gk with
          | zero => omega
          | succ g2 =>
            have t1 := blk_cell HX3.out 1
            by_cases hkt : k < T.f1.length
            · have f1 : decide ((k : Int) < (T.f1.length : Int)) = true := decide_eq_true (by omega)
              have f2 : ((k : Int) < (T.f1.length : Int)) = True := eq_true (by omega)
              have f3 : decide (k < T.f1.length) = true := decide_eq_true (by assumption)
              have f4 : (0 ≤ (k : Int)) = True := eq_true (by omega)
              have f5 : decide ((k : Int) < 0) = false := decide_eq_false (by omega)
              have f6 : ((k : Int) < 0) = False := eq_false (by omega)
              obtain ⟨R, hR⟩ : ∃ R, rd_T57 T.f1 (k : Int) = R := ⟨_, rfl⟩
              have hxk : T.f1[k] = R := by rw [← hR]; unfold rd_T57; rw [Int.toNat_natCast, List.getD_eq_getElem?_getD, List.getElem?_eq_getElem hkt]; rfl
              have hRm : R ∈ T.f1 := by rw [← hxk]; exact List.getElem_mem hkt
              have hps := HRt.out.parts HTm.out hRm
              have HF1 : Aside0 ((findR X T.f0 R.f1).isSome = true) := ⟨by rw [HRt.out.has HTm.out]; exact hps.1.1⟩
              have HF2 : Aside0 ((findR X T.f0 R.f2).isSome = true) := ⟨by rw [HRt.out.has HTm.out]; exact hps.1.2.1⟩
              have HF3 : Aside0 ((findR X T.f0 R.f3).isSome = true) := ⟨by rw [HRt.out.has HTm.out]; exact hps.1.2.2⟩
              have hfd : findR X T.f0 R.f0 = some R := by have := HF.out k hkt; rw [hxk] at this; exact this
              have HF0 : Aside0 ((findR X T.f0 R.f0).isSome = true) := ⟨by rw [hfd]; rfl⟩
              have HFR : Aside0 (findV X T.f0 R.f0 = R) := ⟨by unfold findV; rw [hfd]; rfl⟩
              have HOK : Aside0 ((∀ x ∈ R.f4, (x.f1.toList == ([] : List UInt8)) = true ∨ (findR X x.f0 x.f1).isSome = true) ∧ ∀ o ∈ R.f5, (o.f0 ≠ 2 ∧ o.f0 ≠ 3) ∨ (findR X T.f0 o.f1).isSome = true) := ⟨fun x hx => HRt.out.sub HTm.out hRm hx, fun o ho => HRt.out.op HTm.out hRm ho⟩
              have HLN : Aside0 (T.f1.length ≤ 12 ∧ R.f5.length ≤ 16) := ⟨(HRt.out.lens HTm.out).1, (HRt.out.lens HTm.out).2 R hRm⟩
              obtain ⟨ad1, A2, c2, A3, c3, rfl, r0, r1, r2, r3, r4, r5, r6, hC2, r7, hC3⟩ := at_T57 HC1.out (k : Int) (by omega) (by omega)
              rw [hR, Int.toNat_natCast] at r0 r1 r2 r3 r4 r5
              rw [hR] at hC2 hC3
              replace r0 := pw_cell_below HB3.out r0
              replace r1 := pw_cell_below HB3.out r1
              replace r2 := pw_cell_below HB3.out r2
              replace r3 := pw_cell_below HB3.out r3
              replace r4 := pw_cell_below HB3.out r4
              replace r5 := pw_cell_below HB3.out r5
              have HC2 := Aside0.mk hC2
              have HC3 := Aside0.mk hC3
              have HMS : Aside0 (R.f4.length ≤ 9223372036854775807) := ⟨Kd.C_max hC2⟩
              have HMO : Aside0 (R.f5.length ≤ 9223372036854775807) := ⟨Kd.C_max hC3⟩
              have hwk : IntKind.i64.wrap ((k : Int) + 1) = ((k + 1 : Nat) : Int) := by have := HM1.out; rw [IntKind.wrap_i64]; omega
              have HK := Aside0.mk (And.intro hk (And.intro hkl hkt))
              obtain ⟨wa, e9, h9, b9, z9, k9⟩ := al1 wy #[.string R.f0, .string R.f1, .string R.f2, .string R.f3, .slice A2 R.f4.length c2, .slice A3 R.f5.length c3] 57
              have HYa := Aside0.mk h9
              have HXa := Aside0.mk (k9 _ _ HX3.out)
              have HSa := Aside0.mk (k9 _ _ HS3.out)
              have HBa := Aside0.mk (bel2 HB3.out b9)
              have HW := Aside0.mk e9
              clear hR hk hkl hkt hxk hRm hps hfd h9 b9 z9 k9 e9 r6 r7 hC2 hC3
              go_upto_region 18 with (fail)
              rw [HW.out]
              obtain ⟨y, hy⟩ : ∃ y, wy.heap.size = y := ⟨_, rfl⟩
              rw [hy] at HYa ⊢
              clear HW hy r0 r1 r2 r3 r4 r5 HS3 HX3 HB3 t1
              have t0 := blk_cell HSa.out 0
              have n0 := blk_cell HXa.out 0
              have y1 := blk_cell HYa.out 1
              have hcall := Find_calls X T.f0 R.f1 (some ad) c w wa HBa.out HC.out
              rw [HF1.out] at hcall
              go_wp2_with fail
              refine hcall.mono ?_
              rintro e w9 ⟨v, rfl, ⟨A4, k4, A5, k5, rfl, hC2, hC3, hl2, hl3⟩, hb⟩
              obtain ⟨Q, hQ⟩ : ∃ Q, findV X T.f0 R.f1 = Q := ⟨_, rfl⟩
              rw [hQ]
              obtain ⟨wb, e9, h9, b9, z9, k9⟩ := al1 w9 #[.string Q.f0, .string Q.f1, .string Q.f2, .string Q.f3, .slice A4 Q.f4.length k4, .slice A5 Q.f5.length k5] 57
              have HSb := Aside0.mk (k9 _ _ ((hb.block q (blk_lt HSa.out)).trans HSa.out))
              have HXb := Aside0.mk (k9 _ _ ((hb.block p (blk_lt HXa.out)).trans HXa.out))
              have HYb := Aside0.mk (k9 _ _ ((hb.block y (blk_lt HYa.out)).trans HYa.out))
              have HBb := Aside0.mk (bel2 (bel2 HBa.out hb) b9)
              have HW := Aside0.mk e9
              have HV := Aside0.mk h9
              clear hcall hQ hb hC2 hC3 hl2 hl3 b9 z9 k9 e9 h9 t0 n0 y1 HSa HXa HYa HBa
              go_upto_region 19 with (fail)
              rw [HW.out]
              clear HW HV
              have t0 := blk_cell HSb.out 0
              have n0 := blk_cell HXb.out 0
              have y2 := blk_cell HYb.out 2
              have hcall := Find_calls X T.f0 R.f2 (some ad) c w wb HBb.out HC.out
              rw [HF2.out] at hcall
              go_wp2_with fail
              refine hcall.mono ?_
              rintro e w9 ⟨v, rfl, ⟨A4, k4, A5, k5, rfl, hC2, hC3, hl2, hl3⟩, hb⟩
              obtain ⟨Q, hQ⟩ : ∃ Q, findV X T.f0 R.f2 = Q := ⟨_, rfl⟩
              rw [hQ]
              obtain ⟨wd, e9, h9, b9, z9, k9⟩ := al1 w9 #[.string Q.f0, .string Q.f1, .string Q.f2, .string Q.f3, .slice A4 Q.f4.length k4, .slice A5 Q.f5.length k5] 57
              have HSd := Aside0.mk (k9 _ _ ((hb.block q (blk_lt HSb.out)).trans HSb.out))
              have HXd := Aside0.mk (k9 _ _ ((hb.block p (blk_lt HXb.out)).trans HXb.out))
              have HYd := Aside0.mk (k9 _ _ ((hb.block y (blk_lt HYb.out)).trans HYb.out))
              have HBd := Aside0.mk (bel2 (bel2 HBb.out hb) b9)
              have HW := Aside0.mk e9
              have HV := Aside0.mk h9
              clear hcall hQ hb hC2 hC3 hl2 hl3 b9 z9 k9 e9 h9 t0 n0 y2 HSb HXb HYb HBb
              go_upto_region 20 with (fail)
              rw [HW.out]
              clear HW HV
              have t0 := blk_cell HSd.out 0
              have n0 := blk_cell HXd.out 0
              have y3 := blk_cell HYd.out 3
              have hcall := Find_calls X T.f0 R.f3 (some ad) c w wd HBd.out HC.out
              rw [HF3.out] at hcall
              go_wp2_with fail
              refine hcall.mono ?_
              rintro e w9 ⟨v, rfl, ⟨A4, k4, A5, k5, rfl, hC2, hC3, hl2, hl3⟩, hb⟩
              obtain ⟨Q, hQ⟩ : ∃ Q, findV X T.f0 R.f3 = Q := ⟨_, rfl⟩
              rw [hQ]
              obtain ⟨wf, e9, h9, b9, z9, k9⟩ := al1 w9 #[.string Q.f0, .string Q.f1, .string Q.f2, .string Q.f3, .slice A4 Q.f4.length k4, .slice A5 Q.f5.length k5] 57
              have HSf := Aside0.mk (k9 _ _ ((hb.block q (blk_lt HSd.out)).trans HSd.out))
              have HXf := Aside0.mk (k9 _ _ ((hb.block p (blk_lt HXd.out)).trans HXd.out))
              have HYf := Aside0.mk (k9 _ _ ((hb.block y (blk_lt HYd.out)).trans HYd.out))
              have HBf := Aside0.mk (bel2 (bel2 HBd.out hb) b9)
              have HW := Aside0.mk e9
              have HV := Aside0.mk h9
              clear hcall hQ hb hC2 hC3 hl2 hl3 b9 z9 k9 e9 h9 t0 n0 y3 HSd HXd HYd HBd
              go_upto_region 21 with (fail)
              rw [HW.out]
              clear HW HV
              have t0 := blk_cell HSf.out 0
              have n0 := blk_cell HXf.out 0
              have y0 := blk_cell HYf.out 0
              have hcall := Find_calls X T.f0 R.f0 (some ad) c w wf HBf.out HC.out
              rw [HF0.out] at hcall
              go_wp2_with fail
              refine hcall.mono ?_
              rintro e w9 ⟨v, rfl, ⟨A4, k4, A5, k5, rfl, hC2, hC3, hl2, hl3⟩, hb⟩
              obtain ⟨Q, hQ⟩ : ∃ Q, findV X T.f0 R.f0 = Q := ⟨_, rfl⟩
              rw [hQ]
              obtain rfl : R = Q := by rw [← hQ]; exact HFR.out.symm
              obtain ⟨w5, e9, h9, b9, z9, k9⟩ := al1 w9 #[.string R.f0, .string R.f1, .string R.f2, .string R.f3, .slice A4 R.f4.length k4, .slice A5 R.f5.length k5] 57
              have HS5 := Aside0.mk (k9 _ _ ((hb.block q (blk_lt HSf.out)).trans HSf.out))
              have HX5 := Aside0.mk (k9 _ _ ((hb.block p (blk_lt HXf.out)).trans HXf.out))
              have HY5 := Aside0.mk (k9 _ _ ((hb.block y (blk_lt HYf.out)).trans HYf.out))
              have HB5 := Aside0.mk (bel2 (bel2 HBf.out hb) b9)
              have HW := Aside0.mk e9
              have HV := Aside0.mk h9
              clear hcall hQ hb hC2 hC3 hl2 hl3 b9 z9 k9 e9 h9 t0 n0 y0 HSf HXf HYf HBf
              go_upto_region 22 with (fail)
              rw [HW.out]
              obtain ⟨z, hz⟩ : ∃ z, w9.heap.size = z := ⟨_, rfl⟩
              rw [hz] at HV ⊢
              have v5 := blk_cell HV.out 5
              clear HW hz
              have t1 := blk_cell HX5.out 1
              have y5 := blk_cell HY5.out 5
              have y4 := blk_cell HY5.out 4
              have l1 : decide ((16 : Int) < (R.f5.length : Int)) = false := decide_eq_false (by have := HLN.out; omega)
              have l2 : ((16 : Int) < (R.f5.length : Int)) = False := eq_false (by have := HLN.out; omega)
              have l3 : decide (16 < R.f5.length) = false := decide_eq_false (by have := HLN.out; omega)
              have l4 : decide ((12 : Int) < (T.f1.length : Int)) = false := decide_eq_false (by have := HLN.out; omega)
              have l5 : ((12 : Int) < (T.f1.length : Int)) = False := eq_false (by have := HLN.out; omega)
              have l6 : decide (12 < T.f1.length) = false := decide_eq_false (by have := HLN.out; omega)
              go_wp2_with fail
              clear l1 l2 l3 l4 l5 l6 t1 y5 y4 v5 HV
              go_loopg [19] (R.f4.length + 1) (fun gg s19 wv => ∃ j : Nat, s19 = .int .i64 j ∧ j + gg = R.f4.length + 1 ∧ j ≤ R.f4.length ∧ Aside0 (Below w.heap.size w wv) ∧ Aside0 (wv.heap[q]? = some (.cells #[.slice (some ad) X.length c] 43 (0, 0))) ∧ Aside0 (wv.heap[p]? = some (.cells #[.string T.f0, .slice (some ad1) T.f1.length c1] 53 (0, 0))) ∧ Aside0 (wv.heap[y]? = some (.cells #[.string R.f0, .string R.f1, .string R.f2, .string R.f3, .slice A2 R.f4.length c2, .slice A3 R.f5.length c3] 57 (0, 0))))
              case atStart => exact ⟨0, rfl, by omega, Nat.zero_le _, HB5, HS5, HX5, HY5⟩
              case round =>
                clear HB5 HS5 HX5 HY5
                obtain ⟨j, rfl, hj, hjl, HB7, HS7, HX7, HY7⟩ := hrel
                rename World => wv
                cases gk with
                | zero => omega
                | succ g3 =>
                  have y4 := blk_cell HY7.out 4
                  by_cases hjt : j < R.f4.length
                  · have j1 : decide ((j : Int) < (R.f4.length : Int)) = true := decide_eq_true (by omega)
                    have j2 : ((j : Int) < (R.f4.length : Int)) = True := eq_true (by omega)
                    have j3 : decide (j < R.f4.length) = true := decide_eq_true (by assumption)
                    have j4 : (0 ≤ (j : Int)) = True := eq_true (by omega)
                    have j5 : decide ((j : Int) < 0) = false := decide_eq_false (by omega)
                    have j6 : ((j : Int) < 0) = False := eq_false (by omega)
                    obtain ⟨u, hu⟩ : ∃ u, rd_T62 R.f4 (j : Int) = u := ⟨_, rfl⟩
                    have hxu : R.f4[j] = u := by rw [← hu]; unfold rd_T62; rw [Int.toNat_natCast, List.getD_eq_getElem?_getD, List.getElem?_eq_getElem hjt]; rfl
                    have HSU := Aside0.mk (HOK.out.1 u (by rw [← hxu]; exact List.getElem_mem hjt))
                    obtain ⟨ad2, rfl, r0, r1⟩ := at_T62 HC2.out (j : Int) (by omega) (by omega)
                    rw [hu, Int.toNat_natCast] at r0 r1
                    have HU0 := Aside0.mk r0
                    have HU1 := Aside0.mk r1
                    have hwj : IntKind.i64.wrap ((j : Int) + 1) = ((j + 1 : Nat) : Int) := by have := HMS.out; rw [IntKind.wrap_i64]; omega
                    have HJJ := Aside0.mk (And.intro hj (And.intro hjl hjt))
                    obtain ⟨bv0, hbv⟩ : ∃ b, (findR X u.f0 u.f1).isSome = b := ⟨_, rfl⟩
                    obtain ⟨Q, hQ⟩ : ∃ Q, findV X u.f0 u.f1 = Q := ⟨_, rfl⟩
                    have hcall : ∀ W, Below w.heap.size w W → Calls Tryd.prog 43 #[.agg #[.slice (some ad) X.length c], .string u.f0, .string u.f1] W fun e w' => ∃ a k b l, e = .returned (.tuple #[.agg #[.string Q.f0, .string Q.f1, .string Q.f2, .string Q.f3, .slice a Q.f4.length k, .slice b Q.f5.length l], .bool bv0]) ∧ Below W.heap.size W w' := fun W hW => by
                      have h := Find_calls X u.f0 u.f1 (some ad) c w W hW HC.out
                      rw [hQ, hbv] at h
                      exact h.mono fun e w' hh => by obtain ⟨v, h1, ⟨a, k, b, l, h2, _⟩, h3⟩ := hh; exact ⟨a, k, b, l, by rw [h1, h2], h3⟩
                    clear hu hxu hQ hj hjl hjt r0 r1
                    go_upto_region 27 with (fail)
                    clear y4
                    have HBd : Aside0 (Below w.heap.size w wv.drew) := ⟨HB7.out.drew⟩
                    have HSd : Aside0 (wv.drew.heap[q]? = some (.cells #[.slice (some ad) X.length c] 43 (0, 0))) := ⟨HS7.out⟩
                    have HXd : Aside0 (wv.drew.heap[p]? = some (.cells #[.string T.f0, .slice (some ad1) T.f1.length c1] 53 (0, 0))) := ⟨HX7.out⟩
                    have HYd : Aside0 (wv.drew.heap[y]? = some (.cells #[.string R.f0, .string R.f1, .string R.f2, .string R.f3, .slice (some ad2) R.f4.length c2, .slice A3 R.f5.length c3] 57 (0, 0))) := ⟨HY7.out⟩
                    clear HB7 HS7 HX7 HY7
                    have HNd : Aside0 (wv.drew.cell? (ad2.add (j * 2)) = some (.string u.f0)) := ⟨pw_cell_below HBd.out HU0.out⟩
                    have HMd : Aside0 (wv.drew.cell? ⟨(ad2.add (j * 2)).block, (ad2.add (j * 2)).off + 1, none⟩ = some (.string u.f1)) := ⟨pw_cell_below HBd.out HU1.out⟩
                    refine start_ (n := 20) (S := fun w' => w'.cell? ⟨q, 0, none⟩ = some (.slice (some ad) X.length c) ∧ w'.cell? ⟨y, 4, none⟩ = some (.slice (some ad2) R.f4.length c2) ∧ w'.cell? (ad2.add (j * 2)) = some (.string u.f0) ∧ w'.cell? ⟨(ad2.add (j * 2)).block, (ad2.add (j * 2)).off + 1, none⟩ = some (.string u.f1)) (ds := [18]) #[false, false, false, false, false, false, false, false, false, false, false, false, false, false, false, false, false, false, false, false] (by kernel_rfl) rfl rfl ⟨blk_cell HSd.out 0, blk_cell HYd.out 4, HNd.out, HMd.out⟩ (fun hHeld => ?_)
                    generalize wv.drew = w7 at HBd HSd HXd HYd HNd HMd hHeld ⊢
                    refine pure_ (i := 1) (N := some 149) (v := ?_) (a' := ?_) #[false, true, false, false, false, false, false, false, false, false, false, false, false, false, false, false, false, false, false, false] rfl rfl (by kernel_rfl) (fun _ _ _ h => h) (Or.inl ⟨by rfl, ?_⟩) ?_ ?_
                    rotate_left
                    · intro w'
                      go_simp
                      with_reducible rfl
                    rotate_left
                    · simp only [Act.put, List.setIfInBounds_toArray, List.set_cons_zero, List.set_cons_succ, i64_w, i32_w]
                      rfl
                    refine pure_ (i := 3) (N := some 151) (v := ?_) (a' := ?_) #[false, true, false, true, false, false, false, false, false, false, false, false, false, false, false, false, false, false, false, false] rfl rfl (by kernel_rfl) (fun _ _ _ h => h) (Or.inl ⟨by rfl, ?_⟩) ?_ ?_
                    rotate_left
                    · intro w'
                      go_simp
                      with_reducible rfl
                    rotate_left
                    · simp only [Act.put, List.setIfInBounds_toArray, List.set_cons_zero, List.set_cons_succ, i64_w, i32_w]
                      rfl
                    refine pure_ (i := 7) (N := some 155) (v := ?_) (a' := ?_) #[false, true, false, true, false, false, false, true, false, false, false, false, false, false, false, false, false, false, false, false] rfl rfl (by kernel_rfl) (fun _ _ _ h => h) (Or.inl ⟨by rfl, ?_⟩) ?_ ?_
                    rotate_left
                    · intro w'
                      go_simp
                      with_reducible rfl
                    rotate_left
                    · simp only [Act.put, List.setIfInBounds_toArray, List.set_cons_zero, List.set_cons_succ, i64_w, i32_w]
                      rfl
                    refine pure_ (i := 9) (N := some 157) (v := ?_) (a' := ?_) #[false, true, false, true, false, false, false, true, false, true, false, false, false, false, false, false, false, false, false, false] rfl rfl (by kernel_rfl) (fun _ _ _ h => h) (Or.inl ⟨by rfl, ?_⟩) ?_ ?_
                    rotate_left
                    · intro w'
                      go_simp
                      with_reducible rfl
                    rotate_left
                    · simp only [Act.put, List.setIfInBounds_toArray, List.set_cons_zero, List.set_cons_succ, i64_w, i32_w]
                      rfl
                    refine take_ (i := 0) (N := some 148) (v := ?_) (a' := ?_) #[true, true, false, true, false, false, false, true, false, true, false, false, false, false, false, false, false, false, false, false] rfl rfl (by kernel_rfl) (fun _ _ _ h => h) (Or.inl ⟨by rfl, ?_⟩) hHeld ?_ ?_
                    rotate_left
                    · rintro w' ⟨s0, s1, s2, s3⟩
                      go_simp
                      with_reducible rfl
                    rotate_left
                    · simp only [Act.put, List.setIfInBounds_toArray, List.set_cons_zero, List.set_cons_succ, i64_w, i32_w]
                      rfl
                    refine take_ (i := 2) (N := some 150) (v := ?_) (a' := ?_) #[true, true, true, true, false, false, false, true, false, true, false, false, false, false, false, false, false, false, false, false] rfl rfl (by kernel_rfl) (fun _ _ _ h => h) (Or.inl ⟨by rfl, ?_⟩) hHeld ?_ ?_
                    rotate_left
                    · rintro w' ⟨s0, s1, s2, s3⟩
                      go_simp
                      with_reducible rfl
                    rotate_left
                    · simp only [Act.put, List.setIfInBounds_toArray, List.set_cons_zero, List.set_cons_succ, i64_w, i32_w]
                      rfl
                    refine pure_ (i := 4) (N := some 152) (v := ?_) (a' := ?_) #[true, true, true, true, true, false, false, true, false, true, false, false, false, false, false, false, false, false, false, false] rfl rfl (by kernel_rfl) (fun _ _ _ h => h) (Or.inl ⟨by rfl, ?_⟩) ?_ ?_
                    rotate_left
                    · intro w'
                      go_simp
                      with_reducible rfl
                    rotate_left
                    · simp only [Act.put, List.setIfInBounds_toArray, List.set_cons_zero, List.set_cons_succ, i64_w, i32_w]
                      rfl
                    refine pure_ (i := 5) (N := some 153) (v := ?_) (a' := ?_) #[true, true, true, true, true, true, false, true, false, true, false, false, false, false, false, false, false, false, false, false] rfl rfl (by kernel_rfl) (fun _ _ _ h => h) (Or.inl ⟨by rfl, ?_⟩) ?_ ?_
                    rotate_left
                    · intro w'
                      go_simp
                      with_reducible rfl
                    rotate_left
                    · simp only [Act.put, List.setIfInBounds_toArray, List.set_cons_zero, List.set_cons_succ, i64_w, i32_w]
                      rfl
                    refine take_ (i := 6) (N := some 154) (v := ?_) (a' := ?_) #[true, true, true, true, true, true, true, true, false, true, false, false, false, false, false, false, false, false, false, false] rfl rfl (by kernel_rfl) (fun _ _ _ h => h) (Or.inl ⟨by rfl, ?_⟩) hHeld ?_ ?_
                    rotate_left
                    · rintro w' ⟨s0, s1, s2, s3⟩
                      go_simp
                      with_reducible rfl
                    rotate_left
                    · simp only [Act.put, List.setIfInBounds_toArray, List.set_cons_zero, List.set_cons_succ, i64_w, i32_w]
                      rfl
                    refine take_ (i := 8) (N := some 156) (v := ?_) (a' := ?_) #[true, true, true, true, true, true, true, true, true, true, false, false, false, false, false, false, false, false, false, false] rfl rfl (by kernel_rfl) (fun _ _ _ h => h) (Or.inl ⟨by rfl, ?_⟩) hHeld ?_ ?_
                    rotate_left
                    · rintro w' ⟨s0, s1, s2, s3⟩
                      go_simp
                      with_reducible rfl
                    rotate_left
                    · simp only [Act.put, List.setIfInBounds_toArray, List.set_cons_zero, List.set_cons_succ, i64_w, i32_w]
                      rfl
                    refine pure_ (i := 10) (N := some 158) (v := ?_) (a' := ?_) #[true, true, true, true, true, true, true, true, true, true, true, false, false, false, false, false, false, false, false, false] rfl rfl (by kernel_rfl) (fun _ _ _ h => h) (Or.inl ⟨by rfl, ?_⟩) ?_ ?_
                    rotate_left
                    · intro w'
                      go_simp
                      with_reducible rfl
                    rotate_left
                    · simp only [Act.put, List.setIfInBounds_toArray, List.set_cons_zero, List.set_cons_succ, i64_w, i32_w]
                      rfl
                    refine pure_ (i := 11) (N := some 159) (v := ?_) (a' := ?_) #[true, true, true, true, true, true, true, true, true, true, true, true, false, false, false, false, false, false, false, false] rfl rfl (by kernel_rfl) (fun _ _ _ h => h) (Or.inl ⟨by rfl, ?_⟩) ?_ ?_
                    rotate_left
                    · intro w'
                      go_simp
                      with_reducible rfl
                    rotate_left
                    · simp only [Act.put, List.setIfInBounds_toArray, List.set_cons_zero, List.set_cons_succ, i64_w, i32_w]
                      rfl
                    refine take_ (i := 12) (N := some 160) (v := ?_) (a' := ?_) #[true, true, true, true, true, true, true, true, true, true, true, true, true, false, false, false, false, false, false, false] rfl rfl (by kernel_rfl) (fun _ _ _ h => h) (Or.inl ⟨by rfl, ?_⟩) hHeld ?_ ?_
                    rotate_left
                    · rintro w' ⟨s0, s1, s2, s3⟩
                      go_simp
                      with_reducible rfl
                    rotate_left
                    · simp only [Act.put, List.setIfInBounds_toArray, List.set_cons_zero, List.set_cons_succ, i64_w, i32_w]
                      rfl
                    refine join_ (σ := Nat × Option Addr × Nat × Option Addr × Nat) 2 #[true, true, true, true, true, true, true, true, true, true, true, true, true, true, true, true, true, true, false, false] (fun s => [(161, .tuple #[.agg #[.string Q.f0, .string Q.f1, .string Q.f2, .string Q.f3, .slice s.2.1 Q.f4.length s.2.2.1, .slice s.2.2.2.1 Q.f5.length s.2.2.2.2], .bool bv0]), (147, .tuple #[.agg #[.string Q.f0, .string Q.f1, .string Q.f2, .string Q.f3, .slice s.2.1 Q.f4.length s.2.2.1, .slice s.2.2.2.1 Q.f5.length s.2.2.2.2], .bool bv0]), (162, .agg #[.string Q.f0, .string Q.f1, .string Q.f2, .string Q.f3, .slice s.2.1 Q.f4.length s.2.2.1, .slice s.2.2.2.1 Q.f5.length s.2.2.2.2]), (163, .bool bv0), (20, .pointer (some ⟨s.1, 0, none⟩))]) (fun s w' => (w'.cell? ⟨q, 0, none⟩ = some (.slice (some ad) X.length c) ∧ w'.cell? ⟨y, 4, none⟩ = some (.slice (some ad2) R.f4.length c2) ∧ w'.cell? (ad2.add (j * 2)) = some (.string u.f0) ∧ w'.cell? ⟨(ad2.add (j * 2)).block, (ad2.add (j * 2)).off + 1, none⟩ = some (.string u.f1)) ∧ Below w7.heap.size w7 w' ∧ w7.heap.size ≤ s.1 ∧ w'.heap[s.1]? = some (.cells #[.string ⟨#[]⟩, .string ⟨#[]⟩, .string ⟨#[]⟩, .string ⟨#[]⟩, .slice none 0 0, .slice none 0 0] 57 (0, 0))) ?_ ?_
                    rotate_left
                    · intro hCont
                      refine two_ (i := 13) (j := 17) (Ni := some 161) (Nj := some 20) #[true, true, true, true, true, true, true, true, true, true, true, true, true, true, false, false, false, false, false, false] #[true, true, true, true, true, true, true, true, true, true, true, true, true, false, false, false, false, true, false, false] rfl rfl rfl rfl (by kernel_rfl) (by decide) (by decide) (fun K hK => ?_) (fun K hK => ?_)
                      · skip
                        refine goes_ Tryd.func43 (by kernel_rfl) rfl #[.agg #[.slice (some ad) X.length c], .string u.f0, .string u.f1] (by rfl) rfl rfl (by simp only [List.map_toArray, List.map_cons, List.map_nil]; rfl) ?_
                        refine (hcall _ (HBd.out)).mono ?_
                        rintro e w8 ⟨av, kv, bv, lv, rfl, hb7⟩
                        refine ⟨_, rfl, ?_⟩
                        refine hK.out _ _ ⟨pw_cell_below hb7 hHeld.1, pw_cell_below hb7 hHeld.2.1, pw_cell_below hb7 hHeld.2.2.1, pw_cell_below hb7 hHeld.2.2.2⟩ (fun hHeld => ?_)
                        clear hK K
                        refine norm_ (a' := ?_) ?_ ?_
                        rotate_left
                        · show Act.put _ (some 161) _ = _
                          simp only [Act.put, List.setIfInBounds_toArray, List.set_cons_zero, List.set_cons_succ, i64_w, i32_w]
                          rfl
                        refine pure_ (i := 14) (N := some 147) (v := ?_) (a' := ?_) #[true, true, true, true, true, true, true, true, true, true, true, true, true, true, true, false, false, false, false, false] rfl rfl (by kernel_rfl) (fun _ _ _ h => h) (Or.inl ⟨by rfl, ?_⟩) ?_ ?_
                        rotate_left
                        · intro w'
                          go_simp
                          with_reducible rfl
                        rotate_left
                        · simp only [Act.put, List.setIfInBounds_toArray, List.set_cons_zero, List.set_cons_succ, i64_w, i32_w]
                          rfl
                        refine pure_ (i := 15) (N := some 162) (v := ?_) (a' := ?_) #[true, true, true, true, true, true, true, true, true, true, true, true, true, true, true, true, false, false, false, false] rfl rfl (by kernel_rfl) (fun _ _ _ h => h) (Or.inl ⟨by rfl, ?_⟩) ?_ ?_
                        rotate_left
                        · intro w'
                          go_simp
                          with_reducible rfl
                        rotate_left
                        · simp only [Act.put, List.setIfInBounds_toArray, List.set_cons_zero, List.set_cons_succ, i64_w, i32_w]
                          rfl
                        refine pure_ (i := 16) (N := some 163) (v := ?_) (a' := ?_) #[true, true, true, true, true, true, true, true, true, true, true, true, true, true, true, true, true, false, false, false] rfl rfl (by kernel_rfl) (fun _ _ _ h => h) (Or.inl ⟨by rfl, ?_⟩) ?_ ?_
                        rotate_left
                        · intro w'
                          go_simp
                          with_reducible rfl
                        rotate_left
                        · simp only [Act.put, List.setIfInBounds_toArray, List.set_cons_zero, List.set_cons_succ, i64_w, i32_w]
                          rfl
                        refine one_ (i := 17) (N := some 20) #[true, true, true, true, true, true, true, true, true, true, true, true, true, true, true, true, true, true, false, false] rfl rfl (by kernel_rfl) (by decide) (fun K hK => ?_)
                        refine value_ (w1 := ?_) (v := ?_) (by rfl) rfl ?_ ?_
                        rotate_left 2
                        · go_simp
                          constructor
                          · rfl
                          · rfl
                        refine hK.out _ _ ⟨(World.cell?_alloc_lt _ _ _ (World.block_lt_of_cell? _ _ (hHeld.1))).trans (hHeld.1), (World.cell?_alloc_lt _ _ _ (World.block_lt_of_cell? _ _ (hHeld.2.1))).trans (hHeld.2.1), (World.cell?_alloc_lt _ _ _ (World.block_lt_of_cell? _ _ (hHeld.2.2.1))).trans (hHeld.2.2.1), (World.cell?_alloc_lt _ _ _ (World.block_lt_of_cell? _ _ (hHeld.2.2.2))).trans (hHeld.2.2.2)⟩ (fun hHeld => ?_)
                        clear hK K
                        refine norm_ (a' := ?_) ?_ ?_
                        rotate_left
                        · show Act.put _ (some 20) _ = _
                          simp only [Act.put, List.setIfInBounds_toArray, List.set_cons_zero, List.set_cons_succ, i64_w, i32_w]
                          rfl
                        exact norm_ (by simp only [putAll, Act.put, List.setIfInBounds_toArray, List.set_cons_zero, List.set_cons_succ]) (hCont ⟨w8.heap.size, av, kv, bv, lv⟩ _ ⟨hHeld, bel2 hb7 (below_alloc (Below.refl _ _) _), hb7.size, (Go.MapKept.heap_alloc w8 _).1⟩)
                      · skip
                        refine value_ (w1 := ?_) (v := ?_) (by rfl) rfl ?_ ?_
                        rotate_left 2
                        · go_simp
                          constructor
                          · rfl
                          · rfl
                        refine hK.out _ _ ⟨(World.cell?_alloc_lt _ _ _ (World.block_lt_of_cell? _ _ (hHeld.1))).trans (hHeld.1), (World.cell?_alloc_lt _ _ _ (World.block_lt_of_cell? _ _ (hHeld.2.1))).trans (hHeld.2.1), (World.cell?_alloc_lt _ _ _ (World.block_lt_of_cell? _ _ (hHeld.2.2.1))).trans (hHeld.2.2.1), (World.cell?_alloc_lt _ _ _ (World.block_lt_of_cell? _ _ (hHeld.2.2.2))).trans (hHeld.2.2.2)⟩ (fun hHeld => ?_)
                        clear hK K
                        refine norm_ (a' := ?_) ?_ ?_
                        rotate_left
                        · show Act.put _ (some 20) _ = _
                          simp only [Act.put, List.setIfInBounds_toArray, List.set_cons_zero, List.set_cons_succ, i64_w, i32_w]
                          rfl
                        refine one_ (i := 13) (N := some 161) #[true, true, true, true, true, true, true, true, true, true, true, true, true, true, false, false, false, true, false, false] rfl rfl (by kernel_rfl) (by decide) (fun K hK => ?_)
                        refine goes_ Tryd.func43 (by kernel_rfl) rfl #[.agg #[.slice (some ad) X.length c], .string u.f0, .string u.f1] (by rfl) rfl rfl (by simp only [List.map_toArray, List.map_cons, List.map_nil]; rfl) ?_
                        refine (hcall _ (bel2 HBd.out (below_alloc (Below.refl _ _) _))).mono ?_
                        rintro e w8 ⟨av, kv, bv, lv, rfl, hb7⟩
                        refine ⟨_, rfl, ?_⟩
                        refine hK.out _ _ ⟨pw_cell_below hb7 hHeld.1, pw_cell_below hb7 hHeld.2.1, pw_cell_below hb7 hHeld.2.2.1, pw_cell_below hb7 hHeld.2.2.2⟩ (fun hHeld => ?_)
                        clear hK K
                        refine norm_ (a' := ?_) ?_ ?_
                        rotate_left
                        · show Act.put _ (some 161) _ = _
                          simp only [Act.put, List.setIfInBounds_toArray, List.set_cons_zero, List.set_cons_succ, i64_w, i32_w]
                          rfl
                        refine pure_ (i := 14) (N := some 147) (v := ?_) (a' := ?_) #[true, true, true, true, true, true, true, true, true, true, true, true, true, true, true, false, false, true, false, false] rfl rfl (by kernel_rfl) (fun _ _ _ h => h) (Or.inl ⟨by rfl, ?_⟩) ?_ ?_
                        rotate_left
                        · intro w'
                          go_simp
                          with_reducible rfl
                        rotate_left
                        · simp only [Act.put, List.setIfInBounds_toArray, List.set_cons_zero, List.set_cons_succ, i64_w, i32_w]
                          rfl
                        refine pure_ (i := 15) (N := some 162) (v := ?_) (a' := ?_) #[true, true, true, true, true, true, true, true, true, true, true, true, true, true, true, true, false, true, false, false] rfl rfl (by kernel_rfl) (fun _ _ _ h => h) (Or.inl ⟨by rfl, ?_⟩) ?_ ?_
                        rotate_left
                        · intro w'
                          go_simp
                          with_reducible rfl
                        rotate_left
                        · simp only [Act.put, List.setIfInBounds_toArray, List.set_cons_zero, List.set_cons_succ, i64_w, i32_w]
                          rfl
                        refine pure_ (i := 16) (N := some 163) (v := ?_) (a' := ?_) #[true, true, true, true, true, true, true, true, true, true, true, true, true, true, true, true, true, true, false, false] rfl rfl (by kernel_rfl) (fun _ _ _ h => h) (Or.inl ⟨by rfl, ?_⟩) ?_ ?_
                        rotate_left
                        · intro w'
                          go_simp
                          with_reducible rfl
                        rotate_left
                        · simp only [Act.put, List.setIfInBounds_toArray, List.set_cons_zero, List.set_cons_succ, i64_w, i32_w]
                          rfl
                        exact norm_ (by simp only [putAll, Act.put, List.setIfInBounds_toArray, List.set_cons_zero, List.set_cons_succ]) (hCont ⟨w7.heap.size, av, kv, bv, lv⟩ _ ⟨hHeld, bel2 (below_alloc (Below.refl _ _) _) hb7, Nat.le_refl _, (hb7.block _ (by simp)).trans (Go.MapKept.heap_alloc w7 _).1⟩)
                    rintro ⟨m, av, kv, bv, lv⟩ w8 ⟨hHeld, hb8, hm8, hz8⟩
                    dsimp only at hm8 hz8
                    have fz0 := blk_frozen hz8 0
                    have fz1 := blk_frozen hz8 1
                    have fz2 := blk_frozen hz8 2
                    have fz3 := blk_frozen hz8 3
                    have fz4 := blk_frozen hz8 4
                    have fz5 := blk_frozen hz8 5
                    have cz0 := blk_cell hz8 0
                    have cz1 := blk_cell hz8 1
                    have cz2 := blk_cell hz8 2
                    have cz3 := blk_cell hz8 3
                    have cz4 := blk_cell hz8 4
                    have cz5 := blk_cell hz8 5
                    refine norm_ (a' := ?_) ?_ ?_
                    rotate_left
                    · simp only [putAll, Act.put, List.setIfInBounds_toArray, List.set_cons_zero, List.set_cons_succ]
                      rfl
                    refine last_ (i := 18) (N := none) #[true, true, true, true, true, true, true, true, true, true, true, true, true, true, true, true, true, true, true, false] rfl rfl (by kernel_rfl) (by decide) (fun K hK => ?_)
                    refine skip_ (w1 := ?_) (by rfl) rfl ?_ ?_
                    rotate_left
                    · go_simp
                      rfl
                    refine hK.out _ _ ?_
                    clear hK K
                    refine pure_ (i := 19) (N := some 21) (v := ?_) (a' := ?_) #[true, true, true, true, true, true, true, true, true, true, true, true, true, true, true, true, true, true, true, true] rfl rfl (by kernel_rfl) (fun _ _ _ h => h) (Or.inl ⟨by rfl, ?_⟩) ?_ ?_
                    rotate_left
                    · intro w'
                      go_simp
                      with_reducible rfl
                    rotate_left
                    · simp only [Act.put, List.setIfInBounds_toArray, List.set_cons_zero, List.set_cons_succ, i64_w, i32_w]
                      rfl
                    refine done_ (by kernel_rfl) ?_
                    have hltq : q < w7.heap.size := blk_lt HSd.out
                    have hltp : p < w7.heap.size := blk_lt HXd.out
                    have hlty : y < w7.heap.size := blk_lt HYd.out
                    have HB8 : Aside0 (Below w.heap.size w ((((((w8.setCell ⟨m, 0, none⟩ (.string Q.f0)).setCell ⟨m, 1, none⟩ (.string Q.f1)).setCell ⟨m, 2, none⟩ (.string Q.f2)).setCell ⟨m, 3, none⟩ (.string Q.f3)).setCell ⟨m, 4, none⟩ (.slice av Q.f4.length kv)).setCell ⟨m, 5, none⟩ (.slice bv Q.f5.length lv))) := ⟨(below_set (below_set (below_set (below_set (below_set (below_set (bel2 HBd.out hb8) (by have := HBd.out.size; show w.heap.size ≤ m; omega)) (by have := HBd.out.size; show w.heap.size ≤ m; omega)) (by have := HBd.out.size; show w.heap.size ≤ m; omega)) (by have := HBd.out.size; show w.heap.size ≤ m; omega)) (by have := HBd.out.size; show w.heap.size ≤ m; omega)) (by have := HBd.out.size; show w.heap.size ≤ m; omega))⟩
                    have HS8 : Aside0 (((((((w8.setCell ⟨m, 0, none⟩ (.string Q.f0)).setCell ⟨m, 1, none⟩ (.string Q.f1)).setCell ⟨m, 2, none⟩ (.string Q.f2)).setCell ⟨m, 3, none⟩ (.string Q.f3)).setCell ⟨m, 4, none⟩ (.slice av Q.f4.length kv)).setCell ⟨m, 5, none⟩ (.slice bv Q.f5.length lv)).heap[q]? = some (.cells #[.slice (some ad) X.length c] 43 (0, 0))) := ⟨(Below.heap_setCell _ ⟨m, 5, none⟩ _ q (show q ≠ m by omega)).trans ((Below.heap_setCell _ ⟨m, 4, none⟩ _ q (show q ≠ m by omega)).trans ((Below.heap_setCell _ ⟨m, 3, none⟩ _ q (show q ≠ m by omega)).trans ((Below.heap_setCell _ ⟨m, 2, none⟩ _ q (show q ≠ m by omega)).trans ((Below.heap_setCell _ ⟨m, 1, none⟩ _ q (show q ≠ m by omega)).trans ((Below.heap_setCell _ ⟨m, 0, none⟩ _ q (show q ≠ m by omega)).trans ((hb8.block q hltq).trans HSd.out))))))⟩
                    have HX8 : Aside0 (((((((w8.setCell ⟨m, 0, none⟩ (.string Q.f0)).setCell ⟨m, 1, none⟩ (.string Q.f1)).setCell ⟨m, 2, none⟩ (.string Q.f2)).setCell ⟨m, 3, none⟩ (.string Q.f3)).setCell ⟨m, 4, none⟩ (.slice av Q.f4.length kv)).setCell ⟨m, 5, none⟩ (.slice bv Q.f5.length lv)).heap[p]? = some (.cells #[.string T.f0, .slice (some ad1) T.f1.length c1] 53 (0, 0))) := ⟨(Below.heap_setCell _ ⟨m, 5, none⟩ _ p (show p ≠ m by omega)).trans ((Below.heap_setCell _ ⟨m, 4, none⟩ _ p (show p ≠ m by omega)).trans ((Below.heap_setCell _ ⟨m, 3, none⟩ _ p (show p ≠ m by omega)).trans ((Below.heap_setCell _ ⟨m, 2, none⟩ _ p (show p ≠ m by omega)).trans ((Below.heap_setCell _ ⟨m, 1, none⟩ _ p (show p ≠ m by omega)).trans ((Below.heap_setCell _ ⟨m, 0, none⟩ _ p (show p ≠ m by omega)).trans ((hb8.block p hltp).trans HXd.out))))))⟩
                    have HY8 : Aside0 (((((((w8.setCell ⟨m, 0, none⟩ (.string Q.f0)).setCell ⟨m, 1, none⟩ (.string Q.f1)).setCell ⟨m, 2, none⟩ (.string Q.f2)).setCell ⟨m, 3, none⟩ (.string Q.f3)).setCell ⟨m, 4, none⟩ (.slice av Q.f4.length kv)).setCell ⟨m, 5, none⟩ (.slice bv Q.f5.length lv)).heap[y]? = some (.cells #[.string R.f0, .string R.f1, .string R.f2, .string R.f3, .slice (some ad2) R.f4.length c2, .slice A3 R.f5.length c3] 57 (0, 0))) := ⟨(Below.heap_setCell _ ⟨m, 5, none⟩ _ y (show y ≠ m by omega)).trans ((Below.heap_setCell _ ⟨m, 4, none⟩ _ y (show y ≠ m by omega)).trans ((Below.heap_setCell _ ⟨m, 3, none⟩ _ y (show y ≠ m by omega)).trans ((Below.heap_setCell _ ⟨m, 2, none⟩ _ y (show y ≠ m by omega)).trans ((Below.heap_setCell _ ⟨m, 1, none⟩ _ y (show y ≠ m by omega)).trans ((Below.heap_setCell _ ⟨m, 0, none⟩ _ y (show y ≠ m by omega)).trans ((hb8.block y hlty).trans HYd.out))))))⟩
                    obtain ⟨wz, hwz⟩ : ∃ wz, ((((((w8.setCell ⟨m, 0, none⟩ (.string Q.f0)).setCell ⟨m, 1, none⟩ (.string Q.f1)).setCell ⟨m, 2, none⟩ (.string Q.f2)).setCell ⟨m, 3, none⟩ (.string Q.f3)).setCell ⟨m, 4, none⟩ (.slice av Q.f4.length kv)).setCell ⟨m, 5, none⟩ (.slice bv Q.f5.length lv)) = wz := ⟨_, rfl⟩
                    rw [hwz] at HB8 HS8 HX8 HY8 ⊢
                    clear hwz hb8 hm8 hz8 fz0 fz1 fz2 fz3 fz4 fz5 cz0 cz1 cz2 cz3 cz4 cz5 HBd HSd hltq HXd hltp HYd hlty
                    have y4 := blk_cell HY8.out 4
                    have u1 := pw_cell_below HB8.out HU1.out
                    clear hcall HNd HMd
                    cases hq1 : (u.f1.toList == ([] : List UInt8)) with
                    | true =>
                      clear hbv
                      go_wp2_with fail
                      go_roundg g3
                      case measure => omega
                      case rel => exact ⟨j + 1, by simp, by have := HJJ.out; omega, HJJ.out.2.2, HB8, HS8, HX8, HY8⟩
                    | false =>
                      obtain rfl : true = bv0 := by
                        rcases HSU.out with h | h
                        · rw [hq1] at h; exact absurd h (by decide)
                        · rw [← hbv, h]
                      clear hbv
                      go_wp2_with fail
                      go_roundg g3
                      case measure => omega
                      case rel => exact ⟨j + 1, by simp, by have := HJJ.out; omega, HJJ.out.2.2, HB8, HS8, HX8, HY8⟩
                  · have j1 : decide ((j : Int) < (R.f4.length : Int)) = false := decide_eq_false (by omega)
                    have j2 : ((j : Int) < (R.f4.length : Int)) = False := eq_false (by omega)
                    have j3 : decide (j < R.f4.length) = false := decide_eq_false (by omega)
                    clear hjt hj hjl
                    have HB6 := HB7
                    have HS6 := HS7
                    have HX6 := HX7
                    have HY6 := HY7
                    clear HB7 HS7 HX7 HY7
                    go_wp2_with fail
                    clear y4
                    go_loopg [22] (R.f5.length + 1) (fun gg s22 wv => ∃ m : Nat, s22 = .int .i64 m ∧ m + gg = R.f5.length + 1 ∧ m ≤ R.f5.length ∧ Aside0 (Below w.heap.size w wv) ∧ Aside0 (wv.heap[q]? = some (.cells #[.slice (some ad) X.length c] 43 (0, 0))) ∧ Aside0 (wv.heap[p]? = some (.cells #[.string T.f0, .slice (some ad1) T.f1.length c1] 53 (0, 0))) ∧ Aside0 (wv.heap[y]? = some (.cells #[.string R.f0, .string R.f1, .string R.f2, .string R.f3, .slice A2 R.f4.length c2, .slice A3 R.f5.length c3] 57 (0, 0))))
                    case atStart => exact ⟨0, rfl, by omega, Nat.zero_le _, HB6, HS6, HX6, HY6⟩
                    case round =>
                      clear HB6 HS6 HX6 HY6
                      obtain ⟨o, rfl, ho, hol, HB7, HS7, HX7, HY7⟩ := hrel
                      rename World => wv
                      cases gk with
                      | zero => omega
                      | succ g4 =>
                        have y5 := blk_cell HY7.out 5
                        by_cases hot : o < R.f5.length
                        · have o1 : decide ((o : Int) < (R.f5.length : Int)) = true := decide_eq_true (by omega)
                          have o2 : ((o : Int) < (R.f5.length : Int)) = True := eq_true (by omega)
                          have o3 : decide (o < R.f5.length) = true := decide_eq_true (by assumption)
                          have o4 : (0 ≤ (o : Int)) = True := eq_true (by omega)
                          have o5 : decide ((o : Int) < 0) = false := decide_eq_false (by omega)
                          have o6 : ((o : Int) < 0) = False := eq_false (by omega)
                          obtain ⟨u, hu⟩ : ∃ u, rd_T59 R.f5 (o : Int) = u := ⟨_, rfl⟩
                          have hxu : R.f5[o] = u := by rw [← hu]; unfold rd_T59; rw [Int.toNat_natCast, List.getD_eq_getElem?_getD, List.getElem?_eq_getElem hot]; rfl
                          have HOP := Aside0.mk (HOK.out.2 u (by rw [← hxu]; exact List.getElem_mem hot))
                          obtain ⟨ad3, rfl, r0, r1, r2⟩ := at_T59 HC3.out (o : Int) (by omega) (by omega)
                          rw [hu, Int.toNat_natCast] at r0 r1 r2
                          have HU0 := Aside0.mk r0
                          have HU1 := Aside0.mk r1
                          have hwo : IntKind.i64.wrap ((o : Int) + 1) = ((o + 1 : Nat) : Int) := by have := HMO.out; rw [IntKind.wrap_i64]; omega
                          have HO := Aside0.mk (And.intro ho (And.intro hol hot))
                          obtain ⟨bv0, hbv⟩ : ∃ b, (findR X T.f0 u.f1).isSome = b := ⟨_, rfl⟩
                          obtain ⟨Q, hQ⟩ : ∃ Q, findV X T.f0 u.f1 = Q := ⟨_, rfl⟩
                          have hcall : ∀ W, Below w.heap.size w W → Calls Tryd.prog 43 #[.agg #[.slice (some ad) X.length c], .string T.f0, .string u.f1] W fun e w' => ∃ a k b l, e = .returned (.tuple #[.agg #[.string Q.f0, .string Q.f1, .string Q.f2, .string Q.f3, .slice a Q.f4.length k, .slice b Q.f5.length l], .bool bv0]) ∧ Below W.heap.size W w' := fun W hW => by
                            have h := Find_calls X T.f0 u.f1 (some ad) c w W hW HC.out
                            rw [hQ, hbv] at h
                            exact h.mono fun e w' hh => by obtain ⟨v, h1, ⟨a, k, b, l, h2, _⟩, h3⟩ := hh; exact ⟨a, k, b, l, by rw [h1, h2], h3⟩
                          clear hu hxu hQ ho hol hot r0 r1 r2
                          go_upto_region 33 with (fail)
                          clear y5
                          have HBd : Aside0 (Below w.heap.size w wv.drew) := ⟨HB7.out.drew⟩
                          have HSd : Aside0 (wv.drew.heap[q]? = some (.cells #[.slice (some ad) X.length c] 43 (0, 0))) := ⟨HS7.out⟩
                          have HXd : Aside0 (wv.drew.heap[p]? = some (.cells #[.string T.f0, .slice (some ad1) T.f1.length c1] 53 (0, 0))) := ⟨HX7.out⟩
                          have HYd : Aside0 (wv.drew.heap[y]? = some (.cells #[.string R.f0, .string R.f1, .string R.f2, .string R.f3, .slice A2 R.f4.length c2, .slice (some ad3) R.f5.length c3] 57 (0, 0))) := ⟨HY7.out⟩
                          clear HB7 HS7 HX7 HY7
                          have HNd : Aside0 (wv.drew.cell? ⟨(ad3.add (o * 3)).block, (ad3.add (o * 3)).off + 1, none⟩ = some (.string u.f1)) := ⟨pw_cell_below HBd.out HU1.out⟩
                          refine start_ (n := 16) (S := fun w' => w'.cell? ⟨q, 0, none⟩ = some (.slice (some ad) X.length c) ∧ w'.cell? ⟨p, 0, none⟩ = some (.string T.f0) ∧ w'.cell? ⟨y, 5, none⟩ = some (.slice (some ad3) R.f5.length c3) ∧ w'.cell? ⟨(ad3.add (o * 3)).block, (ad3.add (o * 3)).off + 1, none⟩ = some (.string u.f1)) (ds := [14]) #[false, false, false, false, false, false, false, false, false, false, false, false, false, false, false, false] (by kernel_rfl) rfl rfl ⟨blk_cell HSd.out 0, blk_cell HXd.out 0, blk_cell HYd.out 5, HNd.out⟩ (fun hHeld => ?_)
                          generalize wv.drew = w7 at HBd HSd HXd HYd HNd hHeld ⊢
                          refine pure_ (i := 1) (N := some 184) (v := ?_) (a' := ?_) #[false, true, false, false, false, false, false, false, false, false, false, false, false, false, false, false] rfl rfl (by kernel_rfl) (fun _ _ _ h => h) (Or.inl ⟨by rfl, ?_⟩) ?_ ?_
                          rotate_left
                          · intro w'
                            go_simp
                            with_reducible rfl
                          rotate_left
                          · simp only [Act.put, List.setIfInBounds_toArray, List.set_cons_zero, List.set_cons_succ, i64_w, i32_w]
                            rfl
                          refine pure_ (i := 3) (N := some 186) (v := ?_) (a' := ?_) #[false, true, false, true, false, false, false, false, false, false, false, false, false, false, false, false] rfl rfl (by kernel_rfl) (fun _ _ _ h => h) (Or.inl ⟨by rfl, ?_⟩) ?_ ?_
                          rotate_left
                          · intro w'
                            go_simp
                            with_reducible rfl
                          rotate_left
                          · simp only [Act.put, List.setIfInBounds_toArray, List.set_cons_zero, List.set_cons_succ, i64_w, i32_w]
                            rfl
                          refine pure_ (i := 5) (N := some 188) (v := ?_) (a' := ?_) #[false, true, false, true, false, true, false, false, false, false, false, false, false, false, false, false] rfl rfl (by kernel_rfl) (fun _ _ _ h => h) (Or.inl ⟨by rfl, ?_⟩) ?_ ?_
                          rotate_left
                          · intro w'
                            go_simp
                            with_reducible rfl
                          rotate_left
                          · simp only [Act.put, List.setIfInBounds_toArray, List.set_cons_zero, List.set_cons_succ, i64_w, i32_w]
                            rfl
                          refine take_ (i := 0) (N := some 183) (v := ?_) (a' := ?_) #[true, true, false, true, false, true, false, false, false, false, false, false, false, false, false, false] rfl rfl (by kernel_rfl) (fun _ _ _ h => h) (Or.inl ⟨by rfl, ?_⟩) hHeld ?_ ?_
                          rotate_left
                          · rintro w' ⟨s0, s1, s2, s3⟩
                            go_simp
                            with_reducible rfl
                          rotate_left
                          · simp only [Act.put, List.setIfInBounds_toArray, List.set_cons_zero, List.set_cons_succ, i64_w, i32_w]
                            rfl
                          refine take_ (i := 2) (N := some 185) (v := ?_) (a' := ?_) #[true, true, true, true, false, true, false, false, false, false, false, false, false, false, false, false] rfl rfl (by kernel_rfl) (fun _ _ _ h => h) (Or.inl ⟨by rfl, ?_⟩) hHeld ?_ ?_
                          rotate_left
                          · rintro w' ⟨s0, s1, s2, s3⟩
                            go_simp
                            with_reducible rfl
                          rotate_left
                          · simp only [Act.put, List.setIfInBounds_toArray, List.set_cons_zero, List.set_cons_succ, i64_w, i32_w]
                            rfl
                          refine take_ (i := 4) (N := some 187) (v := ?_) (a' := ?_) #[true, true, true, true, true, true, false, false, false, false, false, false, false, false, false, false] rfl rfl (by kernel_rfl) (fun _ _ _ h => h) (Or.inl ⟨by rfl, ?_⟩) hHeld ?_ ?_
                          rotate_left
                          · rintro w' ⟨s0, s1, s2, s3⟩
                            go_simp
                            with_reducible rfl
                          rotate_left
                          · simp only [Act.put, List.setIfInBounds_toArray, List.set_cons_zero, List.set_cons_succ, i64_w, i32_w]
                            rfl
                          refine pure_ (i := 6) (N := some 189) (v := ?_) (a' := ?_) #[true, true, true, true, true, true, true, false, false, false, false, false, false, false, false, false] rfl rfl (by kernel_rfl) (fun _ _ _ h => h) (Or.inl ⟨by rfl, ?_⟩) ?_ ?_
                          rotate_left
                          · intro w'
                            go_simp
                            with_reducible rfl
                          rotate_left
                          · simp only [Act.put, List.setIfInBounds_toArray, List.set_cons_zero, List.set_cons_succ, i64_w, i32_w]
                            rfl
                          refine pure_ (i := 7) (N := some 190) (v := ?_) (a' := ?_) #[true, true, true, true, true, true, true, true, false, false, false, false, false, false, false, false] rfl rfl (by kernel_rfl) (fun _ _ _ h => h) (Or.inl ⟨by rfl, ?_⟩) ?_ ?_
                          rotate_left
                          · intro w'
                            go_simp
                            with_reducible rfl
                          rotate_left
                          · simp only [Act.put, List.setIfInBounds_toArray, List.set_cons_zero, List.set_cons_succ, i64_w, i32_w]
                            rfl
                          refine take_ (i := 8) (N := some 191) (v := ?_) (a' := ?_) #[true, true, true, true, true, true, true, true, true, false, false, false, false, false, false, false] rfl rfl (by kernel_rfl) (fun _ _ _ h => h) (Or.inl ⟨by rfl, ?_⟩) hHeld ?_ ?_
                          rotate_left
                          · rintro w' ⟨s0, s1, s2, s3⟩
                            go_simp
                            with_reducible rfl
                          rotate_left
                          · simp only [Act.put, List.setIfInBounds_toArray, List.set_cons_zero, List.set_cons_succ, i64_w, i32_w]
                            rfl
                          refine join_ (σ := Nat × Option Addr × Nat × Option Addr × Nat) 2 #[true, true, true, true, true, true, true, true, true, true, true, true, true, true, false, false] (fun s => [(192, .tuple #[.agg #[.string Q.f0, .string Q.f1, .string Q.f2, .string Q.f3, .slice s.2.1 Q.f4.length s.2.2.1, .slice s.2.2.2.1 Q.f5.length s.2.2.2.2], .bool bv0]), (182, .tuple #[.agg #[.string Q.f0, .string Q.f1, .string Q.f2, .string Q.f3, .slice s.2.1 Q.f4.length s.2.2.1, .slice s.2.2.2.1 Q.f5.length s.2.2.2.2], .bool bv0]), (193, .agg #[.string Q.f0, .string Q.f1, .string Q.f2, .string Q.f3, .slice s.2.1 Q.f4.length s.2.2.1, .slice s.2.2.2.1 Q.f5.length s.2.2.2.2]), (194, .bool bv0), (23, .pointer (some ⟨s.1, 0, none⟩))]) (fun s w' => (w'.cell? ⟨q, 0, none⟩ = some (.slice (some ad) X.length c) ∧ w'.cell? ⟨p, 0, none⟩ = some (.string T.f0) ∧ w'.cell? ⟨y, 5, none⟩ = some (.slice (some ad3) R.f5.length c3) ∧ w'.cell? ⟨(ad3.add (o * 3)).block, (ad3.add (o * 3)).off + 1, none⟩ = some (.string u.f1)) ∧ Below w7.heap.size w7 w' ∧ w7.heap.size ≤ s.1 ∧ w'.heap[s.1]? = some (.cells #[.string ⟨#[]⟩, .string ⟨#[]⟩, .string ⟨#[]⟩, .string ⟨#[]⟩, .slice none 0 0, .slice none 0 0] 57 (0, 0))) ?_ ?_
                          rotate_left
                          · intro hCont
                            refine two_ (i := 9) (j := 13) (Ni := some 192) (Nj := some 23) #[true, true, true, true, true, true, true, true, true, true, false, false, false, false, false, false] #[true, true, true, true, true, true, true, true, true, false, false, false, false, true, false, false] rfl rfl rfl rfl (by kernel_rfl) (by decide) (by decide) (fun K hK => ?_) (fun K hK => ?_)
                            · skip
                              refine goes_ Tryd.func43 (by kernel_rfl) rfl #[.agg #[.slice (some ad) X.length c], .string T.f0, .string u.f1] (by rfl) rfl rfl (by simp only [List.map_toArray, List.map_cons, List.map_nil]; rfl) ?_
                              refine (hcall _ (HBd.out)).mono ?_
                              rintro e w8 ⟨av, kv, bv, lv, rfl, hb7⟩
                              refine ⟨_, rfl, ?_⟩
                              refine hK.out _ _ ⟨pw_cell_below hb7 hHeld.1, pw_cell_below hb7 hHeld.2.1, pw_cell_below hb7 hHeld.2.2.1, pw_cell_below hb7 hHeld.2.2.2⟩ (fun hHeld => ?_)
                              clear hK K
                              refine norm_ (a' := ?_) ?_ ?_
                              rotate_left
                              · show Act.put _ (some 192) _ = _
                                simp only [Act.put, List.setIfInBounds_toArray, List.set_cons_zero, List.set_cons_succ, i64_w, i32_w]
                                rfl
                              refine pure_ (i := 10) (N := some 182) (v := ?_) (a' := ?_) #[true, true, true, true, true, true, true, true, true, true, true, false, false, false, false, false] rfl rfl (by kernel_rfl) (fun _ _ _ h => h) (Or.inl ⟨by rfl, ?_⟩) ?_ ?_
                              rotate_left
                              · intro w'
                                go_simp
                                with_reducible rfl
                              rotate_left
                              · simp only [Act.put, List.setIfInBounds_toArray, List.set_cons_zero, List.set_cons_succ, i64_w, i32_w]
                                rfl
                              refine pure_ (i := 11) (N := some 193) (v := ?_) (a' := ?_) #[true, true, true, true, true, true, true, true, true, true, true, true, false, false, false, false] rfl rfl (by kernel_rfl) (fun _ _ _ h => h) (Or.inl ⟨by rfl, ?_⟩) ?_ ?_
                              rotate_left
                              · intro w'
                                go_simp
                                with_reducible rfl
                              rotate_left
                              · simp only [Act.put, List.setIfInBounds_toArray, List.set_cons_zero, List.set_cons_succ, i64_w, i32_w]
                                rfl
                              refine pure_ (i := 12) (N := some 194) (v := ?_) (a' := ?_) #[true, true, true, true, true, true, true, true, true, true, true, true, true, false, false, false] rfl rfl (by kernel_rfl) (fun _ _ _ h => h) (Or.inl ⟨by rfl, ?_⟩) ?_ ?_
                              rotate_left
                              · intro w'
                                go_simp
                                with_reducible rfl
                              rotate_left
                              · simp only [Act.put, List.setIfInBounds_toArray, List.set_cons_zero, List.set_cons_succ, i64_w, i32_w]
                                rfl
                              refine one_ (i := 13) (N := some 23) #[true, true, true, true, true, true, true, true, true, true, true, true, true, true, false, false] rfl rfl (by kernel_rfl) (by decide) (fun K hK => ?_)
                              refine value_ (w1 := ?_) (v := ?_) (by rfl) rfl ?_ ?_
                              rotate_left 2
                              · go_simp
                                constructor
                                · rfl
                                · rfl
                              refine hK.out _ _ ⟨(World.cell?_alloc_lt _ _ _ (World.block_lt_of_cell? _ _ (hHeld.1))).trans (hHeld.1), (World.cell?_alloc_lt _ _ _ (World.block_lt_of_cell? _ _ (hHeld.2.1))).trans (hHeld.2.1), (World.cell?_alloc_lt _ _ _ (World.block_lt_of_cell? _ _ (hHeld.2.2.1))).trans (hHeld.2.2.1), (World.cell?_alloc_lt _ _ _ (World.block_lt_of_cell? _ _ (hHeld.2.2.2))).trans (hHeld.2.2.2)⟩ (fun hHeld => ?_)
                              clear hK K
                              refine norm_ (a' := ?_) ?_ ?_
                              rotate_left
                              · show Act.put _ (some 23) _ = _
                                simp only [Act.put, List.setIfInBounds_toArray, List.set_cons_zero, List.set_cons_succ, i64_w, i32_w]
                                rfl
                              exact norm_ (by simp only [putAll, Act.put, List.setIfInBounds_toArray, List.set_cons_zero, List.set_cons_succ]) (hCont ⟨w8.heap.size, av, kv, bv, lv⟩ _ ⟨hHeld, bel2 hb7 (below_alloc (Below.refl _ _) _), hb7.size, (Go.MapKept.heap_alloc w8 _).1⟩)
                            · skip
                              refine value_ (w1 := ?_) (v := ?_) (by rfl) rfl ?_ ?_
                              rotate_left 2
                              · go_simp
                                constructor
                                · rfl
                                · rfl
                              refine hK.out _ _ ⟨(World.cell?_alloc_lt _ _ _ (World.block_lt_of_cell? _ _ (hHeld.1))).trans (hHeld.1), (World.cell?_alloc_lt _ _ _ (World.block_lt_of_cell? _ _ (hHeld.2.1))).trans (hHeld.2.1), (World.cell?_alloc_lt _ _ _ (World.block_lt_of_cell? _ _ (hHeld.2.2.1))).trans (hHeld.2.2.1), (World.cell?_alloc_lt _ _ _ (World.block_lt_of_cell? _ _ (hHeld.2.2.2))).trans (hHeld.2.2.2)⟩ (fun hHeld => ?_)
                              clear hK K
                              refine norm_ (a' := ?_) ?_ ?_
                              rotate_left
                              · show Act.put _ (some 23) _ = _
                                simp only [Act.put, List.setIfInBounds_toArray, List.set_cons_zero, List.set_cons_succ, i64_w, i32_w]
                                rfl
                              refine one_ (i := 9) (N := some 192) #[true, true, true, true, true, true, true, true, true, true, false, false, false, true, false, false] rfl rfl (by kernel_rfl) (by decide) (fun K hK => ?_)
                              refine goes_ Tryd.func43 (by kernel_rfl) rfl #[.agg #[.slice (some ad) X.length c], .string T.f0, .string u.f1] (by rfl) rfl rfl (by simp only [List.map_toArray, List.map_cons, List.map_nil]; rfl) ?_
                              refine (hcall _ (bel2 HBd.out (below_alloc (Below.refl _ _) _))).mono ?_
                              rintro e w8 ⟨av, kv, bv, lv, rfl, hb7⟩
                              refine ⟨_, rfl, ?_⟩
                              refine hK.out _ _ ⟨pw_cell_below hb7 hHeld.1, pw_cell_below hb7 hHeld.2.1, pw_cell_below hb7 hHeld.2.2.1, pw_cell_below hb7 hHeld.2.2.2⟩ (fun hHeld => ?_)
                              clear hK K
                              refine norm_ (a' := ?_) ?_ ?_
                              rotate_left
                              · show Act.put _ (some 192) _ = _
                                simp only [Act.put, List.setIfInBounds_toArray, List.set_cons_zero, List.set_cons_succ, i64_w, i32_w]
                                rfl
                              refine pure_ (i := 10) (N := some 182) (v := ?_) (a' := ?_) #[true, true, true, true, true, true, true, true, true, true, true, false, false, true, false, false] rfl rfl (by kernel_rfl) (fun _ _ _ h => h) (Or.inl ⟨by rfl, ?_⟩) ?_ ?_
                              rotate_left
                              · intro w'
                                go_simp
                                with_reducible rfl
                              rotate_left
                              · simp only [Act.put, List.setIfInBounds_toArray, List.set_cons_zero, List.set_cons_succ, i64_w, i32_w]
                                rfl
                              refine pure_ (i := 11) (N := some 193) (v := ?_) (a' := ?_) #[true, true, true, true, true, true, true, true, true, true, true, true, false, true, false, false] rfl rfl (by kernel_rfl) (fun _ _ _ h => h) (Or.inl ⟨by rfl, ?_⟩) ?_ ?_
                              rotate_left
                              · intro w'
                                go_simp
                                with_reducible rfl
                              rotate_left
                              · simp only [Act.put, List.setIfInBounds_toArray, List.set_cons_zero, List.set_cons_succ, i64_w, i32_w]
                                rfl
                              refine pure_ (i := 12) (N := some 194) (v := ?_) (a' := ?_) #[true, true, true, true, true, true, true, true, true, true, true, true, true, true, false, false] rfl rfl (by kernel_rfl) (fun _ _ _ h => h) (Or.inl ⟨by rfl, ?_⟩) ?_ ?_
                              rotate_left
                              · intro w'
                                go_simp
                                with_reducible rfl
                              rotate_left
                              · simp only [Act.put, List.setIfInBounds_toArray, List.set_cons_zero, List.set_cons_succ, i64_w, i32_w]
                                rfl
                              exact norm_ (by simp only [putAll, Act.put, List.setIfInBounds_toArray, List.set_cons_zero, List.set_cons_succ]) (hCont ⟨w7.heap.size, av, kv, bv, lv⟩ _ ⟨hHeld, bel2 (below_alloc (Below.refl _ _) _) hb7, Nat.le_refl _, (hb7.block _ (by simp)).trans (Go.MapKept.heap_alloc w7 _).1⟩)
                          rintro ⟨m, av, kv, bv, lv⟩ w8 ⟨hHeld, hb8, hm8, hz8⟩
                          dsimp only at hm8 hz8
                          have fz0 := blk_frozen hz8 0
                          have fz1 := blk_frozen hz8 1
                          have fz2 := blk_frozen hz8 2
                          have fz3 := blk_frozen hz8 3
                          have fz4 := blk_frozen hz8 4
                          have fz5 := blk_frozen hz8 5
                          have cz0 := blk_cell hz8 0
                          have cz1 := blk_cell hz8 1
                          have cz2 := blk_cell hz8 2
                          have cz3 := blk_cell hz8 3
                          have cz4 := blk_cell hz8 4
                          have cz5 := blk_cell hz8 5
                          refine norm_ (a' := ?_) ?_ ?_
                          rotate_left
                          · simp only [putAll, Act.put, List.setIfInBounds_toArray, List.set_cons_zero, List.set_cons_succ]
                            rfl
                          refine last_ (i := 14) (N := none) #[true, true, true, true, true, true, true, true, true, true, true, true, true, true, true, false] rfl rfl (by kernel_rfl) (by decide) (fun K hK => ?_)
                          refine skip_ (w1 := ?_) (by rfl) rfl ?_ ?_
                          rotate_left
                          · go_simp
                            rfl
                          refine hK.out _ _ ?_
                          clear hK K
                          refine pure_ (i := 15) (N := some 24) (v := ?_) (a' := ?_) #[true, true, true, true, true, true, true, true, true, true, true, true, true, true, true, true] rfl rfl (by kernel_rfl) (fun _ _ _ h => h) (Or.inl ⟨by rfl, ?_⟩) ?_ ?_
                          rotate_left
                          · intro w'
                            go_simp
                            with_reducible rfl
                          rotate_left
                          · simp only [Act.put, List.setIfInBounds_toArray, List.set_cons_zero, List.set_cons_succ, i64_w, i32_w]
                            rfl
                          refine done_ (by kernel_rfl) ?_
                          have hltq : q < w7.heap.size := blk_lt HSd.out
                          have hltp : p < w7.heap.size := blk_lt HXd.out
                          have hlty : y < w7.heap.size := blk_lt HYd.out
                          have HB8 : Aside0 (Below w.heap.size w ((((((w8.setCell ⟨m, 0, none⟩ (.string Q.f0)).setCell ⟨m, 1, none⟩ (.string Q.f1)).setCell ⟨m, 2, none⟩ (.string Q.f2)).setCell ⟨m, 3, none⟩ (.string Q.f3)).setCell ⟨m, 4, none⟩ (.slice av Q.f4.length kv)).setCell ⟨m, 5, none⟩ (.slice bv Q.f5.length lv))) := ⟨(below_set (below_set (below_set (below_set (below_set (below_set (bel2 HBd.out hb8) (by have := HBd.out.size; show w.heap.size ≤ m; omega)) (by have := HBd.out.size; show w.heap.size ≤ m; omega)) (by have := HBd.out.size; show w.heap.size ≤ m; omega)) (by have := HBd.out.size; show w.heap.size ≤ m; omega)) (by have := HBd.out.size; show w.heap.size ≤ m; omega)) (by have := HBd.out.size; show w.heap.size ≤ m; omega))⟩
                          have HS8 : Aside0 (((((((w8.setCell ⟨m, 0, none⟩ (.string Q.f0)).setCell ⟨m, 1, none⟩ (.string Q.f1)).setCell ⟨m, 2, none⟩ (.string Q.f2)).setCell ⟨m, 3, none⟩ (.string Q.f3)).setCell ⟨m, 4, none⟩ (.slice av Q.f4.length kv)).setCell ⟨m, 5, none⟩ (.slice bv Q.f5.length lv)).heap[q]? = some (.cells #[.slice (some ad) X.length c] 43 (0, 0))) := ⟨(Below.heap_setCell _ ⟨m, 5, none⟩ _ q (show q ≠ m by omega)).trans ((Below.heap_setCell _ ⟨m, 4, none⟩ _ q (show q ≠ m by omega)).trans ((Below.heap_setCell _ ⟨m, 3, none⟩ _ q (show q ≠ m by omega)).trans ((Below.heap_setCell _ ⟨m, 2, none⟩ _ q (show q ≠ m by omega)).trans ((Below.heap_setCell _ ⟨m, 1, none⟩ _ q (show q ≠ m by omega)).trans ((Below.heap_setCell _ ⟨m, 0, none⟩ _ q (show q ≠ m by omega)).trans ((hb8.block q hltq).trans HSd.out))))))⟩
                          have HX8 : Aside0 (((((((w8.setCell ⟨m, 0, none⟩ (.string Q.f0)).setCell ⟨m, 1, none⟩ (.string Q.f1)).setCell ⟨m, 2, none⟩ (.string Q.f2)).setCell ⟨m, 3, none⟩ (.string Q.f3)).setCell ⟨m, 4, none⟩ (.slice av Q.f4.length kv)).setCell ⟨m, 5, none⟩ (.slice bv Q.f5.length lv)).heap[p]? = some (.cells #[.string T.f0, .slice (some ad1) T.f1.length c1] 53 (0, 0))) := ⟨(Below.heap_setCell _ ⟨m, 5, none⟩ _ p (show p ≠ m by omega)).trans ((Below.heap_setCell _ ⟨m, 4, none⟩ _ p (show p ≠ m by omega)).trans ((Below.heap_setCell _ ⟨m, 3, none⟩ _ p (show p ≠ m by omega)).trans ((Below.heap_setCell _ ⟨m, 2, none⟩ _ p (show p ≠ m by omega)).trans ((Below.heap_setCell _ ⟨m, 1, none⟩ _ p (show p ≠ m by omega)).trans ((Below.heap_setCell _ ⟨m, 0, none⟩ _ p (show p ≠ m by omega)).trans ((hb8.block p hltp).trans HXd.out))))))⟩
                          have HY8 : Aside0 (((((((w8.setCell ⟨m, 0, none⟩ (.string Q.f0)).setCell ⟨m, 1, none⟩ (.string Q.f1)).setCell ⟨m, 2, none⟩ (.string Q.f2)).setCell ⟨m, 3, none⟩ (.string Q.f3)).setCell ⟨m, 4, none⟩ (.slice av Q.f4.length kv)).setCell ⟨m, 5, none⟩ (.slice bv Q.f5.length lv)).heap[y]? = some (.cells #[.string R.f0, .string R.f1, .string R.f2, .string R.f3, .slice A2 R.f4.length c2, .slice (some ad3) R.f5.length c3] 57 (0, 0))) := ⟨(Below.heap_setCell _ ⟨m, 5, none⟩ _ y (show y ≠ m by omega)).trans ((Below.heap_setCell _ ⟨m, 4, none⟩ _ y (show y ≠ m by omega)).trans ((Below.heap_setCell _ ⟨m, 3, none⟩ _ y (show y ≠ m by omega)).trans ((Below.heap_setCell _ ⟨m, 2, none⟩ _ y (show y ≠ m by omega)).trans ((Below.heap_setCell _ ⟨m, 1, none⟩ _ y (show y ≠ m by omega)).trans ((Below.heap_setCell _ ⟨m, 0, none⟩ _ y (show y ≠ m by omega)).trans ((hb8.block y hlty).trans HYd.out))))))⟩
                          obtain ⟨wz, hwz⟩ : ∃ wz, ((((((w8.setCell ⟨m, 0, none⟩ (.string Q.f0)).setCell ⟨m, 1, none⟩ (.string Q.f1)).setCell ⟨m, 2, none⟩ (.string Q.f2)).setCell ⟨m, 3, none⟩ (.string Q.f3)).setCell ⟨m, 4, none⟩ (.slice av Q.f4.length kv)).setCell ⟨m, 5, none⟩ (.slice bv Q.f5.length lv)) = wz := ⟨_, rfl⟩
                          rw [hwz] at HB8 HS8 HX8 HY8 ⊢
                          clear hwz hb8 hm8 hz8 fz0 fz1 fz2 fz3 fz4 fz5 cz0 cz1 cz2 cz3 cz4 cz5 HBd HSd hltq HXd hltp HYd hlty
                          have y5 := blk_cell HY8.out 5
                          have u0 := pw_cell_below HB8.out HU0.out
                          clear hcall HNd
                          rcases HOP.out with ⟨k2', k3'⟩ | hs
                          · have d1 : (u.f0 == 2) = false := by simpa using k2'
                            have d2 : decide (u.f0 = 2) = false := decide_eq_false k2'
                            have d3 : (u.f0 = 2) = False := eq_false k2'
                            have d4 : (u.f0 == 3) = false := by simpa using k3'
                            have d5 : decide (u.f0 = 3) = false := decide_eq_false k3'
                            have d6 : (u.f0 = 3) = False := eq_false k3'
                            clear hbv
                            go_wp2_with fail
                            go_roundg g4
                            case measure => omega
                            case rel => exact ⟨o + 1, by simp, by have := HO.out; omega, HO.out.2.2, HB8, HS8, HX8, HY8⟩
                          · obtain rfl : true = bv0 := by rw [← hbv, hs]
                            clear hbv
                            by_cases k2' : u.f0 = 2
                            · rw [k2'] at u0
                              go_wp2_with fail
                              go_roundg g4
                              case measure => omega
                              case rel => exact ⟨o + 1, by simp, by have := HO.out; omega, HO.out.2.2, HB8, HS8, HX8, HY8⟩
                            · have d1 : (u.f0 == 2) = false := by simpa using k2'
                              have d2 : decide (u.f0 = 2) = false := decide_eq_false k2'
                              have d3 : (u.f0 = 2) = False := eq_false k2'
                              by_cases k3' : u.f0 = 3
                              · rw [k3'] at u0
                                go_wp2_with fail
                                go_roundg g4
                                case measure => omega
                                case rel => exact ⟨o + 1, by simp, by have := HO.out; omega, HO.out.2.2, HB8, HS8, HX8, HY8⟩
                              · have d4 : (u.f0 == 3) = false := by simpa using k3'
                                have d5 : decide (u.f0 = 3) = false := decide_eq_false k3'
                                have d6 : (u.f0 = 3) = False := eq_false k3'
                                go_wp2_with fail
                                go_roundg g4
                                case measure => omega
                                case rel => exact ⟨o + 1, by simp, by have := HO.out; omega, HO.out.2.2, HB8, HS8, HX8, HY8⟩
                        · have o1 : decide ((o : Int) < (R.f5.length : Int)) = false := decide_eq_false (by omega)
                          have o2 : ((o : Int) < (R.f5.length : Int)) = False := eq_false (by omega)
                          have o3 : decide (o < R.f5.length) = false := decide_eq_false (by omega)
                          clear hot ho hol
                          go_wp2_with fail
                          go_roundg g2
                          case measure => omega
                          case rel => exact ⟨k + 1, by simp, by have := HK.out; omega, HK.out.2.2, HB7, HS7, HX7⟩
            · have f1 : decide ((k : Int) < (T.f1.length : Int)) = false := decide_eq_false (by omega)
              have f2 : ((k : Int) < (T.f1.length : Int)) = False := eq_false (by omega)
              have f3 : decide (k < T.f1.length) = false := decide_eq_false (by omega)
              clear hkt hk hkl
              go_wp2_with fail
              go_roundg g1
              case measure => omega
              case rel => exact ⟨i + 1, by simp, by have := HJ.out; omega, HJ.out.2.2, HB3, HS3⟩
      · have e1 : decide ((i : Int) < (X.length : Int)) = false := decide_eq_false (by omega)
        have e2 : ((i : Int) < (X.length : Int)) = False := eq_false (by omega)
        have e3 : decide (i < X.length) = false := decide_eq_false (by omega)
        clear hlt hi hil
        go_wp2_with fail
        go_ret
        exact ⟨rfl, HB1.out⟩
end Go.Proofs.YtkgnhghaiopgcaaDoor.Wk
