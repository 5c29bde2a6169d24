/- The walks of the check laws' awake and few; no condition. -/
import Derived.Test.YtkgnhghaiopgcaaDoorCx
import Derived.Test.YtkgnhghaiopgcaaDoorPwd
import Derived.Test.YtkgnhghaiopgcaaDoorPk
set_option linter.unusedVariables false
set_option linter.unusedSimpArgs false
namespace Go.Proofs.YtkgnhghaiopgcaaDoor.Ca
open Go.RowKit Go.Maps Go.Proofs.YtkgnhghaiopgcaaDoorW.PrintWords Go.Proofs.YtkgnhghaiopgcaaDoorW.PrintLast Go.Proofs.YtkgnhghaiopgcaaDoor.X Go.Proofs.YtkgnhghaiopgcaaDoor.Kx Go.Proofs.YtkgnhghaiopgcaaDoor.Gl Go.Proofs.YtkgnhghaiopgcaaDoor.GlFn Go.Proofs.YtkgnhghaiopgcaaDoor.Tk Go.Proofs.YtkgnhghaiopgcaaDoor.Ps Go.Proofs.YtkgnhghaiopgcaaDoor.Pw Go.Proofs.YtkgnhghaiopgcaaDoor.Pt Go.Proofs.YtkgnhghaiopgcaaDoor.Ck Go.Proofs.YtkgnhghaiopgcaaDoor.Cw Go.Proofs.YtkgnhghaiopgcaaDoor.Cx

def T1 : List UInt8 := [116, 121, 112, 101, 32, 116, 32, 123, 32, 114, 101, 108, 32, 114, 32, 40, 114, 44, 32, 114, 44, 32, 115, 41, 58, 32, 116, 59, 32, 125]
def T2 : List UInt8 := [116, 121, 112, 101, 32, 116, 32, 123, 32, 114, 101, 108, 32, 114, 32, 40, 114, 44, 32, 114, 44, 32, 114, 41, 58, 32, 116, 44, 32, 116, 35, 114, 32, 105, 115, 32, 116, 104, 105, 115, 32, 45, 32, 114, 46, 114, 59, 32, 125]
def pick (r : Option (Except Er (List ST))) : List ST := match r with | some (.ok x) => x | _ => []
def X1 : List ST := pick (schemaT (3 * ((lexA 100 T1 0).getD []).length + 9) ((lexA 100 T1 0).getD []))
def X2 : List ST := pick (schemaT (3 * ((lexA 100 T2 0).getD []).length + 9) ((lexA 100 T2 0).getD []))
theorem aw1 : parse T1 = some (.ok X1) := parse_lex (k := 100) (ts := (lexA 100 T1 0).getD []) (by decide +kernel) (by decide) (by kernel_rfl)
theorem aw2 : parse T2 = some (.ok X2) := parse_lex (k := 100) (ts := (lexA 100 T2 0).getD []) (by decide +kernel) (by decide) (by kernel_rfl)
theorem ck1 : checkX X1 = (31, ⟨#[116, 46, 114]⟩) := by kernel_rfl
theorem ck2 : checkX X2 = (0, ⟨#[]⟩) := by kernel_rfl
theorem fd1 : (findR X2 (b1 116) (b1 114)).isSome = true := by kernel_rfl
theorem fd2 : (findV X2 (b1 116) (b1 114)).f4.length = 2 := by kernel_rfl
theorem fd3 : (findR X2 (b1 116) (b1 120)).isSome = false := by kernel_rfl
def smallX (X : List ST) : Bool := X.all fun t => t.f1.all fun r => decide (t.f0.size + r.f0.size + 1 ≤ 9223372036854775807)
theorem of_small {X : List ST} (h : smallX X = true) : ∀ t ∈ X, ∀ r ∈ t.f1, t.f0.size + r.f0.size + 1 ≤ 9223372036854775807 := fun t ht r hr =>
  of_decide_eq_true (List.all_eq_true.1 (List.all_eq_true.1 h t ht) r hr)
theorem sm1 : smallX X1 = true := by kernel_rfl
theorem sm2 : smallX X2 = true := by kernel_rfl
set_option maxHeartbeats 8000000 in
set_option maxRecDepth 100000 in
theorem awake_calls (w : World) (hK : Aside0 (Aid.KeysIn w)) : Calls Tryd.prog 38 #[] w fun e w' => e = .returned (.bool true) ∧ Below w.heap.size w w' := by
  go_enter Tryd.func38, Tryd.ntmps38
  go_wp2_with fail
  refine (Parse_calls _ (l := T1) rfl aw1 w hK).mono ?_
  intro e w1 he
  obtain ⟨v, rfl, hv, hb⟩ := he
  obtain ⟨A, c, rfl⟩ := Kd.R_slice hv
  obtain ⟨-, hl, hC⟩ := Kd.R_reads' hv
  have hz := of_small sm1
  have hk1 := ck1
  obtain ⟨Y, hY⟩ : ∃ Y, X1 = Y := ⟨_, rfl⟩
  rw [hY] at hl hC hz hk1 ⊢
  obtain ⟨w2, e2, h2, b2, z2, k2⟩ := al1 w1 #[.slice A Y.length c] 43
  have hcall := Check_calls Y A c w1 w2 b2 hC hl hz
  rw [hk1] at hcall
  have H2 := Aside0.mk h2
  have HB2 := Aside0.mk (bel2 hb b2)
  have HW := Aside0.mk e2
  clear hv hb hl hC hz hk1 hY h2 b2 z2 k2 e2
  go_upto_region 2 with (fail)
  rw [HW.out]
  obtain ⟨q, hq⟩ : ∃ q, w1.heap.size = q := ⟨_, rfl⟩
  rw [hq] at H2 ⊢
  have t0 := blk_cell H2.out 0
  clear HW hq
  go_wp2_with fail
  refine hcall.mono ?_
  rintro e w3 ⟨rfl, hb⟩
  have HB3 := Aside0.mk (bel2 HB2.out hb)
  have HK3 : Aside0 (Aid.KeysIn w3) := ⟨hK.out.go HB3.out⟩
  clear hb hcall t0 H2 HB2
  go_wp2_with fail
  refine (Parse_calls _ (l := T2) rfl aw2 w3 HK3).mono ?_
  intro e w4 he
  obtain ⟨v, rfl, hv, hb⟩ := he
  obtain ⟨A, c, rfl⟩ := Kd.R_slice hv
  obtain ⟨-, hl, hC⟩ := Kd.R_reads' hv
  have hz := of_small sm2
  have hk2 := ck2
  have hf1 := fd1
  have hf2 := fd2
  have hf3 := fd3
  obtain ⟨Y, hY⟩ : ∃ Y, X2 = Y := ⟨_, rfl⟩
  rw [hY] at hl hC hz hk2 hf1 hf2 hf3 ⊢
  obtain ⟨w5, e5, h5, b5, z5, k5⟩ := al1 w4 #[.slice A Y.length c] 43
  have hcall := Check_calls Y A c w4 w5 b5 hC hl hz
  rw [hk2] at hcall
  have H5 := Aside0.mk h5
  have HB5 := Aside0.mk (bel2 (bel2 HB3.out hb) b5)
  have HB45 := Aside0.mk b5
  have HC := Aside0.mk hC
  have HF := Aside0.mk (And.intro hf1 (And.intro hf2 hf3))
  have HW := Aside0.mk e5
  clear hv hb hl hC hz hk2 hY h5 b5 z5 k5 e5 HB3 HK3 hf1 hf2 hf3
  go_upto_region 4 with (fail)
  rw [HW.out]
  obtain ⟨q2, hq⟩ : ∃ q2, w4.heap.size = q2 := ⟨_, rfl⟩
  rw [hq] at H5 ⊢
  have t0 := blk_cell H5.out 0
  clear HW hq
  go_wp2_with fail
  refine hcall.mono ?_
  rintro e w6 ⟨rfl, hb⟩
  have H6 := Aside0.mk ((hb.block _ (blk_lt H5.out)).trans H5.out)
  have HB6 := Aside0.mk (bel2 HB5.out hb)
  have HB46 := Aside0.mk (bel2 HB45.out hb)
  clear hb hcall t0 H5 HB5 HB45
  have t0 := blk_cell H6.out 0
  go_wp2_with fail
  refine (Find_calls Y (b1 116) (b1 114) A c w4 w6 HB46.out HC.out).mono ?_
  rintro e w7 ⟨v, rfl, ⟨A2, k2, A3, k3, rfl, hC2, hC3, hl2, hl3⟩, hb⟩
  rw [HF.out.1]
  obtain ⟨R, hR⟩ : ∃ R, findV Y (b1 116) (b1 114) = R := ⟨_, rfl⟩
  have hn : R.f4.length = 2 := by rw [← hR]; exact HF.out.2.1
  rw [hR, hn]
  obtain ⟨w8, e8, h8, b8, z8, k8⟩ := al1 w7 #[.string R.f0, .string R.f1, .string R.f2, .string R.f3, .slice A2 2 k2, .slice A3 R.f5.length k3] 57
  have H8 := Aside0.mk (k8 _ _ ((hb.block _ (blk_lt H6.out)).trans H6.out))
  have HR8 := Aside0.mk h8
  have HB8 := Aside0.mk (bel2 (bel2 HB6.out hb) b8)
  have HB48 := Aside0.mk (bel2 (bel2 HB46.out hb) b8)
  have HW := Aside0.mk e8
  clear hb hR hn hC2 hC3 hl2 hl3 h8 b8 z8 k8 e8 t0 H6 HB6 HB46
  go_upto_region 6 with (fail)
  rw [HW.out]
  obtain ⟨q3, hq⟩ : ∃ q3, w7.heap.size = q3 := ⟨_, rfl⟩
  rw [hq] at HR8 ⊢
  have t0 := blk_cell H8.out 0
  clear HW hq
  go_wp2_with fail
  refine (Find_calls Y (b1 116) (b1 120) A c w4 w8 HB48.out HC.out).mono ?_
  rintro e w9 ⟨v, rfl, ⟨A4, k4, A5, k5, rfl, hC2, hC3, hl2, hl3⟩, hb⟩
  rw [HF.out.2.2]
  obtain ⟨Q, hQ⟩ : ∃ Q, findV Y (b1 116) (b1 120) = Q := ⟨_, rfl⟩
  rw [hQ]
  obtain ⟨w10, e10, h10, b10, z10, k10⟩ := al1 w9 #[.string Q.f0, .string Q.f1, .string Q.f2, .string Q.f3, .slice A4 Q.f4.length k4, .slice A5 Q.f5.length k5] 57
  have HR10 := Aside0.mk (k10 _ _ ((hb.block _ (blk_lt HR8.out)).trans HR8.out))
  have HB10 := Aside0.mk (bel2 (bel2 HB8.out hb) b10)
  have HW := Aside0.mk e10
  clear hb hQ hC2 hC3 hl2 hl3 h10 b10 z10 k10 e10 t0 H8 HR8 HB8 HB48
  go_upto_region 7 with (fail)
  rw [HW.out]
  have t4 := blk_cell HR10.out 4
  clear HW
  go_wp2
  go_ret
  exact ⟨rfl, HB10.out⟩
set_option maxHeartbeats 8000000 in
set_option maxRecDepth 100000 in
theorem few_calls (X : List ST) (A : Option Addr) (c : Nat) (w0 w : World) (hB0 : Below w0.heap.size w0 w) (hC : Kd.C k53 w0 A X.length X) :
    Calls Tryd.prog 39 #[.agg #[.slice A X.length c]] w fun e w' => ∃ b, e = .returned (.bool b) ∧ Below w.heap.size w w' := by
  have HC := Aside0.mk hC
  have HB0 := Aside0.mk hB0
  have HM : Aside0 (X.length ≤ 9223372036854775807) := ⟨Kd.C_max hC⟩
  obtain ⟨w1, e1, h1, b1, z1, k1⟩ := al1 w #[.slice A X.length c] 43
  have H1 := Aside0.mk h1
  have HB := Aside0.mk b1
  have HW := Aside0.mk e1
  clear hC hB0 h1 b1 z1 k1 e1
  go_enter Tryd.func39, Tryd.ntmps39
  go_upto_region 1 with (fail)
  rw [HW.out]
  obtain ⟨q, hq⟩ : ∃ q, w.heap.size = q := ⟨_, rfl⟩
  have HQ := Aside0.mk hq
  rw [hq] at H1 ⊢
  clear HW hq
  go_wp2_with fail
  go_loopg [3, 4] (X.length + 1) (fun gg s3 s4 wr => ∃ (i : Nat) (n : Int), s3 = .int .i64 n ∧ s4 = .int .i64 i ∧ i + gg = X.length + 1 ∧ i ≤ X.length ∧ Aside0 (Below w.heap.size w wr) ∧ Aside0 (wr.heap[q]? = some (.cells #[.slice A X.length c] 43 (0, 0))))
  case atStart => exact ⟨0, 0, rfl, rfl, by omega, Nat.zero_le _, HB, H1⟩
  case round =>
    obtain ⟨i, n, rfl, rfl, hi, hil, HB1, HS1⟩ := hrel
    rename World => wr
    cases gk with
    | zero => omega
    | succ g1 =>
      have t0 := blk_cell HS1.out 0
      by_cases hlt : i < X.length
      · have e1 : decide ((i : Int) < (X.length : Int)) = true := decide_eq_true (by omega)
        have e2 : ((i : Int) < (X.length : Int)) = True := eq_true (by omega)
        have e3 : decide (i < X.length) = true := decide_eq_true hlt
        have e4 : (0 ≤ (i : Int)) = True := eq_true (by omega)
        have e5 : decide ((i : Int) < 0) = false := decide_eq_false (by omega)
        have e6 : ((i : Int) < 0) = False := eq_false (by omega)
        obtain ⟨T, hT⟩ : ∃ T, rd_T53 X (i : Int) = T := ⟨_, rfl⟩
        obtain ⟨ad, A1, c1, rfl, r0, r1, r2, hC1⟩ := at_T53 HC.out (i : Int) (by omega) (by omega)
        rw [hT] at r0 r1 r2 hC1
        rw [Int.toNat_natCast] at r0 r1
        have HT0 := Aside0.mk r0
        have HT1 := Aside0.mk r1
        have HC1 := Aside0.mk hC1
        have HM1 : Aside0 (T.f1.length ≤ 9223372036854775807) := ⟨Kd.C_max hC1⟩
        have hw : IntKind.i64.wrap ((i : Int) + 1) = ((i + 1 : Nat) : Int) := by have := HM.out; rw [IntKind.wrap_i64]; omega
        have HJ := Aside0.mk (And.intro hi (And.intro hil hlt))
        clear hT hi hil hlt hC1 r0 r1 r2
        go_wp2_with fail
        clear t0
        go_loopg [3, 5] (T.f1.length + 1) (fun gg s3 s5 wy => ∃ (k : Nat) (m : Int), s3 = .int .i64 m ∧ s5 = .int .i64 k ∧ k + gg = T.f1.length + 1 ∧ k ≤ T.f1.length ∧ Aside0 (Below w.heap.size w wy) ∧ Aside0 (wy.heap[q]? = some (.cells #[.slice (some ad) X.length c] 43 (0, 0))))
        case atStart => exact ⟨0, _, rfl, rfl, by omega, Nat.zero_le _, HB1, HS1⟩
        case round =>
          clear HB1 HS1
          obtain ⟨k, m, rfl, rfl, hk, hkl, HB3, HS3⟩ := hrel
          rename World => wy
          cases gk with
          | zero => omega
          | succ g2 =>
            have t0 := blk_cell HS3.out 0
            have r0 := pw_cell_below (bel2 HB0.out HB3.out) HT0.out
            have r1 := pw_cell_below (bel2 HB0.out HB3.out) HT1.out
            by_cases hkt : k < T.f1.length
            · have f1 : decide ((k : Int) < (T.f1.length : Int)) = true := decide_eq_true (by omega)
              have f2 : ((k : Int) < (T.f1.length : Int)) = True := eq_true (by omega)
              have f3 : decide (k < T.f1.length) = true := decide_eq_true hkt
              have f4 : (0 ≤ (k : Int)) = True := eq_true (by omega)
              have f5 : decide ((k : Int) < 0) = false := decide_eq_false (by omega)
              have f6 : ((k : Int) < 0) = False := eq_false (by omega)
              obtain ⟨R, hR⟩ : ∃ R, rd_T57 T.f1 (k : Int) = R := ⟨_, rfl⟩
              obtain ⟨ad1, A2, c2, A3, c3, rfl, u0, u1, u2, u3, u4, u5, u6, hC2, u7, hC3⟩ := at_T57 HC1.out (k : Int) (by omega) (by omega)
              rw [hR, Int.toNat_natCast] at u0 u1 u2 u3 u4 u5
              replace u0 := pw_cell_below (bel2 HB0.out HB3.out) u0
              replace u1 := pw_cell_below (bel2 HB0.out HB3.out) u1
              replace u2 := pw_cell_below (bel2 HB0.out HB3.out) u2
              replace u3 := pw_cell_below (bel2 HB0.out HB3.out) u3
              replace u4 := pw_cell_below (bel2 HB0.out HB3.out) u4
              replace u5 := pw_cell_below (bel2 HB0.out HB3.out) u5
              have hwk : IntKind.i64.wrap ((k : Int) + 1) = ((k + 1 : Nat) : Int) := by have := HM1.out; rw [IntKind.wrap_i64]; omega
              have HK := Aside0.mk (And.intro hk (And.intro hkl hkt))
              obtain ⟨w4, e9, h9, b9, z9, k9⟩ := al1 wy #[.string R.f0, .string R.f1, .string R.f2, .string R.f3, .slice A2 R.f4.length c2, .slice A3 R.f5.length c3] 57
              have HYv := Aside0.mk h9
              have HSv := Aside0.mk (k9 _ _ HS3.out)
              have HBv := Aside0.mk (bel2 HB3.out b9)
              have HW := Aside0.mk e9
              clear hR hk hkl hkt h9 b9 z9 k9 e9 u6 u7 hC2 hC3
              go_upto_region 10 with (fail)
              rw [HW.out]
              obtain ⟨y, hy⟩ : ∃ y, wy.heap.size = y := ⟨_, rfl⟩
              rw [hy] at HYv ⊢
              clear HW hy u0 u1 u2 u3 u4 u5 HS3 HB3 t0 r0 r1
              have y4 := blk_cell HYv.out 4
              have y5 := blk_cell HYv.out 5
              go_wp2_with fail
              go_roundg g2
              case measure => omega
              case rel => exact ⟨k + 1, _, rfl, by simp, by have := HK.out; omega, HK.out.2.2, HBv, HSv⟩
            · have f1 : decide ((k : Int) < (T.f1.length : Int)) = false := decide_eq_false (by omega)
              have f2 : ((k : Int) < (T.f1.length : Int)) = False := eq_false (by omega)
              have f3 : decide (k < T.f1.length) = false := decide_eq_false hkt
              clear hkt hk hkl
              go_wp2_with fail
              go_roundg g1
              case measure => omega
              case rel => exact ⟨i + 1, _, rfl, by simp, by have := HJ.out; omega, HJ.out.2.2, HB3, HS3⟩
      · have e1 : decide ((i : Int) < (X.length : Int)) = false := decide_eq_false (by omega)
        have e2 : ((i : Int) < (X.length : Int)) = False := eq_false (by omega)
        have e3 : decide (i < X.length) = false := decide_eq_false hlt
        clear hlt hi hil
        go_wp2_with fail
        go_ret
        exact ⟨_, rfl, HB1.out⟩
end Go.Proofs.YtkgnhghaiopgcaaDoor.Ca
