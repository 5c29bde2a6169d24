/- The walks of package check, second part: leads, op, path, subs, counts, Check; no condition. -/
import Derived.Test.YtkgnhghaiopgcaaDoorCw
import Derived.Deep.QuietTactic
import Derived.BigQuiet
import Derived.WalkMore
set_option linter.unusedVariables false
set_option linter.unusedSimpArgs false
namespace Go.Proofs.YtkgnhghaiopgcaaDoor.Cx
open Go.RowKit Go.Maps Go.Proofs.YtkgnhghaiopgcaaDoorW.PrintWords Go.Proofs.YtkgnhghaiopgcaaDoorW.PrintLast Go.Proofs.YtkgnhghaiopgcaaDoor.X Go.Proofs.YtkgnhghaiopgcaaDoor.Kx Go.Proofs.YtkgnhghaiopgcaaDoor.Ps Go.Proofs.YtkgnhghaiopgcaaDoor.Ck Go.Proofs.YtkgnhghaiopgcaaDoor.Cw

def leadX (X : List ST) (next : ByteArray) (x : SS) : Bool := (x.f1.toList == ([] : List UInt8)) && hasR (kindV X x.f0).f1 next
theorem eg_leads1 : ∀ args w, (callFunc 127 args).run Tryd.prog w = .ok (.enter 127 args) w := enters_ Tryd.func127 (by kernel_rfl) rfl
set_option maxHeartbeats 4000000 in
theorem leads1_calls (X : List ST) (A : Option Addr) (c : Nat) (next : ByteArray) (ps pn : Nat) (w0 w : World) (hB0 : Below w0.heap.size w0 w) (hC : Kd.C k53 w0 A X.length X)
    (hs : w.heap[ps]? = some (.cells #[.slice A X.length c] 43 (0, 0))) (hn : w.heap[pn]? = some (.cells #[.string next] 9 (0, 0))) :
    PBSub 127 #[.pointer (some ⟨ps, 0, none⟩), .pointer (some ⟨pn, 0, none⟩)] (leadX X next) w := by
  intro W hW x
  have HC := Aside0.mk hC
  have hBW := bel2 hB0 hW
  obtain ⟨w1, e1, h1, b1, z1, k1⟩ := al1 W #[.string x.f0, .string x.f1] 62
  have hs1 := k1 _ _ ((hW.block ps (blk_lt hs)).trans hs)
  have hn1 := k1 _ _ ((hW.block pn (blk_lt hn)).trans hn)
  have HB0 := Aside0.mk hBW
  have HB := Aside0.mk b1
  have HX := Aside0.mk h1
  have HN := Aside0.mk hn1
  have HW : Aside0 (W.alloc (.cells #[.string x.f0, .string x.f1] 62) = w1) := ⟨e1⟩
  have t0 := blk_cell hs1 0
  have t1 := blk_cell h1 0
  clear hC hB0 hW hBW hs hn hs1 hn1 h1 b1 z1 k1 e1
  go_enter Tryd.func127, Tryd.ntmps127
  go_upto_region 1 with (fail)
  rw [HW.out]
  obtain ⟨q, hq⟩ : ∃ q, W.heap.size = q := ⟨_, rfl⟩
  have HQ := Aside0.mk hq
  rw [hq] at HX t1 ⊢
  clear HW hq
  go_wp2_with fail
  refine (kind_calls X x.f0 A c w0 w1 (bel2 HB0.out HB.out) HC.out).mono ?_
  rintro e w2 ⟨A1, c1, rfl, hC4, hl4, hb⟩
  obtain ⟨T, hT⟩ : ∃ T, kindV X x.f0 = T := ⟨_, rfl⟩
  rw [hT] at hC4 ⊢
  have HT := Aside0.mk hT
  obtain ⟨kb, hkb⟩ : ∃ kb, (kindT X x.f0).isSome = kb := ⟨_, rfl⟩
  rw [hkb]
  obtain ⟨w3, e3, h3, b3, z3, k3⟩ := al1 w2 #[.string T.f0, .slice A1 T.f1.length c1] 53
  have HX3 := Aside0.mk (k3 _ _ ((hb.block _ (blk_lt HX.out)).trans HX.out))
  have HN3 := Aside0.mk (k3 _ _ ((hb.block _ (blk_lt HN.out)).trans HN.out))
  have H3 := Aside0.mk h3
  have HB3 := Aside0.mk (bel2 (bel2 HB.out hb) b3)
  have HC4 := Aside0.mk hC4
  have HW := Aside0.mk e3
  clear hb t0 t1 HX HN HB hT hkb hC4 hl4 h3 b3 z3 k3 e3
  go_upto_region 2 with (fail)
  rw [HW.out]
  obtain ⟨p, hp⟩ : ∃ p, w2.heap.size = p := ⟨_, rfl⟩
  rw [hp] at H3 ⊢
  have t0 := blk_cell HX3.out 1
  have t1 := blk_cell HN3.out 0
  have t2 := blk_cell H3.out 0
  have t3 := blk_cell H3.out 1
  clear HW hp
  cases hq : (x.f1.toList == ([] : List UInt8)) with
  | false =>
    have HR : Aside0 (leadX X next x = false) := ⟨by unfold leadX; rw [hq]; rfl⟩
    go_wp2_with fail
    go_ret
    exact ⟨by rw [HR.out]; rfl, HB3.out⟩
  | true =>
    have HR : Aside0 (leadX X next x = hasR T.f1 next) := ⟨by unfold leadX; rw [hq, HT.out]; rfl⟩
    go_wp2_with fail
    refine (has_calls T.f1 T.f0 next A1 c1 w3 (Kd.C_below HC4.out (bel2 HB0.out HB3.out))).mono ?_
    rintro e w4 ⟨rfl, hb⟩
    go_wp2
    go_ret
    exact ⟨by rw [HR.out]; rfl, bel2 HB3.out hb⟩
set_option maxHeartbeats 4000000 in
theorem leads_calls (X : List ST) (R : SR) (A A2 A3 : Option Addr) (c k2 k3 : Nat) (next : ByteArray) (w0 w : World) (hB0 : Below w0.heap.size w0 w) (hC : Kd.C k53 w0 A X.length X) (hS : Kd.C k62 w0 A2 R.f4.length R.f4) :
    Calls Tryd.prog 108 #[.agg #[.slice A X.length c], .agg #[.string R.f0, .string R.f1, .string R.f2, .string R.f3, .slice A2 R.f4.length k2, .slice A3 R.f5.length k3], .string next] w fun e w' => e = .returned (.bool (leadsX X R.f4 next)) ∧ Below w.heap.size w w' := by
  have HC := Aside0.mk hC
  have HS := Aside0.mk hS
  have HB0 := Aside0.mk hB0
  obtain ⟨w1, e1, h1, b1, z1, k1⟩ := al1 w #[.slice A X.length c] 43
  obtain ⟨w2, e2, h2, b2, z2, k2'⟩ := al1 w1 #[.string R.f0, .string R.f1, .string R.f2, .string R.f3, .slice A2 R.f4.length k2, .slice A3 R.f5.length k3] 57
  obtain ⟨w3, e3, h3, b3, z3, k3'⟩ := al1 w2 #[.string next] 9
  rw [z1] at h2
  rw [z2, z1] at h3
  have H1 := Aside0.mk (k3' _ _ (k2' _ _ h1))
  have H2 := Aside0.mk (k3' _ _ h2)
  have H3 := Aside0.mk h3
  have HB := Aside0.mk (bel2 (bel2 b1 b2) b3)
  have HW : Aside0 (((w.alloc (.cells #[.slice A X.length c] 43)).alloc (.cells #[.string R.f0, .string R.f1, .string R.f2, .string R.f3, .slice A2 R.f4.length k2, .slice A3 R.f5.length k3] 57)).alloc (.cells #[.string next] 9) = w3) := ⟨by rw [e1, e2, e3]⟩
  clear hC hS hB0 h1 h2 h3 b1 b2 b3 z1 z2 z3 k1 k2' k3' e1 e2 e3
  go_enter Tryd.func108, Tryd.ntmps108
  go_upto_region 1 with (fail)
  rw [HW.out]
  obtain ⟨q, hq⟩ : ∃ q, w.heap.size = q := ⟨_, rfl⟩
  have HQ := Aside0.mk hq
  rw [hq] at H1 H2 H3 ⊢
  have t4 := blk_cell H2.out 4
  clear HW hq
  go_wp2_with fail
  refine (ContainsFunc_Sub 127 #[.pointer (some ⟨q, 0, none⟩), .pointer (some ⟨q + 1 + 1, 0, none⟩)] (leadX X next) R.f4 A2 k2 w3 (Kd.C_below HS.out (bel2 HB0.out HB.out)) eg_leads1 (leads1_calls X A c next q (q + 1 + 1) w0 w3 (bel2 HB0.out HB.out) HC.out H1.out H3.out)).mono ?_
  rintro e w4 ⟨rfl, hb⟩
  go_wp2
  go_ret
  exact ⟨rfl, bel2 HB.out hb⟩
set_option maxHeartbeats 4000000 in
theorem op_calls (X : List ST) (t : ST) (o : SO) (A A1 : Option Addr) (c c1 : Nat) (w0 w : World) (hB0 : Below w0.heap.size w0 w) (hC : Kd.C k53 w0 A X.length X) (hT : Kd.C k57 w0 A1 t.f1.length t.f1) :
    Calls Tryd.prog 78 #[.agg #[.slice A X.length c], .agg #[.string t.f0, .slice A1 t.f1.length c1], .agg #[.int .i64 o.f0, .string o.f1, .string o.f2]] w fun e w' => e = .returned (.bool (opX X t o)) ∧ Below w.heap.size w w' := by
  have HC := Aside0.mk hC
  have HT := Aside0.mk hT
  have HB0 := Aside0.mk hB0
  obtain ⟨w1, e1, h1, b1, z1, k1⟩ := al1 w #[.slice A X.length c] 43
  obtain ⟨w2, e2, h2, b2, z2, k2⟩ := al1 w1 #[.string t.f0, .slice A1 t.f1.length c1] 53
  obtain ⟨w3, e3, h3, b3, z3, k3⟩ := al1 w2 #[.int .i64 o.f0, .string o.f1, .string o.f2] 59
  rw [z1] at h2
  rw [z2, z1] at h3
  have H1 := Aside0.mk (k3 _ _ (k2 _ _ h1))
  have H2 := Aside0.mk (k3 _ _ h2)
  have H3 := Aside0.mk h3
  have HB := Aside0.mk (bel2 (bel2 b1 b2) b3)
  have HW : Aside0 (((w.alloc (.cells #[.slice A X.length c] 43)).alloc (.cells #[.string t.f0, .slice A1 t.f1.length c1] 53)).alloc (.cells #[.int .i64 o.f0, .string o.f1, .string o.f2] 59) = w3) := ⟨by rw [e1, e2, e3]⟩
  clear hC hT hB0 h1 h2 h3 b1 b2 b3 z1 z2 z3 k1 k2 k3 e1 e2 e3
  go_enter Tryd.func78, Tryd.ntmps78
  go_upto_region 1 with (fail)
  rw [HW.out]
  obtain ⟨q, hq⟩ : ∃ q, w.heap.size = q := ⟨_, rfl⟩
  have HQ := Aside0.mk hq
  rw [hq] at H1 H2 H3 ⊢
  have t0 := blk_cell H1.out 0
  have t1 := blk_cell H2.out 0
  have t2 := blk_cell H2.out 1
  have t3 := blk_cell H3.out 0
  have t4 := blk_cell H3.out 1
  have t5 := blk_cell H3.out 2
  clear HW hq
  by_cases c2 : o.f0 = 2
  · have HR : Aside0 (opX X t o = hasR t.f1 o.f1) := ⟨by unfold opX; rw [if_pos c2]⟩
    rw [c2] at t3
    clear c2
    go_wp2_with fail
    refine (has_calls t.f1 t.f0 o.f1 A1 c1 w3 (Kd.C_below HT.out (bel2 HB0.out HB.out))).mono ?_
    rintro e w4 ⟨rfl, hb⟩
    go_wp2
    go_ret
    exact ⟨by rw [HR.out]; rfl, bel2 HB.out hb⟩
  by_cases c3 : o.f0 = 3
  · have HR : Aside0 (opX X t o = ((findR X t.f0 o.f1).isSome && leadsX X (findV X t.f0 o.f1).f4 o.f2)) := ⟨by unfold opX; rw [if_neg c2, if_pos c3]⟩
    rw [c3] at t3
    clear c2 c3
    go_upto_region 5 with (fail)
    go_wp2_with fail
    refine (Find_calls X t.f0 o.f1 A c w0 w3 (bel2 HB0.out HB.out) HC.out).mono ?_
    rintro e w4 ⟨v, rfl, ⟨A2, k2, A3, k3, rfl, hC2, hC3, hl2, hl3⟩, hb⟩
    obtain ⟨R, hR⟩ : ∃ R, findV X t.f0 o.f1 = R := ⟨_, rfl⟩
    rw [hR] at hC2 ⊢
    obtain ⟨w5, e5, h5, b5, z5, k5⟩ := al1 w4 #[.string R.f0, .string R.f1, .string R.f2, .string R.f3, .slice A2 R.f4.length k2, .slice A3 R.f5.length k3] 57
    have H1x := Aside0.mk (k5 _ _ ((hb.block _ (blk_lt H1.out)).trans H1.out))
    have H3x := Aside0.mk (k5 _ _ ((hb.block _ (blk_lt H3.out)).trans H3.out))
    have H5 := Aside0.mk h5
    have HB5 := Aside0.mk (bel2 (bel2 HB.out hb) b5)
    have HC2 := Aside0.mk hC2
    have HW := Aside0.mk e5
    have HR2 := Aside0.mk hR
    clear hb t0 t1 t2 t3 t4 t5 H1 H2 H3 HB hR hC2 hC3 hl2 hl3 h5 b5 z5 k5 e5
    cases hs : (findR X t.f0 o.f1).isSome with
    | false =>
      have HRf : Aside0 (opX X t o = false) := ⟨by rw [HR.out, hs]; rfl⟩
      go_upto_region 6 with (fail)
      rw [HW.out]
      clear HW hs
      go_wp2_with fail
      go_ret
      exact ⟨by rw [HRf.out]; rfl, HB5.out⟩
    | true =>
      have HRf : Aside0 (opX X t o = leadsX X R.f4 o.f2) := ⟨by rw [HR.out, hs, HR2.out]; rfl⟩
      go_upto_region 6 with (fail)
      rw [HW.out]
      obtain ⟨p, hp⟩ : ∃ p, w4.heap.size = p := ⟨_, rfl⟩
      rw [hp] at H5 ⊢
      have t0 := blk_cell H1x.out 0
      have t2 := blk_cell H3x.out 2
      have r0 := blk_cell H5.out 0
      have r1 := blk_cell H5.out 1
      have r2 := blk_cell H5.out 2
      have r3 := blk_cell H5.out 3
      have r4 := blk_cell H5.out 4
      have r5 := blk_cell H5.out 5
      clear HW hs hp
      go_wp2_with fail
      refine (leads_calls X R A A2 A3 c k2 k3 o.f2 w0 w5 (bel2 HB0.out HB5.out) HC.out HC2.out).mono ?_
      rintro e w6 ⟨rfl, hb⟩
      go_wp2
      go_ret
      exact ⟨by rw [HRf.out]; rfl, bel2 HB5.out hb⟩
  · have HR : Aside0 (opX X t o = true) := ⟨by unfold opX; rw [if_neg c2, if_neg c3]⟩
    go_wp2_with fail
    go_ret
    exact ⟨by rw [HR.out]; rfl, HB.out⟩
set_option maxHeartbeats 4000000 in
theorem path_calls (t : ST) (R : SR) (A1 A2 A3 : Option Addr) (c1 k2 k3 : Nat) (w : World) (hz : t.f0.size + R.f0.size + 1 ≤ 9223372036854775807) :
    Calls Tryd.prog 75 #[.agg #[.string t.f0, .slice A1 t.f1.length c1], .agg #[.string R.f0, .string R.f1, .string R.f2, .string R.f3, .slice A2 R.f4.length k2, .slice A3 R.f5.length k3]] w fun e w' => e = .returned (.string (pathX t R)) ∧ Below w.heap.size w w' := by
  obtain ⟨w1, e1, h1, b1, z1, k1⟩ := al1 w #[.string t.f0, .slice A1 t.f1.length c1] 53
  obtain ⟨w2, e2, h2, b2, z2, k2'⟩ := al1 w1 #[.string R.f0, .string R.f1, .string R.f2, .string R.f3, .slice A2 R.f4.length k2, .slice A3 R.f5.length k3] 57
  rw [z1] at h2
  have H1 := Aside0.mk (k2' _ _ h1)
  have H2 := Aside0.mk h2
  have HB := Aside0.mk (bel2 b1 b2)
  have HW : Aside0 ((w.alloc (.cells #[.string t.f0, .slice A1 t.f1.length c1] 53)).alloc (.cells #[.string R.f0, .string R.f1, .string R.f2, .string R.f3, .slice A2 R.f4.length k2, .slice A3 R.f5.length k3] 57) = w2) := ⟨by rw [e1, e2]⟩
  have s1 : (9223372036854775807 < t.f0.size + 1) = False := eq_false (by omega)
  have s2 : (9223372036854775807 < t.f0.size + 1 + R.f0.size) = False := eq_false (by omega)
  have s3 : (t.f0.size + 1 ≤ 9223372036854775807) = True := eq_true (by omega)
  have s4 : (t.f0.size + 1 + R.f0.size ≤ 9223372036854775807) = True := eq_true (by omega)
  clear hz h1 h2 b1 b2 z1 z2 k1 k2' e1 e2
  go_enter Tryd.func75, Tryd.ntmps75
  go_upto_region 1 with (fail)
  rw [HW.out]
  obtain ⟨q, hq⟩ : ∃ q, w.heap.size = q := ⟨_, rfl⟩
  have HQ := Aside0.mk hq
  rw [hq] at H1 H2 ⊢
  have t0 := blk_cell H1.out 0
  have t1 := blk_cell H2.out 0
  clear HW hq
  go_wp2
  go_ret
  exact ⟨rfl, HB.out⟩
set_option maxHeartbeats 4000000 in
theorem Index_Sub (x : SS) (xs : List SS) (A : Option Addr) (c : Nat) (w : World) (hC : Kd.C k62 w A xs.length xs) :
    Calls Tryd.prog 125 #[.slice A xs.length c, .agg #[.string x.f0, .string x.f1]] w fun e w' => e = .returned (.int .i64 (idxI (eqS x) xs)) ∧ Below w.heap.size w w' := by
  have HC := Aside0.mk hC
  have HM : Aside0 (xs.length ≤ 9223372036854775807) := ⟨Kd.C_max hC⟩
  obtain ⟨w1, e1, h1, b1, z1, k1⟩ := al1 w #[.string x.f0, .string x.f1] 62
  have H1 := Aside0.mk h1
  have HB := Aside0.mk b1
  have HW := Aside0.mk e1
  clear hC h1 b1 z1 k1 e1
  go_enter Tryd.func125, Tryd.ntmps125
  go_upto_region 1 with (fail)
  rw [HW.out]
  obtain ⟨q, hq⟩ : ∃ q, w.heap.size = q := ⟨_, rfl⟩
  have HQ := Aside0.mk hq
  rw [hq] at H1 ⊢
  clear HW hq
  go_wp2
  go_loopg [5, 8] (xs.length + 1) (fun gg s5 s8 wr => ∃ i : Nat, s8 = .int .i64 i ∧ i + gg = xs.length + 1 ∧ i ≤ xs.length ∧ Aside0 (idxI (eqS x) xs = idxF (eqS x) (xs.drop i) i) ∧ Aside0 (Below w.heap.size w wr) ∧ Aside0 (wr.heap[q]? = some (.cells #[.string x.f0, .string x.f1] 62 (0, 0))))
  case atStart => exact ⟨0, rfl, by omega, Nat.zero_le _, ⟨rfl⟩, HB, H1⟩
  case round =>
    obtain ⟨i, rfl, hi, hil, HI, HBr, HX⟩ := hrel
    rename World => wr
    cases gk with
    | zero => omega
    | succ g1 =>
      by_cases hlt : i < xs.length
      · have e1 : decide ((i : Int) < (xs.length : Int)) = true := decide_eq_true (by omega)
        have e2 : ((i : Int) < (xs.length : Int)) = True := eq_true (by omega)
        have e3 : decide (i < xs.length) = true := decide_eq_true hlt
        have e4 : (0 ≤ (i : Int)) = True := eq_true (by omega)
        have e5 : decide ((i : Int) < 0) = false := decide_eq_false (by omega)
        have e6 : ((i : Int) < 0) = False := eq_false (by omega)
        obtain ⟨y, hy⟩ : ∃ y, rd_T62 xs (i : Int) = y := ⟨_, rfl⟩
        have hyi : xs[i] = y := by rw [← hy]; unfold rd_T62; rw [Int.toNat_natCast, List.getD_eq_getElem?_getD, List.getElem?_eq_getElem hlt]; rfl
        obtain ⟨ad, rfl, r0, r1⟩ := at_T62 (Kd.C_below HC.out HBr.out) (i : Int) (by omega) (by omega)
        rw [hy, Int.toNat_natCast] at r0 r1
        have t0 := blk_cell HX.out 0
        have t1 := blk_cell HX.out 1
        have hdrop := List.drop_eq_getElem_cons hlt
        rw [hyi] at hdrop
        have hw : IntKind.i64.wrap ((i : Int) + 1) = ((i + 1 : Nat) : Int) := by have := HM.out; rw [IntKind.wrap_i64]; omega
        have HJ := Aside0.mk (And.intro hi (And.intro hil hlt))
        clear hy hi hil hyi
        cases hq : eqS x y with
        | true =>
          have HR : Aside0 (idxI (eqS x) xs = (i : Int)) := ⟨by rw [HI.out, hdrop, idxF, if_pos hq]⟩
          unfold eqS at hq
          rw [Bool.and_eq_true] at hq
          obtain ⟨g1', g2'⟩ := hq
          clear hdrop hlt
          go_wp2
          go_quiet (fail)
          have HBq : Aside0 (Below w.heap.size w (wr.drewN nq)) := ⟨pw_below_drewN HBr.out nq⟩
          have HXq : Aside0 ((wr.drewN nq).heap[q]? = some (.cells #[.string x.f0, .string x.f1] 62 (0, 0))) := ⟨((pw_below_drewN (Below.refl _ wr) nq).block q (blk_lt HX.out)).trans HX.out⟩
          obtain ⟨wq, hwq⟩ : ∃ wq, wr.drewN nq = wq := ⟨_, rfl⟩
          rw [hwq] at HBq HXq ⊢
          clear hwq
          go_wp2
          go_ret
          exact ⟨by rw [HR.out]; rfl, HBq.out⟩
        | false =>
          have HR : Aside0 (idxI (eqS x) xs = idxF (eqS x) (xs.drop (i + 1)) (i + 1)) := ⟨by rw [HI.out, hdrop, idxF, if_neg (by rw [hq]; decide)]⟩
          unfold eqS at hq
          clear hdrop hlt
          cases g1' : (x.f0.toList == y.f0.toList) with
          | true =>
            rw [g1', Bool.true_and] at hq
            go_wp2
            go_quiet (fail)
            have HBq : Aside0 (Below w.heap.size w (wr.drewN nq)) := ⟨pw_below_drewN HBr.out nq⟩
            have HXq : Aside0 ((wr.drewN nq).heap[q]? = some (.cells #[.string x.f0, .string x.f1] 62 (0, 0))) := ⟨((pw_below_drewN (Below.refl _ wr) nq).block q (blk_lt HX.out)).trans HX.out⟩
            obtain ⟨wq, hwq⟩ : ∃ wq, wr.drewN nq = wq := ⟨_, rfl⟩
            rw [hwq] at HBq HXq ⊢
            clear hwq
            go_wp2
            go_roundg g1
            case measure => omega
            case rel => exact ⟨i + 1, by simp, by have := HJ.out; omega, HJ.out.2.2, HR, HBq, HXq⟩
          | false =>
            clear hq
            go_wp2
            go_quiet (fail)
            have HBq : Aside0 (Below w.heap.size w (wr.drewN nq)) := ⟨pw_below_drewN HBr.out nq⟩
            have HXq : Aside0 ((wr.drewN nq).heap[q]? = some (.cells #[.string x.f0, .string x.f1] 62 (0, 0))) := ⟨((pw_below_drewN (Below.refl _ wr) nq).block q (blk_lt HX.out)).trans HX.out⟩
            obtain ⟨wq, hwq⟩ : ∃ wq, wr.drewN nq = wq := ⟨_, rfl⟩
            rw [hwq] at HBq HXq ⊢
            clear hwq
            go_wp2
            go_roundg g1
            case measure => omega
            case rel => exact ⟨i + 1, by simp, by have := HJ.out; omega, HJ.out.2.2, HR, HBq, HXq⟩
      · have e1 : decide ((i : Int) < (xs.length : Int)) = false := decide_eq_false (by omega)
        have e2 : ((i : Int) < (xs.length : Int)) = False := eq_false (by omega)
        have e3 : decide (i < xs.length) = false := decide_eq_false hlt
        have HR : Aside0 (idxI (eqS x) xs = -1) := ⟨by rw [HI.out, List.drop_eq_nil_of_le (by omega), idxF]⟩
        clear hlt hi hil
        go_wp2
        go_ret
        exact ⟨by rw [HR.out]; rfl, HBr.out⟩
set_option maxHeartbeats 4000000 in
theorem Contains_Sub (x : SS) (xs : List SS) (A : Option Addr) (c : Nat) (w : World) (hC : Kd.C k62 w A xs.length xs) :
    Calls Tryd.prog 107 #[.slice A xs.length c, .agg #[.string x.f0, .string x.f1]] w fun e w' => e = .returned (.bool (xs.any (eqS x))) ∧ Below w.heap.size w w' := by
  have HC := Aside0.mk hC
  obtain ⟨w1, e1, h1, b1, z1, k1⟩ := al1 w #[.string x.f0, .string x.f1] 62
  have H1 := Aside0.mk h1
  have HB := Aside0.mk b1
  have HW := Aside0.mk e1
  have hb : xs.any (eqS x) = decide (0 ≤ idxI (eqS x) xs) := idxI_any _ _
  rw [hb]
  clear hC h1 b1 z1 k1 e1 hb
  go_enter Tryd.func107, Tryd.ntmps107
  go_upto_region 1 with (fail)
  rw [HW.out]
  obtain ⟨q, hq⟩ : ∃ q, w.heap.size = q := ⟨_, rfl⟩
  have HQ := Aside0.mk hq
  rw [hq] at H1 ⊢
  have t0 := blk_cell H1.out 0
  have t1 := blk_cell H1.out 1
  clear HW hq
  go_wp2_with fail
  refine (Index_Sub x xs A c w1 (Kd.C_below HC.out HB.out)).mono ?_
  rintro e w2 ⟨rfl, hb⟩
  obtain ⟨r, hr⟩ : ∃ r, idxI (eqS x) xs = r := ⟨_, rfl⟩
  rw [hr]
  have HBz := Aside0.mk (bel2 HB.out hb)
  have HRr := Aside0.mk hr
  clear hr hb
  go_wp2
  go_ret
  exact ⟨by rw [HRr.out]; simp [GE.ge], HBz.out⟩
set_option maxHeartbeats 8000000 in
set_option maxRecDepth 100000 in
theorem subs_calls (X : List ST) (l : List SS) (A A4 : Option Addr) (c k4 : Nat) (w0 w : World) (hB0 : Below w0.heap.size w0 w) (hC : Kd.C k53 w0 A X.length X) (hS : Kd.C k62 w0 A4 l.length l) (hl : l.length ≤ k4) :
    Calls Tryd.prog 77 #[.agg #[.slice A X.length c], .slice A4 l.length k4] w fun e w' => e = .returned (.int .i64 (subsX X l)) ∧ Below w.heap.size w w' := by
  have HC := Aside0.mk hC
  have HS := Aside0.mk hS
  have HB0 := Aside0.mk hB0
  have HL := Aside0.mk hl
  have HM : Aside0 (l.length ≤ 9223372036854775807) := ⟨Kd.C_max hS⟩
  obtain ⟨w1, e1, h1, b1, z1, k1⟩ := al1 w #[.slice A X.length c] 43
  have H1 := Aside0.mk h1
  have HB := Aside0.mk b1
  have HW := Aside0.mk e1
  clear hC hS hB0 hl h1 b1 z1 k1 e1
  go_enter Tryd.func77, Tryd.ntmps77
  go_upto_region 1 with (fail)
  rw [HW.out]
  obtain ⟨q, hq⟩ : ∃ q, w.heap.size = q := ⟨_, rfl⟩
  have HQ := Aside0.mk hq
  rw [hq] at H1 ⊢
  clear HW hq
  go_wp2
  go_loopg [11] (l.length + 1) (fun gg s11 wr => ∃ i : Nat, s11 = .int .i64 i ∧ i + gg = l.length + 1 ∧ i ≤ l.length ∧ Aside0 (subsX X l = subsF X l (l.drop i) i) ∧ Aside0 (Below w.heap.size w wr) ∧ Aside0 (wr.heap[q]? = some (.cells #[.slice A X.length c] 43 (0, 0))))
  case atStart => exact ⟨0, rfl, by omega, Nat.zero_le _, ⟨rfl⟩, HB, H1⟩
  case round =>
    obtain ⟨i, rfl, hi, hil, HI, HBr, HSr⟩ := hrel
    rename World => wr
    cases gk with
    | zero => omega
    | succ g1 =>
      by_cases hlt : i < l.length
      · have e1 : decide ((i : Int) < (l.length : Int)) = true := decide_eq_true (by omega)
        have e2 : ((i : Int) < (l.length : Int)) = True := eq_true (by omega)
        have e3 : decide (i < l.length) = true := decide_eq_true hlt
        have e4 : (0 ≤ (i : Int)) = True := eq_true (by omega)
        have e5 : decide ((i : Int) < 0) = false := decide_eq_false (by omega)
        have e6 : ((i : Int) < 0) = False := eq_false (by omega)
        have e7 : ((i : Int) ≤ (k4 : Int)) = True := eq_true (by have := HL.out; omega)
        have e8 : (i ≤ k4) = True := eq_true (by have := HL.out; omega)
        obtain ⟨x, hx⟩ : ∃ x, rd_T62 l (i : Int) = x := ⟨_, rfl⟩
        have hxi : l[i] = x := by rw [← hx]; unfold rd_T62; rw [Int.toNat_natCast, List.getD_eq_getElem?_getD, List.getElem?_eq_getElem hlt]; rfl
        obtain ⟨ad, rfl, r0, r1⟩ := at_T62 (Kd.C_below HS.out (bel2 HB0.out HBr.out)) (i : Int) (by omega) (by omega)
        rw [hx, Int.toNat_natCast] at r0 r1
        have t0 := blk_cell HSr.out 0
        have HDR := Aside0.mk (List.drop_eq_getElem_cons hlt)
        rw [hxi] at HDR
        have hw : IntKind.i64.wrap ((i : Int) + 1) = ((i + 1 : Nat) : Int) := by have := HM.out; rw [IntKind.wrap_i64]; omega
        have HJ := Aside0.mk (And.intro hi (And.intro hil hlt))
        obtain ⟨w2, e2', h2, b2, z2, k2⟩ := al1 wr #[.string x.f0, .string x.f1] 62
        have HX2 := Aside0.mk h2
        have HS2 := Aside0.mk (k2 _ _ HSr.out)
        have HB2 := Aside0.mk (bel2 HBr.out b2)
        have HW := Aside0.mk e2'
        clear hx hi hil hxi hlt h2 b2 z2 k2 e2'
        go_upto_region 4 with (fail)
        rw [HW.out]
        obtain ⟨p, hp⟩ : ∃ p, wr.heap.size = p := ⟨_, rfl⟩
        rw [hp] at HX2 ⊢
        clear HW hp r0 r1 t0 HSr HBr
        have t0 := blk_cell HS2.out 0
        have t1 := blk_cell HX2.out 0
        go_wp2_with fail
        refine (kind_calls X x.f0 A c w0 w2 (bel2 HB0.out HB2.out) HC.out).mono ?_
        rintro e w3 ⟨A1, c1, rfl, hC4, hl4, hb⟩
        obtain ⟨T, hT⟩ : ∃ T, kindV X x.f0 = T := ⟨_, rfl⟩
        rw [hT] at hC4 ⊢
        have HT := Aside0.mk hT
        obtain ⟨w4, e4', h4, b4, z4, k4'⟩ := al1 w3 #[.string T.f0, .slice A1 T.f1.length c1] 53
        have HX4 := Aside0.mk (k4' _ _ ((hb.block _ (blk_lt HX2.out)).trans HX2.out))
        have HS4 := Aside0.mk (k4' _ _ ((hb.block _ (blk_lt HS2.out)).trans HS2.out))
        have H4 := Aside0.mk h4
        have HB4 := Aside0.mk (bel2 (bel2 HB2.out hb) b4)
        have HC4 := Aside0.mk hC4
        have HW := Aside0.mk e4'
        clear hb t0 t1 HX2 HS2 HB2 hT hC4 hl4 h4 b4 z4 k4' e4'
        cases hkb : (kindT X x.f0).isSome with
        | false =>
          have HR : Aside0 (subsX X l = 31) := ⟨by rw [HI.out, HDR.out, subsF, if_pos (by unfold subNo; rw [hkb]; rfl)]⟩
          clear hkb
          go_upto_region 5 with (fail)
          rw [HW.out]
          clear HW
          go_wp2_with fail
          go_ret
          exact ⟨by rw [HR.out]; rfl, HB4.out⟩
        | true =>
          go_upto_region 5 with (fail)
          rw [HW.out]
          obtain ⟨m, hm⟩ : ∃ m, w3.heap.size = m := ⟨_, rfl⟩
          rw [hm] at H4 ⊢
          have t1 := blk_cell HX4.out 1
          have t2 := blk_cell H4.out 0
          have t3 := blk_cell H4.out 1
          clear HW hm
          cases hq : (x.f1.toList == ([] : List UInt8)) with
          | true =>
            have HNO : Aside0 (subNo X x = false) := ⟨by unfold subNo; rw [hkb, hq]; rfl⟩
            clear hkb
            go_wp2_with fail
            clear t1 t2 t3 hq
            have HBd : Aside0 (Below w.heap.size w w4.drew) := ⟨HB4.out.drew⟩
            have HSd : Aside0 (w4.drew.heap[q]? = some (.cells #[.slice A X.length c] 43 (0, 0))) := ⟨HS4.out⟩
            have HXd : Aside0 (w4.drew.heap[p]? = some (.cells #[.string x.f0, .string x.f1] 62 (0, 0))) := ⟨HX4.out⟩
            have hlen : (l.take i).length = i := List.length_take_of_le (by have := HJ.out; omega)
            have hcall := Contains_Sub x (l.take i) (some ad) k4 w4.drew (Kd.C_take (Kd.C_below HS.out (bel2 HB0.out HBd.out)) (by have := HJ.out; omega))
            rw [hlen] at hcall
            clear hlen
            cases hq2 : (l.take i).any (eqS x) with
            | true =>
              rw [hq2] at hcall
              have HR : Aside0 (subsX X l = 32) := ⟨by rw [HI.out, HDR.out, subsF, if_neg (by rw [HNO.out]; decide), if_pos hq2]⟩
              clear hq2
              refine start_ (n := 6) (S := fun w' => w'.cell? ⟨p, 0, none⟩ = some (.string x.f0) ∧ w'.cell? ⟨p, 1, none⟩ = some (.string x.f1)) (ds := []) #[false, false, false, false, false, false] (by kernel_rfl) rfl rfl ⟨blk_cell HXd.out 0, blk_cell HXd.out 1⟩ (fun hHeld => ?_)
              generalize w4.drew = w7 at HBd HSd HXd hcall hHeld ⊢
              refine pure_ (i := 0) (N := some 39) (v := ?_) (a' := ?_) #[true, false, false, false, false, false] rfl rfl (by kernel_rfl) (fun _ _ _ h => h) (Or.inl ⟨by rfl, ?_⟩) ?_ ?_
              rotate_left
              · intro w'
                go_simp
                with_reducible rfl
              rotate_left
              · simp only [Act.put, List.setIfInBounds_toArray, List.set_cons_zero, List.set_cons_succ, i64_w, i32_w]
                rfl
              refine pure_ (i := 1) (N := some 40) (v := ?_) (a' := ?_) #[true, true, false, false, false, false] rfl rfl (by kernel_rfl) (fun _ _ _ h => h) (Or.inl ⟨by rfl, ?_⟩) ?_ ?_
              rotate_left
              · intro w'
                go_simp
                with_reducible rfl
              rotate_left
              · simp only [Act.put, List.setIfInBounds_toArray, List.set_cons_zero, List.set_cons_succ, i64_w, i32_w]
                rfl
              refine pure_ (i := 2) (N := some 41) (v := ?_) (a' := ?_) #[true, true, true, false, false, false] rfl rfl (by kernel_rfl) (fun _ _ _ h => h) (Or.inl ⟨by rfl, ?_⟩) ?_ ?_
              rotate_left
              · intro w'
                go_simp
                with_reducible rfl
              rotate_left
              · simp only [Act.put, List.setIfInBounds_toArray, List.set_cons_zero, List.set_cons_succ, i64_w, i32_w]
                rfl
              refine take_ (i := 3) (N := some 42) (v := ?_) (a' := ?_) #[true, true, true, true, false, false] rfl rfl (by kernel_rfl) (fun _ _ _ h => h) (Or.inl ⟨by rfl, ?_⟩) hHeld ?_ ?_
              rotate_left
              · rintro w' ⟨s0, s1⟩
                go_simp
                with_reducible rfl
              rotate_left
              · simp only [Act.put, List.setIfInBounds_toArray, List.set_cons_zero, List.set_cons_succ, i64_w, i32_w]
                rfl
              refine one_ (i := 4) (N := some 43) #[true, true, true, true, true, false] rfl rfl (by kernel_rfl) (by decide) (fun K hK => ?_)
              refine goes_ Tryd.func107 (by kernel_rfl) rfl #[.slice (some ad) i k4, .agg #[.string x.f0, .string x.f1]] (by rfl) rfl rfl (by simp only [List.map_toArray, List.map_cons, List.map_nil]; rfl) ?_
              refine hcall.mono ?_
              rintro e w8 ⟨rfl, hb7⟩
              refine ⟨_, rfl, ?_⟩
              refine hK.out _ _ ⟨pw_cell_below hb7 hHeld.1, pw_cell_below hb7 hHeld.2⟩ (fun hHeld => ?_)
              clear hK K
              refine norm_ (a' := ?_) ?_ ?_
              rotate_left
              · show Act.put _ (some 43) _ = _
                simp only [Act.put, List.setIfInBounds_toArray, List.set_cons_zero, List.set_cons_succ, i64_w, i32_w]
                rfl
              refine pure_ (i := 5) (N := some 38) (v := ?_) (a' := ?_) #[true, true, true, true, true, true] rfl rfl (by kernel_rfl) (fun _ _ _ h => h) (Or.inl ⟨by rfl, ?_⟩) ?_ ?_
              rotate_left
              · intro w'
                go_simp
                with_reducible rfl
              rotate_left
              · simp only [Act.put, List.setIfInBounds_toArray, List.set_cons_zero, List.set_cons_succ, i64_w, i32_w]
                rfl
              refine done_ (by kernel_rfl) ?_
              go_wp2
              go_ret
              exact ⟨by rw [HR.out]; rfl, bel2 HBd.out hb7⟩
            | false =>
              rw [hq2] at hcall
              have HR : Aside0 (subsX X l = subsF X l (l.drop (i + 1)) (i + 1)) := ⟨by rw [HI.out, HDR.out, subsF, if_neg (by rw [HNO.out]; decide), if_neg (by rw [hq2]; decide)]⟩
              clear hq2
              refine start_ (n := 6) (S := fun w' => w'.cell? ⟨p, 0, none⟩ = some (.string x.f0) ∧ w'.cell? ⟨p, 1, none⟩ = some (.string x.f1)) (ds := []) #[false, false, false, false, false, false] (by kernel_rfl) rfl rfl ⟨blk_cell HXd.out 0, blk_cell HXd.out 1⟩ (fun hHeld => ?_)
              generalize w4.drew = w7 at HBd HSd HXd hcall hHeld ⊢
              refine pure_ (i := 0) (N := some 39) (v := ?_) (a' := ?_) #[true, false, false, false, false, false] rfl rfl (by kernel_rfl) (fun _ _ _ h => h) (Or.inl ⟨by rfl, ?_⟩) ?_ ?_
              rotate_left
              · intro w'
                go_simp
                with_reducible rfl
              rotate_left
              · simp only [Act.put, List.setIfInBounds_toArray, List.set_cons_zero, List.set_cons_succ, i64_w, i32_w]
                rfl
              refine pure_ (i := 1) (N := some 40) (v := ?_) (a' := ?_) #[true, true, false, false, false, false] rfl rfl (by kernel_rfl) (fun _ _ _ h => h) (Or.inl ⟨by rfl, ?_⟩) ?_ ?_
              rotate_left
              · intro w'
                go_simp
                with_reducible rfl
              rotate_left
              · simp only [Act.put, List.setIfInBounds_toArray, List.set_cons_zero, List.set_cons_succ, i64_w, i32_w]
                rfl
              refine pure_ (i := 2) (N := some 41) (v := ?_) (a' := ?_) #[true, true, true, false, false, false] rfl rfl (by kernel_rfl) (fun _ _ _ h => h) (Or.inl ⟨by rfl, ?_⟩) ?_ ?_
              rotate_left
              · intro w'
                go_simp
                with_reducible rfl
              rotate_left
              · simp only [Act.put, List.setIfInBounds_toArray, List.set_cons_zero, List.set_cons_succ, i64_w, i32_w]
                rfl
              refine take_ (i := 3) (N := some 42) (v := ?_) (a' := ?_) #[true, true, true, true, false, false] rfl rfl (by kernel_rfl) (fun _ _ _ h => h) (Or.inl ⟨by rfl, ?_⟩) hHeld ?_ ?_
              rotate_left
              · rintro w' ⟨s0, s1⟩
                go_simp
                with_reducible rfl
              rotate_left
              · simp only [Act.put, List.setIfInBounds_toArray, List.set_cons_zero, List.set_cons_succ, i64_w, i32_w]
                rfl
              refine one_ (i := 4) (N := some 43) #[true, true, true, true, true, false] rfl rfl (by kernel_rfl) (by decide) (fun K hK => ?_)
              refine goes_ Tryd.func107 (by kernel_rfl) rfl #[.slice (some ad) i k4, .agg #[.string x.f0, .string x.f1]] (by rfl) rfl rfl (by simp only [List.map_toArray, List.map_cons, List.map_nil]; rfl) ?_
              refine hcall.mono ?_
              rintro e w8 ⟨rfl, hb7⟩
              refine ⟨_, rfl, ?_⟩
              refine hK.out _ _ ⟨pw_cell_below hb7 hHeld.1, pw_cell_below hb7 hHeld.2⟩ (fun hHeld => ?_)
              clear hK K
              refine norm_ (a' := ?_) ?_ ?_
              rotate_left
              · show Act.put _ (some 43) _ = _
                simp only [Act.put, List.setIfInBounds_toArray, List.set_cons_zero, List.set_cons_succ, i64_w, i32_w]
                rfl
              refine pure_ (i := 5) (N := some 38) (v := ?_) (a' := ?_) #[true, true, true, true, true, true] rfl rfl (by kernel_rfl) (fun _ _ _ h => h) (Or.inl ⟨by rfl, ?_⟩) ?_ ?_
              rotate_left
              · intro w'
                go_simp
                with_reducible rfl
              rotate_left
              · simp only [Act.put, List.setIfInBounds_toArray, List.set_cons_zero, List.set_cons_succ, i64_w, i32_w]
                rfl
              refine done_ (by kernel_rfl) ?_
              go_wp2
              go_roundg g1
              case measure => omega
              case rel => exact ⟨i + 1, by simp, by have := HJ.out; omega, HJ.out.2.2, HR, ⟨bel2 HBd.out hb7⟩, ⟨(hb7.block q (blk_lt HSd.out)).trans HSd.out⟩⟩
          | false =>
            have hcall2 := has_calls T.f1 T.f0 x.f1 A1 c1 w4 (Kd.C_below HC4.out (bel2 HB0.out HB4.out))
            cases hh : hasR T.f1 x.f1 with
            | false =>
              have HR : Aside0 (subsX X l = 31) := ⟨by rw [HI.out, HDR.out, subsF, if_pos (by unfold subNo; rw [hkb, hq, HT.out, hh]; rfl)]⟩
              rw [hh] at hcall2
              clear hkb hh
              go_wp2_with fail
              refine hcall2.mono ?_
              rintro e w5 ⟨rfl, hb⟩
              go_wp2
              go_ret
              exact ⟨by rw [HR.out]; rfl, bel2 HB4.out hb⟩
            | true =>
              have HNO : Aside0 (subNo X x = false) := ⟨by unfold subNo; rw [hkb, hq, HT.out, hh]; rfl⟩
              rw [hh] at hcall2
              clear hkb hh
              go_wp2_with fail
              refine hcall2.mono ?_
              rintro e w5 ⟨rfl, hb⟩
              have HX5 := Aside0.mk ((hb.block _ (blk_lt HX4.out)).trans HX4.out)
              have HS5 := Aside0.mk ((hb.block _ (blk_lt HS4.out)).trans HS4.out)
              have HB5 := Aside0.mk (bel2 HB4.out hb)
              clear hb t1 t2 t3 HX4 HS4 HB4 H4
              go_wp2_with fail
              clear hq
              have HBd : Aside0 (Below w.heap.size w w5.drew) := ⟨HB5.out.drew⟩
              have HSd : Aside0 (w5.drew.heap[q]? = some (.cells #[.slice A X.length c] 43 (0, 0))) := ⟨HS5.out⟩
              have HXd : Aside0 (w5.drew.heap[p]? = some (.cells #[.string x.f0, .string x.f1] 62 (0, 0))) := ⟨HX5.out⟩
              have hlen : (l.take i).length = i := List.length_take_of_le (by have := HJ.out; omega)
              have hcall := Contains_Sub x (l.take i) (some ad) k4 w5.drew (Kd.C_take (Kd.C_below HS.out (bel2 HB0.out HBd.out)) (by have := HJ.out; omega))
              rw [hlen] at hcall
              clear hlen
              cases hq2 : (l.take i).any (eqS x) with
              | true =>
                rw [hq2] at hcall
                have HR : Aside0 (subsX X l = 32) := ⟨by rw [HI.out, HDR.out, subsF, if_neg (by rw [HNO.out]; decide), if_pos hq2]⟩
                clear hq2
                refine start_ (n := 6) (S := fun w' => w'.cell? ⟨p, 0, none⟩ = some (.string x.f0) ∧ w'.cell? ⟨p, 1, none⟩ = some (.string x.f1)) (ds := []) #[false, false, false, false, false, false] (by kernel_rfl) rfl rfl ⟨blk_cell HXd.out 0, blk_cell HXd.out 1⟩ (fun hHeld => ?_)
                generalize w5.drew = w7 at HBd HSd HXd hcall hHeld ⊢
                refine pure_ (i := 0) (N := some 39) (v := ?_) (a' := ?_) #[true, false, false, false, false, false] rfl rfl (by kernel_rfl) (fun _ _ _ h => h) (Or.inl ⟨by rfl, ?_⟩) ?_ ?_
                rotate_left
                · intro w'
                  go_simp
                  with_reducible rfl
                rotate_left
                · simp only [Act.put, List.setIfInBounds_toArray, List.set_cons_zero, List.set_cons_succ, i64_w, i32_w]
                  rfl
                refine pure_ (i := 1) (N := some 40) (v := ?_) (a' := ?_) #[true, true, false, false, false, false] rfl rfl (by kernel_rfl) (fun _ _ _ h => h) (Or.inl ⟨by rfl, ?_⟩) ?_ ?_
                rotate_left
                · intro w'
                  go_simp
                  with_reducible rfl
                rotate_left
                · simp only [Act.put, List.setIfInBounds_toArray, List.set_cons_zero, List.set_cons_succ, i64_w, i32_w]
                  rfl
                refine pure_ (i := 2) (N := some 41) (v := ?_) (a' := ?_) #[true, true, true, false, false, false] rfl rfl (by kernel_rfl) (fun _ _ _ h => h) (Or.inl ⟨by rfl, ?_⟩) ?_ ?_
                rotate_left
                · intro w'
                  go_simp
                  with_reducible rfl
                rotate_left
                · simp only [Act.put, List.setIfInBounds_toArray, List.set_cons_zero, List.set_cons_succ, i64_w, i32_w]
                  rfl
                refine take_ (i := 3) (N := some 42) (v := ?_) (a' := ?_) #[true, true, true, true, false, false] rfl rfl (by kernel_rfl) (fun _ _ _ h => h) (Or.inl ⟨by rfl, ?_⟩) hHeld ?_ ?_
                rotate_left
                · rintro w' ⟨s0, s1⟩
                  go_simp
                  with_reducible rfl
                rotate_left
                · simp only [Act.put, List.setIfInBounds_toArray, List.set_cons_zero, List.set_cons_succ, i64_w, i32_w]
                  rfl
                refine one_ (i := 4) (N := some 43) #[true, true, true, true, true, false] rfl rfl (by kernel_rfl) (by decide) (fun K hK => ?_)
                refine goes_ Tryd.func107 (by kernel_rfl) rfl #[.slice (some ad) i k4, .agg #[.string x.f0, .string x.f1]] (by rfl) rfl rfl (by simp only [List.map_toArray, List.map_cons, List.map_nil]; rfl) ?_
                refine hcall.mono ?_
                rintro e w8 ⟨rfl, hb7⟩
                refine ⟨_, rfl, ?_⟩
                refine hK.out _ _ ⟨pw_cell_below hb7 hHeld.1, pw_cell_below hb7 hHeld.2⟩ (fun hHeld => ?_)
                clear hK K
                refine norm_ (a' := ?_) ?_ ?_
                rotate_left
                · show Act.put _ (some 43) _ = _
                  simp only [Act.put, List.setIfInBounds_toArray, List.set_cons_zero, List.set_cons_succ, i64_w, i32_w]
                  rfl
                refine pure_ (i := 5) (N := some 38) (v := ?_) (a' := ?_) #[true, true, true, true, true, true] rfl rfl (by kernel_rfl) (fun _ _ _ h => h) (Or.inl ⟨by rfl, ?_⟩) ?_ ?_
                rotate_left
                · intro w'
                  go_simp
                  with_reducible rfl
                rotate_left
                · simp only [Act.put, List.setIfInBounds_toArray, List.set_cons_zero, List.set_cons_succ, i64_w, i32_w]
                  rfl
                refine done_ (by kernel_rfl) ?_
                go_wp2
                go_ret
                exact ⟨by rw [HR.out]; rfl, bel2 HBd.out hb7⟩
              | false =>
                rw [hq2] at hcall
                have HR : Aside0 (subsX X l = subsF X l (l.drop (i + 1)) (i + 1)) := ⟨by rw [HI.out, HDR.out, subsF, if_neg (by rw [HNO.out]; decide), if_neg (by rw [hq2]; decide)]⟩
                clear hq2
                refine start_ (n := 6) (S := fun w' => w'.cell? ⟨p, 0, none⟩ = some (.string x.f0) ∧ w'.cell? ⟨p, 1, none⟩ = some (.string x.f1)) (ds := []) #[false, false, false, false, false, false] (by kernel_rfl) rfl rfl ⟨blk_cell HXd.out 0, blk_cell HXd.out 1⟩ (fun hHeld => ?_)
                generalize w5.drew = w7 at HBd HSd HXd hcall hHeld ⊢
                refine pure_ (i := 0) (N := some 39) (v := ?_) (a' := ?_) #[true, false, false, false, false, false] rfl rfl (by kernel_rfl) (fun _ _ _ h => h) (Or.inl ⟨by rfl, ?_⟩) ?_ ?_
                rotate_left
                · intro w'
                  go_simp
                  with_reducible rfl
                rotate_left
                · simp only [Act.put, List.setIfInBounds_toArray, List.set_cons_zero, List.set_cons_succ, i64_w, i32_w]
                  rfl
                refine pure_ (i := 1) (N := some 40) (v := ?_) (a' := ?_) #[true, true, false, false, false, false] rfl rfl (by kernel_rfl) (fun _ _ _ h => h) (Or.inl ⟨by rfl, ?_⟩) ?_ ?_
                rotate_left
                · intro w'
                  go_simp
                  with_reducible rfl
                rotate_left
                · simp only [Act.put, List.setIfInBounds_toArray, List.set_cons_zero, List.set_cons_succ, i64_w, i32_w]
                  rfl
                refine pure_ (i := 2) (N := some 41) (v := ?_) (a' := ?_) #[true, true, true, false, false, false] rfl rfl (by kernel_rfl) (fun _ _ _ h => h) (Or.inl ⟨by rfl, ?_⟩) ?_ ?_
                rotate_left
                · intro w'
                  go_simp
                  with_reducible rfl
                rotate_left
                · simp only [Act.put, List.setIfInBounds_toArray, List.set_cons_zero, List.set_cons_succ, i64_w, i32_w]
                  rfl
                refine take_ (i := 3) (N := some 42) (v := ?_) (a' := ?_) #[true, true, true, true, false, false] rfl rfl (by kernel_rfl) (fun _ _ _ h => h) (Or.inl ⟨by rfl, ?_⟩) hHeld ?_ ?_
                rotate_left
                · rintro w' ⟨s0, s1⟩
                  go_simp
                  with_reducible rfl
                rotate_left
                · simp only [Act.put, List.setIfInBounds_toArray, List.set_cons_zero, List.set_cons_succ, i64_w, i32_w]
                  rfl
                refine one_ (i := 4) (N := some 43) #[true, true, true, true, true, false] rfl rfl (by kernel_rfl) (by decide) (fun K hK => ?_)
                refine goes_ Tryd.func107 (by kernel_rfl) rfl #[.slice (some ad) i k4, .agg #[.string x.f0, .string x.f1]] (by rfl) rfl rfl (by simp only [List.map_toArray, List.map_cons, List.map_nil]; rfl) ?_
                refine hcall.mono ?_
                rintro e w8 ⟨rfl, hb7⟩
                refine ⟨_, rfl, ?_⟩
                refine hK.out _ _ ⟨pw_cell_below hb7 hHeld.1, pw_cell_below hb7 hHeld.2⟩ (fun hHeld => ?_)
                clear hK K
                refine norm_ (a' := ?_) ?_ ?_
                rotate_left
                · show Act.put _ (some 43) _ = _
                  simp only [Act.put, List.setIfInBounds_toArray, List.set_cons_zero, List.set_cons_succ, i64_w, i32_w]
                  rfl
                refine pure_ (i := 5) (N := some 38) (v := ?_) (a' := ?_) #[true, true, true, true, true, true] rfl rfl (by kernel_rfl) (fun _ _ _ h => h) (Or.inl ⟨by rfl, ?_⟩) ?_ ?_
                rotate_left
                · intro w'
                  go_simp
                  with_reducible rfl
                rotate_left
                · simp only [Act.put, List.setIfInBounds_toArray, List.set_cons_zero, List.set_cons_succ, i64_w, i32_w]
                  rfl
                refine done_ (by kernel_rfl) ?_
                go_wp2
                go_roundg g1
                case measure => omega
                case rel => exact ⟨i + 1, by simp, by have := HJ.out; omega, HJ.out.2.2, HR, ⟨bel2 HBd.out hb7⟩, ⟨(hb7.block q (blk_lt HSd.out)).trans HSd.out⟩⟩
      · have e1 : decide ((i : Int) < (l.length : Int)) = false := decide_eq_false (by omega)
        have e2 : ((i : Int) < (l.length : Int)) = False := eq_false (by omega)
        have e3 : decide (i < l.length) = false := decide_eq_false hlt
        have HR : Aside0 (subsX X l = 0) := ⟨by rw [HI.out, List.drop_eq_nil_of_le (by omega), subsF]⟩
        clear hlt hi hil
        go_wp2
        go_ret
        exact ⟨by rw [HR.out]; rfl, HBr.out⟩
set_option maxHeartbeats 8000000 in
set_option maxRecDepth 100000 in
theorem counts_calls (X : List ST) (A : Option Addr) (c : Nat) (w0 w : World) (hB0 : Below w0.heap.size w0 w) (hC : Kd.C k53 w0 A X.length X) (hl : X.length ≤ c) (hz : ∀ t ∈ X, ∀ r ∈ t.f1, t.f0.size + r.f0.size + 1 ≤ 9223372036854775807) :
    Calls Tryd.prog 74 #[.agg #[.slice A X.length c]] w fun e w' => e = .returned (.tuple #[.int .i64 (countX X).1, .string (countX X).2]) ∧ Below w.heap.size w w' := by
  have HC := Aside0.mk hC
  have HZ := Aside0.mk hz
  have HB0 := Aside0.mk hB0
  have HL := Aside0.mk hl
  have HM : Aside0 (X.length ≤ 9223372036854775807) := ⟨Kd.C_max hC⟩
  obtain ⟨w1, e1, h1, b1, z1, k1⟩ := al1 w #[.slice A X.length c] 43
  have H1 := Aside0.mk h1
  have HB := Aside0.mk b1
  have HW := Aside0.mk e1
  clear hC hz hB0 hl h1 b1 z1 k1 e1
  go_enter Tryd.func74, Tryd.ntmps74
  go_upto_region 1 with (fail)
  rw [HW.out]
  obtain ⟨q, hq⟩ : ∃ q, w.heap.size = q := ⟨_, rfl⟩
  have HQ := Aside0.mk hq
  rw [hq] at H1 ⊢
  clear HW hq
  have t0 := blk_cell H1.out 0
  by_cases h8 : 8 < X.length
  · have HR : Aside0 (countX X = (13, ⟨#[]⟩)) := ⟨by unfold countX; rw [if_pos h8]⟩
    have d1 : decide ((8 : Int) < (X.length : Int)) = true := decide_eq_true (by omega)
    have d2 : ((8 : Int) < (X.length : Int)) = True := eq_true (by omega)
    have d3 : decide (8 < X.length) = true := decide_eq_true h8
    clear h8
    go_wp2_with fail
    go_ret2
    exact ⟨by rw [HR.out]; rfl, HB.out⟩
  have HR0 : Aside0 (countX X = countF X X 0) := ⟨by unfold countX; rw [if_neg h8]⟩
  have d1 : decide ((8 : Int) < (X.length : Int)) = false := decide_eq_false (by omega)
  have d2 : ((8 : Int) < (X.length : Int)) = False := eq_false (by omega)
  have d3 : decide (8 < X.length) = false := decide_eq_false h8
  clear h8
  go_wp2_with fail
  clear d1 d2 d3 t0
  go_loopg [17] (X.length + 1) (fun gg s17 wr => ∃ i : Nat, s17 = .int .i64 i ∧ i + gg = X.length + 1 ∧ i ≤ X.length ∧ Aside0 (countX X = countF X (X.drop i) i) ∧ Aside0 (Below w.heap.size w wr) ∧ Aside0 (wr.heap[q]? = some (.cells #[.slice A X.length c] 43 (0, 0))))
  case atStart => exact ⟨0, rfl, by omega, Nat.zero_le _, HR0, HB, H1⟩
  case round =>
    obtain ⟨i, rfl, hi, hil, HI, HBr, HSr⟩ := hrel
    rename World => wr
    cases gk with
    | zero => omega
    | succ g1 =>
      by_cases hlt : i < X.length
      · have e1 : decide ((i : Int) < (X.length : Int)) = true := decide_eq_true (by omega)
        have e2 : ((i : Int) < (X.length : Int)) = True := eq_true (by omega)
        have e3 : decide (i < X.length) = true := decide_eq_true hlt
        have e4 : (0 ≤ (i : Int)) = True := eq_true (by omega)
        have e5 : decide ((i : Int) < 0) = false := decide_eq_false (by omega)
        have e6 : ((i : Int) < 0) = False := eq_false (by omega)
        have e7 : ((i : Int) ≤ (c : Int)) = True := eq_true (by have := HL.out; omega)
        have e8 : (i ≤ c) = True := eq_true (by have := HL.out; omega)
        obtain ⟨T, hT⟩ : ∃ T, rd_T53 X (i : Int) = T := ⟨_, rfl⟩
        have hxi : X[i] = T := by rw [← hT]; unfold rd_T53; rw [Int.toNat_natCast, List.getD_eq_getElem?_getD, List.getElem?_eq_getElem hlt]; rfl
        have HZT : Aside0 (∀ r ∈ T.f1, T.f0.size + r.f0.size + 1 ≤ 9223372036854775807) := ⟨HZ.out T (by rw [← hxi]; exact List.getElem_mem hlt)⟩
        obtain ⟨ad, A1, c1, rfl, r0, r1, r2, hC1⟩ := at_T53 HC.out (i : Int) (by omega) (by omega)
        rw [hT] at r0 r1 r2 hC1
        rw [Int.toNat_natCast] at r0 r1
        replace r0 := pw_cell_below (bel2 HB0.out HBr.out) r0
        replace r1 := pw_cell_below (bel2 HB0.out HBr.out) r1
        have HC1 := Aside0.mk hC1
        have HL1 := Aside0.mk r2
        have HM1 : Aside0 (T.f1.length ≤ 9223372036854775807) := ⟨Kd.C_max hC1⟩
        have HDR := Aside0.mk (List.drop_eq_getElem_cons hlt)
        rw [hxi] at HDR
        have hw : IntKind.i64.wrap ((i : Int) + 1) = ((i + 1 : Nat) : Int) := by have := HM.out; rw [IntKind.wrap_i64]; omega
        have HJ := Aside0.mk (And.intro hi (And.intro hil hlt))
        obtain ⟨w2, e2', h2, b2, z2, k2⟩ := al1 wr #[.string T.f0, .slice A1 T.f1.length c1] 53
        have HX2 := Aside0.mk h2
        have HS2 := Aside0.mk (k2 _ _ HSr.out)
        have HB2 := Aside0.mk (bel2 HBr.out b2)
        have HW := Aside0.mk e2'
        clear hT hi hil hxi hlt h2 b2 z2 k2 e2' hC1 r2
        go_upto_region 6 with (fail)
        rw [HW.out]
        obtain ⟨p, hp⟩ : ∃ p, wr.heap.size = p := ⟨_, rfl⟩
        rw [hp] at HX2 ⊢
        clear HW hp r0 r1 HSr HBr
        have HBd : Aside0 (Below w.heap.size w w2.drew) := ⟨HB2.out.drew⟩
        have HSd : Aside0 (w2.drew.heap[q]? = some (.cells #[.slice (some ad) X.length c] 43 (0, 0))) := ⟨HS2.out⟩
        have HXd : Aside0 (w2.drew.heap[p]? = some (.cells #[.string T.f0, .slice A1 T.f1.length c1] 53 (0, 0))) := ⟨HX2.out⟩
        have hcall : ∀ W, Below w0.heap.size w0 W → Calls Tryd.prog 80 #[.agg #[.slice (some ad) i c], .string T.f0] W fun e w' => ∃ s a n c', e = .returned (.tuple #[.agg #[.string s, .slice a n c'], .bool (kindT (X.take i) T.f0).isSome]) ∧ Below W.heap.size W w' := fun W hW => by
          have h := kind_calls (X.take i) T.f0 (some ad) c w0 W hW (Kd.C_take HC.out (by have := HJ.out; omega))
          rw [List.length_take_of_le (by have := HJ.out; omega : i ≤ X.length)] at h
          exact h.mono fun e w' hh => by obtain ⟨a, n, h1, _, _, h2⟩ := hh; exact ⟨_, a, _, n, h1, h2⟩
        clear HB2 HS2 HX2
        cases hkb : (kindT (X.take i) T.f0).isSome with
        | true =>
          rw [hkb] at hcall
          have HR : Aside0 (countX X = (32, T.f0)) := ⟨by rw [HI.out, HDR.out, countF, if_pos hkb]⟩
          clear hkb
          refine start_ (n := 14) (S := fun w' => w'.cell? ⟨q, 0, none⟩ = some (.slice (some ad) X.length c) ∧ w'.cell? ⟨p, 0, none⟩ = some (.string T.f0)) (ds := [12]) #[false, false, false, false, false, false, false, false, false, false, false, false, false, false] (by kernel_rfl) rfl rfl ⟨blk_cell HSd.out 0, blk_cell HXd.out 0⟩ (fun hHeld => ?_)
          generalize w2.drew = w7 at HBd HSd HXd hHeld ⊢
          refine pure_ (i := 0) (N := some 23) (v := ?_) (a' := ?_) #[true, false, false, false, false, false, false, false, false, false, false, false, false, false] rfl rfl (by kernel_rfl) (fun _ _ _ h => h) (Or.inl ⟨by rfl, ?_⟩) ?_ ?_
          rotate_left
          · intro w'
            go_simp
            with_reducible rfl
          rotate_left
          · simp only [Act.put, List.setIfInBounds_toArray, List.set_cons_zero, List.set_cons_succ, i64_w, i32_w]
            rfl
          refine pure_ (i := 2) (N := some 25) (v := ?_) (a' := ?_) #[true, false, true, false, false, false, false, false, false, false, false, false, false, false] rfl rfl (by kernel_rfl) (fun _ _ _ h => h) (Or.inl ⟨by rfl, ?_⟩) ?_ ?_
          rotate_left
          · intro w'
            go_simp
            with_reducible rfl
          rotate_left
          · simp only [Act.put, List.setIfInBounds_toArray, List.set_cons_zero, List.set_cons_succ, i64_w, i32_w]
            rfl
          refine pure_ (i := 5) (N := some 28) (v := ?_) (a' := ?_) #[true, false, true, false, false, true, false, false, false, false, false, false, false, false] rfl rfl (by kernel_rfl) (fun _ _ _ h => h) (Or.inl ⟨by rfl, ?_⟩) ?_ ?_
          rotate_left
          · intro w'
            go_simp
            with_reducible rfl
          rotate_left
          · simp only [Act.put, List.setIfInBounds_toArray, List.set_cons_zero, List.set_cons_succ, i64_w, i32_w]
            rfl
          refine take_ (i := 1) (N := some 24) (v := ?_) (a' := ?_) #[true, true, true, false, false, true, false, false, false, false, false, false, false, false] rfl rfl (by kernel_rfl) (fun _ _ _ h => h) (Or.inl ⟨by rfl, ?_⟩) hHeld ?_ ?_
          rotate_left
          · rintro w' ⟨s0, s1⟩
            go_simp
            with_reducible rfl
          rotate_left
          · simp only [Act.put, List.setIfInBounds_toArray, List.set_cons_zero, List.set_cons_succ, i64_w, i32_w]
            rfl
          refine pure_ (i := 3) (N := some 26) (v := ?_) (a' := ?_) #[true, true, true, true, false, true, false, false, false, false, false, false, false, false] rfl rfl (by kernel_rfl) (fun _ _ _ h => h) (Or.inl ⟨by rfl, ?_⟩) ?_ ?_
          rotate_left
          · intro w'
            go_simp
            with_reducible rfl
          rotate_left
          · simp only [Act.put, List.setIfInBounds_toArray, List.set_cons_zero, List.set_cons_succ, i64_w, i32_w]
            rfl
          refine pure_ (i := 4) (N := some 27) (v := ?_) (a' := ?_) #[true, true, true, true, true, true, false, false, false, false, false, false, false, false] rfl rfl (by kernel_rfl) (fun _ _ _ h => h) (Or.inl ⟨by rfl, ?_⟩) ?_ ?_
          rotate_left
          · intro w'
            go_simp
            with_reducible rfl
          rotate_left
          · simp only [Act.put, List.setIfInBounds_toArray, List.set_cons_zero, List.set_cons_succ, i64_w, i32_w]
            rfl
          refine take_ (i := 6) (N := some 29) (v := ?_) (a' := ?_) #[true, true, true, true, true, true, true, false, false, false, false, false, false, false] rfl rfl (by kernel_rfl) (fun _ _ _ h => h) (Or.inl ⟨by rfl, ?_⟩) hHeld ?_ ?_
          rotate_left
          · rintro w' ⟨s0, s1⟩
            go_simp
            with_reducible rfl
          rotate_left
          · simp only [Act.put, List.setIfInBounds_toArray, List.set_cons_zero, List.set_cons_succ, i64_w, i32_w]
            rfl
          refine join_ (σ := Nat × ByteArray × Option Addr × Nat × Nat) 2 #[true, true, true, true, true, true, true, true, true, true, true, true, false, false] (fun s => [(30, .tuple #[.agg #[.string s.2.1, .slice s.2.2.1 s.2.2.2.1 s.2.2.2.2], .bool true]), (22, .tuple #[.agg #[.string s.2.1, .slice s.2.2.1 s.2.2.2.1 s.2.2.2.2], .bool true]), (31, .agg #[.string s.2.1, .slice s.2.2.1 s.2.2.2.1 s.2.2.2.2]), (32, .bool true), (6, .pointer (some ⟨s.1, 0, none⟩))]) (fun s w' => (w'.cell? ⟨q, 0, none⟩ = some (.slice (some ad) X.length c) ∧ w'.cell? ⟨p, 0, none⟩ = some (.string T.f0)) ∧ Below w7.heap.size w7 w' ∧ w7.heap.size ≤ s.1 ∧ w'.heap[s.1]? = some (.cells #[.string ⟨#[]⟩, .slice none 0 0] 53 (0, 0))) ?_ ?_
          rotate_left
          · intro hCont
            refine two_ (i := 7) (j := 11) (Ni := some 30) (Nj := some 6) #[true, true, true, true, true, true, true, true, false, false, false, false, false, false] #[true, true, true, true, true, true, true, false, false, false, false, true, false, false] rfl rfl rfl rfl (by kernel_rfl) (by decide) (by decide) (fun K hK => ?_) (fun K hK => ?_)
            · skip
              refine goes_ Tryd.func80 (by kernel_rfl) rfl #[.agg #[.slice (some ad) i c], .string T.f0] (by rfl) rfl rfl (by simp only [List.map_toArray, List.map_cons, List.map_nil]; rfl) ?_
              refine (hcall _ (bel2 HB0.out HBd.out)).mono ?_
              rintro e w8 ⟨sv, av, nv, cv, rfl, hb7⟩
              refine ⟨_, rfl, ?_⟩
              refine hK.out _ _ ⟨pw_cell_below hb7 hHeld.1, pw_cell_below hb7 hHeld.2⟩ (fun hHeld => ?_)
              clear hK K
              refine norm_ (a' := ?_) ?_ ?_
              rotate_left
              · show Act.put _ (some 30) _ = _
                simp only [Act.put, List.setIfInBounds_toArray, List.set_cons_zero, List.set_cons_succ, i64_w, i32_w]
                rfl
              refine pure_ (i := 8) (N := some 22) (v := ?_) (a' := ?_) #[true, true, true, true, true, true, true, true, true, false, false, false, false, false] rfl rfl (by kernel_rfl) (fun _ _ _ h => h) (Or.inl ⟨by rfl, ?_⟩) ?_ ?_
              rotate_left
              · intro w'
                go_simp
                with_reducible rfl
              rotate_left
              · simp only [Act.put, List.setIfInBounds_toArray, List.set_cons_zero, List.set_cons_succ, i64_w, i32_w]
                rfl
              refine pure_ (i := 9) (N := some 31) (v := ?_) (a' := ?_) #[true, true, true, true, true, true, true, true, true, true, false, false, false, false] rfl rfl (by kernel_rfl) (fun _ _ _ h => h) (Or.inl ⟨by rfl, ?_⟩) ?_ ?_
              rotate_left
              · intro w'
                go_simp
                with_reducible rfl
              rotate_left
              · simp only [Act.put, List.setIfInBounds_toArray, List.set_cons_zero, List.set_cons_succ, i64_w, i32_w]
                rfl
              refine pure_ (i := 10) (N := some 32) (v := ?_) (a' := ?_) #[true, true, true, true, true, true, true, true, true, true, true, false, false, false] rfl rfl (by kernel_rfl) (fun _ _ _ h => h) (Or.inl ⟨by rfl, ?_⟩) ?_ ?_
              rotate_left
              · intro w'
                go_simp
                with_reducible rfl
              rotate_left
              · simp only [Act.put, List.setIfInBounds_toArray, List.set_cons_zero, List.set_cons_succ, i64_w, i32_w]
                rfl
              refine one_ (i := 11) (N := some 6) #[true, true, true, true, true, true, true, true, true, true, true, true, false, false] rfl rfl (by kernel_rfl) (by decide) (fun K hK => ?_)
              refine value_ (w1 := ?_) (v := ?_) (by rfl) rfl ?_ ?_
              rotate_left 2
              · go_simp
                constructor
                · rfl
                · rfl
              refine hK.out _ _ ⟨(World.cell?_alloc_lt _ _ _ (World.block_lt_of_cell? _ _ (hHeld.1))).trans (hHeld.1), (World.cell?_alloc_lt _ _ _ (World.block_lt_of_cell? _ _ (hHeld.2))).trans (hHeld.2)⟩ (fun hHeld => ?_)
              clear hK K
              refine norm_ (a' := ?_) ?_ ?_
              rotate_left
              · show Act.put _ (some 6) _ = _
                simp only [Act.put, List.setIfInBounds_toArray, List.set_cons_zero, List.set_cons_succ, i64_w, i32_w]
                rfl
              exact norm_ (by simp only [putAll, Act.put, List.setIfInBounds_toArray, List.set_cons_zero, List.set_cons_succ]) (hCont ⟨w8.heap.size, sv, av, nv, cv⟩ _ ⟨hHeld, bel2 hb7 (below_alloc (Below.refl _ _) _), hb7.size, (Go.MapKept.heap_alloc w8 _).1⟩)
            · skip
              refine value_ (w1 := ?_) (v := ?_) (by rfl) rfl ?_ ?_
              rotate_left 2
              · go_simp
                constructor
                · rfl
                · rfl
              refine hK.out _ _ ⟨(World.cell?_alloc_lt _ _ _ (World.block_lt_of_cell? _ _ (hHeld.1))).trans (hHeld.1), (World.cell?_alloc_lt _ _ _ (World.block_lt_of_cell? _ _ (hHeld.2))).trans (hHeld.2)⟩ (fun hHeld => ?_)
              clear hK K
              refine norm_ (a' := ?_) ?_ ?_
              rotate_left
              · show Act.put _ (some 6) _ = _
                simp only [Act.put, List.setIfInBounds_toArray, List.set_cons_zero, List.set_cons_succ, i64_w, i32_w]
                rfl
              refine one_ (i := 7) (N := some 30) #[true, true, true, true, true, true, true, true, false, false, false, true, false, false] rfl rfl (by kernel_rfl) (by decide) (fun K hK => ?_)
              refine goes_ Tryd.func80 (by kernel_rfl) rfl #[.agg #[.slice (some ad) i c], .string T.f0] (by rfl) rfl rfl (by simp only [List.map_toArray, List.map_cons, List.map_nil]; rfl) ?_
              refine (hcall _ (bel2 HB0.out (bel2 HBd.out (below_alloc (Below.refl _ _) _)))).mono ?_
              rintro e w8 ⟨sv, av, nv, cv, rfl, hb7⟩
              refine ⟨_, rfl, ?_⟩
              refine hK.out _ _ ⟨pw_cell_below hb7 hHeld.1, pw_cell_below hb7 hHeld.2⟩ (fun hHeld => ?_)
              clear hK K
              refine norm_ (a' := ?_) ?_ ?_
              rotate_left
              · show Act.put _ (some 30) _ = _
                simp only [Act.put, List.setIfInBounds_toArray, List.set_cons_zero, List.set_cons_succ, i64_w, i32_w]
                rfl
              refine pure_ (i := 8) (N := some 22) (v := ?_) (a' := ?_) #[true, true, true, true, true, true, true, true, true, false, false, true, false, false] rfl rfl (by kernel_rfl) (fun _ _ _ h => h) (Or.inl ⟨by rfl, ?_⟩) ?_ ?_
              rotate_left
              · intro w'
                go_simp
                with_reducible rfl
              rotate_left
              · simp only [Act.put, List.setIfInBounds_toArray, List.set_cons_zero, List.set_cons_succ, i64_w, i32_w]
                rfl
              refine pure_ (i := 9) (N := some 31) (v := ?_) (a' := ?_) #[true, true, true, true, true, true, true, true, true, true, false, true, false, false] rfl rfl (by kernel_rfl) (fun _ _ _ h => h) (Or.inl ⟨by rfl, ?_⟩) ?_ ?_
              rotate_left
              · intro w'
                go_simp
                with_reducible rfl
              rotate_left
              · simp only [Act.put, List.setIfInBounds_toArray, List.set_cons_zero, List.set_cons_succ, i64_w, i32_w]
                rfl
              refine pure_ (i := 10) (N := some 32) (v := ?_) (a' := ?_) #[true, true, true, true, true, true, true, true, true, true, true, true, false, false] rfl rfl (by kernel_rfl) (fun _ _ _ h => h) (Or.inl ⟨by rfl, ?_⟩) ?_ ?_
              rotate_left
              · intro w'
                go_simp
                with_reducible rfl
              rotate_left
              · simp only [Act.put, List.setIfInBounds_toArray, List.set_cons_zero, List.set_cons_succ, i64_w, i32_w]
                rfl
              exact norm_ (by simp only [putAll, Act.put, List.setIfInBounds_toArray, List.set_cons_zero, List.set_cons_succ]) (hCont ⟨w7.heap.size, sv, av, nv, cv⟩ _ ⟨hHeld, bel2 (below_alloc (Below.refl _ _) _) hb7, Nat.le_refl _, (hb7.block _ (by simp)).trans (Go.MapKept.heap_alloc w7 _).1⟩)
          rintro ⟨m, sv, av, nv, cv⟩ w8 ⟨hHeld, hb8, hm8, hz8⟩
          dsimp only at hm8 hz8
          have fz0 := blk_frozen hz8 0
          have fz1 := blk_frozen hz8 1
          have cz0 := blk_cell hz8 0
          have cz1 := blk_cell hz8 1
          refine norm_ (a' := ?_) ?_ ?_
          rotate_left
          · simp only [putAll, Act.put, List.setIfInBounds_toArray, List.set_cons_zero, List.set_cons_succ]
            rfl
          refine last_ (i := 12) (N := none) #[true, true, true, true, true, true, true, true, true, true, true, true, true, false] rfl rfl (by kernel_rfl) (by decide) (fun K hK => ?_)
          refine skip_ (w1 := ?_) (by rfl) rfl ?_ ?_
          rotate_left
          · go_simp
            rfl
          refine hK.out _ _ ?_
          clear hK K
          refine pure_ (i := 13) (N := some 7) (v := ?_) (a' := ?_) #[true, true, true, true, true, true, true, true, true, true, true, true, true, true] rfl rfl (by kernel_rfl) (fun _ _ _ h => h) (Or.inl ⟨by rfl, ?_⟩) ?_ ?_
          rotate_left
          · intro w'
            go_simp
            with_reducible rfl
          rotate_left
          · simp only [Act.put, List.setIfInBounds_toArray, List.set_cons_zero, List.set_cons_succ, i64_w, i32_w]
            rfl
          refine done_ (by kernel_rfl) ?_
          have hpq : p < w7.heap.size ∧ q < w7.heap.size := ⟨blk_lt HXd.out, blk_lt HSd.out⟩
          have HBz : Aside0 (Below w.heap.size w ((w8.setCell ⟨m, 0, none⟩ (.string sv)).setCell ⟨m, 1, none⟩ (.slice av nv cv))) := ⟨below_set (below_set (bel2 HBd.out hb8) (by have := HBd.out.size; show w.heap.size ≤ m; omega)) (by have := HBd.out.size; show w.heap.size ≤ m; omega)⟩
          have HSz : Aside0 (((w8.setCell ⟨m, 0, none⟩ (.string sv)).setCell ⟨m, 1, none⟩ (.slice av nv cv)).heap[q]? = some (.cells #[.slice (some ad) X.length c] 43 (0, 0))) := ⟨(Below.heap_setCell _ ⟨m, 1, none⟩ _ q (show q ≠ m by omega)).trans ((Below.heap_setCell w8 ⟨m, 0, none⟩ _ q (show q ≠ m by omega)).trans ((hb8.block q hpq.2).trans HSd.out))⟩
          have HXz : Aside0 (((w8.setCell ⟨m, 0, none⟩ (.string sv)).setCell ⟨m, 1, none⟩ (.slice av nv cv)).heap[p]? = some (.cells #[.string T.f0, .slice A1 T.f1.length c1] 53 (0, 0))) := ⟨(Below.heap_setCell _ ⟨m, 1, none⟩ _ p (show p ≠ m by omega)).trans ((Below.heap_setCell w8 ⟨m, 0, none⟩ _ p (show p ≠ m by omega)).trans ((hb8.block p hpq.1).trans HXd.out))⟩
          obtain ⟨wz, hwz⟩ : ∃ wz, (w8.setCell ⟨m, 0, none⟩ (.string sv)).setCell ⟨m, 1, none⟩ (.slice av nv cv) = wz := ⟨_, rfl⟩
          rw [hwz] at HBz HSz HXz ⊢
          clear hwz hpq hb8 hm8 hz8 fz0 fz1 cz0 cz1 HBd HSd HXd hcall
          have t5 := blk_cell HXz.out 0
          have t6 := blk_cell HXz.out 1
          go_wp2_with fail
          go_quiet (fail)
          have HBq : Aside0 (Below w.heap.size w (wz.drewN nq)) := ⟨pw_below_drewN HBz.out nq⟩
          obtain ⟨wq, hwq⟩ : ∃ wq, wz.drewN nq = wq := ⟨_, rfl⟩
          rw [hwq] at HBq ⊢
          clear hwq
          go_wp2_with fail
          go_ret2
          exact ⟨by rw [HR.out]; rfl, HBq.out⟩
        | false =>
          rw [hkb] at hcall
          have HR1 : Aside0 (countX X = if 12 < T.f1.length then (13, T.f0) else (relF T T.f1 0).getD (countF X (X.drop (i + 1)) (i + 1))) := ⟨by rw [HI.out, HDR.out, countF, if_neg (by rw [hkb]; decide)]⟩
          clear hkb
          refine start_ (n := 14) (S := fun w' => w'.cell? ⟨q, 0, none⟩ = some (.slice (some ad) X.length c) ∧ w'.cell? ⟨p, 0, none⟩ = some (.string T.f0)) (ds := [12]) #[false, false, false, false, false, false, false, false, false, false, false, false, false, false] (by kernel_rfl) rfl rfl ⟨blk_cell HSd.out 0, blk_cell HXd.out 0⟩ (fun hHeld => ?_)
          generalize w2.drew = w7 at HBd HSd HXd hHeld ⊢
          refine pure_ (i := 0) (N := some 23) (v := ?_) (a' := ?_) #[true, false, false, false, false, false, false, false, false, false, false, false, false, false] rfl rfl (by kernel_rfl) (fun _ _ _ h => h) (Or.inl ⟨by rfl, ?_⟩) ?_ ?_
          rotate_left
          · intro w'
            go_simp
            with_reducible rfl
          rotate_left
          · simp only [Act.put, List.setIfInBounds_toArray, List.set_cons_zero, List.set_cons_succ, i64_w, i32_w]
            rfl
          refine pure_ (i := 2) (N := some 25) (v := ?_) (a' := ?_) #[true, false, true, false, false, false, false, false, false, false, false, false, false, false] rfl rfl (by kernel_rfl) (fun _ _ _ h => h) (Or.inl ⟨by rfl, ?_⟩) ?_ ?_
          rotate_left
          · intro w'
            go_simp
            with_reducible rfl
          rotate_left
          · simp only [Act.put, List.setIfInBounds_toArray, List.set_cons_zero, List.set_cons_succ, i64_w, i32_w]
            rfl
          refine pure_ (i := 5) (N := some 28) (v := ?_) (a' := ?_) #[true, false, true, false, false, true, false, false, false, false, false, false, false, false] rfl rfl (by kernel_rfl) (fun _ _ _ h => h) (Or.inl ⟨by rfl, ?_⟩) ?_ ?_
          rotate_left
          · intro w'
            go_simp
            with_reducible rfl
          rotate_left
          · simp only [Act.put, List.setIfInBounds_toArray, List.set_cons_zero, List.set_cons_succ, i64_w, i32_w]
            rfl
          refine take_ (i := 1) (N := some 24) (v := ?_) (a' := ?_) #[true, true, true, false, false, true, false, false, false, false, false, false, false, false] rfl rfl (by kernel_rfl) (fun _ _ _ h => h) (Or.inl ⟨by rfl, ?_⟩) hHeld ?_ ?_
          rotate_left
          · rintro w' ⟨s0, s1⟩
            go_simp
            with_reducible rfl
          rotate_left
          · simp only [Act.put, List.setIfInBounds_toArray, List.set_cons_zero, List.set_cons_succ, i64_w, i32_w]
            rfl
          refine pure_ (i := 3) (N := some 26) (v := ?_) (a' := ?_) #[true, true, true, true, false, true, false, false, false, false, false, false, false, false] rfl rfl (by kernel_rfl) (fun _ _ _ h => h) (Or.inl ⟨by rfl, ?_⟩) ?_ ?_
          rotate_left
          · intro w'
            go_simp
            with_reducible rfl
          rotate_left
          · simp only [Act.put, List.setIfInBounds_toArray, List.set_cons_zero, List.set_cons_succ, i64_w, i32_w]
            rfl
          refine pure_ (i := 4) (N := some 27) (v := ?_) (a' := ?_) #[true, true, true, true, true, true, false, false, false, false, false, false, false, false] rfl rfl (by kernel_rfl) (fun _ _ _ h => h) (Or.inl ⟨by rfl, ?_⟩) ?_ ?_
          rotate_left
          · intro w'
            go_simp
            with_reducible rfl
          rotate_left
          · simp only [Act.put, List.setIfInBounds_toArray, List.set_cons_zero, List.set_cons_succ, i64_w, i32_w]
            rfl
          refine take_ (i := 6) (N := some 29) (v := ?_) (a' := ?_) #[true, true, true, true, true, true, true, false, false, false, false, false, false, false] rfl rfl (by kernel_rfl) (fun _ _ _ h => h) (Or.inl ⟨by rfl, ?_⟩) hHeld ?_ ?_
          rotate_left
          · rintro w' ⟨s0, s1⟩
            go_simp
            with_reducible rfl
          rotate_left
          · simp only [Act.put, List.setIfInBounds_toArray, List.set_cons_zero, List.set_cons_succ, i64_w, i32_w]
            rfl
          refine join_ (σ := Nat × ByteArray × Option Addr × Nat × Nat) 2 #[true, true, true, true, true, true, true, true, true, true, true, true, false, false] (fun s => [(30, .tuple #[.agg #[.string s.2.1, .slice s.2.2.1 s.2.2.2.1 s.2.2.2.2], .bool false]), (22, .tuple #[.agg #[.string s.2.1, .slice s.2.2.1 s.2.2.2.1 s.2.2.2.2], .bool false]), (31, .agg #[.string s.2.1, .slice s.2.2.1 s.2.2.2.1 s.2.2.2.2]), (32, .bool false), (6, .pointer (some ⟨s.1, 0, none⟩))]) (fun s w' => (w'.cell? ⟨q, 0, none⟩ = some (.slice (some ad) X.length c) ∧ w'.cell? ⟨p, 0, none⟩ = some (.string T.f0)) ∧ Below w7.heap.size w7 w' ∧ w7.heap.size ≤ s.1 ∧ w'.heap[s.1]? = some (.cells #[.string ⟨#[]⟩, .slice none 0 0] 53 (0, 0))) ?_ ?_
          rotate_left
          · intro hCont
            refine two_ (i := 7) (j := 11) (Ni := some 30) (Nj := some 6) #[true, true, true, true, true, true, true, true, false, false, false, false, false, false] #[true, true, true, true, true, true, true, false, false, false, false, true, false, false] rfl rfl rfl rfl (by kernel_rfl) (by decide) (by decide) (fun K hK => ?_) (fun K hK => ?_)
            · skip
              refine goes_ Tryd.func80 (by kernel_rfl) rfl #[.agg #[.slice (some ad) i c], .string T.f0] (by rfl) rfl rfl (by simp only [List.map_toArray, List.map_cons, List.map_nil]; rfl) ?_
              refine (hcall _ (bel2 HB0.out HBd.out)).mono ?_
              rintro e w8 ⟨sv, av, nv, cv, rfl, hb7⟩
              refine ⟨_, rfl, ?_⟩
              refine hK.out _ _ ⟨pw_cell_below hb7 hHeld.1, pw_cell_below hb7 hHeld.2⟩ (fun hHeld => ?_)
              clear hK K
              refine norm_ (a' := ?_) ?_ ?_
              rotate_left
              · show Act.put _ (some 30) _ = _
                simp only [Act.put, List.setIfInBounds_toArray, List.set_cons_zero, List.set_cons_succ, i64_w, i32_w]
                rfl
              refine pure_ (i := 8) (N := some 22) (v := ?_) (a' := ?_) #[true, true, true, true, true, true, true, true, true, false, false, false, false, false] rfl rfl (by kernel_rfl) (fun _ _ _ h => h) (Or.inl ⟨by rfl, ?_⟩) ?_ ?_
              rotate_left
              · intro w'
                go_simp
                with_reducible rfl
              rotate_left
              · simp only [Act.put, List.setIfInBounds_toArray, List.set_cons_zero, List.set_cons_succ, i64_w, i32_w]
                rfl
              refine pure_ (i := 9) (N := some 31) (v := ?_) (a' := ?_) #[true, true, true, true, true, true, true, true, true, true, false, false, false, false] rfl rfl (by kernel_rfl) (fun _ _ _ h => h) (Or.inl ⟨by rfl, ?_⟩) ?_ ?_
              rotate_left
              · intro w'
                go_simp
                with_reducible rfl
              rotate_left
              · simp only [Act.put, List.setIfInBounds_toArray, List.set_cons_zero, List.set_cons_succ, i64_w, i32_w]
                rfl
              refine pure_ (i := 10) (N := some 32) (v := ?_) (a' := ?_) #[true, true, true, true, true, true, true, true, true, true, true, false, false, false] rfl rfl (by kernel_rfl) (fun _ _ _ h => h) (Or.inl ⟨by rfl, ?_⟩) ?_ ?_
              rotate_left
              · intro w'
                go_simp
                with_reducible rfl
              rotate_left
              · simp only [Act.put, List.setIfInBounds_toArray, List.set_cons_zero, List.set_cons_succ, i64_w, i32_w]
                rfl
              refine one_ (i := 11) (N := some 6) #[true, true, true, true, true, true, true, true, true, true, true, true, false, false] rfl rfl (by kernel_rfl) (by decide) (fun K hK => ?_)
              refine value_ (w1 := ?_) (v := ?_) (by rfl) rfl ?_ ?_
              rotate_left 2
              · go_simp
                constructor
                · rfl
                · rfl
              refine hK.out _ _ ⟨(World.cell?_alloc_lt _ _ _ (World.block_lt_of_cell? _ _ (hHeld.1))).trans (hHeld.1), (World.cell?_alloc_lt _ _ _ (World.block_lt_of_cell? _ _ (hHeld.2))).trans (hHeld.2)⟩ (fun hHeld => ?_)
              clear hK K
              refine norm_ (a' := ?_) ?_ ?_
              rotate_left
              · show Act.put _ (some 6) _ = _
                simp only [Act.put, List.setIfInBounds_toArray, List.set_cons_zero, List.set_cons_succ, i64_w, i32_w]
                rfl
              exact norm_ (by simp only [putAll, Act.put, List.setIfInBounds_toArray, List.set_cons_zero, List.set_cons_succ]) (hCont ⟨w8.heap.size, sv, av, nv, cv⟩ _ ⟨hHeld, bel2 hb7 (below_alloc (Below.refl _ _) _), hb7.size, (Go.MapKept.heap_alloc w8 _).1⟩)
            · skip
              refine value_ (w1 := ?_) (v := ?_) (by rfl) rfl ?_ ?_
              rotate_left 2
              · go_simp
                constructor
                · rfl
                · rfl
              refine hK.out _ _ ⟨(World.cell?_alloc_lt _ _ _ (World.block_lt_of_cell? _ _ (hHeld.1))).trans (hHeld.1), (World.cell?_alloc_lt _ _ _ (World.block_lt_of_cell? _ _ (hHeld.2))).trans (hHeld.2)⟩ (fun hHeld => ?_)
              clear hK K
              refine norm_ (a' := ?_) ?_ ?_
              rotate_left
              · show Act.put _ (some 6) _ = _
                simp only [Act.put, List.setIfInBounds_toArray, List.set_cons_zero, List.set_cons_succ, i64_w, i32_w]
                rfl
              refine one_ (i := 7) (N := some 30) #[true, true, true, true, true, true, true, true, false, false, false, true, false, false] rfl rfl (by kernel_rfl) (by decide) (fun K hK => ?_)
              refine goes_ Tryd.func80 (by kernel_rfl) rfl #[.agg #[.slice (some ad) i c], .string T.f0] (by rfl) rfl rfl (by simp only [List.map_toArray, List.map_cons, List.map_nil]; rfl) ?_
              refine (hcall _ (bel2 HB0.out (bel2 HBd.out (below_alloc (Below.refl _ _) _)))).mono ?_
              rintro e w8 ⟨sv, av, nv, cv, rfl, hb7⟩
              refine ⟨_, rfl, ?_⟩
              refine hK.out _ _ ⟨pw_cell_below hb7 hHeld.1, pw_cell_below hb7 hHeld.2⟩ (fun hHeld => ?_)
              clear hK K
              refine norm_ (a' := ?_) ?_ ?_
              rotate_left
              · show Act.put _ (some 30) _ = _
                simp only [Act.put, List.setIfInBounds_toArray, List.set_cons_zero, List.set_cons_succ, i64_w, i32_w]
                rfl
              refine pure_ (i := 8) (N := some 22) (v := ?_) (a' := ?_) #[true, true, true, true, true, true, true, true, true, false, false, true, false, false] rfl rfl (by kernel_rfl) (fun _ _ _ h => h) (Or.inl ⟨by rfl, ?_⟩) ?_ ?_
              rotate_left
              · intro w'
                go_simp
                with_reducible rfl
              rotate_left
              · simp only [Act.put, List.setIfInBounds_toArray, List.set_cons_zero, List.set_cons_succ, i64_w, i32_w]
                rfl
              refine pure_ (i := 9) (N := some 31) (v := ?_) (a' := ?_) #[true, true, true, true, true, true, true, true, true, true, false, true, false, false] rfl rfl (by kernel_rfl) (fun _ _ _ h => h) (Or.inl ⟨by rfl, ?_⟩) ?_ ?_
              rotate_left
              · intro w'
                go_simp
                with_reducible rfl
              rotate_left
              · simp only [Act.put, List.setIfInBounds_toArray, List.set_cons_zero, List.set_cons_succ, i64_w, i32_w]
                rfl
              refine pure_ (i := 10) (N := some 32) (v := ?_) (a' := ?_) #[true, true, true, true, true, true, true, true, true, true, true, true, false, false] rfl rfl (by kernel_rfl) (fun _ _ _ h => h) (Or.inl ⟨by rfl, ?_⟩) ?_ ?_
              rotate_left
              · intro w'
                go_simp
                with_reducible rfl
              rotate_left
              · simp only [Act.put, List.setIfInBounds_toArray, List.set_cons_zero, List.set_cons_succ, i64_w, i32_w]
                rfl
              exact norm_ (by simp only [putAll, Act.put, List.setIfInBounds_toArray, List.set_cons_zero, List.set_cons_succ]) (hCont ⟨w7.heap.size, sv, av, nv, cv⟩ _ ⟨hHeld, bel2 (below_alloc (Below.refl _ _) _) hb7, Nat.le_refl _, (hb7.block _ (by simp)).trans (Go.MapKept.heap_alloc w7 _).1⟩)
          rintro ⟨m, sv, av, nv, cv⟩ w8 ⟨hHeld, hb8, hm8, hz8⟩
          dsimp only at hm8 hz8
          have fz0 := blk_frozen hz8 0
          have fz1 := blk_frozen hz8 1
          have cz0 := blk_cell hz8 0
          have cz1 := blk_cell hz8 1
          refine norm_ (a' := ?_) ?_ ?_
          rotate_left
          · simp only [putAll, Act.put, List.setIfInBounds_toArray, List.set_cons_zero, List.set_cons_succ]
            rfl
          refine last_ (i := 12) (N := none) #[true, true, true, true, true, true, true, true, true, true, true, true, true, false] rfl rfl (by kernel_rfl) (by decide) (fun K hK => ?_)
          refine skip_ (w1 := ?_) (by rfl) rfl ?_ ?_
          rotate_left
          · go_simp
            rfl
          refine hK.out _ _ ?_
          clear hK K
          refine pure_ (i := 13) (N := some 7) (v := ?_) (a' := ?_) #[true, true, true, true, true, true, true, true, true, true, true, true, true, true] rfl rfl (by kernel_rfl) (fun _ _ _ h => h) (Or.inl ⟨by rfl, ?_⟩) ?_ ?_
          rotate_left
          · intro w'
            go_simp
            with_reducible rfl
          rotate_left
          · simp only [Act.put, List.setIfInBounds_toArray, List.set_cons_zero, List.set_cons_succ, i64_w, i32_w]
            rfl
          refine done_ (by kernel_rfl) ?_
          have hpq : p < w7.heap.size ∧ q < w7.heap.size := ⟨blk_lt HXd.out, blk_lt HSd.out⟩
          have HBz : Aside0 (Below w.heap.size w ((w8.setCell ⟨m, 0, none⟩ (.string sv)).setCell ⟨m, 1, none⟩ (.slice av nv cv))) := ⟨below_set (below_set (bel2 HBd.out hb8) (by have := HBd.out.size; show w.heap.size ≤ m; omega)) (by have := HBd.out.size; show w.heap.size ≤ m; omega)⟩
          have HSz : Aside0 (((w8.setCell ⟨m, 0, none⟩ (.string sv)).setCell ⟨m, 1, none⟩ (.slice av nv cv)).heap[q]? = some (.cells #[.slice (some ad) X.length c] 43 (0, 0))) := ⟨(Below.heap_setCell _ ⟨m, 1, none⟩ _ q (show q ≠ m by omega)).trans ((Below.heap_setCell w8 ⟨m, 0, none⟩ _ q (show q ≠ m by omega)).trans ((hb8.block q hpq.2).trans HSd.out))⟩
          have HXz : Aside0 (((w8.setCell ⟨m, 0, none⟩ (.string sv)).setCell ⟨m, 1, none⟩ (.slice av nv cv)).heap[p]? = some (.cells #[.string T.f0, .slice A1 T.f1.length c1] 53 (0, 0))) := ⟨(Below.heap_setCell _ ⟨m, 1, none⟩ _ p (show p ≠ m by omega)).trans ((Below.heap_setCell w8 ⟨m, 0, none⟩ _ p (show p ≠ m by omega)).trans ((hb8.block p hpq.1).trans HXd.out))⟩
          obtain ⟨wz, hwz⟩ : ∃ wz, (w8.setCell ⟨m, 0, none⟩ (.string sv)).setCell ⟨m, 1, none⟩ (.slice av nv cv) = wz := ⟨_, rfl⟩
          rw [hwz] at HBz HSz HXz ⊢
          clear hwz hpq hb8 hm8 hz8 fz0 fz1 cz0 cz1 HBd HSd HXd hcall
          have t5 := blk_cell HXz.out 0
          have t6 := blk_cell HXz.out 1
          by_cases h12 : 12 < T.f1.length
          · have HR : Aside0 (countX X = (13, T.f0)) := ⟨by rw [HR1.out, if_pos h12]⟩
            have d1 : decide ((12 : Int) < (T.f1.length : Int)) = true := decide_eq_true (by omega)
            have d2 : ((12 : Int) < (T.f1.length : Int)) = True := eq_true (by omega)
            have d3 : decide (12 < T.f1.length) = true := decide_eq_true h12
            clear h12
            go_wp2_with fail
            go_quiet (fail)
            have HBq : Aside0 (Below w.heap.size w (wz.drewN nq)) := ⟨pw_below_drewN HBz.out nq⟩
            obtain ⟨wq, hwq⟩ : ∃ wq, wz.drewN nq = wq := ⟨_, rfl⟩
            rw [hwq] at HBq ⊢
            clear hwq
            go_wp2_with fail
            go_ret2
            exact ⟨by rw [HR.out]; rfl, HBq.out⟩
          have HR2 : Aside0 (countX X = (relF T T.f1 0).getD (countF X (X.drop (i + 1)) (i + 1))) := ⟨by rw [HR1.out, if_neg h12]⟩
          have d1 : decide ((12 : Int) < (T.f1.length : Int)) = false := decide_eq_false (by omega)
          have d2 : ((12 : Int) < (T.f1.length : Int)) = False := eq_false (by omega)
          have d3 : decide (12 < T.f1.length) = false := decide_eq_false h12
          clear h12
          go_wp2_with fail
          clear d1 d2 d3 t5 t6
          go_loopg [45] (T.f1.length + 1) (fun gg s45 wy => ∃ k : Nat, s45 = .int .i64 k ∧ k + gg = T.f1.length + 1 ∧ k ≤ T.f1.length ∧ Aside0 (relF T T.f1 0 = relF T (T.f1.drop k) k) ∧ Aside0 (Below w.heap.size w wy) ∧ Aside0 (wy.heap[q]? = some (.cells #[.slice (some ad) X.length c] 43 (0, 0))) ∧ Aside0 (wy.heap[p]? = some (.cells #[.string T.f0, .slice A1 T.f1.length c1] 53 (0, 0))))
          case atStart => exact ⟨0, rfl, by omega, Nat.zero_le _, ⟨rfl⟩, HBz, HSz, HXz⟩
          case round =>
            clear HBz HSz HXz
            obtain ⟨k, rfl, hk, hkl, HIk, HBy, HSy, HXy⟩ := hrel
            rename World => wy
            cases gk with
            | zero => omega
            | succ g2 =>
              by_cases hkt : k < T.f1.length
              · have f1 : decide ((k : Int) < (T.f1.length : Int)) = true := decide_eq_true (by omega)
                have f2 : ((k : Int) < (T.f1.length : Int)) = True := eq_true (by omega)
                have f3 : decide (k < T.f1.length) = true := decide_eq_true hkt
                have f4 : (0 ≤ (k : Int)) = True := eq_true (by omega)
                have f5 : decide ((k : Int) < 0) = false := decide_eq_false (by omega)
                have f6 : ((k : Int) < 0) = False := eq_false (by omega)
                have f7 : ((k : Int) ≤ (c1 : Int)) = True := eq_true (by have := HL1.out; omega)
                have f8 : (k ≤ c1) = True := eq_true (by have := HL1.out; omega)
                obtain ⟨R, hR⟩ : ∃ R, rd_T57 T.f1 (k : Int) = R := ⟨_, rfl⟩
                have hxk : T.f1[k] = R := by rw [← hR]; unfold rd_T57; rw [Int.toNat_natCast, List.getD_eq_getElem?_getD, List.getElem?_eq_getElem hkt]; rfl
                have HZR : Aside0 (T.f0.size + R.f0.size + 1 ≤ 9223372036854775807) := ⟨HZT.out R (by rw [← hxk]; exact List.getElem_mem hkt)⟩
                obtain ⟨ad1, A2, c2, A3, c3, rfl, r0, r1, r2, r3, r4, r5, r6, hC2, r7, hC3⟩ := at_T57 HC1.out (k : Int) (by omega) (by omega)
                rw [hR, Int.toNat_natCast] at r0 r1 r2 r3 r4 r5
                rw [hR] at r7
                replace r0 := pw_cell_below (bel2 HB0.out HBy.out) r0
                replace r1 := pw_cell_below (bel2 HB0.out HBy.out) r1
                replace r2 := pw_cell_below (bel2 HB0.out HBy.out) r2
                replace r3 := pw_cell_below (bel2 HB0.out HBy.out) r3
                replace r4 := pw_cell_below (bel2 HB0.out HBy.out) r4
                replace r5 := pw_cell_below (bel2 HB0.out HBy.out) r5
                have HDK := Aside0.mk (List.drop_eq_getElem_cons hkt)
                rw [hxk] at HDK
                have hwk : IntKind.i64.wrap ((k : Int) + 1) = ((k + 1 : Nat) : Int) := by have := HM1.out; rw [IntKind.wrap_i64]; omega
                have HK := Aside0.mk (And.intro hk (And.intro hkl hkt))
                obtain ⟨w9, e9, h9, b9, z9, k9⟩ := al1 wy #[.string R.f0, .string R.f1, .string R.f2, .string R.f3, .slice A2 R.f4.length c2, .slice A3 R.f5.length c3] 57
                have HY9 := Aside0.mk h9
                have HX9 := Aside0.mk (k9 _ _ HXy.out)
                have HS9 := Aside0.mk (k9 _ _ HSy.out)
                have HB9 := Aside0.mk (bel2 HBy.out b9)
                have HW := Aside0.mk e9
                clear hR hk hkl hxk hkt h9 b9 z9 k9 e9 r6 r7 hC2 hC3
                go_upto_region 14 with (fail)
                rw [HW.out]
                obtain ⟨y, hy⟩ : ∃ y, wy.heap.size = y := ⟨_, rfl⟩
                rw [hy] at HY9 ⊢
                clear HW hy r0 r1 r2 r3 r4 r5 HSy HXy HBy
                have HBe : Aside0 (Below w.heap.size w w9.drew) := ⟨HB9.out.drew⟩
                have HSe : Aside0 (w9.drew.heap[q]? = some (.cells #[.slice (some ad) X.length c] 43 (0, 0))) := ⟨HS9.out⟩
                have HXe : Aside0 (w9.drew.heap[p]? = some (.cells #[.string T.f0, .slice (some ad1) T.f1.length c1] 53 (0, 0))) := ⟨HX9.out⟩
                have HYe : Aside0 (w9.drew.heap[y]? = some (.cells #[.string R.f0, .string R.f1, .string R.f2, .string R.f3, .slice A2 R.f4.length c2, .slice A3 R.f5.length c3] 57 (0, 0))) := ⟨HY9.out⟩
                have hcall2 := has_calls (T.f1.take k) ⟨#[]⟩ R.f0 (some ad1) c1 w9.drew (Kd.C_take (Kd.C_below HC1.out (bel2 HB0.out HBe.out)) (by have := HK.out; omega))
                rw [List.length_take_of_le (by have := HK.out; omega : k ≤ T.f1.length)] at hcall2
                clear HB9 HS9 HX9 HY9
                cases hh : hasR (T.f1.take k) R.f0 with
                | true =>
                  rw [hh] at hcall2
                  have HR : Aside0 (countX X = (32, pathX T R)) := ⟨by rw [HR2.out, HIk.out, HDK.out, relF, if_pos hh]; rfl⟩
                  clear hh
                  refine start_ (n := 8) (S := fun w' => w'.cell? ⟨p, 1, none⟩ = some (.slice (some ad1) T.f1.length c1) ∧ w'.cell? ⟨y, 0, none⟩ = some (.string R.f0)) (ds := []) #[false, false, false, false, false, false, false, false] (by kernel_rfl) rfl rfl ⟨blk_cell HXe.out 1, blk_cell HYe.out 0⟩ (fun hHeld => ?_)
                  generalize w9.drew = w10 at HBe HSe HXe HYe hcall2 hHeld ⊢
                  refine pure_ (i := 0) (N := some 50) (v := ?_) (a' := ?_) #[true, false, false, false, false, false, false, false] rfl rfl (by kernel_rfl) (fun _ _ _ h => h) (Or.inl ⟨by rfl, ?_⟩) ?_ ?_
                  rotate_left
                  · intro w'
                    go_simp
                    with_reducible rfl
                  rotate_left
                  · simp only [Act.put, List.setIfInBounds_toArray, List.set_cons_zero, List.set_cons_succ, i64_w, i32_w]
                    rfl
                  refine pure_ (i := 2) (N := some 52) (v := ?_) (a' := ?_) #[true, false, true, false, false, false, false, false] rfl rfl (by kernel_rfl) (fun _ _ _ h => h) (Or.inl ⟨by rfl, ?_⟩) ?_ ?_
                  rotate_left
                  · intro w'
                    go_simp
                    with_reducible rfl
                  rotate_left
                  · simp only [Act.put, List.setIfInBounds_toArray, List.set_cons_zero, List.set_cons_succ, i64_w, i32_w]
                    rfl
                  refine pure_ (i := 5) (N := some 55) (v := ?_) (a' := ?_) #[true, false, true, false, false, true, false, false] rfl rfl (by kernel_rfl) (fun _ _ _ h => h) (Or.inl ⟨by rfl, ?_⟩) ?_ ?_
                  rotate_left
                  · intro w'
                    go_simp
                    with_reducible rfl
                  rotate_left
                  · simp only [Act.put, List.setIfInBounds_toArray, List.set_cons_zero, List.set_cons_succ, i64_w, i32_w]
                    rfl
                  refine take_ (i := 1) (N := some 51) (v := ?_) (a' := ?_) #[true, true, true, false, false, true, false, false] rfl rfl (by kernel_rfl) (fun _ _ _ h => h) (Or.inl ⟨by rfl, ?_⟩) hHeld ?_ ?_
                  rotate_left
                  · rintro w' ⟨s0, s1⟩
                    go_simp
                    with_reducible rfl
                  rotate_left
                  · simp only [Act.put, List.setIfInBounds_toArray, List.set_cons_zero, List.set_cons_succ, i64_w, i32_w]
                    rfl
                  refine pure_ (i := 3) (N := some 53) (v := ?_) (a' := ?_) #[true, true, true, true, false, true, false, false] rfl rfl (by kernel_rfl) (fun _ _ _ h => h) (Or.inl ⟨by rfl, ?_⟩) ?_ ?_
                  rotate_left
                  · intro w'
                    go_simp
                    with_reducible rfl
                  rotate_left
                  · simp only [Act.put, List.setIfInBounds_toArray, List.set_cons_zero, List.set_cons_succ, i64_w, i32_w]
                    rfl
                  refine pure_ (i := 4) (N := some 54) (v := ?_) (a' := ?_) #[true, true, true, true, true, true, false, false] rfl rfl (by kernel_rfl) (fun _ _ _ h => h) (Or.inl ⟨by rfl, ?_⟩) ?_ ?_
                  rotate_left
                  · intro w'
                    go_simp
                    with_reducible rfl
                  rotate_left
                  · simp only [Act.put, List.setIfInBounds_toArray, List.set_cons_zero, List.set_cons_succ, i64_w, i32_w]
                    rfl
                  refine take_ (i := 6) (N := some 56) (v := ?_) (a' := ?_) #[true, true, true, true, true, true, true, false] rfl rfl (by kernel_rfl) (fun _ _ _ h => h) (Or.inl ⟨by rfl, ?_⟩) hHeld ?_ ?_
                  rotate_left
                  · rintro w' ⟨s0, s1⟩
                    go_simp
                    with_reducible rfl
                  rotate_left
                  · simp only [Act.put, List.setIfInBounds_toArray, List.set_cons_zero, List.set_cons_succ, i64_w, i32_w]
                    rfl
                  refine one_ (i := 7) (N := some 57) #[true, true, true, true, true, true, true, true] rfl rfl (by kernel_rfl) (by decide) (fun K hK => ?_)
                  refine goes_ Tryd.func76 (by kernel_rfl) rfl #[.agg #[.string ⟨#[]⟩, .slice (some ad1) k c1], .string R.f0] (by rfl) rfl rfl (by simp only [List.map_toArray, List.map_cons, List.map_nil]; rfl) ?_
                  refine hcall2.mono ?_
                  rintro e w11 ⟨rfl, hb11⟩
                  refine ⟨_, rfl, ?_⟩
                  refine hK.out _ _ ⟨pw_cell_below hb11 hHeld.1, pw_cell_below hb11 hHeld.2⟩ (fun hHeld => ?_)
                  clear hK K
                  refine norm_ (a' := ?_) ?_ ?_
                  rotate_left
                  · show Act.put _ (some 57) _ = _
                    simp only [Act.put, List.setIfInBounds_toArray, List.set_cons_zero, List.set_cons_succ, i64_w, i32_w]
                    rfl
                  refine done_ (by kernel_rfl) ?_
                  have HBf := Aside0.mk (bel2 HBe.out hb11)
                  have HSf := Aside0.mk ((hb11.block q (blk_lt HSe.out)).trans HSe.out)
                  have HXf := Aside0.mk ((hb11.block p (blk_lt HXe.out)).trans HXe.out)
                  have HYf := Aside0.mk ((hb11.block y (blk_lt HYe.out)).trans HYe.out)
                  clear hb11 HBe HSe HXe HYe
                  have t0 := blk_cell HXf.out 0
                  have t1 := blk_cell HXf.out 1
                  have y0 := blk_cell HYf.out 0
                  have y1 := blk_cell HYf.out 1
                  have y2 := blk_cell HYf.out 2
                  have y3 := blk_cell HYf.out 3
                  have y4 := blk_cell HYf.out 4
                  have y5 := blk_cell HYf.out 5
                  go_wp2_with fail
                  refine (path_calls T R (some ad1) A2 A3 c1 c2 c3 w11 HZR.out).mono ?_
                  rintro e w12 ⟨rfl, hb12⟩
                  go_wp2
                  go_ret2
                  exact ⟨by rw [HR.out]; rfl, bel2 HBf.out hb12⟩
                | false =>
                  rw [hh] at hcall2
                  have HRa : Aside0 (relF T T.f1 0 = if 16 < R.f5.length then some (13, pathX T R) else relF T (T.f1.drop (k + 1)) (k + 1)) := ⟨by rw [HIk.out, HDK.out, relF, if_neg (by rw [hh]; decide)]⟩
                  clear hh
                  refine start_ (n := 8) (S := fun w' => w'.cell? ⟨p, 1, none⟩ = some (.slice (some ad1) T.f1.length c1) ∧ w'.cell? ⟨y, 0, none⟩ = some (.string R.f0)) (ds := []) #[false, false, false, false, false, false, false, false] (by kernel_rfl) rfl rfl ⟨blk_cell HXe.out 1, blk_cell HYe.out 0⟩ (fun hHeld => ?_)
                  generalize w9.drew = w10 at HBe HSe HXe HYe hcall2 hHeld ⊢
                  refine pure_ (i := 0) (N := some 50) (v := ?_) (a' := ?_) #[true, false, false, false, false, false, false, false] rfl rfl (by kernel_rfl) (fun _ _ _ h => h) (Or.inl ⟨by rfl, ?_⟩) ?_ ?_
                  rotate_left
                  · intro w'
                    go_simp
                    with_reducible rfl
                  rotate_left
                  · simp only [Act.put, List.setIfInBounds_toArray, List.set_cons_zero, List.set_cons_succ, i64_w, i32_w]
                    rfl
                  refine pure_ (i := 2) (N := some 52) (v := ?_) (a' := ?_) #[true, false, true, false, false, false, false, false] rfl rfl (by kernel_rfl) (fun _ _ _ h => h) (Or.inl ⟨by rfl, ?_⟩) ?_ ?_
                  rotate_left
                  · intro w'
                    go_simp
                    with_reducible rfl
                  rotate_left
                  · simp only [Act.put, List.setIfInBounds_toArray, List.set_cons_zero, List.set_cons_succ, i64_w, i32_w]
                    rfl
                  refine pure_ (i := 5) (N := some 55) (v := ?_) (a' := ?_) #[true, false, true, false, false, true, false, false] rfl rfl (by kernel_rfl) (fun _ _ _ h => h) (Or.inl ⟨by rfl, ?_⟩) ?_ ?_
                  rotate_left
                  · intro w'
                    go_simp
                    with_reducible rfl
                  rotate_left
                  · simp only [Act.put, List.setIfInBounds_toArray, List.set_cons_zero, List.set_cons_succ, i64_w, i32_w]
                    rfl
                  refine take_ (i := 1) (N := some 51) (v := ?_) (a' := ?_) #[true, true, true, false, false, true, false, false] rfl rfl (by kernel_rfl) (fun _ _ _ h => h) (Or.inl ⟨by rfl, ?_⟩) hHeld ?_ ?_
                  rotate_left
                  · rintro w' ⟨s0, s1⟩
                    go_simp
                    with_reducible rfl
                  rotate_left
                  · simp only [Act.put, List.setIfInBounds_toArray, List.set_cons_zero, List.set_cons_succ, i64_w, i32_w]
                    rfl
                  refine pure_ (i := 3) (N := some 53) (v := ?_) (a' := ?_) #[true, true, true, true, false, true, false, false] rfl rfl (by kernel_rfl) (fun _ _ _ h => h) (Or.inl ⟨by rfl, ?_⟩) ?_ ?_
                  rotate_left
                  · intro w'
                    go_simp
                    with_reducible rfl
                  rotate_left
                  · simp only [Act.put, List.setIfInBounds_toArray, List.set_cons_zero, List.set_cons_succ, i64_w, i32_w]
                    rfl
                  refine pure_ (i := 4) (N := some 54) (v := ?_) (a' := ?_) #[true, true, true, true, true, true, false, false] rfl rfl (by kernel_rfl) (fun _ _ _ h => h) (Or.inl ⟨by rfl, ?_⟩) ?_ ?_
                  rotate_left
                  · intro w'
                    go_simp
                    with_reducible rfl
                  rotate_left
                  · simp only [Act.put, List.setIfInBounds_toArray, List.set_cons_zero, List.set_cons_succ, i64_w, i32_w]
                    rfl
                  refine take_ (i := 6) (N := some 56) (v := ?_) (a' := ?_) #[true, true, true, true, true, true, true, false] rfl rfl (by kernel_rfl) (fun _ _ _ h => h) (Or.inl ⟨by rfl, ?_⟩) hHeld ?_ ?_
                  rotate_left
                  · rintro w' ⟨s0, s1⟩
                    go_simp
                    with_reducible rfl
                  rotate_left
                  · simp only [Act.put, List.setIfInBounds_toArray, List.set_cons_zero, List.set_cons_succ, i64_w, i32_w]
                    rfl
                  refine one_ (i := 7) (N := some 57) #[true, true, true, true, true, true, true, true] rfl rfl (by kernel_rfl) (by decide) (fun K hK => ?_)
                  refine goes_ Tryd.func76 (by kernel_rfl) rfl #[.agg #[.string ⟨#[]⟩, .slice (some ad1) k c1], .string R.f0] (by rfl) rfl rfl (by simp only [List.map_toArray, List.map_cons, List.map_nil]; rfl) ?_
                  refine hcall2.mono ?_
                  rintro e w11 ⟨rfl, hb11⟩
                  refine ⟨_, rfl, ?_⟩
                  refine hK.out _ _ ⟨pw_cell_below hb11 hHeld.1, pw_cell_below hb11 hHeld.2⟩ (fun hHeld => ?_)
                  clear hK K
                  refine norm_ (a' := ?_) ?_ ?_
                  rotate_left
                  · show Act.put _ (some 57) _ = _
                    simp only [Act.put, List.setIfInBounds_toArray, List.set_cons_zero, List.set_cons_succ, i64_w, i32_w]
                    rfl
                  refine done_ (by kernel_rfl) ?_
                  have HBf := Aside0.mk (bel2 HBe.out hb11)
                  have HSf := Aside0.mk ((hb11.block q (blk_lt HSe.out)).trans HSe.out)
                  have HXf := Aside0.mk ((hb11.block p (blk_lt HXe.out)).trans HXe.out)
                  have HYf := Aside0.mk ((hb11.block y (blk_lt HYe.out)).trans HYe.out)
                  clear hb11 HBe HSe HXe HYe
                  by_cases h16 : 16 < R.f5.length
                  · have HR : Aside0 (countX X = (13, pathX T R)) := ⟨by rw [HR2.out, HRa.out, if_pos h16]; rfl⟩
                    have g1' : decide ((16 : Int) < (R.f5.length : Int)) = true := decide_eq_true (by omega)
                    have g2' : ((16 : Int) < (R.f5.length : Int)) = True := eq_true (by omega)
                    have g3' : decide (16 < R.f5.length) = true := decide_eq_true h16
                    clear h16
                    have t0 := blk_cell HXf.out 0
                    have t1 := blk_cell HXf.out 1
                    have y0 := blk_cell HYf.out 0
                    have y1 := blk_cell HYf.out 1
                    have y2 := blk_cell HYf.out 2
                    have y3 := blk_cell HYf.out 3
                    have y4 := blk_cell HYf.out 4
                    have y5 := blk_cell HYf.out 5
                    go_wp2_with fail
                    refine (path_calls T R (some ad1) A2 A3 c1 c2 c3 w11 HZR.out).mono ?_
                    rintro e w12 ⟨rfl, hb12⟩
                    go_wp2
                    go_ret2
                    exact ⟨by rw [HR.out]; rfl, bel2 HBf.out hb12⟩
                  · have HR : Aside0 (relF T T.f1 0 = relF T (T.f1.drop (k + 1)) (k + 1)) := ⟨by rw [HRa.out, if_neg h16]⟩
                    have g1' : decide ((16 : Int) < (R.f5.length : Int)) = false := decide_eq_false (by omega)
                    have g2' : ((16 : Int) < (R.f5.length : Int)) = False := eq_false (by omega)
                    have g3' : decide (16 < R.f5.length) = false := decide_eq_false h16
                    have y5 := blk_cell HYf.out 5
                    clear h16
                    go_wp2_with fail
                    go_roundg g2
                    case measure => omega
                    case rel => exact ⟨k + 1, by simp, by have := HK.out; omega, HK.out.2.2, HR, HBf, HSf, HXf⟩
              · have f1 : decide ((k : Int) < (T.f1.length : Int)) = false := decide_eq_false (by omega)
                have f2 : ((k : Int) < (T.f1.length : Int)) = False := eq_false (by omega)
                have f3 : decide (k < T.f1.length) = false := decide_eq_false hkt
                have HR : Aside0 (countX X = countF X (X.drop (i + 1)) (i + 1)) := ⟨by rw [HR2.out, HIk.out, List.drop_eq_nil_of_le (by omega), relF]; rfl⟩
                clear hkt hk hkl
                go_wp2_with fail
                go_roundg g1
                case measure => omega
                case rel => exact ⟨i + 1, by simp, by have := HJ.out; omega, HJ.out.2.2, HR, HBy, HSy⟩
      · have e1 : decide ((i : Int) < (X.length : Int)) = false := decide_eq_false (by omega)
        have e2 : ((i : Int) < (X.length : Int)) = False := eq_false (by omega)
        have e3 : decide (i < X.length) = false := decide_eq_false hlt
        have HR : Aside0 (countX X = (0, ⟨#[]⟩)) := ⟨by rw [HI.out, List.drop_eq_nil_of_le (by omega), countF]⟩
        clear hlt hi hil
        go_wp2
        go_ret2
        exact ⟨by rw [HR.out]; rfl, HBr.out⟩
set_option maxHeartbeats 16000000 in
set_option maxRecDepth 100000 in
theorem Check_calls (X : List ST) (A : Option Addr) (c : Nat) (w0 w : World) (hB0 : Below w0.heap.size w0 w) (hC : Kd.C k53 w0 A X.length X) (hl : X.length ≤ c) (hz : ∀ t ∈ X, ∀ r ∈ t.f1, t.f0.size + r.f0.size + 1 ≤ 9223372036854775807) :
    Calls Tryd.prog 41 #[.agg #[.slice A X.length c]] w fun e w' => e = .returned (.tuple #[.int .i64 (checkX X).1, .string (checkX X).2]) ∧ Below w.heap.size w w' := by
  have HC := Aside0.mk hC
  have HZ := Aside0.mk hz
  have HB0 := Aside0.mk hB0
  have HL := Aside0.mk hl
  have HM : Aside0 (X.length ≤ 9223372036854775807) := ⟨Kd.C_max hC⟩
  obtain ⟨w1, e1, h1, b1, z1, k1⟩ := al1 w #[.slice A X.length c] 43
  have H1 := Aside0.mk h1
  have HB := Aside0.mk b1
  have HW := Aside0.mk e1
  have hcall := counts_calls X A c w0 w1 (bel2 hB0 b1) hC hl hz
  clear hC hz hB0 hl h1 b1 z1 k1 e1
  go_enter Tryd.func41, Tryd.ntmps41
  go_wp2_with fail
  go_step3
  go_upto_region 1 with (fail)
  rw [HW.out]
  obtain ⟨q, hq⟩ : ∃ q, w.heap.size = q := ⟨_, rfl⟩
  have HQ := Aside0.mk hq
  rw [hq] at H1 ⊢
  clear HW hq
  have t0 := blk_cell H1.out 0
  obtain ⟨cx, hcx⟩ : ∃ cx, countX X = cx := ⟨_, rfl⟩
  rw [hcx] at hcall
  by_cases h0 : cx.1 = 0
  · have HR0 : Aside0 (checkX X = typeN X X) := ⟨by unfold checkX; rw [if_neg (by rw [hcx]; exact fun h => h h0)]⟩
    obtain rfl : cx = (0, ⟨#[]⟩) := by rw [← hcx] at h0 ⊢; exact countX_zero h0
    clear hcx h0
    go_wp2_with fail
    refine hcall.mono ?_
    rintro e w2 ⟨rfl, hbx⟩
    have HS2 := Aside0.mk ((hbx.block q (blk_lt H1.out)).trans H1.out)
    have HB2 := Aside0.mk (bel2 HB.out hbx)
    clear hbx t0 H1 HB
    have t0 := blk_cell HS2.out 0
    go_wp2_with fail
    go_step3
    go_wp2_with fail
    clear t0
    go_loopg [2, 3, 23] (X.length + 1) (fun gg s2 s3 s23 wr => ∃ i : Nat, s2 = .int .i64 0 ∧ s3 = .string ⟨#[]⟩ ∧ s23 = .int .i64 i ∧ i + gg = X.length + 1 ∧ i ≤ X.length ∧ Aside0 (checkX X = typeN X (X.drop i)) ∧ Aside0 (Below w.heap.size w wr) ∧ Aside0 (wr.heap[q]? = some (.cells #[.slice A X.length c] 43 (0, 0))))
    case atStart => exact ⟨0, rfl, rfl, rfl, by omega, Nat.zero_le _, HR0, HB2, HS2⟩
    case round =>
      clear HB2 HS2
      obtain ⟨i, rfl, rfl, rfl, hi, hil, HI, HB1, HS1⟩ := hrel
      rename World => wr
      cases gk with
      | zero => omega
      | succ g1 =>
        by_cases hlt : i < X.length
        · have e1 : decide ((i : Int) < (X.length : Int)) = true := decide_eq_true (by omega)
          have e2 : ((i : Int) < (X.length : Int)) = True := eq_true (by omega)
          have e3 : decide (i < X.length) = true := decide_eq_true hlt
          have e4 : (0 ≤ (i : Int)) = True := eq_true (by omega)
          have e5 : decide ((i : Int) < 0) = false := decide_eq_false (by omega)
          have e6 : ((i : Int) < 0) = False := eq_false (by omega)
          obtain ⟨T, hT⟩ : ∃ T, rd_T53 X (i : Int) = T := ⟨_, rfl⟩
          have hxi : X[i] = T := by rw [← hT]; unfold rd_T53; rw [Int.toNat_natCast, List.getD_eq_getElem?_getD, List.getElem?_eq_getElem hlt]; rfl
          have HZT : Aside0 (∀ r ∈ T.f1, T.f0.size + r.f0.size + 1 ≤ 9223372036854775807) := ⟨HZ.out T (by rw [← hxi]; exact List.getElem_mem hlt)⟩
          obtain ⟨ad, A1, c1, rfl, r0, r1, r2, hC1⟩ := at_T53 HC.out (i : Int) (by omega) (by omega)
          rw [hT] at r0 r1 r2 hC1
          rw [Int.toNat_natCast] at r0 r1
          replace r0 := pw_cell_below (bel2 HB0.out HB1.out) r0
          replace r1 := pw_cell_below (bel2 HB0.out HB1.out) r1
          have HC1 := Aside0.mk hC1
          have HM1 : Aside0 (T.f1.length ≤ 9223372036854775807) := ⟨Kd.C_max hC1⟩
          have HDR := Aside0.mk (List.drop_eq_getElem_cons hlt)
          rw [hxi] at HDR
          have HR2 : Aside0 (checkX X = (relN X T T.f1).getD (typeN X (X.drop (i + 1)))) := ⟨by rw [HI.out, HDR.out, typeN]⟩
          have hw : IntKind.i64.wrap ((i : Int) + 1) = ((i + 1 : Nat) : Int) := by have := HM.out; rw [IntKind.wrap_i64]; omega
          have HJ := Aside0.mk (And.intro hi (And.intro hil hlt))
          obtain ⟨w2, e2', h2, b2, z2, k2⟩ := al1 wr #[.string T.f0, .slice A1 T.f1.length c1] 53
          have HX2 := Aside0.mk h2
          have HS2 := Aside0.mk (k2 _ _ HS1.out)
          have HB2 := Aside0.mk (bel2 HB1.out b2)
          have HW := Aside0.mk e2'
          clear hT hi hil hxi hlt h2 b2 z2 k2 e2' hC1 r2 hcall
          go_upto_region 7 with (fail)
          rw [HW.out]
          obtain ⟨p, hp⟩ : ∃ p, wr.heap.size = p := ⟨_, rfl⟩
          rw [hp] at HX2 ⊢
          clear HW hp r0 r1 HS1 HB1
          have t1 := blk_cell HX2.out 1
          go_wp2_with fail
          clear t1
          go_loopg [2, 3, 30] (T.f1.length + 1) (fun gg s2 s3 s30 wy => ∃ k : Nat, s2 = .int .i64 0 ∧ s3 = .string ⟨#[]⟩ ∧ s30 = .int .i64 k ∧ k + gg = T.f1.length + 1 ∧ k ≤ T.f1.length ∧ Aside0 (relN X T T.f1 = relN X T (T.f1.drop k)) ∧ Aside0 (Below w.heap.size w wy) ∧ Aside0 (wy.heap[q]? = some (.cells #[.slice (some ad) X.length c] 43 (0, 0))) ∧ Aside0 (wy.heap[p]? = some (.cells #[.string T.f0, .slice A1 T.f1.length c1] 53 (0, 0))))
          case atStart => exact ⟨0, rfl, rfl, rfl, by omega, Nat.zero_le _, ⟨rfl⟩, HB2, HS2, HX2⟩
          case round =>
            clear HB2 HS2 HX2
            obtain ⟨k, rfl, rfl, rfl, hk, hkl, HIk, HB3, HS3, HX3⟩ := hrel
            rename World => wy
            cases gk with
            | zero => omega
            | succ g2 =>
              by_cases hkt : k < T.f1.length
              · have f1 : decide ((k : Int) < (T.f1.length : Int)) = true := decide_eq_true (by omega)
                have f2 : ((k : Int) < (T.f1.length : Int)) = True := eq_true (by omega)
                have f3 : decide (k < T.f1.length) = true := decide_eq_true hkt
                have f4 : (0 ≤ (k : Int)) = True := eq_true (by omega)
                have f5 : decide ((k : Int) < 0) = false := decide_eq_false (by omega)
                have f6 : ((k : Int) < 0) = False := eq_false (by omega)
                obtain ⟨R, hR⟩ : ∃ R, rd_T57 T.f1 (k : Int) = R := ⟨_, rfl⟩
                have hxk : T.f1[k] = R := by rw [← hR]; unfold rd_T57; rw [Int.toNat_natCast, List.getD_eq_getElem?_getD, List.getElem?_eq_getElem hkt]; rfl
                have HZR : Aside0 (T.f0.size + R.f0.size + 1 ≤ 9223372036854775807) := ⟨HZT.out R (by rw [← hxk]; exact List.getElem_mem hkt)⟩
                obtain ⟨ad1, A2, c2, A3, c3, rfl, r0, r1, r2, r3, r4, r5, r6, hC2, r7, hC3⟩ := at_T57 HC1.out (k : Int) (by omega) (by omega)
                rw [hR, Int.toNat_natCast] at r0 r1 r2 r3 r4 r5
                rw [hR] at r6 r7 hC2 hC3
                replace r0 := pw_cell_below (bel2 HB0.out HB3.out) r0
                replace r1 := pw_cell_below (bel2 HB0.out HB3.out) r1
                replace r2 := pw_cell_below (bel2 HB0.out HB3.out) r2
                replace r3 := pw_cell_below (bel2 HB0.out HB3.out) r3
                replace r4 := pw_cell_below (bel2 HB0.out HB3.out) r4
                replace r5 := pw_cell_below (bel2 HB0.out HB3.out) r5
                have HC2 := Aside0.mk hC2
                have HC3 := Aside0.mk hC3
                have HL2 := Aside0.mk r6
                have HMR : Aside0 (R.f5.length ≤ 9223372036854775807) := ⟨Kd.C_max hC3⟩
                have HDK := Aside0.mk (List.drop_eq_getElem_cons hkt)
                rw [hxk] at HDK
                have hwk : IntKind.i64.wrap ((k : Int) + 1) = ((k + 1 : Nat) : Int) := by have := HM1.out; rw [IntKind.wrap_i64]; omega
                have HK := Aside0.mk (And.intro hk (And.intro hkl hkt))
                obtain ⟨w4, e9, h9, b9, z9, k9⟩ := al1 wy #[.string R.f0, .string R.f1, .string R.f2, .string R.f3, .slice A2 R.f4.length c2, .slice A3 R.f5.length c3] 57
                have HYv := Aside0.mk h9
                have HXv := Aside0.mk (k9 _ _ HX3.out)
                have HSv := Aside0.mk (k9 _ _ HS3.out)
                have HBv := Aside0.mk (bel2 HB3.out b9)
                have HW := Aside0.mk e9
                clear hR hk hkl hxk hkt h9 b9 z9 k9 e9 r6 r7 hC2 hC3
                go_upto_region 10 with (fail)
                rw [HW.out]
                obtain ⟨y, hy⟩ : ∃ y, wy.heap.size = y := ⟨_, rfl⟩
                rw [hy] at HYv ⊢
                clear HW hy r0 r1 r2 r3 r4 r5 HS3 HX3 HB3
                have t0 := blk_cell HXv.out 0
                have t1 := blk_cell HXv.out 1
                have y0 := blk_cell HYv.out 0
                have y1 := blk_cell HYv.out 1
                have y2 := blk_cell HYv.out 2
                have y3 := blk_cell HYv.out 3
                have y4 := blk_cell HYv.out 4
                have y5 := blk_cell HYv.out 5
                go_wp2_with fail
                refine (path_calls T R (some ad1) A2 A3 c1 c2 c3 w4 HZR.out).mono ?_
                rintro e wp ⟨rfl, hbx⟩
                clear t0 t1
                clear y0 y1 y2 y3 y4 y5
                have HS4 := Aside0.mk ((hbx.block q (blk_lt HSv.out)).trans HSv.out)
                have HX4 := Aside0.mk ((hbx.block p (blk_lt HXv.out)).trans HXv.out)
                have HY4 := Aside0.mk ((hbx.block y (blk_lt HYv.out)).trans HYv.out)
                have HB4 := Aside0.mk (bel2 HBv.out hbx)
                clear hbx HSv HXv HYv HBv
                have t0 := blk_cell HX4.out 0
                have t1 := blk_cell HX4.out 1
                have y0 := blk_cell HY4.out 0
                have y1 := blk_cell HY4.out 1
                have y2 := blk_cell HY4.out 2
                have y3 := blk_cell HY4.out 3
                have y4 := blk_cell HY4.out 4
                have y5 := blk_cell HY4.out 5
                have hcall := has_calls T.f1 T.f0 R.f1 (some ad1) c1 wp (Kd.C_below HC1.out (bel2 HB0.out HB4.out))
                cases hh1 : hasR T.f1 R.f1 with
                | false =>
                  have HR : Aside0 (checkX X = (31, pathX T R)) := ⟨by rw [HR2.out, HIk.out, HDK.out, relN, if_pos (by rw [hh1]; rfl)]; rfl⟩
                  rw [hh1] at hcall
                  clear hh1
                  go_wp2_with fail
                  refine hcall.mono ?_
                  rintro e w5 ⟨rfl, hbx⟩
                  have HB5 := Aside0.mk (bel2 HB4.out hbx)
                  clear hbx HB4
                  go_wp2_with fail
                  try rw [Exit.noGoto_ret]
                  go_ret2
                  exact ⟨by rw [HR.out]; rfl, HB5.out⟩
                | true =>
                  rw [hh1] at hcall
                  go_wp2_with fail
                  refine hcall.mono ?_
                  rintro e w5 ⟨rfl, hbx⟩
                  clear t0 t1
                  clear y0 y1 y2 y3 y4 y5
                  have HS5 := Aside0.mk ((hbx.block q (blk_lt HS4.out)).trans HS4.out)
                  have HX5 := Aside0.mk ((hbx.block p (blk_lt HX4.out)).trans HX4.out)
                  have HY5 := Aside0.mk ((hbx.block y (blk_lt HY4.out)).trans HY4.out)
                  have HB5 := Aside0.mk (bel2 HB4.out hbx)
                  clear hbx HS4 HX4 HY4 HB4
                  have t0 := blk_cell HX5.out 0
                  have t1 := blk_cell HX5.out 1
                  have y0 := blk_cell HY5.out 0
                  have y1 := blk_cell HY5.out 1
                  have y2 := blk_cell HY5.out 2
                  have y3 := blk_cell HY5.out 3
                  have y4 := blk_cell HY5.out 4
                  have y5 := blk_cell HY5.out 5
                  have hcall := has_calls T.f1 T.f0 R.f2 (some ad1) c1 w5 (Kd.C_below HC1.out (bel2 HB0.out HB5.out))
                  cases hh2 : hasR T.f1 R.f2 with
                  | false =>
                    have HR : Aside0 (checkX X = (31, pathX T R)) := ⟨by rw [HR2.out, HIk.out, HDK.out, relN, if_pos (by rw [hh1, hh2]; rfl)]; rfl⟩
                    rw [hh2] at hcall
                    clear hh1 hh2
                    go_wp2_with fail
                    refine hcall.mono ?_
                    rintro e w6 ⟨rfl, hbx⟩
                    have HB6 := Aside0.mk (bel2 HB5.out hbx)
                    clear hbx HB5
                    go_wp2_with fail
                    try rw [Exit.noGoto_ret]
                    go_ret2
                    exact ⟨by rw [HR.out]; rfl, HB6.out⟩
                  | true =>
                    rw [hh2] at hcall
                    go_wp2_with fail
                    refine hcall.mono ?_
                    rintro e w6 ⟨rfl, hbx⟩
                    clear t0 t1
                    clear y0 y1 y2 y3 y4 y5
                    have HS6 := Aside0.mk ((hbx.block q (blk_lt HS5.out)).trans HS5.out)
                    have HX6 := Aside0.mk ((hbx.block p (blk_lt HX5.out)).trans HX5.out)
                    have HY6 := Aside0.mk ((hbx.block y (blk_lt HY5.out)).trans HY5.out)
                    have HB6 := Aside0.mk (bel2 HB5.out hbx)
                    clear hbx HS5 HX5 HY5 HB5
                    have t0 := blk_cell HX6.out 0
                    have t1 := blk_cell HX6.out 1
                    have y0 := blk_cell HY6.out 0
                    have y1 := blk_cell HY6.out 1
                    have y2 := blk_cell HY6.out 2
                    have y3 := blk_cell HY6.out 3
                    have y4 := blk_cell HY6.out 4
                    have y5 := blk_cell HY6.out 5
                    have hcall := has_calls T.f1 T.f0 R.f3 (some ad1) c1 w6 (Kd.C_below HC1.out (bel2 HB0.out HB6.out))
                    cases hh3 : hasR T.f1 R.f3 with
                    | false =>
                      have HR : Aside0 (checkX X = (31, pathX T R)) := ⟨by rw [HR2.out, HIk.out, HDK.out, relN, if_pos (by rw [hh1, hh2, hh3]; rfl)]; rfl⟩
                      rw [hh3] at hcall
                      clear hh1 hh2 hh3
                      go_wp2_with fail
                      refine hcall.mono ?_
                      rintro e w7 ⟨rfl, hbx⟩
                      have HB7 := Aside0.mk (bel2 HB6.out hbx)
                      clear hbx HB6
                      go_wp2_with fail
                      try rw [Exit.noGoto_ret]
                      go_ret2
                      exact ⟨by rw [HR.out]; rfl, HB7.out⟩
                    | true =>
                      rw [hh3] at hcall
                      go_wp2_with fail
                      refine hcall.mono ?_
                      rintro e w7 ⟨rfl, hbx⟩
                      clear t0 t1
                      clear y0 y1 y2 y3 y4 y5
                      have HS7 := Aside0.mk ((hbx.block q (blk_lt HS6.out)).trans HS6.out)
                      have HX7 := Aside0.mk ((hbx.block p (blk_lt HX6.out)).trans HX6.out)
                      have HY7 := Aside0.mk ((hbx.block y (blk_lt HY6.out)).trans HY6.out)
                      have HB7 := Aside0.mk (bel2 HB6.out hbx)
                      clear hbx HS6 HX6 HY6 HB6
                      have t0 := blk_cell HX7.out 0
                      have t1 := blk_cell HX7.out 1
                      have y0 := blk_cell HY7.out 0
                      have y1 := blk_cell HY7.out 1
                      have y2 := blk_cell HY7.out 2
                      have y3 := blk_cell HY7.out 3
                      have y4 := blk_cell HY7.out 4
                      have y5 := blk_cell HY7.out 5
                      have HNo : Aside0 ((!hasR T.f1 R.f1 || !hasR T.f1 R.f2 || !hasR T.f1 R.f3) = false) := ⟨by rw [hh1, hh2, hh3]; rfl⟩
                      clear hh1 hh2 hh3
                      have s0 := blk_cell HS7.out 0
                      have hcall := subs_calls X R.f4 (some ad) A2 c c2 w0 w7 (bel2 HB0.out HB7.out) HC.out HC2.out HL2.out
                      obtain ⟨sx, hsx⟩ : ∃ sx, subsX X R.f4 = sx := ⟨_, rfl⟩
                      rw [hsx] at hcall
                      by_cases h0 : sx = 0
                      · have HSu : Aside0 (subsX X R.f4 = 0) := ⟨by rw [hsx, h0]⟩
                        have HR3 : Aside0 (checkX X = (if (R.f5.any fun o => !opX X T o) = true then some (31, pathX T R) else relN X T (T.f1.drop (k + 1))).getD (typeN X (X.drop (i + 1)))) := ⟨by rw [HR2.out, HIk.out, HDK.out, relN, if_neg (by rw [HNo.out]; decide), if_neg (by rw [HSu.out]; decide)]⟩
                        rw [h0] at hcall
                        clear hsx h0
                        go_wp2_with fail
                        refine hcall.mono ?_
                        rintro e w8 ⟨rfl, hbx⟩
                        clear s0 t0 t1
                        clear y0 y1 y2 y3 y4 y5
                        have HS8 := Aside0.mk ((hbx.block q (blk_lt HS7.out)).trans HS7.out)
                        have HX8 := Aside0.mk ((hbx.block p (blk_lt HX7.out)).trans HX7.out)
                        have HY8 := Aside0.mk ((hbx.block y (blk_lt HY7.out)).trans HY7.out)
                        have HB8 := Aside0.mk (bel2 HB7.out hbx)
                        clear hbx HS7 HX7 HY7 HB7
                        have y5 := blk_cell HY8.out 5
                        go_wp2_with fail
                        clear y5
                        go_loopg [66] (R.f5.length + 1) (fun gg s66 wv => ∃ m : Nat, s66 = .int .i64 m ∧ m + gg = R.f5.length + 1 ∧ m ≤ R.f5.length ∧ Aside0 ((R.f5.any fun o => !opX X T o) = ((R.f5.drop m).any fun o => !opX X T o)) ∧ Aside0 (Below w.heap.size w wv) ∧ Aside0 (wv.heap[q]? = some (.cells #[.slice (some ad) X.length c] 43 (0, 0))) ∧ Aside0 (wv.heap[p]? = some (.cells #[.string T.f0, .slice (some ad1) T.f1.length c1] 53 (0, 0))) ∧ Aside0 (wv.heap[y]? = some (.cells #[.string R.f0, .string R.f1, .string R.f2, .string R.f3, .slice A2 R.f4.length c2, .slice A3 R.f5.length c3] 57 (0, 0))))
                        case atStart => exact ⟨0, rfl, by omega, Nat.zero_le _, ⟨rfl⟩, HB8, HS8, HX8, HY8⟩
                        case round =>
                          clear HB8 HS8 HX8 HY8
                          obtain ⟨m, rfl, hm, hml, HIm, HB9, HS9, HX9, HY9⟩ := hrel
                          rename World => wv
                          cases gk with
                          | zero => omega
                          | succ g3 =>
                            by_cases hmt : m < R.f5.length
                            · have j1 : decide ((m : Int) < (R.f5.length : Int)) = true := decide_eq_true (by omega)
                              have j2 : ((m : Int) < (R.f5.length : Int)) = True := eq_true (by omega)
                              have j3 : decide (m < R.f5.length) = true := decide_eq_true hmt
                              have j4 : (0 ≤ (m : Int)) = True := eq_true (by omega)
                              have j5 : decide ((m : Int) < 0) = false := decide_eq_false (by omega)
                              have j6 : ((m : Int) < 0) = False := eq_false (by omega)
                              obtain ⟨o, ho⟩ : ∃ o, rd_T59 R.f5 (m : Int) = o := ⟨_, rfl⟩
                              have hom : R.f5[m] = o := by rw [← ho]; unfold rd_T59; rw [Int.toNat_natCast, List.getD_eq_getElem?_getD, List.getElem?_eq_getElem hmt]; rfl
                              obtain ⟨ad3, rfl, o0, o1, o2⟩ := at_T59 HC3.out (m : Int) (by omega) (by omega)
                              rw [ho, Int.toNat_natCast] at o0 o1 o2
                              replace o0 := pw_cell_below (bel2 HB0.out HB9.out) o0
                              replace o1 := pw_cell_below (bel2 HB0.out HB9.out) o1
                              replace o2 := pw_cell_below (bel2 HB0.out HB9.out) o2
                              have HDM := Aside0.mk (List.drop_eq_getElem_cons hmt)
                              rw [hom] at HDM
                              have hwm : IntKind.i64.wrap ((m : Int) + 1) = ((m + 1 : Nat) : Int) := by have := HMR.out; rw [IntKind.wrap_i64]; omega
                              have HMm := Aside0.mk (And.intro hm (And.intro hml hmt))
                              obtain ⟨wo, eo, h9, b9, z9, k9⟩ := al1 wv #[.int .i64 o.f0, .string o.f1, .string o.f2] 59
                              have HO10 := Aside0.mk h9
                              have HY10 := Aside0.mk (k9 _ _ HY9.out)
                              have HX10 := Aside0.mk (k9 _ _ HX9.out)
                              have HS10 := Aside0.mk (k9 _ _ HS9.out)
                              have HB10 := Aside0.mk (bel2 HB9.out b9)
                              have HW := Aside0.mk eo
                              clear ho hm hml hom hmt h9 b9 z9 k9 eo
                              go_upto_region 18 with (fail)
                              rw [HW.out]
                              obtain ⟨z, hz⟩ : ∃ z, wv.heap.size = z := ⟨_, rfl⟩
                              rw [hz] at HO10 ⊢
                              clear HW hz o0 o1 o2 HS9 HX9 HY9 HB9
                              have s0 := blk_cell HS10.out 0
                              have t0 := blk_cell HX10.out 0
                              have t1 := blk_cell HX10.out 1
                              have o0 := blk_cell HO10.out 0
                              have o1 := blk_cell HO10.out 1
                              have o2 := blk_cell HO10.out 2
                              have hcall := op_calls X T o (some ad) (some ad1) c c1 w0 wo (bel2 HB0.out HB10.out) HC.out HC1.out
                              cases hop : opX X T o with
                              | false =>
                                have HR : Aside0 (checkX X = (31, pathX T R)) := ⟨by rw [HR3.out, if_pos (by rw [HIm.out, HDM.out, List.any_cons, hop]; rfl)]; rfl⟩
                                rw [hop] at hcall
                                clear hop
                                go_wp2_with fail
                                refine hcall.mono ?_
                                rintro e w11 ⟨rfl, hbx⟩
                                have HB11 := Aside0.mk (bel2 HB10.out hbx)
                                clear hbx HB10
                                go_wp2_with fail
                                try rw [Exit.noGoto_ret]
                                go_ret2
                                exact ⟨by rw [HR.out]; rfl, HB11.out⟩
                              | true =>
                                have HR : Aside0 ((R.f5.any fun o => !opX X T o) = ((R.f5.drop (m + 1)).any fun o => !opX X T o)) := ⟨by rw [HIm.out, HDM.out, List.any_cons, hop]; rfl⟩
                                rw [hop] at hcall
                                clear hop
                                go_wp2_with fail
                                refine hcall.mono ?_
                                rintro e w11 ⟨rfl, hbx⟩
                                clear s0 t0 t1 o0 o1 o2
                                have HS11 := Aside0.mk ((hbx.block q (blk_lt HS10.out)).trans HS10.out)
                                have HX11 := Aside0.mk ((hbx.block p (blk_lt HX10.out)).trans HX10.out)
                                have HY11 := Aside0.mk ((hbx.block y (blk_lt HY10.out)).trans HY10.out)
                                have HB11 := Aside0.mk (bel2 HB10.out hbx)
                                clear hbx HS10 HX10 HY10 HB10
                                go_wp2_with fail
                                go_roundg g3
                                case measure => omega
                                case rel => exact ⟨m + 1, by simp, by have := HMm.out; omega, HMm.out.2.2, HR, HB11, HS11, HX11, HY11⟩
                            · have j1 : decide ((m : Int) < (R.f5.length : Int)) = false := decide_eq_false (by omega)
                              have j2 : ((m : Int) < (R.f5.length : Int)) = False := eq_false (by omega)
                              have j3 : decide (m < R.f5.length) = false := decide_eq_false hmt
                              have HR : Aside0 (relN X T T.f1 = relN X T (T.f1.drop (k + 1))) := ⟨by rw [HIk.out, HDK.out, relN, if_neg (by rw [HNo.out]; decide), if_neg (by rw [HSu.out]; decide), if_neg (by rw [HIm.out, List.drop_eq_nil_of_le (by omega)]; exact Bool.false_ne_true)]⟩
                              clear hmt hm hml
                              go_wp2_with fail
                              go_roundg g2
                              case measure => omega
                              case rel => exact ⟨k + 1, rfl, rfl, by simp, by have := HK.out; omega, HK.out.2.2, HR, HB9, HS9, HX9⟩
                      · have HR : Aside0 (checkX X = (sx, pathX T R)) := ⟨by rw [HR2.out, HIk.out, HDK.out, relN, if_neg (by rw [HNo.out]; decide), if_pos (by rw [hsx]; exact h0), hsx]; rfl⟩
                        have n1 : (sx == 0) = false := by simpa using h0
                        have n2 : decide (sx = 0) = false := decide_eq_false h0
                        have n3 : (sx = 0) = False := eq_false h0
                        clear hsx
                        go_wp2_with fail
                        refine hcall.mono ?_
                        rintro e w8 ⟨rfl, hbx⟩
                        have HB8 := Aside0.mk (bel2 HB7.out hbx)
                        clear hbx HB7
                        go_wp2_with fail
                        try rw [Exit.noGoto_ret]
                        go_ret2
                        exact ⟨by rw [HR.out]; rfl, HB8.out⟩
              · have f1 : decide ((k : Int) < (T.f1.length : Int)) = false := decide_eq_false (by omega)
                have f2 : ((k : Int) < (T.f1.length : Int)) = False := eq_false (by omega)
                have f3 : decide (k < T.f1.length) = false := decide_eq_false hkt
                have HR : Aside0 (checkX X = typeN X (X.drop (i + 1))) := ⟨by rw [HR2.out, HIk.out, List.drop_eq_nil_of_le (by omega), relN]; rfl⟩
                clear hkt hk hkl
                go_wp2_with fail
                go_roundg g1
                case measure => omega
                case rel => exact ⟨i + 1, rfl, rfl, by simp, by have := HJ.out; omega, HJ.out.2.2, HR, HB3, HS3⟩
        · have e1 : decide ((i : Int) < (X.length : Int)) = false := decide_eq_false (by omega)
          have e2 : ((i : Int) < (X.length : Int)) = False := eq_false (by omega)
          have e3 : decide (i < X.length) = false := decide_eq_false hlt
          have HR : Aside0 (checkX X = (0, ⟨#[]⟩)) := ⟨by rw [HI.out, List.drop_eq_nil_of_le (by omega), typeN]⟩
          clear hlt hi hil
          go_wp2_with fail
          try rw [Exit.noGoto_ret]
          go_ret2
          exact ⟨by rw [HR.out]; rfl, HB1.out⟩
  · have HR : Aside0 (checkX X = cx) := ⟨by unfold checkX; rw [if_pos (by rw [hcx]; exact h0), hcx]⟩
    have n1 : (cx.1 == 0) = false := by simpa using h0
    have n2 : decide (cx.1 = 0) = false := decide_eq_false h0
    have n3 : (cx.1 = 0) = False := eq_false h0
    clear hcx
    go_wp2_with fail
    refine hcall.mono ?_
    rintro e w2 ⟨rfl, hbx⟩
    have HB2 := Aside0.mk (bel2 HB.out hbx)
    clear hbx
    go_wp2_with fail
    try rw [Exit.noGoto_ret]
    go_ret2
    exact ⟨by rw [HR.out]; rfl, HB2.out⟩
end Go.Proofs.YtkgnhghaiopgcaaDoor.Cx
