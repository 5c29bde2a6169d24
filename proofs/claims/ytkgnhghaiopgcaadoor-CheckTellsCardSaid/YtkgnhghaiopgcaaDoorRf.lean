/- The walks of package doormanref09: Type, Rel, Has, named, Check, and what they come to, in plain Lean; no condition. -/
import Derived.Test.YtkgnhghaiopgcaaDoorOf
import Derived.Test.YtkgnhghaiopgcaaDoorCx
import Derived.Test.YtkgnhghaiopgcaaDoorCl
set_option linter.unusedVariables false
set_option linter.unusedSimpArgs false
namespace Go.Proofs.YtkgnhghaiopgcaaDoor.Rf
open Go.RowKit Go.Maps Go.Proofs.YtkgnhghaiopgcaaDoorW.PrintWords Go.Proofs.YtkgnhghaiopgcaaDoorW.PrintLast Go.Proofs.YtkgnhghaiopgcaaDoor.X Go.Proofs.YtkgnhghaiopgcaaDoor.Kx Go.Proofs.YtkgnhghaiopgcaaDoor.Ps Go.Proofs.YtkgnhghaiopgcaaDoor.Ck Go.Proofs.YtkgnhghaiopgcaaDoor.Cw Go.Proofs.YtkgnhghaiopgcaaDoor.Of

def nT (n : ByteArray) (t : RT) : Bool := t.f0.toList == n.toList
def nR (n : ByteArray) (r : RR) : Bool := r.f0.toList == n.toList
def tyI (L : List RT) (n : ByteArray) : Int := idxI (nT n) L
def reI (l : List RR) (n : ByteArray) : Int := idxI (nR n) l
def tyV (L : List RT) (n : ByteArray) : RT := rd_T74 L (tyI L n)
def hasG (L : List RT) (ty re : ByteArray) : Bool := decide (0 ≤ tyI L ty) && decide (0 ≤ reI (tyV L ty).f1 re)
def subNoG (L : List RT) (x : RS) : Bool := decide (tyI L x.f0 < 0) || (!(x.f1.toList == ([] : List UInt8)) && !hasG L x.f0 x.f1)
def eqG (x y : RS) : Bool := (y.f0.toList == x.f0.toList) && (y.f1.toList == x.f1.toList)
def subsG (L : List RT) (l : List RS) : List RS → Nat → Int
  | [], _ => 0
  | x :: r, i => if subNoG L x = true then 31 else if (l.take i).any (eqG x) = true then 32 else subsG L l r (i + 1)
def leadG (L : List RT) (next : ByteArray) (x : RS) : Bool := (x.f1.toList == ([] : List UInt8)) && hasG L x.f0 next
def opG (L : List RT) (t : RT) (o : RO) : Bool :=
  if o.f0 = 2 then decide (0 ≤ reI t.f1 o.f1) else if o.f0 = 3 then decide (0 ≤ reI t.f1 o.f1) && (rd_T78 t.f1 (reI t.f1 o.f1)).f4.any (leadG L o.f2) else true
def opsG (L : List RT) (t : RT) : List RO → Int
  | [] => 0
  | o :: r => if opG L t o = true then opsG L t r else 31
def namedG (L : List RT) (t : RT) (r : RR) : Int :=
  if reI t.f1 r.f1 < 0 then 31 else if reI t.f1 r.f2 < 0 then 31 else if reI t.f1 r.f3 < 0 then 31 else if subsG L r.f4 r.f4 0 ≠ 0 then subsG L r.f4 r.f4 0 else opsG L t r.f5
theorem idx_lt {α : Type} (p : α → Bool) (xs : List α) : -1 ≤ idxI p xs ∧ idxI p xs < (xs.length : Int) := by
  rcases idxI_spec p xs with ⟨a, _⟩ | ⟨j, h, a, _⟩ <;> rw [a] <;> omega
set_option maxHeartbeats 4000000 in
theorem Type_c (L : List RT) (n : ByteArray) (A : Option Addr) (c : Nat) (w : World) (hC : Kd.C k74 w A L.length L) :
    Calls Tryd.prog 44 #[.slice A L.length c, .string n] w fun e w' => e = .returned (.int .i64 (tyI L n)) ∧ Below w.heap.size w w' := by
  have HC := Aside0.mk hC
  have HM : Aside0 (L.length ≤ 9223372036854775807) := ⟨Kd.C_max hC⟩
  clear hC
  go_enter Tryd.func44, Tryd.ntmps44
  go_wp2
  go_loopg [5] (L.length + 1) (fun gg s5 wr => ∃ i : Nat, s5 = .int .i64 i ∧ i + gg = L.length + 1 ∧ i ≤ L.length ∧ Aside0 (tyI L n = idxF (nT n) (L.drop i) i) ∧ Aside0 (Below w.heap.size w wr))
  case atStart => exact ⟨0, rfl, by omega, Nat.zero_le _, ⟨rfl⟩, ⟨Below.refl _ _⟩⟩
  case round =>
    obtain ⟨i, rfl, hi, hil, HI, HB⟩ := hrel
    rename World => wr
    cases gk with
    | zero => omega
    | succ g1 =>
      by_cases hlt : i < L.length
      · have e1 : decide ((i : Int) < (L.length : Int)) = true := decide_eq_true (by omega)
        have e2 : ((i : Int) < (L.length : Int)) = True := eq_true (by omega)
        have e3 : decide (i < L.length) = true := decide_eq_true (by omega)
        have e4 : (0 ≤ (i : Int)) = True := eq_true (by omega)
        have e5 : decide ((i : Int) < 0) = false := decide_eq_false (by omega)
        have e6 : ((i : Int) < 0) = False := eq_false (by omega)
        obtain ⟨x, hx⟩ : ∃ x, rd_T74 L (i : Int) = x := ⟨_, rfl⟩
        have hxi : L[i] = x := by rw [← hx]; unfold rd_T74; rw [Int.toNat_natCast, List.getD_eq_getElem?_getD, List.getElem?_eq_getElem hlt]; rfl
        obtain ⟨ad, A1, k1, rfl, r0, r1, r2, hC1⟩ := at_T74 (Kd.C_below HC.out HB.out) (i : Int) (by omega) (by omega)
        rw [hx, Int.toNat_natCast] at r0
        have hdrop := List.drop_eq_getElem_cons hlt
        rw [hxi] at hdrop
        have hw : IntKind.i64.wrap ((i : Int) + 1) = ((i + 1 : Nat) : Int) := by have := HM.out; rw [IntKind.wrap_i64]; omega
        have HJ := Aside0.mk (And.intro hi (And.intro hil hlt))
        clear hx hi hil hxi r1 r2 hC1
        cases hq : (x.f0.toList == n.toList) with
        | true =>
          have HR : Aside0 (tyI L n = (i : Int)) := ⟨by rw [HI.out, hdrop, idxF, if_pos (show (nT n) x = true from hq)]⟩
          clear hdrop hlt
          go_wp2
          go_ret
          exact ⟨by rw [HR.out]; rfl, HB.out⟩
        | false =>
          have HR : Aside0 (tyI L n = idxF (nT n) (L.drop (i + 1)) (i + 1)) := ⟨by rw [HI.out, hdrop, idxF, if_neg (show ¬ (nT n) x = true by rw [show (nT n) x = false from hq]; decide)]⟩
          clear hdrop hlt
          go_wp2
          go_roundg g1
          case measure => omega
          case rel => exact ⟨i + 1, by simp, by have := HJ.out; omega, HJ.out.2.2, HR, HB⟩
      · have e1 : decide ((i : Int) < (L.length : Int)) = false := decide_eq_false (by omega)
        have e2 : ((i : Int) < (L.length : Int)) = False := eq_false (by omega)
        have e3 : decide (i < L.length) = false := decide_eq_false (by omega)
        have HR : Aside0 (tyI L n = -1) := ⟨by rw [HI.out, List.drop_eq_nil_of_le (by omega), idxF]⟩
        clear hlt hi hil
        go_wp2
        go_ret
        exact ⟨by rw [HR.out]; rfl, HB.out⟩
set_option maxHeartbeats 4000000 in
theorem Rel_c (t : RT) (n : ByteArray) (A : Option Addr) (c : Nat) (w : World) (hC : Kd.C k78 w A t.f1.length t.f1) :
    Calls Tryd.prog 45 #[.agg #[.string t.f0, .slice A t.f1.length c], .string n] w fun e w' => e = .returned (.int .i64 (reI t.f1 n)) ∧ Below w.heap.size w w' := by
  have HC := Aside0.mk hC
  have HM : Aside0 (t.f1.length ≤ 9223372036854775807) := ⟨Kd.C_max hC⟩
  obtain ⟨w1, e1, h1, b1, z1, k1⟩ := al1 w #[.string t.f0, .slice A t.f1.length c] 74
  have H1 := Aside0.mk h1
  have HB1 := Aside0.mk b1
  have HW := Aside0.mk e1
  clear hC h1 b1 z1 k1 e1
  go_enter Tryd.func45, Tryd.ntmps45
  go_upto_region 1 with (fail)
  rw [HW.out]
  obtain ⟨q, hq⟩ : ∃ q, w.heap.size = q := ⟨_, rfl⟩
  have HQ := Aside0.mk hq
  rw [hq] at H1 ⊢
  clear HW hq
  go_wp2
  go_loopg [5] (t.f1.length + 1) (fun gg s5 wr => ∃ i : Nat, s5 = .int .i64 i ∧ i + gg = t.f1.length + 1 ∧ i ≤ t.f1.length ∧ Aside0 (reI t.f1 n = idxF (nR n) (t.f1.drop i) i) ∧ Aside0 (Below w.heap.size w wr) ∧ Aside0 (wr.heap[q]? = some (.cells #[.string t.f0, .slice A t.f1.length c] 74 (0, 0))))
  case atStart => exact ⟨0, rfl, by omega, Nat.zero_le _, ⟨rfl⟩, HB1, H1⟩
  case round =>
    obtain ⟨i, rfl, hi, hil, HI, HB, HX⟩ := hrel
    rename World => wr
    cases gk with
    | zero => omega
    | succ g1 =>
      have t1 := blk_cell HX.out 1
      by_cases hlt : i < t.f1.length
      · have e1 : decide ((i : Int) < (t.f1.length : Int)) = true := decide_eq_true (by omega)
        have e2 : ((i : Int) < (t.f1.length : Int)) = True := eq_true (by omega)
        have e3 : decide (i < t.f1.length) = true := decide_eq_true (by omega)
        have e4 : (0 ≤ (i : Int)) = True := eq_true (by omega)
        have e5 : decide ((i : Int) < 0) = false := decide_eq_false (by omega)
        have e6 : ((i : Int) < 0) = False := eq_false (by omega)
        obtain ⟨x, hx⟩ : ∃ x, rd_T78 t.f1 (i : Int) = x := ⟨_, rfl⟩
        have hxi : t.f1[i] = x := by rw [← hx]; unfold rd_T78; rw [Int.toNat_natCast, List.getD_eq_getElem?_getD, List.getElem?_eq_getElem hlt]; rfl
        obtain ⟨ad, A4, k4, A5, k5, rfl, r0, r1, r2, r3, r4, r5, r6, hC4, r7, hC5⟩ := at_T78 (Kd.C_below HC.out HB.out) (i : Int) (by omega) (by omega)
        rw [hx, Int.toNat_natCast] at r0
        have hdrop := List.drop_eq_getElem_cons hlt
        rw [hxi] at hdrop
        have hw : IntKind.i64.wrap ((i : Int) + 1) = ((i + 1 : Nat) : Int) := by have := HM.out; rw [IntKind.wrap_i64]; omega
        have HJ := Aside0.mk (And.intro hi (And.intro hil hlt))
        clear hx hi hil hxi r1 r2 r3 r4 r5 r6 hC4 r7 hC5
        cases hq : (x.f0.toList == n.toList) with
        | true =>
          have HR : Aside0 (reI t.f1 n = (i : Int)) := ⟨by rw [HI.out, hdrop, idxF, if_pos (show (nR n) x = true from hq)]⟩
          clear hdrop hlt
          go_wp2
          go_ret
          exact ⟨by rw [HR.out]; rfl, HB.out⟩
        | false =>
          have HR : Aside0 (reI t.f1 n = idxF (nR n) (t.f1.drop (i + 1)) (i + 1)) := ⟨by rw [HI.out, hdrop, idxF, if_neg (show ¬ (nR n) x = true by rw [show (nR n) x = false from hq]; decide)]⟩
          clear hdrop hlt
          go_wp2
          go_roundg g1
          case measure => omega
          case rel => exact ⟨i + 1, by simp, by have := HJ.out; omega, HJ.out.2.2, HR, HB, HX⟩
      · have e1 : decide ((i : Int) < (t.f1.length : Int)) = false := decide_eq_false (by omega)
        have e2 : ((i : Int) < (t.f1.length : Int)) = False := eq_false (by omega)
        have e3 : decide (i < t.f1.length) = false := decide_eq_false (by omega)
        have HR : Aside0 (reI t.f1 n = -1) := ⟨by rw [HI.out, List.drop_eq_nil_of_le (by omega), idxF]⟩
        clear hlt hi hil
        go_wp2
        go_ret
        exact ⟨by rw [HR.out]; rfl, HB.out⟩
set_option maxHeartbeats 4000000 in
theorem Has_c (L : List RT) (ty re : ByteArray) (A : Option Addr) (c : Nat) (w0 w : World) (hB : Below w0.heap.size w0 w) (hC : Kd.C k74 w0 A L.length L) :
    Calls Tryd.prog 109 #[.slice A L.length c, .string ty, .string re] w fun e w' => e = .returned (.bool (hasG L ty re)) ∧ Below w.heap.size w w' := by
  have HC := Aside0.mk (Kd.C_below hC hB)
  have hlt := idx_lt (nT ty) L
  have hcall := Type_c L ty A c w HC.out
  have hV : tyV L ty = rd_T74 L (tyI L ty) := rfl
  have hh : hasG L ty re = (decide (0 ≤ tyI L ty) && decide (0 ≤ reI (tyV L ty).f1 re)) := rfl
  change -1 ≤ tyI L ty ∧ tyI L ty < (L.length : Int) at hlt
  obtain ⟨i, hi⟩ : ∃ i, tyI L ty = i := ⟨_, rfl⟩
  obtain ⟨V, hVV⟩ : ∃ V, tyV L ty = V := ⟨_, rfl⟩
  rw [hi] at hlt hcall hV hh
  rw [hVV] at hV hh
  have HH := Aside0.mk hh
  clear hC hB hi hVV hh
  by_cases e0 : i < 0
  · have HR : Aside0 (hasG L ty re = false) := ⟨by rw [HH.out, decide_eq_false (by omega)]; rfl⟩
    have e3 : decide (0 ≤ i) = false := decide_eq_false (by omega)
    have e4 : (0 ≤ i) = False := eq_false (by omega)
    clear hV hlt
    go_enter Tryd.func109, Tryd.ntmps109
    go_wp2_with fail
    refine hcall.mono ?_
    rintro e w' ⟨rfl, hb⟩
    go_wp2
    go_ret
    exact ⟨by rw [HR.out]; rfl, hb⟩
  · obtain ⟨j, rfl⟩ := Int.eq_ofNat_of_zero_le (show 0 ≤ i by omega)
    have hj : j < L.length := by omega
    obtain ⟨ad, A1, c1, rfl, r0, r1, r2, hC1⟩ := at_T74 HC.out (j : Int) (by omega) (by omega)
    rw [← hV] at r0 r1 r2 hC1
    rw [Int.toNat_natCast] at r0 r1
    have HR : Aside0 (hasG L ty re = decide (0 ≤ reI V.f1 re)) := ⟨by rw [HH.out, decide_eq_true (by omega)]; rfl⟩
    have R0 := Aside0.mk r0
    have R1 := Aside0.mk r1
    have HC1 := Aside0.mk hC1
    have HL := Aside0.mk hj
    clear hV hlt r0 r1 r2 hC1 e0
    have e1 : decide ((j : Int) < (L.length : Int)) = true := decide_eq_true (by omega)
    have e2 : ((j : Int) < (L.length : Int)) = True := eq_true (by omega)
    have e3 : decide (j < L.length) = true := decide_eq_true (by omega)
    have e7 : decide (0 ≤ (j : Int)) = true := decide_eq_true (by omega)
    have e4 : (0 ≤ (j : Int)) = True := eq_true (by omega)
    have e5 : decide ((j : Int) < 0) = false := decide_eq_false (by omega)
    have e6 : ((j : Int) < 0) = False := eq_false (by omega)
    clear hj
    go_enter Tryd.func109, Tryd.ntmps109
    go_wp2_with fail
    refine hcall.mono ?_
    rintro e w' ⟨rfl, hb⟩
    have r0 := pw_cell_below hb R0.out
    have r1 := pw_cell_below hb R1.out
    have HB := Aside0.mk hb
    clear hb hcall
    go_wp2_with fail
    refine (Rel_c V re A1 c1 w' (Kd.C_below HC1.out HB.out)).mono ?_
    rintro e w2 ⟨rfl, hb⟩
    go_wp2
    go_ret
    exact ⟨by rw [HR.out]; simp [GE.ge], bel2 HB.out hb⟩
theorem any_take {x y : RS} {l : List RS} {k i : Nat} (h : l.take (k + 1) = l.take k ++ [y]) (hk : k < i) (he : eqG x y = true) : (l.take i).any (eqG x) = true := by
  refine List.any_eq_true.2 ⟨y, ?_, he⟩
  have h4 : y ∈ l.take (k + 1) := by rw [h]; simp
  exact (List.take_subset_take_left _ (by omega)) h4
set_option maxHeartbeats 16000000 in
set_option maxRecDepth 100000 in
theorem named_c (L : List RT) (t : RT) (r : RR) (A A1 A4 A5 : Option Addr) (c c1 c4 c5 : Nat) (w0 w : World) (hB : Below w0.heap.size w0 w) (hC : Kd.C k74 w0 A L.length L) (hT : Kd.C k78 w0 A1 t.f1.length t.f1)
    (hS : Kd.C k113 w0 A4 r.f4.length r.f4) (hO : Kd.C k114 w0 A5 r.f5.length r.f5) :
    Calls Tryd.prog 79 #[.slice A L.length c, .agg #[.string t.f0, .slice A1 t.f1.length c1], .agg #[.string r.f0, .string r.f1, .string r.f2, .string r.f3, .slice A4 r.f4.length c4, .slice A5 r.f5.length c5]] w fun e w' => e = .returned (.int .i64 (namedG L t r)) ∧ Below w.heap.size w w' := by
  have HC := Aside0.mk hC
  have HT := Aside0.mk hT
  have HS := Aside0.mk hS
  have HO := Aside0.mk hO
  have HB0 := Aside0.mk hB
  have HMS : Aside0 (r.f4.length ≤ 9223372036854775807) := ⟨Kd.C_max hS⟩
  have HMO : Aside0 (r.f5.length ≤ 9223372036854775807) := ⟨Kd.C_max hO⟩
  obtain ⟨w1, e1, h1, b1, z1, k1⟩ := al1 w #[.string t.f0, .slice A1 t.f1.length c1] 74
  obtain ⟨w2, e2, h2, b2, z2, k2⟩ := al1 w1 #[.string r.f0, .string r.f1, .string r.f2, .string r.f3, .slice A4 r.f4.length c4, .slice A5 r.f5.length c5] 78
  rw [z1] at h2
  have H1 := Aside0.mk (k2 _ _ h1)
  have H2 := Aside0.mk h2
  have HB := Aside0.mk (bel2 b1 b2)
  have HW : Aside0 ((w.alloc (.cells #[.string t.f0, .slice A1 t.f1.length c1] 74)).alloc (.cells #[.string r.f0, .string r.f1, .string r.f2, .string r.f3, .slice A4 r.f4.length c4, .slice A5 r.f5.length c5] 78) = w2) := ⟨by rw [e1, e2]⟩
  clear hC hT hS hO hB h1 h2 b1 b2 z1 z2 k1 k2 e1 e2
  go_enter Tryd.func79, Tryd.ntmps79
  go_upto_region 1 with (fail)
  rw [HW.out]
  obtain ⟨q, hq⟩ : ∃ q, w.heap.size = q := ⟨_, rfl⟩
  have HQ := Aside0.mk hq
  rw [hq] at H1 H2 ⊢
  clear HW hq
  have t0 := blk_cell H1.out 0
  have t1 := blk_cell H1.out 1
  have r1 := blk_cell H2.out 1
  have r2 := blk_cell H2.out 2
  have r3 := blk_cell H2.out 3
  obtain ⟨i1, hi1⟩ : ∃ i, reI t.f1 r.f1 = i := ⟨_, rfl⟩
  obtain ⟨i2, hi2⟩ : ∃ i, reI t.f1 r.f2 = i := ⟨_, rfl⟩
  obtain ⟨i3, hi3⟩ : ∃ i, reI t.f1 r.f3 = i := ⟨_, rfl⟩
  have hr1 := fun w => Rel_c t r.f1 A1 c1 w
  have hr2 := fun w => Rel_c t r.f2 A1 c1 w
  have hr3 := fun w => Rel_c t r.f3 A1 c1 w
  rw [hi1] at hr1
  rw [hi2] at hr2
  rw [hi3] at hr3
  have HR1 := Aside0.mk hr1
  have HR2 := Aside0.mk hr2
  have HR3 := Aside0.mk hr3
  have HI1 := Aside0.mk hi1
  have HI2 := Aside0.mk hi2
  have HI3 := Aside0.mk hi3
  clear hr1 hr2 hr3 hi1 hi2 hi3
  by_cases a0 : i1 < 0
  · have a1 : decide ((i1 : Int) < 0) = true := decide_eq_true a0
    have a2 : ((i1 : Int) < 0) = True := eq_true a0
    have HA := Aside0.mk a0
    clear a0
    go_wp2_with fail
    refine (HR1.out w2 (Kd.C_below HT.out (bel2 HB0.out HB.out))).mono ?_
    rintro e w3 ⟨rfl, hb⟩
    have HB3 := Aside0.mk (bel2 HB.out hb)
    have H13 := Aside0.mk ((hb.block _ (blk_lt H1.out)).trans H1.out)
    have H23 := Aside0.mk ((hb.block _ (blk_lt H2.out)).trans H2.out)
    clear hb t0 t1 r1 r2 r3 H1 H2 HB
    have t0 := blk_cell H13.out 0
    have t1 := blk_cell H13.out 1
    have r2 := blk_cell H23.out 2
    have r3 := blk_cell H23.out 3
    have HR : Aside0 (namedG L t r = 31) := ⟨by unfold namedG; rw [HI1.out, if_pos HA.out]⟩
    go_wp2
    go_ret
    exact ⟨by rw [HR.out]; rfl, HB3.out⟩
  have a1 : decide ((i1 : Int) < 0) = false := decide_eq_false a0
  have a2 : ((i1 : Int) < 0) = False := eq_false a0
  have a3 : decide (0 ≤ (i1 : Int)) = true := decide_eq_true (by omega)
  have a4 : (0 ≤ (i1 : Int)) = True := eq_true (by omega)
  have HA := Aside0.mk a0
  clear a0
  by_cases b0 : i2 < 0
  · have b1 : decide ((i2 : Int) < 0) = true := decide_eq_true b0
    have b2 : ((i2 : Int) < 0) = True := eq_true b0
    have HA2 := Aside0.mk b0
    clear b0
    go_wp2_with fail
    refine (HR1.out w2 (Kd.C_below HT.out (bel2 HB0.out HB.out))).mono ?_
    rintro e w3 ⟨rfl, hb⟩
    have HB3 := Aside0.mk (bel2 HB.out hb)
    have H13 := Aside0.mk ((hb.block _ (blk_lt H1.out)).trans H1.out)
    have H23 := Aside0.mk ((hb.block _ (blk_lt H2.out)).trans H2.out)
    clear hb t0 t1 r1 r2 r3 H1 H2 HB
    have t0 := blk_cell H13.out 0
    have t1 := blk_cell H13.out 1
    have r2 := blk_cell H23.out 2
    have r3 := blk_cell H23.out 3
    go_wp2_with fail
    refine (HR2.out w3 (Kd.C_below HT.out (bel2 HB0.out HB3.out))).mono ?_
    rintro e w4 ⟨rfl, hb⟩
    have HB4 := Aside0.mk (bel2 HB3.out hb)
    have H14 := Aside0.mk ((hb.block _ (blk_lt H13.out)).trans H13.out)
    have H24 := Aside0.mk ((hb.block _ (blk_lt H23.out)).trans H23.out)
    clear hb t0 t1 r2 r3 H13 H23 HB3
    have t0 := blk_cell H14.out 0
    have t1 := blk_cell H14.out 1
    have r3 := blk_cell H24.out 3
    have HR : Aside0 (namedG L t r = 31) := ⟨by unfold namedG; rw [HI1.out, if_neg (by have := HA.out; omega), HI2.out, if_pos HA2.out]⟩
    go_wp2
    go_ret
    exact ⟨by rw [HR.out]; rfl, HB4.out⟩
  have b1 : decide ((i2 : Int) < 0) = false := decide_eq_false b0
  have b2 : ((i2 : Int) < 0) = False := eq_false b0
  have b3 : decide (0 ≤ (i2 : Int)) = true := decide_eq_true (by omega)
  have b4 : (0 ≤ (i2 : Int)) = True := eq_true (by omega)
  have HA2 := Aside0.mk b0
  clear b0
  by_cases d0 : i3 < 0
  · have d1 : decide ((i3 : Int) < 0) = true := decide_eq_true d0
    have d2 : ((i3 : Int) < 0) = True := eq_true d0
    have HA3 := Aside0.mk d0
    clear d0
    go_wp2_with fail
    refine (HR1.out w2 (Kd.C_below HT.out (bel2 HB0.out HB.out))).mono ?_
    rintro e w3 ⟨rfl, hb⟩
    have HB3 := Aside0.mk (bel2 HB.out hb)
    have H13 := Aside0.mk ((hb.block _ (blk_lt H1.out)).trans H1.out)
    have H23 := Aside0.mk ((hb.block _ (blk_lt H2.out)).trans H2.out)
    clear hb t0 t1 r1 r2 r3 H1 H2 HB
    have t0 := blk_cell H13.out 0
    have t1 := blk_cell H13.out 1
    have r2 := blk_cell H23.out 2
    have r3 := blk_cell H23.out 3
    go_wp2_with fail
    refine (HR2.out w3 (Kd.C_below HT.out (bel2 HB0.out HB3.out))).mono ?_
    rintro e w4 ⟨rfl, hb⟩
    have HB4 := Aside0.mk (bel2 HB3.out hb)
    have H14 := Aside0.mk ((hb.block _ (blk_lt H13.out)).trans H13.out)
    have H24 := Aside0.mk ((hb.block _ (blk_lt H23.out)).trans H23.out)
    clear hb t0 t1 r2 r3 H13 H23 HB3
    have t0 := blk_cell H14.out 0
    have t1 := blk_cell H14.out 1
    have r3 := blk_cell H24.out 3
    go_wp2_with fail
    refine (HR3.out w4 (Kd.C_below HT.out (bel2 HB0.out HB4.out))).mono ?_
    rintro e w5 ⟨rfl, hb⟩
    have HB5 := Aside0.mk (bel2 HB4.out hb)
    have H15 := Aside0.mk ((hb.block _ (blk_lt H14.out)).trans H14.out)
    have H25 := Aside0.mk ((hb.block _ (blk_lt H24.out)).trans H24.out)
    clear hb t0 t1 r3 H14 H24 HB4
    have HR : Aside0 (namedG L t r = 31) := ⟨by unfold namedG; rw [HI1.out, if_neg (by have := HA.out; omega), HI2.out, if_neg (by have := HA2.out; omega), HI3.out, if_pos HA3.out]⟩
    go_wp2
    go_ret
    exact ⟨by rw [HR.out]; rfl, HB5.out⟩
  have d1 : decide ((i3 : Int) < 0) = false := decide_eq_false d0
  have d2 : ((i3 : Int) < 0) = False := eq_false d0
  have d3 : decide (0 ≤ (i3 : Int)) = true := decide_eq_true (by omega)
  have d4 : (0 ≤ (i3 : Int)) = True := eq_true (by omega)
  have HA3 := Aside0.mk d0
  clear d0
  go_wp2_with fail
  refine (HR1.out w2 (Kd.C_below HT.out (bel2 HB0.out HB.out))).mono ?_
  rintro e w3 ⟨rfl, hb⟩
  have HB3 := Aside0.mk (bel2 HB.out hb)
  have H13 := Aside0.mk ((hb.block _ (blk_lt H1.out)).trans H1.out)
  have H23 := Aside0.mk ((hb.block _ (blk_lt H2.out)).trans H2.out)
  clear hb t0 t1 r1 r2 r3 H1 H2 HB
  have t0 := blk_cell H13.out 0
  have t1 := blk_cell H13.out 1
  have r2 := blk_cell H23.out 2
  have r3 := blk_cell H23.out 3
  go_wp2_with fail
  refine (HR2.out w3 (Kd.C_below HT.out (bel2 HB0.out HB3.out))).mono ?_
  rintro e w4 ⟨rfl, hb⟩
  have HB4 := Aside0.mk (bel2 HB3.out hb)
  have H14 := Aside0.mk ((hb.block _ (blk_lt H13.out)).trans H13.out)
  have H24 := Aside0.mk ((hb.block _ (blk_lt H23.out)).trans H23.out)
  clear hb t0 t1 r2 r3 H13 H23 HB3
  have t0 := blk_cell H14.out 0
  have t1 := blk_cell H14.out 1
  have r3 := blk_cell H24.out 3
  go_wp2_with fail
  refine (HR3.out w4 (Kd.C_below HT.out (bel2 HB0.out HB4.out))).mono ?_
  rintro e w5 ⟨rfl, hb⟩
  have HB5 := Aside0.mk (bel2 HB4.out hb)
  have H15 := Aside0.mk ((hb.block _ (blk_lt H14.out)).trans H14.out)
  have H25 := Aside0.mk ((hb.block _ (blk_lt H24.out)).trans H24.out)
  clear hb t0 t1 r3 H14 H24 HB4
  have HG : Aside0 (namedG L t r = if subsG L r.f4 r.f4 0 ≠ 0 then subsG L r.f4 r.f4 0 else opsG L t r.f5) := ⟨by unfold namedG; rw [HI1.out, if_neg (by have := HA.out; omega), HI2.out, if_neg (by have := HA2.out; omega), HI3.out, if_neg (by have := HA3.out; omega)]⟩
  clear HI1 HI2 HI3 HR1 HR2 HR3 HA HA2 HA3
  go_wp2_with fail
  clear a1 a2 a3 a4 b1 b2 b3 b4 d1 d2 d3 d4
  go_loopg [7] (r.f4.length + 1) (fun gg s7 wr => ∃ i : Nat, s7 = .int .i64 i ∧ i + gg = r.f4.length + 1 ∧ i ≤ r.f4.length ∧ Aside0 (subsG L r.f4 r.f4 0 = subsG L r.f4 (r.f4.drop i) i) ∧ Aside0 (Below w.heap.size w wr) ∧ Aside0 (wr.heap[q]? = some (.cells #[.string t.f0, .slice A1 t.f1.length c1] 74 (0, 0))) ∧ Aside0 (wr.heap[q + 1]? = some (.cells #[.string r.f0, .string r.f1, .string r.f2, .string r.f3, .slice A4 r.f4.length c4, .slice A5 r.f5.length c5] 78 (0, 0))))
  case atStart => exact ⟨0, rfl, by omega, Nat.zero_le _, ⟨rfl⟩, HB5, H15, H25⟩
  case round =>
    clear HB5 H15 H25
    obtain ⟨i, rfl, hi, hil, HI, HBr, H1r, H2r⟩ := hrel
    rename World => wr
    have r4 := blk_cell H2r.out 4
    cases gk with
    | zero => omega
    | succ g1 =>
      by_cases hlt : i < r.f4.length
      · have e1 : decide ((i : Int) < (r.f4.length : Int)) = true := decide_eq_true (by omega)
        have e2 : ((i : Int) < (r.f4.length : Int)) = True := eq_true (by omega)
        have e3 : decide (i < r.f4.length) = true := decide_eq_true (by omega)
        have e4 : (0 ≤ (i : Int)) = True := eq_true (by omega)
        have e5 : decide ((i : Int) < 0) = false := decide_eq_false (by omega)
        have e6 : ((i : Int) < 0) = False := eq_false (by omega)
        obtain ⟨x, hx⟩ : ∃ x, rd_T113 r.f4 (i : Int) = x := ⟨_, rfl⟩
        have hxi : r.f4[i] = x := by rw [← hx]; unfold rd_T113; rw [Int.toNat_natCast, List.getD_eq_getElem?_getD, List.getElem?_eq_getElem hlt]; rfl
        obtain ⟨ad, rfl, s0, s1⟩ := at_T113 (Kd.C_below HS.out (bel2 HB0.out HBr.out)) (i : Int) (by omega) (by omega)
        rw [hx, Int.toNat_natCast] at s0 s1
        have hdrop := List.drop_eq_getElem_cons hlt
        rw [hxi] at hdrop
        have HDR := Aside0.mk hdrop
        have hw : IntKind.i64.wrap ((i : Int) + 1) = ((i + 1 : Nat) : Int) := by have := HMS.out; rw [IntKind.wrap_i64]; omega
        have HJ := Aside0.mk (And.intro hi (And.intro hil hlt))
        obtain ⟨w6, e6', h6, b6, z6, k6⟩ := al1 wr #[.string x.f0, .string x.f1] 113
        have HX6 := Aside0.mk h6
        have H16 := Aside0.mk (k6 _ _ H1r.out)
        have H26 := Aside0.mk (k6 _ _ H2r.out)
        have HB6 := Aside0.mk (bel2 HBr.out b6)
        have HW := Aside0.mk e6'
        clear hx hi hil hxi hdrop hlt h6 b6 z6 k6 e6'
        go_upto_region 7 with (fail)
        rw [HW.out]
        obtain ⟨p, hp⟩ : ∃ p, wr.heap.size = p := ⟨_, rfl⟩
        rw [hp] at HX6 ⊢
        clear HW hp s0 s1 r4
        have s0 := blk_cell HX6.out 0
        have s1 := blk_cell HX6.out 1
        obtain ⟨hg, hhg⟩ : ∃ b, hasG L x.f0 x.f1 = b := ⟨_, rfl⟩
        have hcall := Has_c L x.f0 x.f1 A c w0 w6 (bel2 HB0.out HB6.out) HC.out
        rw [hhg] at hcall
        have HHG := Aside0.mk hhg
        clear hhg
        go_wp2_with fail
        refine hcall.mono ?_
        rintro e w7 ⟨rfl, hb⟩
        have HB7 := Aside0.mk (bel2 HB6.out hb)
        have H17 := Aside0.mk ((hb.block _ (blk_lt H16.out)).trans H16.out)
        have H27 := Aside0.mk ((hb.block _ (blk_lt H26.out)).trans H26.out)
        have HX7 := Aside0.mk ((hb.block _ (blk_lt HX6.out)).trans HX6.out)
        clear hb hcall s0 s1 H16 H26 HX6 HB6
        have s0 := blk_cell HX7.out 0
        have s1 := blk_cell HX7.out 1
        go_upto_region 8 with (fail)
        obtain ⟨ti, hti⟩ : ∃ i, tyI L x.f0 = i := ⟨_, rfl⟩
        have hcall := Type_c L x.f0 A c w7 (Kd.C_below HC.out (bel2 HB0.out HB7.out))
        rw [hti] at hcall
        have HTI := Aside0.mk hti
        clear hti
        go_wp2_with fail
        refine hcall.mono ?_
        rintro e w8 ⟨rfl, hb⟩
        have HB8 := Aside0.mk (bel2 HB7.out hb)
        have H18 := Aside0.mk ((hb.block _ (blk_lt H17.out)).trans H17.out)
        have H28 := Aside0.mk ((hb.block _ (blk_lt H27.out)).trans H27.out)
        have HX8 := Aside0.mk ((hb.block _ (blk_lt HX7.out)).trans HX7.out)
        clear hb hcall s0 s1 H17 H27 HX7 HB7
        have s0 := blk_cell HX8.out 0
        have s1 := blk_cell HX8.out 1
        by_cases a0 : ti < 0
        · have a1 : decide ((ti : Int) < 0) = true := decide_eq_true a0
          have a2 : ((ti : Int) < 0) = True := eq_true a0
          have HA := Aside0.mk a0
          clear a0
          have HSB : Aside0 (subsG L r.f4 r.f4 0 = 31) := ⟨by rw [HI.out, HDR.out, subsG, if_pos (by unfold subNoG; rw [HTI.out, decide_eq_true HA.out]; rfl)]⟩
          have HR : Aside0 (namedG L t r = 31) := ⟨by rw [HG.out, HSB.out, if_pos (by decide)]⟩
          go_wp2
          go_ret
          exact ⟨by rw [HR.out]; rfl, HB8.out⟩
        have a1 : decide ((ti : Int) < 0) = false := decide_eq_false a0
        have a2 : ((ti : Int) < 0) = False := eq_false a0
        have a3 : decide (0 ≤ (ti : Int)) = true := decide_eq_true (by omega)
        have a4 : (0 ≤ (ti : Int)) = True := eq_true (by omega)
        have HA := Aside0.mk a0
        clear a0
        cases g0 : (x.f1.toList == ([] : List UInt8)) with
        | true =>
          have HNO : Aside0 (subNoG L x = false) := ⟨by unfold subNoG; rw [HTI.out, decide_eq_false (by have := HA.out; omega), g0]; rfl⟩
          go_wp2
          go_loopg [10] (i + 1) (fun gg s10 wq => ∃ k : Nat, s10 = .int .i64 k ∧ k + gg = i + 1 ∧ k ≤ i ∧ Aside0 ((r.f4.take k).any (eqG x) = false) ∧ Aside0 (Below w.heap.size w wq) ∧ Aside0 (wq.heap[q]? = some (.cells #[.string t.f0, .slice A1 t.f1.length c1] 74 (0, 0))) ∧ Aside0 (wq.heap[q + 1]? = some (.cells #[.string r.f0, .string r.f1, .string r.f2, .string r.f3, .slice (some ad) r.f4.length c4, .slice A5 r.f5.length c5] 78 (0, 0))) ∧ Aside0 (wq.heap[p]? = some (.cells #[.string x.f0, .string x.f1] 113 (0, 0))))
          case atStart => exact ⟨0, rfl, by omega, Nat.zero_le _, ⟨by simp⟩, HB8, H18, H28, HX8⟩
          case round =>
            clear HB8 H18 H28 HX8 s0 s1
            obtain ⟨k, rfl, hk, hkl, HK, HBq, H1q, H2q, HXq⟩ := hrel
            rename World => wq
            have r4 := blk_cell H2q.out 4
            have s0 := blk_cell HXq.out 0
            have s1 := blk_cell HXq.out 1
            have hii := HJ.out.2.2
            cases gk with
            | zero => omega
            | succ g2 =>
              by_cases hkt : k < i
              · have f1 : decide ((k : Int) < (i : Int)) = true := decide_eq_true (by omega)
                have f2 : ((k : Int) < (i : Int)) = True := eq_true (by omega)
                have f3 : decide (k < i) = true := decide_eq_true (by omega)
                have f4 : (0 ≤ (k : Int)) = True := eq_true (by omega)
                have f5 : decide ((k : Int) < 0) = false := decide_eq_false (by omega)
                have f6 : ((k : Int) < 0) = False := eq_false (by omega)
                have f7 : ((k : Int) < (r.f4.length : Int)) = True := eq_true (by omega)
                have f8 : decide (k < r.f4.length) = true := decide_eq_true (by omega)
                have f9 : decide ((k : Int) < (r.f4.length : Int)) = true := decide_eq_true (by omega)
                have hkr : k < r.f4.length := by omega
                obtain ⟨y, hy⟩ : ∃ y, rd_T113 r.f4 (k : Int) = y := ⟨_, rfl⟩
                have hyi : r.f4[k] = y := by rw [← hy]; unfold rd_T113; rw [Int.toNat_natCast, List.getD_eq_getElem?_getD, List.getElem?_eq_getElem hkr]; rfl
                obtain ⟨ae, hae, y0, y1⟩ := at_T113 (Kd.C_below HS.out (bel2 HB0.out HBq.out)) (k : Int) (by omega) (by omega)
                obtain rfl := Option.some.inj hae
                rw [hy, Int.toNat_natCast] at y0 y1
                have HTK : Aside0 (r.f4.take (k + 1) = r.f4.take k ++ [y]) := ⟨by rw [← List.take_append_getElem hkr, hyi]⟩
                have hw2 : IntKind.i64.wrap ((k : Int) + 1) = ((k + 1 : Nat) : Int) := by have := HMS.out; rw [IntKind.wrap_i64]; omega
                have HJ2 := Aside0.mk (And.intro hk (And.intro hkl hkt))
                have HLR := Aside0.mk hkr
                clear hae hy hyi hk hkl hkt hkr hii
                cases g1' : (y.f0.toList == x.f0.toList) with
                | true =>
                  cases g2' : (y.f1.toList == x.f1.toList) with
                  | true =>
                    have HE : Aside0 ((r.f4.take i).any (eqG x) = true) := ⟨any_take HTK.out HJ2.out.2.2 (by unfold eqG; rw [g1', g2']; rfl)⟩
                    have HSB : Aside0 (subsG L r.f4 r.f4 0 = 32) := ⟨by rw [HI.out, HDR.out, subsG, if_neg (by rw [HNO.out]; decide), if_pos HE.out]⟩
                    have HR : Aside0 (namedG L t r = 32) := ⟨by rw [HG.out, HSB.out, if_pos (by decide)]⟩
                    go_wp2
                    go_quiet (fail)
                    have HBz : Aside0 (Below w.heap.size w (wq.drewN nq)) := ⟨pw_below_drewN HBq.out nq⟩
                    have hbz : Below wq.heap.size wq (wq.drewN nq) := pw_below_drewN (Below.refl _ _) nq
                    have H1z := Aside0.mk ((hbz.block _ (blk_lt H1q.out)).trans H1q.out)
                    have H2z := Aside0.mk ((hbz.block _ (blk_lt H2q.out)).trans H2q.out)
                    have HXz := Aside0.mk ((hbz.block _ (blk_lt HXq.out)).trans HXq.out)
                    obtain ⟨wz, hwz⟩ : ∃ wz, wq.drewN nq = wz := ⟨_, rfl⟩
                    rw [hwz] at HBz H1z H2z HXz ⊢
                    clear hwz hbz
                    go_wp2
                    go_ret
                    exact ⟨by rw [HR.out]; rfl, HBz.out⟩
                  | false =>
                    have HE : Aside0 ((r.f4.take (k + 1)).any (eqG x) = false) := ⟨by rw [HTK.out, List.any_append, HK.out]; simp only [List.any_cons, List.any_nil, Bool.or_false, Bool.false_or]; unfold eqG; rw [g1', g2']; rfl⟩
                    go_wp2
                    go_quiet (fail)
                    have HBz : Aside0 (Below w.heap.size w (wq.drewN nq)) := ⟨pw_below_drewN HBq.out nq⟩
                    have hbz : Below wq.heap.size wq (wq.drewN nq) := pw_below_drewN (Below.refl _ _) nq
                    have H1z := Aside0.mk ((hbz.block _ (blk_lt H1q.out)).trans H1q.out)
                    have H2z := Aside0.mk ((hbz.block _ (blk_lt H2q.out)).trans H2q.out)
                    have HXz := Aside0.mk ((hbz.block _ (blk_lt HXq.out)).trans HXq.out)
                    obtain ⟨wz, hwz⟩ : ∃ wz, wq.drewN nq = wz := ⟨_, rfl⟩
                    rw [hwz] at HBz H1z H2z HXz ⊢
                    clear hwz hbz
                    go_wp2
                    go_roundg g2
                    case measure => omega
                    case rel => exact ⟨k + 1, by simp, by have := HJ2.out; omega, HJ2.out.2.2, HE, HBz, H1z, H2z, HXz⟩
                | false =>
                  have HE : Aside0 ((r.f4.take (k + 1)).any (eqG x) = false) := ⟨by rw [HTK.out, List.any_append, HK.out]; simp only [List.any_cons, List.any_nil, Bool.or_false, Bool.false_or]; unfold eqG; rw [g1']; rfl⟩
                  go_wp2
                  go_quiet (fail)
                  have HBz : Aside0 (Below w.heap.size w (wq.drewN nq)) := ⟨pw_below_drewN HBq.out nq⟩
                  have hbz : Below wq.heap.size wq (wq.drewN nq) := pw_below_drewN (Below.refl _ _) nq
                  have H1z := Aside0.mk ((hbz.block _ (blk_lt H1q.out)).trans H1q.out)
                  have H2z := Aside0.mk ((hbz.block _ (blk_lt H2q.out)).trans H2q.out)
                  have HXz := Aside0.mk ((hbz.block _ (blk_lt HXq.out)).trans HXq.out)
                  obtain ⟨wz, hwz⟩ : ∃ wz, wq.drewN nq = wz := ⟨_, rfl⟩
                  rw [hwz] at HBz H1z H2z HXz ⊢
                  clear hwz hbz
                  go_wp2
                  go_roundg g2
                  case measure => omega
                  case rel => exact ⟨k + 1, by simp, by have := HJ2.out; omega, HJ2.out.2.2, HE, HBz, H1z, H2z, HXz⟩
              · have f1 : decide ((k : Int) < (i : Int)) = false := decide_eq_false (by omega)
                have f2 : ((k : Int) < (i : Int)) = False := eq_false (by omega)
                have f3 : decide (k < i) = false := decide_eq_false (by omega)
                obtain rfl : k = i := by omega
                have HR : Aside0 (subsG L r.f4 r.f4 0 = subsG L r.f4 (r.f4.drop (k + 1)) (k + 1)) := ⟨by rw [HI.out, HDR.out, subsG, if_neg (by rw [HNO.out]; decide), if_neg (by rw [HK.out]; decide)]⟩
                clear hk hkl hkt hii
                go_wp2
                go_roundg g1
                case measure => omega
                case rel => exact ⟨k + 1, by simp, by have := HJ.out; omega, HJ.out.2.2, HR, HBq, H1q, H2q⟩
        | false =>
          cases hg with
          | false =>
            have HSB : Aside0 (subsG L r.f4 r.f4 0 = 31) := ⟨by rw [HI.out, HDR.out, subsG, if_pos (by unfold subNoG; rw [HTI.out, decide_eq_false (by have := HA.out; omega), g0, HHG.out]; rfl)]⟩
            have HR : Aside0 (namedG L t r = 31) := ⟨by rw [HG.out, HSB.out, if_pos (by decide)]⟩
            go_wp2
            go_ret
            exact ⟨by rw [HR.out]; rfl, HB8.out⟩
          | true =>
            have HNO : Aside0 (subNoG L x = false) := ⟨by unfold subNoG; rw [HTI.out, decide_eq_false (by have := HA.out; omega), g0, HHG.out]; rfl⟩
            go_wp2
            go_loopg [10] (i + 1) (fun gg s10 wq => ∃ k : Nat, s10 = .int .i64 k ∧ k + gg = i + 1 ∧ k ≤ i ∧ Aside0 ((r.f4.take k).any (eqG x) = false) ∧ Aside0 (Below w.heap.size w wq) ∧ Aside0 (wq.heap[q]? = some (.cells #[.string t.f0, .slice A1 t.f1.length c1] 74 (0, 0))) ∧ Aside0 (wq.heap[q + 1]? = some (.cells #[.string r.f0, .string r.f1, .string r.f2, .string r.f3, .slice (some ad) r.f4.length c4, .slice A5 r.f5.length c5] 78 (0, 0))) ∧ Aside0 (wq.heap[p]? = some (.cells #[.string x.f0, .string x.f1] 113 (0, 0))))
            case atStart => exact ⟨0, rfl, by omega, Nat.zero_le _, ⟨by simp⟩, HB8, H18, H28, HX8⟩
            case round =>
              clear HB8 H18 H28 HX8 s0 s1
              obtain ⟨k, rfl, hk, hkl, HK, HBq, H1q, H2q, HXq⟩ := hrel
              rename World => wq
              have r4 := blk_cell H2q.out 4
              have s0 := blk_cell HXq.out 0
              have s1 := blk_cell HXq.out 1
              have hii := HJ.out.2.2
              cases gk with
              | zero => omega
              | succ g2 =>
                by_cases hkt : k < i
                · have f1 : decide ((k : Int) < (i : Int)) = true := decide_eq_true (by omega)
                  have f2 : ((k : Int) < (i : Int)) = True := eq_true (by omega)
                  have f3 : decide (k < i) = true := decide_eq_true (by omega)
                  have f4 : (0 ≤ (k : Int)) = True := eq_true (by omega)
                  have f5 : decide ((k : Int) < 0) = false := decide_eq_false (by omega)
                  have f6 : ((k : Int) < 0) = False := eq_false (by omega)
                  have f7 : ((k : Int) < (r.f4.length : Int)) = True := eq_true (by omega)
                  have f8 : decide (k < r.f4.length) = true := decide_eq_true (by omega)
                  have f9 : decide ((k : Int) < (r.f4.length : Int)) = true := decide_eq_true (by omega)
                  have hkr : k < r.f4.length := by omega
                  obtain ⟨y, hy⟩ : ∃ y, rd_T113 r.f4 (k : Int) = y := ⟨_, rfl⟩
                  have hyi : r.f4[k] = y := by rw [← hy]; unfold rd_T113; rw [Int.toNat_natCast, List.getD_eq_getElem?_getD, List.getElem?_eq_getElem hkr]; rfl
                  obtain ⟨ae, hae, y0, y1⟩ := at_T113 (Kd.C_below HS.out (bel2 HB0.out HBq.out)) (k : Int) (by omega) (by omega)
                  obtain rfl := Option.some.inj hae
                  rw [hy, Int.toNat_natCast] at y0 y1
                  have HTK : Aside0 (r.f4.take (k + 1) = r.f4.take k ++ [y]) := ⟨by rw [← List.take_append_getElem hkr, hyi]⟩
                  have hw2 : IntKind.i64.wrap ((k : Int) + 1) = ((k + 1 : Nat) : Int) := by have := HMS.out; rw [IntKind.wrap_i64]; omega
                  have HJ2 := Aside0.mk (And.intro hk (And.intro hkl hkt))
                  have HLR := Aside0.mk hkr
                  clear hae hy hyi hk hkl hkt hkr hii
                  cases g1' : (y.f0.toList == x.f0.toList) with
                  | true =>
                    cases g2' : (y.f1.toList == x.f1.toList) with
                    | true =>
                      have HE : Aside0 ((r.f4.take i).any (eqG x) = true) := ⟨any_take HTK.out HJ2.out.2.2 (by unfold eqG; rw [g1', g2']; rfl)⟩
                      have HSB : Aside0 (subsG L r.f4 r.f4 0 = 32) := ⟨by rw [HI.out, HDR.out, subsG, if_neg (by rw [HNO.out]; decide), if_pos HE.out]⟩
                      have HR : Aside0 (namedG L t r = 32) := ⟨by rw [HG.out, HSB.out, if_pos (by decide)]⟩
                      go_wp2
                      go_quiet (fail)
                      have HBz : Aside0 (Below w.heap.size w (wq.drewN nq)) := ⟨pw_below_drewN HBq.out nq⟩
                      have hbz : Below wq.heap.size wq (wq.drewN nq) := pw_below_drewN (Below.refl _ _) nq
                      have H1z := Aside0.mk ((hbz.block _ (blk_lt H1q.out)).trans H1q.out)
                      have H2z := Aside0.mk ((hbz.block _ (blk_lt H2q.out)).trans H2q.out)
                      have HXz := Aside0.mk ((hbz.block _ (blk_lt HXq.out)).trans HXq.out)
                      obtain ⟨wz, hwz⟩ : ∃ wz, wq.drewN nq = wz := ⟨_, rfl⟩
                      rw [hwz] at HBz H1z H2z HXz ⊢
                      clear hwz hbz
                      go_wp2
                      go_ret
                      exact ⟨by rw [HR.out]; rfl, HBz.out⟩
                    | false =>
                      have HE : Aside0 ((r.f4.take (k + 1)).any (eqG x) = false) := ⟨by rw [HTK.out, List.any_append, HK.out]; simp only [List.any_cons, List.any_nil, Bool.or_false, Bool.false_or]; unfold eqG; rw [g1', g2']; rfl⟩
                      go_wp2
                      go_quiet (fail)
                      have HBz : Aside0 (Below w.heap.size w (wq.drewN nq)) := ⟨pw_below_drewN HBq.out nq⟩
                      have hbz : Below wq.heap.size wq (wq.drewN nq) := pw_below_drewN (Below.refl _ _) nq
                      have H1z := Aside0.mk ((hbz.block _ (blk_lt H1q.out)).trans H1q.out)
                      have H2z := Aside0.mk ((hbz.block _ (blk_lt H2q.out)).trans H2q.out)
                      have HXz := Aside0.mk ((hbz.block _ (blk_lt HXq.out)).trans HXq.out)
                      obtain ⟨wz, hwz⟩ : ∃ wz, wq.drewN nq = wz := ⟨_, rfl⟩
                      rw [hwz] at HBz H1z H2z HXz ⊢
                      clear hwz hbz
                      go_wp2
                      go_roundg g2
                      case measure => omega
                      case rel => exact ⟨k + 1, by simp, by have := HJ2.out; omega, HJ2.out.2.2, HE, HBz, H1z, H2z, HXz⟩
                  | false =>
                    have HE : Aside0 ((r.f4.take (k + 1)).any (eqG x) = false) := ⟨by rw [HTK.out, List.any_append, HK.out]; simp only [List.any_cons, List.any_nil, Bool.or_false, Bool.false_or]; unfold eqG; rw [g1']; rfl⟩
                    go_wp2
                    go_quiet (fail)
                    have HBz : Aside0 (Below w.heap.size w (wq.drewN nq)) := ⟨pw_below_drewN HBq.out nq⟩
                    have hbz : Below wq.heap.size wq (wq.drewN nq) := pw_below_drewN (Below.refl _ _) nq
                    have H1z := Aside0.mk ((hbz.block _ (blk_lt H1q.out)).trans H1q.out)
                    have H2z := Aside0.mk ((hbz.block _ (blk_lt H2q.out)).trans H2q.out)
                    have HXz := Aside0.mk ((hbz.block _ (blk_lt HXq.out)).trans HXq.out)
                    obtain ⟨wz, hwz⟩ : ∃ wz, wq.drewN nq = wz := ⟨_, rfl⟩
                    rw [hwz] at HBz H1z H2z HXz ⊢
                    clear hwz hbz
                    go_wp2
                    go_roundg g2
                    case measure => omega
                    case rel => exact ⟨k + 1, by simp, by have := HJ2.out; omega, HJ2.out.2.2, HE, HBz, H1z, H2z, HXz⟩
                · have f1 : decide ((k : Int) < (i : Int)) = false := decide_eq_false (by omega)
                  have f2 : ((k : Int) < (i : Int)) = False := eq_false (by omega)
                  have f3 : decide (k < i) = false := decide_eq_false (by omega)
                  obtain rfl : k = i := by omega
                  have HR : Aside0 (subsG L r.f4 r.f4 0 = subsG L r.f4 (r.f4.drop (k + 1)) (k + 1)) := ⟨by rw [HI.out, HDR.out, subsG, if_neg (by rw [HNO.out]; decide), if_neg (by rw [HK.out]; decide)]⟩
                  clear hk hkl hkt hii
                  go_wp2
                  go_roundg g1
                  case measure => omega
                  case rel => exact ⟨k + 1, by simp, by have := HJ.out; omega, HJ.out.2.2, HR, HBq, H1q, H2q⟩
      · have e1 : decide ((i : Int) < (r.f4.length : Int)) = false := decide_eq_false (by omega)
        have e2 : ((i : Int) < (r.f4.length : Int)) = False := eq_false (by omega)
        have e3 : decide (i < r.f4.length) = false := decide_eq_false (by omega)
        have HSB : Aside0 (subsG L r.f4 r.f4 0 = 0) := ⟨by rw [HI.out, List.drop_eq_nil_of_le (by omega), subsG]⟩
        have HS0 : Aside0 (namedG L t r = opsG L t r.f5) := ⟨by rw [HG.out, HSB.out, if_neg (by decide)]⟩
        clear hlt hi hil
        go_wp2
        go_loopg [11] (r.f5.length + 1) (fun gg s11 wr => ∃ i : Nat, s11 = .int .i64 i ∧ i + gg = r.f5.length + 1 ∧ i ≤ r.f5.length ∧ Aside0 (opsG L t r.f5 = opsG L t (r.f5.drop i)) ∧ Aside0 (Below w.heap.size w wr) ∧ Aside0 (wr.heap[q]? = some (.cells #[.string t.f0, .slice A1 t.f1.length c1] 74 (0, 0))) ∧ Aside0 (wr.heap[q + 1]? = some (.cells #[.string r.f0, .string r.f1, .string r.f2, .string r.f3, .slice A4 r.f4.length c4, .slice A5 r.f5.length c5] 78 (0, 0))))
        case atStart => exact ⟨0, rfl, by omega, Nat.zero_le _, ⟨rfl⟩, HBr, H1r, H2r⟩
        case round =>
          clear HBr H1r H2r r4 e1 e2 e3 HG HI
          obtain ⟨i, rfl, hi, hil, HI, HBr, H1r, H2r⟩ := hrel
          rename World => wr
          have t0 := blk_cell H1r.out 0
          have t1 := blk_cell H1r.out 1
          have r5 := blk_cell H2r.out 5
          cases gk with
          | zero => omega
          | succ g1 =>
            by_cases hlt : i < r.f5.length
            · have e1 : decide ((i : Int) < (r.f5.length : Int)) = true := decide_eq_true (by omega)
              have e2 : ((i : Int) < (r.f5.length : Int)) = True := eq_true (by omega)
              have e3 : decide (i < r.f5.length) = true := decide_eq_true (by omega)
              have e4 : (0 ≤ (i : Int)) = True := eq_true (by omega)
              have e5 : decide ((i : Int) < 0) = false := decide_eq_false (by omega)
              have e6 : ((i : Int) < 0) = False := eq_false (by omega)
              obtain ⟨o, ho⟩ : ∃ o, rd_T114 r.f5 (i : Int) = o := ⟨_, rfl⟩
              have hoi : r.f5[i] = o := by rw [← ho]; unfold rd_T114; rw [Int.toNat_natCast, List.getD_eq_getElem?_getD, List.getElem?_eq_getElem hlt]; rfl
              obtain ⟨ad, rfl, o0, o1, o2⟩ := at_T114 (Kd.C_below HO.out (bel2 HB0.out HBr.out)) (i : Int) (by omega) (by omega)
              rw [ho, Int.toNat_natCast] at o0 o1 o2
              have hdrop := List.drop_eq_getElem_cons hlt
              rw [hoi] at hdrop
              have HDR := Aside0.mk hdrop
              have hw : IntKind.i64.wrap ((i : Int) + 1) = ((i + 1 : Nat) : Int) := by have := HMO.out; rw [IntKind.wrap_i64]; omega
              have HJ := Aside0.mk (And.intro hi (And.intro hil hlt))
              obtain ⟨w6, e6', h6, b6, z6, k6⟩ := al1 wr #[.int .i64 o.f0, .string o.f1, .string o.f2] 114
              have HX6 := Aside0.mk h6
              have H16 := Aside0.mk (k6 _ _ H1r.out)
              have H26 := Aside0.mk (k6 _ _ H2r.out)
              have HB6 := Aside0.mk (bel2 HBr.out b6)
              have HW := Aside0.mk e6'
              clear ho hi hil hoi hdrop hlt h6 b6 z6 k6 e6'
              go_upto_region 19 with (fail)
              rw [HW.out]
              obtain ⟨p, hp⟩ : ∃ p, wr.heap.size = p := ⟨_, rfl⟩
              rw [hp] at HX6 ⊢
              clear HW hp o0 o1 o2 r5 t0 t1
              have t0 := blk_cell H16.out 0
              have t1 := blk_cell H16.out 1
              have o0 := blk_cell HX6.out 0
              have o1 := blk_cell HX6.out 1
              have o2 := blk_cell HX6.out 2
              by_cases k2 : o.f0 = 2
              · have HK2 := Aside0.mk k2
                rw [k2] at o0
                clear k2
                obtain ⟨ri, hri⟩ : ∃ i, reI t.f1 o.f1 = i := ⟨_, rfl⟩
                have hcall := Rel_c t o.f1 A1 c1 w6 (Kd.C_below HT.out (bel2 HB0.out HB6.out))
                have hrl := idx_lt (nR o.f1) t.f1
                change -1 ≤ reI t.f1 o.f1 ∧ reI t.f1 o.f1 < (t.f1.length : Int) at hrl
                rw [hri] at hcall hrl
                have HRI := Aside0.mk hri
                have HRL := Aside0.mk hrl
                clear hri hrl
                go_wp2_with fail
                refine hcall.mono ?_
                rintro e w7 ⟨rfl, hb⟩
                have HB7 := Aside0.mk (bel2 HB6.out hb)
                have H17 := Aside0.mk ((hb.block _ (blk_lt H16.out)).trans H16.out)
                have H27 := Aside0.mk ((hb.block _ (blk_lt H26.out)).trans H26.out)
                have HX7 := Aside0.mk ((hb.block _ (blk_lt HX6.out)).trans HX6.out)
                clear hb hcall o0 o1 o2 t0 t1 H16 H26 HX6 HB6
                have o0 := blk_cell HX7.out 0
                rw [HK2.out] at o0
                have o1 := blk_cell HX7.out 1
                have o2 := blk_cell HX7.out 2
                have t0 := blk_cell H17.out 0
                have t1 := blk_cell H17.out 1
                by_cases a0 : ri < 0
                · have a1 : decide ((ri : Int) < 0) = true := decide_eq_true a0
                  have a2 : ((ri : Int) < 0) = True := eq_true a0
                  have HA := Aside0.mk a0
                  clear a0
                  have HR : Aside0 (namedG L t r = 31) := ⟨by rw [HS0.out, HI.out, HDR.out, opsG, if_neg (by unfold opG; rw [if_pos HK2.out, HRI.out]; have := HA.out; simp; omega)]⟩
                  go_wp2
                  go_ret
                  exact ⟨by rw [HR.out]; rfl, HB7.out⟩
                have a1 : decide ((ri : Int) < 0) = false := decide_eq_false a0
                have a2 : ((ri : Int) < 0) = False := eq_false a0
                have a3 : decide (0 ≤ (ri : Int)) = true := decide_eq_true (by omega)
                have a4 : (0 ≤ (ri : Int)) = True := eq_true (by omega)
                have HA := Aside0.mk a0
                clear a0
                have HR : Aside0 (opsG L t r.f5 = opsG L t (r.f5.drop (i + 1))) := ⟨by rw [HI.out, HDR.out, opsG, if_pos (by unfold opG; rw [if_pos HK2.out, HRI.out]; have := HA.out; simp; omega)]⟩
                go_wp2
                go_roundg g1
                case measure => omega
                case rel => exact ⟨i + 1, by simp, by have := HJ.out; omega, HJ.out.2.2, HR, HB7, H17, H27⟩
              by_cases k3 : o.f0 = 3
              · have HK2 := Aside0.mk k2
                have HK3 := Aside0.mk k3
                rw [k3] at o0
                clear k2 k3
                obtain ⟨ri, hri⟩ : ∃ i, reI t.f1 o.f1 = i := ⟨_, rfl⟩
                have hcall := Rel_c t o.f1 A1 c1 w6 (Kd.C_below HT.out (bel2 HB0.out HB6.out))
                have hrl := idx_lt (nR o.f1) t.f1
                change -1 ≤ reI t.f1 o.f1 ∧ reI t.f1 o.f1 < (t.f1.length : Int) at hrl
                rw [hri] at hcall hrl
                have HRI := Aside0.mk hri
                have HRL := Aside0.mk hrl
                clear hri hrl
                go_wp2_with fail
                refine hcall.mono ?_
                rintro e w7 ⟨rfl, hb⟩
                have HB7 := Aside0.mk (bel2 HB6.out hb)
                have H17 := Aside0.mk ((hb.block _ (blk_lt H16.out)).trans H16.out)
                have H27 := Aside0.mk ((hb.block _ (blk_lt H26.out)).trans H26.out)
                have HX7 := Aside0.mk ((hb.block _ (blk_lt HX6.out)).trans HX6.out)
                clear hb hcall o0 o1 o2 t0 t1 H16 H26 HX6 HB6
                have o0 := blk_cell HX7.out 0
                rw [HK3.out] at o0
                have o1 := blk_cell HX7.out 1
                have o2 := blk_cell HX7.out 2
                have t0 := blk_cell H17.out 0
                have t1 := blk_cell H17.out 1
                by_cases a0 : ri < 0
                · have a1 : decide ((ri : Int) < 0) = true := decide_eq_true a0
                  have a2 : ((ri : Int) < 0) = True := eq_true a0
                  have HA := Aside0.mk a0
                  clear a0
                  have HR : Aside0 (namedG L t r = 31) := ⟨by rw [HS0.out, HI.out, HDR.out, opsG, if_neg (by unfold opG; rw [if_neg HK2.out, if_pos HK3.out, HRI.out, decide_eq_false (by have := HA.out; omega), Bool.false_and]; decide)]⟩
                  go_wp2
                  go_ret
                  exact ⟨by rw [HR.out]; rfl, HB7.out⟩
                obtain ⟨m, rfl⟩ := Int.eq_ofNat_of_zero_le (show 0 ≤ ri by omega)
                have hm : m < t.f1.length := by have := HRL.out; omega
                obtain ⟨V, hV⟩ : ∃ V, rd_T78 t.f1 (m : Int) = V := ⟨_, rfl⟩
                have HOP : Aside0 (opG L t o = V.f4.any (leadG L o.f2)) := ⟨by unfold opG; rw [if_neg HK2.out, if_pos HK3.out, HRI.out, hV, decide_eq_true (by omega)]; rfl⟩
                obtain ⟨av, A6, c6, A7, c7, hav, v0, v1, v2, v3, v4, v5, v6, hC6, v7, hC7⟩ := at_T78 HT.out (m : Int) (by omega) (by omega)
                rw [hV] at v4 hC6
                rw [Int.toNat_natCast] at v4
                subst hav
                have HV4 := Aside0.mk v4
                have HC6 := Aside0.mk hC6
                have HM6 : Aside0 (V.f4.length ≤ 9223372036854775807) := ⟨Kd.C_max hC6⟩
                have m1 : decide ((m : Int) < (t.f1.length : Int)) = true := decide_eq_true (by omega)
                have m2 : ((m : Int) < (t.f1.length : Int)) = True := eq_true (by omega)
                have m3 : decide (m < t.f1.length) = true := decide_eq_true (by omega)
                have m7 : decide (0 ≤ (m : Int)) = true := decide_eq_true (by omega)
                have m4 : (0 ≤ (m : Int)) = True := eq_true (by omega)
                have m5 : decide ((m : Int) < 0) = false := decide_eq_false (by omega)
                have m6 : ((m : Int) < 0) = False := eq_false (by omega)
                clear hV v0 v1 v2 v3 v5 v6 v7 hC6 hC7 v4 hm a0
                go_wp2
                go_loopg [14, 15] (V.f4.length + 1) (fun gg s14 s15 wq => ∃ (j : Nat) (b : Bool), s15 = .int .i64 j ∧ s14 = .bool b ∧ j + gg = V.f4.length + 1 ∧ j ≤ V.f4.length ∧ Aside0 ((V.f4.take j).any (leadG L o.f2) = b) ∧ Aside0 (Below w.heap.size w wq) ∧ Aside0 (wq.heap[q]? = some (.cells #[.string t.f0, .slice (some av) t.f1.length c1] 74 (0, 0))) ∧ Aside0 (wq.heap[q + 1]? = some (.cells #[.string r.f0, .string r.f1, .string r.f2, .string r.f3, .slice A4 r.f4.length c4, .slice (some ad) r.f5.length c5] 78 (0, 0))) ∧ Aside0 (wq.heap[p]? = some (.cells #[.int .i64 o.f0, .string o.f1, .string o.f2] 114 (0, 0))))
                case atStart => exact ⟨0, false, rfl, rfl, by omega, Nat.zero_le _, ⟨by simp⟩, HB7, H17, H27, HX7⟩
                case round =>
                  clear HB7 H17 H27 HX7 o0 o1 o2 t0 t1
                  obtain ⟨j, b, rfl, rfl, hj, hjl, HJB, HBq, H1q, H2q, HXq⟩ := hrel
                  rename World => wq
                  have t1 := blk_cell H1q.out 1
                  have o2 := blk_cell HXq.out 2
                  have v4 := pw_cell_below (bel2 HB0.out HBq.out) HV4.out
                  cases gk with
                  | zero => omega
                  | succ g2 =>
                    by_cases hjt : j < V.f4.length
                    · have f1 : decide ((j : Int) < (V.f4.length : Int)) = true := decide_eq_true (by omega)
                      have f2 : ((j : Int) < (V.f4.length : Int)) = True := eq_true (by omega)
                      have f3 : decide (j < V.f4.length) = true := decide_eq_true (by omega)
                      have f4 : (0 ≤ (j : Int)) = True := eq_true (by omega)
                      have f5 : decide ((j : Int) < 0) = false := decide_eq_false (by omega)
                      have f6 : ((j : Int) < 0) = False := eq_false (by omega)
                      obtain ⟨x, hx⟩ : ∃ x, rd_T113 V.f4 (j : Int) = x := ⟨_, rfl⟩
                      have hxj : V.f4[j] = x := by rw [← hx]; unfold rd_T113; rw [Int.toNat_natCast, List.getD_eq_getElem?_getD, List.getElem?_eq_getElem hjt]; rfl
                      obtain ⟨ax, hax, s0, s1⟩ := at_T113 (Kd.C_below HC6.out (bel2 HB0.out HBq.out)) (j : Int) (by omega) (by omega)
                      rw [hx, Int.toNat_natCast] at s0 s1
                      subst hax
                      have HTK : Aside0 (V.f4.take (j + 1) = V.f4.take j ++ [x]) := ⟨by rw [← List.take_append_getElem hjt, hxj]⟩
                      have hw2 : IntKind.i64.wrap ((j : Int) + 1) = ((j + 1 : Nat) : Int) := by have := HM6.out; rw [IntKind.wrap_i64]; omega
                      have HJ2 := Aside0.mk (And.intro hj (And.intro hjl hjt))
                      obtain ⟨w8, e8, h8, b8, z8, k8⟩ := al1 wq #[.string x.f0, .string x.f1] 113
                      have HX8 := Aside0.mk h8
                      have H18 := Aside0.mk (k8 _ _ H1q.out)
                      have H28 := Aside0.mk (k8 _ _ H2q.out)
                      have HO8 := Aside0.mk (k8 _ _ HXq.out)
                      have HB8 := Aside0.mk (bel2 HBq.out b8)
                      have HW := Aside0.mk e8
                      clear hx hj hjl hxj hjt h8 b8 z8 k8 e8
                      go_upto_region 29 with (fail)
                      rw [HW.out]
                      obtain ⟨p2, hp2⟩ : ∃ p, wq.heap.size = p := ⟨_, rfl⟩
                      rw [hp2] at HX8 ⊢
                      clear HW hp2 s0 s1 t1 v4 o2
                      have s0 := blk_cell HX8.out 0
                      have s1 := blk_cell HX8.out 1
                      have o2 := blk_cell HO8.out 2
                      obtain ⟨hg, hhg⟩ : ∃ b, hasG L x.f0 o.f2 = b := ⟨_, rfl⟩
                      have hcall := Has_c L x.f0 o.f2 A c w0 w8 (bel2 HB0.out HB8.out) HC.out
                      rw [hhg] at hcall
                      have HHG := Aside0.mk hhg
                      clear hhg
                      go_wp2_with fail
                      refine hcall.mono ?_
                      rintro e w9 ⟨rfl, hb⟩
                      have HB9 := Aside0.mk (bel2 HB8.out hb)
                      have H19 := Aside0.mk ((hb.block _ (blk_lt H18.out)).trans H18.out)
                      have H29 := Aside0.mk ((hb.block _ (blk_lt H28.out)).trans H28.out)
                      have HO9 := Aside0.mk ((hb.block _ (blk_lt HO8.out)).trans HO8.out)
                      have HX9 := Aside0.mk ((hb.block _ (blk_lt HX8.out)).trans HX8.out)
                      clear hb hcall s0 s1 o2 H18 H28 HX8 HO8 HB8
                      have s1 := blk_cell HX9.out 1
                      cases b with
                      | true =>
                        have HE : Aside0 ((V.f4.take (j + 1)).any (leadG L o.f2) = true) := ⟨by rw [HTK.out, List.any_append, HJB.out]; simp only [List.any_cons, List.any_nil, Bool.or_false, Bool.false_or, Bool.true_or]; first | rfl | skip⟩
                        go_wp2
                        go_roundg g2
                        case measure => omega
                        case rel => exact ⟨j + 1, true, by simp, rfl, by have := HJ2.out; omega, HJ2.out.2.2, HE, HB9, H19, H29, HO9⟩
                      | false =>
                        cases g0 : (x.f1.toList == ([] : List UInt8)) with
                        | false =>
                          have HE : Aside0 ((V.f4.take (j + 1)).any (leadG L o.f2) = false) := ⟨by rw [HTK.out, List.any_append, HJB.out]; simp only [List.any_cons, List.any_nil, Bool.or_false, Bool.false_or, Bool.true_or]; unfold leadG; rw [g0]; rfl⟩
                          go_wp2
                          go_roundg g2
                          case measure => omega
                          case rel => exact ⟨j + 1, false, by simp, rfl, by have := HJ2.out; omega, HJ2.out.2.2, HE, HB9, H19, H29, HO9⟩
                        | true =>
                          cases hg with
                          | false =>
                            have HE : Aside0 ((V.f4.take (j + 1)).any (leadG L o.f2) = false) := ⟨by rw [HTK.out, List.any_append, HJB.out]; simp only [List.any_cons, List.any_nil, Bool.or_false, Bool.false_or, Bool.true_or]; unfold leadG; rw [g0, HHG.out]; rfl⟩
                            go_wp2
                            go_roundg g2
                            case measure => omega
                            case rel => exact ⟨j + 1, false, by simp, rfl, by have := HJ2.out; omega, HJ2.out.2.2, HE, HB9, H19, H29, HO9⟩
                          | true =>
                            have HE : Aside0 ((V.f4.take (j + 1)).any (leadG L o.f2) = true) := ⟨by rw [HTK.out, List.any_append, HJB.out]; simp only [List.any_cons, List.any_nil, Bool.or_false, Bool.false_or, Bool.true_or]; unfold leadG; rw [g0, HHG.out]; rfl⟩
                            go_wp2
                            go_roundg g2
                            case measure => omega
                            case rel => exact ⟨j + 1, true, by simp, rfl, by have := HJ2.out; omega, HJ2.out.2.2, HE, HB9, H19, H29, HO9⟩
                    · have f1 : decide ((j : Int) < (V.f4.length : Int)) = false := decide_eq_false (by omega)
                      have f2 : ((j : Int) < (V.f4.length : Int)) = False := eq_false (by omega)
                      have f3 : decide (j < V.f4.length) = false := decide_eq_false (by omega)
                      have HE : Aside0 (opG L t o = b) := ⟨by rw [HOP.out, ← HJB.out, List.take_of_length_le (by omega)]⟩
                      clear hj hjl hjt
                      cases b with
                      | false =>
                        have HR : Aside0 (namedG L t r = 31) := ⟨by rw [HS0.out, HI.out, HDR.out, opsG, if_neg (by rw [HE.out]; decide)]⟩
                        go_wp2
                        go_ret
                        exact ⟨by rw [HR.out]; rfl, HBq.out⟩
                      | true =>
                        have HR : Aside0 (opsG L t r.f5 = opsG L t (r.f5.drop (i + 1))) := ⟨by rw [HI.out, HDR.out, opsG, if_pos (by exact HE.out)]⟩
                        go_wp2
                        go_roundg g1
                        case measure => omega
                        case rel => exact ⟨i + 1, by simp, by have := HJ.out; omega, HJ.out.2.2, HR, HBq, H1q, H2q⟩
              have n2 : (o.f0 != 2) = true := bne_iff_ne.mpr k2
              have n3 : (o.f0 != 3) = true := bne_iff_ne.mpr k3
              have HK2 := Aside0.mk k2
              have HK3 := Aside0.mk k3
              clear k2 k3
              have HR : Aside0 (opsG L t r.f5 = opsG L t (r.f5.drop (i + 1))) := ⟨by rw [HI.out, HDR.out, opsG, if_pos (by unfold opG; rw [if_neg HK2.out, if_neg HK3.out])]⟩
              go_wp2
              go_roundg g1
              case measure => omega
              case rel => exact ⟨i + 1, by simp, by have := HJ.out; omega, HJ.out.2.2, HR, HB6, H16, H26⟩
            · have e1 : decide ((i : Int) < (r.f5.length : Int)) = false := decide_eq_false (by omega)
              have e2 : ((i : Int) < (r.f5.length : Int)) = False := eq_false (by omega)
              have e3 : decide (i < r.f5.length) = false := decide_eq_false (by omega)
              have HR : Aside0 (namedG L t r = 0) := ⟨by rw [HS0.out, HI.out, List.drop_eq_nil_of_le (by omega), opsG]⟩
              clear hlt hi hil
              go_wp2
              go_ret
              exact ⟨by rw [HR.out]; rfl, HBr.out⟩
end Go.Proofs.YtkgnhghaiopgcaaDoor.Rf
