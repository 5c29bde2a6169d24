/- The walks of package doormanref09: Type, Rel, Has, named, Check, and what they come to, in plain Lean; no condition. -/
import Derived.Test.YtkgnhghaiopgcaaDoorRf
set_option linter.unusedVariables false
set_option linter.unusedSimpArgs false
namespace Go.Proofs.YtkgnhghaiopgcaaDoor.Rf
open Go.RowKit Go.Maps Go.Proofs.YtkgnhghaiopgcaaDoorW.PrintWords Go.Proofs.YtkgnhghaiopgcaaDoorW.PrintLast Go.Proofs.YtkgnhghaiopgcaaDoor.X Go.Proofs.YtkgnhghaiopgcaaDoor.Kx Go.Proofs.YtkgnhghaiopgcaaDoor.Ps Go.Proofs.YtkgnhghaiopgcaaDoor.Ck Go.Proofs.YtkgnhghaiopgcaaDoor.Cw Go.Proofs.YtkgnhghaiopgcaaDoor.Of

def pathG (t : RT) (r : RR) : ByteArray := t.f0 ++ ⟨#[46]⟩ ++ r.f0
def relGF (t : RT) : List RR → Nat → Option (Int × ByteArray)
  | [], _ => none
  | r :: rs, k => if reI t.f1 r.f0 < (k : Int) then some (32, pathG t r) else if 16 < r.f5.length then some (13, pathG t r) else relGF t rs (k + 1)
def countGF (L : List RT) : List RT → Nat → Option (Int × ByteArray)
  | [], _ => none
  | t :: ts, i => if tyI L t.f0 < (i : Int) then some (32, t.f0) else if 12 < t.f1.length then some (13, t.f0) else (relGF t t.f1 0).or (countGF L ts (i + 1))
def namesGF (L : List RT) (t : RT) : List RR → Option (Int × ByteArray)
  | [] => none
  | r :: rs => if namedG L t r ≠ 0 then some (namedG L t r, pathG t r) else namesGF L t rs
def typesGF (L : List RT) : List RT → Option (Int × ByteArray)
  | [] => none
  | t :: ts => (namesGF L t t.f1).or (typesGF L ts)
def checkG (L : List RT) : Int × ByteArray := if 8 < L.length then (13, ⟨#[]⟩) else ((countGF L L 0).or (typesGF L L)).getD (0, ⟨#[]⟩)
set_option maxHeartbeats 16000000 in
set_option maxRecDepth 100000 in
theorem Check_c (L : List RT) (A : Option Addr) (c : Nat) (w : World) (hC : Kd.C k74 w A L.length L) (hz : ∀ t ∈ L, ∀ r ∈ t.f1, t.f0.size + r.f0.size + 1 ≤ 9223372036854775807) :
    Calls Tryd.prog 42 #[.slice A L.length c] w fun e w' => e = .returned (.tuple #[.int .i64 (checkG L).1, .string (checkG L).2]) ∧ Below w.heap.size w w' := by
  have HC := Aside0.mk hC
  have HZ := Aside0.mk hz
  have HM : Aside0 (L.length ≤ 9223372036854775807) := ⟨Kd.C_max hC⟩
  clear hC hz
  by_cases h8 : 8 < L.length
  · have HR : Aside0 (checkG L = (13, ⟨#[]⟩)) := ⟨by unfold checkG; rw [if_pos h8]⟩
    have d1 : decide ((8 : Int) < (L.length : Int)) = true := decide_eq_true (by omega)
    have d2 : ((8 : Int) < (L.length : Int)) = True := eq_true (by omega)
    have d3 : decide (8 < L.length) = true := decide_eq_true (by omega)
    clear h8
    go_enter Tryd.func42, Tryd.ntmps42
    go_wp2_with fail
    go_ret2
    exact ⟨by rw [HR.out]; rfl, Below.refl _ _⟩
  have HG : Aside0 (checkG L = ((countGF L L 0).or (typesGF L L)).getD (0, ⟨#[]⟩)) := ⟨by unfold checkG; rw [if_neg h8]⟩
  have d1 : decide ((8 : Int) < (L.length : Int)) = false := decide_eq_false (by omega)
  have d2 : ((8 : Int) < (L.length : Int)) = False := eq_false (by omega)
  have d3 : decide (8 < L.length) = false := decide_eq_false (by omega)
  clear h8
  go_enter Tryd.func42, Tryd.ntmps42
  go_wp2_with fail
  clear d1 d2 d3
  go_loopg [4] (L.length + 1) (fun gg s4 wr => ∃ i : Nat, s4 = .int .i64 i ∧ i + gg = L.length + 1 ∧ i ≤ L.length ∧ Aside0 (countGF L L 0 = countGF L (L.drop i) i) ∧ Aside0 (Below w.heap.size w wr))
  case atStart => exact ⟨0, rfl, by omega, Nat.zero_le _, ⟨rfl⟩, ⟨Below.refl _ _⟩⟩
  case round =>
    obtain ⟨i, rfl, hi, hil, HI, HB⟩ := hrel
    rename World => wr
    cases gk with
    | zero => omega
    | succ g1 =>
      by_cases hlt : i < L.length
      · have e1 : decide ((i : Int) < (L.length : Int)) = true := decide_eq_true (by omega)
        have e2 : ((i : Int) < (L.length : Int)) = True := eq_true (by omega)
        have e3 : decide (i < L.length) = true := decide_eq_true (by omega)
        have e7 : decide (0 ≤ (i : Int)) = true := decide_eq_true (by omega)
        have e4 : (0 ≤ (i : Int)) = True := eq_true (by omega)
        have e5 : decide ((i : Int) < 0) = false := decide_eq_false (by omega)
        have e6 : ((i : Int) < 0) = False := eq_false (by omega)
        obtain ⟨T, hT⟩ : ∃ T, rd_T74 L (i : Int) = T := ⟨_, rfl⟩
        have hTi : L[i] = T := by rw [← hT]; unfold rd_T74; rw [Int.toNat_natCast, List.getD_eq_getElem?_getD, List.getElem?_eq_getElem hlt]; rfl
        obtain ⟨ad, A1, c1, hA, r0, r1, r2, hC1⟩ := at_T74 HC.out (i : Int) (by omega) (by omega)
        subst hA
        rw [hT] at r0 r1 r2 hC1
        rw [Int.toNat_natCast] at r0 r1
        have R0 := Aside0.mk r0
        have R1 := Aside0.mk r1
        have HC1 := Aside0.mk hC1
        have HMT : Aside0 (T.f1.length ≤ 9223372036854775807) := ⟨Kd.C_max hC1⟩
        have HTm : Aside0 (T ∈ L) := ⟨by rw [← hTi]; exact List.getElem_mem hlt⟩
        have hdrop := List.drop_eq_getElem_cons hlt
        rw [hTi] at hdrop
        have HDR := Aside0.mk hdrop
        have hw : IntKind.i64.wrap ((i : Int) + 1) = ((i + 1 : Nat) : Int) := by have := HM.out; rw [IntKind.wrap_i64]; omega
        have HJ := Aside0.mk (And.intro hi (And.intro hil hlt))
        clear hT hTi hi hil hlt hdrop r2 hC1 r0 r1
        have r0 := pw_cell_below HB.out R0.out
        have r1 := pw_cell_below HB.out R1.out
        obtain ⟨ti, hti⟩ : ∃ j, tyI L T.f0 = j := ⟨_, rfl⟩
        have hcall := Type_c L T.f0 (some ad) c wr (Kd.C_below HC.out HB.out)
        rw [hti] at hcall
        have HTI := Aside0.mk hti
        clear hti
        by_cases a0 : ti < (i : Int)
        · have a1 : decide ((ti : Int) < (i : Int)) = true := decide_eq_true a0
          have a2 : ((ti : Int) < (i : Int)) = True := eq_true a0
          have HRc : Aside0 (countGF L L 0 = some (32, T.f0)) := ⟨by rw [HI.out, HDR.out, countGF, HTI.out, if_pos a0]⟩
          have HR : Aside0 (checkG L = (32, T.f0)) := ⟨by rw [HG.out, HRc.out]; rfl⟩
          clear a0
          go_wp2_with fail
          refine hcall.mono ?_
          rintro e w2 ⟨rfl, hb⟩
          have HB2 := Aside0.mk (bel2 HB.out hb)
          clear hb hcall r0 r1 HB
          have r0 := pw_cell_below HB2.out R0.out
          have r1 := pw_cell_below HB2.out R1.out
          go_wp2_with fail
          go_quiet (fail)
          have HBq : Aside0 (Below w.heap.size w (w2.drewN nq)) := ⟨pw_below_drewN HB2.out nq⟩
          obtain ⟨wq, hwq⟩ : ∃ wq, w2.drewN nq = wq := ⟨_, rfl⟩
          rw [hwq] at HBq ⊢
          clear hwq
          go_wp2_with fail
          go_ret2
          exact ⟨by rw [HR.out]; rfl, HBq.out⟩
        have a1 : decide ((ti : Int) < (i : Int)) = false := decide_eq_false a0
        have a2 : ((ti : Int) < (i : Int)) = False := eq_false a0
        have HCF : Aside0 (countGF L L 0 = if 12 < T.f1.length then some (13, T.f0) else (relGF T T.f1 0).or (countGF L (L.drop (i + 1)) (i + 1))) := ⟨by rw [HI.out, HDR.out, countGF, HTI.out, if_neg a0]⟩
        clear a0 HI
        by_cases h12 : 12 < T.f1.length
        · have HRc : Aside0 (countGF L L 0 = some (13, T.f0)) := ⟨by rw [HCF.out, if_pos h12]⟩
          have HR : Aside0 (checkG L = (13, T.f0)) := ⟨by rw [HG.out, HRc.out]; rfl⟩
          have b1 : decide ((12 : Int) < (T.f1.length : Int)) = true := decide_eq_true (by omega)
          have b2 : ((12 : Int) < (T.f1.length : Int)) = True := eq_true (by omega)
          have b3 : decide (12 < T.f1.length) = true := decide_eq_true (by omega)
          clear h12
          go_wp2_with fail
          refine hcall.mono ?_
          rintro e w2 ⟨rfl, hb⟩
          have HB2 := Aside0.mk (bel2 HB.out hb)
          clear hb hcall r0 r1 HB
          have r0 := pw_cell_below HB2.out R0.out
          have r1 := pw_cell_below HB2.out R1.out
          go_wp2_with fail
          go_quiet (fail)
          have HBq : Aside0 (Below w.heap.size w (w2.drewN nq)) := ⟨pw_below_drewN HB2.out nq⟩
          obtain ⟨wq, hwq⟩ : ∃ wq, w2.drewN nq = wq := ⟨_, rfl⟩
          rw [hwq] at HBq ⊢
          clear hwq
          go_wp2_with fail
          go_ret2
          exact ⟨by rw [HR.out]; rfl, HBq.out⟩
        have HCR : Aside0 (countGF L L 0 = (relGF T T.f1 0).or (countGF L (L.drop (i + 1)) (i + 1))) := ⟨by rw [HCF.out, if_neg h12]⟩
        have b1 : decide ((12 : Int) < (T.f1.length : Int)) = false := decide_eq_false (by omega)
        have b2 : ((12 : Int) < (T.f1.length : Int)) = False := eq_false (by omega)
        have b3 : decide (12 < T.f1.length) = false := decide_eq_false (by omega)
        clear h12 HCF
        go_wp2_with fail
        refine hcall.mono ?_
        rintro e w2 ⟨rfl, hb⟩
        have HB2 := Aside0.mk (bel2 HB.out hb)
        clear hb hcall r0 r1 HB
        have r0 := pw_cell_below HB2.out R0.out
        have r1 := pw_cell_below HB2.out R1.out
        go_wp2_with fail
        clear a1 a2 b1 b2 b3 r0 r1
        go_loopg [5] (T.f1.length + 1) (fun gg s5 wy => ∃ k : Nat, s5 = .int .i64 k ∧ k + gg = T.f1.length + 1 ∧ k ≤ T.f1.length ∧ Aside0 (relGF T T.f1 0 = relGF T (T.f1.drop k) k) ∧ Aside0 (Below w.heap.size w wy))
        case atStart => exact ⟨0, rfl, by omega, Nat.zero_le _, ⟨rfl⟩, HB2⟩
        case round =>
          clear HB2
          obtain ⟨k, rfl, hk, hkl, HK, HBy⟩ := hrel
          rename World => wy
          have r0 := pw_cell_below HBy.out R0.out
          have r1 := pw_cell_below HBy.out R1.out
          cases gk with
          | zero => omega
          | succ g2 =>
            by_cases hkt : k < T.f1.length
            · have f1 : decide ((k : Int) < (T.f1.length : Int)) = true := decide_eq_true (by omega)
              have f2 : ((k : Int) < (T.f1.length : Int)) = True := eq_true (by omega)
              have f3 : decide (k < T.f1.length) = true := decide_eq_true (by omega)
              have f7 : decide (0 ≤ (k : Int)) = true := decide_eq_true (by omega)
              have f4 : (0 ≤ (k : Int)) = True := eq_true (by omega)
              have f5 : decide ((k : Int) < 0) = false := decide_eq_false (by omega)
              have f6 : ((k : Int) < 0) = False := eq_false (by omega)
              obtain ⟨R, hR⟩ : ∃ R, rd_T78 T.f1 (k : Int) = R := ⟨_, rfl⟩
              have hRk : T.f1[k] = R := by rw [← hR]; unfold rd_T78; rw [Int.toNat_natCast, List.getD_eq_getElem?_getD, List.getElem?_eq_getElem hkt]; rfl
              obtain ⟨ae, A4, k4, A5, k5, hA2, q0, q1, q2, q3, q4, q5, q6, hC4, q7, hC5⟩ := at_T78 HC1.out (k : Int) (by omega) (by omega)
              subst hA2
              rw [hR] at q0 q1 q2 q3 q4 q5 hC4 hC5
              rw [Int.toNat_natCast] at q0 q1 q2 q3 q4 q5
              have HQ : Aside0 (w.cell? (ae.add (k * 6)) = some (.string R.f0) ∧ w.cell? ⟨(ae.add (k * 6)).block, (ae.add (k * 6)).off + 1, none⟩ = some (.string R.f1) ∧ w.cell? ⟨(ae.add (k * 6)).block, (ae.add (k * 6)).off + 2, none⟩ = some (.string R.f2) ∧ w.cell? ⟨(ae.add (k * 6)).block, (ae.add (k * 6)).off + 3, none⟩ = some (.string R.f3) ∧ w.cell? ⟨(ae.add (k * 6)).block, (ae.add (k * 6)).off + 4, none⟩ = some (.slice A4 R.f4.length k4) ∧ w.cell? ⟨(ae.add (k * 6)).block, (ae.add (k * 6)).off + 5, none⟩ = some (.slice A5 R.f5.length k5)) := ⟨⟨q0, q1, q2, q3, q4, q5⟩⟩
              have HC4 := Aside0.mk hC4
              have HC5 := Aside0.mk hC5
              have HRm : Aside0 (R ∈ T.f1) := ⟨by rw [← hRk]; exact List.getElem_mem hkt⟩
              have hdrop := List.drop_eq_getElem_cons hkt
              rw [hRk] at hdrop
              have HDK := Aside0.mk hdrop
              have hw2 : IntKind.i64.wrap ((k : Int) + 1) = ((k + 1 : Nat) : Int) := by have := HMT.out; rw [IntKind.wrap_i64]; omega
              have HJ2 := Aside0.mk (And.intro hk (And.intro hkl hkt))
              clear hR hRk hk hkl hkt hdrop q0 q1 q2 q3 q4 q5 q6 q7 hC4 hC5
              obtain ⟨q0, q1, q2, q3, q4, q5⟩ := HQ.out
              replace q0 := pw_cell_below HBy.out q0
              replace q1 := pw_cell_below HBy.out q1
              replace q2 := pw_cell_below HBy.out q2
              replace q3 := pw_cell_below HBy.out q3
              replace q4 := pw_cell_below HBy.out q4
              replace q5 := pw_cell_below HBy.out q5
              obtain ⟨w3, e3', h3, b3, z3, k3⟩ := al1 wy #[.string R.f0, .string R.f1, .string R.f2, .string R.f3, .slice A4 R.f4.length k4, .slice A5 R.f5.length k5] 78
              have HX3 := Aside0.mk h3
              have HB3 := Aside0.mk (bel2 HBy.out b3)
              have HW := Aside0.mk e3'
              clear h3 b3 z3 k3 e3'
              go_upto_region 14 with (fail)
              rw [HW.out]
              obtain ⟨p, hp⟩ : ∃ p, wy.heap.size = p := ⟨_, rfl⟩
              rw [hp] at HX3 ⊢
              clear HW hp q0 q1 q2 q3 q4 q5 r0 r1 HBy
              have HBd : Aside0 (Below w.heap.size w w3.drew) := ⟨HB3.out.drew⟩
              have HXd : Aside0 (w3.drew.heap[p]? = some (.cells #[.string R.f0, .string R.f1, .string R.f2, .string R.f3, .slice A4 R.f4.length k4, .slice A5 R.f5.length k5] 78 (0, 0))) := ⟨HX3.out⟩
              have N0 := Aside0.mk (pw_cell_below HBd.out R0.out)
              have N1 := Aside0.mk (pw_cell_below HBd.out R1.out)
              obtain ⟨ri, hri⟩ : ∃ j, reI T.f1 R.f0 = j := ⟨_, rfl⟩
              have hcall := Rel_c T R.f0 (some ae) c1 w3.drew (Kd.C_below HC1.out HBd.out)
              rw [hri] at hcall
              have HRI := Aside0.mk hri
              clear hri HB3 HX3
              by_cases a0 : ri < (k : Int)
              · have a1 : decide ((ri : Int) < (k : Int)) = true := decide_eq_true a0
                have a2 : ((ri : Int) < (k : Int)) = True := eq_true a0
                have HRc : Aside0 (countGF L L 0 = some (32, pathG T R)) := ⟨by rw [HCR.out, HK.out, HDK.out, relGF, HRI.out, if_pos a0]; rfl⟩
                have HR : Aside0 (checkG L = (32, pathG T R)) := ⟨by rw [HG.out, HRc.out]; rfl⟩
                clear a0
                have hzz := HZ.out T HTm.out R HRm.out
                have s1 : (9223372036854775807 < T.f0.size + 1) = False := eq_false (by omega)
                have s2 : (9223372036854775807 < T.f0.size + 1 + R.f0.size) = False := eq_false (by omega)
                have s3 : (T.f0.size + 1 ≤ 9223372036854775807) = True := eq_true (by omega)
                have s4 : (T.f0.size + 1 + R.f0.size ≤ 9223372036854775807) = True := eq_true (by omega)
                clear hzz
                refine start_ (n := 9) (S := fun w' => w'.cell? (ad.add (i * 2)) = some (.string T.f0) ∧ w'.cell? ⟨(ad.add (i * 2)).block, (ad.add (i * 2)).off + 1, none⟩ = some (.slice (some ae) T.f1.length c1) ∧ w'.cell? ⟨p, 0, none⟩ = some (.string R.f0)) (ds := []) #[false, false, false, false, false, false, false, false, false] (by kernel_rfl) rfl rfl ⟨N0.out, N1.out, blk_cell HXd.out 0⟩ (fun hHeld => ?_)
                generalize w3.drew = w7 at HBd HXd N0 N1 hcall hHeld ⊢
                refine pure_ (i := 0) (N := some 63) (v := ?_) (a' := ?_) #[true, false, false, false, false, false, false, false, false] rfl rfl (by kernel_rfl) (fun _ _ _ h => h) (Or.inl ⟨by rfl, ?_⟩) ?_ ?_
                rotate_left
                · intro w'
                  go_simp
                  with_reducible rfl
                rotate_left
                · simp only [Act.put, List.setIfInBounds_toArray, List.set_cons_zero, List.set_cons_succ, i64_w, i32_w]
                  rfl
                refine pure_ (i := 1) (N := some 64) (v := ?_) (a' := ?_) #[true, true, false, false, false, false, false, false, false] rfl rfl (by kernel_rfl) (fun _ _ _ h => h) (Or.inl ⟨by rfl, ?_⟩) ?_ ?_
                rotate_left
                · intro w'
                  go_simp
                  with_reducible rfl
                rotate_left
                · simp only [Act.put, List.setIfInBounds_toArray, List.set_cons_zero, List.set_cons_succ, i64_w, i32_w]
                  rfl
                refine pure_ (i := 2) (N := some 65) (v := ?_) (a' := ?_) #[true, true, true, false, false, false, false, false, false] rfl rfl (by kernel_rfl) (fun _ _ _ h => h) (Or.inl ⟨by rfl, ?_⟩) ?_ ?_
                rotate_left
                · intro w'
                  go_simp
                  with_reducible rfl
                rotate_left
                · simp only [Act.put, List.setIfInBounds_toArray, List.set_cons_zero, List.set_cons_succ, i64_w, i32_w]
                  rfl
                refine pure_ (i := 4) (N := some 67) (v := ?_) (a' := ?_) #[true, true, true, false, true, false, false, false, false] rfl rfl (by kernel_rfl) (fun _ _ _ h => h) (Or.inl ⟨by rfl, ?_⟩) ?_ ?_
                rotate_left
                · intro w'
                  go_simp
                  with_reducible rfl
                rotate_left
                · simp only [Act.put, List.setIfInBounds_toArray, List.set_cons_zero, List.set_cons_succ, i64_w, i32_w]
                  rfl
                refine pure_ (i := 7) (N := some 70) (v := ?_) (a' := ?_) #[true, true, true, false, true, false, false, true, false] rfl rfl (by kernel_rfl) (fun _ _ _ h => h) (Or.inl ⟨by rfl, ?_⟩) ?_ ?_
                rotate_left
                · intro w'
                  go_simp
                  with_reducible rfl
                rotate_left
                · simp only [Act.put, List.setIfInBounds_toArray, List.set_cons_zero, List.set_cons_succ, i64_w, i32_w]
                  rfl
                refine take_ (i := 3) (N := some 66) (v := ?_) (a' := ?_) #[true, true, true, true, true, false, false, true, false] rfl rfl (by kernel_rfl) (fun _ _ _ h => h) (Or.inl ⟨by rfl, ?_⟩) hHeld ?_ ?_
                rotate_left
                · rintro w' ⟨s0, s1, s2⟩
                  go_simp
                  with_reducible rfl
                rotate_left
                · simp only [Act.put, List.setIfInBounds_toArray, List.set_cons_zero, List.set_cons_succ, i64_w, i32_w]
                  rfl
                refine take_ (i := 5) (N := some 68) (v := ?_) (a' := ?_) #[true, true, true, true, true, true, false, true, false] rfl rfl (by kernel_rfl) (fun _ _ _ h => h) (Or.inl ⟨by rfl, ?_⟩) hHeld ?_ ?_
                rotate_left
                · rintro w' ⟨s0, s1, s2⟩
                  go_simp
                  with_reducible rfl
                rotate_left
                · simp only [Act.put, List.setIfInBounds_toArray, List.set_cons_zero, List.set_cons_succ, i64_w, i32_w]
                  rfl
                refine one_ (i := 6) (N := some 69) #[true, true, true, true, true, true, true, true, false] rfl rfl (by kernel_rfl) (by decide) (fun K hK => ?_)
                refine goes_ Tryd.func45 (by kernel_rfl) rfl #[.agg #[.string T.f0, .slice (some ae) T.f1.length c1], .string R.f0] (by rfl) rfl rfl (by simp only [List.map_toArray, List.map_cons, List.map_nil]; rfl) ?_
                refine hcall.mono ?_
                rintro e w8 ⟨rfl, hb7⟩
                refine ⟨_, rfl, ?_⟩
                refine hK.out _ _ ⟨pw_cell_below hb7 hHeld.1, pw_cell_below hb7 hHeld.2.1, pw_cell_below hb7 hHeld.2.2⟩ (fun hHeld => ?_)
                clear hK K
                refine norm_ (a' := ?_) ?_ ?_
                rotate_left
                · show Act.put _ (some 69) _ = _
                  simp only [Act.put, List.setIfInBounds_toArray, List.set_cons_zero, List.set_cons_succ, i64_w, i32_w]
                  rfl
                refine pure_ (i := 8) (N := some 71) (v := ?_) (a' := ?_) #[true, true, true, true, true, true, true, true, true] rfl rfl (by kernel_rfl) (fun _ _ _ h => h) (Or.inl ⟨by rfl, ?_⟩) ?_ ?_
                rotate_left
                · intro w'
                  go_simp
                  with_reducible rfl
                rotate_left
                · simp only [Act.put, List.setIfInBounds_toArray, List.set_cons_zero, List.set_cons_succ, i64_w, i32_w]
                  rfl
                refine done_ (by kernel_rfl) ?_
                have HB8 := Aside0.mk (bel2 HBd.out hb7)
                have HX8 := Aside0.mk ((hb7.block _ (blk_lt HXd.out)).trans HXd.out)
                clear hb7 HBd HXd N0 N1
                have p0 := blk_cell HX8.out 0
                have p5 := blk_cell HX8.out 5
                have r0 := pw_cell_below HB8.out R0.out
                have r1 := pw_cell_below HB8.out R1.out
                go_wp2_with fail
                go_quiet (fail)
                have HBq : Aside0 (Below w.heap.size w (w8.drewN nq)) := ⟨pw_below_drewN HB8.out nq⟩
                obtain ⟨wq, hwq⟩ : ∃ wq, w8.drewN nq = wq := ⟨_, rfl⟩
                rw [hwq] at HBq ⊢
                clear hwq
                go_wp2_with fail
                go_ret2
                exact ⟨by rw [HR.out]; rfl, HBq.out⟩
              have a1 : decide ((ri : Int) < (k : Int)) = false := decide_eq_false a0
              have a2 : ((ri : Int) < (k : Int)) = False := eq_false a0
              have HKF : Aside0 (relGF T T.f1 0 = if 16 < R.f5.length then some (13, pathG T R) else relGF T (T.f1.drop (k + 1)) (k + 1)) := ⟨by rw [HK.out, HDK.out, relGF, HRI.out, if_neg a0]⟩
              clear a0
              by_cases h16 : 16 < R.f5.length
              · have HRc : Aside0 (countGF L L 0 = some (13, pathG T R)) := ⟨by rw [HCR.out, HKF.out, if_pos h16]; rfl⟩
                have HR : Aside0 (checkG L = (13, pathG T R)) := ⟨by rw [HG.out, HRc.out]; rfl⟩
                have b1 : decide ((16 : Int) < (R.f5.length : Int)) = true := decide_eq_true (by omega)
                have b2 : ((16 : Int) < (R.f5.length : Int)) = True := eq_true (by omega)
                have b3 : decide (16 < R.f5.length) = true := decide_eq_true (by omega)
                clear h16
                have hzz := HZ.out T HTm.out R HRm.out
                have s1 : (9223372036854775807 < T.f0.size + 1) = False := eq_false (by omega)
                have s2 : (9223372036854775807 < T.f0.size + 1 + R.f0.size) = False := eq_false (by omega)
                have s3 : (T.f0.size + 1 ≤ 9223372036854775807) = True := eq_true (by omega)
                have s4 : (T.f0.size + 1 + R.f0.size ≤ 9223372036854775807) = True := eq_true (by omega)
                clear hzz
                refine start_ (n := 9) (S := fun w' => w'.cell? (ad.add (i * 2)) = some (.string T.f0) ∧ w'.cell? ⟨(ad.add (i * 2)).block, (ad.add (i * 2)).off + 1, none⟩ = some (.slice (some ae) T.f1.length c1) ∧ w'.cell? ⟨p, 0, none⟩ = some (.string R.f0)) (ds := []) #[false, false, false, false, false, false, false, false, false] (by kernel_rfl) rfl rfl ⟨N0.out, N1.out, blk_cell HXd.out 0⟩ (fun hHeld => ?_)
                generalize w3.drew = w7 at HBd HXd N0 N1 hcall hHeld ⊢
                refine pure_ (i := 0) (N := some 63) (v := ?_) (a' := ?_) #[true, false, false, false, false, false, false, false, false] rfl rfl (by kernel_rfl) (fun _ _ _ h => h) (Or.inl ⟨by rfl, ?_⟩) ?_ ?_
                rotate_left
                · intro w'
                  go_simp
                  with_reducible rfl
                rotate_left
                · simp only [Act.put, List.setIfInBounds_toArray, List.set_cons_zero, List.set_cons_succ, i64_w, i32_w]
                  rfl
                refine pure_ (i := 1) (N := some 64) (v := ?_) (a' := ?_) #[true, true, false, false, false, false, false, false, false] rfl rfl (by kernel_rfl) (fun _ _ _ h => h) (Or.inl ⟨by rfl, ?_⟩) ?_ ?_
                rotate_left
                · intro w'
                  go_simp
                  with_reducible rfl
                rotate_left
                · simp only [Act.put, List.setIfInBounds_toArray, List.set_cons_zero, List.set_cons_succ, i64_w, i32_w]
                  rfl
                refine pure_ (i := 2) (N := some 65) (v := ?_) (a' := ?_) #[true, true, true, false, false, false, false, false, false] rfl rfl (by kernel_rfl) (fun _ _ _ h => h) (Or.inl ⟨by rfl, ?_⟩) ?_ ?_
                rotate_left
                · intro w'
                  go_simp
                  with_reducible rfl
                rotate_left
                · simp only [Act.put, List.setIfInBounds_toArray, List.set_cons_zero, List.set_cons_succ, i64_w, i32_w]
                  rfl
                refine pure_ (i := 4) (N := some 67) (v := ?_) (a' := ?_) #[true, true, true, false, true, false, false, false, false] rfl rfl (by kernel_rfl) (fun _ _ _ h => h) (Or.inl ⟨by rfl, ?_⟩) ?_ ?_
                rotate_left
                · intro w'
                  go_simp
                  with_reducible rfl
                rotate_left
                · simp only [Act.put, List.setIfInBounds_toArray, List.set_cons_zero, List.set_cons_succ, i64_w, i32_w]
                  rfl
                refine pure_ (i := 7) (N := some 70) (v := ?_) (a' := ?_) #[true, true, true, false, true, false, false, true, false] rfl rfl (by kernel_rfl) (fun _ _ _ h => h) (Or.inl ⟨by rfl, ?_⟩) ?_ ?_
                rotate_left
                · intro w'
                  go_simp
                  with_reducible rfl
                rotate_left
                · simp only [Act.put, List.setIfInBounds_toArray, List.set_cons_zero, List.set_cons_succ, i64_w, i32_w]
                  rfl
                refine take_ (i := 3) (N := some 66) (v := ?_) (a' := ?_) #[true, true, true, true, true, false, false, true, false] rfl rfl (by kernel_rfl) (fun _ _ _ h => h) (Or.inl ⟨by rfl, ?_⟩) hHeld ?_ ?_
                rotate_left
                · rintro w' ⟨s0, s1, s2⟩
                  go_simp
                  with_reducible rfl
                rotate_left
                · simp only [Act.put, List.setIfInBounds_toArray, List.set_cons_zero, List.set_cons_succ, i64_w, i32_w]
                  rfl
                refine take_ (i := 5) (N := some 68) (v := ?_) (a' := ?_) #[true, true, true, true, true, true, false, true, false] rfl rfl (by kernel_rfl) (fun _ _ _ h => h) (Or.inl ⟨by rfl, ?_⟩) hHeld ?_ ?_
                rotate_left
                · rintro w' ⟨s0, s1, s2⟩
                  go_simp
                  with_reducible rfl
                rotate_left
                · simp only [Act.put, List.setIfInBounds_toArray, List.set_cons_zero, List.set_cons_succ, i64_w, i32_w]
                  rfl
                refine one_ (i := 6) (N := some 69) #[true, true, true, true, true, true, true, true, false] rfl rfl (by kernel_rfl) (by decide) (fun K hK => ?_)
                refine goes_ Tryd.func45 (by kernel_rfl) rfl #[.agg #[.string T.f0, .slice (some ae) T.f1.length c1], .string R.f0] (by rfl) rfl rfl (by simp only [List.map_toArray, List.map_cons, List.map_nil]; rfl) ?_
                refine hcall.mono ?_
                rintro e w8 ⟨rfl, hb7⟩
                refine ⟨_, rfl, ?_⟩
                refine hK.out _ _ ⟨pw_cell_below hb7 hHeld.1, pw_cell_below hb7 hHeld.2.1, pw_cell_below hb7 hHeld.2.2⟩ (fun hHeld => ?_)
                clear hK K
                refine norm_ (a' := ?_) ?_ ?_
                rotate_left
                · show Act.put _ (some 69) _ = _
                  simp only [Act.put, List.setIfInBounds_toArray, List.set_cons_zero, List.set_cons_succ, i64_w, i32_w]
                  rfl
                refine pure_ (i := 8) (N := some 71) (v := ?_) (a' := ?_) #[true, true, true, true, true, true, true, true, true] rfl rfl (by kernel_rfl) (fun _ _ _ h => h) (Or.inl ⟨by rfl, ?_⟩) ?_ ?_
                rotate_left
                · intro w'
                  go_simp
                  with_reducible rfl
                rotate_left
                · simp only [Act.put, List.setIfInBounds_toArray, List.set_cons_zero, List.set_cons_succ, i64_w, i32_w]
                  rfl
                refine done_ (by kernel_rfl) ?_
                have HB8 := Aside0.mk (bel2 HBd.out hb7)
                have HX8 := Aside0.mk ((hb7.block _ (blk_lt HXd.out)).trans HXd.out)
                clear hb7 HBd HXd N0 N1
                have p0 := blk_cell HX8.out 0
                have p5 := blk_cell HX8.out 5
                have r0 := pw_cell_below HB8.out R0.out
                have r1 := pw_cell_below HB8.out R1.out
                go_wp2_with fail
                go_quiet (fail)
                have HBq : Aside0 (Below w.heap.size w (w8.drewN nq)) := ⟨pw_below_drewN HB8.out nq⟩
                obtain ⟨wq, hwq⟩ : ∃ wq, w8.drewN nq = wq := ⟨_, rfl⟩
                rw [hwq] at HBq ⊢
                clear hwq
                go_wp2_with fail
                go_ret2
                exact ⟨by rw [HR.out]; rfl, HBq.out⟩
              have HRk : Aside0 (relGF T T.f1 0 = relGF T (T.f1.drop (k + 1)) (k + 1)) := ⟨by rw [HKF.out, if_neg h16]⟩
              have b1 : decide ((16 : Int) < (R.f5.length : Int)) = false := decide_eq_false (by omega)
              have b2 : ((16 : Int) < (R.f5.length : Int)) = False := eq_false (by omega)
              have b3 : decide (16 < R.f5.length) = false := decide_eq_false (by omega)
              clear h16
              refine start_ (n := 9) (S := fun w' => w'.cell? (ad.add (i * 2)) = some (.string T.f0) ∧ w'.cell? ⟨(ad.add (i * 2)).block, (ad.add (i * 2)).off + 1, none⟩ = some (.slice (some ae) T.f1.length c1) ∧ w'.cell? ⟨p, 0, none⟩ = some (.string R.f0)) (ds := []) #[false, false, false, false, false, false, false, false, false] (by kernel_rfl) rfl rfl ⟨N0.out, N1.out, blk_cell HXd.out 0⟩ (fun hHeld => ?_)
              generalize w3.drew = w7 at HBd HXd N0 N1 hcall hHeld ⊢
              refine pure_ (i := 0) (N := some 63) (v := ?_) (a' := ?_) #[true, false, false, false, false, false, false, false, false] rfl rfl (by kernel_rfl) (fun _ _ _ h => h) (Or.inl ⟨by rfl, ?_⟩) ?_ ?_
              rotate_left
              · intro w'
                go_simp
                with_reducible rfl
              rotate_left
              · simp only [Act.put, List.setIfInBounds_toArray, List.set_cons_zero, List.set_cons_succ, i64_w, i32_w]
                rfl
              refine pure_ (i := 1) (N := some 64) (v := ?_) (a' := ?_) #[true, true, false, false, false, false, false, false, false] rfl rfl (by kernel_rfl) (fun _ _ _ h => h) (Or.inl ⟨by rfl, ?_⟩) ?_ ?_
              rotate_left
              · intro w'
                go_simp
                with_reducible rfl
              rotate_left
              · simp only [Act.put, List.setIfInBounds_toArray, List.set_cons_zero, List.set_cons_succ, i64_w, i32_w]
                rfl
              refine pure_ (i := 2) (N := some 65) (v := ?_) (a' := ?_) #[true, true, true, false, false, false, false, false, false] rfl rfl (by kernel_rfl) (fun _ _ _ h => h) (Or.inl ⟨by rfl, ?_⟩) ?_ ?_
              rotate_left
              · intro w'
                go_simp
                with_reducible rfl
              rotate_left
              · simp only [Act.put, List.setIfInBounds_toArray, List.set_cons_zero, List.set_cons_succ, i64_w, i32_w]
                rfl
              refine pure_ (i := 4) (N := some 67) (v := ?_) (a' := ?_) #[true, true, true, false, true, false, false, false, false] rfl rfl (by kernel_rfl) (fun _ _ _ h => h) (Or.inl ⟨by rfl, ?_⟩) ?_ ?_
              rotate_left
              · intro w'
                go_simp
                with_reducible rfl
              rotate_left
              · simp only [Act.put, List.setIfInBounds_toArray, List.set_cons_zero, List.set_cons_succ, i64_w, i32_w]
                rfl
              refine pure_ (i := 7) (N := some 70) (v := ?_) (a' := ?_) #[true, true, true, false, true, false, false, true, false] rfl rfl (by kernel_rfl) (fun _ _ _ h => h) (Or.inl ⟨by rfl, ?_⟩) ?_ ?_
              rotate_left
              · intro w'
                go_simp
                with_reducible rfl
              rotate_left
              · simp only [Act.put, List.setIfInBounds_toArray, List.set_cons_zero, List.set_cons_succ, i64_w, i32_w]
                rfl
              refine take_ (i := 3) (N := some 66) (v := ?_) (a' := ?_) #[true, true, true, true, true, false, false, true, false] rfl rfl (by kernel_rfl) (fun _ _ _ h => h) (Or.inl ⟨by rfl, ?_⟩) hHeld ?_ ?_
              rotate_left
              · rintro w' ⟨s0, s1, s2⟩
                go_simp
                with_reducible rfl
              rotate_left
              · simp only [Act.put, List.setIfInBounds_toArray, List.set_cons_zero, List.set_cons_succ, i64_w, i32_w]
                rfl
              refine take_ (i := 5) (N := some 68) (v := ?_) (a' := ?_) #[true, true, true, true, true, true, false, true, false] rfl rfl (by kernel_rfl) (fun _ _ _ h => h) (Or.inl ⟨by rfl, ?_⟩) hHeld ?_ ?_
              rotate_left
              · rintro w' ⟨s0, s1, s2⟩
                go_simp
                with_reducible rfl
              rotate_left
              · simp only [Act.put, List.setIfInBounds_toArray, List.set_cons_zero, List.set_cons_succ, i64_w, i32_w]
                rfl
              refine one_ (i := 6) (N := some 69) #[true, true, true, true, true, true, true, true, false] rfl rfl (by kernel_rfl) (by decide) (fun K hK => ?_)
              refine goes_ Tryd.func45 (by kernel_rfl) rfl #[.agg #[.string T.f0, .slice (some ae) T.f1.length c1], .string R.f0] (by rfl) rfl rfl (by simp only [List.map_toArray, List.map_cons, List.map_nil]; rfl) ?_
              refine hcall.mono ?_
              rintro e w8 ⟨rfl, hb7⟩
              refine ⟨_, rfl, ?_⟩
              refine hK.out _ _ ⟨pw_cell_below hb7 hHeld.1, pw_cell_below hb7 hHeld.2.1, pw_cell_below hb7 hHeld.2.2⟩ (fun hHeld => ?_)
              clear hK K
              refine norm_ (a' := ?_) ?_ ?_
              rotate_left
              · show Act.put _ (some 69) _ = _
                simp only [Act.put, List.setIfInBounds_toArray, List.set_cons_zero, List.set_cons_succ, i64_w, i32_w]
                rfl
              refine pure_ (i := 8) (N := some 71) (v := ?_) (a' := ?_) #[true, true, true, true, true, true, true, true, true] rfl rfl (by kernel_rfl) (fun _ _ _ h => h) (Or.inl ⟨by rfl, ?_⟩) ?_ ?_
              rotate_left
              · intro w'
                go_simp
                with_reducible rfl
              rotate_left
              · simp only [Act.put, List.setIfInBounds_toArray, List.set_cons_zero, List.set_cons_succ, i64_w, i32_w]
                rfl
              refine done_ (by kernel_rfl) ?_
              have HB8 := Aside0.mk (bel2 HBd.out hb7)
              have HX8 := Aside0.mk ((hb7.block _ (blk_lt HXd.out)).trans HXd.out)
              clear hb7 HBd HXd N0 N1
              have p0 := blk_cell HX8.out 0
              have p5 := blk_cell HX8.out 5
              have r0 := pw_cell_below HB8.out R0.out
              have r1 := pw_cell_below HB8.out R1.out
              go_wp2_with fail
              go_roundg g2
              case measure => omega
              case rel => exact ⟨k + 1, by simp, by have := HJ2.out; omega, HJ2.out.2.2, HRk, HB8⟩
            · have f1 : decide ((k : Int) < (T.f1.length : Int)) = false := decide_eq_false (by omega)
              have f2 : ((k : Int) < (T.f1.length : Int)) = False := eq_false (by omega)
              have f3 : decide (k < T.f1.length) = false := decide_eq_false (by omega)
              have HRi : Aside0 (countGF L L 0 = countGF L (L.drop (i + 1)) (i + 1)) := ⟨by rw [HCR.out, HK.out, List.drop_eq_nil_of_le (by omega), relGF]; rfl⟩
              clear hk hkl hkt
              go_wp2_with fail
              go_roundg g1
              case measure => omega
              case rel => exact ⟨i + 1, by simp, by have := HJ.out; omega, HJ.out.2.2, HRi, HBy⟩
      · have e1 : decide ((i : Int) < (L.length : Int)) = false := decide_eq_false (by omega)
        have e2 : ((i : Int) < (L.length : Int)) = False := eq_false (by omega)
        have e3 : decide (i < L.length) = false := decide_eq_false (by omega)
        have HN : Aside0 (checkG L = (typesGF L L).getD (0, ⟨#[]⟩)) := ⟨by rw [HG.out, HI.out, List.drop_eq_nil_of_le (by omega), countGF]; rfl⟩
        clear hlt hi hil HG HI
        go_wp2_with fail
        clear e1 e2 e3
        go_loopg [7] (L.length + 1) (fun gg s7 wr => ∃ i : Nat, s7 = .int .i64 i ∧ i + gg = L.length + 1 ∧ i ≤ L.length ∧ Aside0 (typesGF L L = typesGF L (L.drop i)) ∧ Aside0 (Below w.heap.size w wr))
        case atStart => exact ⟨0, rfl, by omega, Nat.zero_le _, ⟨rfl⟩, HB⟩
        case round =>
          clear HB
          obtain ⟨i, rfl, hi, hil, HI, HB⟩ := hrel
          rename World => wr
          cases gk with
          | zero => omega
          | succ g1 =>
            by_cases hlt : i < L.length
            · have e1 : decide ((i : Int) < (L.length : Int)) = true := decide_eq_true (by omega)
              have e2 : ((i : Int) < (L.length : Int)) = True := eq_true (by omega)
              have e3 : decide (i < L.length) = true := decide_eq_true (by omega)
              have e7 : decide (0 ≤ (i : Int)) = true := decide_eq_true (by omega)
              have e4 : (0 ≤ (i : Int)) = True := eq_true (by omega)
              have e5 : decide ((i : Int) < 0) = false := decide_eq_false (by omega)
              have e6 : ((i : Int) < 0) = False := eq_false (by omega)
              obtain ⟨T, hT⟩ : ∃ T, rd_T74 L (i : Int) = T := ⟨_, rfl⟩
              have hTi : L[i] = T := by rw [← hT]; unfold rd_T74; rw [Int.toNat_natCast, List.getD_eq_getElem?_getD, List.getElem?_eq_getElem hlt]; rfl
              obtain ⟨ad, A1, c1, hA, r0, r1, r2, hC1⟩ := at_T74 HC.out (i : Int) (by omega) (by omega)
              subst hA
              rw [hT] at r0 r1 r2 hC1
              rw [Int.toNat_natCast] at r0 r1
              have R0 := Aside0.mk r0
              have R1 := Aside0.mk r1
              have HC1 := Aside0.mk hC1
              have HMT : Aside0 (T.f1.length ≤ 9223372036854775807) := ⟨Kd.C_max hC1⟩
              have HTm : Aside0 (T ∈ L) := ⟨by rw [← hTi]; exact List.getElem_mem hlt⟩
              have hdrop := List.drop_eq_getElem_cons hlt
              rw [hTi] at hdrop
              have HDR := Aside0.mk hdrop
              have hw : IntKind.i64.wrap ((i : Int) + 1) = ((i + 1 : Nat) : Int) := by have := HM.out; rw [IntKind.wrap_i64]; omega
              have HJ := Aside0.mk (And.intro hi (And.intro hil hlt))
              clear hT hTi hi hil hlt hdrop r2 hC1 r0 r1
              have HTY : Aside0 (typesGF L L = (namesGF L T T.f1).or (typesGF L (L.drop (i + 1)))) := ⟨by rw [HI.out, HDR.out, typesGF]⟩
              clear HI
              go_wp2_with fail
              go_loopg [8] (T.f1.length + 1) (fun gg s8 wy => ∃ k : Nat, s8 = .int .i64 k ∧ k + gg = T.f1.length + 1 ∧ k ≤ T.f1.length ∧ Aside0 (namesGF L T T.f1 = namesGF L T (T.f1.drop k)) ∧ Aside0 (Below w.heap.size w wy))
              case atStart => exact ⟨0, rfl, by omega, Nat.zero_le _, ⟨rfl⟩, HB⟩
              case round =>
                clear HB
                obtain ⟨k, rfl, hk, hkl, HK, HBy⟩ := hrel
                rename World => wy
                have r0 := pw_cell_below HBy.out R0.out
                have r1 := pw_cell_below HBy.out R1.out
                cases gk with
                | zero => omega
                | succ g2 =>
                  by_cases hkt : k < T.f1.length
                  · have f1 : decide ((k : Int) < (T.f1.length : Int)) = true := decide_eq_true (by omega)
                    have f2 : ((k : Int) < (T.f1.length : Int)) = True := eq_true (by omega)
                    have f3 : decide (k < T.f1.length) = true := decide_eq_true (by omega)
                    have f7 : decide (0 ≤ (k : Int)) = true := decide_eq_true (by omega)
                    have f4 : (0 ≤ (k : Int)) = True := eq_true (by omega)
                    have f5 : decide ((k : Int) < 0) = false := decide_eq_false (by omega)
                    have f6 : ((k : Int) < 0) = False := eq_false (by omega)
                    obtain ⟨R, hR⟩ : ∃ R, rd_T78 T.f1 (k : Int) = R := ⟨_, rfl⟩
                    have hRk : T.f1[k] = R := by rw [← hR]; unfold rd_T78; rw [Int.toNat_natCast, List.getD_eq_getElem?_getD, List.getElem?_eq_getElem hkt]; rfl
                    obtain ⟨ae, A4, k4, A5, k5, hA2, q0, q1, q2, q3, q4, q5, q6, hC4, q7, hC5⟩ := at_T78 HC1.out (k : Int) (by omega) (by omega)
                    subst hA2
                    rw [hR] at q0 q1 q2 q3 q4 q5 hC4 hC5
                    rw [Int.toNat_natCast] at q0 q1 q2 q3 q4 q5
                    have HQ : Aside0 (w.cell? (ae.add (k * 6)) = some (.string R.f0) ∧ w.cell? ⟨(ae.add (k * 6)).block, (ae.add (k * 6)).off + 1, none⟩ = some (.string R.f1) ∧ w.cell? ⟨(ae.add (k * 6)).block, (ae.add (k * 6)).off + 2, none⟩ = some (.string R.f2) ∧ w.cell? ⟨(ae.add (k * 6)).block, (ae.add (k * 6)).off + 3, none⟩ = some (.string R.f3) ∧ w.cell? ⟨(ae.add (k * 6)).block, (ae.add (k * 6)).off + 4, none⟩ = some (.slice A4 R.f4.length k4) ∧ w.cell? ⟨(ae.add (k * 6)).block, (ae.add (k * 6)).off + 5, none⟩ = some (.slice A5 R.f5.length k5)) := ⟨⟨q0, q1, q2, q3, q4, q5⟩⟩
                    have HC4 := Aside0.mk hC4
                    have HC5 := Aside0.mk hC5
                    have HRm : Aside0 (R ∈ T.f1) := ⟨by rw [← hRk]; exact List.getElem_mem hkt⟩
                    have hdrop := List.drop_eq_getElem_cons hkt
                    rw [hRk] at hdrop
                    have HDK := Aside0.mk hdrop
                    have hw2 : IntKind.i64.wrap ((k : Int) + 1) = ((k + 1 : Nat) : Int) := by have := HMT.out; rw [IntKind.wrap_i64]; omega
                    have HJ2 := Aside0.mk (And.intro hk (And.intro hkl hkt))
                    clear hR hRk hk hkl hkt hdrop q0 q1 q2 q3 q4 q5 q6 q7 hC4 hC5
                    go_upto_region 24 with (fail)
                    clear r0 r1
                    have HBd : Aside0 (Below w.heap.size w wy.drew) := ⟨HBy.out.drew⟩
                    have N0 := Aside0.mk (pw_cell_below HBd.out R0.out)
                    have N1 := Aside0.mk (pw_cell_below HBd.out R1.out)
                    obtain ⟨q0, q1, q2, q3, q4, q5⟩ := HQ.out
                    have P0 := Aside0.mk (pw_cell_below HBd.out q0)
                    have P1 := Aside0.mk (pw_cell_below HBd.out q1)
                    have P2 := Aside0.mk (pw_cell_below HBd.out q2)
                    have P3 := Aside0.mk (pw_cell_below HBd.out q3)
                    have P4 := Aside0.mk (pw_cell_below HBd.out q4)
                    have P5 := Aside0.mk (pw_cell_below HBd.out q5)
                    clear q0 q1 q2 q3 q4 q5
                    obtain ⟨n, hn⟩ : ∃ j, namedG L T R = j := ⟨_, rfl⟩
                    have hcall := named_c L T R (some ad) (some ae) A4 A5 c c1 k4 k5 w wy.drew HBd.out HC.out HC1.out HC4.out HC5.out
                    rw [hn] at hcall
                    have HN2 := Aside0.mk hn
                    clear hn HBy
                    by_cases n0 : n = 0
                    · have m1 : (n != 0) = false := by rw [n0]; rfl
                      have HRk : Aside0 (namesGF L T T.f1 = namesGF L T (T.f1.drop (k + 1))) := ⟨by rw [HK.out, HDK.out, namesGF, HN2.out, if_neg (fun h => h n0)]⟩
                      clear n0
                      refine start_ (n := 15) (S := fun w' => w'.cell? (ad.add (i * 2)) = some (.string T.f0) ∧ w'.cell? ⟨(ad.add (i * 2)).block, (ad.add (i * 2)).off + 1, none⟩ = some (.slice (some ae) T.f1.length c1) ∧ w'.cell? (ae.add (k * 6)) = some (.string R.f0) ∧ w'.cell? ⟨(ae.add (k * 6)).block, (ae.add (k * 6)).off + 1, none⟩ = some (.string R.f1) ∧ w'.cell? ⟨(ae.add (k * 6)).block, (ae.add (k * 6)).off + 2, none⟩ = some (.string R.f2) ∧ w'.cell? ⟨(ae.add (k * 6)).block, (ae.add (k * 6)).off + 3, none⟩ = some (.string R.f3) ∧ w'.cell? ⟨(ae.add (k * 6)).block, (ae.add (k * 6)).off + 4, none⟩ = some (.slice A4 R.f4.length k4) ∧ w'.cell? ⟨(ae.add (k * 6)).block, (ae.add (k * 6)).off + 5, none⟩ = some (.slice A5 R.f5.length k5)) (ds := []) #[false, false, false, false, false, false, false, false, false, false, false, false, false, false, false] (by kernel_rfl) rfl rfl ⟨N0.out, N1.out, P0.out, P1.out, P2.out, P3.out, P4.out, P5.out⟩ (fun hHeld => ?_)
                      generalize wy.drew = w7 at HBd N0 N1 P0 P1 P2 P3 P4 P5 hcall hHeld ⊢
                      refine pure_ (i := 0) (N := some 110) (v := ?_) (a' := ?_) #[true, false, false, false, false, false, false, false, false, false, false, false, false, false, false] rfl rfl (by kernel_rfl) (fun _ _ _ h => h) (Or.inl ⟨by rfl, ?_⟩) ?_ ?_
                      rotate_left
                      · intro w'
                        go_simp
                        with_reducible rfl
                      rotate_left
                      · simp only [Act.put, List.setIfInBounds_toArray, List.set_cons_zero, List.set_cons_succ, i64_w, i32_w]
                        rfl
                      refine pure_ (i := 1) (N := some 111) (v := ?_) (a' := ?_) #[true, true, false, false, false, false, false, false, false, false, false, false, false, false, false] rfl rfl (by kernel_rfl) (fun _ _ _ h => h) (Or.inl ⟨by rfl, ?_⟩) ?_ ?_
                      rotate_left
                      · intro w'
                        go_simp
                        with_reducible rfl
                      rotate_left
                      · simp only [Act.put, List.setIfInBounds_toArray, List.set_cons_zero, List.set_cons_succ, i64_w, i32_w]
                        rfl
                      refine pure_ (i := 2) (N := some 112) (v := ?_) (a' := ?_) #[true, true, true, false, false, false, false, false, false, false, false, false, false, false, false] rfl rfl (by kernel_rfl) (fun _ _ _ h => h) (Or.inl ⟨by rfl, ?_⟩) ?_ ?_
                      rotate_left
                      · intro w'
                        go_simp
                        with_reducible rfl
                      rotate_left
                      · simp only [Act.put, List.setIfInBounds_toArray, List.set_cons_zero, List.set_cons_succ, i64_w, i32_w]
                        rfl
                      refine pure_ (i := 3) (N := some 113) (v := ?_) (a' := ?_) #[true, true, true, true, false, false, false, false, false, false, false, false, false, false, false] rfl rfl (by kernel_rfl) (fun _ _ _ h => h) (Or.inl ⟨by rfl, ?_⟩) ?_ ?_
                      rotate_left
                      · intro w'
                        go_simp
                        with_reducible rfl
                      rotate_left
                      · simp only [Act.put, List.setIfInBounds_toArray, List.set_cons_zero, List.set_cons_succ, i64_w, i32_w]
                        rfl
                      refine pure_ (i := 5) (N := some 115) (v := ?_) (a' := ?_) #[true, true, true, true, false, true, false, false, false, false, false, false, false, false, false] rfl rfl (by kernel_rfl) (fun _ _ _ h => h) (Or.inl ⟨by rfl, ?_⟩) ?_ ?_
                      rotate_left
                      · intro w'
                        go_simp
                        with_reducible rfl
                      rotate_left
                      · simp only [Act.put, List.setIfInBounds_toArray, List.set_cons_zero, List.set_cons_succ, i64_w, i32_w]
                        rfl
                      refine pure_ (i := 6) (N := some 116) (v := ?_) (a' := ?_) #[true, true, true, true, false, true, true, false, false, false, false, false, false, false, false] rfl rfl (by kernel_rfl) (fun _ _ _ h => h) (Or.inl ⟨by rfl, ?_⟩) ?_ ?_
                      rotate_left
                      · intro w'
                        go_simp
                        with_reducible rfl
                      rotate_left
                      · simp only [Act.put, List.setIfInBounds_toArray, List.set_cons_zero, List.set_cons_succ, i64_w, i32_w]
                        rfl
                      refine pure_ (i := 7) (N := some 117) (v := ?_) (a' := ?_) #[true, true, true, true, false, true, true, true, false, false, false, false, false, false, false] rfl rfl (by kernel_rfl) (fun _ _ _ h => h) (Or.inl ⟨by rfl, ?_⟩) ?_ ?_
                      rotate_left
                      · intro w'
                        go_simp
                        with_reducible rfl
                      rotate_left
                      · simp only [Act.put, List.setIfInBounds_toArray, List.set_cons_zero, List.set_cons_succ, i64_w, i32_w]
                        rfl
                      refine pure_ (i := 8) (N := some 118) (v := ?_) (a' := ?_) #[true, true, true, true, false, true, true, true, true, false, false, false, false, false, false] rfl rfl (by kernel_rfl) (fun _ _ _ h => h) (Or.inl ⟨by rfl, ?_⟩) ?_ ?_
                      rotate_left
                      · intro w'
                        go_simp
                        with_reducible rfl
                      rotate_left
                      · simp only [Act.put, List.setIfInBounds_toArray, List.set_cons_zero, List.set_cons_succ, i64_w, i32_w]
                        rfl
                      refine pure_ (i := 10) (N := some 120) (v := ?_) (a' := ?_) #[true, true, true, true, false, true, true, true, true, false, true, false, false, false, false] rfl rfl (by kernel_rfl) (fun _ _ _ h => h) (Or.inl ⟨by rfl, ?_⟩) ?_ ?_
                      rotate_left
                      · intro w'
                        go_simp
                        with_reducible rfl
                      rotate_left
                      · simp only [Act.put, List.setIfInBounds_toArray, List.set_cons_zero, List.set_cons_succ, i64_w, i32_w]
                        rfl
                      refine take_ (i := 4) (N := some 114) (v := ?_) (a' := ?_) #[true, true, true, true, true, true, true, true, true, false, true, false, false, false, false] rfl rfl (by kernel_rfl) (fun _ _ _ h => h) (Or.inl ⟨by rfl, ?_⟩) hHeld ?_ ?_
                      rotate_left
                      · rintro w' ⟨s0, s1, s2, s3, s4, s5, s6, s7⟩
                        go_simp
                        with_reducible rfl
                      rotate_left
                      · simp only [Act.put, List.setIfInBounds_toArray, List.set_cons_zero, List.set_cons_succ, i64_w, i32_w]
                        rfl
                      refine take_ (i := 9) (N := some 119) (v := ?_) (a' := ?_) #[true, true, true, true, true, true, true, true, true, true, true, false, false, false, false] rfl rfl (by kernel_rfl) (fun _ _ _ h => h) (Or.inl ⟨by rfl, ?_⟩) hHeld ?_ ?_
                      rotate_left
                      · rintro w' ⟨s0, s1, s2, s3, s4, s5, s6, s7⟩
                        go_simp
                        with_reducible rfl
                      rotate_left
                      · simp only [Act.put, List.setIfInBounds_toArray, List.set_cons_zero, List.set_cons_succ, i64_w, i32_w]
                        rfl
                      refine pure_ (i := 11) (N := some 121) (v := ?_) (a' := ?_) #[true, true, true, true, true, true, true, true, true, true, true, true, false, false, false] rfl rfl (by kernel_rfl) (fun _ _ _ h => h) (Or.inl ⟨by rfl, ?_⟩) ?_ ?_
                      rotate_left
                      · intro w'
                        go_simp
                        with_reducible rfl
                      rotate_left
                      · simp only [Act.put, List.setIfInBounds_toArray, List.set_cons_zero, List.set_cons_succ, i64_w, i32_w]
                        rfl
                      refine take_ (i := 12) (N := some 122) (v := ?_) (a' := ?_) #[true, true, true, true, true, true, true, true, true, true, true, true, true, false, false] rfl rfl (by kernel_rfl) (fun _ _ _ h => h) (Or.inl ⟨by rfl, ?_⟩) hHeld ?_ ?_
                      rotate_left
                      · rintro w' ⟨s0, s1, s2, s3, s4, s5, s6, s7⟩
                        go_simp
                        with_reducible rfl
                      rotate_left
                      · simp only [Act.put, List.setIfInBounds_toArray, List.set_cons_zero, List.set_cons_succ, i64_w, i32_w]
                        rfl
                      refine one_ (i := 13) (N := some 123) #[true, true, true, true, true, true, true, true, true, true, true, true, true, true, false] rfl rfl (by kernel_rfl) (by decide) (fun K hK => ?_)
                      refine goes_ Tryd.func79 (by kernel_rfl) rfl #[.slice (some ad) L.length c, .agg #[.string T.f0, .slice (some ae) T.f1.length c1], .agg #[.string R.f0, .string R.f1, .string R.f2, .string R.f3, .slice A4 R.f4.length k4, .slice A5 R.f5.length k5]] (by rfl) rfl rfl (by simp only [List.map_toArray, List.map_cons, List.map_nil]; rfl) ?_
                      refine hcall.mono ?_
                      rintro e w8 ⟨rfl, hb7⟩
                      refine ⟨_, rfl, ?_⟩
                      refine hK.out _ _ ⟨pw_cell_below hb7 hHeld.1, pw_cell_below hb7 hHeld.2.1, pw_cell_below hb7 hHeld.2.2.1, pw_cell_below hb7 hHeld.2.2.2.1, pw_cell_below hb7 hHeld.2.2.2.2.1, pw_cell_below hb7 hHeld.2.2.2.2.2.1, pw_cell_below hb7 hHeld.2.2.2.2.2.2.1, pw_cell_below hb7 hHeld.2.2.2.2.2.2.2⟩ (fun hHeld => ?_)
                      clear hK K
                      refine norm_ (a' := ?_) ?_ ?_
                      rotate_left
                      · show Act.put _ (some 123) _ = _
                        simp only [Act.put, List.setIfInBounds_toArray, List.set_cons_zero, List.set_cons_succ, i64_w, i32_w]
                        rfl
                      refine pure_ (i := 14) (N := some 9) (v := ?_) (a' := ?_) #[true, true, true, true, true, true, true, true, true, true, true, true, true, true, true] rfl rfl (by kernel_rfl) (fun _ _ _ h => h) (Or.inl ⟨by rfl, ?_⟩) ?_ ?_
                      rotate_left
                      · intro w'
                        go_simp
                        with_reducible rfl
                      rotate_left
                      · simp only [Act.put, List.setIfInBounds_toArray, List.set_cons_zero, List.set_cons_succ, i64_w, i32_w]
                        rfl
                      refine done_ (by kernel_rfl) ?_
                      have HB8 := Aside0.mk (bel2 HBd.out hb7)
                      clear hb7 HBd N0 N1 P0 P1 P2 P3 P4 P5
                      obtain ⟨q0, q1, q2, q3, q4, q5⟩ := HQ.out
                      replace q0 := pw_cell_below HB8.out q0
                      clear q1 q2 q3 q4 q5
                      have r0 := pw_cell_below HB8.out R0.out
                      have r1 := pw_cell_below HB8.out R1.out
                      go_wp2_with fail
                      go_roundg g2
                      case measure => omega
                      case rel => exact ⟨k + 1, by simp, by have := HJ2.out; omega, HJ2.out.2.2, HRk, HB8⟩
                    have m1 : (n != 0) = true := bne_iff_ne.mpr n0
                    have HR : Aside0 (checkG L = (n, pathG T R)) := ⟨by rw [HN.out, HTY.out, HK.out, HDK.out, namesGF, HN2.out, if_pos n0]; rfl⟩
                    clear n0
                    have hzz := HZ.out T HTm.out R HRm.out
                    have s1 : (9223372036854775807 < T.f0.size + 1) = False := eq_false (by omega)
                    have s2 : (9223372036854775807 < T.f0.size + 1 + R.f0.size) = False := eq_false (by omega)
                    have s3 : (T.f0.size + 1 ≤ 9223372036854775807) = True := eq_true (by omega)
                    have s4 : (T.f0.size + 1 + R.f0.size ≤ 9223372036854775807) = True := eq_true (by omega)
                    clear hzz
                    refine start_ (n := 15) (S := fun w' => w'.cell? (ad.add (i * 2)) = some (.string T.f0) ∧ w'.cell? ⟨(ad.add (i * 2)).block, (ad.add (i * 2)).off + 1, none⟩ = some (.slice (some ae) T.f1.length c1) ∧ w'.cell? (ae.add (k * 6)) = some (.string R.f0) ∧ w'.cell? ⟨(ae.add (k * 6)).block, (ae.add (k * 6)).off + 1, none⟩ = some (.string R.f1) ∧ w'.cell? ⟨(ae.add (k * 6)).block, (ae.add (k * 6)).off + 2, none⟩ = some (.string R.f2) ∧ w'.cell? ⟨(ae.add (k * 6)).block, (ae.add (k * 6)).off + 3, none⟩ = some (.string R.f3) ∧ w'.cell? ⟨(ae.add (k * 6)).block, (ae.add (k * 6)).off + 4, none⟩ = some (.slice A4 R.f4.length k4) ∧ w'.cell? ⟨(ae.add (k * 6)).block, (ae.add (k * 6)).off + 5, none⟩ = some (.slice A5 R.f5.length k5)) (ds := []) #[false, false, false, false, false, false, false, false, false, false, false, false, false, false, false] (by kernel_rfl) rfl rfl ⟨N0.out, N1.out, P0.out, P1.out, P2.out, P3.out, P4.out, P5.out⟩ (fun hHeld => ?_)
                    generalize wy.drew = w7 at HBd N0 N1 P0 P1 P2 P3 P4 P5 hcall hHeld ⊢
                    refine pure_ (i := 0) (N := some 110) (v := ?_) (a' := ?_) #[true, false, false, false, false, false, false, false, false, false, false, false, false, false, false] rfl rfl (by kernel_rfl) (fun _ _ _ h => h) (Or.inl ⟨by rfl, ?_⟩) ?_ ?_
                    rotate_left
                    · intro w'
                      go_simp
                      with_reducible rfl
                    rotate_left
                    · simp only [Act.put, List.setIfInBounds_toArray, List.set_cons_zero, List.set_cons_succ, i64_w, i32_w]
                      rfl
                    refine pure_ (i := 1) (N := some 111) (v := ?_) (a' := ?_) #[true, true, false, false, false, false, false, false, false, false, false, false, false, false, false] rfl rfl (by kernel_rfl) (fun _ _ _ h => h) (Or.inl ⟨by rfl, ?_⟩) ?_ ?_
                    rotate_left
                    · intro w'
                      go_simp
                      with_reducible rfl
                    rotate_left
                    · simp only [Act.put, List.setIfInBounds_toArray, List.set_cons_zero, List.set_cons_succ, i64_w, i32_w]
                      rfl
                    refine pure_ (i := 2) (N := some 112) (v := ?_) (a' := ?_) #[true, true, true, false, false, false, false, false, false, false, false, false, false, false, false] rfl rfl (by kernel_rfl) (fun _ _ _ h => h) (Or.inl ⟨by rfl, ?_⟩) ?_ ?_
                    rotate_left
                    · intro w'
                      go_simp
                      with_reducible rfl
                    rotate_left
                    · simp only [Act.put, List.setIfInBounds_toArray, List.set_cons_zero, List.set_cons_succ, i64_w, i32_w]
                      rfl
                    refine pure_ (i := 3) (N := some 113) (v := ?_) (a' := ?_) #[true, true, true, true, false, false, false, false, false, false, false, false, false, false, false] rfl rfl (by kernel_rfl) (fun _ _ _ h => h) (Or.inl ⟨by rfl, ?_⟩) ?_ ?_
                    rotate_left
                    · intro w'
                      go_simp
                      with_reducible rfl
                    rotate_left
                    · simp only [Act.put, List.setIfInBounds_toArray, List.set_cons_zero, List.set_cons_succ, i64_w, i32_w]
                      rfl
                    refine pure_ (i := 5) (N := some 115) (v := ?_) (a' := ?_) #[true, true, true, true, false, true, false, false, false, false, false, false, false, false, false] rfl rfl (by kernel_rfl) (fun _ _ _ h => h) (Or.inl ⟨by rfl, ?_⟩) ?_ ?_
                    rotate_left
                    · intro w'
                      go_simp
                      with_reducible rfl
                    rotate_left
                    · simp only [Act.put, List.setIfInBounds_toArray, List.set_cons_zero, List.set_cons_succ, i64_w, i32_w]
                      rfl
                    refine pure_ (i := 6) (N := some 116) (v := ?_) (a' := ?_) #[true, true, true, true, false, true, true, false, false, false, false, false, false, false, false] rfl rfl (by kernel_rfl) (fun _ _ _ h => h) (Or.inl ⟨by rfl, ?_⟩) ?_ ?_
                    rotate_left
                    · intro w'
                      go_simp
                      with_reducible rfl
                    rotate_left
                    · simp only [Act.put, List.setIfInBounds_toArray, List.set_cons_zero, List.set_cons_succ, i64_w, i32_w]
                      rfl
                    refine pure_ (i := 7) (N := some 117) (v := ?_) (a' := ?_) #[true, true, true, true, false, true, true, true, false, false, false, false, false, false, false] rfl rfl (by kernel_rfl) (fun _ _ _ h => h) (Or.inl ⟨by rfl, ?_⟩) ?_ ?_
                    rotate_left
                    · intro w'
                      go_simp
                      with_reducible rfl
                    rotate_left
                    · simp only [Act.put, List.setIfInBounds_toArray, List.set_cons_zero, List.set_cons_succ, i64_w, i32_w]
                      rfl
                    refine pure_ (i := 8) (N := some 118) (v := ?_) (a' := ?_) #[true, true, true, true, false, true, true, true, true, false, false, false, false, false, false] rfl rfl (by kernel_rfl) (fun _ _ _ h => h) (Or.inl ⟨by rfl, ?_⟩) ?_ ?_
                    rotate_left
                    · intro w'
                      go_simp
                      with_reducible rfl
                    rotate_left
                    · simp only [Act.put, List.setIfInBounds_toArray, List.set_cons_zero, List.set_cons_succ, i64_w, i32_w]
                      rfl
                    refine pure_ (i := 10) (N := some 120) (v := ?_) (a' := ?_) #[true, true, true, true, false, true, true, true, true, false, true, false, false, false, false] rfl rfl (by kernel_rfl) (fun _ _ _ h => h) (Or.inl ⟨by rfl, ?_⟩) ?_ ?_
                    rotate_left
                    · intro w'
                      go_simp
                      with_reducible rfl
                    rotate_left
                    · simp only [Act.put, List.setIfInBounds_toArray, List.set_cons_zero, List.set_cons_succ, i64_w, i32_w]
                      rfl
                    refine take_ (i := 4) (N := some 114) (v := ?_) (a' := ?_) #[true, true, true, true, true, true, true, true, true, false, true, false, false, false, false] rfl rfl (by kernel_rfl) (fun _ _ _ h => h) (Or.inl ⟨by rfl, ?_⟩) hHeld ?_ ?_
                    rotate_left
                    · rintro w' ⟨s0, s1, s2, s3, s4, s5, s6, s7⟩
                      go_simp
                      with_reducible rfl
                    rotate_left
                    · simp only [Act.put, List.setIfInBounds_toArray, List.set_cons_zero, List.set_cons_succ, i64_w, i32_w]
                      rfl
                    refine take_ (i := 9) (N := some 119) (v := ?_) (a' := ?_) #[true, true, true, true, true, true, true, true, true, true, true, false, false, false, false] rfl rfl (by kernel_rfl) (fun _ _ _ h => h) (Or.inl ⟨by rfl, ?_⟩) hHeld ?_ ?_
                    rotate_left
                    · rintro w' ⟨s0, s1, s2, s3, s4, s5, s6, s7⟩
                      go_simp
                      with_reducible rfl
                    rotate_left
                    · simp only [Act.put, List.setIfInBounds_toArray, List.set_cons_zero, List.set_cons_succ, i64_w, i32_w]
                      rfl
                    refine pure_ (i := 11) (N := some 121) (v := ?_) (a' := ?_) #[true, true, true, true, true, true, true, true, true, true, true, true, false, false, false] rfl rfl (by kernel_rfl) (fun _ _ _ h => h) (Or.inl ⟨by rfl, ?_⟩) ?_ ?_
                    rotate_left
                    · intro w'
                      go_simp
                      with_reducible rfl
                    rotate_left
                    · simp only [Act.put, List.setIfInBounds_toArray, List.set_cons_zero, List.set_cons_succ, i64_w, i32_w]
                      rfl
                    refine take_ (i := 12) (N := some 122) (v := ?_) (a' := ?_) #[true, true, true, true, true, true, true, true, true, true, true, true, true, false, false] rfl rfl (by kernel_rfl) (fun _ _ _ h => h) (Or.inl ⟨by rfl, ?_⟩) hHeld ?_ ?_
                    rotate_left
                    · rintro w' ⟨s0, s1, s2, s3, s4, s5, s6, s7⟩
                      go_simp
                      with_reducible rfl
                    rotate_left
                    · simp only [Act.put, List.setIfInBounds_toArray, List.set_cons_zero, List.set_cons_succ, i64_w, i32_w]
                      rfl
                    refine one_ (i := 13) (N := some 123) #[true, true, true, true, true, true, true, true, true, true, true, true, true, true, false] rfl rfl (by kernel_rfl) (by decide) (fun K hK => ?_)
                    refine goes_ Tryd.func79 (by kernel_rfl) rfl #[.slice (some ad) L.length c, .agg #[.string T.f0, .slice (some ae) T.f1.length c1], .agg #[.string R.f0, .string R.f1, .string R.f2, .string R.f3, .slice A4 R.f4.length k4, .slice A5 R.f5.length k5]] (by rfl) rfl rfl (by simp only [List.map_toArray, List.map_cons, List.map_nil]; rfl) ?_
                    refine hcall.mono ?_
                    rintro e w8 ⟨rfl, hb7⟩
                    refine ⟨_, rfl, ?_⟩
                    refine hK.out _ _ ⟨pw_cell_below hb7 hHeld.1, pw_cell_below hb7 hHeld.2.1, pw_cell_below hb7 hHeld.2.2.1, pw_cell_below hb7 hHeld.2.2.2.1, pw_cell_below hb7 hHeld.2.2.2.2.1, pw_cell_below hb7 hHeld.2.2.2.2.2.1, pw_cell_below hb7 hHeld.2.2.2.2.2.2.1, pw_cell_below hb7 hHeld.2.2.2.2.2.2.2⟩ (fun hHeld => ?_)
                    clear hK K
                    refine norm_ (a' := ?_) ?_ ?_
                    rotate_left
                    · show Act.put _ (some 123) _ = _
                      simp only [Act.put, List.setIfInBounds_toArray, List.set_cons_zero, List.set_cons_succ, i64_w, i32_w]
                      rfl
                    refine pure_ (i := 14) (N := some 9) (v := ?_) (a' := ?_) #[true, true, true, true, true, true, true, true, true, true, true, true, true, true, true] rfl rfl (by kernel_rfl) (fun _ _ _ h => h) (Or.inl ⟨by rfl, ?_⟩) ?_ ?_
                    rotate_left
                    · intro w'
                      go_simp
                      with_reducible rfl
                    rotate_left
                    · simp only [Act.put, List.setIfInBounds_toArray, List.set_cons_zero, List.set_cons_succ, i64_w, i32_w]
                      rfl
                    refine done_ (by kernel_rfl) ?_
                    have HB8 := Aside0.mk (bel2 HBd.out hb7)
                    clear hb7 HBd N0 N1 P0 P1 P2 P3 P4 P5
                    obtain ⟨q0, q1, q2, q3, q4, q5⟩ := HQ.out
                    replace q0 := pw_cell_below HB8.out q0
                    clear q1 q2 q3 q4 q5
                    have r0 := pw_cell_below HB8.out R0.out
                    have r1 := pw_cell_below HB8.out R1.out
                    go_wp2_with fail
                    go_quiet (fail)
                    have HBq : Aside0 (Below w.heap.size w (w8.drewN nq)) := ⟨pw_below_drewN HB8.out nq⟩
                    obtain ⟨wq, hwq⟩ : ∃ wq, w8.drewN nq = wq := ⟨_, rfl⟩
                    rw [hwq] at HBq ⊢
                    clear hwq
                    go_wp2_with fail
                    go_ret2
                    exact ⟨by rw [HR.out]; rfl, HBq.out⟩
                  · have f1 : decide ((k : Int) < (T.f1.length : Int)) = false := decide_eq_false (by omega)
                    have f2 : ((k : Int) < (T.f1.length : Int)) = False := eq_false (by omega)
                    have f3 : decide (k < T.f1.length) = false := decide_eq_false (by omega)
                    have HRi : Aside0 (typesGF L L = typesGF L (L.drop (i + 1))) := ⟨by rw [HTY.out, HK.out, List.drop_eq_nil_of_le (by omega), namesGF]; rfl⟩
                    clear hk hkl hkt
                    go_wp2_with fail
                    go_roundg g1
                    case measure => omega
                    case rel => exact ⟨i + 1, by simp, by have := HJ.out; omega, HJ.out.2.2, HRi, HBy⟩
            · have e1 : decide ((i : Int) < (L.length : Int)) = false := decide_eq_false (by omega)
              have e2 : ((i : Int) < (L.length : Int)) = False := eq_false (by omega)
              have e3 : decide (i < L.length) = false := decide_eq_false (by omega)
              have HR : Aside0 (checkG L = (0, ⟨#[]⟩)) := ⟨by rw [HN.out, HI.out, List.drop_eq_nil_of_le (by omega), typesGF]; rfl⟩
              clear hlt hi hil
              go_wp2_with fail
              go_ret2
              exact ⟨by rw [HR.out]; rfl, HB.out⟩
end Go.Proofs.YtkgnhghaiopgcaaDoor.Rf
