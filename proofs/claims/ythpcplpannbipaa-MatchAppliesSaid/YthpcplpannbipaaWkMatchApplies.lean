/- For every input MatchApplies returns true: any keys as a set, whether any key is in it, and what any changes of it come to are the document's. No condition. -/
import Derived.Test.YthpcplpannbipaaMu
import Derived.Test.YthpcplpannbipaaMs
import Derived.Test.YthpcplpannbipaaWkArgM
import Derived.Test.YthpcplpannbipaaRp
set_option linter.unusedVariables false
set_option linter.unusedSimpArgs false
namespace Go.Proofs.Ythpcplpannbipaa.Wk
open Go.RowKit Go.Proofs.YthpcplpannbipaaW.PrintWords Go.Proofs.YthpcplpannbipaaW.PrintLast Go.Proofs.Ythpcplpannbipaa.Kx Go.Proofs.Ythpcplpannbipaa.Y Go.Proofs.Ythpcplpannbipaa.Mp Go.Proofs.Ythpcplpannbipaa.Mq Go.Proofs.Ythpcplpannbipaa.Mr Go.Proofs.Ythpcplpannbipaa.Mu

def p84 (x : S46) : S84 := ⟨x.f0, x.f1⟩
def c84 (x : S40) : S84 := ⟨x.f0, x.f1⟩
theorem rdP {d : List S46} {j : Nat} (h : j < d.length) : rd_T46 d (j : Int) = d[j] := by
  unfold rd_T46
  rw [Int.toNat_natCast, List.getD_eq_getElem?_getD, List.getElem?_eq_getElem h]; rfl
theorem rdC {d : List S40} {j : Nat} (h : j < d.length) : rd_T40 d (j : Int) = d[j] := by
  unfold rd_T40
  rw [Int.toNat_natCast, List.getD_eq_getElem?_getD, List.getElem?_eq_getElem h]; rfl
theorem as_l1 (D : List S40) (a : List S84) (hd : D.length ≤ 100) : ∀ (n k i : Nat) (acc : List S84), i + n = D.length → n < k → acc = (D.take i).map c84 → doormanlaw13_as.l1 k D a acc (i : Int) = some (a, D.map c84)
  | _, 0, i, _, _, h, _ => by omega
  | 0, k + 1, i, acc, h1, h2, h3 => by
    rw [doormanlaw13_as.l1, if_neg (by omega), h3, List.take_of_length_le (by omega)]
  | n + 1, k + 1, i, acc, h1, h2, h3 => by
    have hi : i < D.length := by omega
    have hw : wrap64 ((i : Int) + 1) = ((i + 1 : Nat) : Int) := by unfold wrap64; omega
    have hal : acc.length ≤ i := by rw [h3, List.length_map, List.length_take]; omega
    rw [doormanlaw13_as.l1, if_pos (by omega), if_pos (by omega), if_pos (by omega), rdC hi, hw]
    exact as_l1 D a hd n k (i + 1) _ (by omega) (by omega) (by rw [h3, ← List.take_append_getElem hi, List.map_append]; rfl)
theorem as_l0 (P : List S46) (D : List S40) (hp : P.length ≤ 100) (hd : D.length ≤ 100) : ∀ (n k i : Nat) (acc : List S84), i + n = P.length → n + 200 < k → acc = (P.take i).map p84 → doormanlaw13_as.l0 k P D acc (i : Int) = some (P.map p84, D.map c84)
  | _, 0, i, _, _, h, _ => by omega
  | 0, k + 1, i, acc, h1, h2, h3 => by
    have := as_l1 D (P.map p84) hd D.length k 0 [] (by omega) (by omega) rfl
    rw [doormanlaw13_as.l0, if_neg (by omega), h3, List.take_of_length_le (by omega)]
    exact this
  | n + 1, k + 1, i, acc, h1, h2, h3 => by
    have hi : i < P.length := by omega
    have hw : wrap64 ((i : Int) + 1) = ((i + 1 : Nat) : Int) := by unfold wrap64; omega
    have hal : acc.length ≤ i := by rw [h3, List.length_map, List.length_take]; omega
    rw [doormanlaw13_as.l0, if_pos (by omega), if_pos (by omega), if_pos (by omega), rdP hi, hw]
    exact as_l0 P D hp hd n k (i + 1) _ (by omega) (by omega) (by rw [h3, ← List.take_append_getElem hi, List.map_append]; rfl)
theorem as_f (P : List S46) (D : List S40) (hp : P.length ≤ 100) (hd : D.length ≤ 100) : doormanlaw13_as.f 400 P D = some (P.map p84, D.map c84) := by
  unfold doormanlaw13_as.f
  exact as_l0 P D hp hd P.length 400 0 [] (by omega) (by omega) rfl
theorem apC_le : ∀ (cs : List (ByteArray × Bool)) (s t : List ByteArray) (i : Nat), apC blt s cs i = .ok t → t.length ≤ s.length + cs.length
  | [], s, t, i, h => by rw [apC] at h; injection h with h; rw [h]; simp
  | (k, add) :: cs, s, t, i, h => by
    rw [apC] at h
    split at h
    · cases h
    · have := apC_le cs _ t (i + 1) h
      cases add with
      | true => simp only [if_true, ins_len] at this; simp only [List.length_cons]; omega
      | false =>
        simp only [Bool.false_eq_true, if_false] at this
        have h2 : (del s k).length ≤ s.length := List.length_filter_le _ _
        simp only [List.length_cons]; omega
theorem app_le (s : List ByteArray) (p d : List (ByteArray × Bool)) : (applyB s p d).1.length ≤ s.length + d.length := by
  unfold applyB
  cases preF s p 0 with
  | some i => simp
  | none =>
    cases h : apC blt s d 0 with
    | ok t => exact apC_le d s t 0 h
    | error q => obtain ⟨a, i⟩ := q; simp
set_option maxHeartbeats 16000000 in
set_option maxRecDepth 100000 in
theorem MatchApplies (a0 : Option Addr) (len0 cap0 : Nat) (z0 : List ByteArray) (a1 : Option Addr) (len1 cap1 : Nat) (z1 : List S46) (a2 : Option Addr) (len2 cap2 : Nat) (z2 : List S40) (w : World) (w0 : StrRow w a0 len0 cap0 z0) (w1 : Ro.Row k46 (fun x => x.f0.size ≤ 140737488351232 ∧ True) w a1 len1 cap1 z1) (w2 : Ro.Row k40 (fun x => x.f0.size ≤ 140737488351232 ∧ True) w a2 len2 cap2 z2) :
    Calls Try.prog 3 #[.slice a0 len0 cap0, .slice a1 len1 cap1, .slice a2 len2 cap2] w fun e w' => e = .returned (.bool true) ∧ Below w.heap.size w w' := by
  obtain rfl := w0.hl
  obtain rfl := w1.hl
  obtain rfl := w2.hl
  have HK := Aside0.mk w0.kd
  have HKl := Aside0.mk w0.hc
  have HP := Aside0.mk w1.hC
  have HPl := Aside0.mk w1.hc
  have HC := Aside0.mk w2.hC
  have HCl := Aside0.mk w2.hc
  have hcallA := doormanlaw13_awake.calls 100 true w (awake_f (Nat.le_refl _))
  clear w0 w1 w2
  go_enter Try.func3, Try.ntmps3
  go_wp2_with fail
  refine hcallA.mono ?_
  rintro e w1 ⟨rfl, hb⟩
  have HB1 := Aside0.mk hb
  clear hb hcallA
  by_cases ga : z0.length > 60
  · have d1 : decide ((60 : Int) < (z0.length : Int)) = true := decide_eq_true (by omega)
    have d2 : ((60 : Int) < (z0.length : Int)) = True := eq_true (by omega)
    have d3 : decide (60 < z0.length) = true := decide_eq_true ga
    go_wp2_with fail
    go_ret
    exact ⟨rfl, HB1.out⟩
  have ga1 : decide ((60 : Int) < (z0.length : Int)) = false := decide_eq_false (by omega)
  have ga2 : ((60 : Int) < (z0.length : Int)) = False := eq_false (by omega)
  have ga3 : decide (60 < z0.length) = false := decide_eq_false ga
  by_cases gb : z1.length > 30
  · have d1 : decide ((30 : Int) < (z1.length : Int)) = true := decide_eq_true (by omega)
    have d2 : ((30 : Int) < (z1.length : Int)) = True := eq_true (by omega)
    have d3 : decide (30 < z1.length) = true := decide_eq_true gb
    go_wp2_with fail
    go_ret
    exact ⟨rfl, HB1.out⟩
  have gb1 : decide ((30 : Int) < (z1.length : Int)) = false := decide_eq_false (by omega)
  have gb2 : ((30 : Int) < (z1.length : Int)) = False := eq_false (by omega)
  have gb3 : decide (30 < z1.length) = false := decide_eq_false gb
  by_cases gc : z2.length > 30
  · have d1 : decide ((30 : Int) < (z2.length : Int)) = true := decide_eq_true (by omega)
    have d2 : ((30 : Int) < (z2.length : Int)) = True := eq_true (by omega)
    have d3 : decide (30 < z2.length) = true := decide_eq_true gc
    go_wp2_with fail
    go_ret
    exact ⟨rfl, HB1.out⟩
  have gc1 : decide ((30 : Int) < (z2.length : Int)) = false := decide_eq_false (by omega)
  have gc2 : ((30 : Int) < (z2.length : Int)) = False := eq_false (by omega)
  have gc3 : decide (30 < z2.length) = false := decide_eq_false gc
  have HG : Aside0 (z0.length ≤ 60 ∧ z1.length ≤ 30 ∧ z2.length ≤ 30) := ⟨by omega⟩
  obtain ⟨S, hS⟩ : ∃ S, ofB z0 = S := ⟨_, rfl⟩
  have HSs : Aside0 (Srt blt S) := ⟨by rw [← hS]; exact (ofB_spec z0).1⟩
  have HSl : Aside0 (S.length ≤ 60) := ⟨by rw [← hS]; have := ofB_len z0; omega⟩
  obtain ⟨r1, r2, r3, hres⟩ : ∃ r1 r2 r3, applyB S (z1.map fun x => (x.f0, x.f1)) (z2.map fun x => (x.f0, x.f1)) = (r1, r2, r3) := ⟨_, _, _, rfl⟩
  have HR := Aside0.mk hres
  have HRl : Aside0 (r1.length ≤ 90) := ⟨by
    have := app_le S (z1.map fun x => (x.f0, x.f1)) (z2.map fun x => (x.f0, x.f1))
    rw [hres, List.length_map] at this
    have h2 : r1.length ≤ S.length + z2.length := this
    have := HSl.out
    omega⟩
  have hc2 := match_Of.calls a0 cap0 z0 S w1 (Kd.C_below HK.out HB1.out) HKl.out (by rw [of_f (by omega), hS])
  have HF3 : Aside0 (doormanref13_Of.f 400 z0 = some S) := ⟨by rw [rof_f z0 (by omega) (Nat.le_refl _), hS]⟩
  clear ga gb gc hres hS
  go_wp2_with fail
  refine hc2.mono ?_
  rintro e w2 ⟨v8, rfl, ho, hb⟩
  obtain ⟨A8, c8, rfl, hl8, hC8⟩ := Kd.R_reads ho
  have HL8 := Aside0.mk hl8
  have HC8 := Aside0.mk hC8
  have HB2 := Aside0.mk (HB1.out.trans (hb.mono HB1.out.size))
  clear ho hb hc2 hl8 hC8 HB1
  have hc3 := doormanref13_Of.calls 400 a0 cap0 z0 S w2 (Kd.C_below HK.out HB2.out) HKl.out HF3.out
  go_wp2_with fail
  refine hc3.mono ?_
  rintro e w3 ⟨v9, rfl, ho, hb⟩
  obtain ⟨A9, c9, rfl, hl9, hC9⟩ := Kd.R_reads ho
  have HL9 := Aside0.mk hl9
  have HC9 := Aside0.mk hC9
  have HC8b := Aside0.mk (Kd.C_below HC8.out hb)
  have HB3 := Aside0.mk (HB2.out.trans (hb.mono HB2.out.size))
  clear ho hb hc3 hl9 hC9 HB2 HC8
  have hc4 := doormanlaw13_as.calls 400 a1 cap1 z1 a2 cap2 z2 _ _ w3 (Kd.C_below HP.out HB3.out) HPl.out (Kd.C_below HC.out HB3.out) HCl.out (as_f z1 z2 (by have := HG.out; omega) (by have := HG.out; omega))
  go_wp2_with fail
  refine hc4.mono ?_
  rintro e w4 ⟨v10, v11, rfl, ho10, ho11, hb⟩
  obtain ⟨A10, c10, rfl, hl10, hC10⟩ := Kd.R_reads ho10
  obtain ⟨A11, c11, rfl, hl11, hC11⟩ := Kd.R_reads ho11
  have HC10 := Aside0.mk hC10
  have HC11 := Aside0.mk hC11
  have HC8c := Aside0.mk (Kd.C_below HC8b.out hb)
  have HC9b := Aside0.mk (Kd.C_below HC9.out hb)
  have HB4 := Aside0.mk (HB3.out.trans (hb.mono HB3.out.size))
  clear ho10 ho11 hb hc4 hl10 hl11 hC10 hC11 HB3 HC8b HC9
  have hc5 := match_Set_Apply.calls A8 c8 S a1 cap1 z1 a2 cap2 z2 r1 r2 r3 w4 HC8c.out HL8.out (Kd.C_below HP.out HB4.out) HPl.out (Kd.C_below HC.out HB4.out) HCl.out (by
    unfold match_Set_Apply.f
    rw [if_pos ⟨HSs.out, by have := HSl.out; have := HG.out; omega, by have := HG.out; omega⟩, HR.out])
  go_wp2_with fail
  refine hc5.mono ?_
  rintro e w5 ⟨v12, rfl, ho, hb⟩
  obtain ⟨A12, c12, rfl, hl12, hC12⟩ := Kd.R_reads ho
  have HL12 := Aside0.mk hl12
  have HC12 := Aside0.mk hC12
  have HC8d := Aside0.mk (Kd.C_below HC8c.out hb)
  have HC9c := Aside0.mk (Kd.C_below HC9b.out hb)
  have HC10b := Aside0.mk (Kd.C_below HC10.out hb)
  have HC11b := Aside0.mk (Kd.C_below HC11.out hb)
  have HB5 := Aside0.mk (HB4.out.trans (hb.mono HB4.out.size))
  clear ho hb hc5 hl12 hC12 HB4 HC8c HC9b HC10 HC11
  have hc6 := apply_calls A9 c9 S A10 c10 (z1.map p84) A11 c11 (z2.map c84) r1 r2 r3 w5 HC9c.out HL9.out HSs.out (by have := HSl.out; omega) HC10b.out (by rw [List.length_map]; have := HG.out; omega) HC11b.out (by rw [List.length_map]; have := HG.out; omega) (by
    rw [List.map_map, List.map_map]; exact HR.out)
  rw [List.length_map, List.length_map] at hc6
  (try rw [List.length_map, List.length_map])
  go_wp2_with fail
  refine hc6.mono ?_
  rintro e w6 ⟨A15, c15, rfl, hl15, hC15, hb⟩
  have HL15 := Aside0.mk hl15
  have HC15 := Aside0.mk hC15
  have HC8e := Aside0.mk (Kd.C_below HC8d.out hb)
  have HC9d := Aside0.mk (Kd.C_below HC9c.out hb)
  have HC12b := Aside0.mk (Kd.C_below HC12.out hb)
  have HB6 := Aside0.mk (HB5.out.trans (hb.mono HB5.out.size))
  clear hb hc6 hl15 hC15 HB5 HC8d HC9c HC12 HC10b HC11b
  have hc7 := doormanlaw13_same.calls (r1.length + 1) A12 c12 r1 A15 c15 r1 true w6 HC12b.out HL12.out HC15.out HL15.out (by rw [same_f (by have := HRl.out; omega) (by omega), decide_eq_true rfl])
  go_wp2_with fail
  refine hc7.mono ?_
  rintro e w7 ⟨rfl, hd⟩
  have HC8f := Aside0.mk (Kd.C_below HC8e.out hd.below)
  have HC9e := Aside0.mk (Kd.C_below HC9d.out hd.below)
  have HB7 := Aside0.mk (HB6.out.trans (hd.below.mono HB6.out.size))
  clear hd hc7 HB6 HC8e HC9d HC12b HC15
  have hc8 := doormanlaw13_same.calls (S.length + 1) A8 c8 S A9 c9 S true w7 HC8f.out HL8.out HC9e.out HL9.out (by rw [same_f (by have := HSl.out; omega) (by omega), decide_eq_true rfl])
  go_wp2_with fail
  refine hc8.mono ?_
  rintro e w8 ⟨rfl, hd⟩
  have HC8g := Aside0.mk (Kd.C_below HC8f.out hd.below)
  have HC9f := Aside0.mk (Kd.C_below HC9e.out hd.below)
  have HB8 := Aside0.mk (HB7.out.trans (hd.below.mono HB7.out.size))
  clear hd hc8 HB7 HC8f HC9e
  go_wp2_with fail
  go_loopg [18] (z2.length + 1) (fun gg s18 wr => ∃ (j : Nat), s18 = .int .i64 j ∧ j + gg = z2.length + 1 ∧ j ≤ z2.length ∧ Aside0 (Below w.heap.size w wr) ∧ Aside0 (Kd.C Kd.string wr A8 S.length S) ∧ Aside0 (Kd.C Kd.string wr A9 S.length S))
  case atStart => exact ⟨0, rfl, by omega, Nat.zero_le _, HB8, HC8g, HC9f⟩
  case round =>
    clear HB8 HC8g HC9f
    obtain ⟨j, rfl, hj, hjl, HB, HQ8, HQ9⟩ := hrel
    rename World => wr
    cases gk with
    | zero => omega
    | succ g1 =>
      by_cases hlt : j < z2.length
      · have e1 : decide ((j : Int) < (z2.length : Int)) = true := decide_eq_true (by omega)
        have e2 : ((j : Int) < (z2.length : Int)) = True := eq_true (by omega)
        have e3 : decide (j < z2.length) = true := decide_eq_true hlt
        have e4 : (0 ≤ (j : Int)) = True := eq_true (by omega)
        have e5 : decide ((j : Int) < 0) = false := decide_eq_false (by omega)
        have e6 : ((j : Int) < 0) = False := eq_false (by omega)
        obtain ⟨X, hX⟩ : ∃ X, rd_T40 z2 (j : Int) = X := ⟨_, rfl⟩
        obtain ⟨ad, rfl, d0, d1⟩ := at_T40 HC.out (j : Int) (by omega) (by omega)
        rw [hX, Int.toNat_natCast] at d0
        replace d0 := pw_cell_below HB.out d0
        have hw : IntKind.i64.wrap ((j : Int) + 1) = ((j + 1 : Nat) : Int) := by have := HG.out; rw [IntKind.wrap_i64]; omega
        have HJ := Aside0.mk (And.intro hj (And.intro hjl hlt))
        obtain ⟨b, hb⟩ : ∃ b, decide (X.f0 ∈ S) = b := ⟨_, rfl⟩
        have HF1 : Aside0 (match_Set_Has.f (S.length + 1) S X.f0 = some b) := ⟨by rw [has_f HSs.out (by have := HSl.out; omega) _ (by omega), hb]⟩
        have HF2 : Aside0 (doormanref13_Has.f (S.length + 1) S X.f0 = some b) := ⟨by rw [rhas_f S _ (by have := HSl.out; omega) (by omega), hb]⟩
        clear hX hj hjl hlt d1 hb
        go_upto_region 16 with (fail)
        have HD0 : Aside0 (wr.drew.cell? (ad.add (j * 2)) = some (.string X.f0)) := ⟨d0⟩
        have HBd : Aside0 (Below w.heap.size w wr.drew) := ⟨HB.out.drew⟩
        have HS8 : Aside0 (Kd.C Kd.string wr.drew A8 S.length S) := ⟨Kd.C_below HQ8.out (Below.refl _ _).drew⟩
        have HS9 : Aside0 (Kd.C Kd.string wr.drew A9 S.length S) := ⟨Kd.C_below HQ9.out (Below.refl _ _).drew⟩
        clear HB HQ8 HQ9 d0
        cases b with
        | true =>
          refine start_ (n := 15) (S := fun w' => w'.cell? (ad.add (j * 2)) = some (.string X.f0)) (ds := []) #[false, false, false, false, false, false, false, false, false, false, false, false, false, false, false] (by kernel_rfl) rfl rfl (HD0.out) (fun hHeld => ?_)
          generalize wr.drew = w7 at HBd HD0 HS8 HS9 hHeld ⊢
          refine pure_ (i := 0) (N := some 87) (v := ?_) (a' := ?_) #[true, false, false, false, false, false, false, false, false, false, false, false, false, false, false] rfl rfl (by kernel_rfl) (fun _ _ _ h => h) (Or.inl ⟨by rfl, ?_⟩) ?_ ?_
          rotate_left
          · intro w'
            go_simp
            with_reducible rfl
          rotate_left
          · simp only [Act.put, List.setIfInBounds_toArray, List.set_cons_zero, List.set_cons_succ, i64_w, i32_w]
            rfl
          refine pure_ (i := 1) (N := some 88) (v := ?_) (a' := ?_) #[true, true, false, false, false, false, false, false, false, false, false, false, false, false, false] rfl rfl (by kernel_rfl) (fun _ _ _ h => h) (Or.inl ⟨by rfl, ?_⟩) ?_ ?_
          rotate_left
          · intro w'
            go_simp
            with_reducible rfl
          rotate_left
          · simp only [Act.put, List.setIfInBounds_toArray, List.set_cons_zero, List.set_cons_succ, i64_w, i32_w]
            rfl
          refine pure_ (i := 2) (N := some 89) (v := ?_) (a' := ?_) #[true, true, true, false, false, false, false, false, false, false, false, false, false, false, false] rfl rfl (by kernel_rfl) (fun _ _ _ h => h) (Or.inl ⟨by rfl, ?_⟩) ?_ ?_
          rotate_left
          · intro w'
            go_simp
            with_reducible rfl
          rotate_left
          · simp only [Act.put, List.setIfInBounds_toArray, List.set_cons_zero, List.set_cons_succ, i64_w, i32_w]
            rfl
          refine pure_ (i := 3) (N := some 90) (v := ?_) (a' := ?_) #[true, true, true, true, false, false, false, false, false, false, false, false, false, false, false] rfl rfl (by kernel_rfl) (fun _ _ _ h => h) (Or.inl ⟨by rfl, ?_⟩) ?_ ?_
          rotate_left
          · intro w'
            go_simp
            with_reducible rfl
          rotate_left
          · simp only [Act.put, List.setIfInBounds_toArray, List.set_cons_zero, List.set_cons_succ, i64_w, i32_w]
            rfl
          refine pure_ (i := 4) (N := some 91) (v := ?_) (a' := ?_) #[true, true, true, true, true, false, false, false, false, false, false, false, false, false, false] rfl rfl (by kernel_rfl) (fun _ _ _ h => h) (Or.inl ⟨by rfl, ?_⟩) ?_ ?_
          rotate_left
          · intro w'
            go_simp
            with_reducible rfl
          rotate_left
          · simp only [Act.put, List.setIfInBounds_toArray, List.set_cons_zero, List.set_cons_succ, i64_w, i32_w]
            rfl
          refine pure_ (i := 7) (N := some 94) (v := ?_) (a' := ?_) #[true, true, true, true, true, false, false, true, false, false, false, false, false, false, false] rfl rfl (by kernel_rfl) (fun _ _ _ h => h) (Or.inl ⟨by rfl, ?_⟩) ?_ ?_
          rotate_left
          · intro w'
            go_simp
            with_reducible rfl
          rotate_left
          · simp only [Act.put, List.setIfInBounds_toArray, List.set_cons_zero, List.set_cons_succ, i64_w, i32_w]
            rfl
          refine pure_ (i := 8) (N := some 95) (v := ?_) (a' := ?_) #[true, true, true, true, true, false, false, true, true, false, false, false, false, false, false] rfl rfl (by kernel_rfl) (fun _ _ _ h => h) (Or.inl ⟨by rfl, ?_⟩) ?_ ?_
          rotate_left
          · intro w'
            go_simp
            with_reducible rfl
          rotate_left
          · simp only [Act.put, List.setIfInBounds_toArray, List.set_cons_zero, List.set_cons_succ, i64_w, i32_w]
            rfl
          refine pure_ (i := 9) (N := some 96) (v := ?_) (a' := ?_) #[true, true, true, true, true, false, false, true, true, true, false, false, false, false, false] rfl rfl (by kernel_rfl) (fun _ _ _ h => h) (Or.inl ⟨by rfl, ?_⟩) ?_ ?_
          rotate_left
          · intro w'
            go_simp
            with_reducible rfl
          rotate_left
          · simp only [Act.put, List.setIfInBounds_toArray, List.set_cons_zero, List.set_cons_succ, i64_w, i32_w]
            rfl
          refine pure_ (i := 10) (N := some 97) (v := ?_) (a' := ?_) #[true, true, true, true, true, false, false, true, true, true, true, false, false, false, false] rfl rfl (by kernel_rfl) (fun _ _ _ h => h) (Or.inl ⟨by rfl, ?_⟩) ?_ ?_
          rotate_left
          · intro w'
            go_simp
            with_reducible rfl
          rotate_left
          · simp only [Act.put, List.setIfInBounds_toArray, List.set_cons_zero, List.set_cons_succ, i64_w, i32_w]
            rfl
          refine pure_ (i := 11) (N := some 98) (v := ?_) (a' := ?_) #[true, true, true, true, true, false, false, true, true, true, true, true, false, false, false] rfl rfl (by kernel_rfl) (fun _ _ _ h => h) (Or.inl ⟨by rfl, ?_⟩) ?_ ?_
          rotate_left
          · intro w'
            go_simp
            with_reducible rfl
          rotate_left
          · simp only [Act.put, List.setIfInBounds_toArray, List.set_cons_zero, List.set_cons_succ, i64_w, i32_w]
            rfl
          refine take_ (i := 5) (N := some 92) (v := ?_) (a' := ?_) #[true, true, true, true, true, true, false, true, true, true, true, true, false, false, false] rfl rfl (by kernel_rfl) (fun _ _ _ h => h) (Or.inl ⟨by rfl, ?_⟩) hHeld ?_ ?_
          rotate_left
          · intro w' s0
            go_simp
            with_reducible rfl
          rotate_left
          · simp only [Act.put, List.setIfInBounds_toArray, List.set_cons_zero, List.set_cons_succ, i64_w, i32_w]
            rfl
          refine take_ (i := 12) (N := some 99) (v := ?_) (a' := ?_) #[true, true, true, true, true, true, false, true, true, true, true, true, true, false, false] rfl rfl (by kernel_rfl) (fun _ _ _ h => h) (Or.inl ⟨by rfl, ?_⟩) hHeld ?_ ?_
          rotate_left
          · intro w' s0
            go_simp
            with_reducible rfl
          rotate_left
          · simp only [Act.put, List.setIfInBounds_toArray, List.set_cons_zero, List.set_cons_succ, i64_w, i32_w]
            rfl
          refine one_ (i := 6) (N := some 93) #[true, true, true, true, true, true, true, true, true, true, true, true, true, false, false] rfl rfl (by kernel_rfl) (by decide) (fun K hK => ?_)
          refine goes_ Try.func20 (by kernel_rfl) rfl #[.slice A8 S.length c8, .string X.f0] (by rfl) rfl rfl (by simp only [List.map_toArray, List.map_cons, List.map_nil]; rfl) ?_
          refine (match_Set_Has.calls (S.length + 1) A8 c8 S X.f0 true _ HS8.out HL8.out HF1.out).mono ?_
          rintro e w8 ⟨rfl, hd7⟩
          have hb7 : Below w7.heap.size w7 w8 := hd7.below
          refine ⟨_, rfl, ?_⟩
          refine hK.out _ _ (pw_cell_below hb7 hHeld) (fun hHeld => ?_)
          clear hK K
          refine norm_ (a' := ?_) ?_ ?_
          rotate_left
          · show Act.put _ (some 93) _ = _
            simp only [Act.put, List.setIfInBounds_toArray, List.set_cons_zero, List.set_cons_succ, i64_w, i32_w]
            rfl
          refine one_ (i := 13) (N := some 100) #[true, true, true, true, true, true, true, true, true, true, true, true, true, true, false] rfl rfl (by kernel_rfl) (by decide) (fun K hK => ?_)
          refine goes_ Try.func21 (by kernel_rfl) rfl #[.slice A9 S.length c9, .string X.f0] (by rfl) rfl rfl (by simp only [List.map_toArray, List.map_cons, List.map_nil]; rfl) ?_
          refine (doormanref13_Has.calls (S.length + 1) A9 c9 S X.f0 true _ (Kd.C_below HS9.out hb7) HL9.out HF2.out).mono ?_
          rintro e w9 ⟨rfl, hd8⟩
          have hb8 : Below w8.heap.size w8 w9 := hd8.below
          refine ⟨_, rfl, ?_⟩
          refine hK.out _ _ (pw_cell_below hb8 hHeld) (fun hHeld => ?_)
          clear hK K
          refine norm_ (a' := ?_) ?_ ?_
          rotate_left
          · show Act.put _ (some 100) _ = _
            simp only [Act.put, List.setIfInBounds_toArray, List.set_cons_zero, List.set_cons_succ, i64_w, i32_w]
            rfl
          refine pure_ (i := 14) (N := some 101) (v := ?_) (a' := ?_) #[true, true, true, true, true, true, true, true, true, true, true, true, true, true, true] rfl rfl (by kernel_rfl) (fun _ _ _ h => h) (Or.inl ⟨by rfl, ?_⟩) ?_ ?_
          rotate_left
          · intro w'
            go_simp
            with_reducible rfl
          rotate_left
          · simp only [Act.put, List.setIfInBounds_toArray, List.set_cons_zero, List.set_cons_succ, i64_w, i32_w]
            rfl
          refine done_ (by kernel_rfl) ?_
          have HBn := Aside0.mk ((HBd.out.trans (hb7.mono HBd.out.size)).trans (hb8.mono (HBd.out.trans (hb7.mono HBd.out.size)).size))
          have HN8 := Aside0.mk (Kd.C_below (Kd.C_below HS8.out hb7) hb8)
          have HN9 := Aside0.mk (Kd.C_below (Kd.C_below HS9.out hb7) hb8)
          clear hd7 hd8 hb7 hb8 HBd HD0 HS8 HS9
          go_wp2_with fail
          go_roundg g1
          case measure => omega
          case rel => exact ⟨j + 1, by simp, by have := HJ.out; omega, HJ.out.2.2, HBn, HN8, HN9⟩
        | false =>
          refine start_ (n := 15) (S := fun w' => w'.cell? (ad.add (j * 2)) = some (.string X.f0)) (ds := []) #[false, false, false, false, false, false, false, false, false, false, false, false, false, false, false] (by kernel_rfl) rfl rfl (HD0.out) (fun hHeld => ?_)
          generalize wr.drew = w7 at HBd HD0 HS8 HS9 hHeld ⊢
          refine pure_ (i := 0) (N := some 87) (v := ?_) (a' := ?_) #[true, false, false, false, false, false, false, false, false, false, false, false, false, false, false] rfl rfl (by kernel_rfl) (fun _ _ _ h => h) (Or.inl ⟨by rfl, ?_⟩) ?_ ?_
          rotate_left
          · intro w'
            go_simp
            with_reducible rfl
          rotate_left
          · simp only [Act.put, List.setIfInBounds_toArray, List.set_cons_zero, List.set_cons_succ, i64_w, i32_w]
            rfl
          refine pure_ (i := 1) (N := some 88) (v := ?_) (a' := ?_) #[true, true, false, false, false, false, false, false, false, false, false, false, false, false, false] rfl rfl (by kernel_rfl) (fun _ _ _ h => h) (Or.inl ⟨by rfl, ?_⟩) ?_ ?_
          rotate_left
          · intro w'
            go_simp
            with_reducible rfl
          rotate_left
          · simp only [Act.put, List.setIfInBounds_toArray, List.set_cons_zero, List.set_cons_succ, i64_w, i32_w]
            rfl
          refine pure_ (i := 2) (N := some 89) (v := ?_) (a' := ?_) #[true, true, true, false, false, false, false, false, false, false, false, false, false, false, false] rfl rfl (by kernel_rfl) (fun _ _ _ h => h) (Or.inl ⟨by rfl, ?_⟩) ?_ ?_
          rotate_left
          · intro w'
            go_simp
            with_reducible rfl
          rotate_left
          · simp only [Act.put, List.setIfInBounds_toArray, List.set_cons_zero, List.set_cons_succ, i64_w, i32_w]
            rfl
          refine pure_ (i := 3) (N := some 90) (v := ?_) (a' := ?_) #[true, true, true, true, false, false, false, false, false, false, false, false, false, false, false] rfl rfl (by kernel_rfl) (fun _ _ _ h => h) (Or.inl ⟨by rfl, ?_⟩) ?_ ?_
          rotate_left
          · intro w'
            go_simp
            with_reducible rfl
          rotate_left
          · simp only [Act.put, List.setIfInBounds_toArray, List.set_cons_zero, List.set_cons_succ, i64_w, i32_w]
            rfl
          refine pure_ (i := 4) (N := some 91) (v := ?_) (a' := ?_) #[true, true, true, true, true, false, false, false, false, false, false, false, false, false, false] rfl rfl (by kernel_rfl) (fun _ _ _ h => h) (Or.inl ⟨by rfl, ?_⟩) ?_ ?_
          rotate_left
          · intro w'
            go_simp
            with_reducible rfl
          rotate_left
          · simp only [Act.put, List.setIfInBounds_toArray, List.set_cons_zero, List.set_cons_succ, i64_w, i32_w]
            rfl
          refine pure_ (i := 7) (N := some 94) (v := ?_) (a' := ?_) #[true, true, true, true, true, false, false, true, false, false, false, false, false, false, false] rfl rfl (by kernel_rfl) (fun _ _ _ h => h) (Or.inl ⟨by rfl, ?_⟩) ?_ ?_
          rotate_left
          · intro w'
            go_simp
            with_reducible rfl
          rotate_left
          · simp only [Act.put, List.setIfInBounds_toArray, List.set_cons_zero, List.set_cons_succ, i64_w, i32_w]
            rfl
          refine pure_ (i := 8) (N := some 95) (v := ?_) (a' := ?_) #[true, true, true, true, true, false, false, true, true, false, false, false, false, false, false] rfl rfl (by kernel_rfl) (fun _ _ _ h => h) (Or.inl ⟨by rfl, ?_⟩) ?_ ?_
          rotate_left
          · intro w'
            go_simp
            with_reducible rfl
          rotate_left
          · simp only [Act.put, List.setIfInBounds_toArray, List.set_cons_zero, List.set_cons_succ, i64_w, i32_w]
            rfl
          refine pure_ (i := 9) (N := some 96) (v := ?_) (a' := ?_) #[true, true, true, true, true, false, false, true, true, true, false, false, false, false, false] rfl rfl (by kernel_rfl) (fun _ _ _ h => h) (Or.inl ⟨by rfl, ?_⟩) ?_ ?_
          rotate_left
          · intro w'
            go_simp
            with_reducible rfl
          rotate_left
          · simp only [Act.put, List.setIfInBounds_toArray, List.set_cons_zero, List.set_cons_succ, i64_w, i32_w]
            rfl
          refine pure_ (i := 10) (N := some 97) (v := ?_) (a' := ?_) #[true, true, true, true, true, false, false, true, true, true, true, false, false, false, false] rfl rfl (by kernel_rfl) (fun _ _ _ h => h) (Or.inl ⟨by rfl, ?_⟩) ?_ ?_
          rotate_left
          · intro w'
            go_simp
            with_reducible rfl
          rotate_left
          · simp only [Act.put, List.setIfInBounds_toArray, List.set_cons_zero, List.set_cons_succ, i64_w, i32_w]
            rfl
          refine pure_ (i := 11) (N := some 98) (v := ?_) (a' := ?_) #[true, true, true, true, true, false, false, true, true, true, true, true, false, false, false] rfl rfl (by kernel_rfl) (fun _ _ _ h => h) (Or.inl ⟨by rfl, ?_⟩) ?_ ?_
          rotate_left
          · intro w'
            go_simp
            with_reducible rfl
          rotate_left
          · simp only [Act.put, List.setIfInBounds_toArray, List.set_cons_zero, List.set_cons_succ, i64_w, i32_w]
            rfl
          refine take_ (i := 5) (N := some 92) (v := ?_) (a' := ?_) #[true, true, true, true, true, true, false, true, true, true, true, true, false, false, false] rfl rfl (by kernel_rfl) (fun _ _ _ h => h) (Or.inl ⟨by rfl, ?_⟩) hHeld ?_ ?_
          rotate_left
          · intro w' s0
            go_simp
            with_reducible rfl
          rotate_left
          · simp only [Act.put, List.setIfInBounds_toArray, List.set_cons_zero, List.set_cons_succ, i64_w, i32_w]
            rfl
          refine take_ (i := 12) (N := some 99) (v := ?_) (a' := ?_) #[true, true, true, true, true, true, false, true, true, true, true, true, true, false, false] rfl rfl (by kernel_rfl) (fun _ _ _ h => h) (Or.inl ⟨by rfl, ?_⟩) hHeld ?_ ?_
          rotate_left
          · intro w' s0
            go_simp
            with_reducible rfl
          rotate_left
          · simp only [Act.put, List.setIfInBounds_toArray, List.set_cons_zero, List.set_cons_succ, i64_w, i32_w]
            rfl
          refine one_ (i := 6) (N := some 93) #[true, true, true, true, true, true, true, true, true, true, true, true, true, false, false] rfl rfl (by kernel_rfl) (by decide) (fun K hK => ?_)
          refine goes_ Try.func20 (by kernel_rfl) rfl #[.slice A8 S.length c8, .string X.f0] (by rfl) rfl rfl (by simp only [List.map_toArray, List.map_cons, List.map_nil]; rfl) ?_
          refine (match_Set_Has.calls (S.length + 1) A8 c8 S X.f0 false _ HS8.out HL8.out HF1.out).mono ?_
          rintro e w8 ⟨rfl, hd7⟩
          have hb7 : Below w7.heap.size w7 w8 := hd7.below
          refine ⟨_, rfl, ?_⟩
          refine hK.out _ _ (pw_cell_below hb7 hHeld) (fun hHeld => ?_)
          clear hK K
          refine norm_ (a' := ?_) ?_ ?_
          rotate_left
          · show Act.put _ (some 93) _ = _
            simp only [Act.put, List.setIfInBounds_toArray, List.set_cons_zero, List.set_cons_succ, i64_w, i32_w]
            rfl
          refine one_ (i := 13) (N := some 100) #[true, true, true, true, true, true, true, true, true, true, true, true, true, true, false] rfl rfl (by kernel_rfl) (by decide) (fun K hK => ?_)
          refine goes_ Try.func21 (by kernel_rfl) rfl #[.slice A9 S.length c9, .string X.f0] (by rfl) rfl rfl (by simp only [List.map_toArray, List.map_cons, List.map_nil]; rfl) ?_
          refine (doormanref13_Has.calls (S.length + 1) A9 c9 S X.f0 false _ (Kd.C_below HS9.out hb7) HL9.out HF2.out).mono ?_
          rintro e w9 ⟨rfl, hd8⟩
          have hb8 : Below w8.heap.size w8 w9 := hd8.below
          refine ⟨_, rfl, ?_⟩
          refine hK.out _ _ (pw_cell_below hb8 hHeld) (fun hHeld => ?_)
          clear hK K
          refine norm_ (a' := ?_) ?_ ?_
          rotate_left
          · show Act.put _ (some 100) _ = _
            simp only [Act.put, List.setIfInBounds_toArray, List.set_cons_zero, List.set_cons_succ, i64_w, i32_w]
            rfl
          refine pure_ (i := 14) (N := some 101) (v := ?_) (a' := ?_) #[true, true, true, true, true, true, true, true, true, true, true, true, true, true, true] rfl rfl (by kernel_rfl) (fun _ _ _ h => h) (Or.inl ⟨by rfl, ?_⟩) ?_ ?_
          rotate_left
          · intro w'
            go_simp
            with_reducible rfl
          rotate_left
          · simp only [Act.put, List.setIfInBounds_toArray, List.set_cons_zero, List.set_cons_succ, i64_w, i32_w]
            rfl
          refine done_ (by kernel_rfl) ?_
          have HBn := Aside0.mk ((HBd.out.trans (hb7.mono HBd.out.size)).trans (hb8.mono (HBd.out.trans (hb7.mono HBd.out.size)).size))
          have HN8 := Aside0.mk (Kd.C_below (Kd.C_below HS8.out hb7) hb8)
          have HN9 := Aside0.mk (Kd.C_below (Kd.C_below HS9.out hb7) hb8)
          clear hd7 hd8 hb7 hb8 HBd HD0 HS8 HS9
          go_wp2_with fail
          go_roundg g1
          case measure => omega
          case rel => exact ⟨j + 1, by simp, by have := HJ.out; omega, HJ.out.2.2, HBn, HN8, HN9⟩
      · have e1 : decide ((j : Int) < (z2.length : Int)) = false := decide_eq_false (by omega)
        have e2 : ((j : Int) < (z2.length : Int)) = False := eq_false (by omega)
        have e3 : decide (j < z2.length) = false := decide_eq_false hlt
        clear hlt hj hjl
        go_wp2_with fail
        go_ret
        exact ⟨rfl, HB.out⟩
end Go.Proofs.Ythpcplpannbipaa.Wk
