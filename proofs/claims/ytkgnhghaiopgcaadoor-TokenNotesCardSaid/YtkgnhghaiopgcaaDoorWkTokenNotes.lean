/- For every input TokenNotes returns true: a note that ends a text, or a line, changes nothing; a single slash isn't one. No condition. -/
import Derived.Test.YtkgnhghaiopgcaaDoorWk
set_option linter.unusedVariables false
set_option linter.unusedSimpArgs false
namespace Go.Proofs.YtkgnhghaiopgcaaDoor.Wk
open Go.RowKit Go.Proofs.YtkgnhghaiopgcaaDoorW.PrintWords Go.Proofs.YtkgnhghaiopgcaaDoorW.PrintLast Go.Proofs.YtkgnhghaiopgcaaDoor.X Go.Proofs.YtkgnhghaiopgcaaDoor.Gl Go.Proofs.YtkgnhghaiopgcaaDoor.GlFn Go.Proofs.YtkgnhghaiopgcaaDoor.Tk Go.Proofs.YtkgnhghaiopgcaaDoor.TkFn Go.Proofs.YtkgnhghaiopgcaaDoor.Pure Go.Proofs.YtkgnhghaiopgcaaDoor.Tp

/-- The three rows of tokens agree. -/
structure Notes (n : Nat) (A B C : List S32) : Prop where
  lb : B.length = A.length
  lc : C.length = A.length
  ln : A.length ≤ 4096
  at_ : ∀ x : Int, 0 ≤ x → x < (A.length : Int) → (rd_T32 A x).f1.toList = (rd_T32 B x).f1.toList ∧ (rd_T32 A x).f0 = (rd_T32 B x).f0 ∧ (rd_T32 A x).f1.toList = (rd_T32 C x).f1.toList ∧ (rd_T32 C x).f2 = (rd_T32 A x).f2 + n + 3 ∧ 0 ≤ (rd_T32 A x).f2 ∧ (rd_T32 A x).f2 ≤ 4096

def endT (n : Nat) : Tok := ⟨3, [], n⟩
def later (n : Nat) (t : Tok) : Tok := ⟨t.kind, t.text, t.at_ + n⟩
theorem notes_of (S T : List UInt8) (us : List Tok) (hs : S.length ≤ 300) (ht : T.length ≤ 60) (hln : (us ++ [endT S.length]).length ≤ 4096) (hat : ∀ u ∈ us ++ [endT S.length], u.at_ ≤ S.length) :
    Notes T.length ((us ++ [endT S.length]).map toS) ((us ++ [endT (S.length + T.length + 3)]).map toS) (((us ++ [endT S.length]).map (later (T.length + 3))).map toS) := by
  refine ⟨by simp, by simp, by rw [List.length_map]; exact hln, ?_⟩
  intro x h0 h1
  obtain ⟨i, rfl⟩ := Int.eq_ofNat_of_zero_le h0
  have hi : i < (us ++ [endT S.length]).length := by rw [List.length_map] at h1; omega
  have hi2 : i < (us ++ [endT (S.length + T.length + 3)]).length := by simpa using hi
  have hi3 : i < ((us ++ [endT S.length]).map (later (T.length + 3))).length := by simpa using hi
  have r1 := rd_S _ i hi
  have r2 := rd_S _ i hi2
  have r3 := rd_S _ i hi3
  have hm := hat _ (List.getElem_mem hi)
  rw [r1, r2, r3, List.getElem_map]
  have ek : ((us ++ [endT S.length])[i]'hi).kind = ((us ++ [endT (S.length + T.length + 3)])[i]'hi2).kind ∧ ((us ++ [endT S.length])[i]'hi).text = ((us ++ [endT (S.length + T.length + 3)])[i]'hi2).text := by
    by_cases hl : i < us.length
    · rw [List.getElem_append_left hl, List.getElem_append_left hl]; exact ⟨rfl, rfl⟩
    · rw [List.getElem_append_right (by omega), List.getElem_append_right (by omega)]
      simp only [List.getElem_singleton]; exact ⟨rfl, rfl⟩
  generalize (us ++ [endT S.length])[i]'hi = a at *
  generalize (us ++ [endT (S.length + T.length + 3)])[i]'hi2 = b at *
  refine ⟨?_, ek.1, rfl, ?_, ?_, ?_⟩
  · show (⟨a.text.toArray⟩ : ByteArray).toList = (⟨b.text.toArray⟩ : ByteArray).toList
    rw [ek.2]
  · show (((a.at_ + (T.length + 3) : Nat)) : Int) = (a.at_ : Int) + T.length + 3
    omega
  · show (0 : Int) ≤ (a.at_ : Int)
    omega
  · show (a.at_ : Int) ≤ 4096
    omega

theorem tk_at_le (l : List UInt8) : ∀ p ts, tk l p = .ok ts → ∀ t ∈ ts, t.at_ ≤ p + l.length := by
  have hc : ∀ (t : Tok) (r : R) (ts : List Tok) (n : Nat), cons t r = .ok ts → t.at_ ≤ n → (∀ us, r = .ok us → ∀ u ∈ us, u.at_ ≤ n) → ∀ u ∈ ts, u.at_ ≤ n := by
    intro t r ts n h ht hu
    cases r with
    | error e => simp [cons] at h
    | ok us =>
      simp only [cons, Except.ok.injEq] at h
      intro u hm; rw [← h] at hm
      rcases List.mem_cons.1 hm with rfl | hm
      · exact ht
      · exact hu us rfl u hm
  induction l using tk_ind with
  | h0 => intro p ts h; rw [tk_nil] at h; injection h with h; rw [← h]; simp
  | hb l h hb ih =>
    intro p ts ht; rw [tk_blank h hb] at ht
    have hl : 0 < l.length := List.length_pos_iff.mpr h
    intro t hm; have := ih _ _ ht t hm
    simp only [List.length_drop] at this; omega
  | hn l h ih =>
    intro p ts ht; rw [tk_note h] at ht
    have hl := noteLen_le l
    intro t hm; have := ih _ _ ht t hm
    simp only [List.length_drop] at this; omega
  | hsl l h h2 => intro p ts ht; rw [tk_slash h h2] at ht; injection ht
  | hs l h hs ih =>
    intro p ts ht; rw [tk_sign h hs] at ht
    have hl : 0 < l.length := List.length_pos_iff.mpr h
    refine hc _ _ _ _ ht (Nat.le_add_right _ _) (fun us hu t hm => ?_)
    have := ih _ _ hu t hm
    simp only [List.length_drop] at this; omega
  | hw l h hc2 ih =>
    intro p ts ht; rw [tk_word h hc2] at ht
    have hl := wlen_le l
    refine hc _ _ _ _ ht (Nat.le_add_right _ _) (fun us hu t hm => ?_)
    have := ih _ _ hu t hm
    simp only [List.length_drop] at this; omega
  | hlg l h hc2 => intro p ts ht; rw [tk_long h hc2] at ht; injection ht
  | ho l h h1 h2 h3 h4 => intro p ts ht; rw [tk_other h h1 h2 h3 h4] at ht; injection ht

set_option maxHeartbeats 4000000 in
set_option maxRecDepth 100000 in
theorem TokenNotes (a0 a1 : ByteArray) (w : World) (hK : Aside0 (Aid.KeysIn w)) (w0 : a0.size ≤ 140737488351232) (w1 : a1.size ≤ 140737488351232) :
    Calls Tryd.prog 8 #[.string a0, .string a1] w fun e w' => e = .returned (.bool true) ∧ Below w.heap.size w w' := by
  by_cases c1 : (a0.size : Int) > 300
  · have d1 : decide ((300 : Int) < (a0.size : Int)) = true := decide_eq_true c1
    have d2 : decide (300 < a0.size) = true := decide_eq_true (by omega)
    clear c1
    go_enter Tryd.func8, Tryd.ntmps8
    go_wp2_with fail
    refine (awake_calls _ hK).mono ?_
    rintro e w2 ⟨rfl, hb⟩
    go_wp2
    go_ret
    exact ⟨rfl, hb⟩
  have d1 : decide ((300 : Int) < (a0.size : Int)) = false := decide_eq_false c1
  have d2 : decide (300 < a0.size) = false := decide_eq_false (by omega)
  by_cases c2 : (a1.size : Int) > 60
  · have d3 : decide ((60 : Int) < (a1.size : Int)) = true := decide_eq_true c2
    have d4 : decide (60 < a1.size) = true := decide_eq_true (by omega)
    clear c1 c2
    go_enter Tryd.func8, Tryd.ntmps8
    go_wp2_with fail
    refine (awake_calls _ hK).mono ?_
    rintro e w2 ⟨rfl, hb⟩
    go_wp2
    go_ret
    exact ⟨rfl, hb⟩
  have d3 : decide ((60 : Int) < (a1.size : Int)) = false := decide_eq_false c2
  have d4 : decide (60 < a1.size) = false := decide_eq_false (by omega)
  cases hv : vld (L a1) with
  | false =>
    have HV := Aside0.mk hv
    clear c1 c2 hv
    go_enter Tryd.func8, Tryd.ntmps8
    go_wp2_with fail
    refine (awake_calls _ hK).mono ?_
    rintro e w2 ⟨rfl, hb⟩
    go_wp2_with fail
    refine (Valid_calls _ _ HV.out _).mono ?_
    rintro e w3 ⟨rfl, hb3⟩
    go_wp2
    go_ret
    exact ⟨rfl, below2 hb hb3⟩
  | true =>
    have HV := Aside0.mk hv
    have z0 : a0.size ≤ 300 := by omega
    have z1 : a1.size ≤ 60 := by omega
    clear c1 c2 hv
    go_enter Tryd.func8, Tryd.ntmps8
    go_wp2_with fail
    refine (awake_calls _ hK).mono ?_
    rintro e w2 ⟨rfl, hb⟩
    go_wp2_with fail
    refine (Valid_calls _ _ HV.out _).mono ?_
    rintro e w3 ⟨rfl, hb3⟩
    replace hb3 := below2 hb hb3
    clear hb d1 d2 d3 d4
    have HB := Aside0.mk hb3
    clear hb3
    go_wp2_with fail
    go_loop [6] (fun i => ∃ k : Nat, k ≤ a1.size ∧ i = .int .i64 k ∧ Aside0 (∀ j, j < k → (L a1).getD j 0 ≠ 10)) (fun i => a1.size - (intOf i).toNat)
    case atStart => exact ⟨0, Nat.zero_le _, rfl, ⟨fun j hj => by omega⟩⟩
    case round =>
      obtain ⟨k, hk, rfl, hN⟩ := hrel
      by_cases hlt : k < a1.size
      · have d5 : decide ((k : Int) < (a1.size : Int)) = true := decide_eq_true (by omega)
        have d5n : decide (k < a1.size) = true := decide_eq_true hlt
        have hgd : (L a1).getD k 0 = a1[k]'hlt := by rw [List.getD_eq_getElem?_getD, List.getElem?_eq_getElem (by rw [L_length]; exact hlt)]; rfl
        by_cases h10 : (a1[k]'hlt).toNat = 10
        · have d6 : (((a1[k]'hlt).toNat : Int) == 10) = true := by rw [beq_iff_eq]; omega
          clear hgd
          go_wp2
          go_ret
          exact ⟨rfl, HB.out⟩
        · have d6 : (((a1[k]'hlt).toNat : Int) == 10) = false := by rw [beq_eq_false_iff_ne]; omega
          have hN' : Aside0 (∀ j, j < k + 1 → (L a1).getD j 0 ≠ 10) := ⟨by
            intro j hj
            by_cases e : j = k
            · subst e; rw [hgd]; intro e; rw [e] at h10; exact h10 rfl
            · exact hN.out j (by omega)⟩
          clear hN hgd h10
          go_wp2
          go_round
          case rel => exact ⟨k + 1, by omega, by go_num, hN'⟩
          case measure => simp [intOf]; omega
      · have d5 : decide ((k : Int) < (a1.size : Int)) = false := decide_eq_false (by omega)
        have d5n : decide (k < a1.size) = false := decide_eq_false hlt
        have HT : Aside0 ((10 : UInt8) ∉ L a1) := ⟨by
          intro hm
          obtain ⟨j, hj, he⟩ := List.mem_iff_getElem.1 hm
          rw [L_length] at hj
          refine hN.out j (by omega) ?_
          rw [List.getD_eq_getElem?_getD, List.getElem?_eq_getElem (by rw [L_length]; exact hj), he]; rfl⟩
        clear hN hlt hk
        have q0 : (L a0).length ≤ 300 := by rw [L_length]; exact z0
        have q1 : (L a1).length ≤ 60 := by rw [L_length]; exact z1
        obtain ⟨hA, hB⟩ := notes_behind (L a0) (L a1) q0 q1 HV.out HT.out
        have hC := notes_ahead (L a0) (L a1) q0 q1 HV.out HT.out
        have hD := notes_single (L a0) (L a1) q0 q1 HV.out
        have e2 : L (a0 ++ ⟨#[10, 47, 47]⟩ ++ a1) = L a0 ++ [10, 47, 47] ++ L a1 := by rw [L_append, L_append]
        have e3 : L ((⟨#[47, 47]⟩ : ByteArray) ++ a1 ++ ⟨#[10]⟩ ++ a0) = [47, 47] ++ L a1 ++ [10] ++ L a0 := by rw [L_append, L_append, L_append]
        have e4 : L (a0 ++ ⟨#[10, 47, 32]⟩ ++ a1) = L a0 ++ [10, 47, 32] ++ L a1 := by rw [L_append, L_append]
        rw [← e2] at hA hB
        rw [← e3] at hC
        rw [← e4] at hD
        clear HV HT e2 e3 e4
        cases ha : all (L a0) with
        | error e =>
          obtain ⟨en, p⟩ := e
          have A1 := Aside0.mk ha
          have A2 := Aside0.mk (hB en p ha)
          have A3 := Aside0.mk (show all (L ((⟨#[47, 47]⟩ : ByteArray) ++ a1 ++ ⟨#[10]⟩ ++ a0)) = .error (en, p + ((L a1).length + 3)) from by rw [hC, ha]; rfl)
          have hne : en ≠ 0 := by rcases all_err_ne ha with h | h | h <;> omega
          have t1 : (en == 0) = false := by rw [beq_eq_false_iff_ne]; exact hne
          have t2 : (en != 0) = true := by rw [bne_iff_ne]; exact hne
          have t3 : (en == en) = true := beq_self_eq_true _
          have t4 : ((p : Int) == (p : Int)) = true := beq_self_eq_true _
          clear hA hB hC hD ha hne
          go_wp2_with fail
          refine (All_err _ _ _ A1.out _).mono ?_
          rintro e w4 ⟨B1, n1, rfl, h4⟩
          go_wp2_with fail
          refine (All_err _ _ _ A2.out _).mono ?_
          rintro e w5 ⟨B2, n2, rfl, h5⟩
          go_wp2_with fail
          refine (All_err _ _ _ A3.out _).mono ?_
          rintro e w6 ⟨B3, n3, rfl, h6⟩
          go_wp2_with fail
          refine (All_any _ _).mono ?_
          rintro e w7 ⟨B4, m4, n4, en4, p4, rfl, h7⟩
          go_wp2
          go_ret
          exact ⟨rfl, below2 (below2 (below2 (below2 HB.out h4) h5) h6) h7⟩
        | ok ts =>
          obtain ⟨us, hus, _⟩ := all_last ha
          rw [show (⟨3, [], (L a0).length⟩ : Tok) = endT (L a0).length from rfl] at hus
          subst hus
          have hN := notes_of (L a0) (L a1) us q0 q1 (Nat.le_trans (all_len ha).1 (by decide)) (fun u hu => by
            have := tk_at_le (L a0) 0 _ (all_len ha).2.2.2 u hu
            omega)
          have hA3 : all (L ((⟨#[47, 47]⟩ : ByteArray) ++ a1 ++ ⟨#[10]⟩ ++ a0)) = .ok ((us ++ [endT (L a0).length]).map (later ((L a1).length + 3))) := by rw [hC, ha]; rfl
          have hA4 := hD _ ha
          have hA2 := hA us ha
          rw [show (⟨3, [], (L a0).length + (L a1).length + 3⟩ : Tok) = endT ((L a0).length + (L a1).length + 3) from rfl] at hA2
          simp only [L_length] at ha hA2 hA3 hA4 hN
          obtain ⟨X1, E1⟩ : ∃ X, (us ++ [endT a0.size]).map toS = X := ⟨_, rfl⟩
          obtain ⟨X2, E2⟩ : ∃ X, (us ++ [endT (a0.size + a1.size + 3)]).map toS = X := ⟨_, rfl⟩
          obtain ⟨X3, E3⟩ : ∃ X, ((us ++ [endT a0.size]).map (later (a1.size + 3))).map toS = X := ⟨_, rfl⟩
          rw [E1, E2, E3] at hN
          have A1 := Aside0.mk ha
          have A2 := Aside0.mk hA2
          have A3 := Aside0.mk hA3
          have A4 := Aside0.mk hA4
          have F1 := Aside0.mk E1
          have F2 := Aside0.mk E2
          have F3 := Aside0.mk E3
          have HN := Aside0.mk hN
          have l2 : ((X2.length : Int) != (X1.length : Int)) = false := by rw [bne_eq_false_iff_eq, hN.lb]
          have l3 : ((X3.length : Int) != (X1.length : Int)) = false := by rw [bne_eq_false_iff_eq, hN.lc]
          have l4 : (((a0.size + 1 : Nat) : Int) != (a0.size : Int) + 1) = false := by rw [bne_eq_false_iff_eq]; omega
          clear hA hB hC hD ha hA2 hA3 hA4 hN E1 E2 E3
          go_wp2_with fail
          refine (All_okX _ _ X1 A1.out F1.out _).mono ?_
          rintro e w4 ⟨B1, n1, rfl, R1, h4⟩
          have H4 := Aside0.mk (below2 HB.out h4)
          have Q1 := Aside0.mk R1
          clear R1 h4
          go_wp2_with fail
          refine (All_okX _ _ X2 A2.out F2.out _).mono ?_
          rintro e w5 ⟨B2, n2, rfl, R2, h5⟩
          have H5 := Aside0.mk (below2 H4.out h5)
          replace Q1 := Aside0.mk (Kd.R_below Q1.out h5)
          have Q2 := Aside0.mk (Kd.R_lower R2 H4.out.size)
          clear R2 h5 H4
          go_wp2_with fail
          refine (All_okX _ _ X3 A3.out F3.out _).mono ?_
          rintro e w6 ⟨B3, n3, rfl, R3, h6⟩
          have H6 := Aside0.mk (below2 H5.out h6)
          replace Q1 := Aside0.mk (Kd.R_below Q1.out h6)
          replace Q2 := Aside0.mk (Kd.R_below Q2.out h6)
          have Q3 := Aside0.mk (Kd.R_lower R3 H5.out.size)
          clear R3 h6 H5
          go_wp2_with fail
          refine (All_err _ _ _ A4.out _).mono ?_
          rintro e w7 ⟨B4, n4, rfl, h7⟩
          have H7 := Aside0.mk (below2 H6.out h7)
          replace Q1 := Aside0.mk (Kd.R_below Q1.out h7)
          replace Q2 := Aside0.mk (Kd.R_below Q2.out h7)
          replace Q3 := Aside0.mk (Kd.R_below Q3.out h7)
          clear h7 H6 A1 A2 A3 A4 F1 F2 F3
          go_wp2_with fail
          replace Q1 := Aside0.mk (Kd.R_lower Q1.out HB.out.size)
          clear HB
          go_loopg [19] X1.length (fun kq v19 wr => ∃ x : Int, v19 = .int .i64 x ∧ Aside0 (0 ≤ x ∧ x + kq = X1.length) ∧ Aside0 (Kd.R k32 32 wr w.heap.size (fun _ => True) (.slice B1 X1.length n1) X1) ∧ Aside0 (Kd.R k32 32 wr w.heap.size (fun _ => True) (.slice B2 X2.length n2) X2) ∧ Aside0 (Kd.R k32 32 wr w.heap.size (fun _ => True) (.slice B3 X3.length n3) X3) ∧ Aside0 (Below w.heap.size w wr))
          case atStart => exact ⟨0, rfl, ⟨by omega, by omega⟩, Q1, Q2, Q3, H7⟩
          case round =>
            clear Q1 Q2 Q3 H7
            obtain ⟨x, rfl, Hx, Q1, Q2, Q3, HB⟩ := hrel
            obtain ⟨hx0, hx1⟩ := Hx.out
            cases gk with
            | zero =>
              have t1 : decide (x < (X1.length : Int)) = false := decide_eq_false (by omega)
              clear hx0 hx1
              go_wp2
              go_ret
              exact ⟨rfl, HB.out⟩
            | succ k1 =>
              have t1 : decide (x < (X1.length : Int)) = true := decide_eq_true (by omega)
              have hl2 := HN.out.lb
              have hl3 := HN.out.lc
              obtain ⟨g1, g2, g3, g4, g5, g6⟩ := HN.out.at_ x hx0 (by omega)
              obtain ⟨ad1, y1, h10, h11, h12⟩ := at_T32 (Kd.R_reads' Q1.out).2.2 x hx0 (by omega)
              obtain ⟨ad2, y2, h20, h21, h22⟩ := at_T32 (Kd.R_reads' Q2.out).2.2 x hx0 (by omega)
              obtain ⟨ad3, y3, h30, h31, h32⟩ := at_T32 (Kd.R_reads' Q3.out).2.2 x hx0 (by omega)
              cases y1
              cases y2
              cases y3
              have b1 : decide (0 ≤ x) = true := decide_eq_true hx0
              have b2 : (0 ≤ x) = True := eq_true hx0
              have b3 : (x < (X1.length : Int)) = True := eq_true (by omega)
              have b4 : (x < (X2.length : Int)) = True := eq_true (by omega)
              have b5 : (x < (X3.length : Int)) = True := eq_true (by omega)
              have t2 : ((rd_T32 X1 x).f1.toList != (rd_T32 X2 x).f1.toList) = false := bne_eq_false_iff_eq.mpr g1
              have t2e : ((rd_T32 X1 x).f1.toList == (rd_T32 X2 x).f1.toList) = true := beq_iff_eq.mpr g1
              have t3 : ((rd_T32 X1 x).f0 != (rd_T32 X2 x).f0) = false := bne_eq_false_iff_eq.mpr g2
              have t3e : ((rd_T32 X1 x).f0 == (rd_T32 X2 x).f0) = true := beq_iff_eq.mpr g2
              have t4 : ((rd_T32 X1 x).f1.toList != (rd_T32 X3 x).f1.toList) = false := bne_eq_false_iff_eq.mpr g3
              have t4e : ((rd_T32 X1 x).f1.toList == (rd_T32 X3 x).f1.toList) = true := beq_iff_eq.mpr g3
              have t5 : IntKind.i64.wrap ((rd_T32 X1 x).f2 + (a1.size : Int)) = (rd_T32 X1 x).f2 + (a1.size : Int) := by rw [IntKind.wrap_i64]; omega
              have t6 : IntKind.i64.wrap ((rd_T32 X1 x).f2 + (a1.size : Int) + 3) = (rd_T32 X1 x).f2 + (a1.size : Int) + 3 := by rw [IntKind.wrap_i64]; omega
              have t7 : ((rd_T32 X3 x).f2 != (rd_T32 X1 x).f2 + (a1.size : Int) + 3) = false := bne_eq_false_iff_eq.mpr g4
              have t7e : ((rd_T32 X3 x).f2 == (rd_T32 X1 x).f2 + (a1.size : Int) + 3) = true := beq_iff_eq.mpr g4
              have t8 : IntKind.i64.wrap (x + 1) = x + 1 := by
                have := HN.out.ln
                rw [IntKind.wrap_i64]; omega
              clear hl2 hl3 g1 g2 g3 g4 g5 g6 hx0 hx1
              go_wp2
              go_quiet (fail)
              go_wp2
              go_roundg k1
              case measure => omega
              case rel => exact ⟨x + 1, rfl, ⟨by have := Hx.out; omega, by have := Hx.out; omega⟩, ⟨by (with_reducible repeat (first | apply Kd.R_alloc | apply Kd.R_drewN | apply Kd.R_drew)); exact Q1.out⟩, ⟨by (with_reducible repeat (first | apply Kd.R_alloc | apply Kd.R_drewN | apply Kd.R_drew)); exact Q2.out⟩, ⟨by (with_reducible repeat (first | apply Kd.R_alloc | apply Kd.R_drewN | apply Kd.R_drew)); exact Q3.out⟩, ⟨by repeat (first | (with_reducible first | exact HB.out | apply below_alloc | apply pw_below_drewN | apply below_drew1) | exact HB.out)⟩⟩
end Go.Proofs.YtkgnhghaiopgcaaDoor.Wk
