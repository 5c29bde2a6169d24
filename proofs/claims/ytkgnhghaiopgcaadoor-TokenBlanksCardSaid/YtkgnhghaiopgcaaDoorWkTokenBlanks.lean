/- For every input TokenBlanks returns true: tokens' texts, put behind each other with blanks, and notes, between, have the same tokens, but for places. No condition. -/
import Derived.Test.YtkgnhghaiopgcaaDoorWk
import Derived.Test.YtkgnhghaiopgcaaDoorTpPlaces
set_option linter.unusedVariables false
set_option linter.unusedSimpArgs false
namespace Go.Proofs.YtkgnhghaiopgcaaDoor.Wk
open Go.RowKit Go.Proofs.YtkgnhghaiopgcaaDoorW.PrintWords Go.Proofs.YtkgnhghaiopgcaaDoorW.PrintLast Go.Proofs.YtkgnhghaiopgcaaDoor.X Go.Proofs.YtkgnhghaiopgcaaDoor.Gl Go.Proofs.YtkgnhghaiopgcaaDoor.GlFn Go.Proofs.YtkgnhghaiopgcaaDoor.Tk Go.Proofs.YtkgnhghaiopgcaaDoor.TkFn Go.Proofs.YtkgnhghaiopgcaaDoor.Pure Go.Proofs.YtkgnhghaiopgcaaDoor.Tp

theorem text_le {S : List UInt8} {ts : List Tok} (h : all S = .ok ts) (i : Nat) (t : Tok) (ht : ts[i]? = some t) : t.text.length ≤ S.length := by
  have := (placed_at S ts 0 (all_placed h) i t ht).2.2.2.1
  omega
theorem rd_at (ts : List Tok) (X : List S32) (hX : ts.map toS = X) (x : Int) (h0 : 0 ≤ x) (h1 : x < (X.length : Int)) : ∃ t, ts[x.toNat]? = some t ∧ rd_T32 X x = toS t := by
  subst hX
  obtain ⟨i, rfl⟩ := Int.eq_ofNat_of_zero_le h0
  rw [List.length_map] at h1
  have hi : i < ts.length := by omega
  exact ⟨ts[i]'hi, by rw [Int.toNat_natCast]; exact List.getElem?_eq_getElem hi, rd_S ts i hi⟩
theorem take_next {α : Type} (ts : List α) (i : Nat) (t : α) (h : ts[i]? = some t) : ts.take (i + 1) = ts.take i ++ [t] := by
  rw [List.take_add_one, h]; rfl
/-- Two rows of tokens are alike, but for places. -/
structure Alike (A B : List S32) : Prop where
  lb : B.length = A.length
  at_ : ∀ x : Int, 0 ≤ x → x < (A.length : Int) → (rd_T32 A x).f1.toList = (rd_T32 B x).f1.toList ∧ (rd_T32 A x).f0 = (rd_T32 B x).f0
theorem alike_of (ts us : List Tok) (h : alike us ts) : Alike (ts.map toS) (us.map toS) := by
  obtain ⟨hl, ha⟩ := alike_at h
  refine ⟨by simp [hl], ?_⟩
  intro x h0 h1
  obtain ⟨i, rfl⟩ := Int.eq_ofNat_of_zero_le h0
  rw [List.length_map] at h1
  have hi : i < ts.length := by omega
  rw [rd_S ts i hi, rd_S us i (by omega)]
  obtain ⟨e1, e2⟩ := ha i (by omega) hi
  refine ⟨?_, e1.symm⟩
  show (⟨(ts[i]'hi).text.toArray⟩ : ByteArray).toList = (⟨(us[i]'_).text.toArray⟩ : ByteArray).toList
  rw [e2]

set_option maxHeartbeats 4000000 in
set_option maxRecDepth 100000 in
theorem TokenBlanks (a0 a1 : ByteArray) (w : World) (hK : Aside0 (Aid.KeysIn w)) (w0 : a0.size ≤ 140737488351232) (w1 : a1.size ≤ 140737488351232) :
    Calls Tryd.prog 4 #[.string a0, .string a1] w fun e w' => e = .returned (.bool true) ∧ Below w.heap.size w w' := by
  by_cases c1 : (a0.size : Int) > 300
  · have d1 : decide ((300 : Int) < (a0.size : Int)) = true := decide_eq_true c1
    have d2 : decide (300 < a0.size) = true := decide_eq_true (by omega)
    clear c1
    go_enter Tryd.func4, Tryd.ntmps4
    go_wp2_with fail
    refine (awake_calls _ hK).mono ?_
    rintro e w2 ⟨rfl, hb⟩
    go_wp2
    go_ret
    exact ⟨rfl, hb⟩
  have d1 : decide ((300 : Int) < (a0.size : Int)) = false := decide_eq_false c1
  have d2 : decide (300 < a0.size) = false := decide_eq_false (by omega)
  by_cases c2 : (a1.size : Int) > 20
  · have d3 : decide ((20 : Int) < (a1.size : Int)) = true := decide_eq_true c2
    have d4 : decide (20 < a1.size) = true := decide_eq_true (by omega)
    clear c1 c2
    go_enter Tryd.func4, Tryd.ntmps4
    go_wp2_with fail
    refine (awake_calls _ hK).mono ?_
    rintro e w2 ⟨rfl, hb⟩
    go_wp2
    go_ret
    exact ⟨rfl, hb⟩
  have d3 : decide ((20 : Int) < (a1.size : Int)) = false := decide_eq_false c2
  have d4 : decide (20 < a1.size) = false := decide_eq_false (by omega)
  cases hv : vld (L a1) with
  | false =>
    have HV := Aside0.mk hv
    clear c1 c2 hv
    go_enter Tryd.func4, Tryd.ntmps4
    go_wp2_with fail
    refine (awake_calls _ hK).mono ?_
    rintro e w2 ⟨rfl, hb⟩
    go_wp2_with fail
    refine (Valid_calls _ _ HV.out _).mono ?_
    rintro e w3 ⟨rfl, hb3⟩
    go_wp2
    go_ret
    exact ⟨rfl, below2 hb hb3⟩
  | true =>
    have HV := Aside0.mk hv
    have z0 : a0.size ≤ 300 := by omega
    have z1 : a1.size ≤ 20 := by omega
    clear c1 c2 hv
    go_enter Tryd.func4, Tryd.ntmps4
    go_wp2_with fail
    refine (awake_calls _ hK).mono ?_
    rintro e w2 ⟨rfl, hb⟩
    go_wp2_with fail
    refine (Valid_calls _ _ HV.out _).mono ?_
    rintro e w3 ⟨rfl, hb3⟩
    replace hb3 := below2 hb hb3
    clear hb d1 d2 d3 d4
    have HB := Aside0.mk hb3
    clear hb3
    go_wp2_with fail
    go_loop [6] (fun i => ∃ k : Nat, k ≤ a1.size ∧ i = .int .i64 k ∧ Aside0 (∀ j, j < k → (L a1).getD j 0 ≠ 10)) (fun i => a1.size - (intOf i).toNat)
    case atStart => exact ⟨0, Nat.zero_le _, rfl, ⟨fun j hj => by omega⟩⟩
    case round =>
      obtain ⟨k, hk, rfl, hN⟩ := hrel
      by_cases hlt : k < a1.size
      · have d5 : decide ((k : Int) < (a1.size : Int)) = true := decide_eq_true (by omega)
        have d5n : decide (k < a1.size) = true := decide_eq_true hlt
        have hgd : (L a1).getD k 0 = a1[k]'hlt := by rw [List.getD_eq_getElem?_getD, List.getElem?_eq_getElem (by rw [L_length]; exact hlt)]; rfl
        by_cases h10 : (a1[k]'hlt).toNat = 10
        · have d6 : (((a1[k]'hlt).toNat : Int) == 10) = true := by rw [beq_iff_eq]; omega
          clear hgd
          go_wp2
          go_ret
          exact ⟨rfl, HB.out⟩
        · have d6 : (((a1[k]'hlt).toNat : Int) == 10) = false := by rw [beq_eq_false_iff_ne]; omega
          have hN' : Aside0 (∀ j, j < k + 1 → (L a1).getD j 0 ≠ 10) := ⟨by
            intro j hj
            by_cases e : j = k
            · subst e; rw [hgd]; intro e; rw [e] at h10; exact h10 rfl
            · exact hN.out j (by omega)⟩
          clear hN hgd h10
          go_wp2
          go_round
          case rel => exact ⟨k + 1, by omega, by go_num, hN'⟩
          case measure => simp [intOf]; omega
      · have d5 : decide ((k : Int) < (a1.size : Int)) = false := decide_eq_false (by omega)
        have d5n : decide (k < a1.size) = false := decide_eq_false hlt
        have HTn : Aside0 ((10 : UInt8) ∉ L a1) := ⟨by
          intro hm
          obtain ⟨j, hj, he⟩ := List.mem_iff_getElem.1 hm
          rw [L_length] at hj
          refine hN.out j (by omega) ?_
          rw [List.getD_eq_getElem?_getD, List.getElem?_eq_getElem (by rw [L_length]; exact hj), he]; rfl⟩
        clear hN hlt hk
        have q1 : (L a0).length ≤ 300 := by rw [L_length]; exact z0
        cases ha : all (L a0) with
        | error e =>
          obtain ⟨en, p⟩ := e
          have A1 := Aside0.mk ha
          have hne : en ≠ 0 := by rcases all_err_ne ha with h | h | h <;> omega
          have t1 : (en == 0) = false := by rw [beq_eq_false_iff_ne]; exact hne
          have t2 : (en != 0) = true := by rw [bne_iff_ne]; exact hne
          clear ha hne
          go_wp2_with fail
          refine (All_err _ _ _ A1.out _).mono ?_
          rintro e w4 ⟨B1, n1, rfl, h4⟩
          go_wp2
          go_ret
          exact ⟨rfl, below2 HB.out h4⟩
        | ok ts =>
          have hln : ts.length ≤ 2049 := (all_len ha).1
          obtain ⟨X1, E1⟩ : ∃ X, ts.map toS = X := ⟨_, rfl⟩
          have A1 := Aside0.mk ha
          have F1 := Aside0.mk E1
          have hlx : X1.length = ts.length := by rw [← E1, List.length_map]
          have hl1 : X1.length ≤ 2049 := by omega
          have HLX := Aside0.mk hlx
          clear ha E1 hlx hln
          go_wp2_with fail
          refine (All_okX _ _ X1 A1.out F1.out _).mono ?_
          rintro e w4 ⟨B1, n1, rfl, R1, h4⟩
          have H4 := Aside0.mk (below2 HB.out h4)
          have Q1 := Aside0.mk (Kd.R_lower R1 HB.out.size)
          clear R1 h4 HB
          go_wp2_with fail
          go_loop [10, 11] (fun v10 v11 => ∃ (x : Int) (T : ByteArray), 0 ≤ x ∧ x ≤ (X1.length : Int) ∧ v11 = .int .i64 x ∧ v10 = .string T ∧ Aside0 (L T = pieces (L a1) (ts.take x.toNat) 0) ∧ Aside0 ((T.size : Int) ≤ 400 * x)) (fun _ v11 => X1.length - (intOf v11).toNat)
          case atStart => exact ⟨0, _, Int.le_refl _, by omega, rfl, rfl, ⟨rfl⟩, ⟨Int.le_refl _⟩⟩
          case round =>
            obtain ⟨x, T, hx0, hx1, rfl, rfl, HT, HZ⟩ := hrel
            have hz := HZ.out
            by_cases hlt : x < (X1.length : Int)
            · have d1 : decide (x < (X1.length : Int)) = true := decide_eq_true hlt
              obtain ⟨tk, htk, hrd⟩ := rd_at ts X1 F1.out x hx0 hlt
              obtain ⟨ad1, y1, h10, h11, h12⟩ := at_T32 (Kd.R_reads' Q1.out).2.2 x hx0 hlt
              cases y1
              rw [hrd] at h11
              obtain ⟨t, ht⟩ : ∃ t : ByteArray, (toS tk).f1 = t := ⟨_, rfl⟩
              have hLt : L t = tk.text := by rw [← ht]; rfl
              have htz : t.size ≤ 300 := by rw [size_eq hLt]; exact Nat.le_trans (text_le A1.out _ _ htk) q1
              rw [ht] at h11
              have HN : Aside0 (pieces (L a1) (ts.take (x + 1).toNat) 0 = L T ++ piece (L a1) x.toNat tk) := ⟨by
                rw [show (x + 1).toNat = x.toNat + 1 by omega, take_next ts _ _ htk, pieces_snoc, HT.out, List.length_take, Nat.zero_add]
                congr 2
                have := HLX.out; omega⟩
              have HLt := Aside0.mk hLt
              have HTz := Aside0.mk htz
              have b1 : decide (0 ≤ x) = true := decide_eq_true hx0
              have b2 : (0 ≤ x) = True := eq_true hx0
              have b3 : (x < (X1.length : Int)) = True := eq_true hlt
              have s1 : (9223372036854775807 < 1 + t.size) = False := eq_false (by omega)
              have s2 : (9223372036854775807 < T.size + (1 + t.size)) = False := eq_false (by omega)
              have s3 : (9223372036854775807 < 3 + a1.size) = False := eq_false (by omega)
              have s4 : (9223372036854775807 < 3 + a1.size + 1) = False := eq_false (by omega)
              have s5 : (9223372036854775807 < T.size + (1 + t.size) + (3 + a1.size + 1)) = False := eq_false (by omega)
              have s6 : (9223372036854775807 < T.size + (1 + t.size) + 1) = False := eq_false (by omega)
              clear h10 h12 hrd htk ht hLt htz
              by_cases h5 : x % 5 = 4
              · have u1 : (x % 5 == 4) = true := beq_iff_eq.mpr h5
                have H5 : Aside0 (x.toNat % 5 = 4) := ⟨by omega⟩
                clear h5
                go_wp2
                go_round
                case rel =>
                  refine ⟨x + 1, _, by omega, by omega, by first | rfl | go_num, rfl, ⟨?_⟩, ⟨?_⟩⟩
                  · rw [HN.out]
                    unfold piece
                    rw [if_pos H5.out]
                    simp only [L_append, HLt.out, List.append_assoc]
                    rfl
                  · have := HZ.out
                    have e1 : (⟨#[9]⟩ : ByteArray).size = 1 := rfl
                    have e2 : (⟨#[32, 47, 47]⟩ : ByteArray).size = 3 := rfl
                    have e3 : (⟨#[10]⟩ : ByteArray).size = 1 := rfl
                    simp only [ByteArray.size_append, e1, e2, e3]
                    have := HTz.out
                    omega
                case measure => simp [intOf]; omega
              · have u1 : (x % 5 == 4) = false := beq_eq_false_iff_ne.mpr h5
                have H5 : Aside0 (¬ x.toNat % 5 = 4) := ⟨by omega⟩
                clear h5
                go_wp2
                go_round
                case rel =>
                  refine ⟨x + 1, _, by omega, by omega, by first | rfl | go_num, rfl, ⟨?_⟩, ⟨?_⟩⟩
                  · rw [HN.out]
                    unfold piece
                    rw [if_neg H5.out]
                    simp only [L_append, HLt.out, List.append_assoc]
                    rfl
                  · have := HZ.out
                    have e1 : (⟨#[9]⟩ : ByteArray).size = 1 := rfl
                    have e2 : (⟨#[32]⟩ : ByteArray).size = 1 := rfl
                    simp only [ByteArray.size_append, e1, e2]
                    have := HTz.out
                    omega
                case measure => simp [intOf]; omega
            · obtain rfl : x = (X1.length : Int) := by omega
              have d1 : decide ((X1.length : Int) < (X1.length : Int)) = false := decide_eq_false (by omega)
              have d2 : decide (X1.length < X1.length) = false := decide_eq_false (by omega)
              have HP : Aside0 (L T = pieces (L a1) ts 0) := ⟨by
                rw [HT.out, Int.toNat_natCast, List.take_of_length_le (by have := HLX.out; omega)]⟩
              clear hx0 hx1 hlt hz HZ HT
              by_cases hT : T.size > 2048
              · have t1 : decide ((2048 : Int) < (T.size : Int)) = true := decide_eq_true (by omega)
                have t2 : decide (2048 < T.size) = true := decide_eq_true hT
                clear hT
                go_wp2
                go_ret
                exact ⟨rfl, H4.out⟩
              · have t1 : decide ((2048 : Int) < (T.size : Int)) = false := decide_eq_false (by omega)
                have t2 : decide (2048 < T.size) = false := decide_eq_false hT
                obtain ⟨us, hus, hal⟩ := blanks_all (L a1) (L a0) ts HV.out HTn.out A1.out (by rw [← HP.out, L_length]; omega)
                rw [← HP.out] at hus
                have hal2 := alike_of ts us hal
                obtain ⟨X2, E2⟩ : ∃ X, us.map toS = X := ⟨_, rfl⟩
                rw [F1.out, E2] at hal2
                have A2 := Aside0.mk hus
                have F2 := Aside0.mk E2
                have HA := Aside0.mk hal2
                have l1 : ((X2.length : Int) != (X1.length : Int)) = false := by rw [bne_eq_false_iff_eq, hal2.lb]
                have l2 : ((X2.length : Int) == (X1.length : Int)) = true := by rw [beq_iff_eq, hal2.lb]
                have l3 : (X2.length == X1.length) = true := by rw [beq_iff_eq, hal2.lb]
                clear hT hus hal hal2 E2 A1 F1 HLX HV HTn HP
                go_wp2_with fail
                refine (All_okX _ _ X2 A2.out F2.out _).mono ?_
                rintro e w5 ⟨B2, n2, rfl, R2, h5⟩
                have H5 := Aside0.mk (below2 H4.out h5)
                replace Q1 := Aside0.mk (Kd.R_below Q1.out h5)
                have Q2 := Aside0.mk (Kd.R_lower R2 H4.out.size)
                clear R2 h5 H4 A2 F2
                go_wp2_with fail
                go_loopg [15] X1.length (fun kq v15 wr => ∃ x : Int, v15 = .int .i64 x ∧ Aside0 (0 ≤ x ∧ x + kq = X1.length) ∧ Aside0 (Kd.R k32 32 wr w.heap.size (fun _ => True) (.slice B1 X1.length n1) X1) ∧ Aside0 (Kd.R k32 32 wr w.heap.size (fun _ => True) (.slice B2 X2.length n2) X2) ∧ Aside0 (Below w.heap.size w wr))
                case atStart => exact ⟨0, rfl, ⟨by omega, by omega⟩, Q1, Q2, H5⟩
                case round =>
                  clear Q1 Q2 H5
                  obtain ⟨x, rfl, Hx, Q1, Q2, HB⟩ := hrel
                  obtain ⟨hx0, hx1⟩ := Hx.out
                  cases gk with
                  | zero =>
                    have t1 : decide (x < (X1.length : Int)) = false := decide_eq_false (by omega)
                    clear hx0 hx1
                    go_wp2
                    go_ret
                    exact ⟨rfl, HB.out⟩
                  | succ k1 =>
                    have t1 : decide (x < (X1.length : Int)) = true := decide_eq_true (by omega)
                    have hl2 := HA.out.lb
                    obtain ⟨g1, g2⟩ := HA.out.at_ x hx0 (by omega)
                    obtain ⟨ad1, y1, h10, h11, h12⟩ := at_T32 (Kd.R_reads' Q1.out).2.2 x hx0 (by omega)
                    obtain ⟨ad2, y2, h20, h21, h22⟩ := at_T32 (Kd.R_reads' Q2.out).2.2 x hx0 (by omega)
                    cases y1
                    cases y2
                    have b1 : decide (0 ≤ x) = true := decide_eq_true hx0
                    have b2 : (0 ≤ x) = True := eq_true hx0
                    have b3 : (x < (X1.length : Int)) = True := eq_true (by omega)
                    have b4 : (x < (X2.length : Int)) = True := eq_true (by omega)
                    have t2 : ((rd_T32 X1 x).f1.toList != (rd_T32 X2 x).f1.toList) = false := bne_eq_false_iff_eq.mpr g1
                    have t2e : ((rd_T32 X1 x).f1.toList == (rd_T32 X2 x).f1.toList) = true := beq_iff_eq.mpr g1
                    have t3 : ((rd_T32 X1 x).f0 != (rd_T32 X2 x).f0) = false := bne_eq_false_iff_eq.mpr g2
                    have t3e : ((rd_T32 X1 x).f0 == (rd_T32 X2 x).f0) = true := beq_iff_eq.mpr g2
                    have t8 : IntKind.i64.wrap (x + 1) = x + 1 := by rw [IntKind.wrap_i64]; omega
                    clear hl2 g1 g2 hx0 hx1
                    go_wp2
                    go_quiet (fail)
                    go_wp2
                    go_roundg k1
                    case measure => omega
                    case rel => exact ⟨x + 1, rfl, ⟨by have := Hx.out; omega, by have := Hx.out; omega⟩, ⟨by (with_reducible repeat (first | apply Kd.R_alloc | apply Kd.R_drewN | apply Kd.R_drew)); exact Q1.out⟩, ⟨by (with_reducible repeat (first | apply Kd.R_alloc | apply Kd.R_drewN | apply Kd.R_drew)); exact Q2.out⟩, ⟨by repeat (first | (with_reducible first | exact HB.out | apply below_alloc | apply pw_below_drewN | apply below_drew1) | exact HB.out)⟩⟩
end Go.Proofs.YtkgnhghaiopgcaaDoor.Wk
