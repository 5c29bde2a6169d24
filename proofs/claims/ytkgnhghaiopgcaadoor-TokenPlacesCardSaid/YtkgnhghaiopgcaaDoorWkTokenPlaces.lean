/- For every input TokenPlaces returns true: each token's text stands at its place; they rise, and only blanks and notes are between; with an error there are none, and its place is in the text. No condition. -/
import Derived.Test.YtkgnhghaiopgcaaDoorWk
import Derived.Test.YtkgnhghaiopgcaaDoorTpPlaces
set_option linter.unusedVariables false
set_option linter.unusedSimpArgs false
namespace Go.Proofs.YtkgnhghaiopgcaaDoor.Wk
open Go.RowKit Go.Proofs.YtkgnhghaiopgcaaDoorW.PrintWords Go.Proofs.YtkgnhghaiopgcaaDoorW.PrintLast Go.Proofs.YtkgnhghaiopgcaaDoor.X Go.Proofs.YtkgnhghaiopgcaaDoor.Gl Go.Proofs.YtkgnhghaiopgcaaDoor.GlFn Go.Proofs.YtkgnhghaiopgcaaDoor.Tk Go.Proofs.YtkgnhghaiopgcaaDoor.TkFn Go.Proofs.YtkgnhghaiopgcaaDoor.Pure Go.Proofs.YtkgnhghaiopgcaaDoor.Tp

theorem rd_at' (ts : List Tok) (X : List S32) (hX : ts.map toS = X) (x : Int) (h0 : 0 ≤ x) (h1 : x < (X.length : Int)) : ∃ t, ts[x.toNat]? = some t ∧ rd_T32 X x = toS t := by
  subst hX
  obtain ⟨i, rfl⟩ := Int.eq_ofNat_of_zero_le h0
  rw [List.length_map] at h1
  have hi : i < ts.length := by omega
  exact ⟨ts[i]'hi, by rw [Int.toNat_natCast]; exact List.getElem?_eq_getElem hi, rd_S ts i hi⟩

set_option maxHeartbeats 4000000 in
set_option maxRecDepth 100000 in
theorem TokenPlaces (a0 : ByteArray) (w : World) (hK : Aside0 (Aid.KeysIn w)) (w0 : a0.size ≤ 140737488351232) :
    Calls Tryd.prog 5 #[.string a0] w fun e w' => e = .returned (.bool true) ∧ Below w.heap.size w w' := by
  by_cases c1 : (a0.size : Int) > 2000
  · have d1 : decide ((2000 : Int) < (a0.size : Int)) = true := decide_eq_true c1
    have d2 : decide (2000 < a0.size) = true := decide_eq_true (by omega)
    clear c1
    go_enter Tryd.func5, Tryd.ntmps5
    go_wp2_with fail
    refine (awake_calls _ hK).mono ?_
    rintro e w2 ⟨rfl, hb⟩
    go_wp2
    go_ret
    exact ⟨rfl, hb⟩
  have d1 : decide ((2000 : Int) < (a0.size : Int)) = false := decide_eq_false c1
  have d2 : decide (2000 < a0.size) = false := decide_eq_false (by omega)
  have z0 : a0.size ≤ 2000 := by omega
  clear c1
  cases ha : all (L a0) with
  | error e =>
    obtain ⟨en, p⟩ := e
    have A1 := Aside0.mk ha
    have hp : p < a0.size := by
      have := L_length a0
      rcases all_err_ne ha with h | h | h <;> omega
    have t1 : decide ((0 : Int) ≤ (p : Int)) = true := decide_eq_true (by omega)
    have t2 : decide ((p : Int) < (a0.size : Int)) = true := decide_eq_true (by omega)
    have t3 : decide (p < a0.size) = true := decide_eq_true hp
    have hc : (en = 11 ∧ vld (L a0) = false) ∨ ((en = 30 ∨ en = 31) ∧ vld (L a0) = true) := by
      have := L_length a0
      rcases all_err_ne ha with h | h | h
      · omega
      · exact .inl ⟨h.1, h.2.1⟩
      · exact .inr ⟨h.1, h.2.1⟩
    clear ha hp
    rcases hc with ⟨rfl, hv⟩ | ⟨rfl | rfl, hv⟩
    all_goals
      have V1 := Aside0.mk hv
      clear hv
      go_enter Tryd.func5, Tryd.ntmps5
      go_wp2_with fail
      refine (awake_calls _ hK).mono ?_
      rintro e w2 ⟨rfl, hb⟩
      go_wp2_with fail
      refine (All_err _ _ _ A1.out _).mono ?_
      rintro e w4 ⟨B1, n1, rfl, h4⟩
      go_wp2_with fail
      refine (Valid_calls _ _ V1.out _).mono ?_
      rintro e w5 ⟨rfl, h5⟩
      go_wp2
      go_ret
      exact ⟨rfl, below2 (below2 hb h4) h5⟩
  | ok ts =>
    have hpl := all_placed ha
    obtain ⟨hpe, hpos⟩ := prevEnd_last ha
    have hln : ts.length ≤ 2049 := (all_len ha).1
    obtain ⟨X1, E1⟩ : ∃ X, ts.map toS = X := ⟨_, rfl⟩
    have hlx : X1.length = ts.length := by rw [← E1, List.length_map]
    have hl1 : X1.length ≤ 2049 := by omega
    have A1 := Aside0.mk ha
    have F1 := Aside0.mk E1
    have HP := Aside0.mk hpl
    have HE := Aside0.mk hpe
    have HLX := Aside0.mk hlx
    have hp1 : 0 < X1.length := by omega
    clear ha E1 hpl hpe hlx hln hpos
    go_enter Tryd.func5, Tryd.ntmps5
    go_wp2_with fail
    refine (awake_calls _ hK).mono ?_
    rintro e w2 ⟨rfl, hb⟩
    go_wp2_with fail
    refine (All_okX _ _ X1 A1.out F1.out _).mono ?_
    rintro e w4 ⟨B1, n1, rfl, R1, h4⟩
    have H4 := Aside0.mk (below2 hb h4)
    have Q1 := Aside0.mk (Kd.R_lower R1 hb.size)
    clear R1 h4 hb d1 d2
    go_wp2_with fail
    go_loopg [7, 8] X1.length (fun kq v7 v8 wr => ∃ x : Int, v8 = .int .i64 x ∧ v7 = .int .i64 (prevEnd ts 0 x.toNat : Nat) ∧ Aside0 (0 ≤ x ∧ x + kq = X1.length) ∧ Aside0 (Kd.R k32 32 wr w.heap.size (fun _ => True) (.slice B1 X1.length n1) X1) ∧ Aside0 (Below w.heap.size w wr))
    case atStart => exact ⟨0, rfl, rfl, ⟨by omega, by omega⟩, Q1, H4⟩
    case round =>
      clear Q1 H4
      obtain ⟨x, rfl, rfl, Hx, Q1, HB⟩ := hrel
      obtain ⟨hx0, hx1⟩ := Hx.out
      cases gk with
      | zero =>
        have t1 : decide (x < (X1.length : Int)) = false := decide_eq_false (by omega)
        have hpe : prevEnd ts 0 x.toNat = a0.size := by
          have h1 := HE.out
          have h2 := HLX.out
          rw [L_length] at h1
          rw [← h1, show x.toNat = ts.length by omega]
        have t2 : decide ((0 : Int) < (X1.length : Int)) = true := decide_eq_true (by omega)
        have t3 : decide (0 < X1.length) = true := decide_eq_true hp1
        rw [hpe]
        clear hx0 hx1 hpe hp1
        go_wp2
        go_ret
        exact ⟨rfl, HB.out⟩
      | succ k1 =>
        have t1 : decide (x < (X1.length : Int)) = true := decide_eq_true (by omega)
        have hlt : x < (X1.length : Int) := by omega
        obtain ⟨tk, htk, hrd⟩ := rd_at' ts X1 F1.out x hx0 hlt
        obtain ⟨q1, q2, q3, q4, q5⟩ := placed_at (L a0) ts 0 HP.out _ _ htk
        obtain ⟨ad1, y1, h10, h11, h12⟩ := at_T32 (Kd.R_reads' Q1.out).2.2 x hx0 hlt
        cases y1
        rw [hrd] at h10 h11 h12
        obtain ⟨kd, hkd⟩ : ∃ kd, tk.kind = kd := ⟨_, rfl⟩
        obtain ⟨t, ht⟩ : ∃ t : ByteArray, (⟨tk.text.toArray⟩ : ByteArray) = t := ⟨_, rfl⟩
        obtain ⟨a, hat⟩ : ∃ a, tk.at_ = a := ⟨_, rfl⟩
        obtain ⟨pe, hpe⟩ : ∃ pe, prevEnd ts 0 x.toNat = pe := ⟨_, rfl⟩
        have hLt : L t = tk.text := by rw [← ht]
        have htz : tk.text.length = t.size := by rw [← hLt, L_length]
        rw [show (toS tk).f0 = kd from hkd] at h10
        rw [show (toS tk).f1 = t from ht] at h11
        rw [show (toS tk).f2 = (a : Int) from by rw [← hat]; rfl] at h12
        have hnx : prevEnd ts 0 (x + 1).toNat = a + t.size := by
          rw [show (x + 1).toNat = x.toNat + 1 by omega, prevEnd, htk]
          show tk.at_ + tk.text.length = _
          rw [hat, htz]
        rw [hpe] at q1 q2 ⊢
        rw [hat] at q1 q2 q3 q4 q5
        rw [htz] at q3 q4
        rw [← hLt] at q3
        rw [L_length] at q4 q5
        have hex : a0.extract a (a + t.size) = t := L_inj (by rw [L_extract, show a + t.size - a = t.size by omega]; exact q3)
        have HNX := Aside0.mk hnx
        have HG := Aside0.mk q2
        have HLt := Aside0.mk hLt
        have HH : Aside0 ((kd = 3 ∧ t.size = 0 ∧ x = (X1.length : Int) - 1) ∨ (kd = 2 ∧ t.size ≠ 0 ∧ x < (X1.length : Int) - 1) ∨ (kd = 1 ∧ t.size ≠ 0 ∧ x < (X1.length : Int) - 1 ∧ name (L t) = true)) := ⟨by
          have h2 := HLX.out
          rcases q5 with ⟨h3, h4, h5, h6⟩ | ⟨h3, h4⟩
          · left
            refine ⟨by rw [← hkd]; exact h4, by rw [← htz, h5]; rfl, by omega⟩
          · have hne := good_ne h4
            have hz : t.size ≠ 0 := by rw [← htz]; exact len_ne hne
            rcases h4 with ⟨h5, h6⟩ | ⟨h5, h6⟩
            · exact .inr (.inr ⟨by rw [← hkd]; exact h5, hz, by omega, by rw [hLt]; exact h6⟩)
            · exact .inr (.inl ⟨by rw [← hkd]; exact h5, hz, by omega⟩)⟩
        have b1 : decide (0 ≤ x) = true := decide_eq_true hx0
        have b2 : (0 ≤ x) = True := eq_true hx0
        have b3 : (x < (X1.length : Int)) = True := eq_true hlt
        clear q2 q3 q5 hrd htk hkd ht hat hpe hLt htz hnx
        go_upto_region 14 with (fail)
        obtain ⟨b, hb⟩ : ∃ b, wr.heap.size = b := ⟨_, rfl⟩
        obtain ⟨W5, hW5⟩ : ∃ W5, W5 = wr.alloc (.cells #[.int .i64 kd, .string t, .int .i64 (a : Int)] 32) := ⟨_, rfl⟩
        have e0 : W5.cell? ⟨b, 0, none⟩ = some (.int .i64 kd) := by rw [hW5, ← hb]; simp [go_sem]
        have e1 : W5.cell? ⟨b, 1, none⟩ = some (.string t) := by rw [hW5, ← hb]; simp [go_sem]
        have e2 : W5.cell? ⟨b, 2, none⟩ = some (.int .i64 (a : Int)) := by rw [hW5, ← hb]; simp [go_sem]
        have HB5 : Aside0 (Below w.heap.size w W5) := ⟨by rw [hW5]; exact below_alloc HB.out _⟩
        have Q5 : Aside0 (Kd.R k32 32 W5 w.heap.size (fun _ => True) (.slice (some ad1) X1.length n1) X1) := ⟨by rw [hW5]; exact Kd.R_alloc Q1.out _⟩
        rw [← hW5, hb]
        clear hW5 hb h10 h11 h12 Q1 HB b1 b2 b3 t1
        have u1 : decide ((a : Int) < (pe : Int)) = false := decide_eq_false (by omega)
        have u2 : decide (a < pe) = false := decide_eq_false (by omega)
        have u3 : IntKind.i64.wrap ((a : Int) + (t.size : Int)) = (a : Int) + (t.size : Int) := by rw [IntKind.wrap_i64]; omega
        have u4 : decide ((a0.size : Int) < (a : Int) + (t.size : Int)) = false := decide_eq_false (by omega)
        have u5 : decide (a0.size < a + t.size) = false := decide_eq_false (by omega)
        have u6 : (0 : Int) ≤ (a : Int) := by omega
        have u7 : (a : Int) ≤ (a : Int) + (t.size : Int) := by omega
        have u8 : (a : Int) + (t.size : Int) ≤ (a0.size : Int) := by omega
        have u9 : ((a : Int) + (t.size : Int)).toNat = a + t.size := by omega
        have v1 : IntKind.i64.wrap ((X1.length : Int) - 1) = (X1.length : Int) - 1 := by rw [IntKind.wrap_i64]; omega
        have HPA : Aside0 (pe ≤ a ∧ a + t.size ≤ a0.size) := ⟨q1, q4⟩
        clear q1 q4
        go_cut [118] (fun v118 wc => v118 = .bool false ∧ Aside0 (wc.cell? ⟨b, 0, none⟩ = some (.int .i64 kd) ∧ wc.cell? ⟨b, 1, none⟩ = some (.string t) ∧ wc.cell? ⟨b, 2, none⟩ = some (.int .i64 (a : Int))) ∧ Aside0 (Kd.R k32 32 wc w.heap.size (fun _ => True) (.slice (some ad1) X1.length n1) X1) ∧ Aside0 (Below w.heap.size w wc))
        case first =>
          rcases HH.out with ⟨rfl, hz, hx⟩ | ⟨rfl, hz, hx⟩ | ⟨rfl, hz, hx, hnm⟩
          · as_aux_lemma =>
              have v2 : (x == (X1.length : Int) - 1) = true := beq_iff_eq.mpr hx
              have v4 : t.toList = [] := by rw [toL]; exact List.eq_nil_of_length_eq_zero (by rw [L_length]; exact hz)
              have v3 : (t.toList == ([] : List UInt8)) = true := by rw [v4]; rfl
              clear hz hx HH hx0 hx1
              go_quiet (fail)
              go_wp2
              go_meet
              case rel => exact ⟨rfl, ⟨e0, e1, e2⟩, ⟨Kd.R_drewN Q5.out _⟩, ⟨pw_below_drewN HB5.out _⟩⟩
          · as_aux_lemma =>
              have v2 : (x == (X1.length : Int) - 1) = false := beq_eq_false_iff_ne.mpr (by omega)
              have v0 : ¬ t.toList = [] := by rw [toL]; intro e; have := congrArg List.length e; rw [L_length] at this; exact hz this
              have v3 : (t.toList == ([] : List UInt8)) = false := beq_eq_false_iff_ne.mpr v0
              have v4 : (t.toList = []) = False := eq_false v0
              have v5 : t.toList.isEmpty = false := by cases h : t.toList with
                | nil => exact absurd h v0
                | cons c r => rfl
              clear hz hx HH hx0 hx1 v0
              go_quiet (fail)
              go_wp2
              go_meet
              case rel => exact ⟨rfl, ⟨e0, e1, e2⟩, ⟨Kd.R_drewN Q5.out _⟩, ⟨pw_below_drewN HB5.out _⟩⟩
          · as_aux_lemma =>
              have v2 : (x == (X1.length : Int) - 1) = false := beq_eq_false_iff_ne.mpr (by omega)
              have v0 : ¬ t.toList = [] := by rw [toL]; intro e; have := congrArg List.length e; rw [L_length] at this; exact hz this
              have v3 : (t.toList == ([] : List UInt8)) = false := beq_eq_false_iff_ne.mpr v0
              have v4 : (t.toList = []) = False := eq_false v0
              have v5 : t.toList.isEmpty = false := by cases h : t.toList with
                | nil => exact absurd h v0
                | cons c r => rfl
              have htz : t.size ≤ 140737488351232 := by omega
              have HNm := Aside0.mk hnm
              clear hz hx HH hx0 hx1 v0 hnm
              refine start_ (n := 61) (S := fun w' => w'.cell? ⟨b, 0, none⟩ = some (.int .i64 1) ∧ w'.cell? ⟨b, 1, none⟩ = some (.string t) ∧ w'.cell? ⟨b, 2, none⟩ = some (.int .i64 (a : Int))) (ds := []) #[false, false, false, false, false, false, false, false, false, false, false, false, false, false, false, false, false, false, false, false, false, false, false, false, false, false, false, false, false, false, false, false, false, false, false, false, false, false, false, false, false, false, false, false, false, false, false, false, false, false, false, false, false, false, false, false, false, false, false, false, false] (by kernel_rfl) rfl rfl ⟨e0, e1, e2⟩ (fun hHeld => ?_)
              refine pure_ (i := 0) (N := some 58) (v := ?_) (a' := ?_) #[true, false, false, false, false, false, false, false, false, false, false, false, false, false, false, false, false, false, false, false, false, false, false, false, false, false, false, false, false, false, false, false, false, false, false, false, false, false, false, false, false, false, false, false, false, false, false, false, false, false, false, false, false, false, false, false, false, false, false, false, false] rfl rfl (by kernel_rfl) (fun _ _ _ h => h) (Or.inl ⟨by rfl, ?_⟩) ?_ ?_
              rotate_left
              · intro w'
                go_simp
                with_reducible rfl
              rotate_left
              · simp only [Act.put, List.setIfInBounds_toArray, List.set_cons_zero, List.set_cons_succ, i64_w, i32_w]
                rfl
              refine pure_ (i := 2) (N := some 60) (v := ?_) (a' := ?_) #[true, false, true, false, false, false, false, false, false, false, false, false, false, false, false, false, false, false, false, false, false, false, false, false, false, false, false, false, false, false, false, false, false, false, false, false, false, false, false, false, false, false, false, false, false, false, false, false, false, false, false, false, false, false, false, false, false, false, false, false, false] rfl rfl (by kernel_rfl) (fun _ _ _ h => h) (Or.inl ⟨by rfl, ?_⟩) ?_ ?_
              rotate_left
              · intro w'
                go_simp
                with_reducible rfl
              rotate_left
              · simp only [Act.put, List.setIfInBounds_toArray, List.set_cons_zero, List.set_cons_succ, i64_w, i32_w]
                rfl
              refine take_ (i := 1) (N := some 59) (v := ?_) (a' := ?_) #[true, true, true, false, false, false, false, false, false, false, false, false, false, false, false, false, false, false, false, false, false, false, false, false, false, false, false, false, false, false, false, false, false, false, false, false, false, false, false, false, false, false, false, false, false, false, false, false, false, false, false, false, false, false, false, false, false, false, false, false, false] rfl rfl (by kernel_rfl) (fun _ _ _ h => h) (Or.inl ⟨by rfl, ?_⟩) hHeld ?_ ?_
              rotate_left
              · rintro w' ⟨s0, s1, s2⟩
                go_simp
                with_reducible rfl
              rotate_left
              · simp only [Act.put, List.setIfInBounds_toArray, List.set_cons_zero, List.set_cons_succ, i64_w, i32_w]
                rfl
              refine pure_ (i := 3) (N := some 61) (v := ?_) (a' := ?_) #[true, true, true, true, false, false, false, false, false, false, false, false, false, false, false, false, false, false, false, false, false, false, false, false, false, false, false, false, false, false, false, false, false, false, false, false, false, false, false, false, false, false, false, false, false, false, false, false, false, false, false, false, false, false, false, false, false, false, false, false, false] rfl rfl (by kernel_rfl) (fun _ _ _ h => h) (Or.inl ⟨by rfl, ?_⟩) ?_ ?_
              rotate_left
              · intro w'
                go_simp
                with_reducible rfl
              rotate_left
              · simp only [Act.put, List.setIfInBounds_toArray, List.set_cons_zero, List.set_cons_succ, i64_w, i32_w]
                rfl
              refine pure_ (i := 4) (N := some 62) (v := ?_) (a' := ?_) #[true, true, true, true, true, false, false, false, false, false, false, false, false, false, false, false, false, false, false, false, false, false, false, false, false, false, false, false, false, false, false, false, false, false, false, false, false, false, false, false, false, false, false, false, false, false, false, false, false, false, false, false, false, false, false, false, false, false, false, false, false] rfl rfl (by kernel_rfl) (fun _ _ _ h => h) (Or.inl ⟨by rfl, ?_⟩) ?_ ?_
              rotate_left
              · intro w'
                go_simp
                with_reducible rfl
              rotate_left
              · simp only [Act.put, List.setIfInBounds_toArray, List.set_cons_zero, List.set_cons_succ, i64_w, i32_w]
                rfl
              refine pure_ (i := 5) (N := some 63) (v := ?_) (a' := ?_) #[true, true, true, true, true, true, false, false, false, false, false, false, false, false, false, false, false, false, false, false, false, false, false, false, false, false, false, false, false, false, false, false, false, false, false, false, false, false, false, false, false, false, false, false, false, false, false, false, false, false, false, false, false, false, false, false, false, false, false, false, false] rfl rfl (by kernel_rfl) (fun _ _ _ h => h) (Or.inl ⟨by rfl, ?_⟩) ?_ ?_
              rotate_left
              · intro w'
                go_simp
                with_reducible rfl
              rotate_left
              · simp only [Act.put, List.setIfInBounds_toArray, List.set_cons_zero, List.set_cons_succ, i64_w, i32_w]
                rfl
              refine pure_ (i := 7) (N := some 65) (v := ?_) (a' := ?_) #[true, true, true, true, true, true, false, true, false, false, false, false, false, false, false, false, false, false, false, false, false, false, false, false, false, false, false, false, false, false, false, false, false, false, false, false, false, false, false, false, false, false, false, false, false, false, false, false, false, false, false, false, false, false, false, false, false, false, false, false, false] rfl rfl (by kernel_rfl) (fun _ _ _ h => h) (Or.inl ⟨by rfl, ?_⟩) ?_ ?_
              rotate_left
              · intro w'
                go_simp
                with_reducible rfl
              rotate_left
              · simp only [Act.put, List.setIfInBounds_toArray, List.set_cons_zero, List.set_cons_succ, i64_w, i32_w]
                rfl
              refine pure_ (i := 11) (N := some 69) (v := ?_) (a' := ?_) #[true, true, true, true, true, true, false, true, false, false, false, true, false, false, false, false, false, false, false, false, false, false, false, false, false, false, false, false, false, false, false, false, false, false, false, false, false, false, false, false, false, false, false, false, false, false, false, false, false, false, false, false, false, false, false, false, false, false, false, false, false] rfl rfl (by kernel_rfl) (fun _ _ _ h => h) (Or.inl ⟨by rfl, ?_⟩) ?_ ?_
              rotate_left
              · intro w'
                go_simp
                with_reducible rfl
              rotate_left
              · simp only [Act.put, List.setIfInBounds_toArray, List.set_cons_zero, List.set_cons_succ, i64_w, i32_w]
                rfl
              refine pure_ (i := 12) (N := some 70) (v := ?_) (a' := ?_) #[true, true, true, true, true, true, false, true, false, false, false, true, true, false, false, false, false, false, false, false, false, false, false, false, false, false, false, false, false, false, false, false, false, false, false, false, false, false, false, false, false, false, false, false, false, false, false, false, false, false, false, false, false, false, false, false, false, false, false, false, false] rfl rfl (by kernel_rfl) (fun _ _ _ h => h) (Or.inl ⟨by rfl, ?_⟩) ?_ ?_
              rotate_left
              · intro w'
                go_simp
                with_reducible rfl
              rotate_left
              · simp only [Act.put, List.setIfInBounds_toArray, List.set_cons_zero, List.set_cons_succ, i64_w, i32_w]
                rfl
              refine take_ (i := 6) (N := some 64) (v := ?_) (a' := ?_) #[true, true, true, true, true, true, true, true, false, false, false, true, true, false, false, false, false, false, false, false, false, false, false, false, false, false, false, false, false, false, false, false, false, false, false, false, false, false, false, false, false, false, false, false, false, false, false, false, false, false, false, false, false, false, false, false, false, false, false, false, false] rfl rfl (by kernel_rfl) (fun _ _ _ h => h) (Or.inl ⟨by rfl, ?_⟩) hHeld ?_ ?_
              rotate_left
              · rintro w' ⟨s0, s1, s2⟩
                go_simp
                with_reducible rfl
              rotate_left
              · simp only [Act.put, List.setIfInBounds_toArray, List.set_cons_zero, List.set_cons_succ, i64_w, i32_w]
                rfl
              refine take_ (i := 8) (N := some 66) (v := ?_) (a' := ?_) #[true, true, true, true, true, true, true, true, true, false, false, true, true, false, false, false, false, false, false, false, false, false, false, false, false, false, false, false, false, false, false, false, false, false, false, false, false, false, false, false, false, false, false, false, false, false, false, false, false, false, false, false, false, false, false, false, false, false, false, false, false] rfl rfl (by kernel_rfl) (fun _ _ _ h => h) (Or.inl ⟨by rfl, ?_⟩) hHeld ?_ ?_
              rotate_left
              · rintro w' ⟨s0, s1, s2⟩
                go_simp
                with_reducible rfl
              rotate_left
              · simp only [Act.put, List.setIfInBounds_toArray, List.set_cons_zero, List.set_cons_succ, i64_w, i32_w]
                rfl
              refine pure_ (i := 9) (N := some 67) (v := ?_) (a' := ?_) #[true, true, true, true, true, true, true, true, true, true, false, true, true, false, false, false, false, false, false, false, false, false, false, false, false, false, false, false, false, false, false, false, false, false, false, false, false, false, false, false, false, false, false, false, false, false, false, false, false, false, false, false, false, false, false, false, false, false, false, false, false] rfl rfl (by kernel_rfl) (fun _ _ _ h => h) (Or.inl ⟨by rfl, ?_⟩) ?_ ?_
              rotate_left
              · intro w'
                go_simp
                with_reducible rfl
              rotate_left
              · simp only [Act.put, List.setIfInBounds_toArray, List.set_cons_zero, List.set_cons_succ, i64_w, i32_w]
                rfl
              refine pure_ (i := 10) (N := some 68) (v := ?_) (a' := ?_) #[true, true, true, true, true, true, true, true, true, true, true, true, true, false, false, false, false, false, false, false, false, false, false, false, false, false, false, false, false, false, false, false, false, false, false, false, false, false, false, false, false, false, false, false, false, false, false, false, false, false, false, false, false, false, false, false, false, false, false, false, false] rfl rfl (by kernel_rfl) (fun _ _ _ h => h) (Or.inl ⟨by rfl, ?_⟩) ?_ ?_
              rotate_left
              · intro w'
                go_simp
                with_reducible rfl
              rotate_left
              · simp only [Act.put, List.setIfInBounds_toArray, List.set_cons_zero, List.set_cons_succ, i64_w, i32_w]
                rfl
              refine pure_ (i := 13) (N := some 71) (v := ?_) (a' := ?_) #[true, true, true, true, true, true, true, true, true, true, true, true, true, true, false, false, false, false, false, false, false, false, false, false, false, false, false, false, false, false, false, false, false, false, false, false, false, false, false, false, false, false, false, false, false, false, false, false, false, false, false, false, false, false, false, false, false, false, false, false, false] rfl rfl (by kernel_rfl) (fun _ _ _ h => h) (Or.inl ⟨by rfl, ?_⟩) ?_ ?_
              rotate_left
              · intro w'
                go_simp
                with_reducible rfl
              rotate_left
              · simp only [Act.put, List.setIfInBounds_toArray, List.set_cons_zero, List.set_cons_succ, i64_w, i32_w]
                rfl
              refine pure_ (i := 14) (N := some 72) (v := ?_) (a' := ?_) #[true, true, true, true, true, true, true, true, true, true, true, true, true, true, true, false, false, false, false, false, false, false, false, false, false, false, false, false, false, false, false, false, false, false, false, false, false, false, false, false, false, false, false, false, false, false, false, false, false, false, false, false, false, false, false, false, false, false, false, false, false] rfl rfl (by kernel_rfl) (fun _ _ _ h => h) (Or.inl ⟨by rfl, ?_⟩) ?_ ?_
              rotate_left
              · intro w'
                go_simp
                with_reducible rfl
              rotate_left
              · simp only [Act.put, List.setIfInBounds_toArray, List.set_cons_zero, List.set_cons_succ, i64_w, i32_w]
                rfl
              refine pure_ (i := 15) (N := some 73) (v := ?_) (a' := ?_) #[true, true, true, true, true, true, true, true, true, true, true, true, true, true, true, true, false, false, false, false, false, false, false, false, false, false, false, false, false, false, false, false, false, false, false, false, false, false, false, false, false, false, false, false, false, false, false, false, false, false, false, false, false, false, false, false, false, false, false, false, false] rfl rfl (by kernel_rfl) (fun _ _ _ h => h) (Or.inl ⟨by rfl, ?_⟩) ?_ ?_
              rotate_left
              · intro w'
                go_simp
                with_reducible rfl
              rotate_left
              · simp only [Act.put, List.setIfInBounds_toArray, List.set_cons_zero, List.set_cons_succ, i64_w, i32_w]
                rfl
              refine pure_ (i := 16) (N := some 74) (v := ?_) (a' := ?_) #[true, true, true, true, true, true, true, true, true, true, true, true, true, true, true, true, true, false, false, false, false, false, false, false, false, false, false, false, false, false, false, false, false, false, false, false, false, false, false, false, false, false, false, false, false, false, false, false, false, false, false, false, false, false, false, false, false, false, false, false, false] rfl rfl (by kernel_rfl) (fun _ _ _ h => h) (Or.inl ⟨by rfl, ?_⟩) ?_ ?_
              rotate_left
              · intro w'
                go_simp
                with_reducible rfl
              rotate_left
              · simp only [Act.put, List.setIfInBounds_toArray, List.set_cons_zero, List.set_cons_succ, i64_w, i32_w]
                rfl
              refine pure_ (i := 17) (N := some 75) (v := ?_) (a' := ?_) #[true, true, true, true, true, true, true, true, true, true, true, true, true, true, true, true, true, true, false, false, false, false, false, false, false, false, false, false, false, false, false, false, false, false, false, false, false, false, false, false, false, false, false, false, false, false, false, false, false, false, false, false, false, false, false, false, false, false, false, false, false] rfl rfl (by kernel_rfl) (fun _ _ _ h => h) (Or.inl ⟨by rfl, ?_⟩) ?_ ?_
              rotate_left
              · intro w'
                go_simp
                with_reducible rfl
              rotate_left
              · simp only [Act.put, List.setIfInBounds_toArray, List.set_cons_zero, List.set_cons_succ, i64_w, i32_w]
                rfl
              refine pure_ (i := 19) (N := some 77) (v := ?_) (a' := ?_) #[true, true, true, true, true, true, true, true, true, true, true, true, true, true, true, true, true, true, false, true, false, false, false, false, false, false, false, false, false, false, false, false, false, false, false, false, false, false, false, false, false, false, false, false, false, false, false, false, false, false, false, false, false, false, false, false, false, false, false, false, false] rfl rfl (by kernel_rfl) (fun _ _ _ h => h) (Or.inl ⟨by rfl, ?_⟩) ?_ ?_
              rotate_left
              · intro w'
                go_simp
                with_reducible rfl
              rotate_left
              · simp only [Act.put, List.setIfInBounds_toArray, List.set_cons_zero, List.set_cons_succ, i64_w, i32_w]
                rfl
              refine pure_ (i := 21) (N := some 79) (v := ?_) (a' := ?_) #[true, true, true, true, true, true, true, true, true, true, true, true, true, true, true, true, true, true, false, true, false, true, false, false, false, false, false, false, false, false, false, false, false, false, false, false, false, false, false, false, false, false, false, false, false, false, false, false, false, false, false, false, false, false, false, false, false, false, false, false, false] rfl rfl (by kernel_rfl) (fun _ _ _ h => h) (Or.inl ⟨by rfl, ?_⟩) ?_ ?_
              rotate_left
              · intro w'
                go_simp
                with_reducible rfl
              rotate_left
              · simp only [Act.put, List.setIfInBounds_toArray, List.set_cons_zero, List.set_cons_succ, i64_w, i32_w]
                rfl
              refine pure_ (i := 26) (N := some 84) (v := ?_) (a' := ?_) #[true, true, true, true, true, true, true, true, true, true, true, true, true, true, true, true, true, true, false, true, false, true, false, false, false, false, true, false, false, false, false, false, false, false, false, false, false, false, false, false, false, false, false, false, false, false, false, false, false, false, false, false, false, false, false, false, false, false, false, false, false] rfl rfl (by kernel_rfl) (fun _ _ _ h => h) (Or.inl ⟨by rfl, ?_⟩) ?_ ?_
              rotate_left
              · intro w'
                go_simp
                with_reducible rfl
              rotate_left
              · simp only [Act.put, List.setIfInBounds_toArray, List.set_cons_zero, List.set_cons_succ, i64_w, i32_w]
                rfl
              refine take_ (i := 18) (N := some 76) (v := ?_) (a' := ?_) #[true, true, true, true, true, true, true, true, true, true, true, true, true, true, true, true, true, true, true, true, false, true, false, false, false, false, true, false, false, false, false, false, false, false, false, false, false, false, false, false, false, false, false, false, false, false, false, false, false, false, false, false, false, false, false, false, false, false, false, false, false] rfl rfl (by kernel_rfl) (fun _ _ _ h => h) (Or.inl ⟨by rfl, ?_⟩) hHeld ?_ ?_
              rotate_left
              · rintro w' ⟨s0, s1, s2⟩
                go_simp
                with_reducible rfl
              rotate_left
              · simp only [Act.put, List.setIfInBounds_toArray, List.set_cons_zero, List.set_cons_succ, i64_w, i32_w]
                rfl
              refine take_ (i := 20) (N := some 78) (v := ?_) (a' := ?_) #[true, true, true, true, true, true, true, true, true, true, true, true, true, true, true, true, true, true, true, true, true, true, false, false, false, false, true, false, false, false, false, false, false, false, false, false, false, false, false, false, false, false, false, false, false, false, false, false, false, false, false, false, false, false, false, false, false, false, false, false, false] rfl rfl (by kernel_rfl) (fun _ _ _ h => h) (Or.inl ⟨by rfl, ?_⟩) hHeld ?_ ?_
              rotate_left
              · rintro w' ⟨s0, s1, s2⟩
                go_simp
                with_reducible rfl
              rotate_left
              · simp only [Act.put, List.setIfInBounds_toArray, List.set_cons_zero, List.set_cons_succ, i64_w, i32_w]
                rfl
              refine take_ (i := 22) (N := some 80) (v := ?_) (a' := ?_) #[true, true, true, true, true, true, true, true, true, true, true, true, true, true, true, true, true, true, true, true, true, true, true, false, false, false, true, false, false, false, false, false, false, false, false, false, false, false, false, false, false, false, false, false, false, false, false, false, false, false, false, false, false, false, false, false, false, false, false, false, false] rfl rfl (by kernel_rfl) (fun _ _ _ h => h) (Or.inl ⟨by rfl, ?_⟩) hHeld ?_ ?_
              rotate_left
              · rintro w' ⟨s0, s1, s2⟩
                go_simp
                with_reducible rfl
              rotate_left
              · simp only [Act.put, List.setIfInBounds_toArray, List.set_cons_zero, List.set_cons_succ, i64_w, i32_w]
                rfl
              refine pure_ (i := 23) (N := some 81) (v := ?_) (a' := ?_) #[true, true, true, true, true, true, true, true, true, true, true, true, true, true, true, true, true, true, true, true, true, true, true, true, false, false, true, false, false, false, false, false, false, false, false, false, false, false, false, false, false, false, false, false, false, false, false, false, false, false, false, false, false, false, false, false, false, false, false, false, false] rfl rfl (by kernel_rfl) (fun _ _ _ h => h) (Or.inl ⟨by rfl, ?_⟩) ?_ ?_
              rotate_left
              · intro w'
                go_simp
                with_reducible rfl
              rotate_left
              · simp only [Act.put, List.setIfInBounds_toArray, List.set_cons_zero, List.set_cons_succ, i64_w, i32_w]
                rfl
              refine pure_ (i := 24) (N := some 82) (v := ?_) (a' := ?_) #[true, true, true, true, true, true, true, true, true, true, true, true, true, true, true, true, true, true, true, true, true, true, true, true, true, false, true, false, false, false, false, false, false, false, false, false, false, false, false, false, false, false, false, false, false, false, false, false, false, false, false, false, false, false, false, false, false, false, false, false, false] rfl rfl (by kernel_rfl) (fun _ _ _ h => h) (Or.inl ⟨by rfl, ?_⟩) ?_ ?_
              rotate_left
              · intro w'
                go_simp
                with_reducible rfl
              rotate_left
              · simp only [Act.put, List.setIfInBounds_toArray, List.set_cons_zero, List.set_cons_succ, i64_w, i32_w]
                rfl
              refine pure_ (i := 25) (N := some 83) (v := ?_) (a' := ?_) #[true, true, true, true, true, true, true, true, true, true, true, true, true, true, true, true, true, true, true, true, true, true, true, true, true, true, true, false, false, false, false, false, false, false, false, false, false, false, false, false, false, false, false, false, false, false, false, false, false, false, false, false, false, false, false, false, false, false, false, false, false] rfl rfl (by kernel_rfl) (fun _ _ _ h => h) (Or.inl ⟨by rfl, ?_⟩) ?_ ?_
              rotate_left
              · intro w'
                go_simp
                with_reducible rfl
              rotate_left
              · simp only [Act.put, List.setIfInBounds_toArray, List.set_cons_zero, List.set_cons_succ, i64_w, i32_w]
                rfl
              refine take_ (i := 27) (N := some 85) (v := ?_) (a' := ?_) #[true, true, true, true, true, true, true, true, true, true, true, true, true, true, true, true, true, true, true, true, true, true, true, true, true, true, true, true, false, false, false, false, false, false, false, false, false, false, false, false, false, false, false, false, false, false, false, false, false, false, false, false, false, false, false, false, false, false, false, false, false] rfl rfl (by kernel_rfl) (fun _ _ _ h => h) (Or.inl ⟨by rfl, ?_⟩) hHeld ?_ ?_
              rotate_left
              · rintro w' ⟨s0, s1, s2⟩
                go_simp
                with_reducible rfl
              rotate_left
              · simp only [Act.put, List.setIfInBounds_toArray, List.set_cons_zero, List.set_cons_succ, i64_w, i32_w]
                rfl
              refine pure_ (i := 28) (N := some 86) (v := ?_) (a' := ?_) #[true, true, true, true, true, true, true, true, true, true, true, true, true, true, true, true, true, true, true, true, true, true, true, true, true, true, true, true, true, false, false, false, false, false, false, false, false, false, false, false, false, false, false, false, false, false, false, false, false, false, false, false, false, false, false, false, false, false, false, false, false] rfl rfl (by kernel_rfl) (fun _ _ _ h => h) (Or.inl ⟨by rfl, ?_⟩) ?_ ?_
              rotate_left
              · intro w'
                go_simp
                with_reducible rfl
              rotate_left
              · simp only [Act.put, List.setIfInBounds_toArray, List.set_cons_zero, List.set_cons_succ, i64_w, i32_w]
                rfl
              refine pure_ (i := 29) (N := some 87) (v := ?_) (a' := ?_) #[true, true, true, true, true, true, true, true, true, true, true, true, true, true, true, true, true, true, true, true, true, true, true, true, true, true, true, true, true, true, false, false, false, false, false, false, false, false, false, false, false, false, false, false, false, false, false, false, false, false, false, false, false, false, false, false, false, false, false, false, false] rfl rfl (by kernel_rfl) (fun _ _ _ h => h) (Or.inl ⟨by rfl, ?_⟩) ?_ ?_
              rotate_left
              · intro w'
                go_simp
                with_reducible rfl
              rotate_left
              · simp only [Act.put, List.setIfInBounds_toArray, List.set_cons_zero, List.set_cons_succ, i64_w, i32_w]
                rfl
              refine pure_ (i := 30) (N := some 88) (v := ?_) (a' := ?_) #[true, true, true, true, true, true, true, true, true, true, true, true, true, true, true, true, true, true, true, true, true, true, true, true, true, true, true, true, true, true, true, false, false, false, false, false, false, false, false, false, false, false, false, false, false, false, false, false, false, false, false, false, false, false, false, false, false, false, false, false, false] rfl rfl (by kernel_rfl) (fun _ _ _ h => h) (Or.inl ⟨by rfl, ?_⟩) ?_ ?_
              rotate_left
              · intro w'
                go_simp
                with_reducible rfl
              rotate_left
              · simp only [Act.put, List.setIfInBounds_toArray, List.set_cons_zero, List.set_cons_succ, i64_w, i32_w]
                rfl
              refine pure_ (i := 31) (N := some 89) (v := ?_) (a' := ?_) #[true, true, true, true, true, true, true, true, true, true, true, true, true, true, true, true, true, true, true, true, true, true, true, true, true, true, true, true, true, true, true, true, false, false, false, false, false, false, false, false, false, false, false, false, false, false, false, false, false, false, false, false, false, false, false, false, false, false, false, false, false] rfl rfl (by kernel_rfl) (fun _ _ _ h => h) (Or.inl ⟨by rfl, ?_⟩) ?_ ?_
              rotate_left
              · intro w'
                go_simp
                with_reducible rfl
              rotate_left
              · simp only [Act.put, List.setIfInBounds_toArray, List.set_cons_zero, List.set_cons_succ, i64_w, i32_w]
                rfl
              refine pure_ (i := 34) (N := some 92) (v := ?_) (a' := ?_) #[true, true, true, true, true, true, true, true, true, true, true, true, true, true, true, true, true, true, true, true, true, true, true, true, true, true, true, true, true, true, true, true, false, false, true, false, false, false, false, false, false, false, false, false, false, false, false, false, false, false, false, false, false, false, false, false, false, false, false, false, false] rfl rfl (by kernel_rfl) (fun _ _ _ h => h) (Or.inl ⟨by rfl, ?_⟩) ?_ ?_
              rotate_left
              · intro w'
                go_simp
                with_reducible rfl
              rotate_left
              · simp only [Act.put, List.setIfInBounds_toArray, List.set_cons_zero, List.set_cons_succ, i64_w, i32_w]
                rfl
              refine pure_ (i := 35) (N := some 93) (v := ?_) (a' := ?_) #[true, true, true, true, true, true, true, true, true, true, true, true, true, true, true, true, true, true, true, true, true, true, true, true, true, true, true, true, true, true, true, true, false, false, true, true, false, false, false, false, false, false, false, false, false, false, false, false, false, false, false, false, false, false, false, false, false, false, false, false, false] rfl rfl (by kernel_rfl) (fun _ _ _ h => h) (Or.inl ⟨by rfl, ?_⟩) ?_ ?_
              rotate_left
              · intro w'
                go_simp
                with_reducible rfl
              rotate_left
              · simp only [Act.put, List.setIfInBounds_toArray, List.set_cons_zero, List.set_cons_succ, i64_w, i32_w]
                rfl
              refine pure_ (i := 36) (N := some 94) (v := ?_) (a' := ?_) #[true, true, true, true, true, true, true, true, true, true, true, true, true, true, true, true, true, true, true, true, true, true, true, true, true, true, true, true, true, true, true, true, false, false, true, true, true, false, false, false, false, false, false, false, false, false, false, false, false, false, false, false, false, false, false, false, false, false, false, false, false] rfl rfl (by kernel_rfl) (fun _ _ _ h => h) (Or.inl ⟨by rfl, ?_⟩) ?_ ?_
              rotate_left
              · intro w'
                go_simp
                with_reducible rfl
              rotate_left
              · simp only [Act.put, List.setIfInBounds_toArray, List.set_cons_zero, List.set_cons_succ, i64_w, i32_w]
                rfl
              refine pure_ (i := 37) (N := some 95) (v := ?_) (a' := ?_) #[true, true, true, true, true, true, true, true, true, true, true, true, true, true, true, true, true, true, true, true, true, true, true, true, true, true, true, true, true, true, true, true, false, false, true, true, true, true, false, false, false, false, false, false, false, false, false, false, false, false, false, false, false, false, false, false, false, false, false, false, false] rfl rfl (by kernel_rfl) (fun _ _ _ h => h) (Or.inl ⟨by rfl, ?_⟩) ?_ ?_
              rotate_left
              · intro w'
                go_simp
                with_reducible rfl
              rotate_left
              · simp only [Act.put, List.setIfInBounds_toArray, List.set_cons_zero, List.set_cons_succ, i64_w, i32_w]
                rfl
              refine pure_ (i := 38) (N := some 96) (v := ?_) (a' := ?_) #[true, true, true, true, true, true, true, true, true, true, true, true, true, true, true, true, true, true, true, true, true, true, true, true, true, true, true, true, true, true, true, true, false, false, true, true, true, true, true, false, false, false, false, false, false, false, false, false, false, false, false, false, false, false, false, false, false, false, false, false, false] rfl rfl (by kernel_rfl) (fun _ _ _ h => h) (Or.inl ⟨by rfl, ?_⟩) ?_ ?_
              rotate_left
              · intro w'
                go_simp
                with_reducible rfl
              rotate_left
              · simp only [Act.put, List.setIfInBounds_toArray, List.set_cons_zero, List.set_cons_succ, i64_w, i32_w]
                rfl
              refine take_ (i := 32) (N := some 90) (v := ?_) (a' := ?_) #[true, true, true, true, true, true, true, true, true, true, true, true, true, true, true, true, true, true, true, true, true, true, true, true, true, true, true, true, true, true, true, true, true, false, true, true, true, true, true, false, false, false, false, false, false, false, false, false, false, false, false, false, false, false, false, false, false, false, false, false, false] rfl rfl (by kernel_rfl) (fun _ _ _ h => h) (Or.inl ⟨by rfl, ?_⟩) hHeld ?_ ?_
              rotate_left
              · rintro w' ⟨s0, s1, s2⟩
                go_simp
                with_reducible rfl
              rotate_left
              · simp only [Act.put, List.setIfInBounds_toArray, List.set_cons_zero, List.set_cons_succ, i64_w, i32_w]
                rfl
              refine pure_ (i := 33) (N := some 91) (v := ?_) (a' := ?_) #[true, true, true, true, true, true, true, true, true, true, true, true, true, true, true, true, true, true, true, true, true, true, true, true, true, true, true, true, true, true, true, true, true, true, true, true, true, true, true, false, false, false, false, false, false, false, false, false, false, false, false, false, false, false, false, false, false, false, false, false, false] rfl rfl (by kernel_rfl) (fun _ _ _ h => h) (Or.inl ⟨by rfl, ?_⟩) ?_ ?_
              rotate_left
              · intro w'
                go_simp
                with_reducible rfl
              rotate_left
              · simp only [Act.put, List.setIfInBounds_toArray, List.set_cons_zero, List.set_cons_succ, i64_w, i32_w]
                rfl
              refine pure_ (i := 39) (N := some 97) (v := ?_) (a' := ?_) #[true, true, true, true, true, true, true, true, true, true, true, true, true, true, true, true, true, true, true, true, true, true, true, true, true, true, true, true, true, true, true, true, true, true, true, true, true, true, true, true, false, false, false, false, false, false, false, false, false, false, false, false, false, false, false, false, false, false, false, false, false] rfl rfl (by kernel_rfl) (fun _ _ _ h => h) (Or.inl ⟨by rfl, ?_⟩) ?_ ?_
              rotate_left
              · intro w'
                go_simp
                with_reducible rfl
              rotate_left
              · simp only [Act.put, List.setIfInBounds_toArray, List.set_cons_zero, List.set_cons_succ, i64_w, i32_w]
                rfl
              refine pure_ (i := 40) (N := some 98) (v := ?_) (a' := ?_) #[true, true, true, true, true, true, true, true, true, true, true, true, true, true, true, true, true, true, true, true, true, true, true, true, true, true, true, true, true, true, true, true, true, true, true, true, true, true, true, true, true, false, false, false, false, false, false, false, false, false, false, false, false, false, false, false, false, false, false, false, false] rfl rfl (by kernel_rfl) (fun _ _ _ h => h) (Or.inl ⟨by rfl, ?_⟩) ?_ ?_
              rotate_left
              · intro w'
                go_simp
                with_reducible rfl
              rotate_left
              · simp only [Act.put, List.setIfInBounds_toArray, List.set_cons_zero, List.set_cons_succ, i64_w, i32_w]
                rfl
              refine pure_ (i := 41) (N := some 99) (v := ?_) (a' := ?_) #[true, true, true, true, true, true, true, true, true, true, true, true, true, true, true, true, true, true, true, true, true, true, true, true, true, true, true, true, true, true, true, true, true, true, true, true, true, true, true, true, true, true, false, false, false, false, false, false, false, false, false, false, false, false, false, false, false, false, false, false, false] rfl rfl (by kernel_rfl) (fun _ _ _ h => h) (Or.inl ⟨by rfl, ?_⟩) ?_ ?_
              rotate_left
              · intro w'
                go_simp
                with_reducible rfl
              rotate_left
              · simp only [Act.put, List.setIfInBounds_toArray, List.set_cons_zero, List.set_cons_succ, i64_w, i32_w]
                rfl
              refine pure_ (i := 42) (N := some 100) (v := ?_) (a' := ?_) #[true, true, true, true, true, true, true, true, true, true, true, true, true, true, true, true, true, true, true, true, true, true, true, true, true, true, true, true, true, true, true, true, true, true, true, true, true, true, true, true, true, true, true, false, false, false, false, false, false, false, false, false, false, false, false, false, false, false, false, false, false] rfl rfl (by kernel_rfl) (fun _ _ _ h => h) (Or.inl ⟨by rfl, ?_⟩) ?_ ?_
              rotate_left
              · intro w'
                go_simp
                with_reducible rfl
              rotate_left
              · simp only [Act.put, List.setIfInBounds_toArray, List.set_cons_zero, List.set_cons_succ, i64_w, i32_w]
                rfl
              refine pure_ (i := 45) (N := some 103) (v := ?_) (a' := ?_) #[true, true, true, true, true, true, true, true, true, true, true, true, true, true, true, true, true, true, true, true, true, true, true, true, true, true, true, true, true, true, true, true, true, true, true, true, true, true, true, true, true, true, true, false, false, true, false, false, false, false, false, false, false, false, false, false, false, false, false, false, false] rfl rfl (by kernel_rfl) (fun _ _ _ h => h) (Or.inl ⟨by rfl, ?_⟩) ?_ ?_
              rotate_left
              · intro w'
                go_simp
                with_reducible rfl
              rotate_left
              · simp only [Act.put, List.setIfInBounds_toArray, List.set_cons_zero, List.set_cons_succ, i64_w, i32_w]
                rfl
              refine take_ (i := 43) (N := some 101) (v := ?_) (a' := ?_) #[true, true, true, true, true, true, true, true, true, true, true, true, true, true, true, true, true, true, true, true, true, true, true, true, true, true, true, true, true, true, true, true, true, true, true, true, true, true, true, true, true, true, true, true, false, true, false, false, false, false, false, false, false, false, false, false, false, false, false, false, false] rfl rfl (by kernel_rfl) (fun _ _ _ h => h) (Or.inl ⟨by rfl, ?_⟩) hHeld ?_ ?_
              rotate_left
              · rintro w' ⟨s0, s1, s2⟩
                go_simp
                with_reducible rfl
              rotate_left
              · simp only [Act.put, List.setIfInBounds_toArray, List.set_cons_zero, List.set_cons_succ, i64_w, i32_w]
                rfl
              refine pure_ (i := 44) (N := some 102) (v := ?_) (a' := ?_) #[true, true, true, true, true, true, true, true, true, true, true, true, true, true, true, true, true, true, true, true, true, true, true, true, true, true, true, true, true, true, true, true, true, true, true, true, true, true, true, true, true, true, true, true, true, true, false, false, false, false, false, false, false, false, false, false, false, false, false, false, false] rfl rfl (by kernel_rfl) (fun _ _ _ h => h) (Or.inl ⟨by rfl, ?_⟩) ?_ ?_
              rotate_left
              · intro w'
                go_simp
                with_reducible rfl
              rotate_left
              · simp only [Act.put, List.setIfInBounds_toArray, List.set_cons_zero, List.set_cons_succ, i64_w, i32_w]
                rfl
              refine take_ (i := 46) (N := some 104) (v := ?_) (a' := ?_) #[true, true, true, true, true, true, true, true, true, true, true, true, true, true, true, true, true, true, true, true, true, true, true, true, true, true, true, true, true, true, true, true, true, true, true, true, true, true, true, true, true, true, true, true, true, true, true, false, false, false, false, false, false, false, false, false, false, false, false, false, false] rfl rfl (by kernel_rfl) (fun _ _ _ h => h) (Or.inl ⟨by rfl, ?_⟩) hHeld ?_ ?_
              rotate_left
              · rintro w' ⟨s0, s1, s2⟩
                go_simp
                with_reducible rfl
              rotate_left
              · simp only [Act.put, List.setIfInBounds_toArray, List.set_cons_zero, List.set_cons_succ, i64_w, i32_w]
                rfl
              refine pure_ (i := 47) (N := some 105) (v := ?_) (a' := ?_) #[true, true, true, true, true, true, true, true, true, true, true, true, true, true, true, true, true, true, true, true, true, true, true, true, true, true, true, true, true, true, true, true, true, true, true, true, true, true, true, true, true, true, true, true, true, true, true, true, false, false, false, false, false, false, false, false, false, false, false, false, false] rfl rfl (by kernel_rfl) (fun _ _ _ h => h) (Or.inl ⟨by rfl, ?_⟩) ?_ ?_
              rotate_left
              · intro w'
                go_simp
                with_reducible rfl
              rotate_left
              · simp only [Act.put, List.setIfInBounds_toArray, List.set_cons_zero, List.set_cons_succ, i64_w, i32_w]
                rfl
              refine pure_ (i := 48) (N := some 106) (v := ?_) (a' := ?_) #[true, true, true, true, true, true, true, true, true, true, true, true, true, true, true, true, true, true, true, true, true, true, true, true, true, true, true, true, true, true, true, true, true, true, true, true, true, true, true, true, true, true, true, true, true, true, true, true, true, false, false, false, false, false, false, false, false, false, false, false, false] rfl rfl (by kernel_rfl) (fun _ _ _ h => h) (Or.inl ⟨by rfl, ?_⟩) ?_ ?_
              rotate_left
              · intro w'
                go_simp
                with_reducible rfl
              rotate_left
              · simp only [Act.put, List.setIfInBounds_toArray, List.set_cons_zero, List.set_cons_succ, i64_w, i32_w]
                rfl
              refine pure_ (i := 49) (N := some 107) (v := ?_) (a' := ?_) #[true, true, true, true, true, true, true, true, true, true, true, true, true, true, true, true, true, true, true, true, true, true, true, true, true, true, true, true, true, true, true, true, true, true, true, true, true, true, true, true, true, true, true, true, true, true, true, true, true, true, false, false, false, false, false, false, false, false, false, false, false] rfl rfl (by kernel_rfl) (fun _ _ _ h => h) (Or.inl ⟨by rfl, ?_⟩) ?_ ?_
              rotate_left
              · intro w'
                go_simp
                with_reducible rfl
              rotate_left
              · simp only [Act.put, List.setIfInBounds_toArray, List.set_cons_zero, List.set_cons_succ, i64_w, i32_w]
                rfl
              refine pure_ (i := 50) (N := some 108) (v := ?_) (a' := ?_) #[true, true, true, true, true, true, true, true, true, true, true, true, true, true, true, true, true, true, true, true, true, true, true, true, true, true, true, true, true, true, true, true, true, true, true, true, true, true, true, true, true, true, true, true, true, true, true, true, true, true, true, false, false, false, false, false, false, false, false, false, false] rfl rfl (by kernel_rfl) (fun _ _ _ h => h) (Or.inl ⟨by rfl, ?_⟩) ?_ ?_
              rotate_left
              · intro w'
                go_simp
                with_reducible rfl
              rotate_left
              · simp only [Act.put, List.setIfInBounds_toArray, List.set_cons_zero, List.set_cons_succ, i64_w, i32_w]
                rfl
              refine pure_ (i := 51) (N := some 109) (v := ?_) (a' := ?_) #[true, true, true, true, true, true, true, true, true, true, true, true, true, true, true, true, true, true, true, true, true, true, true, true, true, true, true, true, true, true, true, true, true, true, true, true, true, true, true, true, true, true, true, true, true, true, true, true, true, true, true, true, false, false, false, false, false, false, false, false, false] rfl rfl (by kernel_rfl) (fun _ _ _ h => h) (Or.inl ⟨by rfl, ?_⟩) ?_ ?_
              rotate_left
              · intro w'
                go_simp
                with_reducible rfl
              rotate_left
              · simp only [Act.put, List.setIfInBounds_toArray, List.set_cons_zero, List.set_cons_succ, i64_w, i32_w]
                rfl
              refine take_ (i := 52) (N := some 110) (v := ?_) (a' := ?_) #[true, true, true, true, true, true, true, true, true, true, true, true, true, true, true, true, true, true, true, true, true, true, true, true, true, true, true, true, true, true, true, true, true, true, true, true, true, true, true, true, true, true, true, true, true, true, true, true, true, true, true, true, true, false, false, false, false, false, false, false, false] rfl rfl (by kernel_rfl) (fun _ _ _ h => h) (Or.inl ⟨by rfl, ?_⟩) hHeld ?_ ?_
              rotate_left
              · rintro w' ⟨s0, s1, s2⟩
                go_simp
                with_reducible rfl
              rotate_left
              · simp only [Act.put, List.setIfInBounds_toArray, List.set_cons_zero, List.set_cons_succ, i64_w, i32_w]
                rfl
              refine pure_ (i := 53) (N := some 111) (v := ?_) (a' := ?_) #[true, true, true, true, true, true, true, true, true, true, true, true, true, true, true, true, true, true, true, true, true, true, true, true, true, true, true, true, true, true, true, true, true, true, true, true, true, true, true, true, true, true, true, true, true, true, true, true, true, true, true, true, true, true, false, false, false, false, false, false, false] rfl rfl (by kernel_rfl) (fun _ _ _ h => h) (Or.inl ⟨by rfl, ?_⟩) ?_ ?_
              rotate_left
              · intro w'
                go_simp
                with_reducible rfl
              rotate_left
              · simp only [Act.put, List.setIfInBounds_toArray, List.set_cons_zero, List.set_cons_succ, i64_w, i32_w]
                rfl
              refine pure_ (i := 54) (N := some 112) (v := ?_) (a' := ?_) #[true, true, true, true, true, true, true, true, true, true, true, true, true, true, true, true, true, true, true, true, true, true, true, true, true, true, true, true, true, true, true, true, true, true, true, true, true, true, true, true, true, true, true, true, true, true, true, true, true, true, true, true, true, true, true, false, false, false, false, false, false] rfl rfl (by kernel_rfl) (fun _ _ _ h => h) (Or.inl ⟨by rfl, ?_⟩) ?_ ?_
              rotate_left
              · intro w'
                go_simp
                with_reducible rfl
              rotate_left
              · simp only [Act.put, List.setIfInBounds_toArray, List.set_cons_zero, List.set_cons_succ, i64_w, i32_w]
                rfl
              refine pure_ (i := 55) (N := some 113) (v := ?_) (a' := ?_) #[true, true, true, true, true, true, true, true, true, true, true, true, true, true, true, true, true, true, true, true, true, true, true, true, true, true, true, true, true, true, true, true, true, true, true, true, true, true, true, true, true, true, true, true, true, true, true, true, true, true, true, true, true, true, true, true, false, false, false, false, false] rfl rfl (by kernel_rfl) (fun _ _ _ h => h) (Or.inl ⟨by rfl, ?_⟩) ?_ ?_
              rotate_left
              · intro w'
                go_simp
                with_reducible rfl
              rotate_left
              · simp only [Act.put, List.setIfInBounds_toArray, List.set_cons_zero, List.set_cons_succ, i64_w, i32_w]
                rfl
              refine take_ (i := 56) (N := some 114) (v := ?_) (a' := ?_) #[true, true, true, true, true, true, true, true, true, true, true, true, true, true, true, true, true, true, true, true, true, true, true, true, true, true, true, true, true, true, true, true, true, true, true, true, true, true, true, true, true, true, true, true, true, true, true, true, true, true, true, true, true, true, true, true, true, false, false, false, false] rfl rfl (by kernel_rfl) (fun _ _ _ h => h) (Or.inl ⟨by rfl, ?_⟩) hHeld ?_ ?_
              rotate_left
              · rintro w' ⟨s0, s1, s2⟩
                go_simp
                with_reducible rfl
              rotate_left
              · simp only [Act.put, List.setIfInBounds_toArray, List.set_cons_zero, List.set_cons_succ, i64_w, i32_w]
                rfl
              refine one_ (i := 57) (N := some 115) #[true, true, true, true, true, true, true, true, true, true, true, true, true, true, true, true, true, true, true, true, true, true, true, true, true, true, true, true, true, true, true, true, true, true, true, true, true, true, true, true, true, true, true, true, true, true, true, true, true, true, true, true, true, true, true, true, true, true, false, false, false] rfl rfl (by kernel_rfl) (by decide) (fun K hK => ?_)
              refine goes_ Tryd.func30 (by kernel_rfl) rfl #[.string t] (by rfl) rfl rfl (by simp only [List.map_toArray, List.map_cons, List.map_nil]; rfl) ?_
              with_reducible refine (Name_calls _ true htz HNm.out _).mono ?_
              rintro e w6 ⟨rfl, h6⟩
              refine ⟨_, rfl, ?_⟩
              refine hK.out _ _ ⟨pw_cell_below h6 hHeld.1, pw_cell_below h6 hHeld.2.1, pw_cell_below h6 hHeld.2.2⟩ (fun hHeld => ?_)
              clear hK K
              refine norm_ (a' := ?_) ?_ ?_
              rotate_left
              · show Act.put _ (some 115) _ = _
                simp only [Act.put, List.setIfInBounds_toArray, List.set_cons_zero, List.set_cons_succ, i64_w, i32_w]
                rfl
              refine pure_ (i := 58) (N := some 116) (v := ?_) (a' := ?_) #[true, true, true, true, true, true, true, true, true, true, true, true, true, true, true, true, true, true, true, true, true, true, true, true, true, true, true, true, true, true, true, true, true, true, true, true, true, true, true, true, true, true, true, true, true, true, true, true, true, true, true, true, true, true, true, true, true, true, true, false, false] rfl rfl (by kernel_rfl) (fun _ _ _ h => h) (Or.inl ⟨by rfl, ?_⟩) ?_ ?_
              rotate_left
              · intro w'
                go_simp
                with_reducible rfl
              rotate_left
              · simp only [Act.put, List.setIfInBounds_toArray, List.set_cons_zero, List.set_cons_succ, i64_w, i32_w]
                rfl
              refine pure_ (i := 59) (N := some 117) (v := ?_) (a' := ?_) #[true, true, true, true, true, true, true, true, true, true, true, true, true, true, true, true, true, true, true, true, true, true, true, true, true, true, true, true, true, true, true, true, true, true, true, true, true, true, true, true, true, true, true, true, true, true, true, true, true, true, true, true, true, true, true, true, true, true, true, true, false] rfl rfl (by kernel_rfl) (fun _ _ _ h => h) (Or.inl ⟨by rfl, ?_⟩) ?_ ?_
              rotate_left
              · intro w'
                go_simp
                with_reducible rfl
              rotate_left
              · simp only [Act.put, List.setIfInBounds_toArray, List.set_cons_zero, List.set_cons_succ, i64_w, i32_w]
                rfl
              refine pure_ (i := 60) (N := some 118) (v := ?_) (a' := ?_) #[true, true, true, true, true, true, true, true, true, true, true, true, true, true, true, true, true, true, true, true, true, true, true, true, true, true, true, true, true, true, true, true, true, true, true, true, true, true, true, true, true, true, true, true, true, true, true, true, true, true, true, true, true, true, true, true, true, true, true, true, true] rfl rfl (by kernel_rfl) (fun _ _ _ h => h) (Or.inl ⟨by rfl, ?_⟩) ?_ ?_
              rotate_left
              · intro w'
                go_simp
                with_reducible rfl
              rotate_left
              · simp only [Act.put, List.setIfInBounds_toArray, List.set_cons_zero, List.set_cons_succ, i64_w, i32_w]
                rfl
              refine done_ (by kernel_rfl) ?_
              go_wp2
              go_meet
              case rel => exact ⟨rfl, ⟨hHeld.1, hHeld.2.1, hHeld.2.2⟩, ⟨Kd.R_below (Kd.R_drew Q5.out) h6⟩, ⟨below2 (below_drew1 HB5.out) h6⟩⟩
        case rest =>
          clear e0 e1 e2 HB5 Q5 HH u1 u2 u3 u4 u5 u6 u7 u8 u9 v1
          obtain ⟨rfl, HC, Q6, HB⟩ := hcut
          obtain ⟨e0, e1, e2⟩ := HC.out
          have hpa : pe ≤ a := HPA.out.1
          have has : a + t.size ≤ a0.size := HPA.out.2
          go_wp2_with fail
          go_loop [10, 11] (fun v10 v11 => ∃ (k : Nat) (n : Bool), pe ≤ k ∧ k ≤ a ∧ v11 = .int .i64 k ∧ v10 = .bool n ∧ Aside0 (gap (((L a0).take a).drop k) n = true)) (fun _ v11 => a - (intOf v11).toNat)
          case atStart => exact ⟨pe, false, Nat.le_refl _, hpa, rfl, rfl, HG⟩
          case round =>
            obtain ⟨k, n, hk0, hk1, rfl, rfl, HGk⟩ := hrel
            by_cases hlt2 : k < a
            · have d1 : decide ((k : Int) < (a : Int)) = true := decide_eq_true (by omega)
              have d2 : decide (k < a) = true := decide_eq_true hlt2
              have hks : k < a0.size := by omega
              have d3 : (0 : Int) ≤ (k : Int) := by omega
              have d4 : (k : Int) < (a0.size : Int) := by omega
              obtain ⟨g1, g2⟩ := gap_step (S := L a0) (a := a) (k := k) (n := n) (by rw [L_length]; omega) hlt2 HGk.out
              have hgd : (L a0).getD k 0 = a0[k]'hks := by
                rw [List.getD_eq_getElem?_getD, List.getElem?_eq_getElem (by rw [L_length]; exact hks)]; rfl
              rw [hgd] at g1 g2
              have hc0 : (((a0[k]'hks).toNat : Int) == 10) = decide ((a0[k]'hks).toNat = 10) := by rw [Bool.eq_iff_iff, beq_iff_eq, decide_eq_true_eq]; omega
              have ten : a0[k]'hks = 10 ↔ (a0[k]'hks).toNat = 10 := ⟨fun e => by rw [e]; rfl, fun e => UInt8.toNat_inj.mp e⟩
              have sl : a0[k]'hks = 47 ↔ (a0[k]'hks).toNat = 47 := ⟨fun e => by rw [e]; rfl, fun e => UInt8.toNat_inj.mp e⟩
              have hnt : nt n (a0[k]'hks) = ((n && decide ((a0[k]'hks).toNat ≠ 10)) || decide ((a0[k]'hks).toNat = 47)) := by
                unfold nt; congr 1
                · congr 1; rw [Bool.eq_iff_iff, decide_eq_true_eq, decide_eq_true_eq, Ne, ten]
                · rw [Bool.eq_iff_iff, decide_eq_true_eq, decide_eq_true_eq, sl]
              have hbk : blk (a0[k]'hks) = decide ((a0[k]'hks).toNat = 32 ∨ (a0[k]'hks).toNat = 9 ∨ (a0[k]'hks).toNat = 10) := rfl
              rw [hnt, hbk] at g1
              rw [hnt] at g2
              have HG2 := Aside0.mk g2
              have neq : ∀ z : Int, ((a0[k]'hks).toNat : Int) ≠ z → (((a0[k]'hks).toNat : Int) == z) = false ∧ (((a0[k]'hks).toNat : Int) != z) = true := fun z h => ⟨beq_eq_false_iff_ne.mpr h, bne_iff_ne.mpr h⟩
              have yeq : ∀ z : Int, ((a0[k]'hks).toNat : Int) = z → (((a0[k]'hks).toNat : Int) == z) = true ∧ (((a0[k]'hks).toNat : Int) != z) = false := fun z h => ⟨beq_iff_eq.mpr h, bne_eq_false_iff_eq.mpr h⟩
              have NE := Aside0.mk neq
              have YE := Aside0.mk yeq
              clear g2 hgd hc0 ten sl hnt hbk HGk neq yeq
              cases n with
              | false =>
                by_cases h47 : (a0[k]'hks).toNat = 47
                · obtain ⟨x1, x2⟩ := YE.out 47 (by omega)
                  have HN2 : Aside0 (gap (((L a0).take a).drop (k + 1)) true = true) := ⟨by have := HG2.out; simpa [h47] using this⟩
                  clear g1 h47 NE YE HG2
                  go_wp2
                  go_round
                  case rel => exact ⟨k + 1, true, by omega, by omega, by go_num, rfl, HN2⟩
                  case measure => simp [intOf]; omega
                · obtain ⟨x1, x2⟩ := NE.out 47 (by omega)
                  have hb : (a0[k]'hks).toNat = 32 ∨ (a0[k]'hks).toNat = 9 ∨ (a0[k]'hks).toNat = 10 := by simpa [h47] using g1
                  have HN2 : Aside0 (gap (((L a0).take a).drop (k + 1)) false = true) := ⟨by have := HG2.out; simpa [h47] using this⟩
                  clear g1 h47 HG2
                  by_cases hb1 : (a0[k]'hks).toNat = 32
                  · obtain ⟨x3, x4⟩ := YE.out 32 (by omega)
                    clear hb hb1 NE YE
                    go_wp2
                    go_round
                    case rel => exact ⟨k + 1, false, by omega, by omega, by go_num, rfl, HN2⟩
                    case measure => simp [intOf]; omega
                  · obtain ⟨x3, x4⟩ := NE.out 32 (by omega)
                    by_cases hb2 : (a0[k]'hks).toNat = 9
                    · obtain ⟨x5, x6⟩ := YE.out 9 (by omega)
                      clear hb hb1 hb2 NE YE
                      go_wp2
                      go_round
                      case rel => exact ⟨k + 1, false, by omega, by omega, by go_num, rfl, HN2⟩
                      case measure => simp [intOf]; omega
                    · obtain ⟨x5, x6⟩ := NE.out 9 (by omega)
                      obtain ⟨x7, x8⟩ := YE.out 10 (by omega)
                      clear hb hb1 hb2 NE YE
                      go_wp2
                      go_round
                      case rel => exact ⟨k + 1, false, by omega, by omega, by go_num, rfl, HN2⟩
                      case measure => simp [intOf]; omega
              | true =>
                by_cases h10 : (a0[k]'hks).toNat = 10
                · obtain ⟨x1, x2⟩ := YE.out 10 (by omega)
                  obtain ⟨x3, x4⟩ := NE.out 47 (by omega)
                  obtain ⟨x5, x6⟩ := NE.out 32 (by omega)
                  obtain ⟨x7, x8⟩ := NE.out 9 (by omega)
                  have HN2 : Aside0 (gap (((L a0).take a).drop (k + 1)) false = true) := ⟨by have := HG2.out; simpa [h10] using this⟩
                  clear g1 h10 NE YE HG2
                  go_wp2
                  go_round
                  case rel => exact ⟨k + 1, false, by omega, by omega, by go_num, rfl, HN2⟩
                  case measure => simp [intOf]; omega
                · obtain ⟨x1, x2⟩ := NE.out 10 (by omega)
                  have HN2 : Aside0 (gap (((L a0).take a).drop (k + 1)) true = true) := ⟨by have := HG2.out; simpa [h10] using this⟩
                  clear g1 h10 NE YE HG2
                  go_wp2
                  go_round
                  case rel => exact ⟨k + 1, true, by omega, by omega, by go_num, rfl, HN2⟩
                  case measure => simp [intOf]; omega
            · obtain rfl : k = a := by omega
              have d1 : decide ((k : Int) < (k : Int)) = false := decide_eq_false (by omega)
              have d2 : decide (k < k) = false := decide_eq_false (by omega)
              have u3 : IntKind.i64.wrap ((k : Int) + (t.size : Int)) = (k : Int) + (t.size : Int) := by rw [IntKind.wrap_i64]; omega
              have t8 : IntKind.i64.wrap (x + 1) = x + 1 := by rw [IntKind.wrap_i64]; omega
              have HV : Aside0 (((prevEnd ts 0 (x + 1).toNat : Nat) : Int) = (k : Int) + (t.size : Int)) := ⟨by rw [HNX.out]; omega⟩
              clear HGk hk0 hk1 hlt2
              go_wp2
              go_roundg k1
              case measure => omega
              case rel => exact ⟨x + 1, rfl, by rw [HV.out], ⟨by have := Hx.out; omega, by have := Hx.out; omega⟩, ⟨by (with_reducible repeat (first | apply Kd.R_alloc | apply Kd.R_drewN | apply Kd.R_drew)); exact Q6.out⟩, ⟨by repeat (first | (with_reducible first | exact HB.out | apply below_alloc | apply pw_below_drewN | apply below_drew1) | exact HB.out)⟩⟩
end Go.Proofs.YtkgnhghaiopgcaaDoor.Wk
