/- For every input TokenErrs returns true: what is long is refused; a broken byte is, wherever it stands, ahead of all else; so are a sign that is none, and a name that is too long. No condition. -/
import Derived.Test.YtkgnhghaiopgcaaDoorWk
import Derived.Test.YtkgnhghaiopgcaaDoorTkRef
set_option linter.unusedVariables false
set_option linter.unusedSimpArgs false
namespace Go.Proofs.YtkgnhghaiopgcaaDoor.Wk
open Go.RowKit Go.Proofs.YtkgnhghaiopgcaaDoorW.PrintWords Go.Proofs.YtkgnhghaiopgcaaDoorW.PrintLast Go.Proofs.YtkgnhghaiopgcaaDoor.X Go.Proofs.YtkgnhghaiopgcaaDoor.Gl Go.Proofs.YtkgnhghaiopgcaaDoor.GlFn Go.Proofs.YtkgnhghaiopgcaaDoor.Tk Go.Proofs.YtkgnhghaiopgcaaDoor.TkFn Go.Proofs.YtkgnhghaiopgcaaDoor.TkRef Go.Proofs.YtkgnhghaiopgcaaDoor.Pure Go.Proofs.YtkgnhghaiopgcaaDoor.Tp

def codeOf : R → Int
  | .ok _ => 0
  | .error e => e.1
theorem All_code (a0 : ByteArray) (w : World) :
    Calls Tryd.prog 25 #[.string a0] w fun e w' => ∃ (A : Option Addr) (n c : Nat) (p : Int), e = .returned (.tuple #[.slice A n c, .int .i64 (codeOf (all (L a0))), .int .i64 p]) ∧ Below w.heap.size w w' := by
  cases h : all (L a0) with
  | error e =>
    refine (All_err a0 e.1 e.2 h w).mono ?_
    rintro e w' ⟨A, c, rfl, hb⟩
    exact ⟨_, _, _, _, rfl, hb⟩
  | ok ts =>
    refine (All_ok a0 ts h w).mono ?_
    rintro e w' ⟨A, c, rfl, _, hb⟩
    exact ⟨_, _, _, _, rfl, hb⟩

theorem strOf1 (a : Int) : strOfNums [a] = ⟨#[UInt8.ofNat a.toNat]⟩ := rfl
theorem All_word (a0 : ByteArray) (m q : Nat) (h1 : m ≤ 24 → ∃ ts, all (L a0) = .ok ts) (h2 : 24 < m → all (L a0) = .error (31, q)) (w : World) :
    Calls Tryd.prog 25 #[.string a0] w fun e w' => ∃ (A : Option Addr) (n c : Nat) (g p : Int), e = .returned (.tuple #[.slice A n c, .int .i64 g, .int .i64 p]) ∧ Aside0 ((m ≤ 24 ∧ g = 0) ∨ (24 < m ∧ g = 31 ∧ p = q)) ∧ Below w.heap.size w w' := by
  by_cases h : m ≤ 24
  · obtain ⟨ts, hts⟩ := h1 h
    refine (All_ok a0 ts hts w).mono ?_
    rintro e w' ⟨A, c, rfl, _, hb⟩
    exact ⟨_, _, _, _, _, rfl, ⟨.inl ⟨h, rfl⟩⟩, hb⟩
  · refine (All_err a0 _ _ (h2 (by omega)) w).mono ?_
    rintro e w' ⟨A, c, rfl, hb⟩
    exact ⟨_, _, _, _, _, rfl, ⟨.inr ⟨by omega, rfl, rfl⟩⟩, hb⟩

set_option maxHeartbeats 4000000 in
set_option maxRecDepth 100000 in
theorem TokenErrs (a0 : ByteArray) (a1 a2 a3 : Int) (w : World) (hK : Aside0 (Aid.KeysIn w)) (w0 : a0.size ≤ 140737488351232) (w1 : (Lit.int .u16 a1).wf = true) (w2 : (Lit.int .u8 a2).wf = true) (w3 : (Lit.int .u8 a3).wf = true) :
    Calls Tryd.prog 6 #[.string a0, .int .u16 a1, .int .u8 a2, .int .u8 a3] w fun e w' => e = .returned (.bool true) ∧ Below w.heap.size w w' := by
  have r1 : 0 ≤ a1 ∧ a1 ≤ 65535 := by
    rw [Lit.wf, Bool.and_eq_true, decide_eq_true_eq, decide_eq_true_eq] at w1
    exact w1
  have r2 : 0 ≤ a2 ∧ a2 ≤ 255 := by
    rw [Lit.wf, Bool.and_eq_true, decide_eq_true_eq, decide_eq_true_eq] at w2
    exact w2
  have r3 : 0 ≤ a3 ∧ a3 ≤ 255 := by
    rw [Lit.wf, Bool.and_eq_true, decide_eq_true_eq, decide_eq_true_eq] at w3
    exact w3
  by_cases c1 : (a0.size : Int) > 300
  · have d1 : decide ((300 : Int) < (a0.size : Int)) = true := decide_eq_true c1
    have d2 : decide (300 < a0.size) = true := decide_eq_true (by omega)
    clear c1
    go_enter Tryd.func6, Tryd.ntmps6
    go_wp2_with fail
    refine (awake_calls _ hK).mono ?_
    rintro e w2 ⟨rfl, hb⟩
    go_wp2
    go_ret
    exact ⟨rfl, hb⟩
  have d1 : decide ((300 : Int) < (a0.size : Int)) = false := decide_eq_false c1
  have d2 : decide (300 < a0.size) = false := decide_eq_false (by omega)
  have z0 : a0.size ≤ 300 := by omega
  obtain ⟨q1, q2⟩ := r1
  obtain ⟨k, hk⟩ : ∃ k : Nat, a1 % ((a0.size : Int) + 1) = (k : Int) := ⟨(a1 % ((a0.size : Int) + 1)).toNat, by have := Int.emod_nonneg a1 (show (a0.size : Int) + 1 ≠ 0 by omega); omega⟩
  have hk2 : k ≤ a0.size := by have := Int.emod_lt_of_pos a1 (show 0 < (a0.size : Int) + 1 by omega); omega
  clear c1 w1
  have HK := Aside0.mk hk
  have hx : (L a0).take k = L (a0.extract 0 k) := by rw [L_extract]; simp
  have hy : (L a0).drop k = L (a0.extract k a0.size) := by rw [L_tail]
  obtain ⟨p8, e8, e9⟩ := errs_big (L (a0.extract 0 k)) (L (a0.extract k a0.size)) (by rw [L_length, L_length, ByteArray.size_extract, ByteArray.size_extract]; omega)
  rw [show L (a0.extract 0 k) ++ [255] ++ L (a0.extract k a0.size) = L (((a0.extract 0 k) ++ (⟨#[255]⟩ : ByteArray)) ++ (a0.extract k a0.size)) from by rw [L_append, L_append]] at e8
  have e10 : (L (a0.extract 0 k)).length = k := by rw [L_length, ByteArray.size_extract]; omega
  rw [e10] at e9
  have E8 := Aside0.mk e8
  have E9 := Aside0.mk e9
  clear e8 e9 e10 hx hy
  have g1 : (k : Int) ≤ (a0.size : Int) := by omega
  have g2 : (0 : Int) ≤ (k : Int) := by omega
  have s1 : (9223372036854775807 < k + 1) = False := eq_false (by omega)
  have s2 : (9223372036854775807 < k + 1 + (a0.size - k)) = False := eq_false (by omega)
  go_enter Tryd.func6, Tryd.ntmps6
  go_wp2_with fail
  refine (awake_calls _ hK).mono ?_
  rintro e w2 ⟨rfl, hb⟩
  go_wp2_with fail
  refine (All_code a0 _).mono ?_
  rintro e w3 ⟨A1, m1, n1, p1, rfl, h1⟩
  have HB := Aside0.mk (below2 hb h1)
  clear hb h1 d1 d2
  obtain ⟨en, hen⟩ : ∃ en, codeOf (all (L a0)) = en := ⟨_, rfl⟩
  have HE := Aside0.mk hen
  rw [hen]
  clear hen
  go_wp2_with fail
  rw [hk]
  refine start_ (n := 16) (S := fun w' => True) (ds := []) #[false, false, false, false, false, false, false, false, false, false, false, false, false, false, false, false] (by kernel_rfl) rfl rfl trivial (fun hHeld => ?_)
  refine pure_ (i := 0) (N := some 45) (v := ?_) (a' := ?_) #[true, false, false, false, false, false, false, false, false, false, false, false, false, false, false, false] rfl rfl (by kernel_rfl) (fun _ _ _ h => h) (Or.inl ⟨by rfl, ?_⟩) ?_ ?_
  rotate_left
  · intro w'
    go_simp
    with_reducible rfl
  rotate_left
  · simp only [Act.put, List.setIfInBounds_toArray, List.set_cons_zero, List.set_cons_succ, i64_w, i32_w]
    rfl
  refine pure_ (i := 1) (N := some 46) (v := ?_) (a' := ?_) #[true, true, false, false, false, false, false, false, false, false, false, false, false, false, false, false] rfl rfl (by kernel_rfl) (fun _ _ _ h => h) (Or.inl ⟨by rfl, ?_⟩) ?_ ?_
  rotate_left
  · intro w'
    go_simp
    with_reducible rfl
  rotate_left
  · simp only [Act.put, List.setIfInBounds_toArray, List.set_cons_zero, List.set_cons_succ, i64_w, i32_w]
    rfl
  refine pure_ (i := 2) (N := some 47) (v := ?_) (a' := ?_) #[true, true, true, false, false, false, false, false, false, false, false, false, false, false, false, false] rfl rfl (by kernel_rfl) (fun _ _ _ h => h) (Or.inl ⟨by rfl, ?_⟩) ?_ ?_
  rotate_left
  · intro w'
    go_simp
    with_reducible rfl
  rotate_left
  · simp only [Act.put, List.setIfInBounds_toArray, List.set_cons_zero, List.set_cons_succ, i64_w, i32_w]
    rfl
  refine pure_ (i := 3) (N := some 48) (v := ?_) (a' := ?_) #[true, true, true, true, false, false, false, false, false, false, false, false, false, false, false, false] rfl rfl (by kernel_rfl) (fun _ _ _ h => h) (Or.inl ⟨by rfl, ?_⟩) ?_ ?_
  rotate_left
  · intro w'
    go_simp
    with_reducible rfl
  rotate_left
  · simp only [Act.put, List.setIfInBounds_toArray, List.set_cons_zero, List.set_cons_succ, i64_w, i32_w]
    rfl
  refine pure_ (i := 4) (N := some 49) (v := ?_) (a' := ?_) #[true, true, true, true, true, false, false, false, false, false, false, false, false, false, false, false] rfl rfl (by kernel_rfl) (fun _ _ _ h => h) (Or.inl ⟨by rfl, ?_⟩) ?_ ?_
  rotate_left
  · intro w'
    go_simp
    with_reducible rfl
  rotate_left
  · simp only [Act.put, List.setIfInBounds_toArray, List.set_cons_zero, List.set_cons_succ, i64_w, i32_w]
    rfl
  refine pure_ (i := 5) (N := some 50) (v := ?_) (a' := ?_) #[true, true, true, true, true, true, false, false, false, false, false, false, false, false, false, false] rfl rfl (by kernel_rfl) (fun _ _ _ h => h) (Or.inl ⟨by rfl, ?_⟩) ?_ ?_
  rotate_left
  · intro w'
    go_simp
    with_reducible rfl
  rotate_left
  · simp only [Act.put, List.setIfInBounds_toArray, List.set_cons_zero, List.set_cons_succ, i64_w, i32_w]
    rfl
  refine pure_ (i := 6) (N := some 51) (v := ?_) (a' := ?_) #[true, true, true, true, true, true, true, false, false, false, false, false, false, false, false, false] rfl rfl (by kernel_rfl) (fun _ _ _ h => h) (Or.inl ⟨by rfl, ?_⟩) ?_ ?_
  rotate_left
  · intro w'
    go_simp
    with_reducible rfl
  rotate_left
  · simp only [Act.put, List.setIfInBounds_toArray, List.set_cons_zero, List.set_cons_succ, i64_w, i32_w]
    rfl
  refine pure_ (i := 7) (N := some 52) (v := ?_) (a' := ?_) #[true, true, true, true, true, true, true, true, false, false, false, false, false, false, false, false] rfl rfl (by kernel_rfl) (fun _ _ _ h => h) (Or.inl ⟨by rfl, ?_⟩) ?_ ?_
  rotate_left
  · intro w'
    go_simp
    with_reducible rfl
  rotate_left
  · simp only [Act.put, List.setIfInBounds_toArray, List.set_cons_zero, List.set_cons_succ, i64_w, i32_w]
    rfl
  refine one_ (i := 8) (N := some 53) #[true, true, true, true, true, true, true, true, true, false, false, false, false, false, false, false] rfl rfl (by kernel_rfl) (by decide) (fun K hK => ?_)
  refine goes_ Tryd.func25 (by kernel_rfl) rfl #[.string (((a0.extract 0 k) ++ (⟨#[255]⟩ : ByteArray)) ++ (a0.extract k a0.size))] (by rfl) rfl rfl (by simp only [List.map_toArray, List.map_cons, List.map_nil]; rfl) ?_
  with_reducible refine (All_err _ _ _ E8.out _).mono ?_
  rintro e w4 ⟨A2, n2, rfl, h2⟩
  refine ⟨_, rfl, ?_⟩
  refine hK.out _ _ trivial (fun hHeld => ?_)
  clear hK K
  refine norm_ (a' := ?_) ?_ ?_
  rotate_left
  · show Act.put _ (some 53) _ = _
    simp only [Act.put, List.setIfInBounds_toArray, List.set_cons_zero, List.set_cons_succ, i64_w, i32_w]
    rfl
  refine pure_ (i := 9) (N := some 44) (v := ?_) (a' := ?_) #[true, true, true, true, true, true, true, true, true, true, false, false, false, false, false, false] rfl rfl (by kernel_rfl) (fun _ _ _ h => h) (Or.inl ⟨by rfl, ?_⟩) ?_ ?_
  rotate_left
  · intro w'
    go_simp
    with_reducible rfl
  rotate_left
  · simp only [Act.put, List.setIfInBounds_toArray, List.set_cons_zero, List.set_cons_succ, i64_w, i32_w]
    rfl
  refine pure_ (i := 10) (N := some 54) (v := ?_) (a' := ?_) #[true, true, true, true, true, true, true, true, true, true, true, false, false, false, false, false] rfl rfl (by kernel_rfl) (fun _ _ _ h => h) (Or.inl ⟨by rfl, ?_⟩) ?_ ?_
  rotate_left
  · intro w'
    go_simp
    with_reducible rfl
  rotate_left
  · simp only [Act.put, List.setIfInBounds_toArray, List.set_cons_zero, List.set_cons_succ, i64_w, i32_w]
    rfl
  refine pure_ (i := 11) (N := some 55) (v := ?_) (a' := ?_) #[true, true, true, true, true, true, true, true, true, true, true, true, false, false, false, false] rfl rfl (by kernel_rfl) (fun _ _ _ h => h) (Or.inl ⟨by rfl, ?_⟩) ?_ ?_
  rotate_left
  · intro w'
    go_simp
    with_reducible rfl
  rotate_left
  · simp only [Act.put, List.setIfInBounds_toArray, List.set_cons_zero, List.set_cons_succ, i64_w, i32_w]
    rfl
  refine pure_ (i := 12) (N := some 56) (v := ?_) (a' := ?_) #[true, true, true, true, true, true, true, true, true, true, true, true, true, false, false, false] rfl rfl (by kernel_rfl) (fun _ _ _ h => h) (Or.inl ⟨by rfl, ?_⟩) ?_ ?_
  rotate_left
  · intro w'
    go_simp
    with_reducible rfl
  rotate_left
  · simp only [Act.put, List.setIfInBounds_toArray, List.set_cons_zero, List.set_cons_succ, i64_w, i32_w]
    rfl
  refine pure_ (i := 13) (N := some 14) (v := ?_) (a' := ?_) #[true, true, true, true, true, true, true, true, true, true, true, true, true, true, false, false] rfl rfl (by kernel_rfl) (fun _ _ _ h => h) (Or.inl ⟨by rfl, ?_⟩) ?_ ?_
  rotate_left
  · intro w'
    go_simp
    with_reducible rfl
  rotate_left
  · simp only [Act.put, List.setIfInBounds_toArray, List.set_cons_zero, List.set_cons_succ, i64_w, i32_w]
    rfl
  refine pure_ (i := 14) (N := some 15) (v := ?_) (a' := ?_) #[true, true, true, true, true, true, true, true, true, true, true, true, true, true, true, false] rfl rfl (by kernel_rfl) (fun _ _ _ h => h) (Or.inl ⟨by rfl, ?_⟩) ?_ ?_
  rotate_left
  · intro w'
    go_simp
    with_reducible rfl
  rotate_left
  · simp only [Act.put, List.setIfInBounds_toArray, List.set_cons_zero, List.set_cons_succ, i64_w, i32_w]
    rfl
  refine pure_ (i := 15) (N := some 16) (v := ?_) (a' := ?_) #[true, true, true, true, true, true, true, true, true, true, true, true, true, true, true, true] rfl rfl (by kernel_rfl) (fun _ _ _ h => h) (Or.inl ⟨by rfl, ?_⟩) ?_ ?_
  rotate_left
  · intro w'
    go_simp
    with_reducible rfl
  rotate_left
  · simp only [Act.put, List.setIfInBounds_toArray, List.set_cons_zero, List.set_cons_succ, i64_w, i32_w]
    rfl
  refine done_ (by kernel_rfl) ?_
  have HB4 := Aside0.mk (below2 (below_drew1 HB.out) h2)
  clear HB h2 hk s1 s2
  go_upto_region 9 with (fail)
  go_cut [79] (fun v79 wc => v79 = .bool false ∧ Aside0 (Below w.heap.size w wc))
  case first =>
    cases hv1 : vld (L (a0.extract 0 k)) with
    | false =>
      have V1 := Aside0.mk hv1
      clear hv1
      go_wp2_with fail
      refine (Valid_calls _ _ V1.out _).mono ?_
      rintro e w5 ⟨rfl, h5⟩
      go_wp2
      go_meet
      case rel => exact ⟨rfl, ⟨below2 HB4.out h5⟩⟩
    | true =>
      have V1 := Aside0.mk hv1
      have hp8 : p8 = k := E9.out hv1
      clear hv1
      subst hp8
      cases hv2 : vld (L (a0.extract p8 a0.size)) with
      | false =>
        have V2 := Aside0.mk hv2
        clear hv2
        go_wp2_with fail
        refine (Valid_calls _ _ V1.out _).mono ?_
        rintro e w5 ⟨rfl, h5⟩
        go_wp2_with fail
        refine (Valid_calls _ _ V2.out _).mono ?_
        rintro e w6 ⟨rfl, h6⟩
        go_wp2
        go_meet
        case rel => exact ⟨rfl, ⟨below2 (below2 HB4.out h5) h6⟩⟩
      | true =>
        have V2 := Aside0.mk hv2
        clear hv2
        go_wp2_with fail
        refine (Valid_calls _ _ V1.out _).mono ?_
        rintro e w5 ⟨rfl, h5⟩
        go_wp2_with fail
        refine (Valid_calls _ _ V2.out _).mono ?_
        rintro e w6 ⟨rfl, h6⟩
        go_wp2
        go_meet
        case rel => exact ⟨rfl, ⟨below2 (below2 HB4.out h5) h6⟩⟩
  case rest =>
    clear HB4 E8 E9
    obtain ⟨rfl, HB⟩ := hcut
    by_cases hen : en = 0
    · subst hen
      obtain ⟨ts, hts⟩ : ∃ ts, all (L a0) = .ok ts := by
        cases h : all (L a0) with
        | ok ts => exact ⟨ts, rfl⟩
        | error e =>
          have h1 := HE.out
          rw [h] at h1
          rcases all_err_ne h with h2 | h2 | h2 <;> (simp only [codeOf] at h1; omega)
      have HT := Aside0.mk hts
      clear hts HE
      obtain ⟨m, hm⟩ : ∃ m : Nat, a3 % 40 = (m : Int) := ⟨(a3 % 40).toNat, by omega⟩
      have hm2 : m < 40 := by omega
      obtain ⟨q5, q6⟩ := r3
      clear g1 g2
      go_wp2_with fail
      rw [hm]
      have HM := Aside0.mk hm
      clear hm
      go_loop [18, 19] (fun v18 v19 => ∃ (j : Nat) (W : ByteArray), j ≤ m ∧ v19 = .int .i64 j ∧ v18 = .string W ∧ Aside0 (L W = 10 :: eacute j)) (fun _ v19 => m - (intOf v19).toNat)
      case atStart => exact ⟨0, _, Nat.zero_le _, rfl, rfl, ⟨rfl⟩⟩
      case round =>
        obtain ⟨j, W, hj, rfl, rfl, HW⟩ := hrel
        have hws : W.size = 2 * j + 1 := by rw [size_eq HW.out, List.length_cons, eacute_length]
        by_cases hlt : j < m
        · have t1 : decide ((j : Int) < (m : Int)) = true := decide_eq_true (by omega)
          have t2 : decide (j < m) = true := decide_eq_true hlt
          have t3 : (9223372036854775807 < W.size + 2) = False := eq_false (by omega)
          clear hws
          go_wp2
          go_round
          case rel => exact ⟨j + 1, _, by omega, by go_num, rfl, ⟨by rw [L_append, HW.out, ← eacute_snoc]; rfl⟩⟩
          case measure => simp [intOf]; omega
        · have t1 : decide ((j : Int) < (m : Int)) = false := decide_eq_false (by omega)
          have t2 : decide (j < m) = false := decide_eq_false hlt
          obtain rfl : j = m := by omega
          have t3 : (9223372036854775807 < a0.size + W.size) = False := eq_false (by omega)
          have hq : L (a0 ++ W) = L a0 ++ 10 :: eacute j := by rw [L_append, HW.out]
          obtain ⟨hq1, hq2⟩ := errs_word (L a0) j (by rw [L_length]; exact z0) hm2 ts HT.out
          rw [← hq, L_length] at hq2
          rw [← hq] at hq1
          clear hws hq hlt
          go_wp2_with fail
          refine (All_word _ j _ hq1 hq2 _).mono ?_
          rintro e w7 ⟨A7, m7, n7, g7, p7, rfl, hg7, h7⟩
          have HB7 := Aside0.mk (below2 HB.out h7)
          clear HB h7 hq1 hq2 t3
          go_upto_region 20 with (fail)
          go_cut [119] (fun v119 wc => v119 = .bool false ∧ Aside0 (Below w.heap.size w wc))
          case first =>
            rcases hg7.out with ⟨h24, rfl⟩ | ⟨h24, rfl, rfl⟩
            · have u1 : decide ((j : Int) ≤ 24) = true := decide_eq_true (by omega)
              have u2 : decide (j ≤ 24) = true := decide_eq_true h24
              have u3 : decide ((24 : Int) < (j : Int)) = false := decide_eq_false (by omega)
              have u4 : decide (24 < j) = false := decide_eq_false (by omega)
              clear hg7 h24
              go_wp2
              go_meet
              case rel => exact ⟨rfl, HB7⟩
            · have u1 : decide ((j : Int) ≤ 24) = false := decide_eq_false (by omega)
              have u2 : decide (j ≤ 24) = false := decide_eq_false (by omega)
              have u3 : decide ((24 : Int) < (j : Int)) = true := decide_eq_true (by omega)
              have u4 : decide (24 < j) = true := decide_eq_true h24
              have u5 : (((a0.size + 1 : Nat) : Int) != (a0.size : Int) + 1) = false := by rw [bne_eq_false_iff_eq]; omega
              have u6 : (((a0.size + 1 : Nat) : Int) == (a0.size : Int) + 1) = true := by rw [beq_iff_eq]; omega
              clear hg7 h24
              go_wp2
              go_meet
              case rel => exact ⟨rfl, HB7⟩
          case rest =>
            clear HB7 hg7 t1 t2
            obtain ⟨rfl, HB⟩ := hcut
            obtain ⟨q7, q8⟩ := r2
            obtain ⟨c, hc⟩ : ∃ c : Nat, a2 = (c : Int) := Int.eq_ofNat_of_zero_le q7
            have hcs : (⟨#[UInt8.ofNat a2.toNat]⟩ : ByteArray).size = 1 := rfl
            have hcn : (UInt8.ofNat a2.toNat).toNat = c := by rw [hc, Int.toNat_natCast, UInt8.toNat_ofNat']; omega
            have hL : L (⟨#[UInt8.ofNat a2.toNat]⟩ : ByteArray) = [UInt8.ofNat a2.toNat] := rfl
            by_cases k1 : a2 < 128
            · have u1 : decide (a2 < 128) = true := decide_eq_true k1
              by_cases k2 : a2 > 32
              · have u2 : decide (32 < a2) = true := decide_eq_true k2
                cases hn : name (L (⟨#[UInt8.ofNat a2.toNat]⟩ : ByteArray)) with
                | true =>
                  have HNm := Aside0.mk hn
                  clear k1 k2 hn hc hcn hL
                  go_wp2_with (first | ((with_reducible refine gate_dst (N := 128) rfl ?_); (try (refine gate_guard (by rfl) ?_; dsimp only)); refine Kd.R_lit (Kd.int .u8) _ 5 ?hg (N := 128) ?hd (xs := ([a2] : List Int)) (inner := [.int .u8 a2]) (ok := fun _ => True) (okp := fun _ => True) ?hr ?hp (fun _ hk => hk) trivial (Below.refl _ _) (Nat.le_refl _) (by simp) ?_; (case hd => rfl); (case hg => rfl); (case hr => first | (go_simp; done) | (go_simp; rfl)); (case hp => exact (Reps.one (show Kd.M (Kd.int .u8) _ _ _ a2 [.int .u8 a2] from rfl) (Reps.none _ _))); intro v128 w128 ho128 hb128 hg_ hnew_; clear hg_ hnew_; have hcv128 := own_string (P := Tryd.prog) Tryd.underlying36 Tryd.underlying5 Tryd.underlying9 (Kd.own_of_R ho128); clear ho128; have n1_ := Aside0.mk (below_step (by repeat (first | (with_reducible first | exact HB.out | apply below_alloc | apply pw_below_drewN | apply below_drew1) | exact HB.out)) hb128); clear HB; have HB := n1_; clear n1_ hb128; rw [strOf1 a2] at hcv128) | ((go_at_call 30; (with_reducible refine (Name_calls _ true (by rw [hcs]; decide) HNm.out _).mono ?_)); rintro e wn ⟨rfl, hbn⟩; have n1_ := Aside0.mk (below_step (by repeat (first | (with_reducible first | exact HB.out | apply below_alloc | apply pw_below_drewN | apply below_drew1) | exact HB.out)) hbn); clear HB; have HB := n1_; clear n1_ hbn))
                  go_ret
                  exact ⟨rfl, by repeat (first | (with_reducible first | exact HB.out | apply below_alloc | apply pw_below_drewN | apply below_drew1) | exact HB.out)⟩
                | false =>
                  have HNm := Aside0.mk hn
                  have hsf := Sign_f c 13 (Nat.le_refl _)
                  rw [← hc] at hsf
                  cases hs : isSign c with
                  | true =>
                    rw [hs] at hsf
                    have HSg := Aside0.mk hsf
                    clear k1 k2 hn hc hcn hL hsf hs
                    go_wp2_with (first | ((with_reducible refine gate_dst (N := 128) rfl ?_); (try (refine gate_guard (by rfl) ?_; dsimp only)); refine Kd.R_lit (Kd.int .u8) _ 5 ?hg (N := 128) ?hd (xs := ([a2] : List Int)) (inner := [.int .u8 a2]) (ok := fun _ => True) (okp := fun _ => True) ?hr ?hp (fun _ hk => hk) trivial (Below.refl _ _) (Nat.le_refl _) (by simp) ?_; (case hd => rfl); (case hg => rfl); (case hr => first | (go_simp; done) | (go_simp; rfl)); (case hp => exact (Reps.one (show Kd.M (Kd.int .u8) _ _ _ a2 [.int .u8 a2] from rfl) (Reps.none _ _))); intro v128 w128 ho128 hb128 hg_ hnew_; clear hg_ hnew_; have hcv128 := own_string (P := Tryd.prog) Tryd.underlying36 Tryd.underlying5 Tryd.underlying9 (Kd.own_of_R ho128); clear ho128; have n1_ := Aside0.mk (below_step (by repeat (first | (with_reducible first | exact HB.out | apply below_alloc | apply pw_below_drewN | apply below_drew1) | exact HB.out)) hb128); clear HB; have HB := n1_; clear n1_ hb128; rw [strOf1 a2] at hcv128) | ((go_at_call 30; (with_reducible refine (Name_calls _ false (by rw [hcs]; decide) HNm.out _).mono ?_)); rintro e wn ⟨rfl, hbn⟩; have n1_ := Aside0.mk (below_step (by repeat (first | (with_reducible first | exact HB.out | apply below_alloc | apply pw_below_drewN | apply below_drew1) | exact HB.out)) hbn); clear HB; have HB := n1_; clear n1_ hbn) | ((go_at_call 31; (with_reducible refine (doormanref06_Sign.calls 13 a2 true _ HSg.out).mono ?_)); rintro e w' ⟨rfl, ⟨nd, rfl⟩⟩))
                    go_ret
                    exact ⟨rfl, by repeat (first | (with_reducible first | exact HB.out | apply below_alloc | apply pw_below_drewN | apply below_drew1) | exact HB.out)⟩
                  | false =>
                    rw [hs] at hsf
                    have HSg := Aside0.mk hsf
                    have hal := errs_sign (L a0) (UInt8.ofNat a2.toNat) (by rw [L_length]; exact z0) ts HT.out (by omega) (by omega) (by rw [← hL]; exact hn) (by rw [hcn]; exact hs)
                    have HAl : Aside0 (all (L (a0 ++ (⟨#[10]⟩ : ByteArray) ++ (⟨#[UInt8.ofNat a2.toNat]⟩ : ByteArray))) = .error (30, a0.size + 1)) := ⟨by rw [L_append, L_append, hL, ← L_length]; exact hal⟩
                    have u3 : (9223372036854775807 < a0.size + 1) = False := eq_false (by omega)
                    have u4 : (9223372036854775807 < a0.size + 1 + 1) = False := eq_false (by omega)
                    have u5 : (((a0.size + 1 : Nat) : Int) != (a0.size : Int) + 1) = false := by rw [bne_eq_false_iff_eq]; omega
                    have u6 : (((a0.size + 1 : Nat) : Int) == (a0.size : Int) + 1) = true := by rw [beq_iff_eq]; omega
                    clear k1 k2 hn hc hcn hL hsf hs hal
                    go_wp2_with (first | ((with_reducible refine gate_dst (N := 128) rfl ?_); (try (refine gate_guard (by rfl) ?_; dsimp only)); refine Kd.R_lit (Kd.int .u8) _ 5 ?hg (N := 128) ?hd (xs := ([a2] : List Int)) (inner := [.int .u8 a2]) (ok := fun _ => True) (okp := fun _ => True) ?hr ?hp (fun _ hk => hk) trivial (Below.refl _ _) (Nat.le_refl _) (by simp) ?_; (case hd => rfl); (case hg => rfl); (case hr => first | (go_simp; done) | (go_simp; rfl)); (case hp => exact (Reps.one (show Kd.M (Kd.int .u8) _ _ _ a2 [.int .u8 a2] from rfl) (Reps.none _ _))); intro v128 w128 ho128 hb128 hg_ hnew_; clear hg_ hnew_; have hcv128 := own_string (P := Tryd.prog) Tryd.underlying36 Tryd.underlying5 Tryd.underlying9 (Kd.own_of_R ho128); clear ho128; have n1_ := Aside0.mk (below_step (by repeat (first | (with_reducible first | exact HB.out | apply below_alloc | apply pw_below_drewN | apply below_drew1) | exact HB.out)) hb128); clear HB; have HB := n1_; clear n1_ hb128; rw [strOf1 a2] at hcv128) | ((with_reducible refine gate_dst (N := 142) rfl ?_); (try (refine gate_guard (by rfl) ?_; dsimp only)); refine Kd.R_lit (Kd.int .u8) _ 5 ?hg (N := 142) ?hd (xs := ([a2] : List Int)) (inner := [.int .u8 a2]) (ok := fun _ => True) (okp := fun _ => True) ?hr ?hp (fun _ hk => hk) trivial (Below.refl _ _) (Nat.le_refl _) (by simp) ?_; (case hd => rfl); (case hg => rfl); (case hr => first | (go_simp; done) | (go_simp; rfl)); (case hp => exact (Reps.one (show Kd.M (Kd.int .u8) _ _ _ a2 [.int .u8 a2] from rfl) (Reps.none _ _))); intro v142 w142 ho142 hb142 hg_ hnew_; clear hg_ hnew_; have hcv142 := own_string (P := Tryd.prog) Tryd.underlying36 Tryd.underlying5 Tryd.underlying9 (Kd.own_of_R ho142); clear ho142; have n1_ := Aside0.mk (below_step (by repeat (first | (with_reducible first | exact HB.out | apply below_alloc | apply pw_below_drewN | apply below_drew1) | exact HB.out)) hb142); clear HB; have HB := n1_; clear n1_ hb142; rw [strOf1 a2] at hcv142) | ((go_at_call 30; (with_reducible refine (Name_calls _ false (by rw [hcs]; decide) HNm.out _).mono ?_)); rintro e wn ⟨rfl, hbn⟩; have n1_ := Aside0.mk (below_step (by repeat (first | (with_reducible first | exact HB.out | apply below_alloc | apply pw_below_drewN | apply below_drew1) | exact HB.out)) hbn); clear HB; have HB := n1_; clear n1_ hbn) | ((go_at_call 31; (with_reducible refine (doormanref06_Sign.calls 13 a2 false _ HSg.out).mono ?_)); rintro e w' ⟨rfl, ⟨nd, rfl⟩⟩) | ((go_at_call 25; (with_reducible refine (All_err _ _ _ HAl.out _).mono ?_)); rintro e wl ⟨Al, nl, rfl, hbl⟩; have n1_ := Aside0.mk (below_step (by repeat (first | (with_reducible first | exact HB.out | apply below_alloc | apply pw_below_drewN | apply below_drew1) | exact HB.out)) hbl); clear HB; have HB := n1_; clear n1_ hbl))
                    go_ret
                    exact ⟨rfl, by repeat (first | (with_reducible first | exact HB.out | apply below_alloc | apply pw_below_drewN | apply below_drew1) | exact HB.out)⟩
              · have u2 : decide (32 < a2) = false := decide_eq_false k2
                clear k1 k2 hc hcn hL
                go_wp2
                go_ret
                exact ⟨rfl, HB.out⟩
            · have u1 : decide (a2 < 128) = false := decide_eq_false k1
              clear k1 hc hcn hL
              go_wp2
              go_ret
              exact ⟨rfl, HB.out⟩
    · have t1 : (en == 0) = false := by rw [beq_eq_false_iff_ne]; exact hen
      have t2 : (en != 0) = true := by rw [bne_iff_ne]; exact hen
      clear hen
      go_wp2
      go_ret
      exact ⟨rfl, HB.out⟩
end Go.Proofs.YtkgnhghaiopgcaaDoor.Wk
