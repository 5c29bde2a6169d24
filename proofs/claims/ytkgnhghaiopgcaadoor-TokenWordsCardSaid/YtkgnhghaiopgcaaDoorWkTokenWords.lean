/- For every input TokenWords returns true: words with blanks between are these words; keys are words, too; a sign parts what it stands between. No condition. -/
import Derived.Test.YtkgnhghaiopgcaaDoorWkArg
set_option linter.unusedVariables false
set_option linter.unusedSimpArgs false
namespace Go.Proofs.YtkgnhghaiopgcaaDoor.Wk
open Go.RowKit Go.Proofs.YtkgnhghaiopgcaaDoorW.PrintWords Go.Proofs.YtkgnhghaiopgcaaDoorW.PrintLast Go.Proofs.YtkgnhghaiopgcaaDoor.X Go.Proofs.YtkgnhghaiopgcaaDoor.Gl Go.Proofs.YtkgnhghaiopgcaaDoor.GlFn Go.Proofs.YtkgnhghaiopgcaaDoor.Tk Go.Proofs.YtkgnhghaiopgcaaDoor.TkFn Go.Proofs.YtkgnhghaiopgcaaDoor.Pure Go.Proofs.YtkgnhghaiopgcaaDoor.Tp

theorem sign_at (m : Nat) (h : m < 12) : ∃ c : UInt8, L ((⟨#[123, 125, 40, 41, 58, 44, 59, 124, 38, 45, 46, 35]⟩ : ByteArray).extract m (m + 1)) = [c] ∧ isSign c.toNat = true := by
  rw [L_extract, show m + 1 - m = 1 by omega]
  have : m = 0 ∨ m = 1 ∨ m = 2 ∨ m = 3 ∨ m = 4 ∨ m = 5 ∨ m = 6 ∨ m = 7 ∨ m = 8 ∨ m = 9 ∨ m = 10 ∨ m = 11 := by omega
  rcases this with rfl | rfl | rfl | rfl | rfl | rfl | rfl | rfl | rfl | rfl | rfl | rfl
  all_goals exact ⟨_, rfl, by decide⟩
theorem take_nxt {α : Type} (ts : List α) (i : Nat) (t : α) (h : ts[i]? = some t) : ts.take (i + 1) = ts.take i ++ [t] := by
  rw [List.take_add_one, h]; rfl
/-- What the law asks of the tokens. -/
structure Words (ss : List ByteArray) (C : ByteArray) (X : List S32) : Prop where
  lx : X.length = 2 * ss.length + 1
  at_ : ∀ (x : Int) (s : ByteArray), 0 ≤ x → ss[x.toNat]? = some s → (∃ q, rd_T32 X (2 * x) = ⟨1, s, q⟩) ∧ ∃ q, rd_T32 X (2 * x + 1) = ⟨2, C, q⟩
theorem words_of (ss : List ByteArray) (C : ByteArray) (c : UInt8) (hC : L C = [c]) : Words ss C ((wtoks c (ss.map L) 0).map toS) := by
  refine ⟨by rw [List.length_map, wtoks_length, List.length_map], ?_⟩
  intro x s h0 h
  obtain ⟨i, rfl⟩ := Int.eq_ofNat_of_zero_le h0
  rw [Int.toNat_natCast] at h
  obtain ⟨⟨q1, h1⟩, ⟨q2, h2⟩⟩ := wtoks_at c (ss.map L) 0 i (L s) (by rw [List.getElem?_map, h]; rfl)
  obtain ⟨l1, e1⟩ := List.getElem?_eq_some_iff.1 h1
  obtain ⟨l2, e2⟩ := List.getElem?_eq_some_iff.1 h2
  have hs : (⟨(L s).toArray⟩ : ByteArray) = s := L_inj rfl
  have hc : (⟨[c].toArray⟩ : ByteArray) = C := L_inj hC.symm
  refine ⟨⟨q1, ?_⟩, ⟨q2, ?_⟩⟩
  · rw [show (2 * (i : Int)) = ((2 * i : Nat) : Int) by omega, rd_S _ _ l1, e1]
    show (⟨1, ⟨(L s).toArray⟩, q1⟩ : S32) = _
    rw [hs]
  · rw [show (2 * (i : Int) + 1) = ((2 * i + 1 : Nat) : Int) by omega, rd_S _ _ l2, e2]
    show (⟨2, ⟨[c].toArray⟩, q2⟩ : S32) = _
    rw [hc]

set_option maxHeartbeats 4000000 in
set_option maxRecDepth 100000 in
theorem TokenWords (a0 : Option Addr) (len0 cap0 : Nat) (z0 : List ByteArray) (a1 : Int) (w : World) (hK : Aside0 (Aid.KeysIn w)) (w0 : StrRow w a0 len0 cap0 z0) (w1 : (Lit.int .u8 a1).wf = true) :
    Calls Tryd.prog 7 #[.slice a0 len0 cap0, .int .u8 a1] w fun e w' => e = .returned (.bool true) ∧ Below w.heap.size w w' := by
  have r1 : 0 ≤ a1 ∧ a1 ≤ 255 := by
    rw [Lit.wf, Bool.and_eq_true, decide_eq_true_eq, decide_eq_true_eq] at w1
    exact w1
  have W0 := Aside0.mk w0
  clear w0 w1
  obtain ⟨q1, q2⟩ := r1
  by_cases c1 : (len0 : Int) > 20
  · have d1 : decide ((20 : Int) < (len0 : Int)) = true := decide_eq_true c1
    have d2 : decide (20 < len0) = true := decide_eq_true (by omega)
    clear c1
    go_enter Tryd.func7, Tryd.ntmps7
    go_wp2_with fail
    refine (awake_calls _ hK).mono ?_
    rintro e w2 ⟨rfl, hb⟩
    go_wp2
    go_ret
    exact ⟨rfl, hb⟩
  have d1 : decide ((20 : Int) < (len0 : Int)) = false := decide_eq_false c1
  have d2 : decide (20 < len0) = false := decide_eq_false (by omega)
  have z20 : len0 ≤ 20 := by omega
  clear c1
  obtain ⟨m, hm⟩ : ∃ m : Nat, a1 % 12 = (m : Int) := ⟨(a1 % 12).toNat, by omega⟩
  have hm2 : m < 12 := by omega
  obtain ⟨c, hc, hsg⟩ := sign_at m hm2
  have g1 : (m : Int) ≤ 12 := by omega
  have g2 : (0 : Int) ≤ (m : Int) := by omega
  have g3 : (m : Int) + 1 ≤ 12 := by omega
  have g4 : (m : Int) ≤ (m : Int) + 1 := by omega
  have g5 : ((m : Int) + 1).toNat = m + 1 := by omega
  go_enter Tryd.func7, Tryd.ntmps7
  go_wp2_with fail
  refine (awake_calls _ hK).mono ?_
  rintro e w2 ⟨rfl, hb⟩
  go_wp2_with fail
  obtain ⟨C, hCC⟩ : ∃ C, (⟨#[123, 125, 40, 41, 58, 44, 59, 124, 38, 45, 46, 35]⟩ : ByteArray).extract m (m + 1) = C := ⟨_, rfl⟩
  rw [hCC] at hc ⊢
  have hCz : C.size = 1 := by rw [← L_length, hc]; rfl
  have HCz := Aside0.mk hCz
  clear hCz
  have HC := Aside0.mk hc
  have HSG := Aside0.mk hsg
  have HB := Aside0.mk hb
  have W2 := Aside0.mk (StrRow.below W0.out hb)
  have hl0 := W0.out.hl
  have HL := Aside0.mk hl0
  clear hm hm2 hc hsg g1 g2 g3 g4 g5 hCC hb d1 d2 W0 hl0 q1 q2
  go_loopg [8, 9] len0 (fun kq v8 v9 wr => ∃ (x : Int) (T : ByteArray), v9 = .int .i64 x ∧ v8 = .string T ∧ Aside0 (0 ≤ x ∧ x + kq = len0) ∧ Aside0 (L T = words c ((z0.take x.toNat).map L) ∧ (T.size : Int) ≤ 97 * x ∧ ∀ s ∈ z0.take x.toNat, name (L s) = true) ∧ Aside0 (StrRow wr a0 len0 cap0 z0) ∧ Aside0 (Below w.heap.size w wr))
  case atStart => exact ⟨0, _, rfl, rfl, ⟨by omega, by omega⟩, ⟨rfl, Int.le_refl _, by simp⟩, W2, HB⟩
  case round =>
    clear W2 HB
    obtain ⟨x, T, rfl, rfl, Hx, HT, W2, HB⟩ := hrel
    obtain ⟨hx0, hx1⟩ := Hx.out
    cases gk with
    | succ k1 =>
      have t1 : decide (x < (len0 : Int)) = true := decide_eq_true (by omega)
      have hi : x.toNat < z0.length := by have := HL.out; omega
      obtain ⟨ad, y1, h1⟩ := W2.out.cells x.toNat (by omega)
      cases y1
      obtain ⟨s, hs⟩ : ∃ s, z0.getD x.toNat ByteArray.empty = s := ⟨_, rfl⟩
      have hs2 : z0[x.toNat]? = some s := by rw [← hs, List.getD_eq_getElem?_getD, List.getElem?_eq_getElem hi]; rfl
      have hsz : s.size ≤ 140737488351232 := W2.out.sz s (List.mem_of_getElem? hs2)
      rw [hs] at h1
      have b1 : decide (0 ≤ x) = true := decide_eq_true hx0
      have b2 : (0 ≤ x) = True := eq_true hx0
      have b3 : (x < (len0 : Int)) = True := eq_true (by omega)
      have H1 := Aside0.mk h1
      have HS := Aside0.mk hs2
      cases hn : name (L s) with
      | false =>
        have HN := Aside0.mk hn
        clear hn hs hs2 hi hx0 hx1
        go_wp2_with fail
        refine (Name_calls _ _ hsz HN.out _).mono ?_
        rintro e w5 ⟨rfl, h5⟩
        go_wp2
        go_ret
        exact ⟨rfl, below2 HB.out h5⟩
      | true =>
        have HN := Aside0.mk hn
        have hn96 : s.size ≤ 96 := by rw [← L_length]; exact name_size hn
        have hCz := HCz.out
        have hTz : T.size ≤ 1940 := by have := HT.out.2.1; omega
        have s1 : (9223372036854775807 < s.size + C.size) = False := eq_false (by omega)
        have s2 : (9223372036854775807 < T.size + (s.size + C.size)) = False := eq_false (by omega)
        have t8 : IntKind.i64.wrap (x + 1) = x + 1 := by rw [IntKind.wrap_i64]; omega
        have HX : Aside0 (L (T ++ (s ++ C)) = words c ((z0.take (x + 1).toNat).map L) ∧ ((T ++ (s ++ C)).size : Int) ≤ 97 * (x + 1) ∧ ∀ u ∈ z0.take (x + 1).toNat, name (L u) = true) := ⟨by
          have e1 : z0.take (x + 1).toNat = z0.take x.toNat ++ [s] := by rw [show (x + 1).toNat = x.toNat + 1 by omega, take_nxt z0 _ _ hs2]
          refine ⟨?_, ?_, ?_⟩
          · rw [e1, List.map_append, List.map_singleton, words_snoc, L_append, L_append, HC.out, HT.out.1]
          · have := HT.out.2.1
            rw [ByteArray.size_append, ByteArray.size_append]; omega
          · intro u hu
            rw [e1, List.mem_append] at hu
            rcases hu with hu | hu
            · exact HT.out.2.2 u hu
            · rw [List.mem_singleton.1 hu]; exact hn⟩
        clear hn hs hs2 hi hn96 hTz hCz
        go_wp2_with fail
        refine (Name_calls _ _ hsz HN.out _).mono ?_
        rintro e w5 ⟨rfl, h5⟩
        have c5 := pw_cell_below h5 H1.out
        have W5 := Aside0.mk (StrRow.below W2.out h5)
        have B5 := Aside0.mk (below2 HB.out h5)
        clear h5 h1 W2 HB
        go_wp2
        go_roundg k1
        case measure => omega
        case rel => exact ⟨x + 1, _, rfl, rfl, ⟨by have := Hx.out; omega, by have := Hx.out; omega⟩, HX, W5, B5⟩
    | zero =>
      obtain rfl : x = (len0 : Int) := by omega
      have t1 : decide ((len0 : Int) < (len0 : Int)) = false := decide_eq_false (by omega)
      have t2 : decide (len0 < len0) = false := decide_eq_false (by omega)
      have hall : z0.take ((len0 : Int)).toNat = z0 := List.take_of_length_le (by have := HL.out; omega)
      obtain ⟨h1, h2, h3⟩ := HT.out
      rw [hall] at h1 h3
      have hnm : ∀ u ∈ z0.map L, name u = true := by
        intro u hu
        obtain ⟨v, hv, rfl⟩ := List.mem_map.1 hu
        exact h3 v hv
      have hal := words_all c HSG.out (z0.map L) hnm (by rw [List.length_map]; have := HL.out; omega)
      rw [← h1] at hal
      have hwd := words_of z0 C c HC.out
      obtain ⟨X, E⟩ : ∃ X, (wtoks c (z0.map L) 0).map toS = X := ⟨_, rfl⟩
      rw [E] at hwd
      have hlx : X.length = 2 * len0 + 1 := by rw [hwd.lx, HL.out]
      have A1 := Aside0.mk hal
      have F1 := Aside0.mk E
      have HW := Aside0.mk hwd
      have t3 : decide ((2048 : Int) < (T.size : Int)) = false := decide_eq_false (by omega)
      have t4 : decide (2048 < T.size) = false := decide_eq_false (by omega)
      have t5 : ((X.length : Int) != 2 * (len0 : Int) + 1) = false := by rw [bne_eq_false_iff_eq]; omega
      have t6 : ((X.length : Int) == 2 * (len0 : Int) + 1) = true := by rw [beq_iff_eq]; omega
      have HLX := Aside0.mk hlx
      clear hx0 hx1 hall h1 h2 h3 hnm hal hwd E hlx HT
      go_wp2_with fail
      refine (All_okX _ _ X A1.out F1.out _).mono ?_
      rintro e w4 ⟨B1, n1, rfl, R1, h4⟩
      have H4 := Aside0.mk (below2 HB.out h4)
      have Q1 := Aside0.mk (Kd.R_lower R1 HB.out.size)
      have W4 := Aside0.mk (StrRow.below W2.out h4)
      clear R1 h4 HB W2
      go_wp2_with fail
      go_loopg [13] len0 (fun kq v13 wr => ∃ x : Int, v13 = .int .i64 x ∧ Aside0 (0 ≤ x ∧ x + kq = len0) ∧ Aside0 (Kd.R k32 32 wr w.heap.size (fun _ => True) (.slice B1 X.length n1) X) ∧ Aside0 (StrRow wr a0 len0 cap0 z0) ∧ Aside0 (Below w.heap.size w wr))
      case atStart => exact ⟨0, rfl, ⟨by omega, by omega⟩, Q1, W4, H4⟩
      case round =>
        clear Q1 H4 W4
        obtain ⟨x, rfl, Hx, Q1, W2, HB⟩ := hrel
        obtain ⟨hx0, hx1⟩ := Hx.out
        cases gk with
        | zero =>
          have t1 : decide (x < (len0 : Int)) = false := decide_eq_false (by omega)
          clear hx0 hx1
          go_wp2
          go_ret
          exact ⟨rfl, HB.out⟩
        | succ k1 =>
          have u1 : decide (x < (len0 : Int)) = true := decide_eq_true (by omega)
          have hi : x.toNat < z0.length := by have := HL.out; omega
          obtain ⟨ad, y1, h1⟩ := W2.out.cells x.toNat (by omega)
          cases y1
          obtain ⟨s, hs⟩ : ∃ s, z0.getD x.toNat ByteArray.empty = s := ⟨_, rfl⟩
          have hs2 : z0[x.toNat]? = some s := by rw [← hs, List.getD_eq_getElem?_getD, List.getElem?_eq_getElem hi]; rfl
          rw [hs] at h1
          obtain ⟨⟨p1, e1⟩, ⟨p2, e2⟩⟩ := HW.out.at_ x s hx0 hs2
          have hXl := HLX.out
          obtain ⟨ad1, y1, h10, h11, h12⟩ := at_T32 (Kd.R_reads' Q1.out).2.2 (2 * x) (by omega) (by omega)
          obtain ⟨ad2, y2, h20, h21, h22⟩ := at_T32 (Kd.R_reads' Q1.out).2.2 (2 * x + 1) (by omega) (by omega)
          cases y1
          obtain rfl : ad1 = ad2 := by injection y2
          rw [e1] at h10 h11 h12
          rw [e2] at h20 h21 h22
          have b1 : decide (0 ≤ x) = true := decide_eq_true hx0
          have b2 : (0 ≤ x) = True := eq_true hx0
          have b3 : (x < (len0 : Int)) = True := eq_true (by omega)
          have b4 : (0 ≤ 2 * x) = True := eq_true (by omega)
          have b5 : (2 * x < (X.length : Int)) = True := eq_true (by omega)
          have b6 : (0 ≤ 2 * x + 1) = True := eq_true (by omega)
          have b7 : (2 * x + 1 < (X.length : Int)) = True := eq_true (by omega)
          have t8 : IntKind.i64.wrap (x + 1) = x + 1 := by rw [IntKind.wrap_i64]; omega
          have t9 : IntKind.i64.wrap (2 * x) = 2 * x := by rw [IntKind.wrap_i64]; omega
          have t10 : IntKind.i64.wrap (2 * x + 1) = 2 * x + 1 := by rw [IntKind.wrap_i64]; omega
          clear hs hs2 hi hXl e1 e2 hx0 hx1 y2
          go_wp2
          go_quiet (fail)
          go_wp2
          go_roundg k1
          case measure => omega
          case rel => exact ⟨x + 1, rfl, ⟨by have := Hx.out; omega, by have := Hx.out; omega⟩, ⟨by (with_reducible repeat (first | apply Kd.R_alloc | apply Kd.R_drewN | apply Kd.R_drew)); exact Q1.out⟩, ⟨StrRow.below W2.out (pw_below_drewN (Below.refl _ _) _)⟩, ⟨by repeat (first | (with_reducible first | exact HB.out | apply below_alloc | apply pw_below_drewN | apply below_drew1) | exact HB.out)⟩⟩
end Go.Proofs.YtkgnhghaiopgcaaDoor.Wk
