/- For every input ParseOps returns true: of each rewrite the operations can be done. No condition. -/
import Derived.Test.YtkgnhghaiopgcaaDoorPu
import Derived.Test.YtkgnhghaiopgcaaDoorPv
set_option linter.unusedVariables false
set_option linter.unusedSimpArgs false
namespace Go.Proofs.YtkgnhghaiopgcaaDoor.Wk
open Go.RowKit Go.Maps Go.Proofs.YtkgnhghaiopgcaaDoorW.PrintWords Go.Proofs.YtkgnhghaiopgcaaDoorW.PrintLast Go.Proofs.YtkgnhghaiopgcaaDoor.X Go.Proofs.YtkgnhghaiopgcaaDoor.Kx Go.Proofs.YtkgnhghaiopgcaaDoor.Gl Go.Proofs.YtkgnhghaiopgcaaDoor.GlFn Go.Proofs.YtkgnhghaiopgcaaDoor.Tk Go.Proofs.YtkgnhghaiopgcaaDoor.Ps Go.Proofs.YtkgnhghaiopgcaaDoor.Pw Go.Proofs.YtkgnhghaiopgcaaDoor.Px

theorem list_ne {b : ByteArray} (h : b ≠ ⟨#[]⟩) : (b.toList == ([] : List UInt8)) = false ∧ (b.toList = []) = False := by
  have h1 : b.toList ≠ [] := by
    intro e
    rw [ByteArray.toList_eq] at e
    refine h ?_
    cases b with
    | mk d => congr 1; simpa using e
  exact ⟨beq_eq_false_iff_ne.mpr h1, eq_false h1⟩
theorem list_nil (b : ByteArray) : b.toList = [] ↔ b = ⟨#[]⟩ := by
  rw [ByteArray.toList_eq]
  constructor
  · intro h
    cases b with
    | mk d =>
      have h2 : d = #[] := by simpa using h
      rw [h2]
  · intro h; rw [h]
set_option maxHeartbeats 8000000 in
set_option maxRecDepth 100000 in
theorem ParseOps (a0 : ByteArray) (w : World) (hK : Aside0 (Aid.KeysIn w)) (w0 : a0.size ≤ 140737488351232) :
    Calls Tryd.prog 10 #[.string a0] w fun e w' => e = .returned (.bool true) ∧ Below w.heap.size w w' := by
  by_cases c1 : (a0.size : Int) > 2000
  · have d1 : decide ((2000 : Int) < (a0.size : Int)) = true := decide_eq_true c1
    have d2 : decide (2000 < a0.size) = true := decide_eq_true (by omega)
    clear c1
    go_enter Tryd.func10, Tryd.ntmps10
    go_wp2_with fail
    refine (Pu.awake_calls _ hK).mono ?_
    rintro e w2 ⟨rfl, hb⟩
    go_wp2
    go_ret
    exact ⟨rfl, hb⟩
  have d1 : decide ((2000 : Int) < (a0.size : Int)) = false := decide_eq_false c1
  have d2 : decide (2000 < a0.size) = false := decide_eq_false (by omega)
  have hlen : (L a0).length = a0.size := by simp [L]
  obtain ⟨res, hres⟩ := Pv.parse_some (L a0)
  have HR := Aside0.mk hres
  cases res with
  | error er =>
    obtain ⟨en, pz⟩ := er
    obtain ⟨h1, h2⟩ := Pz.parse_err hres (by omega)
    have h1' : en ≠ 0 := h1
    have h2' : pz ≤ a0.size := by rw [← hlen]; exact h2
    have t1 : (en != 0) = true := by simpa using h1'
    have t2 : decide ((0 : Int) ≤ (pz : Int)) = true := decide_eq_true (by omega)
    have t3 : decide ((pz : Int) ≤ (a0.size : Int)) = true := decide_eq_true (by omega)
    have t4 : decide (pz ≤ a0.size) = true := decide_eq_true h2'
    clear c1 hlen hres h1 h2 h1'
    go_enter Tryd.func10, Tryd.ntmps10
    go_wp2_with fail
    refine (Pu.awake_calls _ hK).mono ?_
    rintro e w2 ⟨rfl, hb⟩
    have HB := Aside0.mk hb
    have HK2 : Aside0 (Aid.KeysIn w2) := ⟨hK.out.go hb⟩
    clear hb
    go_wp2_with fail
    refine (Parse_calls a0 rfl HR.out w2 HK2).mono ?_
    intro e w3 he
    obtain ⟨rfl, hb⟩ := he
    have HB3 : Aside0 (Below w.heap.size w w3) := ⟨HB.out.trans (hb.mono HB.out.size)⟩
    clear hb HB HK2
    go_wp2
    go_ret
    exact ⟨rfl, HB3.out.trans ((below_alloc (Below.refl _ _) _).mono HB3.out.size)⟩
  | ok X =>
    have HX := Aside0.mk (Pz.parse_ok hres)
    clear c1 hlen hres
    go_enter Tryd.func10, Tryd.ntmps10
    go_wp2_with fail
    refine (Pu.awake_calls _ hK).mono ?_
    rintro e w2 ⟨rfl, hb⟩
    have HB := Aside0.mk hb
    have HK2 : Aside0 (Aid.KeysIn w2) := ⟨hK.out.go hb⟩
    clear hb
    go_wp2_with fail
    refine (Parse_calls a0 rfl HR.out w2 HK2).mono ?_
    intro e w3 he
    obtain ⟨v, rfl, hv, hb⟩ := he
    obtain ⟨A, c, rfl⟩ := Kd.R_slice hv
    have HB3 : Aside0 (Below w.heap.size w w3) := ⟨HB.out.trans (hb.mono HB.out.size)⟩
    have hC := (Kd.R_reads' hv).2.2
    have HC4 := Aside0.mk (Kd.C_alloc hC (.cells #[.slice A X.length c] 43))
    have HS4 : Aside0 ((w3.alloc (.cells #[.slice A X.length c] 43)).heap[w3.heap.size]? = some (.cells #[.slice A X.length c] 43 (0, 0))) := ⟨(Go.MapKept.heap_alloc w3 _).1⟩
    have HB4 : Aside0 (Below w.heap.size w (w3.alloc (.cells #[.slice A X.length c] 43))) := ⟨HB3.out.trans ((below_alloc (Below.refl _ _) _).mono HB3.out.size)⟩
    obtain ⟨w4, hw4⟩ : ∃ w4, (w3.alloc (.cells #[.slice A X.length c] 43)) = w4 := ⟨_, rfl⟩
    rw [hw4] at HC4 HS4 HB4
    obtain ⟨q, hq⟩ : ∃ q, w3.heap.size = q := ⟨_, rfl⟩
    rw [hq] at HS4
    have HW := Aside0.mk hw4
    have HSZX : Aside0 (X.length ≤ 9223372036854775807) := ⟨Kd.C_max hC⟩
    clear hv hb hC HB HK2 HB3 hw4
    go_wp2
    rw [HW.out]
    clear HW hq
    go_loopg [7] (X.length + 1) (fun g v7 wx => ∃ i : Nat, v7 = .int .i64 i ∧ i + g = X.length + 1 ∧ i ≤ X.length ∧ Aside0 (Below w4.heap.size w4 wx))
    case atStart => exact ⟨0, rfl, by omega, Nat.zero_le _, ⟨Below.refl _ _⟩⟩
    case round =>
      obtain ⟨i, rfl, hi, hil, HBx⟩ := hrel
      rename World => wx
      cases gk with
      | zero => omega
      | succ g1 =>
        have HSx : Aside0 (wx.heap[q]? = some (.cells #[.slice A X.length c] 43 (0, 0))) := ⟨(HBx.out.block q (blk_lt HS4.out)).trans HS4.out⟩
        have s0 := blk_cell HSx.out 0
        by_cases hlt : i < X.length
        · have e1 : decide ((i : Int) < (X.length : Int)) = true := decide_eq_true (by omega)
          have e2 : ((i : Int) < (X.length : Int)) = True := eq_true (by omega)
          have e3 : decide (i < X.length) = true := decide_eq_true hlt
          have e4 : (0 ≤ (i : Int)) = True := eq_true (by omega)
          obtain ⟨T, hT⟩ : ∃ T, rd_T53 X (i : Int) = T := ⟨_, rfl⟩
          have HT : Aside0 (rd_T53 X (i : Int) = T ∧ T ∈ X) := ⟨hT, by rw [← hT]; unfold rd_T53; rw [Int.toNat_natCast, List.getD_eq_getElem?_getD, List.getElem?_eq_getElem hlt]; exact List.getElem_mem hlt⟩
          clear hT
          have HI := Aside0.mk (And.intro hi (And.intro hil hlt))
          clear hi hil
          go_wp2
          clear s0
          go_loopg [8] (T.f1.length + 1) (fun g v8 wy => ∃ j : Nat, v8 = .int .i64 j ∧ j + g = T.f1.length + 1 ∧ j ≤ T.f1.length ∧ Aside0 (Below w4.heap.size w4 wy))
          case atStart => exact ⟨0, rfl, by omega, Nat.zero_le _, HBx⟩
          case round =>
            clear HBx HSx
            obtain ⟨j, rfl, hj, hjl, HBy⟩ := hrel
            rename World => wy
            cases gk with
            | zero => omega
            | succ g2 =>
              have HSy : Aside0 (wy.heap[q]? = some (.cells #[.slice A X.length c] 43 (0, 0))) := ⟨(HBy.out.block q (blk_lt HS4.out)).trans HS4.out⟩
              have s0 := blk_cell HSy.out 0
              have HCy := Aside0.mk (Kd.C_below HC4.out HBy.out)
              obtain ⟨ad, A1, c1, rfl, t0, t1, t2, hC1⟩ := at_T53 HCy.out (i : Int) (by omega) (by omega)
              rw [HT.out.1] at t0 t1 t2 hC1
              rw [Int.toNat_natCast] at t0 t1
              have HC1 := Aside0.mk hC1
              clear hC1
              by_cases hjt : j < T.f1.length
              · have f1 : decide ((j : Int) < (T.f1.length : Int)) = true := decide_eq_true (by omega)
                have f2 : ((j : Int) < (T.f1.length : Int)) = True := eq_true (by omega)
                have f3 : decide (j < T.f1.length) = true := decide_eq_true hjt
                have f4 : (0 ≤ (j : Int)) = True := eq_true (by omega)
                have HSZT : Aside0 (T.f1.length ≤ 9223372036854775807) := ⟨Kd.C_max HC1.out⟩
                obtain ⟨R, hR⟩ : ∃ R, rd_T57 T.f1 (j : Int) = R := ⟨_, rfl⟩
                have HRel : Aside0 (RelOK R) := ⟨HX.out T HT.out.2 R (by rw [← hR]; unfold rd_T57; rw [Int.toNat_natCast, List.getD_eq_getElem?_getD, List.getElem?_eq_getElem hjt]; exact List.getElem_mem hjt)⟩
                obtain ⟨ad1, A2, c2, A3, c3, rfl, r0, r1, r2, r3, r4, r5, r6, hC2, r7, hC3⟩ := at_T57 HC1.out (j : Int) (by omega) (by omega)
                rw [hR] at r0 r1 r2 r3 r4 r5 r6 r7 hC2 hC3
                rw [Int.toNat_natCast] at r0 r1 r2 r3 r4 r5
                have HC3 := Aside0.mk hC3
                have HJ := Aside0.mk (And.intro hj (And.intro hjl hjt))
                clear hR hC2 hC3 r6 r7 hj hjl
                go_wp2
                have HY : Aside0 ((wy.alloc (.cells #[.string R.f0, .string R.f1, .string R.f2, .string R.f3, .slice A2 R.f4.length c2, .slice A3 R.f5.length c3] 57)).heap[wy.heap.size]? = some (.cells #[.string R.f0, .string R.f1, .string R.f2, .string R.f3, .slice A2 R.f4.length c2, .slice A3 R.f5.length c3] 57 (0, 0))) := ⟨(Go.MapKept.heap_alloc wy _).1⟩
                have HCz := Aside0.mk (Kd.C_alloc HC3.out (.cells #[.string R.f0, .string R.f1, .string R.f2, .string R.f3, .slice A2 R.f4.length c2, .slice A3 R.f5.length c3] 57))
                have HBz : Aside0 (Below w4.heap.size w4 (wy.alloc (.cells #[.string R.f0, .string R.f1, .string R.f2, .string R.f3, .slice A2 R.f4.length c2, .slice A3 R.f5.length c3] 57))) := ⟨HBy.out.trans ((below_alloc (Below.refl _ _) _).mono HBy.out.size)⟩
                obtain ⟨wz, hwz⟩ : ∃ wz, wy.alloc (.cells #[.string R.f0, .string R.f1, .string R.f2, .string R.f3, .slice A2 R.f4.length c2, .slice A3 R.f5.length c3] 57) = wz := ⟨_, rfl⟩
                obtain ⟨y, hy⟩ : ∃ y, wy.heap.size = y := ⟨_, rfl⟩
                rw [hwz] at HCz HBz HY ⊢
                rw [hy] at HY ⊢
                clear hwz hy r0 r1 r2 r3 r4 r5 t0 t1 t2 s0 HC3 HSy HCy
                go_loopg [10, 11] (R.f5.length + 1) (fun g v10 v11 wv => ∃ m n : Nat, v10 = .int .i64 n ∧ v11 = .int .i64 m ∧ m + g = R.f5.length + 1 ∧ m ≤ R.f5.length ∧ n ≤ m ∧ Aside0 (stack 0 (R.f5.take m) = some n) ∧ Aside0 (Below wz.heap.size wz wv))
                case atStart => exact ⟨0, 0, rfl, rfl, by omega, Nat.zero_le _, Nat.le_refl _, ⟨rfl⟩, ⟨Below.refl _ _⟩⟩
                case round =>
                  obtain ⟨m, n, rfl, rfl, hm, hml, hnm, HST, HBv⟩ := hrel
                  rename World => wv
                  cases gk with
                  | zero => omega
                  | succ g3 =>
                    have HYv : Aside0 (wv.heap[y]? = some (.cells #[.string R.f0, .string R.f1, .string R.f2, .string R.f3, .slice A2 R.f4.length c2, .slice A3 R.f5.length c3] 57 (0, 0))) := ⟨(HBv.out.block y (blk_lt HY.out)).trans HY.out⟩
                    have u5 := blk_cell HYv.out 5
                    by_cases hmt : m < R.f5.length
                    · have g1' : decide ((m : Int) < (R.f5.length : Int)) = true := decide_eq_true (by omega)
                      have g2' : ((m : Int) < (R.f5.length : Int)) = True := eq_true (by omega)
                      have g3' : decide (m < R.f5.length) = true := decide_eq_true hmt
                      have g4' : (0 ≤ (m : Int)) = True := eq_true (by omega)
                      obtain ⟨o, ho⟩ : ∃ o, rd_T59 R.f5 (m : Int) = o := ⟨_, rfl⟩
                      have hom : R.f5[m]'hmt = o := by rw [← ho]; unfold rd_T59; rw [Int.toNat_natCast, List.getD_eq_getElem?_getD, List.getElem?_eq_getElem hmt]; rfl
                      have hgo : goodO o := HRel.out.2.2.2.2.1 o (by rw [← hom]; exact List.getElem_mem hmt)
                      have hst : stack 0 (R.f5.take (m + 1)) = stack n [o] := by
                        rw [← List.take_append_getElem hmt, stack_append, HST.out, hom]
                        rfl
                      have HSZO : Aside0 (R.f5.length ≤ 9223372036854775807) := ⟨Kd.C_max HCz.out⟩
                      obtain ⟨ad3, rfl, o0, o1, o2⟩ := at_T59 (Kd.C_below HCz.out HBv.out) (m : Int) (by omega) (by omega)
                      rw [ho] at o0 o1 o2
                      rw [Int.toNat_natCast] at o0 o1 o2
                      have hall : ∃ n', stack n [o] = some n' := by
                        have h1 := HRel.out.2.2.2.2.2 0
                        rw [← List.take_append_drop (m + 1) R.f5, stack_append, hst] at h1
                        cases hs : stack n [o] with
                        | none => rw [hs] at h1; exact absurd h1 (by simp)
                        | some n' => exact ⟨n', rfl⟩
                      have hbin : 4 ≤ o.f0 → 2 ≤ n ∧ stack n [o] = some (n - 1) := by
                        intro h4
                        obtain ⟨n', hn'⟩ := hall
                        rw [stack, if_pos h4] at hn'
                        by_cases h2 : n < 2
                        · rw [if_pos h2] at hn'; exact absurd hn' (by simp)
                        · exact ⟨by omega, by rw [stack, if_pos h4, if_neg h2]; rfl⟩
                      have hun : o.f0 < 4 → stack n [o] = some (n + 1) := by
                        intro h4
                        rw [stack, if_neg (by omega)]
                        rfl
                      obtain ⟨g1, g6, gn, gx⟩ := hgo
                      have hw1 : IntKind.i64.wrap ((m : Int) + 1) = ((m + 1 : Nat) : Int) := by have := HSZO.out; rw [IntKind.wrap_i64]; omega
                      have hw2 : IntKind.i64.wrap ((n : Int) + 1) = ((n + 1 : Nat) : Int) := by have := HSZO.out; rw [IntKind.wrap_i64]; omega
                      have hw3 : 2 ≤ n → IntKind.i64.wrap (((n : Int) - 2) + 1) = ((n - 1 : Nat) : Int) := by intro h2; have := HSZO.out; rw [IntKind.wrap_i64]; omega
                      have hw4 : 2 ≤ n → IntKind.i64.wrap ((n : Int) - 2) = (n : Int) - 2 := by intro h2; have := HSZO.out; rw [IntKind.wrap_i64]; omega
                      have e1 := list_nil o.f1
                      have e2 := list_nil o.f2
                      obtain ⟨kd, hkd⟩ : ∃ kd, o.f0 = kd := ⟨_, rfl⟩
                      obtain ⟨nmv, hnm⟩ : ∃ nmv, o.f1 = nmv := ⟨_, rfl⟩
                      obtain ⟨nxv, hnx⟩ : ∃ nxv, o.f2 = nxv := ⟨_, rfl⟩
                      rw [hkd] at g1 g6 gn gx hbin hun o0
                      rw [hnm] at gn e1 o1
                      rw [hnx] at gx e2 o2
                      clear hkd hnm hnx ho hom
                      have HE := Aside0.mk (And.intro hst (And.intro hm (And.intro hml hnm)))
                      clear hst hm hml hnm hall
                      have hsix : kd = 1 ∨ kd = 2 ∨ kd = 3 ∨ kd = 4 ∨ kd = 5 ∨ kd = 6 := by omega
                      clear g1 g6
                      by_cases hb4 : 4 ≤ kd
                      · obtain ⟨hn2, hs2⟩ := hbin hb4
                        have HS2 := Aside0.mk hs2
                        have hw3 := hw3 hn2
                        have hw4 := hw4 hn2
                        have a1 : decide ((n : Int) - 2 < 0) = false := decide_eq_false (by omega)
                        have a2 : ((n : Int) - 2 < 0) = False := eq_false (by omega)
                        have a3 : ((n : Int) < 2) = False := eq_false (by omega)
                        have a4 : decide ((n : Int) < 2) = false := decide_eq_false (by omega)
                        have hn1 : nmv = ⟨#[]⟩ := by
                          by_cases h : nmv = ⟨#[]⟩
                          · exact h
                          · have := gn.mp h; omega
                        have hn3 : nxv = ⟨#[]⟩ := by
                          by_cases h : nxv = ⟨#[]⟩
                          · exact h
                          · have := gx.mp h; omega
                        subst hn1
                        subst hn3
                        have hsix : kd = 4 ∨ kd = 5 ∨ kd = 6 := by omega
                        clear hbin hun hb4 gn gx e1 e2 hw2
                        have HN := Aside0.mk hn2
                        clear hn2
                        rcases hsix with rfl | rfl | rfl
                        all_goals
                          go_wp2
                          go_roundg g3
                          case measure => omega
                          case rel => exact ⟨m + 1, n - 1, rfl, rfl, by have := HE.out.2.1; omega, by omega, by have := HE.out.2.2.2; omega, ⟨by rw [HE.out.1]; exact HS2.out⟩, ⟨HBv.out.trans ((below_alloc (Below.refl _ _) _).mono HBv.out.size)⟩⟩
                      · have hs2 := hun (by omega)
                        have HS2 := Aside0.mk hs2
                        have a1 : decide ((n : Int) < 0) = false := decide_eq_false (by omega)
                        have a2 : ((n : Int) < 0) = False := eq_false (by omega)
                        have hsix : kd = 1 ∨ kd = 2 ∨ kd = 3 := by omega
                        clear hbin hun hb4 hw3 hw4
                        have hn1 : kd = 1 → nmv = ⟨#[]⟩ := by
                          intro h1
                          by_cases h : nmv = ⟨#[]⟩
                          · exact h
                          · have := gn.mp h; omega
                        have hn2 : kd ≠ 1 → nmv ≠ ⟨#[]⟩ := fun h1 => gn.mpr (by omega)
                        have hn3 : kd ≠ 3 → nxv = ⟨#[]⟩ := by
                          intro h1
                          by_cases h : nxv = ⟨#[]⟩
                          · exact h
                          · exact absurd (gx.mp h) h1
                        have hn4 : kd = 3 → nxv ≠ ⟨#[]⟩ := fun h1 => gx.mpr h1
                        clear gn gx e1 e2
                        rcases hsix with h1 | h1 | h1
                        · obtain rfl := hn1 h1
                          obtain rfl := hn3 (by omega)
                          subst h1
                          clear hn1 hn2 hn3 hn4 hs2
                          go_wp2
                          go_roundg g3
                          case measure => omega
                          case rel => exact ⟨m + 1, n + 1, rfl, rfl, by have := HE.out.2.1; omega, by omega, by have := HE.out.2.2.2; omega, ⟨by rw [HE.out.1]; exact HS2.out⟩, ⟨HBv.out.trans ((below_alloc (Below.refl _ _) _).mono HBv.out.size)⟩⟩
                        · obtain ⟨y1, y2⟩ := list_ne (hn2 (by omega))
                          obtain rfl := hn3 (by omega)
                          subst h1
                          clear hn1 hn2 hn3 hn4 hs2
                          go_wp2
                          go_roundg g3
                          case measure => omega
                          case rel => exact ⟨m + 1, n + 1, rfl, rfl, by have := HE.out.2.1; omega, by omega, by have := HE.out.2.2.2; omega, ⟨by rw [HE.out.1]; exact HS2.out⟩, ⟨HBv.out.trans ((below_alloc (Below.refl _ _) _).mono HBv.out.size)⟩⟩
                        · obtain ⟨y1, y2⟩ := list_ne (hn2 (by omega))
                          obtain ⟨y3, y4⟩ := list_ne (hn4 h1)
                          subst h1
                          clear hn1 hn2 hn3 hn4 hs2
                          go_wp2
                          go_roundg g3
                          case measure => omega
                          case rel => exact ⟨m + 1, n + 1, rfl, rfl, by have := HE.out.2.1; omega, by omega, by have := HE.out.2.2.2; omega, ⟨by rw [HE.out.1]; exact HS2.out⟩, ⟨HBv.out.trans ((below_alloc (Below.refl _ _) _).mono HBv.out.size)⟩⟩
                    · have g1' : decide ((m : Int) < (R.f5.length : Int)) = false := decide_eq_false (by omega)
                      have g2' : ((m : Int) < (R.f5.length : Int)) = False := eq_false (by omega)
                      have g3' : decide (m < R.f5.length) = false := decide_eq_false hmt
                      have hn : n = 1 := by
                        have h1 := HST.out
                        rw [List.take_of_length_le (by omega), HRel.out.2.2.2.2.2 0] at h1
                        injection h1 with h1
                        exact h1.symm
                      subst hn
                      have u0 := blk_cell HYv.out 0
                      have u1 := blk_cell HYv.out 1
                      have u2 := blk_cell HYv.out 2
                      have u3 := blk_cell HYv.out 3
                      obtain ⟨x0, x0'⟩ := list_ne HRel.out.1
                      obtain ⟨x1, x1'⟩ := list_ne HRel.out.2.1
                      obtain ⟨x2, x2'⟩ := list_ne HRel.out.2.2.1
                      obtain ⟨x3, x3'⟩ := list_ne HRel.out.2.2.2.1
                      clear hmt hm hml hnm
                      have hw : IntKind.i64.wrap ((j : Int) + 1) = ((j + 1 : Nat) : Int) := by have := HSZT.out; have := HJ.out; rw [IntKind.wrap_i64]; omega
                      go_wp2
                      go_roundg g2
                      case measure => omega
                      case rel => exact ⟨j + 1, by simp, by have := HJ.out; omega, HJ.out.2.2, ⟨HBz.out.trans (HBv.out.mono HBz.out.size)⟩⟩
              · have f1 : decide ((j : Int) < (T.f1.length : Int)) = false := decide_eq_false (by omega)
                have f2 : ((j : Int) < (T.f1.length : Int)) = False := eq_false (by omega)
                have f3 : decide (j < T.f1.length) = false := decide_eq_false hjt
                clear hjt hj hjl
                have hw : IntKind.i64.wrap ((i : Int) + 1) = ((i + 1 : Nat) : Int) := by have := HSZX.out; rw [IntKind.wrap_i64]; omega
                go_wp2
                go_roundg g1
                case measure => omega
                case rel => exact ⟨i + 1, by simp, by have := HI.out; omega, hlt, HBy⟩
        · have e1 : decide ((i : Int) < (X.length : Int)) = false := decide_eq_false (by omega)
          have e2 : ((i : Int) < (X.length : Int)) = False := eq_false (by omega)
          have e3 : decide (i < X.length) = false := decide_eq_false hlt
          clear hlt hi
          go_wp2
          go_ret
          exact ⟨rfl, HB4.out.trans (HBx.out.mono HB4.out.size)⟩
end Go.Proofs.YtkgnhghaiopgcaaDoor.Wk
