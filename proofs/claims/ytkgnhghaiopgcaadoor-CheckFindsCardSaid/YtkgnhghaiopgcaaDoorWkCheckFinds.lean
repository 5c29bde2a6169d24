/- The walk of the law CheckFinds; no condition. -/
import Derived.Test.YtkgnhghaiopgcaaDoorCa
import Derived.Test.YtkgnhghaiopgcaaDoorCl
import Derived.Test.YtkgnhghaiopgcaaDoorRo
set_option linter.unusedVariables false
set_option linter.unusedSimpArgs false
namespace Go.Proofs.YtkgnhghaiopgcaaDoor.Wk
open Go.RowKit Go.Maps Go.Proofs.YtkgnhghaiopgcaaDoorW.PrintWords Go.Proofs.YtkgnhghaiopgcaaDoorW.PrintLast Go.Proofs.YtkgnhghaiopgcaaDoor.X Go.Proofs.YtkgnhghaiopgcaaDoor.Kx Go.Proofs.YtkgnhghaiopgcaaDoor.Gl Go.Proofs.YtkgnhghaiopgcaaDoor.GlFn Go.Proofs.YtkgnhghaiopgcaaDoor.Tk Go.Proofs.YtkgnhghaiopgcaaDoor.Ps Go.Proofs.YtkgnhghaiopgcaaDoor.Pw Go.Proofs.YtkgnhghaiopgcaaDoor.Ck Go.Proofs.YtkgnhghaiopgcaaDoor.Cw Go.Proofs.YtkgnhghaiopgcaaDoor.Cx Go.Proofs.YtkgnhghaiopgcaaDoor.Cl Go.Proofs.YtkgnhghaiopgcaaDoor.Ca Go.Proofs.YtkgnhghaiopgcaaDoor.Ro

theorem ok_sum {X : List ST} (h : ∀ t ∈ X, OkT t) : ∀ t ∈ X, ∀ r ∈ t.f1, t.f0.size + r.f0.size + 1 ≤ 9223372036854775807 := fun t ht r hr => by
  have h1 := (h t ht).1
  have h2 := ((h t ht).2 r hr).1
  simp only [rb] at h1 h2
  omega
set_option maxHeartbeats 16000000 in
set_option maxRecDepth 100000 in
theorem CheckFinds (A : Option Addr) (c : Nat) (X : List ST) (typ rel : ByteArray) (w : World) (hK : Aside0 (Aid.KeysIn w)) (hX : SchRow w A c X) (htyp : typ.size ≤ 140737488351232) (hrelz : rel.size ≤ 140737488351232) :
    Calls Tryd.prog 19 #[.agg #[.slice A X.length c], .string typ, .string rel] w fun e w' => e = .returned (.bool true) ∧ Below w.heap.size w w' := by
  have HC := Aside0.mk hX.hC
  have HL := Aside0.mk hX.hl
  have HZ := Aside0.mk (ok_sum hX.ok)
  have HM : Aside0 (X.length ≤ 9223372036854775807) := ⟨Kd.C_max hX.hC⟩
  obtain ⟨w1, e1, h1, b1, z1, k1⟩ := al1 w #[.slice A X.length c] 43
  have H1 := Aside0.mk h1
  have HB := Aside0.mk b1
  have HW := Aside0.mk e1
  have hcallA := awake_calls w1 ⟨hK.out.go b1⟩
  clear hX htyp hrelz h1 b1 z1 k1 e1
  go_enter Tryd.func19, Tryd.ntmps19
  go_upto_region 1 with (fail)
  rw [HW.out]
  obtain ⟨q, hq⟩ : ∃ q, w.heap.size = q := ⟨_, rfl⟩
  have HQ := Aside0.mk hq
  rw [hq] at H1 ⊢
  clear HW hq
  go_wp2_with fail
  refine hcallA.mono ?_
  rintro e w2 ⟨rfl, hb⟩
  have HS2 := Aside0.mk ((hb.block q (blk_lt H1.out)).trans H1.out)
  have HB2 := Aside0.mk (bel2 HB.out hb)
  clear hb hcallA H1 HB
  have t0 := blk_cell HS2.out 0
  go_wp2_with fail
  refine (few_calls X A c w w2 HB2.out HC.out).mono ?_
  rintro e w3 ⟨fb, rfl, hb⟩
  have HS3 := Aside0.mk ((hb.block q (blk_lt HS2.out)).trans HS2.out)
  have HB3 := Aside0.mk (bel2 HB2.out hb)
  clear hb t0 HS2 HB2
  have t0 := blk_cell HS3.out 0
  go_wp2_with fail
  refine (Check_calls X A c w w3 HB3.out HC.out HL.out HZ.out).mono ?_
  rintro e w5 ⟨rfl, hb⟩
  have HS5 := Aside0.mk ((hb.block q (blk_lt HS3.out)).trans HS3.out)
  have HB5 := Aside0.mk (bel2 HB3.out hb)
  clear hb t0 HS3 HB3
  cases fb with
  | false =>
    go_wp2_with fail
    go_ret
    exact ⟨rfl, HB5.out⟩
  | true =>
  by_cases h0 : (checkX X).1 = 0
  case neg =>
    have n1 : ((checkX X).1 == 0) = false := by simpa using h0
    have n2 : decide ((checkX X).1 = 0) = false := decide_eq_false h0
    have n3 : ((checkX X).1 = 0) = False := eq_false h0
    go_wp2_with fail
    go_ret
    exact ⟨rfl, HB5.out⟩
  case pos =>
  have HRt : Aside0 (Right X) := ⟨h0⟩
  rw [h0]
  clear h0
  go_wp2_with fail
  go_loopg [11, 12] (X.length + 1) (fun gg s11 s12 wr => ∃ (i : Nat) (ti : Bool), s11 = .bool ti ∧ s12 = .int .i64 i ∧ i + gg = X.length + 1 ∧ i ≤ X.length ∧ Aside0 (ti = (X.take i).any (fun t => t.f1.any (thereR typ rel t))) ∧ Aside0 (Below w.heap.size w wr) ∧ Aside0 (wr.heap[q]? = some (.cells #[.slice A X.length c] 43 (0, 0))))
  case atStart => exact ⟨0, false, rfl, rfl, by omega, Nat.zero_le _, ⟨rfl⟩, HB5, HS5⟩
  case round =>
    clear HB5 HS5
    obtain ⟨i, ti, rfl, rfl, hi, hil, HTi, HB1, HS1⟩ := hrel
    rename World => wr
    cases gk with
    | zero => omega
    | succ g1 =>
      have t0 := blk_cell HS1.out 0
      by_cases hlt : i < X.length
      · have e1 : decide ((i : Int) < (X.length : Int)) = true := decide_eq_true (by omega)
        have e2 : ((i : Int) < (X.length : Int)) = True := eq_true (by omega)
        have e3 : decide (i < X.length) = true := decide_eq_true hlt
        have e4 : (0 ≤ (i : Int)) = True := eq_true (by omega)
        have e5 : decide ((i : Int) < 0) = false := decide_eq_false (by omega)
        have e6 : ((i : Int) < 0) = False := eq_false (by omega)
        obtain ⟨T, hT⟩ : ∃ T, rd_T53 X (i : Int) = T := ⟨_, rfl⟩
        have hxi : X[i] = T := by rw [← hT]; unfold rd_T53; rw [Int.toNat_natCast, List.getD_eq_getElem?_getD, List.getElem?_eq_getElem hlt]; rfl
        obtain ⟨ad, A1, c1, rfl, r0, r1, r2, hC1⟩ := at_T53 HC.out (i : Int) (by omega) (by omega)
        rw [hT] at r0 r1 r2 hC1
        rw [Int.toNat_natCast] at r0 r1
        have HN := Aside0.mk r0
        have HT1 := Aside0.mk r1
        have HC1 := Aside0.mk hC1
        have HM1 : Aside0 (T.f1.length ≤ 9223372036854775807) := ⟨Kd.C_max hC1⟩
        have HF : Aside0 (∀ k, ∀ h : k < T.f1.length, findR X T.f0 (T.f1[k]).f0 = some T.f1[k]) := ⟨by subst hxi; exact fun k h => HRt.out.rel hlt h⟩
        have HXi : Aside0 ((X.take (i + 1)).any (fun t => t.f1.any (thereR typ rel t)) = ((X.take i).any (fun t => t.f1.any (thereR typ rel t)) || T.f1.any (thereR typ rel T))) := ⟨by rw [← List.take_append_getElem hlt, List.any_append, hxi]; simp⟩
        have hw : IntKind.i64.wrap ((i : Int) + 1) = ((i + 1 : Nat) : Int) := by have := HM.out; rw [IntKind.wrap_i64]; omega
        have HJ := Aside0.mk (And.intro hi (And.intro hil hlt))
        clear hT hi hil hxi hlt hC1 r0 r1 r2
        go_wp2_with fail
        clear t0
        go_loopg [11, 13] (T.f1.length + 1) (fun gg s11 s13 wy => ∃ (k : Nat) (tk : Bool), s11 = .bool tk ∧ s13 = .int .i64 k ∧ k + gg = T.f1.length + 1 ∧ k ≤ T.f1.length ∧ Aside0 (tk = ((X.take i).any (fun t => t.f1.any (thereR typ rel t)) || (T.f1.take k).any (thereR typ rel T))) ∧ Aside0 (Below w.heap.size w wy) ∧ Aside0 (wy.heap[q]? = some (.cells #[.slice (some ad) X.length c] 43 (0, 0))))
        case atStart => exact ⟨0, ti, rfl, rfl, by omega, Nat.zero_le _, ⟨by rw [HTi.out]; simp⟩, HB1, HS1⟩
        case round =>
          clear HB1 HS1
          obtain ⟨k, tk, rfl, rfl, hk, hkl, HTk, HB3, HS3⟩ := hrel
          rename World => wy
          cases gk with
          | zero => omega
          | succ g2 =>
            have t0 := blk_cell HS3.out 0
            have r0 := pw_cell_below HB3.out HN.out
            have r1 := pw_cell_below HB3.out HT1.out
            by_cases hkt : k < T.f1.length
            · have f1 : decide ((k : Int) < (T.f1.length : Int)) = true := decide_eq_true (by omega)
              have f2 : ((k : Int) < (T.f1.length : Int)) = True := eq_true (by omega)
              have f3 : decide (k < T.f1.length) = true := decide_eq_true hkt
              have f4 : (0 ≤ (k : Int)) = True := eq_true (by omega)
              have f5 : decide ((k : Int) < 0) = false := decide_eq_false (by omega)
              have f6 : ((k : Int) < 0) = False := eq_false (by omega)
              obtain ⟨R, hR⟩ : ∃ R, rd_T57 T.f1 (k : Int) = R := ⟨_, rfl⟩
              have hxk' : T.f1[k] = R := by rw [← hR]; unfold rd_T57; rw [Int.toNat_natCast, List.getD_eq_getElem?_getD, List.getElem?_eq_getElem hkt]; rfl
              have hfd : findR X T.f0 R.f0 = some R := by have := HF.out k hkt; rw [hxk'] at this; exact this
              obtain ⟨ad1, A2, c2, A3, c3, rfl, u0, u1, u2, u3, u4, u5, u6, hC2, u7, hC3⟩ := at_T57 HC1.out (k : Int) (by omega) (by omega)
              rw [hR, Int.toNat_natCast] at u0 u1 u2 u3 u4 u5
              replace u0 := pw_cell_below HB3.out u0
              replace u1 := pw_cell_below HB3.out u1
              replace u2 := pw_cell_below HB3.out u2
              replace u3 := pw_cell_below HB3.out u3
              replace u4 := pw_cell_below HB3.out u4
              replace u5 := pw_cell_below HB3.out u5
              have hcall : ∀ W, Below w.heap.size w W → Calls Tryd.prog 43 #[.agg #[.slice (some ad) X.length c], .string T.f0, .string R.f0] W fun e w' => ∃ a k b l, e = .returned (.tuple #[.agg #[.string R.f0, .string R.f1, .string R.f2, .string R.f3, .slice a R.f4.length k, .slice b R.f5.length l], .bool true]) ∧ Below W.heap.size W w' := fun W hW => by
                have h := Find_calls X T.f0 R.f0 (some ad) c w W hW HC.out
                rw [show findV X T.f0 R.f0 = R by unfold findV; rw [hfd]; rfl, hfd] at h
                exact h.mono fun e w' hh => by obtain ⟨v, h1, ⟨a, k, b, l, h2, _⟩, h3⟩ := hh; exact ⟨a, k, b, l, by rw [h1, h2]; rfl, h3⟩
              have HTK : Aside0 (T.f1.take (k + 1) = T.f1.take k ++ [R]) := ⟨by rw [← List.take_append_getElem hkt, hxk']⟩
              have hwk : IntKind.i64.wrap ((k : Int) + 1) = ((k + 1 : Nat) : Int) := by have := HM1.out; rw [IntKind.wrap_i64]; omega
              have HK := Aside0.mk (And.intro hk (And.intro hkl hkt))
              obtain ⟨w4, e9, h9, b9, z9, k9⟩ := al1 wy #[.string R.f0, .string R.f1, .string R.f2, .string R.f3, .slice A2 R.f4.length c2, .slice A3 R.f5.length c3] 57
              have HYv := Aside0.mk h9
              have HSv := Aside0.mk (k9 _ _ HS3.out)
              have HBv := Aside0.mk (bel2 HB3.out b9)
              have HW := Aside0.mk e9
              clear hR hk hkl hkt hxk' hfd h9 b9 z9 k9 e9 u6 u7 hC2 hC3
              go_upto_region 16 with (fail)
              rw [HW.out]
              obtain ⟨y, hy⟩ : ∃ y, wy.heap.size = y := ⟨_, rfl⟩
              rw [hy] at HYv ⊢
              clear HW hy u0 u1 u2 u3 u4 u5 HS3 HB3 t0 r0 r1
              have HBd : Aside0 (Below w.heap.size w w4.drew) := ⟨HBv.out.drew⟩
              have HSd : Aside0 (w4.drew.heap[q]? = some (.cells #[.slice (some ad) X.length c] 43 (0, 0))) := ⟨HSv.out⟩
              have HYd : Aside0 (w4.drew.heap[y]? = some (.cells #[.string R.f0, .string R.f1, .string R.f2, .string R.f3, .slice A2 R.f4.length c2, .slice A3 R.f5.length c3] 57 (0, 0))) := ⟨HYv.out⟩
              have HNd : Aside0 (w4.drew.cell? (ad.add (i * 2)) = some (.string T.f0)) := ⟨pw_cell_below HBd.out HN.out⟩
              clear HBv HSv HYv
              refine start_ (n := 16) (S := fun w' => w'.cell? ⟨q, 0, none⟩ = some (.slice (some ad) X.length c) ∧ w'.cell? (ad.add (i * 2)) = some (.string T.f0) ∧ w'.cell? ⟨y, 0, none⟩ = some (.string R.f0)) (ds := [14]) #[false, false, false, false, false, false, false, false, false, false, false, false, false, false, false, false] (by kernel_rfl) rfl rfl ⟨blk_cell HSd.out 0, HNd.out, blk_cell HYd.out 0⟩ (fun hHeld => ?_)
              generalize w4.drew = w7 at HBd HSd HNd HYd hHeld ⊢
              refine pure_ (i := 1) (N := some 64) (v := ?_) (a' := ?_) #[false, true, false, false, false, false, false, false, false, false, false, false, false, false, false, false] rfl rfl (by kernel_rfl) (fun _ _ _ h => h) (Or.inl ⟨by rfl, ?_⟩) ?_ ?_
              rotate_left
              · intro w'
                go_simp
                with_reducible rfl
              rotate_left
              · simp only [Act.put, List.setIfInBounds_toArray, List.set_cons_zero, List.set_cons_succ, i64_w, i32_w]
                rfl
              refine pure_ (i := 3) (N := some 66) (v := ?_) (a' := ?_) #[false, true, false, true, false, false, false, false, false, false, false, false, false, false, false, false] rfl rfl (by kernel_rfl) (fun _ _ _ h => h) (Or.inl ⟨by rfl, ?_⟩) ?_ ?_
              rotate_left
              · intro w'
                go_simp
                with_reducible rfl
              rotate_left
              · simp only [Act.put, List.setIfInBounds_toArray, List.set_cons_zero, List.set_cons_succ, i64_w, i32_w]
                rfl
              refine pure_ (i := 7) (N := some 70) (v := ?_) (a' := ?_) #[false, true, false, true, false, false, false, true, false, false, false, false, false, false, false, false] rfl rfl (by kernel_rfl) (fun _ _ _ h => h) (Or.inl ⟨by rfl, ?_⟩) ?_ ?_
              rotate_left
              · intro w'
                go_simp
                with_reducible rfl
              rotate_left
              · simp only [Act.put, List.setIfInBounds_toArray, List.set_cons_zero, List.set_cons_succ, i64_w, i32_w]
                rfl
              refine take_ (i := 0) (N := some 63) (v := ?_) (a' := ?_) #[true, true, false, true, false, false, false, true, false, false, false, false, false, false, false, false] rfl rfl (by kernel_rfl) (fun _ _ _ h => h) (Or.inl ⟨by rfl, ?_⟩) hHeld ?_ ?_
              rotate_left
              · rintro w' ⟨s0, s1, s2⟩
                go_simp
                with_reducible rfl
              rotate_left
              · simp only [Act.put, List.setIfInBounds_toArray, List.set_cons_zero, List.set_cons_succ, i64_w, i32_w]
                rfl
              refine take_ (i := 2) (N := some 65) (v := ?_) (a' := ?_) #[true, true, true, true, false, false, false, true, false, false, false, false, false, false, false, false] rfl rfl (by kernel_rfl) (fun _ _ _ h => h) (Or.inl ⟨by rfl, ?_⟩) hHeld ?_ ?_
              rotate_left
              · rintro w' ⟨s0, s1, s2⟩
                go_simp
                with_reducible rfl
              rotate_left
              · simp only [Act.put, List.setIfInBounds_toArray, List.set_cons_zero, List.set_cons_succ, i64_w, i32_w]
                rfl
              refine pure_ (i := 4) (N := some 67) (v := ?_) (a' := ?_) #[true, true, true, true, true, false, false, true, false, false, false, false, false, false, false, false] rfl rfl (by kernel_rfl) (fun _ _ _ h => h) (Or.inl ⟨by rfl, ?_⟩) ?_ ?_
              rotate_left
              · intro w'
                go_simp
                with_reducible rfl
              rotate_left
              · simp only [Act.put, List.setIfInBounds_toArray, List.set_cons_zero, List.set_cons_succ, i64_w, i32_w]
                rfl
              refine pure_ (i := 5) (N := some 68) (v := ?_) (a' := ?_) #[true, true, true, true, true, true, false, true, false, false, false, false, false, false, false, false] rfl rfl (by kernel_rfl) (fun _ _ _ h => h) (Or.inl ⟨by rfl, ?_⟩) ?_ ?_
              rotate_left
              · intro w'
                go_simp
                with_reducible rfl
              rotate_left
              · simp only [Act.put, List.setIfInBounds_toArray, List.set_cons_zero, List.set_cons_succ, i64_w, i32_w]
                rfl
              refine take_ (i := 6) (N := some 69) (v := ?_) (a' := ?_) #[true, true, true, true, true, true, true, true, false, false, false, false, false, false, false, false] rfl rfl (by kernel_rfl) (fun _ _ _ h => h) (Or.inl ⟨by rfl, ?_⟩) hHeld ?_ ?_
              rotate_left
              · rintro w' ⟨s0, s1, s2⟩
                go_simp
                with_reducible rfl
              rotate_left
              · simp only [Act.put, List.setIfInBounds_toArray, List.set_cons_zero, List.set_cons_succ, i64_w, i32_w]
                rfl
              refine take_ (i := 8) (N := some 71) (v := ?_) (a' := ?_) #[true, true, true, true, true, true, true, true, true, false, false, false, false, false, false, false] rfl rfl (by kernel_rfl) (fun _ _ _ h => h) (Or.inl ⟨by rfl, ?_⟩) hHeld ?_ ?_
              rotate_left
              · rintro w' ⟨s0, s1, s2⟩
                go_simp
                with_reducible rfl
              rotate_left
              · simp only [Act.put, List.setIfInBounds_toArray, List.set_cons_zero, List.set_cons_succ, i64_w, i32_w]
                rfl
              refine join_ (σ := Nat × Option Addr × Nat × Option Addr × Nat) 2 #[true, true, true, true, true, true, true, true, true, true, true, true, true, true, false, false] (fun s => [(72, .tuple #[.agg #[.string R.f0, .string R.f1, .string R.f2, .string R.f3, .slice s.2.1 R.f4.length s.2.2.1, .slice s.2.2.2.1 R.f5.length s.2.2.2.2], .bool true]), (62, .tuple #[.agg #[.string R.f0, .string R.f1, .string R.f2, .string R.f3, .slice s.2.1 R.f4.length s.2.2.1, .slice s.2.2.2.1 R.f5.length s.2.2.2.2], .bool true]), (73, .agg #[.string R.f0, .string R.f1, .string R.f2, .string R.f3, .slice s.2.1 R.f4.length s.2.2.1, .slice s.2.2.2.1 R.f5.length s.2.2.2.2]), (74, .bool true), (15, .pointer (some ⟨s.1, 0, none⟩))]) (fun s w' => (w'.cell? ⟨q, 0, none⟩ = some (.slice (some ad) X.length c) ∧ w'.cell? (ad.add (i * 2)) = some (.string T.f0) ∧ w'.cell? ⟨y, 0, none⟩ = some (.string R.f0)) ∧ Below w7.heap.size w7 w' ∧ w7.heap.size ≤ s.1 ∧ w'.heap[s.1]? = some (.cells #[.string ⟨#[]⟩, .string ⟨#[]⟩, .string ⟨#[]⟩, .string ⟨#[]⟩, .slice none 0 0, .slice none 0 0] 57 (0, 0))) ?_ ?_
              rotate_left
              · intro hCont
                refine two_ (i := 9) (j := 13) (Ni := some 72) (Nj := some 15) #[true, true, true, true, true, true, true, true, true, true, false, false, false, false, false, false] #[true, true, true, true, true, true, true, true, true, false, false, false, false, true, false, false] rfl rfl rfl rfl (by kernel_rfl) (by decide) (by decide) (fun K hK => ?_) (fun K hK => ?_)
                · skip
                  refine goes_ Tryd.func43 (by kernel_rfl) rfl #[.agg #[.slice (some ad) X.length c], .string T.f0, .string R.f0] (by rfl) rfl rfl (by simp only [List.map_toArray, List.map_cons, List.map_nil]; rfl) ?_
                  refine (hcall _ (HBd.out)).mono ?_
                  rintro e w8 ⟨av, kv, bv, lv, rfl, hb7⟩
                  refine ⟨_, rfl, ?_⟩
                  refine hK.out _ _ ⟨pw_cell_below hb7 hHeld.1, pw_cell_below hb7 hHeld.2.1, pw_cell_below hb7 hHeld.2.2⟩ (fun hHeld => ?_)
                  clear hK K
                  refine norm_ (a' := ?_) ?_ ?_
                  rotate_left
                  · show Act.put _ (some 72) _ = _
                    simp only [Act.put, List.setIfInBounds_toArray, List.set_cons_zero, List.set_cons_succ, i64_w, i32_w]
                    rfl
                  refine pure_ (i := 10) (N := some 62) (v := ?_) (a' := ?_) #[true, true, true, true, true, true, true, true, true, true, true, false, false, false, false, false] rfl rfl (by kernel_rfl) (fun _ _ _ h => h) (Or.inl ⟨by rfl, ?_⟩) ?_ ?_
                  rotate_left
                  · intro w'
                    go_simp
                    with_reducible rfl
                  rotate_left
                  · simp only [Act.put, List.setIfInBounds_toArray, List.set_cons_zero, List.set_cons_succ, i64_w, i32_w]
                    rfl
                  refine pure_ (i := 11) (N := some 73) (v := ?_) (a' := ?_) #[true, true, true, true, true, true, true, true, true, true, true, true, false, false, false, false] rfl rfl (by kernel_rfl) (fun _ _ _ h => h) (Or.inl ⟨by rfl, ?_⟩) ?_ ?_
                  rotate_left
                  · intro w'
                    go_simp
                    with_reducible rfl
                  rotate_left
                  · simp only [Act.put, List.setIfInBounds_toArray, List.set_cons_zero, List.set_cons_succ, i64_w, i32_w]
                    rfl
                  refine pure_ (i := 12) (N := some 74) (v := ?_) (a' := ?_) #[true, true, true, true, true, true, true, true, true, true, true, true, true, false, false, false] rfl rfl (by kernel_rfl) (fun _ _ _ h => h) (Or.inl ⟨by rfl, ?_⟩) ?_ ?_
                  rotate_left
                  · intro w'
                    go_simp
                    with_reducible rfl
                  rotate_left
                  · simp only [Act.put, List.setIfInBounds_toArray, List.set_cons_zero, List.set_cons_succ, i64_w, i32_w]
                    rfl
                  refine one_ (i := 13) (N := some 15) #[true, true, true, true, true, true, true, true, true, true, true, true, true, true, false, false] rfl rfl (by kernel_rfl) (by decide) (fun K hK => ?_)
                  refine value_ (w1 := ?_) (v := ?_) (by rfl) rfl ?_ ?_
                  rotate_left 2
                  · go_simp
                    constructor
                    · rfl
                    · rfl
                  refine hK.out _ _ ⟨(World.cell?_alloc_lt _ _ _ (World.block_lt_of_cell? _ _ (hHeld.1))).trans (hHeld.1), (World.cell?_alloc_lt _ _ _ (World.block_lt_of_cell? _ _ (hHeld.2.1))).trans (hHeld.2.1), (World.cell?_alloc_lt _ _ _ (World.block_lt_of_cell? _ _ (hHeld.2.2))).trans (hHeld.2.2)⟩ (fun hHeld => ?_)
                  clear hK K
                  refine norm_ (a' := ?_) ?_ ?_
                  rotate_left
                  · show Act.put _ (some 15) _ = _
                    simp only [Act.put, List.setIfInBounds_toArray, List.set_cons_zero, List.set_cons_succ, i64_w, i32_w]
                    rfl
                  exact norm_ (by simp only [putAll, Act.put, List.setIfInBounds_toArray, List.set_cons_zero, List.set_cons_succ]) (hCont ⟨w8.heap.size, av, kv, bv, lv⟩ _ ⟨hHeld, bel2 hb7 (below_alloc (Below.refl _ _) _), hb7.size, (Go.MapKept.heap_alloc w8 _).1⟩)
                · skip
                  refine value_ (w1 := ?_) (v := ?_) (by rfl) rfl ?_ ?_
                  rotate_left 2
                  · go_simp
                    constructor
                    · rfl
                    · rfl
                  refine hK.out _ _ ⟨(World.cell?_alloc_lt _ _ _ (World.block_lt_of_cell? _ _ (hHeld.1))).trans (hHeld.1), (World.cell?_alloc_lt _ _ _ (World.block_lt_of_cell? _ _ (hHeld.2.1))).trans (hHeld.2.1), (World.cell?_alloc_lt _ _ _ (World.block_lt_of_cell? _ _ (hHeld.2.2))).trans (hHeld.2.2)⟩ (fun hHeld => ?_)
                  clear hK K
                  refine norm_ (a' := ?_) ?_ ?_
                  rotate_left
                  · show Act.put _ (some 15) _ = _
                    simp only [Act.put, List.setIfInBounds_toArray, List.set_cons_zero, List.set_cons_succ, i64_w, i32_w]
                    rfl
                  refine one_ (i := 9) (N := some 72) #[true, true, true, true, true, true, true, true, true, true, false, false, false, true, false, false] rfl rfl (by kernel_rfl) (by decide) (fun K hK => ?_)
                  refine goes_ Tryd.func43 (by kernel_rfl) rfl #[.agg #[.slice (some ad) X.length c], .string T.f0, .string R.f0] (by rfl) rfl rfl (by simp only [List.map_toArray, List.map_cons, List.map_nil]; rfl) ?_
                  refine (hcall _ (bel2 HBd.out (below_alloc (Below.refl _ _) _))).mono ?_
                  rintro e w8 ⟨av, kv, bv, lv, rfl, hb7⟩
                  refine ⟨_, rfl, ?_⟩
                  refine hK.out _ _ ⟨pw_cell_below hb7 hHeld.1, pw_cell_below hb7 hHeld.2.1, pw_cell_below hb7 hHeld.2.2⟩ (fun hHeld => ?_)
                  clear hK K
                  refine norm_ (a' := ?_) ?_ ?_
                  rotate_left
                  · show Act.put _ (some 72) _ = _
                    simp only [Act.put, List.setIfInBounds_toArray, List.set_cons_zero, List.set_cons_succ, i64_w, i32_w]
                    rfl
                  refine pure_ (i := 10) (N := some 62) (v := ?_) (a' := ?_) #[true, true, true, true, true, true, true, true, true, true, true, false, false, true, false, false] rfl rfl (by kernel_rfl) (fun _ _ _ h => h) (Or.inl ⟨by rfl, ?_⟩) ?_ ?_
                  rotate_left
                  · intro w'
                    go_simp
                    with_reducible rfl
                  rotate_left
                  · simp only [Act.put, List.setIfInBounds_toArray, List.set_cons_zero, List.set_cons_succ, i64_w, i32_w]
                    rfl
                  refine pure_ (i := 11) (N := some 73) (v := ?_) (a' := ?_) #[true, true, true, true, true, true, true, true, true, true, true, true, false, true, false, false] rfl rfl (by kernel_rfl) (fun _ _ _ h => h) (Or.inl ⟨by rfl, ?_⟩) ?_ ?_
                  rotate_left
                  · intro w'
                    go_simp
                    with_reducible rfl
                  rotate_left
                  · simp only [Act.put, List.setIfInBounds_toArray, List.set_cons_zero, List.set_cons_succ, i64_w, i32_w]
                    rfl
                  refine pure_ (i := 12) (N := some 74) (v := ?_) (a' := ?_) #[true, true, true, true, true, true, true, true, true, true, true, true, true, true, false, false] rfl rfl (by kernel_rfl) (fun _ _ _ h => h) (Or.inl ⟨by rfl, ?_⟩) ?_ ?_
                  rotate_left
                  · intro w'
                    go_simp
                    with_reducible rfl
                  rotate_left
                  · simp only [Act.put, List.setIfInBounds_toArray, List.set_cons_zero, List.set_cons_succ, i64_w, i32_w]
                    rfl
                  exact norm_ (by simp only [putAll, Act.put, List.setIfInBounds_toArray, List.set_cons_zero, List.set_cons_succ]) (hCont ⟨w7.heap.size, av, kv, bv, lv⟩ _ ⟨hHeld, bel2 (below_alloc (Below.refl _ _) _) hb7, Nat.le_refl _, (hb7.block _ (by simp)).trans (Go.MapKept.heap_alloc w7 _).1⟩)
              rintro ⟨m, av, kv, bv, lv⟩ w8 ⟨hHeld, hb8, hm8, hz8⟩
              dsimp only at hm8 hz8
              have fz0 := blk_frozen hz8 0
              have fz1 := blk_frozen hz8 1
              have fz2 := blk_frozen hz8 2
              have fz3 := blk_frozen hz8 3
              have fz4 := blk_frozen hz8 4
              have fz5 := blk_frozen hz8 5
              have cz0 := blk_cell hz8 0
              have cz1 := blk_cell hz8 1
              have cz2 := blk_cell hz8 2
              have cz3 := blk_cell hz8 3
              have cz4 := blk_cell hz8 4
              have cz5 := blk_cell hz8 5
              refine norm_ (a' := ?_) ?_ ?_
              rotate_left
              · simp only [putAll, Act.put, List.setIfInBounds_toArray, List.set_cons_zero, List.set_cons_succ]
                rfl
              refine last_ (i := 14) (N := none) #[true, true, true, true, true, true, true, true, true, true, true, true, true, true, true, false] rfl rfl (by kernel_rfl) (by decide) (fun K hK => ?_)
              refine skip_ (w1 := ?_) (by rfl) rfl ?_ ?_
              rotate_left
              · go_simp
                rfl
              refine hK.out _ _ ?_
              clear hK K
              refine pure_ (i := 15) (N := some 16) (v := ?_) (a' := ?_) #[true, true, true, true, true, true, true, true, true, true, true, true, true, true, true, true] rfl rfl (by kernel_rfl) (fun _ _ _ h => h) (Or.inl ⟨by rfl, ?_⟩) ?_ ?_
              rotate_left
              · intro w'
                go_simp
                with_reducible rfl
              rotate_left
              · simp only [Act.put, List.setIfInBounds_toArray, List.set_cons_zero, List.set_cons_succ, i64_w, i32_w]
                rfl
              refine done_ (by kernel_rfl) ?_
              have hpq : q < w7.heap.size ∧ y < w7.heap.size := ⟨blk_lt HSd.out, blk_lt HYd.out⟩
              have HZz := Aside0.mk (blk_set (blk_set (blk_set (blk_set (blk_set (blk_set hz8 0 (.string R.f0)) 1 (.string R.f1)) 2 (.string R.f2)) 3 (.string R.f3)) 4 (.slice av R.f4.length kv)) 5 (.slice bv R.f5.length lv))
              have HBz : Aside0 (Below w.heap.size w ((((((w8.setCell ⟨m, 0, none⟩ (.string R.f0)).setCell ⟨m, 1, none⟩ (.string R.f1)).setCell ⟨m, 2, none⟩ (.string R.f2)).setCell ⟨m, 3, none⟩ (.string R.f3)).setCell ⟨m, 4, none⟩ (.slice av R.f4.length kv)).setCell ⟨m, 5, none⟩ (.slice bv R.f5.length lv))) := ⟨(below_set (below_set (below_set (below_set (below_set (below_set (bel2 HBd.out hb8) (by have := HBd.out.size; show w.heap.size ≤ m; omega)) (by have := HBd.out.size; show w.heap.size ≤ m; omega)) (by have := HBd.out.size; show w.heap.size ≤ m; omega)) (by have := HBd.out.size; show w.heap.size ≤ m; omega)) (by have := HBd.out.size; show w.heap.size ≤ m; omega)) (by have := HBd.out.size; show w.heap.size ≤ m; omega))⟩
              have HSz : Aside0 (((((((w8.setCell ⟨m, 0, none⟩ (.string R.f0)).setCell ⟨m, 1, none⟩ (.string R.f1)).setCell ⟨m, 2, none⟩ (.string R.f2)).setCell ⟨m, 3, none⟩ (.string R.f3)).setCell ⟨m, 4, none⟩ (.slice av R.f4.length kv)).setCell ⟨m, 5, none⟩ (.slice bv R.f5.length lv)).heap[q]? = some (.cells #[.slice (some ad) X.length c] 43 (0, 0))) := ⟨(Below.heap_setCell _ ⟨m, 5, none⟩ _ q (show q ≠ m by omega)).trans ((Below.heap_setCell _ ⟨m, 4, none⟩ _ q (show q ≠ m by omega)).trans ((Below.heap_setCell _ ⟨m, 3, none⟩ _ q (show q ≠ m by omega)).trans ((Below.heap_setCell _ ⟨m, 2, none⟩ _ q (show q ≠ m by omega)).trans ((Below.heap_setCell _ ⟨m, 1, none⟩ _ q (show q ≠ m by omega)).trans ((Below.heap_setCell _ ⟨m, 0, none⟩ _ q (show q ≠ m by omega)).trans ((hb8.block q hpq.1).trans HSd.out))))))⟩
              have HYz : Aside0 (((((((w8.setCell ⟨m, 0, none⟩ (.string R.f0)).setCell ⟨m, 1, none⟩ (.string R.f1)).setCell ⟨m, 2, none⟩ (.string R.f2)).setCell ⟨m, 3, none⟩ (.string R.f3)).setCell ⟨m, 4, none⟩ (.slice av R.f4.length kv)).setCell ⟨m, 5, none⟩ (.slice bv R.f5.length lv)).heap[y]? = some (.cells #[.string R.f0, .string R.f1, .string R.f2, .string R.f3, .slice A2 R.f4.length c2, .slice A3 R.f5.length c3] 57 (0, 0))) := ⟨(Below.heap_setCell _ ⟨m, 5, none⟩ _ y (show y ≠ m by omega)).trans ((Below.heap_setCell _ ⟨m, 4, none⟩ _ y (show y ≠ m by omega)).trans ((Below.heap_setCell _ ⟨m, 3, none⟩ _ y (show y ≠ m by omega)).trans ((Below.heap_setCell _ ⟨m, 2, none⟩ _ y (show y ≠ m by omega)).trans ((Below.heap_setCell _ ⟨m, 1, none⟩ _ y (show y ≠ m by omega)).trans ((Below.heap_setCell _ ⟨m, 0, none⟩ _ y (show y ≠ m by omega)).trans ((hb8.block y hpq.2).trans HYd.out))))))⟩
              obtain ⟨wz, hwz⟩ : ∃ wz, (((((w8.setCell ⟨m, 0, none⟩ (.string R.f0)).setCell ⟨m, 1, none⟩ (.string R.f1)).setCell ⟨m, 2, none⟩ (.string R.f2)).setCell ⟨m, 3, none⟩ (.string R.f3)).setCell ⟨m, 4, none⟩ (.slice av R.f4.length kv)).setCell ⟨m, 5, none⟩ (.slice bv R.f5.length lv) = wz := ⟨_, rfl⟩
              rw [hwz] at HZz HBz HSz HYz ⊢
              clear hwz hpq hb8 hm8 hz8 fz0 fz1 fz2 fz3 fz4 fz5 cz0 cz1 cz2 cz3 cz4 cz5 HBd HSd HYd HNd
              have y0 := blk_cell HYz.out 0
              have y1 := blk_cell HYz.out 1
              have y2 := blk_cell HYz.out 2
              have y3 := blk_cell HYz.out 3
              have y4 := blk_cell HYz.out 4
              have y5 := blk_cell HYz.out 5
              have x0 := blk_cell HZz.out 0
              have x1 := blk_cell HZz.out 1
              have x2 := blk_cell HZz.out 2
              have x3 := blk_cell HZz.out 3
              have x4 := blk_cell HZz.out 4
              have x5 := blk_cell HZz.out 5
              have t0 := blk_cell HSz.out 0
              have n0 := pw_cell_below HBz.out HN.out
              cases hth : tk with
              | true =>
                have HTh2 : Aside0 (true = ((X.take i).any (fun t => t.f1.any (thereR typ rel t)) || (T.f1.take k).any (thereR typ rel T))) := ⟨by rw [← HTk.out, hth]⟩
                subst hth
                go_wp2_with fail
                go_roundg g2
                case measure => omega
                case rel => exact ⟨k + 1, true, rfl, by simp, by have := HK.out; omega, HK.out.2.2, ⟨by rw [HTK.out, List.any_append, ← Bool.or_assoc, ← HTh2.out]; rfl⟩, HBz, HSz⟩
              | false =>
                have HTh2 : Aside0 (false = ((X.take i).any (fun t => t.f1.any (thereR typ rel t)) || (T.f1.take k).any (thereR typ rel T))) := ⟨by rw [← HTk.out, hth]⟩
                subst hth
                cases hq1 : (T.f0.toList == typ.toList) with
                | false =>
                  go_wp2_with fail
                  go_roundg g2
                  case measure => omega
                  case rel => exact ⟨k + 1, false, rfl, by simp, by have := HK.out; omega, HK.out.2.2, ⟨by rw [HTK.out, List.any_append, ← Bool.or_assoc, ← HTh2.out]; simp [thereR, hq1]⟩, HBz, HSz⟩
                | true =>
                  cases hq2 : (R.f0.toList == rel.toList) with
                  | false =>
                    go_wp2_with fail
                    go_roundg g2
                    case measure => omega
                    case rel => exact ⟨k + 1, false, rfl, by simp, by have := HK.out; omega, HK.out.2.2, ⟨by rw [HTK.out, List.any_append, ← Bool.or_assoc, ← HTh2.out]; simp [thereR, hq1, hq2]⟩, HBz, HSz⟩
                  | true =>
                    go_wp2_with fail
                    go_roundg g2
                    case measure => omega
                    case rel => exact ⟨k + 1, true, rfl, by simp, by have := HK.out; omega, HK.out.2.2, ⟨by rw [HTK.out, List.any_append, ← Bool.or_assoc, ← HTh2.out]; simp [thereR, hq1, hq2]⟩, HBz, HSz⟩
            · have f1 : decide ((k : Int) < (T.f1.length : Int)) = false := decide_eq_false (by omega)
              have f2 : ((k : Int) < (T.f1.length : Int)) = False := eq_false (by omega)
              have f3 : decide (k < T.f1.length) = false := decide_eq_false hkt
              have HTe : Aside0 (tk = (X.take (i + 1)).any (fun t => t.f1.any (thereR typ rel t))) := ⟨by rw [HTk.out, HXi.out, show T.f1.take k = T.f1 from List.take_of_length_le (by omega)]⟩
              clear hkt hk hkl
              go_wp2_with fail
              go_roundg g1
              case measure => omega
              case rel => exact ⟨i + 1, tk, rfl, by simp, by have := HJ.out; omega, HJ.out.2.2, HTe, HB3, HS3⟩
      · have e1 : decide ((i : Int) < (X.length : Int)) = false := decide_eq_false (by omega)
        have e2 : ((i : Int) < (X.length : Int)) = False := eq_false (by omega)
        have e3 : decide (i < X.length) = false := decide_eq_false hlt
        have hth : (findR X typ rel).isSome = ti := by rw [HRt.out.there, HTi.out, show X.take i = X from List.take_of_length_le (by omega)]
        clear hlt hi hil HTi
        go_wp2_with fail
        refine (Find_calls X typ rel A c w wr HB1.out HC.out).mono ?_
        rintro e w9 ⟨v, rfl, ⟨A4, k4, A5, k5, rfl, hC2, hC3, hl2, hl3⟩, hb⟩
        rw [hth]
        obtain ⟨Q, hQ⟩ : ∃ Q, findV X typ rel = Q := ⟨_, rfl⟩
        rw [hQ]
        have HBe : Aside0 (Below w.heap.size w (w9.alloc (.cells #[.string Q.f0, .string Q.f1, .string Q.f2, .string Q.f3, .slice A4 Q.f4.length k4, .slice A5 Q.f5.length k5] 57))) := ⟨bel2 (bel2 HB1.out hb) (below_alloc (Below.refl _ _) _)⟩
        clear hth hQ hb hC2 hC3 hl2 hl3 t0
        go_wp2_with fail
        go_ret
        exact ⟨by simp, HBe.out⟩
end Go.Proofs.YtkgnhghaiopgcaaDoor.Wk
