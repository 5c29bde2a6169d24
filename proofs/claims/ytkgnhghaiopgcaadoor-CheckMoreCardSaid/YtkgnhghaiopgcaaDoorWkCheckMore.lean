/- The walk of the law CheckMore; no condition. -/
import Derived.Test.YtkgnhghaiopgcaaDoorCa
import Derived.Test.YtkgnhghaiopgcaaDoorCr
import Derived.Test.YtkgnhghaiopgcaaDoorRb
import Derived.Test.YtkgnhghaiopgcaaDoorRa
import Derived.Test.YtkgnhghaiopgcaaDoorRo
set_option linter.unusedVariables false
set_option linter.unusedSimpArgs false
namespace Go.Proofs.YtkgnhghaiopgcaaDoor.Wk
open Go.RowKit Go.Maps Go.Proofs.YtkgnhghaiopgcaaDoorW.PrintWords Go.Proofs.YtkgnhghaiopgcaaDoorW.PrintLast Go.Proofs.YtkgnhghaiopgcaaDoor.X Go.Proofs.YtkgnhghaiopgcaaDoor.Kx Go.Proofs.YtkgnhghaiopgcaaDoor.Gl Go.Proofs.YtkgnhghaiopgcaaDoor.GlFn Go.Proofs.YtkgnhghaiopgcaaDoor.Tk Go.Proofs.YtkgnhghaiopgcaaDoor.Ps Go.Proofs.YtkgnhghaiopgcaaDoor.Pw Go.Proofs.YtkgnhghaiopgcaaDoor.Ck Go.Proofs.YtkgnhghaiopgcaaDoor.Cw Go.Proofs.YtkgnhghaiopgcaaDoor.Cx Go.Proofs.YtkgnhghaiopgcaaDoor.Cl Go.Proofs.YtkgnhghaiopgcaaDoor.Ca Go.Proofs.YtkgnhghaiopgcaaDoor.Ro

theorem ok_sum {X : List ST} (h : ∀ t ∈ X, OkT t) : ∀ t ∈ X, ∀ r ∈ t.f1, t.f0.size + r.f0.size + 1 ≤ 9223372036854775807 := fun t ht r hr => by
  have h1 := (h t ht).1
  have h2 := ((h t ht).2 r hr).1
  simp only [rb] at h1 h2
  omega
def relCells (name : ByteArray) (b : Nat) : List Value := [.string name, .string name, .string name, .string name, .slice none 0 0, .slice (some ⟨b, 0, none⟩) 3 3]
def DR (w : World) (name : ByteArray) (b : Nat) (x : SR) (cs : List Value) : Prop := k57.K w x cs ∨ (x = selfR name ∧ cs = relCells name b)
theorem DR_len {w : World} {name : ByteArray} {b : Nat} (x : SR) (cs : List Value) (h : DR w name b x cs) : cs.length = k57.sz := by
  rcases h with h | ⟨_, rfl⟩
  · exact Kd.K_len _ h
  · rfl
theorem DR_one {w : World} {name : ByteArray} {b : Nat} (x : SR) (cs : List Value) (h : DR w name b x cs) : ∀ u ∈ cs, u.oneCell' = true := by
  rcases h with h | ⟨_, rfl⟩
  · exact Kd.K_one _ h
  · intro u hu
    simp only [relCells, List.mem_cons, List.not_mem_nil, or_false] at hu
    rcases hu with rfl | rfl | rfl | rfl | rfl | rfl <;> rfl
def DT (w : World) (t : ST) (v : Value) (x : ST) (cs : List Value) : Prop := k53.K w x cs ∨ (x = t ∧ cs = [.string t.f0, v] ∧ v.oneCell' = true)
theorem DT_len {w : World} {t : ST} {v : Value} (x : ST) (cs : List Value) (h : DT w t v x cs) : cs.length = k53.sz := by
  rcases h with h | ⟨_, rfl, _⟩
  · exact Kd.K_len _ h
  · rfl
theorem DT_one {w : World} {t : ST} {v : Value} (x : ST) (cs : List Value) (h : DT w t v x cs) : ∀ u ∈ cs, u.oneCell' = true := by
  rcases h with h | ⟨_, rfl, hv⟩
  · exact Kd.K_one _ h
  · intro u hu
    rcases List.mem_cons.1 hu with rfl | hu
    · rfl
    · obtain rfl := List.mem_singleton.1 hu; exact hv
theorem ops_C {w : World} {b : Nat} {name : ByteArray} (h : w.heap[b]? = some (.cells #[.int .i64 1, .string ⟨#[]⟩, .string ⟨#[]⟩, .int .i64 2, .string name, .string ⟨#[]⟩, .int .i64 4, .string ⟨#[]⟩, .string ⟨#[]⟩] 59 (0, 0))) : k59.C w (some ⟨b, 0, none⟩) 3 (selfR name).f5 := by
  refine ⟨rfl, by omega, fun _ => ⟨_, rfl, fun j p hj => ?_⟩⟩
  have c0 := blk_cell h 0
  have c1 := blk_cell h 1
  have c2 := blk_cell h 2
  have c3 := blk_cell h 3
  have c4 := blk_cell h 4
  have c5 := blk_cell h 5
  have c6 := blk_cell h 6
  have c7 := blk_cell h 7
  have c8 := blk_cell h 8
  rcases j with _ | _ | _ | j
  · obtain rfl := Option.some.inj hj
    refine ⟨_, rfl, k59_mk w _, fun i u hu => ?_⟩
    rcases i with _ | _ | _ | i
    · obtain rfl := Option.some.inj hu; exact c0
    · obtain rfl := Option.some.inj hu; exact c1
    · obtain rfl := Option.some.inj hu; exact c2
    · exact absurd hu (by simp)
  · obtain rfl := Option.some.inj hj
    refine ⟨_, rfl, k59_mk w _, fun i u hu => ?_⟩
    rcases i with _ | _ | _ | i
    · obtain rfl := Option.some.inj hu; exact c3
    · obtain rfl := Option.some.inj hu; exact c4
    · obtain rfl := Option.some.inj hu; exact c5
    · exact absurd hu (by simp)
  · obtain rfl := Option.some.inj hj
    refine ⟨_, rfl, k59_mk w _, fun i u hu => ?_⟩
    rcases i with _ | _ | _ | i
    · obtain rfl := Option.some.inj hu; exact c6
    · obtain rfl := Option.some.inj hu; exact c7
    · obtain rfl := Option.some.inj hu; exact c8
    · exact absurd hu (by simp)
  · exact absurd hj (by simp [selfR])
set_option maxHeartbeats 64000000 in
set_option maxRecDepth 100000 in
theorem CheckMore (A : Option Addr) (c : Nat) (X : List ST) (which : Int) (name : ByteArray) (w : World) (hK : Aside0 (Aid.KeysIn w)) (hX : SchRow w A c X) (hwh : (Lit.int .u8 which).wf = true) (hnm : name.size ≤ 140737488351232) :
    Calls Tryd.prog 18 #[.agg #[.slice A X.length c], .int .u8 which, .string name] w fun e w' => e = .returned (.bool true) ∧ Below w.heap.size w w' := by
  have HC := Aside0.mk hX.hC
  have HL := Aside0.mk hX.hl
  have HZ := Aside0.mk (ok_sum hX.ok)
  have HOK := Aside0.mk hX.ok
  have HNM := Aside0.mk hnm
  have HM : Aside0 (X.length ≤ 9223372036854775807) := ⟨Kd.C_max hX.hC⟩
  obtain ⟨w1, e1, h1, b1, z1, k1⟩ := al1 w #[.slice A X.length c] 43
  have H1 := Aside0.mk h1
  have HB := Aside0.mk b1
  have HW := Aside0.mk e1
  have hcallA := awake_calls w1 ⟨hK.out.go b1⟩
  clear hX h1 b1 z1 k1 e1
  go_enter Tryd.func18, Tryd.ntmps18
  go_upto_region 1 with (fail)
  rw [HW.out]
  obtain ⟨q, hq⟩ : ∃ q, w.heap.size = q := ⟨_, rfl⟩
  have HQ := Aside0.mk hq
  rw [hq] at H1 ⊢
  clear HW hq
  go_wp2_with fail
  refine hcallA.mono ?_
  rintro e w2 ⟨rfl, hb⟩
  have HS2 := Aside0.mk ((hb.block q (blk_lt H1.out)).trans H1.out)
  have HB2 := Aside0.mk (bel2 HB.out hb)
  clear hb hcallA H1 HB
  have t0 := blk_cell HS2.out 0
  go_wp2_with fail
  refine (few_calls X A c w w2 HB2.out HC.out).mono ?_
  rintro e w3 ⟨fb, rfl, hb⟩
  have HS3 := Aside0.mk ((hb.block q (blk_lt HS2.out)).trans HS2.out)
  have HB3 := Aside0.mk (bel2 HB2.out hb)
  clear hb t0 HS2 HB2
  have t0 := blk_cell HS3.out 0
  go_wp2_with fail
  refine (Check_calls X A c w w3 HB3.out HC.out HL.out HZ.out).mono ?_
  rintro e w5 ⟨rfl, hb⟩
  have HS5 := Aside0.mk ((hb.block q (blk_lt HS3.out)).trans HS3.out)
  have HB5 := Aside0.mk (bel2 HB3.out hb)
  clear hb t0 HS3 HB3
  cases fb with
  | false =>
    go_wp2_with fail
    go_ret
    exact ⟨rfl, HB5.out⟩
  | true =>
  by_cases h0 : (checkX X).1 = 0
  case neg =>
    have n1 : ((checkX X).1 == 0) = false := by simpa using h0
    have n2 : decide ((checkX X).1 = 0) = false := decide_eq_false h0
    have n3 : ((checkX X).1 = 0) = False := eq_false h0
    go_wp2_with fail
    go_ret
    exact ⟨rfl, HB5.out⟩
  case pos =>
  have HRt : Aside0 (Right X) := ⟨h0⟩
  rw [h0]
  by_cases hne : X = []
  · subst hne
    have t0 := blk_cell HS5.out 0
    clear h0
    go_wp2_with fail
    go_ret
    exact ⟨rfl, HB5.out⟩
  have hl0 : 0 < X.length := List.length_pos_iff.2 hne
  have hl8 := HRt.out.len
  have n1 : ((X.length : Int) == 0) = false := by simp; exact hne
  have n4 : (X = []) = False := eq_false hne
  have n2 : decide ((X.length : Int) = 0) = false := decide_eq_false (by omega)
  have n3 : ((X.length : Int) = 0) = False := eq_false (by omega)
  have hw0 : 0 ≤ which ∧ which ≤ 255 := by
    rw [Lit.wf, Bool.and_eq_true, decide_eq_true_eq, decide_eq_true_eq] at hwh
    exact hwh
  obtain ⟨i, hi⟩ : ∃ i : Nat, which.toNat % X.length = i := ⟨_, rfl⟩
  have hlt : i < X.length := by rw [← hi]; exact Nat.mod_lt _ hl0
  have hmod : which.tmod (X.length : Int) = (i : Int) := by
    rw [← hi]; obtain ⟨m, rfl⟩ := Int.eq_ofNat_of_zero_le hw0.1; rfl
  obtain ⟨T, hT⟩ : ∃ T, rd_T53 X (i : Int) = T := ⟨_, rfl⟩
  have hxi : X[i] = T := by rw [← hT]; unfold rd_T53; rw [Int.toNat_natCast, List.getD_eq_getElem?_getD, List.getElem?_eq_getElem hlt]; rfl
  have HTm : Aside0 (T ∈ X) := ⟨by rw [← hxi]; exact List.getElem_mem hlt⟩
  obtain ⟨ad, A1, c1, rfl, r0, r1, r2, hC1⟩ := at_T53 HC.out (i : Int) (by omega) (by omega)
  rw [hT] at r0 r1 r2 hC1
  rw [Int.toNat_natCast] at r0 r1
  have HT0 := Aside0.mk r0
  have HT1 := Aside0.mk r1
  have HKT : Aside0 (k53.K w T [.string T.f0, .slice A1 T.f1.length c1]) := ⟨⟨[.string T.f0], [.slice A1 T.f1.length c1], rfl, rfl, ⟨A1, c1, rfl, r2, hC1⟩⟩⟩
  have t0 := blk_cell HS5.out 0
  have e2 : ((i : Int) < (X.length : Int)) = True := eq_true (by omega)
  have e3 : decide (i < X.length) = true := decide_eq_true hlt
  have e4 : (0 ≤ (i : Int)) = True := eq_true (by omega)
  have e5 : decide ((i : Int) < 0) = false := decide_eq_false (by omega)
  have e6 : ((i : Int) < 0) = False := eq_false (by omega)
  have hwr : IntKind.i64.wrap which = which := by rw [IntKind.wrap_i64]; omega
  have hwr2 : IntKind.i64.wrap (i : Int) = (i : Int) := by rw [IntKind.wrap_i64]; omega
  have HHL := Aside0.mk (And.intro hl0 (And.intro hl8 hlt))
  have HC1 := Aside0.mk hC1
  have HL1 := Aside0.mk r2
  have HM1 : Aside0 (T.f1.length ≤ 9223372036854775807) := ⟨Kd.C_max hC1⟩
  have HL12 : Aside0 (T.f1.length ≤ 12) := ⟨(HRt.out.lens HTm.out).1⟩
  have HXi : Aside0 (∃ h : i < X.length, X[i] = T) := ⟨⟨hlt, hxi⟩⟩
  clear h0 hne hl0 hl8 hi hlt hT hxi r0 r1 r2 hC1 hwh hnm
  go_upto_region 9 with (fail)
  have r0 := pw_cell_below HB5.out HT0.out
  have r1 := pw_cell_below HB5.out HT1.out
  go_upto_region 10 with (fail)
  obtain ⟨wz, ez, hz, bz, zz, kz⟩ := al1 w5 #[.string T.f0, .slice A1 T.f1.length c1] 53
  rw [ez]
  have HSz := Aside0.mk (kz _ _ HS5.out)
  have HBz := Aside0.mk (bel2 HB5.out bz)
  obtain ⟨m, hm⟩ : ∃ m, w5.heap.size = m := ⟨_, rfl⟩
  rw [hm] at hz ⊢
  have HTz := Aside0.mk hz
  clear ez hz bz zz kz hm HB5 HS5 r0 r1 t0
  go_wp2_with fail
  go_loopg [13] (T.f1.length + 1) (fun gg s13 wr => ∃ (j : Nat), s13 = .int .i64 j ∧ j + gg = T.f1.length + 1 ∧ j ≤ T.f1.length ∧ Aside0 (∀ r ∈ T.f1.take j, named name r = false) ∧ Aside0 (Below w.heap.size w wr) ∧ Aside0 (wr.heap[q]? = some (.cells #[.slice (some ad) X.length c] 43 (0, 0))) ∧ Aside0 (wr.heap[m]? = some (.cells #[.string T.f0, .slice A1 T.f1.length c1] 53 (0, 0))))
  case atStart => exact ⟨0, rfl, by omega, Nat.zero_le _, ⟨by simp⟩, HBz, HSz, HTz⟩
  case round =>
    clear HBz HSz HTz
    obtain ⟨j, rfl, hj, hjl, HNo, HB1, HS1, HT9⟩ := hrel
    rename World => wr
    cases gk with
    | zero => omega
    | succ g1 =>
      have t0 := blk_cell HT9.out 0
      have t1 := blk_cell HT9.out 1
      by_cases hlt : j < T.f1.length
      · have e1 : decide ((j : Int) < (T.f1.length : Int)) = true := decide_eq_true (by omega)
        have e2 : ((j : Int) < (T.f1.length : Int)) = True := eq_true (by omega)
        have e3 : decide (j < T.f1.length) = true := decide_eq_true hlt
        have e4 : (0 ≤ (j : Int)) = True := eq_true (by omega)
        have e5 : decide ((j : Int) < 0) = false := decide_eq_false (by omega)
        have e6 : ((j : Int) < 0) = False := eq_false (by omega)
        obtain ⟨V, hV⟩ : ∃ V, rd_T57 T.f1 (j : Int) = V := ⟨_, rfl⟩
        have hxj : T.f1[j] = V := by rw [← hV]; unfold rd_T57; rw [Int.toNat_natCast, List.getD_eq_getElem?_getD, List.getElem?_eq_getElem hlt]; rfl
        obtain ⟨ae, A2, c2, A3, c3, rfl, r0, r1, r2, r3, r4, r5, r6, hC2, r7, hC3⟩ := at_T57 HC1.out (j : Int) (by omega) (by omega)
        rw [hV] at r0
        rw [Int.toNat_natCast] at r0
        replace r0 := pw_cell_below HB1.out r0
        have HTK : Aside0 (T.f1.take (j + 1) = T.f1.take j ++ [V]) := ⟨by rw [← List.take_append_getElem hlt, hxj]⟩
        have hw : IntKind.i64.wrap ((j : Int) + 1) = ((j + 1 : Nat) : Int) := by have := HM1.out; rw [IntKind.wrap_i64]; omega
        have HJ := Aside0.mk (And.intro hj (And.intro hjl hlt))
        clear r1 r2 r3 r4 r5 r6 hC2 r7 hC3 hV hxj hlt hj hjl
        cases hq1 : (V.f0.toList == name.toList) with
        | true =>
          go_wp2_with fail
          (try rw [Exit.noGoto_ret])
          go_ret
          exact ⟨rfl, HB1.out⟩
        | false =>
          go_wp2_with fail
          go_roundg g1
          case measure => omega
          case rel => exact ⟨j + 1, by simp, by have := HJ.out; omega, HJ.out.2.2, ⟨fun t ht => by
            rw [HTK.out] at ht
            rcases List.mem_append.1 ht with ht | ht
            · exact HNo.out t ht
            · obtain rfl := List.mem_singleton.1 ht
              exact hq1⟩, HB1, HS1, HT9⟩
      · have e1 : decide ((j : Int) < (T.f1.length : Int)) = false := decide_eq_false (by omega)
        have e2 : ((j : Int) < (T.f1.length : Int)) = False := eq_false (by omega)
        have e3 : decide (j < T.f1.length) = false := decide_eq_false hlt
        have HKN : Aside0 (hasR T.f1 name = false) := ⟨by
          unfold hasR
          rw [List.any_eq_false]
          intro t ht
          rw [HNo.out t (by rw [List.take_of_length_le (by omega)]; exact ht)]
          decide⟩
        clear hlt hj hjl HNo
        go_upto_region 17 with ((with_reducible refine gate_builtin (b := .append) (xs := #[.tmp 66, .tmp 68]) rfl ?_); (try (refine gate_guard (by rfl) ?_; dsimp only)); at_builtin; go_must (refine Kd.R_append_rows (Ra.at_ k57 w) (w0 := wr) wr.heap.size rfl (.tmp 66) (.tmp 68) 51 57 (.agg #[(.string ⟨#[]⟩), (.string ⟨#[]⟩), (.string ⟨#[]⟩), (.string ⟨#[]⟩), (.slice none 0 0), (.slice none 0 0)]) 112 rfl Tryd.underlying51 info57 rfl (show 0 < k57.sz by decide) (by omega) (.slice none 0 0) [] T.f1 A1 T.f1.length c1 (fun _ => True) (fun _ => False) rfl rfl ?aO ?aR (fun _ _ h => h) (fun _ h => h.elim) (fun _ _ => trivial) (Below.refl _ _) (Nat.le_refl _) ?aL ?_); (case aO => exact Kd.R_nil _ _ _ _ _); (case aR => exact Ra.at_of_C HC1.out HB1.out); (case aL => have := HL12.out; simp only [List.length_nil]; omega); intro v6 w6 ho6 hb6 hg6 hat6; rw [List.nil_append] at ho6; obtain ⟨A6, c6, rfl⟩ := Kd.R_slice ho6; have HO6 := Aside0.mk ho6; have HB6 := Aside0.mk hb6; clear ho6 hb6 hg6 hat6 t0 t1)
        have HT6 := Aside0.mk ((HB6.out.block m (blk_lt HT9.out)).trans HT9.out)
        have HS6 := Aside0.mk ((HB6.out.block q (blk_lt HS1.out)).trans HS1.out)
        obtain ⟨wo, ewo, hwo, bwo, zwo, kwo⟩ := al1 w6 #[.int .i64 1, .string ⟨#[]⟩, .string ⟨#[]⟩, .int .i64 2, .string name, .string ⟨#[]⟩, .int .i64 4, .string ⟨#[]⟩, .string ⟨#[]⟩] 59
        have HTo := Aside0.mk (kwo _ _ HT6.out)
        have HSo := Aside0.mk (kwo _ _ HS6.out)
        have HBo : Aside0 (Below w.heap.size w wo) := ⟨bel2 (bel2 HB1.out HB6.out) bwo⟩
        have HBr : Aside0 (Below wr.heap.size wr wo) := ⟨bel2 HB6.out bwo⟩
        have HOo : Aside0 ((Ra.fx k57 (DR w name w6.heap.size) DR_len DR_one).R 57 wo wr.heap.size (fun _ => True) (.slice A6 T.f1.length c6) T.f1) := ⟨Ra.fx_of_at (Kd.R_below HO6.out bwo) (fun _ _ h => .inl h)⟩
        have HWo := Aside0.mk ewo
        have HZo := Aside0.mk zwo
        have HOw := Aside0.mk hwo
        have HLo : Aside0 (∀ k, (Value.slice A6 T.f1.length c6).ownBlock = some k → k < w6.heap.size) := ⟨fun k hk => by obtain ⟨inner, ho⟩ := Kd.R_own HO6.out; exact own_lt ho k hk⟩
        clear ewo hwo bwo zwo kwo HT6 HS6 HB6 HO6
        go_upto_region 18 with ((with_reducible refine gate_builtin (b := .append) (xs := #[.tmp 70, .tmp 81]) rfl ?_); (try (refine gate_guard (by rfl) ?_; dsimp only)); at_builtin; rw [HWo.out]; go_must (refine Kd.R_append (Ra.fx k57 (DR w name w6.heap.size) DR_len DR_one) (w0 := wr) wr.heap.size rfl (.tmp 70) (.tmp 81) 51 57 (.agg #[(.string ⟨#[]⟩), (.string ⟨#[]⟩), (.string ⟨#[]⟩), (.string ⟨#[]⟩), (.slice none 0 0), (.slice none 0 0)]) 112 rfl Tryd.underlying51 info57 rfl (show 0 < k57.sz by decide) (by omega) (.slice A6 T.f1.length c6) T.f1 (selfR name) (relCells name w6.heap.size) (fun _ => True) (fun _ => False) rfl ?bX (Or.inr ⟨rfl, rfl⟩) (fun _ hk => hk.elim) (fun _ _ => trivial) HOo.out HBr.out HBr.out.size ?bL ?_); (case bX => (first | rfl | (rw [HZo.out]; rfl))); (case bL => have := HL12.out; omega); intro v9 w9 ho9 hb9 hg9 hat9; have HG9 := Aside0.mk hg9; obtain ⟨A9, c9, rfl⟩ := Kd.R_slice ho9; have HO9 := Aside0.mk ho9; have HB9 := Aside0.mk hb9; clear ho9 hb9 hg9 hat9)
        have HTw9 := Aside0.mk ((HB9.out.block m (blk_lt HT9.out)).trans HT9.out)
        have HSw9 := Aside0.mk ((HB9.out.block q (blk_lt HS1.out)).trans HS1.out)
        have HBw9 := Aside0.mk (bel2 HB1.out HB9.out)
        have hr9 := Kd.R_reads' HO9.out
        have HOw9 := Aside0.mk ((HG9.out.block w6.heap.size (by rw [HZo.out]; omega) (fun e => by have := HLo.out _ e.symm; omega)).trans HOw.out)
        have HC9 : Aside0 (k57.C w9 A9 (T.f1 ++ [selfR name]).length (T.f1 ++ [selfR name])) := ⟨Ra.C_of_fx hr9.2.2 (fun x cs h => by
          rcases h with h | ⟨rfl, rfl⟩
          · exact Kd.K_below _ HBw9.out h
          · exact k57_mk w9 (selfR name) (A4 := none) (c4 := 0) (A5 := some ⟨w6.heap.size, 0, none⟩) (c5 := 3) (Nat.le_refl 0) (Kd.C_nil _ _) (Nat.le_refl 3) (ops_C HOw9.out))⟩
        have HL9 := Aside0.mk hr9.2.1
        obtain ⟨n, hn⟩ : ∃ n, (T.f1 ++ [selfR name]).length = n := ⟨_, rfl⟩
        have HN2 : Aside0 (n = T.f1.length + 1) := ⟨by rw [← hn]; simp⟩
        have HN1 := Aside0.mk hn
        rw [hn] at HL9
        (try rw [← HN2.out])
        (try rw [hn])
        clear hr9 hn HOw9 HG9 HO9 HB9 HOw HZo HWo HOo HBr HBo HTo HSo HLo HT9 HS1 HB1
        have t0 := blk_cell HSw9.out 0
        go_upto_region 20 with ((with_reducible refine gate_builtin (b := .append) (xs := #[.tmp 83, .tmp 85]) rfl ?_); (try (refine gate_guard (by rfl) ?_; dsimp only)); at_builtin; go_must (refine Kd.R_append_rows (Ra.at_ k53 w) (w0 := w9) w9.heap.size rfl (.tmp 83) (.tmp 85) 41 53 (.agg #[(.string ⟨#[]⟩), (.slice none 0 0)]) 40 rfl Tryd.underlying41 info53 rfl (show 0 < k53.sz by decide) (by omega) (.slice none 0 0) [] X (some ad) X.length c (fun _ => True) (fun _ => False) rfl rfl ?cO ?cR (fun _ _ h => h) (fun _ h => h.elim) (fun _ _ => trivial) (Below.refl _ _) (Nat.le_refl _) ?cL ?_); (case cO => exact Kd.R_nil _ _ _ _ _); (case cR => exact Ra.at_of_C HC.out HBw9.out); (case cL => have := HHL.out; simp only [List.length_nil]; omega); intro v11 w11 ho6 hb6 hg6 hat6; rw [List.nil_append] at ho6; obtain ⟨g, c11, rfl⟩ := Ra.R_slice0 ho6 HHL.out.1; have HO11 := Aside0.mk ho6; have HB11 := Aside0.mk hb6; clear ho6 hb6 hg6 hat6 t0)
        have HT11 := Aside0.mk ((HB11.out.block m (blk_lt HTw9.out)).trans HTw9.out)
        have t0 := blk_cell HT11.out 0
        have HOf : Aside0 ((Ra.fx k53 (DT w (withT T name) (.slice A9 n c9)) DT_len DT_one).R 53 w11 w9.heap.size (fun _ => True) (.slice (some ⟨g, 0, none⟩) X.length c11) X) := ⟨Ra.fx_of_at HO11.out (fun _ _ h => .inl h)⟩
        obtain ⟨adx, cx, hax, hcx, _, hcc⟩ := Kd.C_get (Kd.R_reads' HOf.out).2.2 (⟨⟨#[]⟩, []⟩ : ST) (i : Int) (by omega) (by have := HHL.out; omega)
        obtain rfl := Option.some.inj hax
        have HCC : Aside0 (∀ j u, cx[j]? = some u → w11.cell? ⟨g, (i : Int).toNat * (Ra.fx k53 (DT w (withT T name) (.slice A9 n c9)) DT_len DT_one).sz + j, none⟩ = some u) := ⟨fun j u h => by have := hcc j u h; rwa [add_plain] at this⟩
        have HCX := Aside0.mk hcx
        clear hax hcx hcc HO11
        go_upto_region 21 with ((with_reducible refine gate_ (.store 53 (.tmp 93) (.tmp 92)) rfl ?_); go_must (refine Kd.R_store (Ra.fx k53 (DT w (withT T name) (.slice A9 n c9)) DT_len DT_one) (w0 := w9) w9.heap.size rfl rfl 53 (.tmp 93) (.tmp 92) rfl 53 (g := g) (o' := i * 2) (i : Int) 0 X (withT T name) (.agg #[.string T.f0, .slice A9 n c9]) [.string T.f0, .slice A9 n c9] cx (fun _ => True) (fun _ => False) ?sA ?sF rfl rfl (by kernel_rfl) ?sO HOf.out (by omega) ?sI HCX.out HCC.out (Nat.le_refl 2) ?sM (fun _ hk => hk.elim) HB11.out ?_); (case sA => (first | rfl | simp)); (case sF => simp; rfl); (case sO => (intro u hu; rcases List.mem_cons.1 hu with rfl | hu; rfl; obtain rfl := List.mem_singleton.1 hu; rfl)); (case sI => have := HHL.out; omega); (case sM => exact (Or.inr ⟨rfl, (by rw [List.drop_of_length_le (by rw [HCX.out]; exact Nat.le_refl 2)]; rfl), rfl⟩)); intro w12 ho hb hg; have HO12 := Aside0.mk ho; have HB12 := Aside0.mk hb; clear ho hb hg)
        have hr12 := Kd.R_reads' HO12.out
        have HBn : Aside0 (Below w.heap.size w w12) := ⟨bel2 HBw9.out HB12.out⟩
        have HT12 := Aside0.mk ((HB12.out.block m (blk_lt HTw9.out)).trans HTw9.out)
        have hlx : (withX X i T name).length = X.length := by unfold withX; rw [List.length_set]
        have hC12 : k53.C w12 (some ⟨g, 0, none⟩) (withX X i T name).length (withX X i T name) := Ra.C_of_fx hr12.2.2 (fun x cs h => by
          rcases h with h | ⟨rfl, rfl, _⟩
          · exact Kd.K_below _ HBn.out h
          · have h2 := k53_mk w12 (withT T name) (A1 := A9) (c1 := c9) (by show (T.f1 ++ [selfR name]).length ≤ c9; rw [HN1.out]; exact HL9.out) (Kd.C_below HC9.out HB12.out)
            have h3 : (withT T name).f1.length = n := HN1.out
            rw [h3] at h2
            exact h2)
        have hcall := Check_calls (withX X i T name) (some ⟨g, 0, none⟩) c11 w12 w12 (Below.refl _ _) hC12 (by rw [hlx]; exact hr12.2.1) (fun t ht r hr => by
          rcases List.mem_or_eq_of_mem_set ht with ht | rfl
          · exact HZ.out t ht r hr
          · rcases List.mem_append.1 hr with hr | hr
            · exact HZ.out T HTm.out r hr
            · obtain rfl := List.mem_singleton.1 hr
              have h1 := (HOK.out _ HTm.out).1
              have := HNM.out
              simp only [rb] at h1
              show T.f0.size + name.size + 1 ≤ _
              omega)
        rw [hlx] at hcall
        have hn2 := HN2.out
        by_cases h12 : 12 < n
        · have hlong : checkX (withX X i T name) = (13, T.f0) := by
            obtain ⟨hlt, hxi⟩ := HXi.out
            subst hxi
            exact HRt.out.long hlt name (by omega)
          rw [hlong] at hcall
          have d1 : decide ((12 : Int) < (n : Int)) = true := decide_eq_true (by omega)
          have d2 : ((12 : Int) < (n : Int)) = True := eq_true (by omega)
          have d3 : decide (12 < n) = true := decide_eq_true h12
          clear hlong hn2 h12 hr12 hC12 hlx t0
          go_wp2_with fail
          refine hcall.mono ?_
          rintro e wb ⟨rfl, hb⟩
          have HBb := Aside0.mk (bel2 HBn.out hb)
          have HTb := Aside0.mk ((hb.block m (blk_lt HT12.out)).trans HT12.out)
          have t0 := blk_cell HTb.out 0
          clear hb hcall
          go_wp2_with fail
          go_ret
          exact ⟨by simp, HBb.out⟩
        · have hok : checkX (withX X i T name) = (0, ⟨#[]⟩) := by
            obtain ⟨hlt, hxi⟩ := HXi.out
            subst hxi
            exact HRt.out.with hlt name HKN.out (by omega)
          rw [hok] at hcall
          have d1 : decide ((12 : Int) < (n : Int)) = false := decide_eq_false (by omega)
          have d2 : ((12 : Int) < (n : Int)) = False := eq_false (by omega)
          have d3 : decide (12 < n) = false := decide_eq_false h12
          clear hok hn2 h12 hr12 hC12 hlx t0
          go_wp2_with fail
          refine hcall.mono ?_
          rintro e wb ⟨rfl, hb⟩
          have HBb := Aside0.mk (bel2 HBn.out hb)
          clear hb hcall
          go_wp2_with fail
          go_ret
          exact ⟨by simp, HBb.out⟩
end Go.Proofs.YtkgnhghaiopgcaaDoor.Wk
