/- The walk of the law CheckTwice; no condition. -/
import Derived.Test.YtkgnhghaiopgcaaDoorCa
import Derived.Test.YtkgnhghaiopgcaaDoorCq
import Derived.Test.YtkgnhghaiopgcaaDoorRa
import Derived.Test.YtkgnhghaiopgcaaDoorRo
set_option linter.unusedVariables false
set_option linter.unusedSimpArgs false
namespace Go.Proofs.YtkgnhghaiopgcaaDoor.Wk
open Go.RowKit Go.Maps Go.Proofs.YtkgnhghaiopgcaaDoorW.PrintWords Go.Proofs.YtkgnhghaiopgcaaDoorW.PrintLast Go.Proofs.YtkgnhghaiopgcaaDoor.X Go.Proofs.YtkgnhghaiopgcaaDoor.Kx Go.Proofs.YtkgnhghaiopgcaaDoor.Gl Go.Proofs.YtkgnhghaiopgcaaDoor.GlFn Go.Proofs.YtkgnhghaiopgcaaDoor.Tk Go.Proofs.YtkgnhghaiopgcaaDoor.Ps Go.Proofs.YtkgnhghaiopgcaaDoor.Pw Go.Proofs.YtkgnhghaiopgcaaDoor.Ck Go.Proofs.YtkgnhghaiopgcaaDoor.Cw Go.Proofs.YtkgnhghaiopgcaaDoor.Cx Go.Proofs.YtkgnhghaiopgcaaDoor.Cl Go.Proofs.YtkgnhghaiopgcaaDoor.Ca Go.Proofs.YtkgnhghaiopgcaaDoor.Ro

theorem ok_sum {X : List ST} (h : ∀ t ∈ X, OkT t) : ∀ t ∈ X, ∀ r ∈ t.f1, t.f0.size + r.f0.size + 1 ≤ 9223372036854775807 := fun t ht r hr => by
  have h1 := (h t ht).1
  have h2 := ((h t ht).2 r hr).1
  simp only [rb] at h1 h2
  omega
set_option maxHeartbeats 64000000 in
set_option maxRecDepth 100000 in
theorem CheckTwice (A : Option Addr) (c : Nat) (X : List ST) (which : Int) (name : ByteArray) (w : World) (hK : Aside0 (Aid.KeysIn w)) (hX : SchRow w A c X) (hwh : (Lit.int .u8 which).wf = true) (hnm : name.size ≤ 140737488351232) :
    Calls Tryd.prog 17 #[.agg #[.slice A X.length c], .int .u8 which, .string name] w fun e w' => e = .returned (.bool true) ∧ Below w.heap.size w w' := by
  have HC := Aside0.mk hX.hC
  have HL := Aside0.mk hX.hl
  have HZ := Aside0.mk (ok_sum hX.ok)
  have HM : Aside0 (X.length ≤ 9223372036854775807) := ⟨Kd.C_max hX.hC⟩
  obtain ⟨w1, e1, h1, b1, z1, k1⟩ := al1 w #[.slice A X.length c] 43
  have H1 := Aside0.mk h1
  have HB := Aside0.mk b1
  have HW := Aside0.mk e1
  have hcallA := awake_calls w1 ⟨hK.out.go b1⟩
  clear hX h1 b1 z1 k1 e1
  go_enter Tryd.func17, Tryd.ntmps17
  go_upto_region 1 with (fail)
  rw [HW.out]
  obtain ⟨q, hq⟩ : ∃ q, w.heap.size = q := ⟨_, rfl⟩
  have HQ := Aside0.mk hq
  rw [hq] at H1 ⊢
  clear HW hq
  go_wp2_with fail
  refine hcallA.mono ?_
  rintro e w2 ⟨rfl, hb⟩
  have HS2 := Aside0.mk ((hb.block q (blk_lt H1.out)).trans H1.out)
  have HB2 := Aside0.mk (bel2 HB.out hb)
  clear hb hcallA H1 HB
  have t0 := blk_cell HS2.out 0
  go_wp2_with fail
  refine (few_calls X A c w w2 HB2.out HC.out).mono ?_
  rintro e w3 ⟨fb, rfl, hb⟩
  have HS3 := Aside0.mk ((hb.block q (blk_lt HS2.out)).trans HS2.out)
  have HB3 := Aside0.mk (bel2 HB2.out hb)
  clear hb t0 HS2 HB2
  have t0 := blk_cell HS3.out 0
  go_wp2_with fail
  refine (Check_calls X A c w w3 HB3.out HC.out HL.out HZ.out).mono ?_
  rintro e w5 ⟨rfl, hb⟩
  have HS5 := Aside0.mk ((hb.block q (blk_lt HS3.out)).trans HS3.out)
  have HB5 := Aside0.mk (bel2 HB3.out hb)
  clear hb t0 HS3 HB3
  cases fb with
  | false =>
    go_wp2_with fail
    go_ret
    exact ⟨rfl, HB5.out⟩
  | true =>
  by_cases h0 : (checkX X).1 = 0
  case neg =>
    have n1 : ((checkX X).1 == 0) = false := by simpa using h0
    have n2 : decide ((checkX X).1 = 0) = false := decide_eq_false h0
    have n3 : ((checkX X).1 = 0) = False := eq_false h0
    go_wp2_with fail
    go_ret
    exact ⟨rfl, HB5.out⟩
  case pos =>
  have HRt : Aside0 (Right X) := ⟨h0⟩
  rw [h0]
  by_cases hne : X = []
  · subst hne
    have t0 := blk_cell HS5.out 0
    clear h0
    go_wp2_with fail
    go_ret
    exact ⟨rfl, HB5.out⟩
  have hl0 : 0 < X.length := List.length_pos_iff.2 hne
  have hl8 := HRt.out.len
  have n1 : ((X.length : Int) == 0) = false := by simp; exact hne
  have n4 : (X = []) = False := eq_false hne
  have n2 : decide ((X.length : Int) = 0) = false := decide_eq_false (by omega)
  have n3 : ((X.length : Int) = 0) = False := eq_false (by omega)
  have hw0 : 0 ≤ which ∧ which ≤ 255 := by
    rw [Lit.wf, Bool.and_eq_true, decide_eq_true_eq, decide_eq_true_eq] at hwh
    exact hwh
  obtain ⟨i, hi⟩ : ∃ i : Nat, which.toNat % X.length = i := ⟨_, rfl⟩
  have hlt : i < X.length := by rw [← hi]; exact Nat.mod_lt _ hl0
  have hmod : which.tmod (X.length : Int) = (i : Int) := by
    rw [← hi]; obtain ⟨m, rfl⟩ := Int.eq_ofNat_of_zero_le hw0.1; rfl
  obtain ⟨T, hT⟩ : ∃ T, rd_T53 X (i : Int) = T := ⟨_, rfl⟩
  have hxi : X[i] = T := by rw [← hT]; unfold rd_T53; rw [Int.toNat_natCast, List.getD_eq_getElem?_getD, List.getElem?_eq_getElem hlt]; rfl
  have HTm : Aside0 (T ∈ X) := ⟨by rw [← hxi]; exact List.getElem_mem hlt⟩
  obtain ⟨ad, A1, c1, rfl, r0, r1, r2, hC1⟩ := at_T53 HC.out (i : Int) (by omega) (by omega)
  rw [hT] at r0 r1 r2 hC1
  rw [Int.toNat_natCast] at r0 r1
  have HT0 := Aside0.mk r0
  have HT1 := Aside0.mk r1
  have HKT : Aside0 (k53.K w T [.string T.f0, .slice A1 T.f1.length c1]) := ⟨⟨[.string T.f0], [.slice A1 T.f1.length c1], rfl, rfl, ⟨A1, c1, rfl, r2, hC1⟩⟩⟩
  have t0 := blk_cell HS5.out 0
  have e2 : ((i : Int) < (X.length : Int)) = True := eq_true (by omega)
  have e3 : decide (i < X.length) = true := decide_eq_true hlt
  have e4 : (0 ≤ (i : Int)) = True := eq_true (by omega)
  have e5 : decide ((i : Int) < 0) = false := decide_eq_false (by omega)
  have e6 : ((i : Int) < 0) = False := eq_false (by omega)
  have hwr : IntKind.i64.wrap which = which := by rw [IntKind.wrap_i64]; omega
  have hwr2 : IntKind.i64.wrap (i : Int) = (i : Int) := by rw [IntKind.wrap_i64]; omega
  have HHL := Aside0.mk (And.intro hl0 (And.intro hl8 hlt))
  clear h0 hne hl0 hl8 hi hlt hT hxi r0 r1 r2 hC1 hwh hnm
  go_upto_region 8 with (fail)
  have HBd : Aside0 (Below w.heap.size w w5.drew) := ⟨HB5.out.drew⟩
  have HSd : Aside0 (w5.drew.heap[q]? = some (.cells #[.slice (some ad) X.length c] 43 (0, 0))) := ⟨HS5.out⟩
  have HN0 : Aside0 (w5.drew.cell? (ad.add (i * 2)) = some (.string T.f0)) := ⟨pw_cell_below HBd.out HT0.out⟩
  have HN1 : Aside0 (w5.drew.cell? ⟨(ad.add (i * 2)).block, (ad.add (i * 2)).off + 1, none⟩ = some (.slice A1 T.f1.length c1)) := ⟨pw_cell_below HBd.out HT1.out⟩
  clear HB5 HS5 t0
  refine start_ (n := 12) (S := fun w' => w'.cell? ⟨q, 0, none⟩ = some (.slice (some ad) X.length c) ∧ w'.cell? (ad.add (i * 2)) = some (.string T.f0) ∧ w'.cell? ⟨(ad.add (i * 2)).block, (ad.add (i * 2)).off + 1, none⟩ = some (.slice A1 T.f1.length c1)) (ds := [11]) #[false, false, false, false, false, false, false, false, false, false, false, false] (by kernel_rfl) rfl rfl ⟨blk_cell HSd.out 0, HN0.out, HN1.out⟩ (fun hHeld => ?_)
  generalize w5.drew = w7 at HBd HSd HN0 HN1 hHeld ⊢
  refine pure_ (i := 0) (N := some 41) (v := ?_) (a' := ?_) #[true, false, false, false, false, false, false, false, false, false, false, false] rfl rfl (by kernel_rfl) (fun _ _ _ h => h) (Or.inl ⟨by rfl, ?_⟩) ?_ ?_
  rotate_left
  · intro w'
    go_simp
    with_reducible rfl
  rotate_left
  · simp only [Act.put, List.setIfInBounds_toArray, List.set_cons_zero, List.set_cons_succ, i64_w, i32_w]
    rfl
  refine pure_ (i := 2) (N := some 43) (v := ?_) (a' := ?_) #[true, false, true, false, false, false, false, false, false, false, false, false] rfl rfl (by kernel_rfl) (fun _ _ _ h => h) (Or.inl ⟨by rfl, ?_⟩) ?_ ?_
  rotate_left
  · intro w'
    go_simp
    with_reducible rfl
  rotate_left
  · simp only [Act.put, List.setIfInBounds_toArray, List.set_cons_zero, List.set_cons_succ, i64_w, i32_w]
    rfl
  refine pure_ (i := 3) (N := some 44) (v := ?_) (a' := ?_) #[true, false, true, true, false, false, false, false, false, false, false, false] rfl rfl (by kernel_rfl) (fun _ _ _ h => h) (Or.inl ⟨by rfl, ?_⟩) ?_ ?_
  rotate_left
  · intro w'
    go_simp
    with_reducible rfl
  rotate_left
  · simp only [Act.put, List.setIfInBounds_toArray, List.set_cons_zero, List.set_cons_succ, i64_w, i32_w]
    rfl
  refine pure_ (i := 4) (N := some 45) (v := ?_) (a' := ?_) #[true, false, true, true, true, false, false, false, false, false, false, false] rfl rfl (by kernel_rfl) (fun _ _ _ h => h) (Or.inl ⟨by rfl, ?_⟩) ?_ ?_
  rotate_left
  · intro w'
    go_simp
    with_reducible rfl
  rotate_left
  · simp only [Act.put, List.setIfInBounds_toArray, List.set_cons_zero, List.set_cons_succ, i64_w, i32_w]
    rfl
  refine take_ (i := 1) (N := some 42) (v := ?_) (a' := ?_) #[true, true, true, true, true, false, false, false, false, false, false, false] rfl rfl (by kernel_rfl) (fun _ _ _ h => h) (Or.inl ⟨by rfl, ?_⟩) hHeld ?_ ?_
  rotate_left
  · rintro w' ⟨s0, s1, s2⟩
    go_simp
    with_reducible rfl
  rotate_left
  · simp only [Act.put, List.setIfInBounds_toArray, List.set_cons_zero, List.set_cons_succ, i64_w, i32_w]
    rfl
  refine take_ (i := 5) (N := some 46) (v := ?_) (a' := ?_) #[true, true, true, true, true, true, false, false, false, false, false, false] rfl rfl (by kernel_rfl) (fun _ _ _ h => h) (Or.inl ⟨by rfl, ?_⟩) hHeld ?_ ?_
  rotate_left
  · rintro w' ⟨s0, s1, s2⟩
    go_simp
    with_reducible rfl
  rotate_left
  · simp only [Act.put, List.setIfInBounds_toArray, List.set_cons_zero, List.set_cons_succ, i64_w, i32_w]
    rfl
  refine pure_ (i := 6) (N := some 47) (v := ?_) (a' := ?_) #[true, true, true, true, true, true, true, false, false, false, false, false] rfl rfl (by kernel_rfl) (fun _ _ _ h => h) (Or.inl ⟨by rfl, ?_⟩) ?_ ?_
  rotate_left
  · intro w'
    go_simp
    with_reducible rfl
  rotate_left
  · simp only [Act.put, List.setIfInBounds_toArray, List.set_cons_zero, List.set_cons_succ, i64_w, i32_w]
    rfl
  refine pure_ (i := 7) (N := some 48) (v := ?_) (a' := ?_) #[true, true, true, true, true, true, true, true, false, false, false, false] rfl rfl (by kernel_rfl) (fun _ _ _ h => h) (Or.inl ⟨by rfl, ?_⟩) ?_ ?_
  rotate_left
  · intro w'
    go_simp
    with_reducible rfl
  rotate_left
  · simp only [Act.put, List.setIfInBounds_toArray, List.set_cons_zero, List.set_cons_succ, i64_w, i32_w]
    rfl
  refine pure_ (i := 8) (N := some 49) (v := ?_) (a' := ?_) #[true, true, true, true, true, true, true, true, true, false, false, false] rfl rfl (by kernel_rfl) (fun _ _ _ h => h) (Or.inl ⟨by rfl, ?_⟩) ?_ ?_
  rotate_left
  · intro w'
    go_simp
    with_reducible rfl
  rotate_left
  · simp only [Act.put, List.setIfInBounds_toArray, List.set_cons_zero, List.set_cons_succ, i64_w, i32_w]
    rfl
  refine take_ (i := 9) (N := some 50) (v := ?_) (a' := ?_) #[true, true, true, true, true, true, true, true, true, true, false, false] rfl rfl (by kernel_rfl) (fun _ _ _ h => h) (Or.inl ⟨by rfl, ?_⟩) hHeld ?_ ?_
  rotate_left
  · rintro w' ⟨s0, s1, s2⟩
    go_simp
    with_reducible rfl
  rotate_left
  · simp only [Act.put, List.setIfInBounds_toArray, List.set_cons_zero, List.set_cons_succ, i64_w, i32_w]
    rfl
  refine one_ (i := 10) (N := some 11) #[true, true, true, true, true, true, true, true, true, true, true, false] rfl rfl (by kernel_rfl) (by decide) (fun K hK => ?_)
  refine value_ (w1 := ?_) (v := ?_) (by rfl) rfl ?_ ?_
  rotate_left 2
  · go_simp
    constructor
    · rfl
    · rfl
  refine hK.out _ _ ⟨(World.cell?_alloc_lt _ _ _ (World.block_lt_of_cell? _ _ (hHeld.1))).trans (hHeld.1), (World.cell?_alloc_lt _ _ _ (World.block_lt_of_cell? _ _ (hHeld.2.1))).trans (hHeld.2.1), (World.cell?_alloc_lt _ _ _ (World.block_lt_of_cell? _ _ (hHeld.2.2))).trans (hHeld.2.2)⟩ (fun hHeld => ?_)
  clear hK K
  refine norm_ (a' := ?_) ?_ ?_
  rotate_left
  · show Act.put _ (some 11) _ = _
    simp only [Act.put, List.setIfInBounds_toArray, List.set_cons_zero, List.set_cons_succ, i64_w, i32_w]
    rfl
  refine last_ (i := 11) (N := none) #[true, true, true, true, true, true, true, true, true, true, true, true] rfl rfl (by kernel_rfl) (by decide) (fun K hK => ?_)
  refine skip_ (w1 := ?_) (by rfl) rfl ?_ ?_
  rotate_left
  · go_simp
    rfl
  refine hK.out _ _ ?_
  clear hK K
  refine done_ (by kernel_rfl) ?_
  obtain ⟨wz, ez, hz, bz, zz, kz⟩ := al1 w7 #[.string T.f0, .slice A1 T.f1.length c1] 53
  rw [ez]
  have HSz := Aside0.mk (kz _ _ HSd.out)
  have HBz := Aside0.mk (bel2 HBd.out bz)
  obtain ⟨m, hm⟩ : ∃ m, w7.heap.size = m := ⟨_, rfl⟩
  rw [hm] at hz ⊢
  have HTz := Aside0.mk hz
  clear ez hz bz zz kz hm HBd HSd HN0 HN1
  have t0 := blk_cell HSz.out 0
  go_upto_region 11 with ((with_reducible refine gate_builtin (b := .append) (xs := #[.tmp 51, .tmp 53]) rfl ?_); (try (refine gate_guard (by rfl) ?_; dsimp only)); at_builtin; go_must (refine Kd.R_append_rows (Ra.at_ k53 w) (w0 := wz) wz.heap.size rfl (.tmp 51) (.tmp 53) 41 53 (.agg #[(.string ⟨#[]⟩), (.slice none 0 0)]) 40 rfl Tryd.underlying41 info53 rfl (show 0 < k53.sz by decide) (by omega) (.slice none 0 0) [] X (some ad) X.length c (fun _ => True) (fun _ => False) rfl rfl ?aO ?aR (fun _ _ h => h) (fun _ h => h.elim) (fun _ _ => trivial) (Below.refl _ _) (Nat.le_refl _) ?aL ?_); (case aO => exact Kd.R_nil _ _ _ _ _); (case aR => exact Ra.at_of_C HC.out HBz.out); (case aL => have := HHL.out; simp only [List.length_nil]; omega); intro v6 w6 ho6 hb6 hg6 hat6; rw [List.nil_append] at ho6; obtain ⟨A6, c6, rfl⟩ := Kd.R_slice ho6; have HO6 := Aside0.mk ho6; have HB6 := Aside0.mk hb6; clear ho6 hb6 hg6 hat6 t0)
  have HT6 := Aside0.mk ((HB6.out.block m (blk_lt HTz.out)).trans HTz.out)
  have HS6 := Aside0.mk ((HB6.out.block q (blk_lt HSz.out)).trans HSz.out)
  have x0 := blk_cell HT6.out 0
  have x1 := blk_cell HT6.out 1
  go_upto_region 12 with ((with_reducible refine gate_builtin (b := .append) (xs := #[.tmp 55, .tmp 57]) rfl ?_); (try (refine gate_guard (by rfl) ?_; dsimp only)); at_builtin; go_must (refine Kd.R_append (Ra.at_ k53 w) (w0 := wz) wz.heap.size rfl (.tmp 55) (.tmp 57) 41 53 (.agg #[(.string ⟨#[]⟩), (.slice none 0 0)]) 40 rfl Tryd.underlying41 info53 rfl (show 0 < k53.sz by decide) (by omega) (.slice A6 X.length c6) X T [.string T.f0, .slice A1 T.f1.length c1] (fun _ => True) (fun _ => False) rfl rfl ?bP (fun _ hk => hk.elim) (fun _ _ => trivial) HO6.out HB6.out HB6.out.size ?bL ?_); (case bP => exact HKT.out); (case bL => have := HHL.out; omega); intro v9 w9 ho9 hb9 hg9 hat9; obtain ⟨A9, c9, rfl⟩ := Kd.R_slice ho9; have HO9 := Aside0.mk ho9; have HB9 := Aside0.mk hb9; clear ho9 hb9 hg9 hat9)
  have hr9 := Kd.R_reads' HO9.out
  have hC9 := Ra.C_of_at hr9.2.2 (bel2 HBz.out HB9.out)
  have HSn := Aside0.mk ((HB9.out.block q (blk_lt HSz.out)).trans HSz.out)
  have HTn := Aside0.mk ((HB9.out.block m (blk_lt HTz.out)).trans HTz.out)
  have HBn := Aside0.mk (bel2 HBz.out HB9.out)
  have hcall := Check_calls (X ++ [T]) A9 c9 w9 w9 (Below.refl _ _) hC9 hr9.2.1 (fun t ht r hr => by
    rcases List.mem_append.1 ht with ht | ht
    · exact HZ.out t ht r hr
    · obtain rfl := List.mem_singleton.1 ht
      exact HZ.out _ HTm.out r hr)
  obtain ⟨n, hn⟩ : ∃ n, (X ++ [T]).length = n := ⟨_, rfl⟩
  have hn2 : n = X.length + 1 := by rw [← hn]; simp
  rw [hn] at hcall
  rw [← hn2]
  clear hr9 hC9 x0 x1 HO9 HB9 HT6 HS6 HO6 HB6 HSz HTz HBz
  by_cases h8 : 8 < n
  · rw [long (by rw [hn]; exact h8)] at hcall
    have d1 : decide ((8 : Int) < (n : Int)) = true := decide_eq_true (by omega)
    have d2 : ((8 : Int) < (n : Int)) = True := eq_true (by omega)
    have d3 : decide (8 < n) = true := decide_eq_true h8
    clear hn hn2 h8
    go_wp2_with fail
    refine hcall.mono ?_
    rintro e wa ⟨rfl, hb⟩
    have HBa := Aside0.mk (bel2 HBn.out hb)
    clear hb
    go_wp2_with fail
    go_ret
    exact ⟨rfl, HBa.out⟩
  rw [HRt.out.twice HTm.out (by omega)] at hcall
  have d1 : decide ((8 : Int) < (n : Int)) = false := decide_eq_false (by omega)
  have d2 : ((8 : Int) < (n : Int)) = False := eq_false (by omega)
  have d3 : decide (8 < n) = false := decide_eq_false h8
  have HN8 : Aside0 (X.length + 1 ≤ 8) := ⟨by omega⟩
  clear hn hn2 h8
  go_wp2_with fail
  refine hcall.mono ?_
  rintro e wa ⟨rfl, hb⟩
  have HSa := Aside0.mk ((hb.block q (blk_lt HSn.out)).trans HSn.out)
  have HTa := Aside0.mk ((hb.block m (blk_lt HTn.out)).trans HTn.out)
  have HBa := Aside0.mk (bel2 HBn.out hb)
  have x0 := blk_cell HTa.out 0
  clear hb hcall HSn HTn HBn
  go_wp2_with fail
  clear d1 d2 d3 x0
  go_loopg [15] (X.length + 1) (fun gg s15 wr => ∃ (j : Nat), s15 = .int .i64 j ∧ j + gg = X.length + 1 ∧ j ≤ X.length ∧ Aside0 (∀ t ∈ X.take j, namedT name t = false) ∧ Aside0 (Below w.heap.size w wr) ∧ Aside0 (wr.heap[q]? = some (.cells #[.slice (some ad) X.length c] 43 (0, 0))))
  case atStart => exact ⟨0, rfl, by omega, Nat.zero_le _, ⟨by simp⟩, HBa, HSa⟩
  case round =>
    clear HBa HSa HTa
    obtain ⟨j, rfl, hj, hjl, HNo, HB1, HS1⟩ := hrel
    rename World => wr
    cases gk with
    | zero => omega
    | succ g1 =>
      have t0 := blk_cell HS1.out 0
      by_cases hlt : j < X.length
      · have e1 : decide ((j : Int) < (X.length : Int)) = true := decide_eq_true (by omega)
        have e2 : ((j : Int) < (X.length : Int)) = True := eq_true (by omega)
        have e3 : decide (j < X.length) = true := decide_eq_true hlt
        have e4 : (0 ≤ (j : Int)) = True := eq_true (by omega)
        have e5 : decide ((j : Int) < 0) = false := decide_eq_false (by omega)
        have e6 : ((j : Int) < 0) = False := eq_false (by omega)
        obtain ⟨V, hV⟩ : ∃ V, rd_T53 X (j : Int) = V := ⟨_, rfl⟩
        have hxj : X[j] = V := by rw [← hV]; unfold rd_T53; rw [Int.toNat_natCast, List.getD_eq_getElem?_getD, List.getElem?_eq_getElem hlt]; rfl
        obtain ⟨ae, A2, c2, ha2, r0, r1, r2, hC2⟩ := at_T53 HC.out (j : Int) (by omega) (by omega)
        obtain rfl := Option.some.inj ha2
        rw [hV] at r0
        rw [Int.toNat_natCast] at r0
        replace r0 := pw_cell_below HB1.out r0
        have HTK : Aside0 (X.take (j + 1) = X.take j ++ [V]) := ⟨by rw [← List.take_append_getElem hlt, hxj]⟩
        have hw : IntKind.i64.wrap ((j : Int) + 1) = ((j + 1 : Nat) : Int) := by have := HM.out; rw [IntKind.wrap_i64]; omega
        have HJ := Aside0.mk (And.intro hj (And.intro hjl hlt))
        clear r1 r2 hC2 ha2 hV hxj hlt hj hjl
        cases hq1 : (V.f0.toList == name.toList) with
        | true =>
          go_wp2_with fail
          (try rw [Exit.noGoto_ret])
          go_ret
          exact ⟨rfl, HB1.out⟩
        | false =>
          go_wp2_with fail
          go_roundg g1
          case measure => omega
          case rel => exact ⟨j + 1, by simp, by have := HJ.out; omega, HJ.out.2.2, ⟨fun t ht => by
            rw [HTK.out] at ht
            rcases List.mem_append.1 ht with ht | ht
            · exact HNo.out t ht
            · obtain rfl := List.mem_singleton.1 ht
              exact hq1⟩, HB1, HS1⟩
      · have e1 : decide ((j : Int) < (X.length : Int)) = false := decide_eq_false (by omega)
        have e2 : ((j : Int) < (X.length : Int)) = False := eq_false (by omega)
        have e3 : decide (j < X.length) = false := decide_eq_false hlt
        have HKN : Aside0 (kindT X name = none) := ⟨by
          unfold kindT
          rw [List.find?_eq_none]
          intro t ht
          rw [HNo.out t (by rw [List.take_of_length_le (by omega)]; exact ht)]
          decide⟩
        clear hlt hj hjl HNo
        go_upto_region 24 with ((with_reducible refine gate_builtin (b := .append) (xs := #[.tmp 97, .tmp 99]) rfl ?_); (try (refine gate_guard (by rfl) ?_; dsimp only)); at_builtin; go_must (refine Kd.R_append_rows (Ra.at_ k53 w) (w0 := wr) wr.heap.size rfl (.tmp 97) (.tmp 99) 41 53 (.agg #[(.string ⟨#[]⟩), (.slice none 0 0)]) 40 rfl Tryd.underlying41 info53 rfl (show 0 < k53.sz by decide) (by omega) (.slice none 0 0) [] X (some ad) X.length c (fun _ => True) (fun _ => False) rfl rfl ?aO ?aR (fun _ _ h => h) (fun _ h => h.elim) (fun _ _ => trivial) (Below.refl _ _) (Nat.le_refl _) ?aL ?_); (case aO => exact Kd.R_nil _ _ _ _ _); (case aR => exact Ra.at_of_C HC.out HB1.out); (case aL => have := HHL.out; simp only [List.length_nil]; omega); intro v6 w6 ho6 hb6 hg6 hat6; rw [List.nil_append] at ho6; obtain ⟨A6, c6, rfl⟩ := Kd.R_slice ho6; have HO6 := Aside0.mk ho6; have HB6 := Aside0.mk hb6; clear ho6 hb6 hg6 hat6 t0)
        go_upto_region 25 with ((with_reducible refine gate_builtin (b := .append) (xs := #[.tmp 101, .tmp 104]) rfl ?_); (try (refine gate_guard (by rfl) ?_; dsimp only)); at_builtin; go_must (refine Kd.R_append (Ra.at_ k53 w) (w0 := wr) wr.heap.size rfl (.tmp 101) (.tmp 104) 41 53 (.agg #[(.string ⟨#[]⟩), (.slice none 0 0)]) 40 rfl Tryd.underlying41 info53 rfl (show 0 < k53.sz by decide) (by omega) (.slice A6 X.length c6) X ⟨name, []⟩ [.string name, .slice none 0 0] (fun _ => True) (fun _ => False) rfl rfl ?bP (fun _ hk => hk.elim) (fun _ _ => trivial) HO6.out HB6.out HB6.out.size ?bL ?_); (case bP => exact k53_mk w ⟨name, []⟩ (Nat.le_refl 0) (Kd.C_nil _ _)); (case bL => have := HHL.out; omega); intro v9 w9 ho9 hb9 hg9 hat9; obtain ⟨A9, c9, rfl⟩ := Kd.R_slice ho9; have HO9 := Aside0.mk ho9; have HB9 := Aside0.mk hb9; clear ho9 hb9 hg9 hat9)
        have hr9 := Kd.R_reads' HO9.out
        have hC9 := Ra.C_of_at hr9.2.2 (bel2 HB1.out HB9.out)
        have HBn := Aside0.mk (bel2 HB1.out HB9.out)
        have hcall := Check_calls (X ++ [⟨name, []⟩]) A9 c9 w9 w9 (Below.refl _ _) hC9 hr9.2.1 (fun t ht r hr => by
          rcases List.mem_append.1 ht with ht | ht
          · exact HZ.out t ht r hr
          · obtain rfl := List.mem_singleton.1 ht
            exact absurd hr (by simp))
        obtain ⟨n, hn⟩ : ∃ n, (X ++ [⟨name, []⟩] : List ST).length = n := ⟨_, rfl⟩
        have hn2 : n = X.length + 1 := by rw [← hn]; simp
        rw [hn] at hcall
        rw [← hn2]
        rw [HRt.out.more name HKN.out HN8.out] at hcall
        clear hr9 hC9 HO9 HB9 HO6 HB6 HB1 HS1 hn hn2
        go_wp2_with fail
        refine hcall.mono ?_
        rintro e wb ⟨rfl, hb⟩
        have HBb := Aside0.mk (bel2 HBn.out hb)
        clear hb hcall
        go_wp2_with fail
        go_ret
        exact ⟨rfl, HBb.out⟩
end Go.Proofs.YtkgnhghaiopgcaaDoor.Wk
