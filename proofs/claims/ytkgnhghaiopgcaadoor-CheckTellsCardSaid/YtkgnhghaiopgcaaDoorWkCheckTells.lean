/- The walk of the law CheckTells; no condition. -/
import Derived.Test.YtkgnhghaiopgcaaDoorCa
import Derived.Test.YtkgnhghaiopgcaaDoorRo
import Derived.Test.YtkgnhghaiopgcaaDoorRa
import Derived.Test.YtkgnhghaiopgcaaDoorRh
import Derived.Test.YtkgnhghaiopgcaaDoorO9
import Derived.Test.YtkgnhghaiopgcaaDoorSm
set_option linter.unusedVariables false
set_option linter.unusedSimpArgs false
namespace Go.Proofs.YtkgnhghaiopgcaaDoor.Wk
open Go.RowKit Go.Maps Go.Proofs.YtkgnhghaiopgcaaDoorW.PrintWords Go.Proofs.YtkgnhghaiopgcaaDoorW.PrintLast Go.Proofs.YtkgnhghaiopgcaaDoor.X Go.Proofs.YtkgnhghaiopgcaaDoor.Kx Go.Proofs.YtkgnhghaiopgcaaDoor.Ps Go.Proofs.YtkgnhghaiopgcaaDoor.Ck Go.Proofs.YtkgnhghaiopgcaaDoor.Cw Go.Proofs.YtkgnhghaiopgcaaDoor.Cx Go.Proofs.YtkgnhghaiopgcaaDoor.Ca Go.Proofs.YtkgnhghaiopgcaaDoor.Ro Go.Proofs.YtkgnhghaiopgcaaDoor.Of Go.Proofs.YtkgnhghaiopgcaaDoor.Rf

theorem ok_sum {X : List ST} (h : ∀ t ∈ X, OkT t) : ∀ t ∈ X, ∀ r ∈ t.f1, t.f0.size + r.f0.size + 1 ≤ 9223372036854775807 := fun t ht r hr => by
  have h1 := (h t ht).1
  have h2 := ((h t ht).2 r hr).1
  simp only [rb] at h1 h2
  omega
theorem ok_map {X : List ST} (h : ∀ t ∈ X, ∀ r ∈ t.f1, t.f0.size + r.f0.size + 1 ≤ 9223372036854775807) : ∀ t ∈ X.map toT, ∀ r ∈ t.f1, t.f0.size + r.f0.size + 1 ≤ 9223372036854775807 := fun t ht r hr => by
  obtain ⟨t0, h0, rfl⟩ := List.mem_map.1 ht
  obtain ⟨r0, h1, rfl⟩ := List.mem_map.1 (show r ∈ t0.f1.map toR from hr)
  exact h t0 h0 r0 h1
theorem C_one {α : Type} {d : Kd α} {w : World} {g T : Nat} {cells : Array Value} {x : α} {cs : List Value} (h : w.heap[g]? = some (.cells cells T (0, 0))) (hc : cells.toList = cs) (hk : d.K w x cs) : d.C w (some ⟨g, 0, none⟩) 1 [x] := by
  refine ⟨rfl, by omega, fun _ => ⟨⟨g, 0, none⟩, rfl, fun j p hj => ?_⟩⟩
  have hj0 : j = 0 := by have := (List.getElem?_eq_some_iff.1 hj).1; simpa using this
  subst hj0
  obtain rfl := Option.some.inj hj
  refine ⟨cs, d.K_len hk, hk, fun i u hu => ?_⟩
  rw [Nat.zero_mul, Nat.zero_add]
  have e : (⟨g, 0, none⟩ : Addr).add i = ⟨g, i, none⟩ := by unfold Addr.add; split <;> simp_all
  rw [e, blk_cell h i]
  rw [← hc, Array.getElem?_toList] at hu
  exact hu
theorem infoT : (Tryd.prog.info? 53).map (fun i => (i.zero, i.size, i.bytes)) = some (some (.agg #[(.string ⟨#[]⟩), (.slice none 0 0)]), 2, 40) := by kernel_rfl
set_option maxHeartbeats 16000000 in
set_option maxRecDepth 100000 in
theorem CheckTells (A : Option Addr) (c : Nat) (X : List ST) (typ rel : ByteArray) (w : World) (hK : Aside0 (Aid.KeysIn w)) (hX : SchRow w A c X) (htyp : typ.size ≤ 140737488351232) (hrelz : rel.size ≤ 140737488351232) :
    Calls Tryd.prog 15 #[.agg #[.slice A X.length c], .string typ, .string rel] w fun e w' => e = .returned (.bool true) ∧ Below w.heap.size w w' := by
  have HC := Aside0.mk hX.hC
  have HL := Aside0.mk hX.hl
  have HZ := Aside0.mk (ok_sum hX.ok)
  have HWD : Aside0 (Small X) := ⟨hX.wide⟩
  have HM : Aside0 (X.length ≤ 9223372036854775807) := ⟨Kd.C_max hX.hC⟩
  obtain ⟨w1, e1, h1, b1, z1, k1⟩ := al1 w #[.slice A X.length c] 43
  have H1 := Aside0.mk h1
  have HB := Aside0.mk b1
  have HW := Aside0.mk e1
  have hcallA := awake_calls w1 ⟨hK.out.go b1⟩
  clear hX htyp hrelz h1 b1 z1 k1 e1
  go_enter Tryd.func15, Tryd.ntmps15
  go_upto_region 1 with (fail)
  rw [HW.out]
  obtain ⟨q, hq⟩ : ∃ q, w.heap.size = q := ⟨_, rfl⟩
  have HQ := Aside0.mk hq
  rw [hq] at H1 ⊢
  clear HW hq
  go_wp2_with fail
  refine hcallA.mono ?_
  rintro e w2 ⟨rfl, hb⟩
  have HS2 := Aside0.mk ((hb.block q (blk_lt H1.out)).trans H1.out)
  have HB2 := Aside0.mk (bel2 HB.out hb)
  clear hb hcallA H1 HB
  have t0 := blk_cell HS2.out 0
  go_wp2_with fail
  refine (few_calls X A c w w2 HB2.out HC.out).mono ?_
  rintro e w3 ⟨fb, rfl, hb⟩
  have HS3 := Aside0.mk ((hb.block q (blk_lt HS2.out)).trans HS2.out)
  have HB3 := Aside0.mk (bel2 HB2.out hb)
  clear hb t0 HS2 HB2
  have t0 := blk_cell HS3.out 0
  cases fb with
  | false =>
    go_wp2_with fail
    go_ret
    exact ⟨rfl, HB3.out⟩
  | true =>
  go_wp2_with fail
  refine (O9.doormanlaw09_of.walk_ A c X w3 (Kd.C_below HC.out HB3.out) HWD.out).mono ?_
  rintro e w4 ⟨v4, rfl, hR4, hb⟩
  obtain ⟨L, hL⟩ : ∃ L, X.map toT = L := ⟨_, rfl⟩
  rw [hL] at hR4
  obtain ⟨AL, cL, rfl⟩ := Kd.R_slice hR4
  have hr4 := Kd.R_reads' hR4
  have HCL := Aside0.mk hr4.2.2
  have HLc := Aside0.mk hr4.2.1
  have HZL : Aside0 (∀ t ∈ L, ∀ r ∈ t.f1, t.f0.size + r.f0.size + 1 ≤ 9223372036854775807) := ⟨by rw [← hL]; exact ok_map HZ.out⟩
  have HLm := Aside0.mk hL
  have HS4 := Aside0.mk ((hb.block q (blk_lt HS3.out)).trans HS3.out)
  have HB4 := Aside0.mk (bel2 HB3.out hb)
  clear hb t0 HS3 HB3 hR4 hr4 hL
  have t0 := blk_cell HS4.out 0
  obtain ⟨P, hP⟩ : ∃ P, checkX X = P := ⟨_, rfl⟩
  have hc1 := Check_calls X A c w w4 HB4.out HC.out HL.out HZ.out
  rw [hP] at hc1
  have HP : Aside0 (checkG L = P) := ⟨by rw [← HLm.out, check_map, hP]⟩
  clear hP
  obtain ⟨n, s⟩ := P
  go_wp2_with fail
  refine hc1.mono ?_
  rintro e w5 ⟨rfl, hb⟩
  have HS5 := Aside0.mk ((hb.block q (blk_lt HS4.out)).trans HS4.out)
  have HB5 := Aside0.mk (bel2 HB4.out hb)
  have HB45 := Aside0.mk hb
  clear hb t0 hc1 HS4
  have hc2 := Check_c L AL cL w5 (Kd.C_below HCL.out HB45.out) HZL.out
  rw [HP.out] at hc2
  clear HP
  go_wp2_with fail
  refine hc2.mono ?_
  rintro e w6 ⟨rfl, hb⟩
  have HS6 := Aside0.mk ((hb.block q (blk_lt HS5.out)).trans HS5.out)
  have HB6 := Aside0.mk (bel2 HB5.out hb)
  have HB46 := Aside0.mk (bel2 HB45.out hb)
  clear hb hc2 HS5 HB5 HB45
  have t0 := blk_cell HS6.out 0
  go_wp2_with fail
  refine (Find_calls X typ rel A c w w6 HB6.out HC.out).mono ?_
  rintro e w7 ⟨v7, rfl, ⟨A2, k2, A3, k3, rfl, hC2, hC3, hl2, hl3⟩, hb⟩
  have HFM : Aside0 ((findR X typ rel).isSome = true → ∃ (i k : Nat), tyI L typ = (i : Int) ∧ ∃ hi : i < X.length, reI ((X[i]).f1.map toR) rel = (k : Int) ∧ ∃ hk : k < (X[i]).f1.length, findV X typ rel = (X[i]).f1[k]) := ⟨by rw [← HLm.out]; exact found_map⟩
  have HFG : Aside0 ((findR X typ rel).isSome = hasG L typ rel) := ⟨by rw [← HLm.out]; exact find_map X typ rel⟩
  have HFZ : Aside0 ((findR X typ rel).isSome = false → findV X typ rel = zR) := ⟨fun h => by unfold findV; cases hf : findR X typ rel with | none => rfl | some r => rw [hf] at h; exact absurd h (by simp)⟩
  obtain ⟨R, hR⟩ : ∃ R, findV X typ rel = R := ⟨_, rfl⟩
  obtain ⟨fb, hfb⟩ : ∃ b, (findR X typ rel).isSome = b := ⟨_, rfl⟩
  rw [hR] at HFM HFZ hC2 hC3 hl2 hl3 ⊢
  rw [hfb] at HFM HFZ HFG ⊢
  obtain ⟨w8, e8, h8, b8, z8, k8⟩ := al1 w7 #[.string R.f0, .string R.f1, .string R.f2, .string R.f3, .slice A2 R.f4.length k2, .slice A3 R.f5.length k3] 57
  have HR8 := Aside0.mk h8
  have HS8 := Aside0.mk (k8 _ _ ((hb.block q (blk_lt HS6.out)).trans HS6.out))
  have HB8 := Aside0.mk (bel2 (bel2 HB6.out hb) b8)
  have HB48 := Aside0.mk (bel2 (bel2 HB46.out hb) b8)
  have HC2 := Aside0.mk hC2
  have HC3 := Aside0.mk hC3
  have HL2 := Aside0.mk hl2
  have HL3 := Aside0.mk hl3
  have HW := Aside0.mk e8
  clear hb t0 hR hfb hC2 hC3 hl2 hl3 h8 b8 z8 k8 e8 HS6 HB6 HB46
  go_upto_region 11 with (fail)
  rw [HW.out]
  obtain ⟨p, hp⟩ : ∃ p, w7.heap.size = p := ⟨_, rfl⟩
  rw [hp] at HR8 ⊢
  clear HW hp
  have hlt := idx_lt (nT typ) L
  have hcT := Type_c L typ AL cL w8 (Kd.C_below HCL.out HB48.out)
  have hV : tyV L typ = rd_T74 L (tyI L typ) := rfl
  have hG : hasG L typ rel = (decide (0 ≤ tyI L typ) && decide (0 ≤ reI (tyV L typ).f1 rel)) := rfl
  change -1 ≤ tyI L typ ∧ tyI L typ < (L.length : Int) at hlt
  obtain ⟨ti, hti⟩ : ∃ j, tyI L typ = j := ⟨_, rfl⟩
  obtain ⟨V, hVV⟩ : ∃ V, tyV L typ = V := ⟨_, rfl⟩
  rw [hti] at hlt hcT hV hG HFM
  rw [hVV] at hV hG
  have HG := Aside0.mk hG
  clear hti hVV hG
  go_wp2_with fail
  refine hcT.mono ?_
  rintro e w9 ⟨rfl, hb⟩
  have HR9 := Aside0.mk ((hb.block p (blk_lt HR8.out)).trans HR8.out)
  have HB9 := Aside0.mk (bel2 HB8.out hb)
  have HB49 := Aside0.mk (bel2 HB48.out hb)
  clear hb hcT HR8 HS8 HB8 HB48
  by_cases a0 : ti < 0
  · have a1 : decide ((ti : Int) < 0) = true := decide_eq_true a0
    have a2 : ((ti : Int) < 0) = True := eq_true a0
    have a3 : decide (0 ≤ ti) = false := decide_eq_false (by omega)
    have a4 : (0 ≤ ti) = False := eq_false (by omega)
    obtain rfl : fb = false := by rw [HFG.out, HG.out, a3]; rfl
    have HRz : Aside0 (R = zR) := ⟨HFZ.out rfl⟩
    clear HFM HFG HG HFZ a0 hlt hV
    have r0 := blk_cell HR9.out 0
    have r1 := blk_cell HR9.out 1
    have r2 := blk_cell HR9.out 2
    have r3 := blk_cell HR9.out 3
    have r4 := blk_cell HR9.out 4
    have r5 := blk_cell HR9.out 5
    obtain ⟨wp, ep, hp1, bp, zp, kp⟩ := al1 w9 #[.string R.f0, .string R.f1, .string R.f2, .string R.f3, .slice A2 R.f4.length k2, .slice A3 R.f5.length k3] 57
    have HRp := Aside0.mk (kp _ _ HR9.out)
    have HBp := Aside0.mk (bel2 HB9.out bp)
    have HB4p := Aside0.mk (bel2 HB49.out bp)
    have HEp := Aside0.mk ep
    have HZp := Aside0.mk zp
    have HH1 := Aside0.mk hp1
    obtain ⟨g, hg⟩ : ∃ g, w9.heap.size = g := ⟨_, rfl⟩
    have HGp := Aside0.mk hg
    have hK1 := k57_mk wp R HL2.out (Kd.C_below HC2.out HBp.out) HL3.out (Kd.C_below HC3.out HBp.out)
    have hC1 : Kd.C k57 wp (some ⟨w9.heap.size, 0, none⟩) 1 [R] := C_one hp1 rfl hK1
    have HK1 : Aside0 (k53.K wp (⟨⟨#[]⟩, [R]⟩ : ST) [.string ⟨#[]⟩, .slice (some ⟨w9.heap.size, 0, none⟩) 1 1]) := ⟨k53_mk wp (⟨⟨#[]⟩, [R]⟩ : ST) (Nat.le_refl _) hC1⟩
    clear ep hp1 bp zp kp hg hK1 hC1
    go_upto_region 19 with ((with_reducible refine gate_builtin (b := .append) (xs := #[.tmp 71, .tmp 75]) rfl ?_); (try (refine gate_guard (by rfl) ?_; dsimp only)); at_builtin; rw [HEp.out]; go_must (refine Kd.R_append (Ra.at_ k53 wp) (w0 := wp) wp.heap.size rfl (.tmp 71) (.tmp 75) 41 53 (.agg #[(.string ⟨#[]⟩), (.slice none 0 0)]) 40 rfl Tryd.underlying41 infoT rfl (show 0 < k53.sz by decide) (by omega) (.slice none 0 0) [] (⟨⟨#[]⟩, [R]⟩ : ST) [.string ⟨#[]⟩, .slice (some ⟨w9.heap.size, 0, none⟩) 1 1] (fun _ => True) (fun _ => False) rfl ?bX HK1.out (fun _ hk => hk.elim) (fun _ _ => trivial) (Kd.R_nil _ _ _ _ _) (Below.refl _ _) (Nat.le_refl _) (by simp only [List.length_nil]; omega) ?_); (case bX => first | rfl | (rw [HZp.out]; rfl) | (simp [HZp.out])); intro v10 w10 ho10 hb10 hg10 hat10; rw [List.nil_append] at ho10; obtain ⟨A10, c10, rfl⟩ := Kd.R_slice ho10; have HO10 := Aside0.mk ho10; have HB10 := Aside0.mk hb10; clear ho10 hb10 hg10 hat10)
    have HRq : Aside0 (w10.heap[p]? = some (.cells #[.string R.f0, .string R.f1, .string R.f2, .string R.f3, .slice A2 R.f4.length k2, .slice A3 R.f5.length k3] 57 (0, 0))) := ⟨(HB10.out.block p (blk_lt HRp.out)).trans HRp.out⟩
    have HBq : Aside0 (Below w.heap.size w w10) := ⟨bel2 HBp.out HB10.out⟩
    clear r0 r1 r2 r3 r4 r5
    obtain rfl := HRz.out
    have r0 : w10.cell? ⟨p, 0, none⟩ = some (.string ⟨#[]⟩) := blk_cell HRq.out 0
    have r4 : w10.cell? ⟨p, 4, none⟩ = some (.slice A2 0 k2) := blk_cell HRq.out 4
    have r5 : w10.cell? ⟨p, 5, none⟩ = some (.slice A3 0 k3) := blk_cell HRq.out 5
    go_wp2_with fail
    go_ret
    exact ⟨rfl, HBq.out⟩
  obtain ⟨i, rfl⟩ := Int.eq_ofNat_of_zero_le (show 0 ≤ ti by omega)
  have hj : i < L.length := by omega
  obtain ⟨ad, A1, c1, hA, u0, u1, u2, hC1⟩ := at_T74 (Kd.C_below HCL.out HB49.out) (i : Int) (by omega) (by omega)
  subst hA
  rw [← hV] at u0 u1 u2 hC1
  rw [Int.toNat_natCast] at u0 u1
  have HVd : Aside0 (V = rd_T74 L (i : Int)) := ⟨hV⟩
  have HU0 := Aside0.mk u0
  have HU1 := Aside0.mk u1
  have HCV := Aside0.mk hC1
  have e1 : decide ((i : Int) < (L.length : Int)) = true := decide_eq_true (by omega)
  have e2 : ((i : Int) < (L.length : Int)) = True := eq_true (by omega)
  have e3 : decide (i < L.length) = true := decide_eq_true (by omega)
  have e4 : (0 ≤ (i : Int)) = True := eq_true (by omega)
  have e5 : decide ((i : Int) < 0) = false := decide_eq_false (by omega)
  have e6 : ((i : Int) < 0) = False := eq_false (by omega)
  have e7 : decide (0 ≤ (i : Int)) = true := decide_eq_true (by omega)
  have hrl := idx_lt (nR rel) V.f1
  have hcR := Rel_c V rel A1 c1 w9 HCV.out
  change -1 ≤ reI V.f1 rel ∧ reI V.f1 rel < (V.f1.length : Int) at hrl
  have HGv : Aside0 (fb = decide (0 ≤ reI V.f1 rel)) := ⟨by rw [HFG.out, HG.out, e7]; rfl⟩
  obtain ⟨ri, hri⟩ : ∃ j, reI V.f1 rel = j := ⟨_, rfl⟩
  rw [hri] at hrl hcR HGv
  have HRI := Aside0.mk hri
  clear hri hV hlt u2 hC1 HG HFG
  go_wp2_with fail
  refine hcR.mono ?_
  rintro e wr ⟨rfl, hb⟩
  have HRr := Aside0.mk ((hb.block p (blk_lt HR9.out)).trans HR9.out)
  have HBr := Aside0.mk (bel2 HB9.out hb)
  have HB4r := Aside0.mk (bel2 HB49.out hb)
  have HB9r := Aside0.mk hb
  clear hb hcR HR9 HB9 HB49 u0 u1
  by_cases b0 : ri < 0
  · have b1 : decide ((ri : Int) < 0) = true := decide_eq_true b0
    have b2 : ((ri : Int) < 0) = True := eq_true b0
    have b3 : decide (0 ≤ ri) = false := decide_eq_false (by omega)
    have b4 : (0 ≤ ri) = False := eq_false (by omega)
    obtain rfl : fb = false := by rw [HGv.out, b3]
    have HRz : Aside0 (R = zR) := ⟨HFZ.out rfl⟩
    clear HFM HFZ b0 hrl HGv
    have r0 := blk_cell HRr.out 0
    have r1 := blk_cell HRr.out 1
    have r2 := blk_cell HRr.out 2
    have r3 := blk_cell HRr.out 3
    have r4 := blk_cell HRr.out 4
    have r5 := blk_cell HRr.out 5
    obtain ⟨wp, ep, hp1, bp, zp, kp⟩ := al1 wr #[.string R.f0, .string R.f1, .string R.f2, .string R.f3, .slice A2 R.f4.length k2, .slice A3 R.f5.length k3] 57
    have HRp := Aside0.mk (kp _ _ HRr.out)
    have HBp := Aside0.mk (bel2 HBr.out bp)
    have HB4p := Aside0.mk (bel2 HB4r.out bp)
    have HEp := Aside0.mk ep
    have HZp := Aside0.mk zp
    have HH1 := Aside0.mk hp1
    obtain ⟨g, hg⟩ : ∃ g, wr.heap.size = g := ⟨_, rfl⟩
    have HGp := Aside0.mk hg
    have hK1 := k57_mk wp R HL2.out (Kd.C_below HC2.out HBp.out) HL3.out (Kd.C_below HC3.out HBp.out)
    have hC1 : Kd.C k57 wp (some ⟨wr.heap.size, 0, none⟩) 1 [R] := C_one hp1 rfl hK1
    have HK1 : Aside0 (k53.K wp (⟨⟨#[]⟩, [R]⟩ : ST) [.string ⟨#[]⟩, .slice (some ⟨wr.heap.size, 0, none⟩) 1 1]) := ⟨k53_mk wp (⟨⟨#[]⟩, [R]⟩ : ST) (Nat.le_refl _) hC1⟩
    clear ep hp1 bp zp kp hg hK1 hC1
    go_upto_region 19 with ((with_reducible refine gate_builtin (b := .append) (xs := #[.tmp 71, .tmp 75]) rfl ?_); (try (refine gate_guard (by rfl) ?_; dsimp only)); at_builtin; rw [HEp.out]; go_must (refine Kd.R_append (Ra.at_ k53 wp) (w0 := wp) wp.heap.size rfl (.tmp 71) (.tmp 75) 41 53 (.agg #[(.string ⟨#[]⟩), (.slice none 0 0)]) 40 rfl Tryd.underlying41 infoT rfl (show 0 < k53.sz by decide) (by omega) (.slice none 0 0) [] (⟨⟨#[]⟩, [R]⟩ : ST) [.string ⟨#[]⟩, .slice (some ⟨wr.heap.size, 0, none⟩) 1 1] (fun _ => True) (fun _ => False) rfl ?bX HK1.out (fun _ hk => hk.elim) (fun _ _ => trivial) (Kd.R_nil _ _ _ _ _) (Below.refl _ _) (Nat.le_refl _) (by simp only [List.length_nil]; omega) ?_); (case bX => first | rfl | (rw [HZp.out]; rfl) | (simp [HZp.out])); intro v10 w10 ho10 hb10 hg10 hat10; rw [List.nil_append] at ho10; obtain ⟨A10, c10, rfl⟩ := Kd.R_slice ho10; have HO10 := Aside0.mk ho10; have HB10 := Aside0.mk hb10; clear ho10 hb10 hg10 hat10)
    have HRq : Aside0 (w10.heap[p]? = some (.cells #[.string R.f0, .string R.f1, .string R.f2, .string R.f3, .slice A2 R.f4.length k2, .slice A3 R.f5.length k3] 57 (0, 0))) := ⟨(HB10.out.block p (blk_lt HRp.out)).trans HRp.out⟩
    have HBq : Aside0 (Below w.heap.size w w10) := ⟨bel2 HBp.out HB10.out⟩
    clear r0 r1 r2 r3 r4 r5
    obtain rfl := HRz.out
    have r0 : w10.cell? ⟨p, 0, none⟩ = some (.string ⟨#[]⟩) := blk_cell HRq.out 0
    have r4 : w10.cell? ⟨p, 4, none⟩ = some (.slice A2 0 k2) := blk_cell HRq.out 4
    have r5 : w10.cell? ⟨p, 5, none⟩ = some (.slice A3 0 k3) := blk_cell HRq.out 5
    go_wp2_with fail
    go_ret
    exact ⟨rfl, HBq.out⟩
  obtain ⟨k, rfl⟩ := Int.eq_ofNat_of_zero_le (show 0 ≤ ri by omega)
  have hk : k < V.f1.length := by omega
  have b1 : decide ((k : Int) < (V.f1.length : Int)) = true := decide_eq_true (by omega)
  have b2 : ((k : Int) < (V.f1.length : Int)) = True := eq_true (by omega)
  have b3 : decide (k < V.f1.length) = true := decide_eq_true (by omega)
  have b4 : (0 ≤ (k : Int)) = True := eq_true (by omega)
  have b5 : decide ((k : Int) < 0) = false := decide_eq_false (by omega)
  have b6 : ((k : Int) < 0) = False := eq_false (by omega)
  have b7 : decide (0 ≤ (k : Int)) = true := decide_eq_true (by omega)
  obtain rfl : fb = true := by rw [HGv.out, b7]
  have HX2 : Aside0 (rd_T78 V.f1 (k : Int) = toR R ∧ WideR R) := ⟨by
    obtain ⟨i', k', h1, hi, h2, hk', h3⟩ := HFM.out rfl
    obtain rfl : i' = i := by omega
    have hVX : V = toT X[i'] := by rw [HVd.out, ← HLm.out, rdT_map X i' hi]
    have hkk : k' = k := by have h5 := HRI.out; rw [hVX] at h5; have h6 : reI ((X[i']).f1.map toR) rel = (k : Int) := h5; omega
    subst hkk
    refine ⟨?_, ?_⟩
    · rw [hVX, h3]; exact rdR_map (X[i']).f1 k' hk'
    · rw [h3]; exact ((HWD.out.2 X[i'] (List.getElem_mem hi)).2 _ (List.getElem_mem hk'))⟩
  obtain ⟨ae, B2, m2, B3, m3, hA, y0, y1, y2, y3, y4, y5, y6, hD2, y7, hD3⟩ := at_T78 (Kd.C_below HCV.out HB9r.out) (k : Int) (by omega) (by omega)
  subst hA
  rw [HX2.out.1] at y0 y1 y2 y3 y4 y5 y6 hD2 y7 hD3
  rw [Int.toNat_natCast] at y0 y1 y2 y3 y4 y5
  have HD2 := Aside0.mk hD2
  have HD3 := Aside0.mk hD3
  have HY6 := Aside0.mk y6
  have HY7 := Aside0.mk y7
  have HY0 := Aside0.mk y0
  have HY1 := Aside0.mk y1
  have HY2 := Aside0.mk y2
  have HY3 := Aside0.mk y3
  have HY4 := Aside0.mk y4
  have HY5 := Aside0.mk y5
  clear HFM HFZ hrl HGv HVd HRI hD2 hD3 y0 y1 y2 y3 y4 y5 y6 y7
  have r0 := blk_cell HRr.out 0
  have r1 := blk_cell HRr.out 1
  have r2 := blk_cell HRr.out 2
  have r3 := blk_cell HRr.out 3
  have r4 := blk_cell HRr.out 4
  have r5 := blk_cell HRr.out 5
  obtain ⟨wp, ep, hp1, bp, zp, kp⟩ := al1 wr #[.string R.f0, .string R.f1, .string R.f2, .string R.f3, .slice A2 R.f4.length k2, .slice A3 R.f5.length k3] 57
  have HRp := Aside0.mk (kp _ _ HRr.out)
  have HBp := Aside0.mk (bel2 HBr.out bp)
  have HB4p := Aside0.mk (bel2 HB4r.out bp)
  have HEp := Aside0.mk ep
  have HZp := Aside0.mk zp
  have HH1 := Aside0.mk hp1
  obtain ⟨g, hg⟩ : ∃ g, wr.heap.size = g := ⟨_, rfl⟩
  have HGp := Aside0.mk hg
  have hK1 := k57_mk wp R HL2.out (Kd.C_below HC2.out HBp.out) HL3.out (Kd.C_below HC3.out HBp.out)
  have hC1 : Kd.C k57 wp (some ⟨wr.heap.size, 0, none⟩) 1 [R] := C_one hp1 rfl hK1
  have HK1 : Aside0 (k53.K wp (⟨⟨#[]⟩, [R]⟩ : ST) [.string ⟨#[]⟩, .slice (some ⟨wr.heap.size, 0, none⟩) 1 1]) := ⟨k53_mk wp (⟨⟨#[]⟩, [R]⟩ : ST) (Nat.le_refl _) hC1⟩
  clear ep hp1 bp zp kp hg hK1 hC1
  go_upto_region 19 with ((with_reducible refine gate_builtin (b := .append) (xs := #[.tmp 71, .tmp 75]) rfl ?_); (try (refine gate_guard (by rfl) ?_; dsimp only)); at_builtin; rw [HEp.out]; go_must (refine Kd.R_append (Ra.at_ k53 wp) (w0 := wp) wp.heap.size rfl (.tmp 71) (.tmp 75) 41 53 (.agg #[(.string ⟨#[]⟩), (.slice none 0 0)]) 40 rfl Tryd.underlying41 infoT rfl (show 0 < k53.sz by decide) (by omega) (.slice none 0 0) [] (⟨⟨#[]⟩, [R]⟩ : ST) [.string ⟨#[]⟩, .slice (some ⟨wr.heap.size, 0, none⟩) 1 1] (fun _ => True) (fun _ => False) rfl ?bX HK1.out (fun _ hk => hk.elim) (fun _ _ => trivial) (Kd.R_nil _ _ _ _ _) (Below.refl _ _) (Nat.le_refl _) (by simp only [List.length_nil]; omega) ?_); (case bX => first | rfl | (rw [HZp.out]; rfl) | (simp [HZp.out])); intro v10 w10 ho10 hb10 hg10 hat10; rw [List.nil_append] at ho10; obtain ⟨A10, c10, rfl⟩ := Kd.R_slice ho10; have HO10 := Aside0.mk ho10; have HB10 := Aside0.mk hb10; clear ho10 hb10 hg10 hat10)
  clear r0 r1 r2 r3 r4 r5
  have HBrq : Aside0 (Below wr.heap.size wr w10) := ⟨by have h1 := HEp.out; rw [← h1] at HB10; exact (below_alloc (Below.refl _ _) _).trans (HB10.out.mono (by simp))⟩
  have hO10 := Kd.R_reads' HO10.out
  have HC10 : Aside0 (Kd.C k53 w10 A10 1 [(⟨⟨#[]⟩, [R]⟩ : ST)]) := ⟨Ra.C_of_at hO10.2.2 HB10.out⟩
  have HBq : Aside0 (Below w.heap.size w w10) := ⟨bel2 HBp.out HB10.out⟩
  have y0 := pw_cell_below HBrq.out HY0.out
  have y1 := pw_cell_below HBrq.out HY1.out
  have y2 := pw_cell_below HBrq.out HY2.out
  have y3 := pw_cell_below HBrq.out HY3.out
  have y4 := pw_cell_below HBrq.out HY4.out
  have y5 := pw_cell_below HBrq.out HY5.out
  have u0 := pw_cell_below (bel2 HB9r.out HBrq.out) HU0.out
  have u1 := pw_cell_below (bel2 HB9r.out HBrq.out) HU1.out
  obtain ⟨wv, ev, hv1, bv, zv, kv⟩ := al1 w10 #[.string (toR R).f0, .string (toR R).f1, .string (toR R).f2, .string (toR R).f3, .slice B2 (toR R).f4.length m2, .slice B3 (toR R).f5.length m3] 78
  have HEv := Aside0.mk ev
  have HZv := Aside0.mk zv
  have HBv := Aside0.mk (bel2 HBq.out bv)
  have HB10v := Aside0.mk bv
  have hK2 := k78_mk wv (toR R) HY6.out (Kd.C_below HD2.out (bel2 HBrq.out bv)) HY7.out (Kd.C_below HD3.out (bel2 HBrq.out bv))
  have hC2 : Kd.C k78 wv (some ⟨w10.heap.size, 0, none⟩) 1 [toR R] := C_one hv1 rfl hK2
  have HK2 : Aside0 (k74.K wv (⟨⟨#[]⟩, [toR R]⟩ : RT) [.string ⟨#[]⟩, .slice (some ⟨w10.heap.size, 0, none⟩) 1 1]) := ⟨k74_mk wv (⟨⟨#[]⟩, [toR R]⟩ : RT) (Nat.le_refl _) hC2⟩
  clear ev hv1 bv zv kv hK2 hC2 hO10
  go_upto_region 23 with ((with_reducible refine gate_builtin (b := .append) (xs := #[.tmp 92, .tmp 103]) rfl ?_); (try (refine gate_guard (by rfl) ?_; dsimp only)); at_builtin; rw [HEv.out]; go_must (refine Kd.R_append (Ra.at_ k74 wv) (w0 := wv) wv.heap.size rfl (.tmp 92) (.tmp 103) 46 74 (.agg #[(.string ⟨#[]⟩), (.slice none 0 0)]) 40 rfl Tryd.underlying46 info74 rfl (show 0 < k74.sz by decide) (by omega) (.slice none 0 0) [] (⟨⟨#[]⟩, [toR R]⟩ : RT) [.string ⟨#[]⟩, .slice (some ⟨w10.heap.size, 0, none⟩) 1 1] (fun _ => True) (fun _ => False) rfl ?cX HK2.out (fun _ hk => hk.elim) (fun _ _ => trivial) (Kd.R_nil _ _ _ _ _) (Below.refl _ _) (Nat.le_refl _) (by simp only [List.length_nil]; omega) ?_); (case cX => first | rfl | (rw [HZv.out]; rfl) | (simp [HZv.out])); intro v12 w12 ho12 hb12 hg12 hat12; rw [List.nil_append] at ho12; obtain ⟨A12, c12, rfl⟩ := Kd.R_slice ho12; have HO12 := Aside0.mk ho12; have HB12 := Aside0.mk hb12; clear ho12 hb12 hg12 hat12)
  have hO12 := Kd.R_reads' HO12.out
  have HC12 : Aside0 (Kd.C k74 w12 A12 1 [(⟨⟨#[]⟩, [toR R]⟩ : RT)]) := ⟨Ra.C_of_at hO12.2.2 HB12.out⟩
  have HB13 : Aside0 (Below w.heap.size w w12) := ⟨bel2 HBv.out HB12.out⟩
  have HC11 : Aside0 (Kd.C k53 w12 A10 1 [(⟨⟨#[]⟩, [R]⟩ : ST)]) := ⟨Kd.C_below HC10.out (bel2 HB10v.out HB12.out)⟩
  clear y0 y1 y2 y3 y4 y5 u0 u1 hO12
  have hsm : Small [(⟨⟨#[]⟩, [R]⟩ : ST)] := ⟨by simp, fun t ht => by
    obtain rfl := List.mem_singleton.1 ht
    exact ⟨by simp, fun r hr => by obtain rfl := List.mem_singleton.1 hr; exact HX2.out.2⟩⟩
  have HSM := Aside0.mk hsm
  clear hsm
  go_wp2_with fail
  refine (O9.doormanlaw09_of.walk_ A10 c10 [(⟨⟨#[]⟩, [R]⟩ : ST)] w12 HC11.out HSM.out).mono ?_
  rintro e w14 ⟨v14, rfl, hR14, hb⟩
  obtain ⟨A14, c14, rfl⟩ := Kd.R_slice hR14
  have HC14 : Aside0 (Kd.C k74 w14 A14 1 [(⟨⟨#[]⟩, [toR R]⟩ : RT)]) := ⟨(Kd.R_reads' hR14).2.2⟩
  have HB14 := Aside0.mk (bel2 HB13.out hb)
  have HC15 := Aside0.mk (Kd.C_below HC12.out hb)
  clear hb hR14
  go_wp2_with fail
  refine (Sm.Same_c [(⟨⟨#[]⟩, [toR R]⟩ : RT)] A14 c14 A12 c12 w14 HC14.out HC15.out).mono ?_
  rintro e w15 ⟨rfl, hb⟩
  have HB15 := Aside0.mk (bel2 HB14.out hb)
  clear hb
  go_wp2_with fail
  go_ret
  exact ⟨rfl, HB15.out⟩
end Go.Proofs.YtkgnhghaiopgcaaDoor.Wk
