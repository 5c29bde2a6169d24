/- doormanlaw14.SpansOnce answers true; no condition. -/
import Derived.Test.YthpcplpannbipaaUf
set_option linter.unusedVariables false
set_option linter.unusedSimpArgs false
set_option linter.unusedSectionVars false
namespace Go.Proofs.Ythpcplpannbipaa.Wk
open Go.RowKit Go.Maps Go.MapKept Go.Proofs.YthpcplpannbipaaW.PrintWords Go.Proofs.YthpcplpannbipaaW.PrintLast Go.Proofs.Ythpcplpannbipaa.X Go.Proofs.Ythpcplpannbipaa.Kx Go.Proofs.Ythpcplpannbipaa.Mp Go.Proofs.Ythpcplpannbipaa.Mq Go.Proofs.Ythpcplpannbipaa.Sq Go.Proofs.Ythpcplpannbipaa.Mb Go.Proofs.Ythpcplpannbipaa.Maps Go.Proofs.Ythpcplpannbipaa.Sa
set_option maxHeartbeats 16000000 in
set_option maxRecDepth 100000 in
theorem SpansOnce (a0 : Option Addr) (len0 cap0 : Nat) (z0 : List Ac) (key : ByteArray) (a b : Int) (w : World) (w0 : Ro.Row k56 Ro.ZA w a0 len0 cap0 z0) (w1 : key.size ≤ 140737488351232) (w2 : (Lit.int .i64 a).wf = true) (w3 : (Lit.int .i64 b).wf = true) :
    Calls Try.prog 11 #[.slice a0 len0 cap0, .string key, .int .i64 a, .int .i64 b] w fun e w' => e = .returned (.bool true) ∧ Below w.heap.size w w' := by
  obtain rfl := w0.hl
  have HC := Aside0.mk w0.hC
  have HCAP := Aside0.mk w0.hc
  have HWA := Aside0.mk w2
  have HWB := Aside0.mk w3
  clear w0 w1 w2 w3
  go_enter Try.func11, Try.ntmps11
  go_wp2_with fail
  refine (awake_c w).mono ?_
  rintro e wa ⟨rfl, hba⟩
  have HBA := Aside0.mk hba
  have HCA : Aside0 (Acts wa a0 z0) := ⟨Kd.C_below HC.out hba⟩
  clear hba
  go_wp2_with fail
  refine (few_c HCA.out HCAP.out).mono ?_
  rintro e wb ⟨rfl, hbb⟩
  have HBB : Aside0 (Below w.heap.size w wb) := ⟨HBA.out.trans (hbb.mono HBA.out.size)⟩
  clear hbb
  obtain ⟨r0, hr0⟩ : ∃ r, fewP z0 = r := ⟨_, rfl⟩
  obtain ⟨r1, hr1⟩ : ∃ r, decide (a < 1) = r := ⟨_, rfl⟩
  obtain ⟨r2, hr2⟩ : ∃ r, decide (b ≤ a) = r := ⟨_, rfl⟩
  obtain ⟨r3, hr3⟩ : ∃ r, decide (1000000 < b) = r := ⟨_, rfl⟩
  obtain ⟨r4, hr4⟩ : ∃ r, decide (40 < (key.size : Int)) = r := ⟨_, rfl⟩
  rw [hr0]
  cases r0 with
  | false =>
    clear hr0
    go_wp2
    go_ret
    exact ⟨rfl, HBB.out⟩
  | true =>
  cases r1 with
  | true =>
    go_wp2
    go_ret
    exact ⟨rfl, HBB.out⟩
  | false =>
  cases r2 with
  | true =>
    go_wp2
    go_ret
    exact ⟨rfl, HBB.out⟩
  | false =>
  cases r3 with
  | true =>
    go_wp2
    go_ret
    exact ⟨rfl, HBB.out⟩
  | false =>
  cases r4 with
  | true =>
    go_wp2
    go_ret
    exact ⟨rfl, HBB.out⟩
  | false =>
  have HFEW := Aside0.mk hr0
  have HA : Aside0 (1 ≤ a ∧ a < b ∧ b ≤ 1000000 ∧ key.size ≤ 40) := ⟨by simp only [decide_eq_false_iff_not] at hr1 hr2 hr3 hr4; omega⟩
  clear hr0
  go_wp2_with fail
  refine (new_h wb).mono ?_
  rintro e wc ⟨bb, ok0, rfl, hs0, hok0, hbc⟩
  have HS0 := Aside0.mk hs0
  have HOK0 : Aside0 (∀ m, ok0 m → w.heap.size ≤ m) := ⟨fun m hm => Nat.le_trans HBB.out.size (hok0 m hm)⟩
  have HB0 : Aside0 (Below w.heap.size w wc) := ⟨HBB.out.trans (hbc.mono HBB.out.size)⟩
  clear hs0 hok0 hbc hr1 hr2 hr3 hr4
  obtain ⟨nn, hnn⟩ : ∃ n, z0.length = n := ⟨_, rfl⟩
  have HNN := Aside0.mk hnn
  have HN60 : Aside0 (nn ≤ 60) := ⟨by have := few_len HFEW.out; omega⟩
  rw [hnn]
  clear hnn
  go_wp2_with fail
  go_loopg [12, 13] nn (fun kq v12 v13 wr => ∃ (j : Nat) (last : Int) (n : Nat) (ok : Nat → Prop) (s : St ByteArray), v12 = .int .i64 last ∧ v13 = .int .i64 j ∧ Aside0 (j + kq = nn ∧ n ≤ j) ∧ Aside0 (Hs wr ok bb s n) ∧ Aside0 (∀ m, ok m → w.heap.size ≤ m) ∧ Aside0 (Below w.heap.size w wr) ∧ Aside0 (Once s key a) ∧ Aside0 (last < a))
  case atStart => exact ⟨0, 0, 0, ok0, ⟨[], 0⟩, rfl, rfl, ⟨by omega⟩, HS0, HOK0, HB0, ⟨once_new key HA.out.1⟩, ⟨by have := HA.out.1; omega⟩⟩
  case round =>
    obtain ⟨j, last, n, ok, s, h12, h13, HJ, HS, HOK, HB, HO, HL⟩ := hrel
    rename World => wr
    subst h12
    subst h13
    cases gk with
    | succ kq =>
      have hj : j < nn := by have := HJ.out.1; omega
      have p1 : decide ((j : Int) < (nn : Int)) = true := decide_eq_true (by omega)
      have p2 : ((j : Int) < (nn : Int)) = True := eq_true (by omega)
      have p5 : decide ((j : Int) < 0) = false := decide_eq_false (by omega)
      have p6 : (0 ≤ (j : Int)) = True := eq_true (by omega)
      have p9 : (j < nn) = True := eq_true hj
      have hjx : j < z0.length := by rw [HNN.out]; exact hj
      obtain ⟨ad, rfl, q0, q1, q2⟩ := act_cells (Kd.C_below HC.out HB.out) j hjx
      obtain ⟨x, hx⟩ : ∃ x, z0[j] = x := ⟨_, rfl⟩
      rw [hx] at q0 q1 q2
      have hfx := few_at HFEW.out (x := x) (by rw [← hx]; exact List.getElem_mem _)
      have HFX := Aside0.mk hfx
      have HWR : Aside0 (wrap64 ((j : Int) + 1) = ((j + 1 : Nat) : Int)) := ⟨by have := HN60.out; unfold wrap64; omega⟩
      have HJN := Aside0.mk hj
      have HQ := Aside0.mk (And.intro q1 q2)
      have hxj : z0[j]? = some x := by rw [List.getElem?_eq_getElem hjx, hx]
      have HX := Aside0.mk hxj
      clear hfx hx hxj hjx hj
      by_cases hk : x.f1 = key
      · have k0 : (x.f1.toList == key.toList) = true := by rw [hk]; simp
        have k1 : (x.f1.toList = key.toList) = True := by rw [hk]; simp
        clear hk
        go_wp2_with fail
        go_roundg kq
        case measure => omega
        case rel => exact ⟨j + 1, last, n, ok, s, rfl, by rw [HWR.out], ⟨by have := HJ.out; omega⟩, HS, HOK, HB, HO, HL⟩
      · have hkl : x.f1.toList ≠ key.toList := fun e => hk (ByteArray.ext (Array.toList_inj.1 (by rw [← Lib.toList_data, ← Lib.toList_data, e])))
        have k0 : (x.f1.toList == key.toList) = false := beq_eq_false_iff_ne.2 hkl
        have k1 : (x.f1.toList = key.toList) = False := eq_false hkl
        have HK := Aside0.mk hk
        clear hkl hk
        by_cases hlt : x.f2 < a
        · have d1 : decide (x.f2 < a) = true := decide_eq_true hlt
          have HLT := Aside0.mk hlt
          clear hlt
          go_upto_region 13 with (fail)
          have HSd : Aside0 (Hs wr.drew ok bb s n) := ⟨HS.out.move (fun _ _ => rfl) (Nat.le_refl _)⟩
          have HBd : Aside0 (Below w.heap.size w wr.drew) := ⟨HB.out.drew⟩
          have HFN : Aside0 (n ≤ 900000 ∧ x.f1.size ≤ 1000) := ⟨by have := HJ.out; have := HN60.out; have := HJN.out; have := HFX.out; omega⟩
          refine start_ (n := 12) (S := fun w' => w'.cell? ⟨(ad.add (j * 3)).block, (ad.add (j * 3)).off + 1, none⟩ = some (.string x.f1) ∧ w'.cell? ⟨(ad.add (j * 3)).block, (ad.add (j * 3)).off + 2, none⟩ = some (.int .i64 x.f2)) (ds := [11]) #[false, false, false, false, false, false, false, false, false, false, false, false] (by kernel_rfl) rfl rfl ⟨HQ.out.1, HQ.out.2⟩ (fun hHeld => ?_)
          generalize wr.drew = w7 at HSd HBd hHeld ⊢
          refine pure_ (i := 0) (N := some 63) (v := ?_) (a' := ?_) #[true, false, false, false, false, false, false, false, false, false, false, false] rfl rfl (by kernel_rfl) (fun _ _ _ h => h) (Or.inl ⟨by rfl, ?_⟩) ?_ ?_
          rotate_left
          · intro w'
            go_simp
            with_reducible rfl
          rotate_left
          · simp only [Act.put, List.setIfInBounds_toArray, List.set_cons_zero, List.set_cons_succ, i64_w, i32_w]
            rfl
          refine pure_ (i := 1) (N := some 64) (v := ?_) (a' := ?_) #[true, true, false, false, false, false, false, false, false, false, false, false] rfl rfl (by kernel_rfl) (fun _ _ _ h => h) (Or.inl ⟨by rfl, ?_⟩) ?_ ?_
          rotate_left
          · intro w'
            go_simp
            with_reducible rfl
          rotate_left
          · simp only [Act.put, List.setIfInBounds_toArray, List.set_cons_zero, List.set_cons_succ, i64_w, i32_w]
            rfl
          refine pure_ (i := 2) (N := some 65) (v := ?_) (a' := ?_) #[true, true, true, false, false, false, false, false, false, false, false, false] rfl rfl (by kernel_rfl) (fun _ _ _ h => h) (Or.inl ⟨by rfl, ?_⟩) ?_ ?_
          rotate_left
          · intro w'
            go_simp
            with_reducible rfl
          rotate_left
          · simp only [Act.put, List.setIfInBounds_toArray, List.set_cons_zero, List.set_cons_succ, i64_w, i32_w]
            rfl
          refine pure_ (i := 3) (N := some 66) (v := ?_) (a' := ?_) #[true, true, true, true, false, false, false, false, false, false, false, false] rfl rfl (by kernel_rfl) (fun _ _ _ h => h) (Or.inl ⟨by rfl, ?_⟩) ?_ ?_
          rotate_left
          · intro w'
            go_simp
            with_reducible rfl
          rotate_left
          · simp only [Act.put, List.setIfInBounds_toArray, List.set_cons_zero, List.set_cons_succ, i64_w, i32_w]
            rfl
          refine pure_ (i := 4) (N := some 67) (v := ?_) (a' := ?_) #[true, true, true, true, true, false, false, false, false, false, false, false] rfl rfl (by kernel_rfl) (fun _ _ _ h => h) (Or.inl ⟨by rfl, ?_⟩) ?_ ?_
          rotate_left
          · intro w'
            go_simp
            with_reducible rfl
          rotate_left
          · simp only [Act.put, List.setIfInBounds_toArray, List.set_cons_zero, List.set_cons_succ, i64_w, i32_w]
            rfl
          refine pure_ (i := 6) (N := some 69) (v := ?_) (a' := ?_) #[true, true, true, true, true, false, true, false, false, false, false, false] rfl rfl (by kernel_rfl) (fun _ _ _ h => h) (Or.inl ⟨by rfl, ?_⟩) ?_ ?_
          rotate_left
          · intro w'
            go_simp
            with_reducible rfl
          rotate_left
          · simp only [Act.put, List.setIfInBounds_toArray, List.set_cons_zero, List.set_cons_succ, i64_w, i32_w]
            rfl
          refine pure_ (i := 7) (N := some 70) (v := ?_) (a' := ?_) #[true, true, true, true, true, false, true, true, false, false, false, false] rfl rfl (by kernel_rfl) (fun _ _ _ h => h) (Or.inl ⟨by rfl, ?_⟩) ?_ ?_
          rotate_left
          · intro w'
            go_simp
            with_reducible rfl
          rotate_left
          · simp only [Act.put, List.setIfInBounds_toArray, List.set_cons_zero, List.set_cons_succ, i64_w, i32_w]
            rfl
          refine pure_ (i := 8) (N := some 71) (v := ?_) (a' := ?_) #[true, true, true, true, true, false, true, true, true, false, false, false] rfl rfl (by kernel_rfl) (fun _ _ _ h => h) (Or.inl ⟨by rfl, ?_⟩) ?_ ?_
          rotate_left
          · intro w'
            go_simp
            with_reducible rfl
          rotate_left
          · simp only [Act.put, List.setIfInBounds_toArray, List.set_cons_zero, List.set_cons_succ, i64_w, i32_w]
            rfl
          refine pure_ (i := 9) (N := some 72) (v := ?_) (a' := ?_) #[true, true, true, true, true, false, true, true, true, true, false, false] rfl rfl (by kernel_rfl) (fun _ _ _ h => h) (Or.inl ⟨by rfl, ?_⟩) ?_ ?_
          rotate_left
          · intro w'
            go_simp
            with_reducible rfl
          rotate_left
          · simp only [Act.put, List.setIfInBounds_toArray, List.set_cons_zero, List.set_cons_succ, i64_w, i32_w]
            rfl
          refine take_ (i := 5) (N := some 68) (v := ?_) (a' := ?_) #[true, true, true, true, true, true, true, true, true, true, false, false] rfl rfl (by kernel_rfl) (fun _ _ _ h => h) (Or.inl ⟨by rfl, ?_⟩) hHeld ?_ ?_
          rotate_left
          · rintro w' ⟨s0, s1⟩
            go_simp
            with_reducible rfl
          rotate_left
          · simp only [Act.put, List.setIfInBounds_toArray, List.set_cons_zero, List.set_cons_succ, i64_w, i32_w]
            rfl
          refine take_ (i := 10) (N := some 73) (v := ?_) (a' := ?_) #[true, true, true, true, true, true, true, true, true, true, true, false] rfl rfl (by kernel_rfl) (fun _ _ _ h => h) (Or.inl ⟨by rfl, ?_⟩) hHeld ?_ ?_
          rotate_left
          · rintro w' ⟨s0, s1⟩
            go_simp
            with_reducible rfl
          rotate_left
          · simp only [Act.put, List.setIfInBounds_toArray, List.set_cons_zero, List.set_cons_succ, i64_w, i32_w]
            rfl
          refine last_ (i := 11) (N := some 74) #[true, true, true, true, true, true, true, true, true, true, true, true] rfl rfl (by kernel_rfl) (by decide) (fun K hK => ?_)
          refine goes_ Try.func26 (by kernel_rfl) rfl #[.pointer (some ⟨bb, 0, none⟩), .string x.f1, .int .i64 x.f2] (by rfl) rfl rfl (by simp only [List.map_toArray, List.map_cons, List.map_nil]; rfl) ?_
          with_reducible refine (put_h HSd.out HFN.out.1 HFN.out.2 x.f2).mono ?_
          rintro e w8 ⟨rfl, ⟨ok8, hs8, hok8⟩, hf8⟩
          refine ⟨_, rfl, ?_⟩
          have HS8 := Aside0.mk hs8
          have HOK8 : Aside0 (∀ m, ok8 m → w.heap.size ≤ m) := ⟨fun m hm => (hok8 m hm).elim (HOK.out m) (fun h => Nat.le_trans HBd.out.size h)⟩
          have HB8 : Aside0 (Below w.heap.size w w8) := ⟨HBd.out.trans (hf8.below_of HBd.out.size HOK.out)⟩
          clear hs8 hok8 hf8 hHeld
          refine hK.out _ _ ?_
          clear hK K
          refine norm_ (a' := ?_) ?_ ?_
          rotate_left
          · show Act.put _ (some 74) _ = _
            simp only [Act.put, List.setIfInBounds_toArray, List.set_cons_zero, List.set_cons_succ, i64_w, i32_w]
            rfl
          refine done_ (by kernel_rfl) ?_
          obtain ⟨r8, hr8⟩ : ∃ r, (putS blt s x.f1 x.f2).2 = r := ⟨_, rfl⟩
          rw [hr8]
          have HO8 := Aside0.mk (HO.out.put HK.out HLT.out)
          obtain ⟨_, had, u0, u1, u2⟩ := act_cells (Kd.C_below HC.out HB8.out) j (by rw [HNN.out]; exact HJN.out)
          obtain rfl := Option.some.inj had
          rw [Option.some.inj ((List.getElem?_eq_getElem (show j < z0.length by rw [HNN.out]; exact HJN.out)).symm.trans HX.out)] at u2
          clear had u0 u1 q0 q1 q2 hr8
          cases r8 with
          | true =>
            go_wp2_with fail
            go_roundg kq
            case measure => omega
            case rel => exact ⟨j + 1, x.f2, n + 1, ok8, _, rfl, by rw [HWR.out], ⟨by have := HJ.out; omega⟩, HS8, HOK8, HB8, HO8, HLT⟩
          | false =>
            go_wp2_with fail
            go_roundg kq
            case measure => omega
            case rel => exact ⟨j + 1, last, n + 1, ok8, _, rfl, by rw [HWR.out], ⟨by have := HJ.out; omega⟩, HS8, HOK8, HB8, HO8, HL⟩
        · have d1 : decide (x.f2 < a) = false := decide_eq_false hlt
          clear hlt
          go_wp2_with fail
          go_roundg kq
          case measure => omega
          case rel => exact ⟨j + 1, last, n, ok, s, rfl, by rw [HWR.out], ⟨by have := HJ.out; omega⟩, HS, HOK, HB, HO, HL⟩
    | zero =>
      obtain rfl : j = nn := by have := HJ.out.1; omega
      have p1 : decide ((j : Int) < (j : Int)) = false := decide_eq_false (by omega)
      have p2 : ((j : Int) < (j : Int)) = False := eq_false (by omega)
      have hn : n ≤ 100 := by have := HJ.out; have := HN60.out; omega
      obtain ⟨s1, s2, s3, s4, f1, f2, f3, f4, f5, f6, f7, f8, f9, f10, f11, f12, f13, f14, f15, f16, f17, f18⟩ := once_all HO.out HA.out.1 HA.out.2.1
      have HF := Aside0.mk (And.intro f1 (And.intro f2 (And.intro f3 (And.intro f4 (And.intro f5 (And.intro f6 (And.intro f7 (And.intro f8 (And.intro f9 (And.intro f10 (And.intro f11 (And.intro f12 (And.intro f13 (And.intro f14 (And.intro f15 (And.intro f16 (And.intro f17 f18)))))))))))))))))
      clear f1 f2 f3 f4 f5 f6 f7 f8 f9 f10 f11 f12 f13 f14 f15 f16 f17 f18
      obtain ⟨cn, hcn⟩ : ∃ c, countS s a = c := ⟨_, rfl⟩
      have hcl : cn ≤ 1000 := by have := List.countP_le_length (p := fun p : ByteArray × Sp => holds a p.2) (l := flat s.g); have := HS.out.few.len; rw [← hcn]; unfold countS; omega
      rw [hcn] at HF
      have HN := Aside0.mk hn
      have HK40 : Aside0 (key.size ≤ 1000) := ⟨by have := HA.out.2.2.2; omega⟩
      have d1 : decide (a < last) = false := decide_eq_false (by have := HL.out; omega)
      have d2 : (a < last) = False := eq_false (by have := HL.out; omega)
      have HW1 : Aside0 (wrap64 (a - 1) = a - 1) := ⟨by have := HA.out; unfold wrap64; omega⟩
      have HW2 : Aside0 (wrap64 (b - 1) = b - 1) := ⟨by have := HA.out; unfold wrap64; omega⟩
      have HW3 : Aside0 (wrap64 ((cn : Int) + 1) = ((cn + 1 : Nat) : Int)) := ⟨by unfold wrap64; omega⟩
      clear hn hcl
      have H0 := HS
      have D0 := HB
      have O0 := HOK
      go_wp2_with fail
      refine (count_h H0.out (by have := HN.out; omega) a).mono ?_
      rw [hcn]
      rintro e v1 ⟨rfl, hb⟩
      have H1 := Aside0.mk (H0.out.below hb)
      have D1 : Aside0 (Below w.heap.size w v1) := ⟨D0.out.trans (hb.mono D0.out.size)⟩
      have O1 := O0
      clear hb hcn
      go_wp2_with fail
      refine (put_h H1.out (by have := HN.out; omega) HK40.out a).mono ?_
      rw [HF.out.1]
      rintro e v2 ⟨rfl, ⟨oka, hs, hok⟩, hf⟩
      have H2 : Aside0 (Hs v2 oka bb s1 (n + 1)) := ⟨hs⟩
      have O2 : Aside0 (∀ m, oka m → w.heap.size ≤ m) := ⟨fun m hm => (hok m hm).elim (O1.out m) (fun h => Nat.le_trans D1.out.size h)⟩
      have D2 : Aside0 (Below w.heap.size w v2) := ⟨D1.out.trans (hf.below_of D1.out.size O1.out)⟩
      clear hs hok hf
      go_wp2_with fail
      refine (put_h H2.out (by have := HN.out; omega) HK40.out a).mono ?_
      rw [HF.out.2.1]
      rintro e v3 ⟨rfl, ⟨okb, hs, hok⟩, hf⟩
      have H3 : Aside0 (Hs v3 okb bb s1 (n + 1 + 1)) := ⟨hs⟩
      have O3 : Aside0 (∀ m, okb m → w.heap.size ≤ m) := ⟨fun m hm => (hok m hm).elim (O2.out m) (fun h => Nat.le_trans D2.out.size h)⟩
      have D3 : Aside0 (Below w.heap.size w v3) := ⟨D2.out.trans (hf.below_of D2.out.size O2.out)⟩
      clear hs hok hf
      go_wp2_with fail
      refine (put_h H3.out (by have := HN.out; omega) HK40.out b).mono ?_
      rw [HF.out.2.2.1]
      rintro e v4 ⟨rfl, ⟨okc, hs, hok⟩, hf⟩
      have H4 : Aside0 (Hs v4 okc bb s1 (n + 1 + 1 + 1)) := ⟨hs⟩
      have O4 : Aside0 (∀ m, okc m → w.heap.size ≤ m) := ⟨fun m hm => (hok m hm).elim (O3.out m) (fun h => Nat.le_trans D3.out.size h)⟩
      have D4 : Aside0 (Below w.heap.size w v4) := ⟨D3.out.trans (hf.below_of D3.out.size O3.out)⟩
      clear hs hok hf
      go_wp2_with fail
      refine (has_h H4.out key a).mono ?_
      rw [HF.out.2.2.2.1]
      rintro e v5 ⟨rfl, hb⟩
      have H5 := Aside0.mk (H4.out.below hb)
      have D5 : Aside0 (Below w.heap.size w v5) := ⟨D4.out.trans (hb.mono D4.out.size)⟩
      have O5 := O4
      clear hb
      go_wp2_with fail
      rw [HW1.out]
      refine (has_h H5.out key (a - 1)).mono ?_
      rw [HF.out.2.2.2.2.1]
      rintro e v6 ⟨rfl, hb⟩
      have H6 := Aside0.mk (H5.out.below hb)
      have D6 : Aside0 (Below w.heap.size w v6) := ⟨D5.out.trans (hb.mono D5.out.size)⟩
      have O6 := O5
      clear hb
      go_wp2_with fail
      refine (has_h H6.out key b).mono ?_
      rw [HF.out.2.2.2.2.2.1]
      rintro e v7 ⟨rfl, hb⟩
      have H7 := Aside0.mk (H6.out.below hb)
      have D7 : Aside0 (Below w.heap.size w v7) := ⟨D6.out.trans (hb.mono D6.out.size)⟩
      have O7 := O6
      clear hb
      go_wp2_with fail
      refine (count_h H7.out (by have := HN.out; omega) a).mono ?_
      rw [HF.out.2.2.2.2.2.2.1]
      rintro e v8 ⟨rfl, hb⟩
      have H8 := Aside0.mk (H7.out.below hb)
      have D8 : Aside0 (Below w.heap.size w v8) := ⟨D7.out.trans (hb.mono D7.out.size)⟩
      have O8 := O7
      clear hb
      rw [show (((cn : Nat) + 1 : Nat) : Int) = wrap64 ((cn : Int) + 1) from HW3.out.symm]
      go_wp2_with fail
      refine (drop_h H8.out (by have := HN.out; omega) HK40.out a).mono ?_
      rw [HF.out.2.2.2.2.2.2.2.1]
      rintro e v9 ⟨rfl, hs, hf⟩
      have H9 : Aside0 (Hs v9 okc bb s1 (n + 1 + 1 + 1)) := ⟨hs⟩
      have O9 := O8
      have D9 : Aside0 (Below w.heap.size w v9) := ⟨D8.out.trans (hf.below_of D8.out.size O8.out)⟩
      clear hs hf
      go_wp2_with fail
      refine (drop_h H9.out (by have := HN.out; omega) HK40.out b).mono ?_
      rw [HF.out.2.2.2.2.2.2.2.2.1]
      rintro e v10 ⟨rfl, hs, hf⟩
      have H10 : Aside0 (Hs v10 okc bb s2 (n + 1 + 1 + 1)) := ⟨hs⟩
      have O10 := O9
      have D10 : Aside0 (Below w.heap.size w v10) := ⟨D9.out.trans (hf.below_of D9.out.size O9.out)⟩
      clear hs hf
      go_wp2_with fail
      refine (drop_h H10.out (by have := HN.out; omega) HK40.out b).mono ?_
      rw [HF.out.2.2.2.2.2.2.2.2.2.1]
      rintro e v11 ⟨rfl, hs, hf⟩
      have H11 : Aside0 (Hs v11 okc bb s2 (n + 1 + 1 + 1)) := ⟨hs⟩
      have O11 := O10
      have D11 : Aside0 (Below w.heap.size w v11) := ⟨D10.out.trans (hf.below_of D10.out.size O10.out)⟩
      clear hs hf
      go_wp2_with fail
      refine (has_h H11.out key b).mono ?_
      rw [HF.out.2.2.2.2.2.2.2.2.2.2.1]
      rintro e v12 ⟨rfl, hb⟩
      have H12 := Aside0.mk (H11.out.below hb)
      have D12 : Aside0 (Below w.heap.size w v12) := ⟨D11.out.trans (hb.mono D11.out.size)⟩
      have O12 := O11
      clear hb
      go_wp2_with fail
      rw [HW2.out]
      refine (has_h H12.out key (b - 1)).mono ?_
      rw [HF.out.2.2.2.2.2.2.2.2.2.2.2.1]
      rintro e v13 ⟨rfl, hb⟩
      have H13 := Aside0.mk (H12.out.below hb)
      have D13 : Aside0 (Below w.heap.size w v13) := ⟨D12.out.trans (hb.mono D12.out.size)⟩
      have O13 := O12
      clear hb
      go_wp2_with fail
      refine (count_h H13.out (by have := HN.out; omega) b).mono ?_
      rw [HF.out.2.2.2.2.2.2.2.2.2.2.2.2.1]
      rintro e v14 ⟨rfl, hb⟩
      have H14 := Aside0.mk (H13.out.below hb)
      have D14 : Aside0 (Below w.heap.size w v14) := ⟨D13.out.trans (hb.mono D13.out.size)⟩
      have O14 := O13
      clear hb
      go_wp2_with fail
      refine (put_h H14.out (by have := HN.out; omega) HK40.out b).mono ?_
      rw [HF.out.2.2.2.2.2.2.2.2.2.2.2.2.2.1]
      rintro e v15 ⟨rfl, ⟨okd, hs, hok⟩, hf⟩
      have H15 : Aside0 (Hs v15 okd bb s3 (n + 1 + 1 + 1 + 1)) := ⟨hs⟩
      have O15 : Aside0 (∀ m, okd m → w.heap.size ≤ m) := ⟨fun m hm => (hok m hm).elim (O14.out m) (fun h => Nat.le_trans D14.out.size h)⟩
      have D15 : Aside0 (Below w.heap.size w v15) := ⟨D14.out.trans (hf.below_of D14.out.size O14.out)⟩
      clear hs hok hf
      go_wp2_with fail
      refine (has_h H15.out key b).mono ?_
      rw [HF.out.2.2.2.2.2.2.2.2.2.2.2.2.2.2.1]
      rintro e v16 ⟨rfl, hb⟩
      have H16 := Aside0.mk (H15.out.below hb)
      have D16 : Aside0 (Below w.heap.size w v16) := ⟨D15.out.trans (hb.mono D15.out.size)⟩
      have O16 := O15
      clear hb
      go_wp2_with fail
      refine (trim_h H16.out (by have := HN.out; omega) b).mono ?_
      rw [HF.out.2.2.2.2.2.2.2.2.2.2.2.2.2.2.2.1]
      rintro e v17 ⟨rfl, hs, hf⟩
      have H17 : Aside0 (Hs v17 okd bb s4 (n + 1 + 1 + 1 + 1)) := ⟨hs⟩
      have O17 := O16
      have D17 : Aside0 (Below w.heap.size w v17) := ⟨D16.out.trans (hf.below_of D16.out.size O16.out)⟩
      clear hs hf
      go_wp2_with fail
      refine (count_h H17.out (by have := HN.out; omega) b).mono ?_
      rw [HF.out.2.2.2.2.2.2.2.2.2.2.2.2.2.2.2.2.1]
      rintro e v18 ⟨rfl, hb⟩
      have H18 := Aside0.mk (H17.out.below hb)
      have D18 : Aside0 (Below w.heap.size w v18) := ⟨D17.out.trans (hb.mono D17.out.size)⟩
      have O18 := O17
      clear hb
      rw [show (((cn : Nat) + 1 : Nat) : Int) = wrap64 ((cn : Int) + 1) from HW3.out.symm]
      go_wp2_with fail
      refine (has_h H18.out key b).mono ?_
      rw [HF.out.2.2.2.2.2.2.2.2.2.2.2.2.2.2.2.2.2]
      rintro e v19 ⟨rfl, hb⟩
      have H19 := Aside0.mk (H18.out.below hb)
      have D19 : Aside0 (Below w.heap.size w v19) := ⟨D18.out.trans (hb.mono D18.out.size)⟩
      have O19 := O18
      clear hb
      go_wp2
      go_ret
      exact ⟨rfl, D19.out⟩
end Go.Proofs.Ythpcplpannbipaa.Wk
