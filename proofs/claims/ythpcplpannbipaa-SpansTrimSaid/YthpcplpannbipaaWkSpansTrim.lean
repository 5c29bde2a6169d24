/- doormanlaw14.SpansTrim answers true; no condition. -/
import Derived.Test.YthpcplpannbipaaUi
import Derived.Test.YthpcplpannbipaaUg
import Derived.WalkMore
import Derived.OwnWalk
import Derived.Deep.DeepMust
set_option linter.unusedVariables false
set_option linter.unusedSimpArgs false
set_option linter.unusedSectionVars false
namespace Go.Proofs.Ythpcplpannbipaa.Wk
open Go.RowKit Go.Maps Go.MapKept Go.Proofs.YthpcplpannbipaaW.PrintWords Go.Proofs.YthpcplpannbipaaW.PrintLast Go.Proofs.Ythpcplpannbipaa.X Go.Proofs.Ythpcplpannbipaa.Kx Go.Proofs.Ythpcplpannbipaa.Mp Go.Proofs.Ythpcplpannbipaa.Mq Go.Proofs.Ythpcplpannbipaa.Sq Go.Proofs.Ythpcplpannbipaa.Mb Go.Proofs.Ythpcplpannbipaa.Maps Go.Proofs.Ythpcplpannbipaa.Sa
set_option maxHeartbeats 16000000 in
set_option maxRecDepth 100000 in
theorem SpansTrim (a0 : Option Addr) (len0 cap0 : Nat) (z0 : List Ac) (rev : Int) (a2 : Option Addr) (len2 cap2 : Nat) (z2 : List Int) (w : World) (w0 : Ro.Row k56 Ro.ZA w a0 len0 cap0 z0) (w1 : (Lit.int .i64 rev).wf = true) (w2 : Ro.Row (Kd.int .i64) (fun n => (Lit.int .i64 n).wf = true) w a2 len2 cap2 z2) :
    Calls Try.prog 10 #[.slice a0 len0 cap0, .int .i64 rev, .slice a2 len2 cap2] w fun e w' => e = .returned (.bool true) ∧ Below w.heap.size w w' := by
  obtain rfl := w2.hl
  have HC2 := Aside0.mk w2.hC
  have HCAP2 := Aside0.mk w2.hc
  obtain rfl := w0.hl
  have HC := Aside0.mk w0.hC
  have HCAP := Aside0.mk w0.hc
  go_enter Try.func10, Try.ntmps10
  go_wp2_with fail
  refine (awake_c w).mono ?_
  rintro e wa ⟨rfl, hba⟩
  have HBA := Aside0.mk hba
  have HCA : Aside0 (Acts wa a0 z0) := ⟨Kd.C_below HC.out hba⟩
  clear hba
  go_wp2_with fail
  refine (few_c HCA.out HCAP.out).mono ?_
  rintro e wb ⟨rfl, hbb⟩
  have HBB : Aside0 (Below w.heap.size w wb) := ⟨HBA.out.trans (hbb.mono HBA.out.size)⟩
  clear hbb
  obtain ⟨r0, hr0⟩ : ∃ r, fewP z0 = r := ⟨_, rfl⟩
  obtain ⟨r1, hr1⟩ : ∃ r, decide (12 < (z2.length : Int)) = r := ⟨_, rfl⟩
  obtain ⟨r2, hr2⟩ : ∃ r, decide (1000000 < rev) = r := ⟨_, rfl⟩
  obtain ⟨r3, hr3⟩ : ∃ r, decide (rev < 0) = r := ⟨_, rfl⟩
  rw [hr0]
  cases r0 with
  | false =>
    clear hr0
    go_wp2
    go_ret
    exact ⟨rfl, HBB.out⟩
  | true =>
  cases r1 with
  | true =>
    go_wp2
    go_ret
    exact ⟨rfl, HBB.out⟩
  | false =>
  cases r2 with
  | true =>
    go_wp2
    go_ret
    exact ⟨rfl, HBB.out⟩
  | false =>
  cases r3 with
  | true =>
    go_wp2
    go_ret
    exact ⟨rfl, HBB.out⟩
  | false =>
  have HFEW := Aside0.mk hr0
  clear hr0
  have HA : Aside0 (z2.length ≤ 12 ∧ 0 ≤ rev ∧ rev ≤ 1000000) := ⟨by simp only [decide_eq_false_iff_not] at hr1 hr2 hr3; omega⟩
  go_wp2_with fail
  refine (new_h wb).mono ?_
  rintro e wc ⟨bs, ok0, rfl, hs0, hok0, hbc⟩
  have HS0 := Aside0.mk hs0
  have HOK0 : Aside0 (∀ m, ok0 m → w.heap.size ≤ m) := ⟨fun m hm => Nat.le_trans HBB.out.size (hok0 m hm)⟩
  have HB0 : Aside0 (Below w.heap.size w wc) := ⟨HBB.out.trans (hbc.mono HBB.out.size)⟩
  clear hs0 hok0 hbc hr1 hr2 hr3 w0 w1 w2
  go_wp2_with fail
  refine (new_h wc).mono ?_
  rintro e wd ⟨bt, ok1, rfl, hs1, hok1, hbd⟩
  have HP0 : Aside0 (Pr wd bs bt ⟨[], 0⟩ ⟨[], 0⟩ 0 w.heap.size) := ⟨ok0, ok1, HS0.out.below hbd, hs1, HOK0.out, fun m hm => Nat.le_trans HB0.out.size (hok1 m hm), fun m hm hm2 => by have := HS0.out.lt m hm; have := hok1 m hm2; omega, Nat.le_trans HB0.out.size hbd.size⟩
  have HB1 : Aside0 (Below w.heap.size w wd) := ⟨HB0.out.trans (hbd.mono HB0.out.size)⟩
  clear hs1 hok1 hbd
  obtain ⟨nn, hnn⟩ : ∃ n, z0.length = n := ⟨_, rfl⟩
  have HNN := Aside0.mk hnn
  have HN60 : Aside0 (nn ≤ 60) := ⟨by have := few_len HFEW.out; omega⟩
  rw [hnn]
  clear hnn
  go_wp2_with fail
  go_loopg [11] nn (fun kq v11 wr => ∃ (j n : Nat) (s : St ByteArray), v11 = .int .i64 j ∧ Aside0 (j + kq = nn ∧ n ≤ 2 * j) ∧ Aside0 (Pr wr bs bt s s n w.heap.size) ∧ Aside0 (Below w.heap.size w wr))
  case atStart => exact ⟨0, 0, ⟨[], 0⟩, rfl, ⟨by omega⟩, HP0, HB1⟩
  case round =>
    obtain ⟨j, n, s, h11, HJ, HP, HB⟩ := hrel
    rename World => wr
    subst h11
    cases gk with
    | succ kq =>
      have hj : j < nn := by have := HJ.out.1; omega
      have p1 : decide ((j : Int) < (nn : Int)) = true := decide_eq_true (by omega)
      have p2 : ((j : Int) < (nn : Int)) = True := eq_true (by omega)
      have p5 : decide ((j : Int) < 0) = false := decide_eq_false (by omega)
      have p6 : (0 ≤ (j : Int)) = True := eq_true (by omega)
      have p9 : (j < nn) = True := eq_true hj
      have hjx : j < z0.length := by rw [HNN.out]; exact hj
      obtain ⟨ad, rfl, q0, q1, q2⟩ := act_cells (Kd.C_below HC.out HB.out) j hjx
      obtain ⟨x, hx⟩ : ∃ x, z0[j] = x := ⟨_, rfl⟩
      rw [hx] at q0 q1 q2
      have hfx := few_at HFEW.out (x := x) (by rw [← hx]; exact List.getElem_mem _)
      have HFX := Aside0.mk hfx
      have HWR : Aside0 (wrap64 ((j : Int) + 1) = ((j + 1 : Nat) : Int)) := ⟨by have := HN60.out; unfold wrap64; omega⟩
      have HJN := Aside0.mk hj
      have HQ := Aside0.mk (And.intro q1 q2)
      have hxj : z0[j]? = some x := by rw [List.getElem?_eq_getElem hjx, hx]
      have HX := Aside0.mk hxj
      clear hfx hx hxj hjx hj
      obtain ⟨r, hr⟩ : ∃ r, (x.f0.tmod 2 == 0) = r := ⟨_, rfl⟩
      cases r with
      | true =>
        have HFN : Aside0 (n + 1 ≤ 900000 ∧ x.f1.size ≤ 1000) := ⟨by have := HJ.out; have := HN60.out; have := HJN.out; have := HFX.out; omega⟩
        go_upto_region 13 with (fail)
        have HPd : Aside0 (Pr wr.drew bs bt s s n w.heap.size) := ⟨HP.out.drew⟩
        have HBd : Aside0 (Below w.heap.size w wr.drew) := ⟨HB.out.drew⟩
        refine start_ (n := 12) (S := fun w' => w'.cell? ⟨(ad.add (j * 3)).block, (ad.add (j * 3)).off + 1, none⟩ = some (.string x.f1) ∧ w'.cell? ⟨(ad.add (j * 3)).block, (ad.add (j * 3)).off + 2, none⟩ = some (.int .i64 x.f2)) (ds := [11]) #[false, false, false, false, false, false, false, false, false, false, false, false] (by kernel_rfl) rfl rfl ⟨HQ.out.1, HQ.out.2⟩ (fun hHeld => ?_)
        generalize wr.drew = w7 at HPd HBd hHeld ⊢
        refine pure_ (i := 0) (N := some 56) (v := ?_) (a' := ?_) #[true, false, false, false, false, false, false, false, false, false, false, false] rfl rfl (by kernel_rfl) (fun _ _ _ h => h) (Or.inl ⟨by rfl, ?_⟩) ?_ ?_
        rotate_left
        · intro w'
          go_simp
          with_reducible rfl
        rotate_left
        · simp only [Act.put, List.setIfInBounds_toArray, List.set_cons_zero, List.set_cons_succ, i64_w, i32_w]
          rfl
        refine pure_ (i := 1) (N := some 57) (v := ?_) (a' := ?_) #[true, true, false, false, false, false, false, false, false, false, false, false] rfl rfl (by kernel_rfl) (fun _ _ _ h => h) (Or.inl ⟨by rfl, ?_⟩) ?_ ?_
        rotate_left
        · intro w'
          go_simp
          with_reducible rfl
        rotate_left
        · simp only [Act.put, List.setIfInBounds_toArray, List.set_cons_zero, List.set_cons_succ, i64_w, i32_w]
          rfl
        refine pure_ (i := 2) (N := some 58) (v := ?_) (a' := ?_) #[true, true, true, false, false, false, false, false, false, false, false, false] rfl rfl (by kernel_rfl) (fun _ _ _ h => h) (Or.inl ⟨by rfl, ?_⟩) ?_ ?_
        rotate_left
        · intro w'
          go_simp
          with_reducible rfl
        rotate_left
        · simp only [Act.put, List.setIfInBounds_toArray, List.set_cons_zero, List.set_cons_succ, i64_w, i32_w]
          rfl
        refine pure_ (i := 3) (N := some 59) (v := ?_) (a' := ?_) #[true, true, true, true, false, false, false, false, false, false, false, false] rfl rfl (by kernel_rfl) (fun _ _ _ h => h) (Or.inl ⟨by rfl, ?_⟩) ?_ ?_
        rotate_left
        · intro w'
          go_simp
          with_reducible rfl
        rotate_left
        · simp only [Act.put, List.setIfInBounds_toArray, List.set_cons_zero, List.set_cons_succ, i64_w, i32_w]
          rfl
        refine pure_ (i := 4) (N := some 60) (v := ?_) (a' := ?_) #[true, true, true, true, true, false, false, false, false, false, false, false] rfl rfl (by kernel_rfl) (fun _ _ _ h => h) (Or.inl ⟨by rfl, ?_⟩) ?_ ?_
        rotate_left
        · intro w'
          go_simp
          with_reducible rfl
        rotate_left
        · simp only [Act.put, List.setIfInBounds_toArray, List.set_cons_zero, List.set_cons_succ, i64_w, i32_w]
          rfl
        refine pure_ (i := 6) (N := some 62) (v := ?_) (a' := ?_) #[true, true, true, true, true, false, true, false, false, false, false, false] rfl rfl (by kernel_rfl) (fun _ _ _ h => h) (Or.inl ⟨by rfl, ?_⟩) ?_ ?_
        rotate_left
        · intro w'
          go_simp
          with_reducible rfl
        rotate_left
        · simp only [Act.put, List.setIfInBounds_toArray, List.set_cons_zero, List.set_cons_succ, i64_w, i32_w]
          rfl
        refine pure_ (i := 7) (N := some 63) (v := ?_) (a' := ?_) #[true, true, true, true, true, false, true, true, false, false, false, false] rfl rfl (by kernel_rfl) (fun _ _ _ h => h) (Or.inl ⟨by rfl, ?_⟩) ?_ ?_
        rotate_left
        · intro w'
          go_simp
          with_reducible rfl
        rotate_left
        · simp only [Act.put, List.setIfInBounds_toArray, List.set_cons_zero, List.set_cons_succ, i64_w, i32_w]
          rfl
        refine pure_ (i := 8) (N := some 64) (v := ?_) (a' := ?_) #[true, true, true, true, true, false, true, true, true, false, false, false] rfl rfl (by kernel_rfl) (fun _ _ _ h => h) (Or.inl ⟨by rfl, ?_⟩) ?_ ?_
        rotate_left
        · intro w'
          go_simp
          with_reducible rfl
        rotate_left
        · simp only [Act.put, List.setIfInBounds_toArray, List.set_cons_zero, List.set_cons_succ, i64_w, i32_w]
          rfl
        refine pure_ (i := 9) (N := some 65) (v := ?_) (a' := ?_) #[true, true, true, true, true, false, true, true, true, true, false, false] rfl rfl (by kernel_rfl) (fun _ _ _ h => h) (Or.inl ⟨by rfl, ?_⟩) ?_ ?_
        rotate_left
        · intro w'
          go_simp
          with_reducible rfl
        rotate_left
        · simp only [Act.put, List.setIfInBounds_toArray, List.set_cons_zero, List.set_cons_succ, i64_w, i32_w]
          rfl
        refine take_ (i := 5) (N := some 61) (v := ?_) (a' := ?_) #[true, true, true, true, true, true, true, true, true, true, false, false] rfl rfl (by kernel_rfl) (fun _ _ _ h => h) (Or.inl ⟨by rfl, ?_⟩) hHeld ?_ ?_
        rotate_left
        · rintro w' ⟨s0, s1⟩
          go_simp
          with_reducible rfl
        rotate_left
        · simp only [Act.put, List.setIfInBounds_toArray, List.set_cons_zero, List.set_cons_succ, i64_w, i32_w]
          rfl
        refine take_ (i := 10) (N := some 66) (v := ?_) (a' := ?_) #[true, true, true, true, true, true, true, true, true, true, true, false] rfl rfl (by kernel_rfl) (fun _ _ _ h => h) (Or.inl ⟨by rfl, ?_⟩) hHeld ?_ ?_
        rotate_left
        · rintro w' ⟨s0, s1⟩
          go_simp
          with_reducible rfl
        rotate_left
        · simp only [Act.put, List.setIfInBounds_toArray, List.set_cons_zero, List.set_cons_succ, i64_w, i32_w]
          rfl
        refine last_ (i := 11) (N := some 67) #[true, true, true, true, true, true, true, true, true, true, true, true] rfl rfl (by kernel_rfl) (by decide) (fun K hK => ?_)
        refine goes_ Try.func26 (by kernel_rfl) rfl #[.pointer (some ⟨bs, 0, none⟩), .string x.f1, .int .i64 x.f2] (by rfl) rfl rfl (by simp only [List.map_toArray, List.map_cons, List.map_nil]; rfl) ?_
        with_reducible refine (pr_put HPd.out (by have := HFN.out.1; omega) HFN.out.2 x.f2).mono ?_
        rintro e w8 ⟨rfl, hp8, hb8⟩
        refine ⟨_, rfl, ?_⟩
        have HPw8 := Aside0.mk hp8
        have HBw8 : Aside0 (Below w.heap.size w w8) := ⟨HBd.out.trans hb8⟩
        clear hp8 hb8 hHeld
        refine hK.out _ _ ?_
        clear hK K
        refine norm_ (a' := ?_) ?_ ?_
        rotate_left
        · show Act.put _ (some 67) _ = _
          simp only [Act.put, List.setIfInBounds_toArray, List.set_cons_zero, List.set_cons_succ, i64_w, i32_w]
          rfl
        refine done_ (by kernel_rfl) ?_
        clear HPd HBd
        obtain ⟨_, had, u0, u1, u2⟩ := act_cells (Kd.C_below HC.out HBw8.out) j (by rw [HNN.out]; exact HJN.out)
        obtain rfl := Option.some.inj had
        rw [Option.some.inj ((List.getElem?_eq_getElem (show j < z0.length by rw [HNN.out]; exact HJN.out)).symm.trans HX.out)] at u1 u2
        have HQ8 := Aside0.mk (And.intro u1 u2)
        clear had u0 u1 u2 q0 q1 q2
        go_upto_region 14 with (fail)
        have HPd : Aside0 (Pr w8.drew bt bs s (putS blt s x.f1 x.f2).1 (n + 1) w.heap.size) := ⟨HPw8.out.swap.drew⟩
        have HBd : Aside0 (Below w.heap.size w w8.drew) := ⟨HBw8.out.drew⟩
        refine start_ (n := 12) (S := fun w' => w'.cell? ⟨(ad.add (j * 3)).block, (ad.add (j * 3)).off + 1, none⟩ = some (.string x.f1) ∧ w'.cell? ⟨(ad.add (j * 3)).block, (ad.add (j * 3)).off + 2, none⟩ = some (.int .i64 x.f2)) (ds := [11]) #[false, false, false, false, false, false, false, false, false, false, false, false] (by kernel_rfl) rfl rfl ⟨HQ8.out.1, HQ8.out.2⟩ (fun hHeld => ?_)
        generalize w8.drew = w9 at HPd HBd hHeld ⊢
        refine pure_ (i := 0) (N := some 68) (v := ?_) (a' := ?_) #[true, false, false, false, false, false, false, false, false, false, false, false] rfl rfl (by kernel_rfl) (fun _ _ _ h => h) (Or.inl ⟨by rfl, ?_⟩) ?_ ?_
        rotate_left
        · intro w'
          go_simp
          with_reducible rfl
        rotate_left
        · simp only [Act.put, List.setIfInBounds_toArray, List.set_cons_zero, List.set_cons_succ, i64_w, i32_w]
          rfl
        refine pure_ (i := 1) (N := some 69) (v := ?_) (a' := ?_) #[true, true, false, false, false, false, false, false, false, false, false, false] rfl rfl (by kernel_rfl) (fun _ _ _ h => h) (Or.inl ⟨by rfl, ?_⟩) ?_ ?_
        rotate_left
        · intro w'
          go_simp
          with_reducible rfl
        rotate_left
        · simp only [Act.put, List.setIfInBounds_toArray, List.set_cons_zero, List.set_cons_succ, i64_w, i32_w]
          rfl
        refine pure_ (i := 2) (N := some 70) (v := ?_) (a' := ?_) #[true, true, true, false, false, false, false, false, false, false, false, false] rfl rfl (by kernel_rfl) (fun _ _ _ h => h) (Or.inl ⟨by rfl, ?_⟩) ?_ ?_
        rotate_left
        · intro w'
          go_simp
          with_reducible rfl
        rotate_left
        · simp only [Act.put, List.setIfInBounds_toArray, List.set_cons_zero, List.set_cons_succ, i64_w, i32_w]
          rfl
        refine pure_ (i := 3) (N := some 71) (v := ?_) (a' := ?_) #[true, true, true, true, false, false, false, false, false, false, false, false] rfl rfl (by kernel_rfl) (fun _ _ _ h => h) (Or.inl ⟨by rfl, ?_⟩) ?_ ?_
        rotate_left
        · intro w'
          go_simp
          with_reducible rfl
        rotate_left
        · simp only [Act.put, List.setIfInBounds_toArray, List.set_cons_zero, List.set_cons_succ, i64_w, i32_w]
          rfl
        refine pure_ (i := 4) (N := some 72) (v := ?_) (a' := ?_) #[true, true, true, true, true, false, false, false, false, false, false, false] rfl rfl (by kernel_rfl) (fun _ _ _ h => h) (Or.inl ⟨by rfl, ?_⟩) ?_ ?_
        rotate_left
        · intro w'
          go_simp
          with_reducible rfl
        rotate_left
        · simp only [Act.put, List.setIfInBounds_toArray, List.set_cons_zero, List.set_cons_succ, i64_w, i32_w]
          rfl
        refine pure_ (i := 6) (N := some 74) (v := ?_) (a' := ?_) #[true, true, true, true, true, false, true, false, false, false, false, false] rfl rfl (by kernel_rfl) (fun _ _ _ h => h) (Or.inl ⟨by rfl, ?_⟩) ?_ ?_
        rotate_left
        · intro w'
          go_simp
          with_reducible rfl
        rotate_left
        · simp only [Act.put, List.setIfInBounds_toArray, List.set_cons_zero, List.set_cons_succ, i64_w, i32_w]
          rfl
        refine pure_ (i := 7) (N := some 75) (v := ?_) (a' := ?_) #[true, true, true, true, true, false, true, true, false, false, false, false] rfl rfl (by kernel_rfl) (fun _ _ _ h => h) (Or.inl ⟨by rfl, ?_⟩) ?_ ?_
        rotate_left
        · intro w'
          go_simp
          with_reducible rfl
        rotate_left
        · simp only [Act.put, List.setIfInBounds_toArray, List.set_cons_zero, List.set_cons_succ, i64_w, i32_w]
          rfl
        refine pure_ (i := 8) (N := some 76) (v := ?_) (a' := ?_) #[true, true, true, true, true, false, true, true, true, false, false, false] rfl rfl (by kernel_rfl) (fun _ _ _ h => h) (Or.inl ⟨by rfl, ?_⟩) ?_ ?_
        rotate_left
        · intro w'
          go_simp
          with_reducible rfl
        rotate_left
        · simp only [Act.put, List.setIfInBounds_toArray, List.set_cons_zero, List.set_cons_succ, i64_w, i32_w]
          rfl
        refine pure_ (i := 9) (N := some 77) (v := ?_) (a' := ?_) #[true, true, true, true, true, false, true, true, true, true, false, false] rfl rfl (by kernel_rfl) (fun _ _ _ h => h) (Or.inl ⟨by rfl, ?_⟩) ?_ ?_
        rotate_left
        · intro w'
          go_simp
          with_reducible rfl
        rotate_left
        · simp only [Act.put, List.setIfInBounds_toArray, List.set_cons_zero, List.set_cons_succ, i64_w, i32_w]
          rfl
        refine take_ (i := 5) (N := some 73) (v := ?_) (a' := ?_) #[true, true, true, true, true, true, true, true, true, true, false, false] rfl rfl (by kernel_rfl) (fun _ _ _ h => h) (Or.inl ⟨by rfl, ?_⟩) hHeld ?_ ?_
        rotate_left
        · rintro w' ⟨s0, s1⟩
          go_simp
          with_reducible rfl
        rotate_left
        · simp only [Act.put, List.setIfInBounds_toArray, List.set_cons_zero, List.set_cons_succ, i64_w, i32_w]
          rfl
        refine take_ (i := 10) (N := some 78) (v := ?_) (a' := ?_) #[true, true, true, true, true, true, true, true, true, true, true, false] rfl rfl (by kernel_rfl) (fun _ _ _ h => h) (Or.inl ⟨by rfl, ?_⟩) hHeld ?_ ?_
        rotate_left
        · rintro w' ⟨s0, s1⟩
          go_simp
          with_reducible rfl
        rotate_left
        · simp only [Act.put, List.setIfInBounds_toArray, List.set_cons_zero, List.set_cons_succ, i64_w, i32_w]
          rfl
        refine last_ (i := 11) (N := some 79) #[true, true, true, true, true, true, true, true, true, true, true, true] rfl rfl (by kernel_rfl) (by decide) (fun K hK => ?_)
        refine goes_ Try.func26 (by kernel_rfl) rfl #[.pointer (some ⟨bt, 0, none⟩), .string x.f1, .int .i64 x.f2] (by rfl) rfl rfl (by simp only [List.map_toArray, List.map_cons, List.map_nil]; rfl) ?_
        with_reducible refine (pr_put HPd.out (by have := HFN.out.1; omega) HFN.out.2 x.f2).mono ?_
        rintro e w10 ⟨rfl, hp8, hb8⟩
        refine ⟨_, rfl, ?_⟩
        have HPw10 := Aside0.mk hp8
        have HBw10 : Aside0 (Below w.heap.size w w10) := ⟨HBd.out.trans hb8⟩
        clear hp8 hb8 hHeld
        refine hK.out _ _ ?_
        clear hK K
        refine norm_ (a' := ?_) ?_ ?_
        rotate_left
        · show Act.put _ (some 79) _ = _
          simp only [Act.put, List.setIfInBounds_toArray, List.set_cons_zero, List.set_cons_succ, i64_w, i32_w]
          rfl
        refine done_ (by kernel_rfl) ?_
        clear HPd HBd
        go_wp2_with fail
        go_roundg kq
        case measure => omega
        case rel => exact ⟨j + 1, n + 1 + 1, _, by rw [HWR.out], ⟨by have := HJ.out; omega⟩, ⟨HPw10.out.swap⟩, HBw10⟩
      | false =>
        have HFN : Aside0 (n + 1 ≤ 900000 ∧ x.f1.size ≤ 1000) := ⟨by have := HJ.out; have := HN60.out; have := HJN.out; have := HFX.out; omega⟩
        go_upto_region 15 with (fail)
        have HPd : Aside0 (Pr wr.drew bs bt s s n w.heap.size) := ⟨HP.out.drew⟩
        have HBd : Aside0 (Below w.heap.size w wr.drew) := ⟨HB.out.drew⟩
        refine start_ (n := 12) (S := fun w' => w'.cell? ⟨(ad.add (j * 3)).block, (ad.add (j * 3)).off + 1, none⟩ = some (.string x.f1) ∧ w'.cell? ⟨(ad.add (j * 3)).block, (ad.add (j * 3)).off + 2, none⟩ = some (.int .i64 x.f2)) (ds := [11]) #[false, false, false, false, false, false, false, false, false, false, false, false] (by kernel_rfl) rfl rfl ⟨HQ.out.1, HQ.out.2⟩ (fun hHeld => ?_)
        generalize wr.drew = w7 at HPd HBd hHeld ⊢
        refine pure_ (i := 0) (N := some 80) (v := ?_) (a' := ?_) #[true, false, false, false, false, false, false, false, false, false, false, false] rfl rfl (by kernel_rfl) (fun _ _ _ h => h) (Or.inl ⟨by rfl, ?_⟩) ?_ ?_
        rotate_left
        · intro w'
          go_simp
          with_reducible rfl
        rotate_left
        · simp only [Act.put, List.setIfInBounds_toArray, List.set_cons_zero, List.set_cons_succ, i64_w, i32_w]
          rfl
        refine pure_ (i := 1) (N := some 81) (v := ?_) (a' := ?_) #[true, true, false, false, false, false, false, false, false, false, false, false] rfl rfl (by kernel_rfl) (fun _ _ _ h => h) (Or.inl ⟨by rfl, ?_⟩) ?_ ?_
        rotate_left
        · intro w'
          go_simp
          with_reducible rfl
        rotate_left
        · simp only [Act.put, List.setIfInBounds_toArray, List.set_cons_zero, List.set_cons_succ, i64_w, i32_w]
          rfl
        refine pure_ (i := 2) (N := some 82) (v := ?_) (a' := ?_) #[true, true, true, false, false, false, false, false, false, false, false, false] rfl rfl (by kernel_rfl) (fun _ _ _ h => h) (Or.inl ⟨by rfl, ?_⟩) ?_ ?_
        rotate_left
        · intro w'
          go_simp
          with_reducible rfl
        rotate_left
        · simp only [Act.put, List.setIfInBounds_toArray, List.set_cons_zero, List.set_cons_succ, i64_w, i32_w]
          rfl
        refine pure_ (i := 3) (N := some 83) (v := ?_) (a' := ?_) #[true, true, true, true, false, false, false, false, false, false, false, false] rfl rfl (by kernel_rfl) (fun _ _ _ h => h) (Or.inl ⟨by rfl, ?_⟩) ?_ ?_
        rotate_left
        · intro w'
          go_simp
          with_reducible rfl
        rotate_left
        · simp only [Act.put, List.setIfInBounds_toArray, List.set_cons_zero, List.set_cons_succ, i64_w, i32_w]
          rfl
        refine pure_ (i := 4) (N := some 84) (v := ?_) (a' := ?_) #[true, true, true, true, true, false, false, false, false, false, false, false] rfl rfl (by kernel_rfl) (fun _ _ _ h => h) (Or.inl ⟨by rfl, ?_⟩) ?_ ?_
        rotate_left
        · intro w'
          go_simp
          with_reducible rfl
        rotate_left
        · simp only [Act.put, List.setIfInBounds_toArray, List.set_cons_zero, List.set_cons_succ, i64_w, i32_w]
          rfl
        refine pure_ (i := 6) (N := some 86) (v := ?_) (a' := ?_) #[true, true, true, true, true, false, true, false, false, false, false, false] rfl rfl (by kernel_rfl) (fun _ _ _ h => h) (Or.inl ⟨by rfl, ?_⟩) ?_ ?_
        rotate_left
        · intro w'
          go_simp
          with_reducible rfl
        rotate_left
        · simp only [Act.put, List.setIfInBounds_toArray, List.set_cons_zero, List.set_cons_succ, i64_w, i32_w]
          rfl
        refine pure_ (i := 7) (N := some 87) (v := ?_) (a' := ?_) #[true, true, true, true, true, false, true, true, false, false, false, false] rfl rfl (by kernel_rfl) (fun _ _ _ h => h) (Or.inl ⟨by rfl, ?_⟩) ?_ ?_
        rotate_left
        · intro w'
          go_simp
          with_reducible rfl
        rotate_left
        · simp only [Act.put, List.setIfInBounds_toArray, List.set_cons_zero, List.set_cons_succ, i64_w, i32_w]
          rfl
        refine pure_ (i := 8) (N := some 88) (v := ?_) (a' := ?_) #[true, true, true, true, true, false, true, true, true, false, false, false] rfl rfl (by kernel_rfl) (fun _ _ _ h => h) (Or.inl ⟨by rfl, ?_⟩) ?_ ?_
        rotate_left
        · intro w'
          go_simp
          with_reducible rfl
        rotate_left
        · simp only [Act.put, List.setIfInBounds_toArray, List.set_cons_zero, List.set_cons_succ, i64_w, i32_w]
          rfl
        refine pure_ (i := 9) (N := some 89) (v := ?_) (a' := ?_) #[true, true, true, true, true, false, true, true, true, true, false, false] rfl rfl (by kernel_rfl) (fun _ _ _ h => h) (Or.inl ⟨by rfl, ?_⟩) ?_ ?_
        rotate_left
        · intro w'
          go_simp
          with_reducible rfl
        rotate_left
        · simp only [Act.put, List.setIfInBounds_toArray, List.set_cons_zero, List.set_cons_succ, i64_w, i32_w]
          rfl
        refine take_ (i := 5) (N := some 85) (v := ?_) (a' := ?_) #[true, true, true, true, true, true, true, true, true, true, false, false] rfl rfl (by kernel_rfl) (fun _ _ _ h => h) (Or.inl ⟨by rfl, ?_⟩) hHeld ?_ ?_
        rotate_left
        · rintro w' ⟨s0, s1⟩
          go_simp
          with_reducible rfl
        rotate_left
        · simp only [Act.put, List.setIfInBounds_toArray, List.set_cons_zero, List.set_cons_succ, i64_w, i32_w]
          rfl
        refine take_ (i := 10) (N := some 90) (v := ?_) (a' := ?_) #[true, true, true, true, true, true, true, true, true, true, true, false] rfl rfl (by kernel_rfl) (fun _ _ _ h => h) (Or.inl ⟨by rfl, ?_⟩) hHeld ?_ ?_
        rotate_left
        · rintro w' ⟨s0, s1⟩
          go_simp
          with_reducible rfl
        rotate_left
        · simp only [Act.put, List.setIfInBounds_toArray, List.set_cons_zero, List.set_cons_succ, i64_w, i32_w]
          rfl
        refine last_ (i := 11) (N := some 91) #[true, true, true, true, true, true, true, true, true, true, true, true] rfl rfl (by kernel_rfl) (by decide) (fun K hK => ?_)
        refine goes_ Try.func28 (by kernel_rfl) rfl #[.pointer (some ⟨bs, 0, none⟩), .string x.f1, .int .i64 x.f2] (by rfl) rfl rfl (by simp only [List.map_toArray, List.map_cons, List.map_nil]; rfl) ?_
        with_reducible refine (pr_drop HPd.out (by have := HFN.out.1; omega) HFN.out.2 x.f2).mono ?_
        rintro e w8 ⟨rfl, hp8, hb8⟩
        refine ⟨_, rfl, ?_⟩
        have HPw8 := Aside0.mk hp8
        have HBw8 : Aside0 (Below w.heap.size w w8) := ⟨HBd.out.trans hb8⟩
        clear hp8 hb8 hHeld
        refine hK.out _ _ ?_
        clear hK K
        refine norm_ (a' := ?_) ?_ ?_
        rotate_left
        · show Act.put _ (some 91) _ = _
          simp only [Act.put, List.setIfInBounds_toArray, List.set_cons_zero, List.set_cons_succ, i64_w, i32_w]
          rfl
        refine done_ (by kernel_rfl) ?_
        clear HPd HBd
        obtain ⟨_, had, u0, u1, u2⟩ := act_cells (Kd.C_below HC.out HBw8.out) j (by rw [HNN.out]; exact HJN.out)
        obtain rfl := Option.some.inj had
        rw [Option.some.inj ((List.getElem?_eq_getElem (show j < z0.length by rw [HNN.out]; exact HJN.out)).symm.trans HX.out)] at u1 u2
        have HQ8 := Aside0.mk (And.intro u1 u2)
        clear had u0 u1 u2 q0 q1 q2
        go_upto_region 16 with (fail)
        have HPd : Aside0 (Pr w8.drew bt bs s (dropS blt s x.f1 x.f2).1 (n) w.heap.size) := ⟨HPw8.out.swap.drew⟩
        have HBd : Aside0 (Below w.heap.size w w8.drew) := ⟨HBw8.out.drew⟩
        refine start_ (n := 12) (S := fun w' => w'.cell? ⟨(ad.add (j * 3)).block, (ad.add (j * 3)).off + 1, none⟩ = some (.string x.f1) ∧ w'.cell? ⟨(ad.add (j * 3)).block, (ad.add (j * 3)).off + 2, none⟩ = some (.int .i64 x.f2)) (ds := [11]) #[false, false, false, false, false, false, false, false, false, false, false, false] (by kernel_rfl) rfl rfl ⟨HQ8.out.1, HQ8.out.2⟩ (fun hHeld => ?_)
        generalize w8.drew = w9 at HPd HBd hHeld ⊢
        refine pure_ (i := 0) (N := some 92) (v := ?_) (a' := ?_) #[true, false, false, false, false, false, false, false, false, false, false, false] rfl rfl (by kernel_rfl) (fun _ _ _ h => h) (Or.inl ⟨by rfl, ?_⟩) ?_ ?_
        rotate_left
        · intro w'
          go_simp
          with_reducible rfl
        rotate_left
        · simp only [Act.put, List.setIfInBounds_toArray, List.set_cons_zero, List.set_cons_succ, i64_w, i32_w]
          rfl
        refine pure_ (i := 1) (N := some 93) (v := ?_) (a' := ?_) #[true, true, false, false, false, false, false, false, false, false, false, false] rfl rfl (by kernel_rfl) (fun _ _ _ h => h) (Or.inl ⟨by rfl, ?_⟩) ?_ ?_
        rotate_left
        · intro w'
          go_simp
          with_reducible rfl
        rotate_left
        · simp only [Act.put, List.setIfInBounds_toArray, List.set_cons_zero, List.set_cons_succ, i64_w, i32_w]
          rfl
        refine pure_ (i := 2) (N := some 94) (v := ?_) (a' := ?_) #[true, true, true, false, false, false, false, false, false, false, false, false] rfl rfl (by kernel_rfl) (fun _ _ _ h => h) (Or.inl ⟨by rfl, ?_⟩) ?_ ?_
        rotate_left
        · intro w'
          go_simp
          with_reducible rfl
        rotate_left
        · simp only [Act.put, List.setIfInBounds_toArray, List.set_cons_zero, List.set_cons_succ, i64_w, i32_w]
          rfl
        refine pure_ (i := 3) (N := some 95) (v := ?_) (a' := ?_) #[true, true, true, true, false, false, false, false, false, false, false, false] rfl rfl (by kernel_rfl) (fun _ _ _ h => h) (Or.inl ⟨by rfl, ?_⟩) ?_ ?_
        rotate_left
        · intro w'
          go_simp
          with_reducible rfl
        rotate_left
        · simp only [Act.put, List.setIfInBounds_toArray, List.set_cons_zero, List.set_cons_succ, i64_w, i32_w]
          rfl
        refine pure_ (i := 4) (N := some 96) (v := ?_) (a' := ?_) #[true, true, true, true, true, false, false, false, false, false, false, false] rfl rfl (by kernel_rfl) (fun _ _ _ h => h) (Or.inl ⟨by rfl, ?_⟩) ?_ ?_
        rotate_left
        · intro w'
          go_simp
          with_reducible rfl
        rotate_left
        · simp only [Act.put, List.setIfInBounds_toArray, List.set_cons_zero, List.set_cons_succ, i64_w, i32_w]
          rfl
        refine pure_ (i := 6) (N := some 98) (v := ?_) (a' := ?_) #[true, true, true, true, true, false, true, false, false, false, false, false] rfl rfl (by kernel_rfl) (fun _ _ _ h => h) (Or.inl ⟨by rfl, ?_⟩) ?_ ?_
        rotate_left
        · intro w'
          go_simp
          with_reducible rfl
        rotate_left
        · simp only [Act.put, List.setIfInBounds_toArray, List.set_cons_zero, List.set_cons_succ, i64_w, i32_w]
          rfl
        refine pure_ (i := 7) (N := some 99) (v := ?_) (a' := ?_) #[true, true, true, true, true, false, true, true, false, false, false, false] rfl rfl (by kernel_rfl) (fun _ _ _ h => h) (Or.inl ⟨by rfl, ?_⟩) ?_ ?_
        rotate_left
        · intro w'
          go_simp
          with_reducible rfl
        rotate_left
        · simp only [Act.put, List.setIfInBounds_toArray, List.set_cons_zero, List.set_cons_succ, i64_w, i32_w]
          rfl
        refine pure_ (i := 8) (N := some 100) (v := ?_) (a' := ?_) #[true, true, true, true, true, false, true, true, true, false, false, false] rfl rfl (by kernel_rfl) (fun _ _ _ h => h) (Or.inl ⟨by rfl, ?_⟩) ?_ ?_
        rotate_left
        · intro w'
          go_simp
          with_reducible rfl
        rotate_left
        · simp only [Act.put, List.setIfInBounds_toArray, List.set_cons_zero, List.set_cons_succ, i64_w, i32_w]
          rfl
        refine pure_ (i := 9) (N := some 101) (v := ?_) (a' := ?_) #[true, true, true, true, true, false, true, true, true, true, false, false] rfl rfl (by kernel_rfl) (fun _ _ _ h => h) (Or.inl ⟨by rfl, ?_⟩) ?_ ?_
        rotate_left
        · intro w'
          go_simp
          with_reducible rfl
        rotate_left
        · simp only [Act.put, List.setIfInBounds_toArray, List.set_cons_zero, List.set_cons_succ, i64_w, i32_w]
          rfl
        refine take_ (i := 5) (N := some 97) (v := ?_) (a' := ?_) #[true, true, true, true, true, true, true, true, true, true, false, false] rfl rfl (by kernel_rfl) (fun _ _ _ h => h) (Or.inl ⟨by rfl, ?_⟩) hHeld ?_ ?_
        rotate_left
        · rintro w' ⟨s0, s1⟩
          go_simp
          with_reducible rfl
        rotate_left
        · simp only [Act.put, List.setIfInBounds_toArray, List.set_cons_zero, List.set_cons_succ, i64_w, i32_w]
          rfl
        refine take_ (i := 10) (N := some 102) (v := ?_) (a' := ?_) #[true, true, true, true, true, true, true, true, true, true, true, false] rfl rfl (by kernel_rfl) (fun _ _ _ h => h) (Or.inl ⟨by rfl, ?_⟩) hHeld ?_ ?_
        rotate_left
        · rintro w' ⟨s0, s1⟩
          go_simp
          with_reducible rfl
        rotate_left
        · simp only [Act.put, List.setIfInBounds_toArray, List.set_cons_zero, List.set_cons_succ, i64_w, i32_w]
          rfl
        refine last_ (i := 11) (N := some 103) #[true, true, true, true, true, true, true, true, true, true, true, true] rfl rfl (by kernel_rfl) (by decide) (fun K hK => ?_)
        refine goes_ Try.func28 (by kernel_rfl) rfl #[.pointer (some ⟨bt, 0, none⟩), .string x.f1, .int .i64 x.f2] (by rfl) rfl rfl (by simp only [List.map_toArray, List.map_cons, List.map_nil]; rfl) ?_
        with_reducible refine (pr_drop HPd.out (by have := HFN.out.1; omega) HFN.out.2 x.f2).mono ?_
        rintro e w10 ⟨rfl, hp8, hb8⟩
        refine ⟨_, rfl, ?_⟩
        have HPw10 := Aside0.mk hp8
        have HBw10 : Aside0 (Below w.heap.size w w10) := ⟨HBd.out.trans hb8⟩
        clear hp8 hb8 hHeld
        refine hK.out _ _ ?_
        clear hK K
        refine norm_ (a' := ?_) ?_ ?_
        rotate_left
        · show Act.put _ (some 103) _ = _
          simp only [Act.put, List.setIfInBounds_toArray, List.set_cons_zero, List.set_cons_succ, i64_w, i32_w]
          rfl
        refine done_ (by kernel_rfl) ?_
        clear HPd HBd
        go_wp2_with fail
        go_roundg kq
        case measure => omega
        case rel => exact ⟨j + 1, n, _, by rw [HWR.out], ⟨by have := HJ.out; omega⟩, ⟨HPw10.out.swap⟩, HBw10⟩
    | zero =>
      obtain rfl : j = nn := by have := HJ.out.1; omega
      have p1 : decide ((j : Int) < (j : Int)) = false := decide_eq_false (by omega)
      have p2 : ((j : Int) < (j : Int)) = False := eq_false (by omega)
      have hn : n ≤ 130 := by have := HJ.out; have := HN60.out; omega
      have HN := Aside0.mk hn
      have htw := trim_twice s rev
      have HTW := Aside0.mk htw
      have HI : Aside0 (Sq.Inv blt s) := ⟨HP.out.few.inv⟩
      obtain ⟨t, ht⟩ : ∃ t, (trimS s rev).1 = t := ⟨_, rfl⟩
      obtain ⟨cn, hcn⟩ : ∃ c, (trimS s rev).2 = c := ⟨_, rfl⟩
      have HT := Aside0.mk ht
      have d1 : decide ((cn : Int) < 0) = false := decide_eq_false (by omega)
      have d2 : ((cn : Int) < 0) = False := eq_false (by omega)
      clear hn htw
      go_wp2_with fail
      refine (pr_trim HP.out.swap (by have := HN.out; omega) rev).mono ?_
      rw [hcn, ht]
      rintro e v1 ⟨rfl, hp1, hb1⟩
      have P1 := Aside0.mk hp1
      have D1 : Aside0 (Below w.heap.size w v1) := ⟨HB.out.trans hb1⟩
      clear hp1 hb1 hcn ht
      go_wp2_with fail
      refine (pr_trim P1.out (by have := HN.out; omega) rev).mono ?_
      rw [show (trimS t rev).2 = 0 from by rw [← HT.out]; exact HTW.out.1, show (trimS t rev).1 = t from by rw [← HT.out]; exact HTW.out.2]
      rintro e v2 ⟨rfl, hp2, hb2⟩
      have P2 : Aside0 (Pr v2 bs bt s t n w.heap.size) := ⟨hp2.swap⟩
      have D2 : Aside0 (Below w.heap.size w v2) := ⟨D1.out.trans hb2⟩
      clear hp2 hb2
      obtain ⟨n2, hn2⟩ : ∃ n, z2.length = n := ⟨_, rfl⟩
      have HN2 := Aside0.mk hn2
      rw [hn2]
      clear hn2
      go_wp2_with fail
      go_loopg [13] n2 (fun kq v13 wr => ∃ (i : Nat), v13 = .int .i64 i ∧ Aside0 (i + kq = n2) ∧ Aside0 (Pr wr bs bt s t n w.heap.size) ∧ Aside0 (Below w.heap.size w wr))
      case atStart => exact ⟨0, rfl, ⟨by omega⟩, P2, D2⟩
      case round =>
        obtain ⟨i, h13, HIq, HPq, HDq⟩ := hrel
        rename World => wq
        subst h13
        cases gk with
        | zero =>
          obtain rfl : i = n2 := by have := HIq.out; omega
          have p3 : decide ((i : Int) < (i : Int)) = false := decide_eq_false (by omega)
          have p4 : ((i : Int) < (i : Int)) = False := eq_false (by omega)
          go_wp2
          go_ret
          exact ⟨rfl, HDq.out⟩
        | succ kq =>
          have hi : i < n2 := by have := HIq.out; omega
          have p3 : decide ((i : Int) < (n2 : Int)) = true := decide_eq_true (by omega)
          have p4 : ((i : Int) < (n2 : Int)) = True := eq_true (by omega)
          have p5 : decide ((i : Int) < 0) = false := decide_eq_false (by omega)
          have p6 : (0 ≤ (i : Int)) = True := eq_true (by omega)
          have p7 : (i < n2) = True := eq_true hi
          have HWI : Aside0 (wrap64 ((i : Int) + 1) = ((i + 1 : Nat) : Int)) := ⟨by have := HA.out.1; have := HN2.out; unfold wrap64; omega⟩
          obtain ⟨k, hk⟩ : ∃ k, z2[i]? = some k := ⟨_, List.getElem?_eq_getElem (by rw [HN2.out]; exact hi)⟩
          obtain ⟨ad2, rfl, q0⟩ := int_cells (Kd.C_below HC2.out HDq.out) hk
          clear hi hk
          by_cases hkr : k < rev
          · have e1 : decide (k < rev) = true := decide_eq_true hkr
            clear hkr
            go_wp2_with fail
            go_roundg kq
            case measure => omega
            case rel => exact ⟨i + 1, by rw [HWI.out], ⟨by have := HIq.out; omega⟩, HPq, HDq⟩
          · have e1 : decide (k < rev) = false := decide_eq_false hkr
            have hge : rev ≤ k := by omega
            have hk1 := trim_keys HI.out hge
            have hk2 := trim_events HI.out rev k
            have hk3 := trim_count HI.out hge
            rw [HT.out] at hk1 hk2 hk3
            have HK1 := Aside0.mk hk1
            have HK2 := Aside0.mk hk2
            have HK3 := Aside0.mk hk3
            have HL1 : Aside0 ((keysOf s k).length ≤ 200 ∧ (eventsS blt s rev k).length ≤ 400) := ⟨by have := HPq.out.few.keysOf k; have := ev_len s (f := rev) (t := k) HPq.out.few.len; have := HN.out; omega⟩
            obtain ⟨K, hK⟩ : ∃ K, keysOf s k = K := ⟨_, rfl⟩
            obtain ⟨E, hE⟩ : ∃ E, eventsS blt s rev k = E := ⟨_, rfl⟩
            obtain ⟨cc, hcc⟩ : ∃ c, countS s k = c := ⟨_, rfl⟩
            rw [hK] at HK1 HL1
            rw [hE] at HK2 HL1
            rw [hcc] at HK3
            clear hkr hge hk1 hk2 hk3
            go_wp2_with fail
            refine (pr_keys HPq.out (by have := HN.out; omega) k).mono ?_
            rw [hK]
            rintro e v3 ⟨x3, rfl, ho3, hb3⟩
            obtain ⟨A3, c3, rfl⟩ := Kd.R_slice ho3
            have O3 := Aside0.mk ho3
            have P3 := Aside0.mk (HPq.out.below hb3)
            have D3 : Aside0 (Below w.heap.size w v3) := ⟨HDq.out.trans (hb3.mono HDq.out.size)⟩
            clear ho3 hb3 hK
            go_wp2_with fail
            refine (pr_keys P3.out.swap (by have := HN.out; omega) k).mono ?_
            rw [HK1.out]
            rintro e v4 ⟨x4, rfl, ho4, hb4⟩
            obtain ⟨A4, c4, rfl⟩ := Kd.R_slice ho4
            have O4 := Aside0.mk ho4
            have O3b := Aside0.mk (Kd.R_below O3.out hb4)
            have P4 := Aside0.mk (P3.out.below hb4)
            have D4 : Aside0 (Below w.heap.size w v4) := ⟨D3.out.trans (hb4.mono D3.out.size)⟩
            clear ho4 hb4
            go_wp2_with fail
            refine (pr_events P4.out (by have := HN.out; omega) rev k).mono ?_
            rw [hE]
            rintro e v5 ⟨x5, rfl, hr5, hb5⟩
            obtain ⟨A5, c5, rfl⟩ := ev_slice hr5
            have R5 := Aside0.mk hr5
            have O3c := Aside0.mk (Kd.R_below O3b.out hb5)
            have O4c := Aside0.mk (Kd.R_below O4.out hb5)
            have P5 := Aside0.mk (P4.out.below hb5)
            have D5 : Aside0 (Below w.heap.size w v5) := ⟨D4.out.trans (hb5.mono D4.out.size)⟩
            clear hr5 hb5 hE
            go_wp2_with fail
            refine (pr_events P5.out.swap (by have := HN.out; omega) rev k).mono ?_
            rw [HK2.out]
            rintro e v6 ⟨x6, rfl, hr6, hb6⟩
            obtain ⟨A6, c6, rfl⟩ := ev_slice hr6
            have R6 := Aside0.mk hr6
            have R5d := Aside0.mk (R5.out.below hb6)
            have O3d := Aside0.mk (Kd.R_below O3c.out hb6)
            have O4d := Aside0.mk (Kd.R_below O4c.out hb6)
            have P6 := Aside0.mk (P5.out.below hb6)
            have D6 : Aside0 (Below w.heap.size w v6) := ⟨D5.out.trans (hb6.mono D5.out.size)⟩
            clear hr6 hb6
            go_wp2_with fail
            refine (pr_count P6.out (by have := HN.out; omega) k).mono ?_
            rw [hcc]
            rintro e v7 ⟨rfl, hb7⟩
            have P7 := Aside0.mk (P6.out.below hb7)
            have D7 : Aside0 (Below w.heap.size w v7) := ⟨D6.out.trans (hb7.mono D6.out.size)⟩
            have F7 : Aside0 (Below v6.heap.size v6 v7) := ⟨hb7⟩
            clear hb7 hcc
            go_wp2_with fail
            refine (pr_count P7.out.swap (by have := HN.out; omega) k).mono ?_
            rw [HK3.out]
            rintro e v8 ⟨rfl, hb8⟩
            have P8 := Aside0.mk (P7.out.below hb8)
            have D8 : Aside0 (Below w.heap.size w v8) := ⟨D7.out.trans (hb8.mono D7.out.size)⟩
            have F8 : Aside0 (Below v6.heap.size v6 v8) := ⟨F7.out.trans (hb8.mono F7.out.size)⟩
            clear hb8
            obtain ⟨nk, hnk⟩ : ∃ n, K.length = n := ⟨_, rfl⟩
            obtain ⟨ne, hne⟩ : ∃ n, E.length = n := ⟨_, rfl⟩
            have HNK := Aside0.mk hnk
            have HNE := Aside0.mk hne
            rw [hnk, hne]
            clear hnk hne q0
            go_wp2_with fail
            go_loopg [19] nk (fun kq2 v19 wr2 => ∃ (j2 : Nat), v19 = .int .i64 j2 ∧ Aside0 (j2 + kq2 = nk) ∧ Aside0 (Below v8.heap.size v8 wr2))
            case atStart => exact ⟨0, rfl, ⟨by omega⟩, ⟨Below.refl _ _⟩⟩
            case round =>
              obtain ⟨j2, h19, HJ2, HBX⟩ := hrel
              rename World => wx
              subst h19
              cases gk with
              | succ kq2 =>
                have hj2 : j2 < nk := by have := HJ2.out; omega
                have u3 : decide ((j2 : Int) < (nk : Int)) = true := decide_eq_true (by omega)
                have u4 : ((j2 : Int) < (nk : Int)) = True := eq_true (by omega)
                have u5 : decide ((j2 : Int) < 0) = false := decide_eq_false (by omega)
                have u6 : (0 ≤ (j2 : Int)) = True := eq_true (by omega)
                have u7 : (j2 < nk) = True := eq_true hj2
                have HWJ : Aside0 (wrap64 ((j2 : Int) + 1) = ((j2 + 1 : Nat) : Int)) := ⟨by have := HL1.out.1; have := HNK.out; unfold wrap64; omega⟩
                obtain ⟨kk, hkk⟩ : ∃ k, K[j2]? = some k := ⟨_, List.getElem?_eq_getElem (by rw [HNK.out]; exact hj2)⟩
                have F9 : Below v6.heap.size v6 wx := F8.out.trans (HBX.out.mono F8.out.size)
                obtain ⟨g3, y3, e3, m3⟩ := str_cells (Kd.R_below O3d.out F9) hkk
                obtain ⟨g4, y4, e4, m4⟩ := str_cells (Kd.R_below O4d.out F9) hkk
                injection e3 with e3 e3b e3c
                injection e4 with e4 e4b e4c
                subst e3
                subst e4
                subst e3c
                subst e4c
                clear e3b e4b F9 hkk hj2
                go_wp2_with fail
                go_quiet (fail)
                have HBXq : Aside0 (Below v8.heap.size v8 (wx.drewN nq)) := ⟨pw_below_drewN HBX.out nq⟩
                clear m3 m4
                go_wp2_with fail
                go_roundg kq2
                case measure => omega
                case rel => exact ⟨j2 + 1, by rw [HWJ.out], ⟨by have := HJ2.out; omega⟩, HBXq⟩
              | zero =>
                obtain rfl : j2 = nk := by have := HJ2.out; omega
                have u3 : decide ((j2 : Int) < (j2 : Int)) = false := decide_eq_false (by omega)
                have u4 : ((j2 : Int) < (j2 : Int)) = False := eq_false (by omega)
                go_wp2_with fail
                go_loopg [20] ne (fun kq3 v20 wr3 => ∃ (j3 : Nat), v20 = .int .i64 j3 ∧ Aside0 (j3 + kq3 = ne) ∧ Aside0 (Below v8.heap.size v8 wr3))
                case atStart => exact ⟨0, rfl, ⟨by omega⟩, HBX⟩
                case round =>
                  obtain ⟨j3, h20, HJ3, HBY⟩ := hrel
                  rename World => wy
                  subst h20
                  cases gk with
                  | succ kq3 =>
                    have hj3 : j3 < ne := by have := HJ3.out; omega
                    have s3 : decide ((j3 : Int) < (ne : Int)) = true := decide_eq_true (by omega)
                    have s4 : ((j3 : Int) < (ne : Int)) = True := eq_true (by omega)
                    have s5 : decide ((j3 : Int) < 0) = false := decide_eq_false (by omega)
                    have s6 : (0 ≤ (j3 : Int)) = True := eq_true (by omega)
                    have s7 : (j3 < ne) = True := eq_true hj3
                    have HWE : Aside0 (wrap64 ((j3 : Int) + 1) = ((j3 + 1 : Nat) : Int)) := ⟨by have := HL1.out.2; have := HNE.out; unfold wrap64; omega⟩
                    obtain ⟨ev, hev⟩ : ∃ e, E[j3]? = some e := ⟨_, List.getElem?_eq_getElem (by rw [HNE.out]; exact hj3)⟩
                    have hne0 : E ≠ [] := fun h => by rw [h] at hev; simp at hev
                    have F9 : Below v6.heap.size v6 wy := F8.out.trans (HBY.out.mono F8.out.size)
                    obtain ⟨g5, y5, e5, -, -, -, hc5⟩ := ev_cells (R5d.out.below F9) hne0
                    obtain ⟨g6, y6, e6, -, -, -, hc6⟩ := ev_cells (R6.out.below F9) hne0
                    injection e5 with e5 e5b e5c
                    injection e6 with e6 e6b e6c
                    subst e5
                    subst e6
                    subst e5c
                    subst e6c
                    obtain ⟨m0, m1, m2⟩ := hc5 j3 ev hev
                    obtain ⟨l0, l1, l2⟩ := hc6 j3 ev hev
                    obtain ⟨er, ek, ea⟩ := ev
                    clear e5b e6b F9 hev hne0 hj3 hc5 hc6
                    dsimp only at *
                    go_wp2_with fail
                    go_quiet (fail)
                    have HBYq : Aside0 (Below v8.heap.size v8 (wy.drewN nq)) := ⟨pw_below_drewN HBY.out nq⟩
                    clear m0 m1 m2 l0 l1 l2
                    go_wp2_with fail
                    go_roundg kq3
                    case measure => omega
                    case rel => exact ⟨j3 + 1, by rw [HWE.out], ⟨by have := HJ3.out; omega⟩, HBYq⟩
                  | zero =>
                    obtain rfl : j3 = ne := by have := HJ3.out; omega
                    have s3 : decide ((j3 : Int) < (j3 : Int)) = false := decide_eq_false (by omega)
                    have s4 : ((j3 : Int) < (j3 : Int)) = False := eq_false (by omega)
                    have PZ := Aside0.mk (P8.out.below HBY.out)
                    have DZ : Aside0 (Below w.heap.size w wy) := ⟨D8.out.trans (HBY.out.mono D8.out.size)⟩
                    go_wp2_with fail
                    go_roundg kq
                    case measure => omega
                    case rel => exact ⟨i + 1, by rw [HWI.out], ⟨by have := HIq.out; omega⟩, PZ, DZ⟩
end Go.Proofs.Ythpcplpannbipaa.Wk
