/- doormanlaw14.SpansLead answers true; no condition. -/
import Derived.Test.YthpcplpannbipaaUj
import Derived.WalkMore
import Derived.OwnWalk
import Derived.Deep.DeepMust
set_option linter.unusedVariables false
set_option linter.unusedSimpArgs false
set_option linter.unusedSectionVars false
namespace Go.Proofs.Ythpcplpannbipaa.Wk
open Go.RowKit Go.Maps Go.MapKept Go.Proofs.YthpcplpannbipaaW.PrintWords Go.Proofs.YthpcplpannbipaaW.PrintLast Go.Proofs.Ythpcplpannbipaa.X Go.Proofs.Ythpcplpannbipaa.Kx Go.Proofs.Ythpcplpannbipaa.Mp Go.Proofs.Ythpcplpannbipaa.Mq Go.Proofs.Ythpcplpannbipaa.Sq Go.Proofs.Ythpcplpannbipaa.Mb Go.Proofs.Ythpcplpannbipaa.Maps Go.Proofs.Ythpcplpannbipaa.Sa
set_option maxHeartbeats 16000000 in
set_option maxRecDepth 100000 in
theorem SpansLead (a0 : Option Addr) (len0 cap0 : Nat) (z0 : List Ac) (a b : Int) (w : World) (w0 : Ro.Row k56 Ro.ZA w a0 len0 cap0 z0) (w1 : (Lit.int .i64 a).wf = true) (w2 : (Lit.int .i64 b).wf = true) :
    Calls Try.prog 9 #[.slice a0 len0 cap0, .int .i64 a, .int .i64 b] w fun e w' => e = .returned (.bool true) ∧ Below w.heap.size w w' := by
  obtain rfl := w0.hl
  have HC := Aside0.mk w0.hC
  have HCAP := Aside0.mk w0.hc
  go_enter Try.func9, Try.ntmps9
  go_wp2_with fail
  refine (awake_c w).mono ?_
  rintro e wa ⟨rfl, hba⟩
  have HBA := Aside0.mk hba
  have HCA : Aside0 (Acts wa a0 z0) := ⟨Kd.C_below HC.out hba⟩
  clear hba
  go_wp2_with fail
  refine (few_c HCA.out HCAP.out).mono ?_
  rintro e wb ⟨rfl, hbb⟩
  have HBB : Aside0 (Below w.heap.size w wb) := ⟨HBA.out.trans (hbb.mono HBA.out.size)⟩
  clear hbb
  obtain ⟨r0, hr0⟩ : ∃ r, fewP z0 = r := ⟨_, rfl⟩
  obtain ⟨r1, hr1⟩ : ∃ r, decide (b < a) = r := ⟨_, rfl⟩
  obtain ⟨r2, hr2⟩ : ∃ r, decide (a < 0) = r := ⟨_, rfl⟩
  obtain ⟨r3, hr3⟩ : ∃ r, decide (1000000 < b) = r := ⟨_, rfl⟩
  rw [hr0]
  cases r0 with
  | false =>
    clear hr0
    go_wp2
    go_ret
    exact ⟨rfl, HBB.out⟩
  | true =>
  cases r1 with
  | true =>
    go_wp2
    go_ret
    exact ⟨rfl, HBB.out⟩
  | false =>
  cases r2 with
  | true =>
    go_wp2
    go_ret
    exact ⟨rfl, HBB.out⟩
  | false =>
  cases r3 with
  | true =>
    go_wp2
    go_ret
    exact ⟨rfl, HBB.out⟩
  | false =>
  have HFEW := Aside0.mk hr0
  clear hr0
  have HA : Aside0 (a ≤ b ∧ 0 ≤ a ∧ b ≤ 1000000) := ⟨by simp only [decide_eq_false_iff_not] at hr1 hr2 hr3; omega⟩
  go_wp2_with fail
  refine (new_h wb).mono ?_
  rintro e wc ⟨bb, ok0, rfl, hs0, hok0, hbc⟩
  have HS0 := Aside0.mk hs0
  have HOK0 : Aside0 (∀ m, ok0 m → w.heap.size ≤ m) := ⟨fun m hm => Nat.le_trans HBB.out.size (hok0 m hm)⟩
  have HB0 : Aside0 (Below w.heap.size w wc) := ⟨HBB.out.trans (hbc.mono HBB.out.size)⟩
  clear hs0 hok0 hbc hr1 hr2 hr3 w0 w1 w2
  obtain ⟨nn, hnn⟩ : ∃ n, z0.length = n := ⟨_, rfl⟩
  have HNN := Aside0.mk hnn
  have HN60 : Aside0 (nn ≤ 60) := ⟨by have := few_len HFEW.out; omega⟩
  rw [hnn]
  clear hnn
  go_wp2_with fail
  go_loopg [10] nn (fun kq v10 wr => ∃ (j n : Nat) (ok : Nat → Prop) (s : St ByteArray), v10 = .int .i64 j ∧ Aside0 (j + kq = nn ∧ n ≤ j) ∧ Aside0 (Hs wr ok bb s n) ∧ Aside0 (∀ m, ok m → w.heap.size ≤ m) ∧ Aside0 (Below w.heap.size w wr))
  case atStart => exact ⟨0, 0, ok0, ⟨[], 0⟩, rfl, ⟨by omega⟩, HS0, HOK0, HB0⟩
  case round =>
    obtain ⟨j, n, ok, s, h10, HJ, HS, HOK, HB⟩ := hrel
    rename World => wr
    subst h10
    cases gk with
    | succ kq =>
      have hj : j < nn := by have := HJ.out.1; omega
      have p1 : decide ((j : Int) < (nn : Int)) = true := decide_eq_true (by omega)
      have p2 : ((j : Int) < (nn : Int)) = True := eq_true (by omega)
      have p5 : decide ((j : Int) < 0) = false := decide_eq_false (by omega)
      have p6 : (0 ≤ (j : Int)) = True := eq_true (by omega)
      have p9 : (j < nn) = True := eq_true hj
      have hjx : j < z0.length := by rw [HNN.out]; exact hj
      obtain ⟨ad, rfl, q0, q1, q2⟩ := act_cells (Kd.C_below HC.out HB.out) j hjx
      obtain ⟨x, hx⟩ : ∃ x, z0[j] = x := ⟨_, rfl⟩
      rw [hx] at q0 q1 q2
      have hfx := few_at HFEW.out (x := x) (by rw [← hx]; exact List.getElem_mem _)
      have HFX := Aside0.mk hfx
      have HWR : Aside0 (wrap64 ((j : Int) + 1) = ((j + 1 : Nat) : Int)) := ⟨by have := HN60.out; unfold wrap64; omega⟩
      have HJN := Aside0.mk hj
      have HQ := Aside0.mk (And.intro q1 q2)
      have hxj : z0[j]? = some x := by rw [List.getElem?_eq_getElem hjx, hx]
      have HX := Aside0.mk hxj
      clear hfx hx hxj hjx hj
      obtain ⟨r, hr⟩ : ∃ r, (x.f0.tmod 2 == 0) = r := ⟨_, rfl⟩
      cases r with
      | true =>
        go_upto_region 12 with (fail)
        have HSd : Aside0 (Hs wr.drew ok bb s n) := ⟨HS.out.move (fun _ _ => rfl) (Nat.le_refl _)⟩
        have HBd : Aside0 (Below w.heap.size w wr.drew) := ⟨HB.out.drew⟩
        have HFN : Aside0 (n ≤ 900000 ∧ x.f1.size ≤ 1000) := ⟨by have := HJ.out; have := HN60.out; have := HJN.out; have := HFX.out; omega⟩
        refine start_ (n := 12) (S := fun w' => w'.cell? ⟨(ad.add (j * 3)).block, (ad.add (j * 3)).off + 1, none⟩ = some (.string x.f1) ∧ w'.cell? ⟨(ad.add (j * 3)).block, (ad.add (j * 3)).off + 2, none⟩ = some (.int .i64 x.f2)) (ds := [11]) #[false, false, false, false, false, false, false, false, false, false, false, false] (by kernel_rfl) rfl rfl ⟨HQ.out.1, HQ.out.2⟩ (fun hHeld => ?_)
        generalize wr.drew = w7 at HSd HBd hHeld ⊢
        refine pure_ (i := 0) (N := some 53) (v := ?_) (a' := ?_) #[true, false, false, false, false, false, false, false, false, false, false, false] rfl rfl (by kernel_rfl) (fun _ _ _ h => h) (Or.inl ⟨by rfl, ?_⟩) ?_ ?_
        rotate_left
        · intro w'
          go_simp
          with_reducible rfl
        rotate_left
        · simp only [Act.put, List.setIfInBounds_toArray, List.set_cons_zero, List.set_cons_succ, i64_w, i32_w]
          rfl
        refine pure_ (i := 1) (N := some 54) (v := ?_) (a' := ?_) #[true, true, false, false, false, false, false, false, false, false, false, false] rfl rfl (by kernel_rfl) (fun _ _ _ h => h) (Or.inl ⟨by rfl, ?_⟩) ?_ ?_
        rotate_left
        · intro w'
          go_simp
          with_reducible rfl
        rotate_left
        · simp only [Act.put, List.setIfInBounds_toArray, List.set_cons_zero, List.set_cons_succ, i64_w, i32_w]
          rfl
        refine pure_ (i := 2) (N := some 55) (v := ?_) (a' := ?_) #[true, true, true, false, false, false, false, false, false, false, false, false] rfl rfl (by kernel_rfl) (fun _ _ _ h => h) (Or.inl ⟨by rfl, ?_⟩) ?_ ?_
        rotate_left
        · intro w'
          go_simp
          with_reducible rfl
        rotate_left
        · simp only [Act.put, List.setIfInBounds_toArray, List.set_cons_zero, List.set_cons_succ, i64_w, i32_w]
          rfl
        refine pure_ (i := 3) (N := some 56) (v := ?_) (a' := ?_) #[true, true, true, true, false, false, false, false, false, false, false, false] rfl rfl (by kernel_rfl) (fun _ _ _ h => h) (Or.inl ⟨by rfl, ?_⟩) ?_ ?_
        rotate_left
        · intro w'
          go_simp
          with_reducible rfl
        rotate_left
        · simp only [Act.put, List.setIfInBounds_toArray, List.set_cons_zero, List.set_cons_succ, i64_w, i32_w]
          rfl
        refine pure_ (i := 4) (N := some 57) (v := ?_) (a' := ?_) #[true, true, true, true, true, false, false, false, false, false, false, false] rfl rfl (by kernel_rfl) (fun _ _ _ h => h) (Or.inl ⟨by rfl, ?_⟩) ?_ ?_
        rotate_left
        · intro w'
          go_simp
          with_reducible rfl
        rotate_left
        · simp only [Act.put, List.setIfInBounds_toArray, List.set_cons_zero, List.set_cons_succ, i64_w, i32_w]
          rfl
        refine pure_ (i := 6) (N := some 59) (v := ?_) (a' := ?_) #[true, true, true, true, true, false, true, false, false, false, false, false] rfl rfl (by kernel_rfl) (fun _ _ _ h => h) (Or.inl ⟨by rfl, ?_⟩) ?_ ?_
        rotate_left
        · intro w'
          go_simp
          with_reducible rfl
        rotate_left
        · simp only [Act.put, List.setIfInBounds_toArray, List.set_cons_zero, List.set_cons_succ, i64_w, i32_w]
          rfl
        refine pure_ (i := 7) (N := some 60) (v := ?_) (a' := ?_) #[true, true, true, true, true, false, true, true, false, false, false, false] rfl rfl (by kernel_rfl) (fun _ _ _ h => h) (Or.inl ⟨by rfl, ?_⟩) ?_ ?_
        rotate_left
        · intro w'
          go_simp
          with_reducible rfl
        rotate_left
        · simp only [Act.put, List.setIfInBounds_toArray, List.set_cons_zero, List.set_cons_succ, i64_w, i32_w]
          rfl
        refine pure_ (i := 8) (N := some 61) (v := ?_) (a' := ?_) #[true, true, true, true, true, false, true, true, true, false, false, false] rfl rfl (by kernel_rfl) (fun _ _ _ h => h) (Or.inl ⟨by rfl, ?_⟩) ?_ ?_
        rotate_left
        · intro w'
          go_simp
          with_reducible rfl
        rotate_left
        · simp only [Act.put, List.setIfInBounds_toArray, List.set_cons_zero, List.set_cons_succ, i64_w, i32_w]
          rfl
        refine pure_ (i := 9) (N := some 62) (v := ?_) (a' := ?_) #[true, true, true, true, true, false, true, true, true, true, false, false] rfl rfl (by kernel_rfl) (fun _ _ _ h => h) (Or.inl ⟨by rfl, ?_⟩) ?_ ?_
        rotate_left
        · intro w'
          go_simp
          with_reducible rfl
        rotate_left
        · simp only [Act.put, List.setIfInBounds_toArray, List.set_cons_zero, List.set_cons_succ, i64_w, i32_w]
          rfl
        refine take_ (i := 5) (N := some 58) (v := ?_) (a' := ?_) #[true, true, true, true, true, true, true, true, true, true, false, false] rfl rfl (by kernel_rfl) (fun _ _ _ h => h) (Or.inl ⟨by rfl, ?_⟩) hHeld ?_ ?_
        rotate_left
        · rintro w' ⟨s0, s1⟩
          go_simp
          with_reducible rfl
        rotate_left
        · simp only [Act.put, List.setIfInBounds_toArray, List.set_cons_zero, List.set_cons_succ, i64_w, i32_w]
          rfl
        refine take_ (i := 10) (N := some 63) (v := ?_) (a' := ?_) #[true, true, true, true, true, true, true, true, true, true, true, false] rfl rfl (by kernel_rfl) (fun _ _ _ h => h) (Or.inl ⟨by rfl, ?_⟩) hHeld ?_ ?_
        rotate_left
        · rintro w' ⟨s0, s1⟩
          go_simp
          with_reducible rfl
        rotate_left
        · simp only [Act.put, List.setIfInBounds_toArray, List.set_cons_zero, List.set_cons_succ, i64_w, i32_w]
          rfl
        refine last_ (i := 11) (N := some 64) #[true, true, true, true, true, true, true, true, true, true, true, true] rfl rfl (by kernel_rfl) (by decide) (fun K hK => ?_)
        refine goes_ Try.func26 (by kernel_rfl) rfl #[.pointer (some ⟨bb, 0, none⟩), .string x.f1, .int .i64 x.f2] (by rfl) rfl rfl (by simp only [List.map_toArray, List.map_cons, List.map_nil]; rfl) ?_
        with_reducible refine (put_h HSd.out HFN.out.1 HFN.out.2 x.f2).mono ?_
        rintro e w8 ⟨rfl, ⟨ok8, hs8, hok8⟩, hf8⟩
        refine ⟨_, rfl, ?_⟩
        have HS8 := Aside0.mk hs8
        have HOK8 : Aside0 (∀ m, ok8 m → w.heap.size ≤ m) := ⟨fun m hm => (hok8 m hm).elim (HOK.out m) (fun h => Nat.le_trans HBd.out.size h)⟩
        have HB8 : Aside0 (Below w.heap.size w w8) := ⟨HBd.out.trans (hf8.below_of HBd.out.size HOK.out)⟩
        clear hs8 hok8 hf8
        clear hHeld
        refine hK.out _ _ ?_
        clear hK K
        refine norm_ (a' := ?_) ?_ ?_
        rotate_left
        · show Act.put _ (some 64) _ = _
          simp only [Act.put, List.setIfInBounds_toArray, List.set_cons_zero, List.set_cons_succ, i64_w, i32_w]
          rfl
        refine done_ (by kernel_rfl) ?_
        go_wp2_with fail
        go_roundg kq
        case measure => omega
        case rel => exact ⟨j + 1, n + 1, ok8, _, by rw [HWR.out], ⟨by have := HJ.out; omega⟩, HS8, HOK8, HB8⟩
      | false =>
        go_upto_region 13 with (fail)
        have HSd : Aside0 (Hs wr.drew ok bb s n) := ⟨HS.out.move (fun _ _ => rfl) (Nat.le_refl _)⟩
        have HBd : Aside0 (Below w.heap.size w wr.drew) := ⟨HB.out.drew⟩
        have HFN : Aside0 (n ≤ 900000 ∧ x.f1.size ≤ 1000) := ⟨by have := HJ.out; have := HN60.out; have := HJN.out; have := HFX.out; omega⟩
        refine start_ (n := 12) (S := fun w' => w'.cell? ⟨(ad.add (j * 3)).block, (ad.add (j * 3)).off + 1, none⟩ = some (.string x.f1) ∧ w'.cell? ⟨(ad.add (j * 3)).block, (ad.add (j * 3)).off + 2, none⟩ = some (.int .i64 x.f2)) (ds := [11]) #[false, false, false, false, false, false, false, false, false, false, false, false] (by kernel_rfl) rfl rfl ⟨HQ.out.1, HQ.out.2⟩ (fun hHeld => ?_)
        generalize wr.drew = w7 at HSd HBd hHeld ⊢
        refine pure_ (i := 0) (N := some 65) (v := ?_) (a' := ?_) #[true, false, false, false, false, false, false, false, false, false, false, false] rfl rfl (by kernel_rfl) (fun _ _ _ h => h) (Or.inl ⟨by rfl, ?_⟩) ?_ ?_
        rotate_left
        · intro w'
          go_simp
          with_reducible rfl
        rotate_left
        · simp only [Act.put, List.setIfInBounds_toArray, List.set_cons_zero, List.set_cons_succ, i64_w, i32_w]
          rfl
        refine pure_ (i := 1) (N := some 66) (v := ?_) (a' := ?_) #[true, true, false, false, false, false, false, false, false, false, false, false] rfl rfl (by kernel_rfl) (fun _ _ _ h => h) (Or.inl ⟨by rfl, ?_⟩) ?_ ?_
        rotate_left
        · intro w'
          go_simp
          with_reducible rfl
        rotate_left
        · simp only [Act.put, List.setIfInBounds_toArray, List.set_cons_zero, List.set_cons_succ, i64_w, i32_w]
          rfl
        refine pure_ (i := 2) (N := some 67) (v := ?_) (a' := ?_) #[true, true, true, false, false, false, false, false, false, false, false, false] rfl rfl (by kernel_rfl) (fun _ _ _ h => h) (Or.inl ⟨by rfl, ?_⟩) ?_ ?_
        rotate_left
        · intro w'
          go_simp
          with_reducible rfl
        rotate_left
        · simp only [Act.put, List.setIfInBounds_toArray, List.set_cons_zero, List.set_cons_succ, i64_w, i32_w]
          rfl
        refine pure_ (i := 3) (N := some 68) (v := ?_) (a' := ?_) #[true, true, true, true, false, false, false, false, false, false, false, false] rfl rfl (by kernel_rfl) (fun _ _ _ h => h) (Or.inl ⟨by rfl, ?_⟩) ?_ ?_
        rotate_left
        · intro w'
          go_simp
          with_reducible rfl
        rotate_left
        · simp only [Act.put, List.setIfInBounds_toArray, List.set_cons_zero, List.set_cons_succ, i64_w, i32_w]
          rfl
        refine pure_ (i := 4) (N := some 69) (v := ?_) (a' := ?_) #[true, true, true, true, true, false, false, false, false, false, false, false] rfl rfl (by kernel_rfl) (fun _ _ _ h => h) (Or.inl ⟨by rfl, ?_⟩) ?_ ?_
        rotate_left
        · intro w'
          go_simp
          with_reducible rfl
        rotate_left
        · simp only [Act.put, List.setIfInBounds_toArray, List.set_cons_zero, List.set_cons_succ, i64_w, i32_w]
          rfl
        refine pure_ (i := 6) (N := some 71) (v := ?_) (a' := ?_) #[true, true, true, true, true, false, true, false, false, false, false, false] rfl rfl (by kernel_rfl) (fun _ _ _ h => h) (Or.inl ⟨by rfl, ?_⟩) ?_ ?_
        rotate_left
        · intro w'
          go_simp
          with_reducible rfl
        rotate_left
        · simp only [Act.put, List.setIfInBounds_toArray, List.set_cons_zero, List.set_cons_succ, i64_w, i32_w]
          rfl
        refine pure_ (i := 7) (N := some 72) (v := ?_) (a' := ?_) #[true, true, true, true, true, false, true, true, false, false, false, false] rfl rfl (by kernel_rfl) (fun _ _ _ h => h) (Or.inl ⟨by rfl, ?_⟩) ?_ ?_
        rotate_left
        · intro w'
          go_simp
          with_reducible rfl
        rotate_left
        · simp only [Act.put, List.setIfInBounds_toArray, List.set_cons_zero, List.set_cons_succ, i64_w, i32_w]
          rfl
        refine pure_ (i := 8) (N := some 73) (v := ?_) (a' := ?_) #[true, true, true, true, true, false, true, true, true, false, false, false] rfl rfl (by kernel_rfl) (fun _ _ _ h => h) (Or.inl ⟨by rfl, ?_⟩) ?_ ?_
        rotate_left
        · intro w'
          go_simp
          with_reducible rfl
        rotate_left
        · simp only [Act.put, List.setIfInBounds_toArray, List.set_cons_zero, List.set_cons_succ, i64_w, i32_w]
          rfl
        refine pure_ (i := 9) (N := some 74) (v := ?_) (a' := ?_) #[true, true, true, true, true, false, true, true, true, true, false, false] rfl rfl (by kernel_rfl) (fun _ _ _ h => h) (Or.inl ⟨by rfl, ?_⟩) ?_ ?_
        rotate_left
        · intro w'
          go_simp
          with_reducible rfl
        rotate_left
        · simp only [Act.put, List.setIfInBounds_toArray, List.set_cons_zero, List.set_cons_succ, i64_w, i32_w]
          rfl
        refine take_ (i := 5) (N := some 70) (v := ?_) (a' := ?_) #[true, true, true, true, true, true, true, true, true, true, false, false] rfl rfl (by kernel_rfl) (fun _ _ _ h => h) (Or.inl ⟨by rfl, ?_⟩) hHeld ?_ ?_
        rotate_left
        · rintro w' ⟨s0, s1⟩
          go_simp
          with_reducible rfl
        rotate_left
        · simp only [Act.put, List.setIfInBounds_toArray, List.set_cons_zero, List.set_cons_succ, i64_w, i32_w]
          rfl
        refine take_ (i := 10) (N := some 75) (v := ?_) (a' := ?_) #[true, true, true, true, true, true, true, true, true, true, true, false] rfl rfl (by kernel_rfl) (fun _ _ _ h => h) (Or.inl ⟨by rfl, ?_⟩) hHeld ?_ ?_
        rotate_left
        · rintro w' ⟨s0, s1⟩
          go_simp
          with_reducible rfl
        rotate_left
        · simp only [Act.put, List.setIfInBounds_toArray, List.set_cons_zero, List.set_cons_succ, i64_w, i32_w]
          rfl
        refine last_ (i := 11) (N := some 76) #[true, true, true, true, true, true, true, true, true, true, true, true] rfl rfl (by kernel_rfl) (by decide) (fun K hK => ?_)
        refine goes_ Try.func28 (by kernel_rfl) rfl #[.pointer (some ⟨bb, 0, none⟩), .string x.f1, .int .i64 x.f2] (by rfl) rfl rfl (by simp only [List.map_toArray, List.map_cons, List.map_nil]; rfl) ?_
        with_reducible refine (drop_h HSd.out HFN.out.1 HFN.out.2 x.f2).mono ?_
        rintro e w8 ⟨rfl, hs8, hf8⟩
        refine ⟨_, rfl, ?_⟩
        have HS8 := Aside0.mk hs8
        have HB8 : Aside0 (Below w.heap.size w w8) := ⟨HBd.out.trans (hf8.below_of HBd.out.size HOK.out)⟩
        clear hs8 hf8
        clear hHeld
        refine hK.out _ _ ?_
        clear hK K
        refine norm_ (a' := ?_) ?_ ?_
        rotate_left
        · show Act.put _ (some 76) _ = _
          simp only [Act.put, List.setIfInBounds_toArray, List.set_cons_zero, List.set_cons_succ, i64_w, i32_w]
          rfl
        refine done_ (by kernel_rfl) ?_
        go_wp2_with fail
        go_roundg kq
        case measure => omega
        case rel => exact ⟨j + 1, n, ok, _, by rw [HWR.out], ⟨by have := HJ.out; omega⟩, HS8, HOK, HB8⟩
    | zero =>
      obtain rfl : j = nn := by have := HJ.out.1; omega
      have p1 : decide ((j : Int) < (j : Int)) = false := decide_eq_false (by omega)
      have p2 : ((j : Int) < (j : Int)) = False := eq_false (by omega)
      have hn : n ≤ 100 := by have := HJ.out; have := HN60.out; omega
      have HN := Aside0.mk hn
      have HI : Aside0 (Sq.Inv blt s) := ⟨HS.out.few.inv⟩
      have HL1 : Aside0 ((keysOf s a).length ≤ 200 ∧ (keysOf s b).length ≤ 200 ∧ (eventsS blt s a b).length ≤ 400) := ⟨by have := HS.out.few.keysOf a; have := HS.out.few.keysOf b; have := ev_len s (f := a) (t := b) HS.out.few.len; omega⟩
      have HCB : Aside0 (countS s b = (keysOf s b).length) := ⟨(keys_count HI.out b).symm⟩
      have HCA2 : Aside0 (countS s a = (keysOf s a).length) := ⟨(keys_count HI.out a).symm⟩
      obtain ⟨Ka, hKa⟩ : ∃ K, keysOf s a = K := ⟨_, rfl⟩
      obtain ⟨Kb, hKb⟩ : ∃ K, keysOf s b = K := ⟨_, rfl⟩
      obtain ⟨E, hE⟩ : ∃ E, eventsS blt s a b = E := ⟨_, rfl⟩
      have HSRT : Aside0 (Srt blt Kb) := ⟨by rw [← hKb]; exact keysOf_srt HI.out b⟩
      have HKA := Aside0.mk hKa
      have HKB0 := Aside0.mk hKb
      have HE := Aside0.mk hE
      rw [hKa, hKb, hE] at HL1
      rw [hKb] at HCB
      rw [hKa] at HCA2
      clear hn
      go_wp2_with fail
      refine (keys_h HS.out (by have := HN.out; omega) a).mono ?_
      rw [hKa]
      rintro e v1 ⟨x1, rfl, ho1, hb1⟩
      obtain ⟨A1, c1, rfl⟩ := Kd.R_slice ho1
      have O1 := Aside0.mk ho1
      have H1 := Aside0.mk (HS.out.below hb1)
      have D1 : Aside0 (Below w.heap.size w v1) := ⟨HB.out.trans (hb1.mono HB.out.size)⟩
      clear ho1 hb1 hKa
      go_wp2_with fail
      refine (keys_h H1.out (by have := HN.out; omega) b).mono ?_
      rw [hKb]
      rintro e v2 ⟨x2, rfl, ho2, hb2⟩
      obtain ⟨A2, c2, rfl⟩ := Kd.R_slice ho2
      have O2 := Aside0.mk ho2
      have F0 := Aside0.mk hb2
      have H2 := Aside0.mk (H1.out.below hb2)
      have D2 : Aside0 (Below w.heap.size w v2) := ⟨D1.out.trans (hb2.mono D1.out.size)⟩
      clear ho2 hb2 hKb
      go_wp2_with fail
      refine (events_h H2.out (by have := HN.out; omega) a b).mono ?_
      rw [hE]
      rintro e v3 ⟨x3, rfl, hr3, hb3⟩
      obtain ⟨A3, c3, rfl⟩ := ev_slice hr3
      have R3 := Aside0.mk hr3
      have F2 := Aside0.mk hb3
      have F1 : Aside0 (Below v1.heap.size v1 v3) := ⟨F0.out.trans (hb3.mono F0.out.size)⟩
      have H3 := Aside0.mk (H2.out.below hb3)
      have D3 : Aside0 (Below w.heap.size w v3) := ⟨D2.out.trans (hb3.mono D2.out.size)⟩
      clear hr3 hb3 hE
      obtain ⟨ny, hny⟩ : ∃ n, Kb.length = n := ⟨_, rfl⟩
      have HNY := Aside0.mk hny
      obtain ⟨nx, hnx⟩ : ∃ n, Ka.length = n := ⟨_, rfl⟩
      have HNX := Aside0.mk hnx
      obtain ⟨ne, hne⟩ : ∃ n, E.length = n := ⟨_, rfl⟩
      have HNE := Aside0.mk hne
      rw [hnx, hny, hne]
      clear hnx hny hne
      go_wp2_with fail
      go_loopg [14, 15] ny (fun kq v14 v15 wr => ∃ (i : Nat), v14 = .int .i64 i ∧ v15 = .int .i64 i ∧ Aside0 (i + kq = ny) ∧ Aside0 (Below v3.heap.size v3 wr))
      case atStart => exact ⟨0, rfl, rfl, ⟨by omega⟩, ⟨Below.refl _ _⟩⟩
      case round =>
        obtain ⟨i, h14, h15, HIq, HBQ⟩ := hrel
        rename World => wq
        subst h14
        subst h15
        cases gk with
        | zero =>
          obtain rfl : i = ny := by have := HIq.out; omega
          have t3 : decide ((i : Int) < (i : Int)) = false := decide_eq_false (by omega)
          have t4 : ((i : Int) < (i : Int)) = False := eq_false (by omega)
          go_wp2_with fail
          refine (count_h (H3.out.below HBQ.out) (by have := HN.out; omega) b).mono ?_
          rw [HCB.out, HNY.out]
          rintro e v4 ⟨rfl, hb4⟩
          have HB4 : Aside0 (Below v3.heap.size v3 v4) := ⟨HBQ.out.trans (hb4.mono HBQ.out.size)⟩
          clear hb4
          go_wp2_with fail
          refine (count_h (H3.out.below HB4.out) (by have := HN.out; omega) a).mono ?_
          rw [HCA2.out, HNX.out]
          rintro e v5 ⟨rfl, hb5⟩
          have HB5 : Aside0 (Below v3.heap.size v3 v5) := ⟨HB4.out.trans (hb5.mono HB4.out.size)⟩
          clear hb5
          go_wp2
          go_ret
          exact ⟨rfl, D3.out.trans (HB5.out.mono D3.out.size)⟩
        | succ kq =>
          have hi : i < ny := by have := HIq.out; omega
          have t3 : decide ((i : Int) < (ny : Int)) = true := decide_eq_true (by omega)
          have t4 : ((i : Int) < (ny : Int)) = True := eq_true (by omega)
          have t5 : decide ((i : Int) < 0) = false := decide_eq_false (by omega)
          have t6 : (0 ≤ (i : Int)) = True := eq_true (by omega)
          have t7 : (i < ny) = True := eq_true (by omega)
          have HWI : Aside0 (wrap64 ((i : Int) + 1) = ((i + 1 : Nat) : Int)) := ⟨by have := HL1.out.2.1; have := HNY.out; unfold wrap64; omega⟩
          obtain ⟨k, hk⟩ : ∃ k, Kb[i]? = some k := ⟨_, List.getElem?_eq_getElem (by rw [HNY.out]; exact hi)⟩
          have HKI := Aside0.mk hk
          have HKB : Aside0 (hasS s k b = true) := ⟨(keysOf_mem HI.out b k).1 (by rw [HKB0.out]; exact List.mem_of_getElem? hk)⟩
          have F9 : Below v2.heap.size v2 wq := F2.out.trans (HBQ.out.mono F2.out.size)
          obtain ⟨g6, y6, e6, mk⟩ := str_cells (Kd.R_below O2.out F9) hk
          injection e6 with e6 e6b e6c
          subst e6
          subst e6c
          have hhas := has_h (H3.out.below HBQ.out.drew) k b
          rw [HKB.out] at hhas
          have HHAS := Aside0.mk hhas
          have HBw7 : Aside0 (Below v3.heap.size v3 wq.drew) := ⟨HBQ.out.drew⟩
          by_cases hi0 : i = 0
          · have r1 : decide (0 < (i : Int)) = false := decide_eq_false (by omega)
            have r2 : (0 < (i : Int)) = False := eq_false (by omega)
            have r9 : decide (0 < i) = false := decide_eq_false (by omega)
            have r10 : (0 < i) = False := eq_false (by omega)
            have MK := Aside0.mk mk
            clear e6b F9 hhas hk hi hi0
            go_upto_region 21 with (fail)
            refine start_ (n := 24) (S := fun w' => w'.cell? ⟨g6, i, none⟩ = some (.string k)) (ds := [21]) #[false, false, false, false, false, false, false, false, false, false, false, false, false, false, false, false, false, false, false, false, false, false, false, false] (by kernel_rfl) rfl rfl (MK.out) (fun hHeld => ?_)
            generalize wq.drew = w7 at HHAS HBw7 hHeld ⊢
            refine pure_ (i := 0) (N := some 93) (v := ?_) (a' := ?_) #[true, false, false, false, false, false, false, false, false, false, false, false, false, false, false, false, false, false, false, false, false, false, false, false] rfl rfl (by kernel_rfl) (fun _ _ _ h => h) (Or.inl ⟨by rfl, ?_⟩) ?_ ?_
            rotate_left
            · intro w'
              go_simp
              with_reducible rfl
            rotate_left
            · simp only [Act.put, List.setIfInBounds_toArray, List.set_cons_zero, List.set_cons_succ, i64_w, i32_w]
              rfl
            refine pure_ (i := 1) (N := some 94) (v := ?_) (a' := ?_) #[true, true, false, false, false, false, false, false, false, false, false, false, false, false, false, false, false, false, false, false, false, false, false, false] rfl rfl (by kernel_rfl) (fun _ _ _ h => h) (Or.inl ⟨by rfl, ?_⟩) ?_ ?_
            rotate_left
            · intro w'
              go_simp
              with_reducible rfl
            rotate_left
            · simp only [Act.put, List.setIfInBounds_toArray, List.set_cons_zero, List.set_cons_succ, i64_w, i32_w]
              rfl
            refine pure_ (i := 2) (N := some 95) (v := ?_) (a' := ?_) #[true, true, true, false, false, false, false, false, false, false, false, false, false, false, false, false, false, false, false, false, false, false, false, false] rfl rfl (by kernel_rfl) (fun _ _ _ h => h) (Or.inl ⟨by rfl, ?_⟩) ?_ ?_
            rotate_left
            · intro w'
              go_simp
              with_reducible rfl
            rotate_left
            · simp only [Act.put, List.setIfInBounds_toArray, List.set_cons_zero, List.set_cons_succ, i64_w, i32_w]
              rfl
            refine pure_ (i := 3) (N := some 96) (v := undef) (a' := ?_) #[true, true, true, true, false, false, false, false, false, false, false, false, false, false, false, false, false, false, false, false, false, false, false, false] rfl rfl (by kernel_rfl) (fun _ _ _ h => h) (Or.inr ⟨by rfl, rfl⟩) ?_ ?_
            rotate_left
            · simp only [Act.put, List.setIfInBounds_toArray, List.set_cons_zero, List.set_cons_succ, i64_w, i32_w]
              rfl
            refine pure_ (i := 4) (N := some 97) (v := undef) (a' := ?_) #[true, true, true, true, true, false, false, false, false, false, false, false, false, false, false, false, false, false, false, false, false, false, false, false] rfl rfl (by kernel_rfl) (fun _ _ _ h => h) (Or.inr ⟨by rfl, rfl⟩) ?_ ?_
            rotate_left
            · simp only [Act.put, List.setIfInBounds_toArray, List.set_cons_zero, List.set_cons_succ, i64_w, i32_w]
              rfl
            refine pure_ (i := 5) (N := some 98) (v := undef) (a' := ?_) #[true, true, true, true, true, true, false, false, false, false, false, false, false, false, false, false, false, false, false, false, false, false, false, false] rfl rfl (by kernel_rfl) (fun _ _ _ h => h) (Or.inr ⟨by rfl, rfl⟩) ?_ ?_
            rotate_left
            · simp only [Act.put, List.setIfInBounds_toArray, List.set_cons_zero, List.set_cons_succ, i64_w, i32_w]
              rfl
            refine pure_ (i := 6) (N := some 99) (v := undef) (a' := ?_) #[true, true, true, true, true, true, true, false, false, false, false, false, false, false, false, false, false, false, false, false, false, false, false, false] rfl rfl (by kernel_rfl) (fun _ _ _ h => h) (Or.inr ⟨by rfl, rfl⟩) ?_ ?_
            rotate_left
            · simp only [Act.put, List.setIfInBounds_toArray, List.set_cons_zero, List.set_cons_succ, i64_w, i32_w]
              rfl
            refine pure_ (i := 7) (N := some 100) (v := undef) (a' := ?_) #[true, true, true, true, true, true, true, true, false, false, false, false, false, false, false, false, false, false, false, false, false, false, false, false] rfl rfl (by kernel_rfl) (fun _ _ _ h => h) (Or.inr ⟨by rfl, rfl⟩) ?_ ?_
            rotate_left
            · simp only [Act.put, List.setIfInBounds_toArray, List.set_cons_zero, List.set_cons_succ, i64_w, i32_w]
              rfl
            refine pure_ (i := 8) (N := some 101) (v := undef) (a' := ?_) #[true, true, true, true, true, true, true, true, true, false, false, false, false, false, false, false, false, false, false, false, false, false, false, false] rfl rfl (by kernel_rfl) (fun _ _ _ h => h) (Or.inr ⟨by rfl, rfl⟩) ?_ ?_
            rotate_left
            · simp only [Act.put, List.setIfInBounds_toArray, List.set_cons_zero, List.set_cons_succ, i64_w, i32_w]
              rfl
            refine pure_ (i := 9) (N := some 102) (v := undef) (a' := ?_) #[true, true, true, true, true, true, true, true, true, true, false, false, false, false, false, false, false, false, false, false, false, false, false, false] rfl rfl (by kernel_rfl) (fun _ _ _ h => h) (Or.inr ⟨by rfl, rfl⟩) ?_ ?_
            rotate_left
            · simp only [Act.put, List.setIfInBounds_toArray, List.set_cons_zero, List.set_cons_succ, i64_w, i32_w]
              rfl
            refine pure_ (i := 10) (N := some 103) (v := undef) (a' := ?_) #[true, true, true, true, true, true, true, true, true, true, true, false, false, false, false, false, false, false, false, false, false, false, false, false] rfl rfl (by kernel_rfl) (fun _ _ _ h => h) (Or.inr ⟨by rfl, rfl⟩) ?_ ?_
            rotate_left
            · simp only [Act.put, List.setIfInBounds_toArray, List.set_cons_zero, List.set_cons_succ, i64_w, i32_w]
              rfl
            refine pure_ (i := 11) (N := some 104) (v := undef) (a' := ?_) #[true, true, true, true, true, true, true, true, true, true, true, true, false, false, false, false, false, false, false, false, false, false, false, false] rfl rfl (by kernel_rfl) (fun _ _ _ h => h) (Or.inr ⟨by rfl, rfl⟩) ?_ ?_
            rotate_left
            · simp only [Act.put, List.setIfInBounds_toArray, List.set_cons_zero, List.set_cons_succ, i64_w, i32_w]
              rfl
            refine pure_ (i := 12) (N := some 105) (v := undef) (a' := ?_) #[true, true, true, true, true, true, true, true, true, true, true, true, true, false, false, false, false, false, false, false, false, false, false, false] rfl rfl (by kernel_rfl) (fun _ _ _ h => h) (Or.inr ⟨by rfl, rfl⟩) ?_ ?_
            rotate_left
            · simp only [Act.put, List.setIfInBounds_toArray, List.set_cons_zero, List.set_cons_succ, i64_w, i32_w]
              rfl
            refine pure_ (i := 13) (N := some 106) (v := ?_) (a' := ?_) #[true, true, true, true, true, true, true, true, true, true, true, true, true, true, false, false, false, false, false, false, false, false, false, false] rfl rfl (by kernel_rfl) (fun _ _ _ h => h) (Or.inl ⟨by rfl, ?_⟩) ?_ ?_
            rotate_left
            · intro w'
              go_simp
              with_reducible rfl
            rotate_left
            · simp only [Act.put, List.setIfInBounds_toArray, List.set_cons_zero, List.set_cons_succ, i64_w, i32_w]
              rfl
            refine pure_ (i := 14) (N := some 107) (v := ?_) (a' := ?_) #[true, true, true, true, true, true, true, true, true, true, true, true, true, true, true, false, false, false, false, false, false, false, false, false] rfl rfl (by kernel_rfl) (fun _ _ _ h => h) (Or.inl ⟨by rfl, ?_⟩) ?_ ?_
            rotate_left
            · intro w'
              go_simp
              with_reducible rfl
            rotate_left
            · simp only [Act.put, List.setIfInBounds_toArray, List.set_cons_zero, List.set_cons_succ, i64_w, i32_w]
              rfl
            refine pure_ (i := 15) (N := some 108) (v := ?_) (a' := ?_) #[true, true, true, true, true, true, true, true, true, true, true, true, true, true, true, true, false, false, false, false, false, false, false, false] rfl rfl (by kernel_rfl) (fun _ _ _ h => h) (Or.inl ⟨by rfl, ?_⟩) ?_ ?_
            rotate_left
            · intro w'
              go_simp
              with_reducible rfl
            rotate_left
            · simp only [Act.put, List.setIfInBounds_toArray, List.set_cons_zero, List.set_cons_succ, i64_w, i32_w]
              rfl
            refine pure_ (i := 16) (N := some 109) (v := ?_) (a' := ?_) #[true, true, true, true, true, true, true, true, true, true, true, true, true, true, true, true, true, false, false, false, false, false, false, false] rfl rfl (by kernel_rfl) (fun _ _ _ h => h) (Or.inl ⟨by rfl, ?_⟩) ?_ ?_
            rotate_left
            · intro w'
              go_simp
              with_reducible rfl
            rotate_left
            · simp only [Act.put, List.setIfInBounds_toArray, List.set_cons_zero, List.set_cons_succ, i64_w, i32_w]
              rfl
            refine pure_ (i := 17) (N := some 110) (v := ?_) (a' := ?_) #[true, true, true, true, true, true, true, true, true, true, true, true, true, true, true, true, true, true, false, false, false, false, false, false] rfl rfl (by kernel_rfl) (fun _ _ _ h => h) (Or.inl ⟨by rfl, ?_⟩) ?_ ?_
            rotate_left
            · intro w'
              go_simp
              with_reducible rfl
            rotate_left
            · simp only [Act.put, List.setIfInBounds_toArray, List.set_cons_zero, List.set_cons_succ, i64_w, i32_w]
              rfl
            refine pure_ (i := 18) (N := some 111) (v := ?_) (a' := ?_) #[true, true, true, true, true, true, true, true, true, true, true, true, true, true, true, true, true, true, true, false, false, false, false, false] rfl rfl (by kernel_rfl) (fun _ _ _ h => h) (Or.inl ⟨by rfl, ?_⟩) ?_ ?_
            rotate_left
            · intro w'
              go_simp
              with_reducible rfl
            rotate_left
            · simp only [Act.put, List.setIfInBounds_toArray, List.set_cons_zero, List.set_cons_succ, i64_w, i32_w]
              rfl
            refine pure_ (i := 20) (N := some 113) (v := ?_) (a' := ?_) #[true, true, true, true, true, true, true, true, true, true, true, true, true, true, true, true, true, true, true, false, true, false, false, false] rfl rfl (by kernel_rfl) (fun _ _ _ h => h) (Or.inl ⟨by rfl, ?_⟩) ?_ ?_
            rotate_left
            · intro w'
              go_simp
              with_reducible rfl
            rotate_left
            · simp only [Act.put, List.setIfInBounds_toArray, List.set_cons_zero, List.set_cons_succ, i64_w, i32_w]
              rfl
            refine take_ (i := 19) (N := some 112) (v := ?_) (a' := ?_) #[true, true, true, true, true, true, true, true, true, true, true, true, true, true, true, true, true, true, true, true, true, false, false, false] rfl rfl (by kernel_rfl) (fun _ _ _ h => h) (Or.inl ⟨by rfl, ?_⟩) hHeld ?_ ?_
            rotate_left
            · intro w' s0
              go_simp
              with_reducible rfl
            rotate_left
            · simp only [Act.put, List.setIfInBounds_toArray, List.set_cons_zero, List.set_cons_succ, i64_w, i32_w]
              rfl
            refine last_ (i := 21) (N := some 114) #[true, true, true, true, true, true, true, true, true, true, true, true, true, true, true, true, true, true, true, true, true, true, false, false] rfl rfl (by kernel_rfl) (by decide) (fun K hK => ?_)
            refine goes_ Try.func34 (by kernel_rfl) rfl #[.pointer (some ⟨bb, 0, none⟩), .string k, .int .i64 b] (by rfl) rfl rfl (by simp only [List.map_toArray, List.map_cons, List.map_nil]; rfl) ?_
            with_reducible refine (HHAS.out).mono ?_
            rintro e w8 ⟨rfl, hb8⟩
            refine ⟨_, rfl, ?_⟩
            have HB8 : Aside0 (Below v3.heap.size v3 w8) := ⟨HBw7.out.trans (hb8.mono HBw7.out.size)⟩
            clear hb8 hHeld
            refine hK.out _ _ ?_
            clear hK K
            refine norm_ (a' := ?_) ?_ ?_
            rotate_left
            · show Act.put _ (some 114) _ = _
              simp only [Act.put, List.setIfInBounds_toArray, List.set_cons_zero, List.set_cons_succ, i64_w, i32_w]
              rfl
            refine pure_ (i := 22) (N := some 115) (v := ?_) (a' := ?_) #[true, true, true, true, true, true, true, true, true, true, true, true, true, true, true, true, true, true, true, true, true, true, true, false] rfl rfl (by kernel_rfl) (fun _ _ _ h => h) (Or.inl ⟨by rfl, ?_⟩) ?_ ?_
            rotate_left
            · intro w'
              go_simp
              with_reducible rfl
            rotate_left
            · simp only [Act.put, List.setIfInBounds_toArray, List.set_cons_zero, List.set_cons_succ, i64_w, i32_w]
              rfl
            refine pure_ (i := 23) (N := some 116) (v := ?_) (a' := ?_) #[true, true, true, true, true, true, true, true, true, true, true, true, true, true, true, true, true, true, true, true, true, true, true, true] rfl rfl (by kernel_rfl) (fun _ _ _ h => h) (Or.inl ⟨by rfl, ?_⟩) ?_ ?_
            rotate_left
            · intro w'
              go_simp
              with_reducible rfl
            rotate_left
            · simp only [Act.put, List.setIfInBounds_toArray, List.set_cons_zero, List.set_cons_succ, i64_w, i32_w]
              rfl
            refine done_ (by kernel_rfl) ?_
            clear mk
            go_wp2_with fail
            go_loopg [16, 17] nx (fun kq2 v16 v17 wr2 => ∃ (j2 : Nat), v16 = .bool ((Ka.take j2).any fun u => decide (u = k)) ∧ v17 = .int .i64 j2 ∧ Aside0 (j2 + kq2 = nx) ∧ Aside0 (Below v3.heap.size v3 wr2))
            case atStart => exact ⟨0, rfl, rfl, ⟨by omega⟩, HB8⟩
            case round =>
              obtain ⟨j2, h16, h17, HJ2, HBX⟩ := hrel
              rename World => wx
              subst h16
              subst h17
              cases gk with
              | succ kq2 =>
                have hj2 : j2 < nx := by have := HJ2.out; omega
                have u3 : decide ((j2 : Int) < (nx : Int)) = true := decide_eq_true (by omega)
                have u4 : ((j2 : Int) < (nx : Int)) = True := eq_true (by omega)
                have u5 : decide ((j2 : Int) < 0) = false := decide_eq_false (by omega)
                have u6 : (0 ≤ (j2 : Int)) = True := eq_true (by omega)
                have u7 : (j2 < nx) = True := eq_true (by omega)
                have HWJ : Aside0 (wrap64 ((j2 : Int) + 1) = ((j2 + 1 : Nat) : Int)) := ⟨by have := HL1.out.1; have := HNX.out; unfold wrap64; omega⟩
                obtain ⟨kx, hkx⟩ : ∃ k, Ka[j2]? = some k := ⟨_, List.getElem?_eq_getElem (by rw [HNX.out]; exact hj2)⟩
                have F8 : Below v1.heap.size v1 wx := F1.out.trans (HBX.out.mono F1.out.size)
                have F9 : Below v2.heap.size v2 wx := F2.out.trans (HBX.out.mono F2.out.size)
                obtain ⟨g5, y5, e5, m5⟩ := str_cells (Kd.R_below O1.out F8) hkx
                obtain ⟨g9, y9, e6, m6⟩ := str_cells (Kd.R_below O2.out F9) HKI.out
                injection e5 with e5 e5b e5c
                injection e6 with e6 e6b e6c
                injection e6 with e6
                injection e6 with e6
                subst e5
                subst e6
                subst e5c
                subst e6c
                have HANY : Aside0 ((Ka.take (j2 + 1)).any (fun u => decide (u = k)) = ((Ka.take j2).any (fun u => decide (u = k)) || decide (kx = k))) := ⟨by rw [List.take_add_one, hkx, List.any_append]; simp⟩
                obtain ⟨cur, hcur⟩ : ∃ c, (Ka.take j2).any (fun u => decide (u = k)) = c := ⟨_, rfl⟩
                rw [hcur] at HANY ⊢
                clear e5b e6b F8 F9 hkx hj2 hcur
                cases cur with
                | true =>
                  go_wp2_with fail
                  go_quiet (fail)
                  have HBXq : Aside0 (Below v3.heap.size v3 (wx.drewN nq)) := ⟨pw_below_drewN HBX.out nq⟩
                  clear m5 m6
                  go_wp2_with fail
                  go_roundg kq2
                  case measure => omega
                  case rel => exact ⟨j2 + 1, by rw [HANY.out]; rfl, by rw [HWJ.out], ⟨by have := HJ2.out; omega⟩, HBXq⟩
                | false =>
                  by_cases hkk : kx = k
                  · have k0 : (kx.toList == k.toList) = true := by rw [hkk]; simp
                    have HDE : Aside0 (decide (kx = k) = true) := ⟨decide_eq_true hkk⟩
                    clear hkk
                    go_wp2_with fail
                    go_quiet (fail)
                    have HBXq : Aside0 (Below v3.heap.size v3 (wx.drewN nq)) := ⟨pw_below_drewN HBX.out nq⟩
                    clear m5 m6
                    go_wp2_with fail
                    go_roundg kq2
                    case measure => omega
                    case rel => exact ⟨j2 + 1, by rw [HANY.out, HDE.out]; rfl, by rw [HWJ.out], ⟨by have := HJ2.out; omega⟩, HBXq⟩
                  · have k0 : (kx.toList == k.toList) = false := beq_eq_false_iff_ne.2 (fun e => hkk (ByteArray.ext (Array.toList_inj.1 (by rw [← Lib.toList_data, ← Lib.toList_data, e]))))
                    have HDE : Aside0 (decide (kx = k) = false) := ⟨decide_eq_false hkk⟩
                    clear hkk
                    go_wp2_with fail
                    go_quiet (fail)
                    have HBXq : Aside0 (Below v3.heap.size v3 (wx.drewN nq)) := ⟨pw_below_drewN HBX.out nq⟩
                    clear m5 m6
                    go_wp2_with fail
                    go_roundg kq2
                    case measure => omega
                    case rel => exact ⟨j2 + 1, by rw [HANY.out, HDE.out]; rfl, by rw [HWJ.out], ⟨by have := HJ2.out; omega⟩, HBXq⟩
              | zero =>
                obtain rfl : j2 = nx := by have := HJ2.out; omega
                have u3 : decide ((j2 : Int) < (j2 : Int)) = false := decide_eq_false (by omega)
                have u4 : ((j2 : Int) < (j2 : Int)) = False := eq_false (by omega)
                have hin : (Ka.take j2).any (fun u => decide (u = k)) = hasS s k a := by
                  rw [List.take_of_length_le (by rw [HNX.out]; exact Nat.le_refl _), ← HKA.out, Bool.eq_iff_iff, List.any_eq_true, ← keysOf_mem HI.out a k]
                  constructor
                  · rintro ⟨u, hu, he⟩; rw [← of_decide_eq_true he]; exact hu
                  · intro hu; exact ⟨k, hu, decide_eq_true rfl⟩
                rw [hin]
                clear hin
                go_wp2_with fail
                go_loopg [16, 18] ne (fun kq3 v16 v18 wr3 => ∃ (j3 : Nat) (cur : Bool), v16 = .bool cur ∧ v18 = .int .i64 j3 ∧ Aside0 (j3 + kq3 = ne) ∧ Aside0 (Below v3.heap.size v3 wr3) ∧ Aside0 (run k cur (E.drop j3) = some true))
                case atStart => exact ⟨0, hasS s k a, rfl, rfl, ⟨by omega⟩, HBX, ⟨by rw [List.drop_zero, ← HE.out, run_events HI.out k HA.out.2.1 HA.out.1, HKB.out]⟩⟩
                case round =>
                  obtain ⟨j3, cur, h16, h18, HJ3, HBY, HRUN⟩ := hrel
                  rename World => wy
                  subst h16
                  subst h18
                  cases gk with
                  | succ kq3 =>
                    have hj3 : j3 < ne := by have := HJ3.out; omega
                    have s3 : decide ((j3 : Int) < (ne : Int)) = true := decide_eq_true (by omega)
                    have s4 : ((j3 : Int) < (ne : Int)) = True := eq_true (by omega)
                    have s5 : decide ((j3 : Int) < 0) = false := decide_eq_false (by omega)
                    have s6 : (0 ≤ (j3 : Int)) = True := eq_true (by omega)
                    have s7 : (j3 < ne) = True := eq_true (by omega)
                    have HWE : Aside0 (wrap64 ((j3 : Int) + 1) = ((j3 + 1 : Nat) : Int)) := ⟨by have := HL1.out.2.2; have := HNE.out; unfold wrap64; omega⟩
                    have hj3l : j3 < E.length := by rw [HNE.out]; exact hj3
                    obtain ⟨ev, hev⟩ : ∃ e, E[j3]? = some e := ⟨_, List.getElem?_eq_getElem hj3l⟩
                    have hne0 : E ≠ [] := fun h => by rw [h] at hev; simp at hev
                    have F9 : Below v2.heap.size v2 wy := F2.out.trans (HBY.out.mono F2.out.size)
                    obtain ⟨g7, y7, e7, -, -, -, hc7⟩ := ev_cells (R3.out.below HBY.out) hne0
                    obtain ⟨g9, y9, e6, m6⟩ := str_cells (Kd.R_below O2.out F9) HKI.out
                    injection e7 with e7 e7b e7c
                    injection e6 with e6 e6b e6c
                    injection e6 with e6
                    injection e6 with e6
                    subst e7
                    subst e6
                    subst e7c
                    subst e6c
                    obtain ⟨m0, m1, m2⟩ := hc7 j3 ev hev
                    have hdr : E.drop j3 = ev :: E.drop (j3 + 1) := by rw [List.drop_eq_getElem_cons hj3l]; congr 1; exact Option.some.inj ((List.getElem?_eq_getElem hj3l).symm.trans hev)
                    have hrun := HRUN.out
                    rw [hdr, run] at hrun
                    obtain ⟨er, ek, ea⟩ := ev
                    have HC7 := Aside0.mk (hc7 j3 _ hev)
                    clear e7b e6b F9 hdr hne0 hj3 hj3l hc7
                    dsimp only at *
                    by_cases hkk : ek = k
                    · have k0 : (ek.toList == k.toList) = true := by rw [hkk]; simp
                      rw [if_pos hkk] at hrun
                      by_cases hca : cur = ea
                      · rw [if_pos hca] at hrun
                        exact absurd hrun (by simp)
                      · rw [if_neg hca] at hrun
                        have HR3 := Aside0.mk hrun
                        have d1 : (cur == ea) = false := beq_eq_false_iff_ne.2 hca
                        have d2 : decide (cur = ea) = false := decide_eq_false hca
                        have d3 : (cur = ea) = False := eq_false hca
                        clear hrun hkk hev hca
                        go_wp2_with fail
                        go_quiet (fail)
                        have HBYq : Aside0 (Below v3.heap.size v3 (wy.drewN nq)) := ⟨pw_below_drewN HBY.out nq⟩
                        have hyq : Below wy.heap.size wy (wy.drewN nq) := pw_below_drewN (Below.refl _ _) nq
                        have m8 := HC7.out.2.2
                        have m9 : (wy.drewN nq).cell? ⟨g7, j3 * 3 + 2, none⟩ = some (.bool ea) := m8
                        clear m0 m1 m2 m6 m8 hyq
                        go_wp2_with fail
                        go_roundg kq3
                        case measure => omega
                        case rel => exact ⟨j3 + 1, ea, rfl, by rw [HWE.out], ⟨by have := HJ3.out; omega⟩, HBYq, HR3⟩
                    · have k0 : (ek.toList == k.toList) = false := beq_eq_false_iff_ne.2 (fun e => hkk (ByteArray.ext (Array.toList_inj.1 (by rw [← Lib.toList_data, ← Lib.toList_data, e]))))
                      rw [if_neg hkk] at hrun
                      have HR3 := Aside0.mk hrun
                      clear hrun hkk hev
                      go_wp2_with fail
                      go_quiet (fail)
                      have HBYq : Aside0 (Below v3.heap.size v3 (wy.drewN nq)) := ⟨pw_below_drewN HBY.out nq⟩
                      clear m0 m1 m2 m6
                      go_wp2_with fail
                      go_roundg kq3
                      case measure => omega
                      case rel => exact ⟨j3 + 1, cur, rfl, by rw [HWE.out], ⟨by have := HJ3.out; omega⟩, HBYq, HR3⟩
                  | zero =>
                    obtain rfl : j3 = ne := by have := HJ3.out; omega
                    have s3 : decide ((j3 : Int) < (j3 : Int)) = false := decide_eq_false (by omega)
                    have s4 : ((j3 : Int) < (j3 : Int)) = False := eq_false (by omega)
                    have hc : cur = true := by
                      have := HRUN.out
                      rw [List.drop_eq_nil_of_le (by rw [HNE.out]; exact Nat.le_refl _), run] at this
                      exact Option.some.inj this
                    subst hc
                    go_wp2_with fail
                    go_roundg kq
                    case measure => omega
                    case rel => exact ⟨i + 1, by rw [HWI.out], by rw [HWI.out], ⟨by have := HIq.out; omega⟩, HBY⟩
          · obtain ⟨p, hp⟩ : ∃ p, p + 1 = i := ⟨i - 1, by omega⟩
            obtain ⟨kp, hkp⟩ : ∃ k, Kb[p]? = some k := ⟨_, List.getElem?_eq_getElem (by rw [HNY.out]; omega)⟩
            obtain ⟨g8, y8, e8, mp⟩ := str_cells (Kd.R_below O2.out F9) hkp
            injection e8 with e8 e8b e8c
            injection e8 with e8
            injection e8 with e8
            subst e8
            have hlt : blt kp k = true := by
              obtain ⟨q1, rfl⟩ := List.getElem?_eq_some_iff.1 hkp
              obtain ⟨q2, rfl⟩ := List.getElem?_eq_some_iff.1 hk
              exact (srt_idx HSRT.out q1 q2).2 (by omega)
            have hb1 : Op.bytesLess kp.toList k.toList = true := hlt
            have r1 : decide (0 < (i : Int)) = true := decide_eq_true (by omega)
            have r2 : (0 < (i : Int)) = True := eq_true (by omega)
            have r9 : decide (0 < i) = true := decide_eq_true (by omega)
            have r10 : (0 < i) = True := eq_true (by omega)
            have r3 : wrap64 ((i : Int) - 1) = (p : Int) := by have := HL1.out.2.1; have := HNY.out; unfold wrap64; omega
            have r4 : decide ((p : Int) < (ny : Int)) = true := decide_eq_true (by omega)
            have r5 : ((p : Int) < (ny : Int)) = True := eq_true (by omega)
            have r6 : decide ((p : Int) < 0) = false := decide_eq_false (by omega)
            have r7 : (0 ≤ (p : Int)) = True := eq_true (by omega)
            have r8 : (p < ny) = True := eq_true (by omega)
            have MK := Aside0.mk (And.intro mk mp)
            clear e6b F9 hhas hk hi hi0 hp hkp e8b e8c hlt
            go_upto_region 21 with (fail)
            refine start_ (n := 24) (S := fun w' => w'.cell? ⟨g6, i, none⟩ = some (.string k) ∧ w'.cell? ⟨g6, p, none⟩ = some (.string kp)) (ds := [21]) #[false, false, false, false, false, false, false, false, false, false, false, false, false, false, false, false, false, false, false, false, false, false, false, false] (by kernel_rfl) rfl rfl ⟨MK.out.1, MK.out.2⟩ (fun hHeld => ?_)
            generalize wq.drew = w7 at HHAS HBw7 hHeld ⊢
            refine pure_ (i := 0) (N := some 93) (v := ?_) (a' := ?_) #[true, false, false, false, false, false, false, false, false, false, false, false, false, false, false, false, false, false, false, false, false, false, false, false] rfl rfl (by kernel_rfl) (fun _ _ _ h => h) (Or.inl ⟨by rfl, ?_⟩) ?_ ?_
            rotate_left
            · intro w'
              go_simp
              with_reducible rfl
            rotate_left
            · simp only [Act.put, List.setIfInBounds_toArray, List.set_cons_zero, List.set_cons_succ, i64_w, i32_w]
              rfl
            refine pure_ (i := 1) (N := some 94) (v := ?_) (a' := ?_) #[true, true, false, false, false, false, false, false, false, false, false, false, false, false, false, false, false, false, false, false, false, false, false, false] rfl rfl (by kernel_rfl) (fun _ _ _ h => h) (Or.inl ⟨by rfl, ?_⟩) ?_ ?_
            rotate_left
            · intro w'
              go_simp
              with_reducible rfl
            rotate_left
            · simp only [Act.put, List.setIfInBounds_toArray, List.set_cons_zero, List.set_cons_succ, i64_w, i32_w]
              rfl
            refine pure_ (i := 2) (N := some 95) (v := ?_) (a' := ?_) #[true, true, true, false, false, false, false, false, false, false, false, false, false, false, false, false, false, false, false, false, false, false, false, false] rfl rfl (by kernel_rfl) (fun _ _ _ h => h) (Or.inl ⟨by rfl, ?_⟩) ?_ ?_
            rotate_left
            · intro w'
              go_simp
              with_reducible rfl
            rotate_left
            · simp only [Act.put, List.setIfInBounds_toArray, List.set_cons_zero, List.set_cons_succ, i64_w, i32_w]
              rfl
            refine pure_ (i := 3) (N := some 96) (v := ?_) (a' := ?_) #[true, true, true, true, false, false, false, false, false, false, false, false, false, false, false, false, false, false, false, false, false, false, false, false] rfl rfl (by kernel_rfl) (fun _ _ _ h => h) (Or.inl ⟨by rfl, ?_⟩) ?_ ?_
            rotate_left
            · intro w'
              go_simp
              with_reducible rfl
            rotate_left
            · simp only [Act.put, List.setIfInBounds_toArray, List.set_cons_zero, List.set_cons_succ, i64_w, i32_w]
              rfl
            refine pure_ (i := 4) (N := some 97) (v := ?_) (a' := ?_) #[true, true, true, true, true, false, false, false, false, false, false, false, false, false, false, false, false, false, false, false, false, false, false, false] rfl rfl (by kernel_rfl) (fun _ _ _ h => h) (Or.inl ⟨by rfl, ?_⟩) ?_ ?_
            rotate_left
            · intro w'
              go_simp
              with_reducible rfl
            rotate_left
            · simp only [Act.put, List.setIfInBounds_toArray, List.set_cons_zero, List.set_cons_succ, i64_w, i32_w]
              rfl
            refine pure_ (i := 5) (N := some 98) (v := ?_) (a' := ?_) #[true, true, true, true, true, true, false, false, false, false, false, false, false, false, false, false, false, false, false, false, false, false, false, false] rfl rfl (by kernel_rfl) (fun _ _ _ h => h) (Or.inl ⟨by rfl, ?_⟩) ?_ ?_
            rotate_left
            · intro w'
              go_simp
              with_reducible rfl
            rotate_left
            · simp only [Act.put, List.setIfInBounds_toArray, List.set_cons_zero, List.set_cons_succ, i64_w, i32_w]
              rfl
            refine pure_ (i := 6) (N := some 99) (v := ?_) (a' := ?_) #[true, true, true, true, true, true, true, false, false, false, false, false, false, false, false, false, false, false, false, false, false, false, false, false] rfl rfl (by kernel_rfl) (fun _ _ _ h => h) (Or.inl ⟨by rfl, ?_⟩) ?_ ?_
            rotate_left
            · intro w'
              go_simp
              with_reducible rfl
            rotate_left
            · simp only [Act.put, List.setIfInBounds_toArray, List.set_cons_zero, List.set_cons_succ, i64_w, i32_w]
              rfl
            refine pure_ (i := 8) (N := some 101) (v := ?_) (a' := ?_) #[true, true, true, true, true, true, true, false, true, false, false, false, false, false, false, false, false, false, false, false, false, false, false, false] rfl rfl (by kernel_rfl) (fun _ _ _ h => h) (Or.inl ⟨by rfl, ?_⟩) ?_ ?_
            rotate_left
            · intro w'
              go_simp
              with_reducible rfl
            rotate_left
            · simp only [Act.put, List.setIfInBounds_toArray, List.set_cons_zero, List.set_cons_succ, i64_w, i32_w]
              rfl
            refine pure_ (i := 9) (N := some 102) (v := ?_) (a' := ?_) #[true, true, true, true, true, true, true, false, true, true, false, false, false, false, false, false, false, false, false, false, false, false, false, false] rfl rfl (by kernel_rfl) (fun _ _ _ h => h) (Or.inl ⟨by rfl, ?_⟩) ?_ ?_
            rotate_left
            · intro w'
              go_simp
              with_reducible rfl
            rotate_left
            · simp only [Act.put, List.setIfInBounds_toArray, List.set_cons_zero, List.set_cons_succ, i64_w, i32_w]
              rfl
            refine pure_ (i := 10) (N := some 103) (v := ?_) (a' := ?_) #[true, true, true, true, true, true, true, false, true, true, true, false, false, false, false, false, false, false, false, false, false, false, false, false] rfl rfl (by kernel_rfl) (fun _ _ _ h => h) (Or.inl ⟨by rfl, ?_⟩) ?_ ?_
            rotate_left
            · intro w'
              go_simp
              with_reducible rfl
            rotate_left
            · simp only [Act.put, List.setIfInBounds_toArray, List.set_cons_zero, List.set_cons_succ, i64_w, i32_w]
              rfl
            refine take_ (i := 7) (N := some 100) (v := ?_) (a' := ?_) #[true, true, true, true, true, true, true, true, true, true, true, false, false, false, false, false, false, false, false, false, false, false, false, false] rfl rfl (by kernel_rfl) (fun _ _ _ h => h) (Or.inl ⟨by rfl, ?_⟩) hHeld ?_ ?_
            rotate_left
            · rintro w' ⟨s0, s1⟩
              go_simp
              with_reducible rfl
            rotate_left
            · simp only [Act.put, List.setIfInBounds_toArray, List.set_cons_zero, List.set_cons_succ, i64_w, i32_w]
              rfl
            refine take_ (i := 11) (N := some 104) (v := ?_) (a' := ?_) #[true, true, true, true, true, true, true, true, true, true, true, true, false, false, false, false, false, false, false, false, false, false, false, false] rfl rfl (by kernel_rfl) (fun _ _ _ h => h) (Or.inl ⟨by rfl, ?_⟩) hHeld ?_ ?_
            rotate_left
            · rintro w' ⟨s0, s1⟩
              go_simp
              with_reducible rfl
            rotate_left
            · simp only [Act.put, List.setIfInBounds_toArray, List.set_cons_zero, List.set_cons_succ, i64_w, i32_w]
              rfl
            refine pure_ (i := 12) (N := some 105) (v := ?_) (a' := ?_) #[true, true, true, true, true, true, true, true, true, true, true, true, true, false, false, false, false, false, false, false, false, false, false, false] rfl rfl (by kernel_rfl) (fun _ _ _ h => h) (Or.inl ⟨by rfl, ?_⟩) ?_ ?_
            rotate_left
            · intro w'
              go_simp
              with_reducible rfl
            rotate_left
            · simp only [Act.put, List.setIfInBounds_toArray, List.set_cons_zero, List.set_cons_succ, i64_w, i32_w]
              rfl
            refine pure_ (i := 13) (N := some 106) (v := ?_) (a' := ?_) #[true, true, true, true, true, true, true, true, true, true, true, true, true, true, false, false, false, false, false, false, false, false, false, false] rfl rfl (by kernel_rfl) (fun _ _ _ h => h) (Or.inl ⟨by rfl, ?_⟩) ?_ ?_
            rotate_left
            · intro w'
              go_simp
              with_reducible rfl
            rotate_left
            · simp only [Act.put, List.setIfInBounds_toArray, List.set_cons_zero, List.set_cons_succ, i64_w, i32_w]
              rfl
            refine pure_ (i := 14) (N := some 107) (v := ?_) (a' := ?_) #[true, true, true, true, true, true, true, true, true, true, true, true, true, true, true, false, false, false, false, false, false, false, false, false] rfl rfl (by kernel_rfl) (fun _ _ _ h => h) (Or.inl ⟨by rfl, ?_⟩) ?_ ?_
            rotate_left
            · intro w'
              go_simp
              with_reducible rfl
            rotate_left
            · simp only [Act.put, List.setIfInBounds_toArray, List.set_cons_zero, List.set_cons_succ, i64_w, i32_w]
              rfl
            refine pure_ (i := 15) (N := some 108) (v := ?_) (a' := ?_) #[true, true, true, true, true, true, true, true, true, true, true, true, true, true, true, true, false, false, false, false, false, false, false, false] rfl rfl (by kernel_rfl) (fun _ _ _ h => h) (Or.inl ⟨by rfl, ?_⟩) ?_ ?_
            rotate_left
            · intro w'
              go_simp
              with_reducible rfl
            rotate_left
            · simp only [Act.put, List.setIfInBounds_toArray, List.set_cons_zero, List.set_cons_succ, i64_w, i32_w]
              rfl
            refine pure_ (i := 16) (N := some 109) (v := ?_) (a' := ?_) #[true, true, true, true, true, true, true, true, true, true, true, true, true, true, true, true, true, false, false, false, false, false, false, false] rfl rfl (by kernel_rfl) (fun _ _ _ h => h) (Or.inl ⟨by rfl, ?_⟩) ?_ ?_
            rotate_left
            · intro w'
              go_simp
              with_reducible rfl
            rotate_left
            · simp only [Act.put, List.setIfInBounds_toArray, List.set_cons_zero, List.set_cons_succ, i64_w, i32_w]
              rfl
            refine pure_ (i := 17) (N := some 110) (v := ?_) (a' := ?_) #[true, true, true, true, true, true, true, true, true, true, true, true, true, true, true, true, true, true, false, false, false, false, false, false] rfl rfl (by kernel_rfl) (fun _ _ _ h => h) (Or.inl ⟨by rfl, ?_⟩) ?_ ?_
            rotate_left
            · intro w'
              go_simp
              with_reducible rfl
            rotate_left
            · simp only [Act.put, List.setIfInBounds_toArray, List.set_cons_zero, List.set_cons_succ, i64_w, i32_w]
              rfl
            refine pure_ (i := 18) (N := some 111) (v := ?_) (a' := ?_) #[true, true, true, true, true, true, true, true, true, true, true, true, true, true, true, true, true, true, true, false, false, false, false, false] rfl rfl (by kernel_rfl) (fun _ _ _ h => h) (Or.inl ⟨by rfl, ?_⟩) ?_ ?_
            rotate_left
            · intro w'
              go_simp
              with_reducible rfl
            rotate_left
            · simp only [Act.put, List.setIfInBounds_toArray, List.set_cons_zero, List.set_cons_succ, i64_w, i32_w]
              rfl
            refine pure_ (i := 20) (N := some 113) (v := ?_) (a' := ?_) #[true, true, true, true, true, true, true, true, true, true, true, true, true, true, true, true, true, true, true, false, true, false, false, false] rfl rfl (by kernel_rfl) (fun _ _ _ h => h) (Or.inl ⟨by rfl, ?_⟩) ?_ ?_
            rotate_left
            · intro w'
              go_simp
              with_reducible rfl
            rotate_left
            · simp only [Act.put, List.setIfInBounds_toArray, List.set_cons_zero, List.set_cons_succ, i64_w, i32_w]
              rfl
            refine take_ (i := 19) (N := some 112) (v := ?_) (a' := ?_) #[true, true, true, true, true, true, true, true, true, true, true, true, true, true, true, true, true, true, true, true, true, false, false, false] rfl rfl (by kernel_rfl) (fun _ _ _ h => h) (Or.inl ⟨by rfl, ?_⟩) hHeld ?_ ?_
            rotate_left
            · rintro w' ⟨s0, s1⟩
              go_simp
              with_reducible rfl
            rotate_left
            · simp only [Act.put, List.setIfInBounds_toArray, List.set_cons_zero, List.set_cons_succ, i64_w, i32_w]
              rfl
            refine last_ (i := 21) (N := some 114) #[true, true, true, true, true, true, true, true, true, true, true, true, true, true, true, true, true, true, true, true, true, true, false, false] rfl rfl (by kernel_rfl) (by decide) (fun K hK => ?_)
            refine goes_ Try.func34 (by kernel_rfl) rfl #[.pointer (some ⟨bb, 0, none⟩), .string k, .int .i64 b] (by rfl) rfl rfl (by simp only [List.map_toArray, List.map_cons, List.map_nil]; rfl) ?_
            with_reducible refine (HHAS.out).mono ?_
            rintro e w8 ⟨rfl, hb8⟩
            refine ⟨_, rfl, ?_⟩
            have HB8 : Aside0 (Below v3.heap.size v3 w8) := ⟨HBw7.out.trans (hb8.mono HBw7.out.size)⟩
            clear hb8 hHeld
            refine hK.out _ _ ?_
            clear hK K
            refine norm_ (a' := ?_) ?_ ?_
            rotate_left
            · show Act.put _ (some 114) _ = _
              simp only [Act.put, List.setIfInBounds_toArray, List.set_cons_zero, List.set_cons_succ, i64_w, i32_w]
              rfl
            refine pure_ (i := 22) (N := some 115) (v := ?_) (a' := ?_) #[true, true, true, true, true, true, true, true, true, true, true, true, true, true, true, true, true, true, true, true, true, true, true, false] rfl rfl (by kernel_rfl) (fun _ _ _ h => h) (Or.inl ⟨by rfl, ?_⟩) ?_ ?_
            rotate_left
            · intro w'
              go_simp
              with_reducible rfl
            rotate_left
            · simp only [Act.put, List.setIfInBounds_toArray, List.set_cons_zero, List.set_cons_succ, i64_w, i32_w]
              rfl
            refine pure_ (i := 23) (N := some 116) (v := ?_) (a' := ?_) #[true, true, true, true, true, true, true, true, true, true, true, true, true, true, true, true, true, true, true, true, true, true, true, true] rfl rfl (by kernel_rfl) (fun _ _ _ h => h) (Or.inl ⟨by rfl, ?_⟩) ?_ ?_
            rotate_left
            · intro w'
              go_simp
              with_reducible rfl
            rotate_left
            · simp only [Act.put, List.setIfInBounds_toArray, List.set_cons_zero, List.set_cons_succ, i64_w, i32_w]
              rfl
            refine done_ (by kernel_rfl) ?_
            clear mp r3
            clear mk
            go_wp2_with fail
            go_loopg [16, 17] nx (fun kq2 v16 v17 wr2 => ∃ (j2 : Nat), v16 = .bool ((Ka.take j2).any fun u => decide (u = k)) ∧ v17 = .int .i64 j2 ∧ Aside0 (j2 + kq2 = nx) ∧ Aside0 (Below v3.heap.size v3 wr2))
            case atStart => exact ⟨0, rfl, rfl, ⟨by omega⟩, HB8⟩
            case round =>
              obtain ⟨j2, h16, h17, HJ2, HBX⟩ := hrel
              rename World => wx
              subst h16
              subst h17
              cases gk with
              | succ kq2 =>
                have hj2 : j2 < nx := by have := HJ2.out; omega
                have u3 : decide ((j2 : Int) < (nx : Int)) = true := decide_eq_true (by omega)
                have u4 : ((j2 : Int) < (nx : Int)) = True := eq_true (by omega)
                have u5 : decide ((j2 : Int) < 0) = false := decide_eq_false (by omega)
                have u6 : (0 ≤ (j2 : Int)) = True := eq_true (by omega)
                have u7 : (j2 < nx) = True := eq_true (by omega)
                have HWJ : Aside0 (wrap64 ((j2 : Int) + 1) = ((j2 + 1 : Nat) : Int)) := ⟨by have := HL1.out.1; have := HNX.out; unfold wrap64; omega⟩
                obtain ⟨kx, hkx⟩ : ∃ k, Ka[j2]? = some k := ⟨_, List.getElem?_eq_getElem (by rw [HNX.out]; exact hj2)⟩
                have F8 : Below v1.heap.size v1 wx := F1.out.trans (HBX.out.mono F1.out.size)
                have F9 : Below v2.heap.size v2 wx := F2.out.trans (HBX.out.mono F2.out.size)
                obtain ⟨g5, y5, e5, m5⟩ := str_cells (Kd.R_below O1.out F8) hkx
                obtain ⟨g9, y9, e6, m6⟩ := str_cells (Kd.R_below O2.out F9) HKI.out
                injection e5 with e5 e5b e5c
                injection e6 with e6 e6b e6c
                injection e6 with e6
                injection e6 with e6
                subst e5
                subst e6
                subst e5c
                subst e6c
                have HANY : Aside0 ((Ka.take (j2 + 1)).any (fun u => decide (u = k)) = ((Ka.take j2).any (fun u => decide (u = k)) || decide (kx = k))) := ⟨by rw [List.take_add_one, hkx, List.any_append]; simp⟩
                obtain ⟨cur, hcur⟩ : ∃ c, (Ka.take j2).any (fun u => decide (u = k)) = c := ⟨_, rfl⟩
                rw [hcur] at HANY ⊢
                clear e5b e6b F8 F9 hkx hj2 hcur
                cases cur with
                | true =>
                  go_wp2_with fail
                  go_quiet (fail)
                  have HBXq : Aside0 (Below v3.heap.size v3 (wx.drewN nq)) := ⟨pw_below_drewN HBX.out nq⟩
                  clear m5 m6
                  go_wp2_with fail
                  go_roundg kq2
                  case measure => omega
                  case rel => exact ⟨j2 + 1, by rw [HANY.out]; rfl, by rw [HWJ.out], ⟨by have := HJ2.out; omega⟩, HBXq⟩
                | false =>
                  by_cases hkk : kx = k
                  · have k0 : (kx.toList == k.toList) = true := by rw [hkk]; simp
                    have HDE : Aside0 (decide (kx = k) = true) := ⟨decide_eq_true hkk⟩
                    clear hkk
                    go_wp2_with fail
                    go_quiet (fail)
                    have HBXq : Aside0 (Below v3.heap.size v3 (wx.drewN nq)) := ⟨pw_below_drewN HBX.out nq⟩
                    clear m5 m6
                    go_wp2_with fail
                    go_roundg kq2
                    case measure => omega
                    case rel => exact ⟨j2 + 1, by rw [HANY.out, HDE.out]; rfl, by rw [HWJ.out], ⟨by have := HJ2.out; omega⟩, HBXq⟩
                  · have k0 : (kx.toList == k.toList) = false := beq_eq_false_iff_ne.2 (fun e => hkk (ByteArray.ext (Array.toList_inj.1 (by rw [← Lib.toList_data, ← Lib.toList_data, e]))))
                    have HDE : Aside0 (decide (kx = k) = false) := ⟨decide_eq_false hkk⟩
                    clear hkk
                    go_wp2_with fail
                    go_quiet (fail)
                    have HBXq : Aside0 (Below v3.heap.size v3 (wx.drewN nq)) := ⟨pw_below_drewN HBX.out nq⟩
                    clear m5 m6
                    go_wp2_with fail
                    go_roundg kq2
                    case measure => omega
                    case rel => exact ⟨j2 + 1, by rw [HANY.out, HDE.out]; rfl, by rw [HWJ.out], ⟨by have := HJ2.out; omega⟩, HBXq⟩
              | zero =>
                obtain rfl : j2 = nx := by have := HJ2.out; omega
                have u3 : decide ((j2 : Int) < (j2 : Int)) = false := decide_eq_false (by omega)
                have u4 : ((j2 : Int) < (j2 : Int)) = False := eq_false (by omega)
                have hin : (Ka.take j2).any (fun u => decide (u = k)) = hasS s k a := by
                  rw [List.take_of_length_le (by rw [HNX.out]; exact Nat.le_refl _), ← HKA.out, Bool.eq_iff_iff, List.any_eq_true, ← keysOf_mem HI.out a k]
                  constructor
                  · rintro ⟨u, hu, he⟩; rw [← of_decide_eq_true he]; exact hu
                  · intro hu; exact ⟨k, hu, decide_eq_true rfl⟩
                rw [hin]
                clear hin
                go_wp2_with fail
                go_loopg [16, 18] ne (fun kq3 v16 v18 wr3 => ∃ (j3 : Nat) (cur : Bool), v16 = .bool cur ∧ v18 = .int .i64 j3 ∧ Aside0 (j3 + kq3 = ne) ∧ Aside0 (Below v3.heap.size v3 wr3) ∧ Aside0 (run k cur (E.drop j3) = some true))
                case atStart => exact ⟨0, hasS s k a, rfl, rfl, ⟨by omega⟩, HBX, ⟨by rw [List.drop_zero, ← HE.out, run_events HI.out k HA.out.2.1 HA.out.1, HKB.out]⟩⟩
                case round =>
                  obtain ⟨j3, cur, h16, h18, HJ3, HBY, HRUN⟩ := hrel
                  rename World => wy
                  subst h16
                  subst h18
                  cases gk with
                  | succ kq3 =>
                    have hj3 : j3 < ne := by have := HJ3.out; omega
                    have s3 : decide ((j3 : Int) < (ne : Int)) = true := decide_eq_true (by omega)
                    have s4 : ((j3 : Int) < (ne : Int)) = True := eq_true (by omega)
                    have s5 : decide ((j3 : Int) < 0) = false := decide_eq_false (by omega)
                    have s6 : (0 ≤ (j3 : Int)) = True := eq_true (by omega)
                    have s7 : (j3 < ne) = True := eq_true (by omega)
                    have HWE : Aside0 (wrap64 ((j3 : Int) + 1) = ((j3 + 1 : Nat) : Int)) := ⟨by have := HL1.out.2.2; have := HNE.out; unfold wrap64; omega⟩
                    have hj3l : j3 < E.length := by rw [HNE.out]; exact hj3
                    obtain ⟨ev, hev⟩ : ∃ e, E[j3]? = some e := ⟨_, List.getElem?_eq_getElem hj3l⟩
                    have hne0 : E ≠ [] := fun h => by rw [h] at hev; simp at hev
                    have F9 : Below v2.heap.size v2 wy := F2.out.trans (HBY.out.mono F2.out.size)
                    obtain ⟨g7, y7, e7, -, -, -, hc7⟩ := ev_cells (R3.out.below HBY.out) hne0
                    obtain ⟨g9, y9, e6, m6⟩ := str_cells (Kd.R_below O2.out F9) HKI.out
                    injection e7 with e7 e7b e7c
                    injection e6 with e6 e6b e6c
                    injection e6 with e6
                    injection e6 with e6
                    subst e7
                    subst e6
                    subst e7c
                    subst e6c
                    obtain ⟨m0, m1, m2⟩ := hc7 j3 ev hev
                    have hdr : E.drop j3 = ev :: E.drop (j3 + 1) := by rw [List.drop_eq_getElem_cons hj3l]; congr 1; exact Option.some.inj ((List.getElem?_eq_getElem hj3l).symm.trans hev)
                    have hrun := HRUN.out
                    rw [hdr, run] at hrun
                    obtain ⟨er, ek, ea⟩ := ev
                    have HC7 := Aside0.mk (hc7 j3 _ hev)
                    clear e7b e6b F9 hdr hne0 hj3 hj3l hc7
                    dsimp only at *
                    by_cases hkk : ek = k
                    · have k0 : (ek.toList == k.toList) = true := by rw [hkk]; simp
                      rw [if_pos hkk] at hrun
                      by_cases hca : cur = ea
                      · rw [if_pos hca] at hrun
                        exact absurd hrun (by simp)
                      · rw [if_neg hca] at hrun
                        have HR3 := Aside0.mk hrun
                        have d1 : (cur == ea) = false := beq_eq_false_iff_ne.2 hca
                        have d2 : decide (cur = ea) = false := decide_eq_false hca
                        have d3 : (cur = ea) = False := eq_false hca
                        clear hrun hkk hev hca
                        go_wp2_with fail
                        go_quiet (fail)
                        have HBYq : Aside0 (Below v3.heap.size v3 (wy.drewN nq)) := ⟨pw_below_drewN HBY.out nq⟩
                        have hyq : Below wy.heap.size wy (wy.drewN nq) := pw_below_drewN (Below.refl _ _) nq
                        have m8 := HC7.out.2.2
                        have m9 : (wy.drewN nq).cell? ⟨g7, j3 * 3 + 2, none⟩ = some (.bool ea) := m8
                        clear m0 m1 m2 m6 m8 hyq
                        go_wp2_with fail
                        go_roundg kq3
                        case measure => omega
                        case rel => exact ⟨j3 + 1, ea, rfl, by rw [HWE.out], ⟨by have := HJ3.out; omega⟩, HBYq, HR3⟩
                    · have k0 : (ek.toList == k.toList) = false := beq_eq_false_iff_ne.2 (fun e => hkk (ByteArray.ext (Array.toList_inj.1 (by rw [← Lib.toList_data, ← Lib.toList_data, e]))))
                      rw [if_neg hkk] at hrun
                      have HR3 := Aside0.mk hrun
                      clear hrun hkk hev
                      go_wp2_with fail
                      go_quiet (fail)
                      have HBYq : Aside0 (Below v3.heap.size v3 (wy.drewN nq)) := ⟨pw_below_drewN HBY.out nq⟩
                      clear m0 m1 m2 m6
                      go_wp2_with fail
                      go_roundg kq3
                      case measure => omega
                      case rel => exact ⟨j3 + 1, cur, rfl, by rw [HWE.out], ⟨by have := HJ3.out; omega⟩, HBYq, HR3⟩
                  | zero =>
                    obtain rfl : j3 = ne := by have := HJ3.out; omega
                    have s3 : decide ((j3 : Int) < (j3 : Int)) = false := decide_eq_false (by omega)
                    have s4 : ((j3 : Int) < (j3 : Int)) = False := eq_false (by omega)
                    have hc : cur = true := by
                      have := HRUN.out
                      rw [List.drop_eq_nil_of_le (by rw [HNE.out]; exact Nat.le_refl _), run] at this
                      exact Option.some.inj this
                    subst hc
                    go_wp2_with fail
                    go_roundg kq
                    case measure => omega
                    case rel => exact ⟨i + 1, by rw [HWI.out], by rw [HWI.out], ⟨by have := HIq.out; omega⟩, HBY⟩
end Go.Proofs.Ythpcplpannbipaa.Wk
