/- doormanlaw14.SpansEvents answers true; no condition. -/
import Derived.Test.YthpcplpannbipaaUg
import Derived.WalkMore
import Derived.OwnWalk
import Derived.Deep.DeepMust
set_option linter.unusedVariables false
set_option linter.unusedSimpArgs false
set_option linter.unusedSectionVars false
namespace Go.Proofs.Ythpcplpannbipaa.Wk
open Go.RowKit Go.Maps Go.MapKept Go.Proofs.YthpcplpannbipaaW.PrintWords Go.Proofs.YthpcplpannbipaaW.PrintLast Go.Proofs.Ythpcplpannbipaa.X Go.Proofs.Ythpcplpannbipaa.Kx Go.Proofs.Ythpcplpannbipaa.Mp Go.Proofs.Ythpcplpannbipaa.Mq Go.Proofs.Ythpcplpannbipaa.Sq Go.Proofs.Ythpcplpannbipaa.Mb Go.Proofs.Ythpcplpannbipaa.Maps Go.Proofs.Ythpcplpannbipaa.Sa
set_option maxHeartbeats 16000000 in
set_option maxRecDepth 100000 in
theorem SpansEvents (a0 : Option Addr) (len0 cap0 : Nat) (z0 : List Ac) (a b c : Int) (w : World) (w0 : Ro.Row k56 Ro.ZA w a0 len0 cap0 z0) (w1 : (Lit.int .i64 a).wf = true) (w2 : (Lit.int .i64 b).wf = true) (w3 : (Lit.int .i64 c).wf = true) :
    Calls Try.prog 12 #[.slice a0 len0 cap0, .int .i64 a, .int .i64 b, .int .i64 c] w fun e w' => e = .returned (.bool true) ∧ Below w.heap.size w w' := by
  obtain rfl := w0.hl
  have HC := Aside0.mk w0.hC
  have HCAP := Aside0.mk w0.hc
  go_enter Try.func12, Try.ntmps12
  go_wp2_with fail
  refine (awake_c w).mono ?_
  rintro e wa ⟨rfl, hba⟩
  have HBA := Aside0.mk hba
  have HCA : Aside0 (Acts wa a0 z0) := ⟨Kd.C_below HC.out hba⟩
  clear hba
  go_wp2_with fail
  refine (few_c HCA.out HCAP.out).mono ?_
  rintro e wb ⟨rfl, hbb⟩
  have HBB : Aside0 (Below w.heap.size w wb) := ⟨HBA.out.trans (hbb.mono HBA.out.size)⟩
  clear hbb
  obtain ⟨r0, hr0⟩ : ∃ r, fewP z0 = r := ⟨_, rfl⟩
  obtain ⟨r1, hr1⟩ : ∃ r, decide (b < a) = r := ⟨_, rfl⟩
  obtain ⟨r2, hr2⟩ : ∃ r, decide (c < b) = r := ⟨_, rfl⟩
  rw [hr0]
  cases r0 with
  | false =>
    clear hr0
    go_wp2
    go_ret
    exact ⟨rfl, HBB.out⟩
  | true =>
  cases r1 with
  | true =>
    go_wp2
    go_ret
    exact ⟨rfl, HBB.out⟩
  | false =>
  cases r2 with
  | true =>
    go_wp2
    go_ret
    exact ⟨rfl, HBB.out⟩
  | false =>
  have HFEW := Aside0.mk hr0
  clear hr0
  have HA : Aside0 (a ≤ b ∧ b ≤ c) := ⟨by simp only [decide_eq_false_iff_not] at hr1 hr2; omega⟩
  go_wp2_with fail
  refine (new_h wb).mono ?_
  rintro e wc ⟨bb, ok0, rfl, hs0, hok0, hbc⟩
  have HS0 := Aside0.mk hs0
  have HOK0 : Aside0 (∀ m, ok0 m → w.heap.size ≤ m) := ⟨fun m hm => Nat.le_trans HBB.out.size (hok0 m hm)⟩
  have HB0 : Aside0 (Below w.heap.size w wc) := ⟨HBB.out.trans (hbc.mono HBB.out.size)⟩
  clear hs0 hok0 hbc hr1 hr2 w0 w1 w2 w3
  obtain ⟨nn, hnn⟩ : ∃ n, z0.length = n := ⟨_, rfl⟩
  have HNN := Aside0.mk hnn
  have HN60 : Aside0 (nn ≤ 60) := ⟨by have := few_len HFEW.out; omega⟩
  rw [hnn]
  clear hnn
  go_wp2_with fail
  go_loopg [12] nn (fun kq v12 wr => ∃ (j n : Nat) (ok : Nat → Prop) (s : St ByteArray), v12 = .int .i64 j ∧ Aside0 (j + kq = nn ∧ n ≤ j) ∧ Aside0 (Hs wr ok bb s n) ∧ Aside0 (∀ m, ok m → w.heap.size ≤ m) ∧ Aside0 (Below w.heap.size w wr))
  case atStart => exact ⟨0, 0, ok0, ⟨[], 0⟩, rfl, ⟨by omega⟩, HS0, HOK0, HB0⟩
  case round =>
    obtain ⟨j, n, ok, s, h12, HJ, HS, HOK, HB⟩ := hrel
    rename World => wr
    subst h12
    cases gk with
    | succ kq =>
      have hj : j < nn := by have := HJ.out.1; omega
      have p1 : decide ((j : Int) < (nn : Int)) = true := decide_eq_true (by omega)
      have p2 : ((j : Int) < (nn : Int)) = True := eq_true (by omega)
      have p5 : decide ((j : Int) < 0) = false := decide_eq_false (by omega)
      have p6 : (0 ≤ (j : Int)) = True := eq_true (by omega)
      have p9 : (j < nn) = True := eq_true hj
      have hjx : j < z0.length := by rw [HNN.out]; exact hj
      obtain ⟨ad, rfl, q0, q1, q2⟩ := act_cells (Kd.C_below HC.out HB.out) j hjx
      obtain ⟨x, hx⟩ : ∃ x, z0[j] = x := ⟨_, rfl⟩
      rw [hx] at q0 q1 q2
      have hfx := few_at HFEW.out (x := x) (by rw [← hx]; exact List.getElem_mem _)
      have HFX := Aside0.mk hfx
      have HWR : Aside0 (wrap64 ((j : Int) + 1) = ((j + 1 : Nat) : Int)) := ⟨by have := HN60.out; unfold wrap64; omega⟩
      have HJN := Aside0.mk hj
      have HQ := Aside0.mk (And.intro q1 q2)
      have hxj : z0[j]? = some x := by rw [List.getElem?_eq_getElem hjx, hx]
      have HX := Aside0.mk hxj
      clear hfx hx hxj hjx hj
      obtain ⟨r, hr⟩ : ∃ r, (x.f0.tmod 2 == 0) = r := ⟨_, rfl⟩
      cases r with
      | true =>
        go_upto_region 12 with (fail)
        have HSd : Aside0 (Hs wr.drew ok bb s n) := ⟨HS.out.move (fun _ _ => rfl) (Nat.le_refl _)⟩
        have HBd : Aside0 (Below w.heap.size w wr.drew) := ⟨HB.out.drew⟩
        have HFN : Aside0 (n ≤ 900000 ∧ x.f1.size ≤ 1000) := ⟨by have := HJ.out; have := HN60.out; have := HJN.out; have := HFX.out; omega⟩
        refine start_ (n := 12) (S := fun w' => w'.cell? ⟨(ad.add (j * 3)).block, (ad.add (j * 3)).off + 1, none⟩ = some (.string x.f1) ∧ w'.cell? ⟨(ad.add (j * 3)).block, (ad.add (j * 3)).off + 2, none⟩ = some (.int .i64 x.f2)) (ds := [11]) #[false, false, false, false, false, false, false, false, false, false, false, false] (by kernel_rfl) rfl rfl ⟨HQ.out.1, HQ.out.2⟩ (fun hHeld => ?_)
        generalize wr.drew = w7 at HSd HBd hHeld ⊢
        refine pure_ (i := 0) (N := some 47) (v := ?_) (a' := ?_) #[true, false, false, false, false, false, false, false, false, false, false, false] rfl rfl (by kernel_rfl) (fun _ _ _ h => h) (Or.inl ⟨by rfl, ?_⟩) ?_ ?_
        rotate_left
        · intro w'
          go_simp
          with_reducible rfl
        rotate_left
        · simp only [Act.put, List.setIfInBounds_toArray, List.set_cons_zero, List.set_cons_succ, i64_w, i32_w]
          rfl
        refine pure_ (i := 1) (N := some 48) (v := ?_) (a' := ?_) #[true, true, false, false, false, false, false, false, false, false, false, false] rfl rfl (by kernel_rfl) (fun _ _ _ h => h) (Or.inl ⟨by rfl, ?_⟩) ?_ ?_
        rotate_left
        · intro w'
          go_simp
          with_reducible rfl
        rotate_left
        · simp only [Act.put, List.setIfInBounds_toArray, List.set_cons_zero, List.set_cons_succ, i64_w, i32_w]
          rfl
        refine pure_ (i := 2) (N := some 49) (v := ?_) (a' := ?_) #[true, true, true, false, false, false, false, false, false, false, false, false] rfl rfl (by kernel_rfl) (fun _ _ _ h => h) (Or.inl ⟨by rfl, ?_⟩) ?_ ?_
        rotate_left
        · intro w'
          go_simp
          with_reducible rfl
        rotate_left
        · simp only [Act.put, List.setIfInBounds_toArray, List.set_cons_zero, List.set_cons_succ, i64_w, i32_w]
          rfl
        refine pure_ (i := 3) (N := some 50) (v := ?_) (a' := ?_) #[true, true, true, true, false, false, false, false, false, false, false, false] rfl rfl (by kernel_rfl) (fun _ _ _ h => h) (Or.inl ⟨by rfl, ?_⟩) ?_ ?_
        rotate_left
        · intro w'
          go_simp
          with_reducible rfl
        rotate_left
        · simp only [Act.put, List.setIfInBounds_toArray, List.set_cons_zero, List.set_cons_succ, i64_w, i32_w]
          rfl
        refine pure_ (i := 4) (N := some 51) (v := ?_) (a' := ?_) #[true, true, true, true, true, false, false, false, false, false, false, false] rfl rfl (by kernel_rfl) (fun _ _ _ h => h) (Or.inl ⟨by rfl, ?_⟩) ?_ ?_
        rotate_left
        · intro w'
          go_simp
          with_reducible rfl
        rotate_left
        · simp only [Act.put, List.setIfInBounds_toArray, List.set_cons_zero, List.set_cons_succ, i64_w, i32_w]
          rfl
        refine pure_ (i := 6) (N := some 53) (v := ?_) (a' := ?_) #[true, true, true, true, true, false, true, false, false, false, false, false] rfl rfl (by kernel_rfl) (fun _ _ _ h => h) (Or.inl ⟨by rfl, ?_⟩) ?_ ?_
        rotate_left
        · intro w'
          go_simp
          with_reducible rfl
        rotate_left
        · simp only [Act.put, List.setIfInBounds_toArray, List.set_cons_zero, List.set_cons_succ, i64_w, i32_w]
          rfl
        refine pure_ (i := 7) (N := some 54) (v := ?_) (a' := ?_) #[true, true, true, true, true, false, true, true, false, false, false, false] rfl rfl (by kernel_rfl) (fun _ _ _ h => h) (Or.inl ⟨by rfl, ?_⟩) ?_ ?_
        rotate_left
        · intro w'
          go_simp
          with_reducible rfl
        rotate_left
        · simp only [Act.put, List.setIfInBounds_toArray, List.set_cons_zero, List.set_cons_succ, i64_w, i32_w]
          rfl
        refine pure_ (i := 8) (N := some 55) (v := ?_) (a' := ?_) #[true, true, true, true, true, false, true, true, true, false, false, false] rfl rfl (by kernel_rfl) (fun _ _ _ h => h) (Or.inl ⟨by rfl, ?_⟩) ?_ ?_
        rotate_left
        · intro w'
          go_simp
          with_reducible rfl
        rotate_left
        · simp only [Act.put, List.setIfInBounds_toArray, List.set_cons_zero, List.set_cons_succ, i64_w, i32_w]
          rfl
        refine pure_ (i := 9) (N := some 56) (v := ?_) (a' := ?_) #[true, true, true, true, true, false, true, true, true, true, false, false] rfl rfl (by kernel_rfl) (fun _ _ _ h => h) (Or.inl ⟨by rfl, ?_⟩) ?_ ?_
        rotate_left
        · intro w'
          go_simp
          with_reducible rfl
        rotate_left
        · simp only [Act.put, List.setIfInBounds_toArray, List.set_cons_zero, List.set_cons_succ, i64_w, i32_w]
          rfl
        refine take_ (i := 5) (N := some 52) (v := ?_) (a' := ?_) #[true, true, true, true, true, true, true, true, true, true, false, false] rfl rfl (by kernel_rfl) (fun _ _ _ h => h) (Or.inl ⟨by rfl, ?_⟩) hHeld ?_ ?_
        rotate_left
        · rintro w' ⟨s0, s1⟩
          go_simp
          with_reducible rfl
        rotate_left
        · simp only [Act.put, List.setIfInBounds_toArray, List.set_cons_zero, List.set_cons_succ, i64_w, i32_w]
          rfl
        refine take_ (i := 10) (N := some 57) (v := ?_) (a' := ?_) #[true, true, true, true, true, true, true, true, true, true, true, false] rfl rfl (by kernel_rfl) (fun _ _ _ h => h) (Or.inl ⟨by rfl, ?_⟩) hHeld ?_ ?_
        rotate_left
        · rintro w' ⟨s0, s1⟩
          go_simp
          with_reducible rfl
        rotate_left
        · simp only [Act.put, List.setIfInBounds_toArray, List.set_cons_zero, List.set_cons_succ, i64_w, i32_w]
          rfl
        refine last_ (i := 11) (N := some 58) #[true, true, true, true, true, true, true, true, true, true, true, true] rfl rfl (by kernel_rfl) (by decide) (fun K hK => ?_)
        refine goes_ Try.func26 (by kernel_rfl) rfl #[.pointer (some ⟨bb, 0, none⟩), .string x.f1, .int .i64 x.f2] (by rfl) rfl rfl (by simp only [List.map_toArray, List.map_cons, List.map_nil]; rfl) ?_
        with_reducible refine (put_h HSd.out HFN.out.1 HFN.out.2 x.f2).mono ?_
        rintro e w8 ⟨rfl, ⟨ok8, hs8, hok8⟩, hf8⟩
        refine ⟨_, rfl, ?_⟩
        have HS8 := Aside0.mk hs8
        have HOK8 : Aside0 (∀ m, ok8 m → w.heap.size ≤ m) := ⟨fun m hm => (hok8 m hm).elim (HOK.out m) (fun h => Nat.le_trans HBd.out.size h)⟩
        have HB8 : Aside0 (Below w.heap.size w w8) := ⟨HBd.out.trans (hf8.below_of HBd.out.size HOK.out)⟩
        clear hs8 hok8 hf8
        clear hHeld
        refine hK.out _ _ ?_
        clear hK K
        refine norm_ (a' := ?_) ?_ ?_
        rotate_left
        · show Act.put _ (some 58) _ = _
          simp only [Act.put, List.setIfInBounds_toArray, List.set_cons_zero, List.set_cons_succ, i64_w, i32_w]
          rfl
        refine done_ (by kernel_rfl) ?_
        go_wp2_with fail
        go_roundg kq
        case measure => omega
        case rel => exact ⟨j + 1, n + 1, ok8, _, by rw [HWR.out], ⟨by have := HJ.out; omega⟩, HS8, HOK8, HB8⟩
      | false =>
        go_upto_region 13 with (fail)
        have HSd : Aside0 (Hs wr.drew ok bb s n) := ⟨HS.out.move (fun _ _ => rfl) (Nat.le_refl _)⟩
        have HBd : Aside0 (Below w.heap.size w wr.drew) := ⟨HB.out.drew⟩
        have HFN : Aside0 (n ≤ 900000 ∧ x.f1.size ≤ 1000) := ⟨by have := HJ.out; have := HN60.out; have := HJN.out; have := HFX.out; omega⟩
        refine start_ (n := 12) (S := fun w' => w'.cell? ⟨(ad.add (j * 3)).block, (ad.add (j * 3)).off + 1, none⟩ = some (.string x.f1) ∧ w'.cell? ⟨(ad.add (j * 3)).block, (ad.add (j * 3)).off + 2, none⟩ = some (.int .i64 x.f2)) (ds := [11]) #[false, false, false, false, false, false, false, false, false, false, false, false] (by kernel_rfl) rfl rfl ⟨HQ.out.1, HQ.out.2⟩ (fun hHeld => ?_)
        generalize wr.drew = w7 at HSd HBd hHeld ⊢
        refine pure_ (i := 0) (N := some 59) (v := ?_) (a' := ?_) #[true, false, false, false, false, false, false, false, false, false, false, false] rfl rfl (by kernel_rfl) (fun _ _ _ h => h) (Or.inl ⟨by rfl, ?_⟩) ?_ ?_
        rotate_left
        · intro w'
          go_simp
          with_reducible rfl
        rotate_left
        · simp only [Act.put, List.setIfInBounds_toArray, List.set_cons_zero, List.set_cons_succ, i64_w, i32_w]
          rfl
        refine pure_ (i := 1) (N := some 60) (v := ?_) (a' := ?_) #[true, true, false, false, false, false, false, false, false, false, false, false] rfl rfl (by kernel_rfl) (fun _ _ _ h => h) (Or.inl ⟨by rfl, ?_⟩) ?_ ?_
        rotate_left
        · intro w'
          go_simp
          with_reducible rfl
        rotate_left
        · simp only [Act.put, List.setIfInBounds_toArray, List.set_cons_zero, List.set_cons_succ, i64_w, i32_w]
          rfl
        refine pure_ (i := 2) (N := some 61) (v := ?_) (a' := ?_) #[true, true, true, false, false, false, false, false, false, false, false, false] rfl rfl (by kernel_rfl) (fun _ _ _ h => h) (Or.inl ⟨by rfl, ?_⟩) ?_ ?_
        rotate_left
        · intro w'
          go_simp
          with_reducible rfl
        rotate_left
        · simp only [Act.put, List.setIfInBounds_toArray, List.set_cons_zero, List.set_cons_succ, i64_w, i32_w]
          rfl
        refine pure_ (i := 3) (N := some 62) (v := ?_) (a' := ?_) #[true, true, true, true, false, false, false, false, false, false, false, false] rfl rfl (by kernel_rfl) (fun _ _ _ h => h) (Or.inl ⟨by rfl, ?_⟩) ?_ ?_
        rotate_left
        · intro w'
          go_simp
          with_reducible rfl
        rotate_left
        · simp only [Act.put, List.setIfInBounds_toArray, List.set_cons_zero, List.set_cons_succ, i64_w, i32_w]
          rfl
        refine pure_ (i := 4) (N := some 63) (v := ?_) (a' := ?_) #[true, true, true, true, true, false, false, false, false, false, false, false] rfl rfl (by kernel_rfl) (fun _ _ _ h => h) (Or.inl ⟨by rfl, ?_⟩) ?_ ?_
        rotate_left
        · intro w'
          go_simp
          with_reducible rfl
        rotate_left
        · simp only [Act.put, List.setIfInBounds_toArray, List.set_cons_zero, List.set_cons_succ, i64_w, i32_w]
          rfl
        refine pure_ (i := 6) (N := some 65) (v := ?_) (a' := ?_) #[true, true, true, true, true, false, true, false, false, false, false, false] rfl rfl (by kernel_rfl) (fun _ _ _ h => h) (Or.inl ⟨by rfl, ?_⟩) ?_ ?_
        rotate_left
        · intro w'
          go_simp
          with_reducible rfl
        rotate_left
        · simp only [Act.put, List.setIfInBounds_toArray, List.set_cons_zero, List.set_cons_succ, i64_w, i32_w]
          rfl
        refine pure_ (i := 7) (N := some 66) (v := ?_) (a' := ?_) #[true, true, true, true, true, false, true, true, false, false, false, false] rfl rfl (by kernel_rfl) (fun _ _ _ h => h) (Or.inl ⟨by rfl, ?_⟩) ?_ ?_
        rotate_left
        · intro w'
          go_simp
          with_reducible rfl
        rotate_left
        · simp only [Act.put, List.setIfInBounds_toArray, List.set_cons_zero, List.set_cons_succ, i64_w, i32_w]
          rfl
        refine pure_ (i := 8) (N := some 67) (v := ?_) (a' := ?_) #[true, true, true, true, true, false, true, true, true, false, false, false] rfl rfl (by kernel_rfl) (fun _ _ _ h => h) (Or.inl ⟨by rfl, ?_⟩) ?_ ?_
        rotate_left
        · intro w'
          go_simp
          with_reducible rfl
        rotate_left
        · simp only [Act.put, List.setIfInBounds_toArray, List.set_cons_zero, List.set_cons_succ, i64_w, i32_w]
          rfl
        refine pure_ (i := 9) (N := some 68) (v := ?_) (a' := ?_) #[true, true, true, true, true, false, true, true, true, true, false, false] rfl rfl (by kernel_rfl) (fun _ _ _ h => h) (Or.inl ⟨by rfl, ?_⟩) ?_ ?_
        rotate_left
        · intro w'
          go_simp
          with_reducible rfl
        rotate_left
        · simp only [Act.put, List.setIfInBounds_toArray, List.set_cons_zero, List.set_cons_succ, i64_w, i32_w]
          rfl
        refine take_ (i := 5) (N := some 64) (v := ?_) (a' := ?_) #[true, true, true, true, true, true, true, true, true, true, false, false] rfl rfl (by kernel_rfl) (fun _ _ _ h => h) (Or.inl ⟨by rfl, ?_⟩) hHeld ?_ ?_
        rotate_left
        · rintro w' ⟨s0, s1⟩
          go_simp
          with_reducible rfl
        rotate_left
        · simp only [Act.put, List.setIfInBounds_toArray, List.set_cons_zero, List.set_cons_succ, i64_w, i32_w]
          rfl
        refine take_ (i := 10) (N := some 69) (v := ?_) (a' := ?_) #[true, true, true, true, true, true, true, true, true, true, true, false] rfl rfl (by kernel_rfl) (fun _ _ _ h => h) (Or.inl ⟨by rfl, ?_⟩) hHeld ?_ ?_
        rotate_left
        · rintro w' ⟨s0, s1⟩
          go_simp
          with_reducible rfl
        rotate_left
        · simp only [Act.put, List.setIfInBounds_toArray, List.set_cons_zero, List.set_cons_succ, i64_w, i32_w]
          rfl
        refine last_ (i := 11) (N := some 70) #[true, true, true, true, true, true, true, true, true, true, true, true] rfl rfl (by kernel_rfl) (by decide) (fun K hK => ?_)
        refine goes_ Try.func28 (by kernel_rfl) rfl #[.pointer (some ⟨bb, 0, none⟩), .string x.f1, .int .i64 x.f2] (by rfl) rfl rfl (by simp only [List.map_toArray, List.map_cons, List.map_nil]; rfl) ?_
        with_reducible refine (drop_h HSd.out HFN.out.1 HFN.out.2 x.f2).mono ?_
        rintro e w8 ⟨rfl, hs8, hf8⟩
        refine ⟨_, rfl, ?_⟩
        have HS8 := Aside0.mk hs8
        have HB8 : Aside0 (Below w.heap.size w w8) := ⟨HBd.out.trans (hf8.below_of HBd.out.size HOK.out)⟩
        clear hs8 hf8
        clear hHeld
        refine hK.out _ _ ?_
        clear hK K
        refine norm_ (a' := ?_) ?_ ?_
        rotate_left
        · show Act.put _ (some 70) _ = _
          simp only [Act.put, List.setIfInBounds_toArray, List.set_cons_zero, List.set_cons_succ, i64_w, i32_w]
          rfl
        refine done_ (by kernel_rfl) ?_
        go_wp2_with fail
        go_roundg kq
        case measure => omega
        case rel => exact ⟨j + 1, n, ok, _, by rw [HWR.out], ⟨by have := HJ.out; omega⟩, HS8, HOK, HB8⟩
    | zero =>
      obtain rfl : j = nn := by have := HJ.out.1; omega
      have p1 : decide ((j : Int) < (j : Int)) = false := decide_eq_false (by omega)
      have p2 : ((j : Int) < (j : Int)) = False := eq_false (by omega)
      have hn : n ≤ 100 := by have := HJ.out; have := HN60.out; omega
      have HN := Aside0.mk hn
      have e1 := ev_two s HA.out.1 HA.out.2
      have E2 : Aside0 (eventsS blt s b b = []) := ⟨ev_none (Int.le_refl b)⟩
      have E3 : Aside0 (eventsS blt s c a = []) := ⟨ev_none (by have := HA.out; omega)⟩
      have E4 : Aside0 (∀ e ∈ eventsS blt s a c, a < e.1 ∧ e.1 ≤ c) := ⟨fun e he => ev_mem he⟩
      have hl1 := ev_len s (f := a) (t := b) HS.out.few.len
      have hl2 := ev_len s (f := b) (t := c) HS.out.few.len
      have hl3 := ev_len s (f := a) (t := c) HS.out.few.len
      obtain ⟨l1, h1⟩ : ∃ l, eventsS blt s a b = l := ⟨_, rfl⟩
      obtain ⟨l2, h2⟩ : ∃ l, eventsS blt s b c = l := ⟨_, rfl⟩
      obtain ⟨l3, h3⟩ : ∃ l, eventsS blt s a c = l := ⟨_, rfl⟩
      rw [h1] at e1 hl1
      rw [h2] at e1 hl2
      rw [h3] at e1 E4 hl3
      have HH := Aside0.mk (And.intro h1 (And.intro h2 h3))
      have E1 := Aside0.mk e1
      have HLL : Aside0 (l1.length ≤ 1000 ∧ l2.length ≤ 1000 ∧ l3.length ≤ 1000) := ⟨by omega⟩
      clear h1 h2 h3 e1 hl1 hl2 hl3 hn
      go_wp2_with fail
      refine (events_h HS.out (by have := HN.out; omega) a b).mono ?_
      rw [HH.out.1]
      rintro e v1 ⟨x1, rfl, hr1, hb1⟩
      obtain ⟨A1, c1, rfl⟩ := ev_slice hr1
      have R1 := Aside0.mk hr1
      have H1 := Aside0.mk (HS.out.below hb1)
      have D1 : Aside0 (Below w.heap.size w v1) := ⟨HB.out.trans (hb1.mono HB.out.size)⟩
      clear hr1 hb1
      go_wp2_with (first | (at_builtin; go_must (refine Kd.R_append_rows k73 (w0 := v1) v1.heap.size rfl (.tmp 71) (.tmp 75) 68 73 (.agg #[.int .i64 0, .string ⟨#[]⟩, .bool false]) 32 rfl Try.underlying68 Kx.info73 rfl (by decide) (by omega) (.slice none 0 0) (([] : List (Evt ByteArray)).map mkE) (l1.map mkE) A1 l1.length c1 (fun _ => True) (fun _ => False) rfl rfl ?aO ?aR ev_KM (fun _ h => h.elim) (fun _ _ => trivial) (Below.refl v1.heap.size v1) ((Below.refl v1.heap.size v1)).size ?aL ?_); (case aO => exact Kd.R_nil _ _ _ _ _); (case aR => exact ev_C R1.out); (case aL => have := HLL.out; simp; omega); intro x2 v2 ho hb hg hat; have Q2 := Aside0.mk ho; have B2 := Aside0.mk hb; clear ho hb hg hat) | fail)
      have R2 : Aside0 (EvRow v2 v1.heap.size x2 l1) := ⟨R_ev (by simpa using Q2.out)⟩
      obtain ⟨A2, c2, rfl⟩ := ev_slice R2.out
      have H2 := Aside0.mk (H1.out.below B2.out)
      go_wp2_with fail
      refine (events_h H2.out (by have := HN.out; omega) b c).mono ?_
      rw [HH.out.2.1]
      rintro e v3 ⟨x3, rfl, hr3, hb3⟩
      obtain ⟨A3, c3, rfl⟩ := ev_slice hr3
      have R3 := Aside0.mk hr3
      have H3 := Aside0.mk (H2.out.below hb3)
      have B3 : Aside0 (Below v1.heap.size v1 v3) := ⟨B2.out.trans (hb3.mono B2.out.size)⟩
      have R2b : Aside0 (EvRow v3 v1.heap.size (.slice A2 l1.length c2) l1) := ⟨R2.out.below hb3⟩
      clear hr3 hb3
      go_wp2_with (first | (at_builtin; go_must (refine Kd.R_append_rows k73 (w0 := v1) v1.heap.size rfl (.tmp 77) (.tmp 81) 68 73 (.agg #[.int .i64 0, .string ⟨#[]⟩, .bool false]) 32 rfl Try.underlying68 Kx.info73 rfl (by decide) (by omega) (.slice A2 l1.length c2) (l1.map mkE) (l2.map mkE) A3 l2.length c3 (fun _ => True) (fun _ => False) rfl rfl ?aO ?aR ev_KM (fun _ h => h.elim) (fun _ _ => trivial) B3.out (B3.out).size ?aL ?_); (case aO => exact ev_R R2b.out); (case aR => exact ev_C R3.out); (case aL => have := HLL.out; rw [List.length_map]; omega); intro x4 v4 ho hb hg hat; have Q4 := Aside0.mk ho; have B4 := Aside0.mk hb; clear ho hb hg hat) | fail)
      have R4 : Aside0 (EvRow v4 v1.heap.size x4 l3) := ⟨R_ev (by have := Q4.out; rw [← List.map_append, E1.out] at this; exact this)⟩
      obtain ⟨A4, c4, rfl⟩ := ev_slice R4.out
      have H4 := Aside0.mk (H1.out.below B4.out)
      have D4 : Aside0 (Below w.heap.size w v4) := ⟨D1.out.trans (B4.out.mono D1.out.size)⟩
      go_wp2_with fail
      refine (events_h H4.out (by have := HN.out; omega) a c).mono ?_
      rw [HH.out.2.2]
      rintro e v5 ⟨x5, rfl, hr5, hb5⟩
      obtain ⟨A5, c5, rfl⟩ := ev_slice hr5
      have R5 := Aside0.mk hr5
      have R4b : Aside0 (EvRow v5 v1.heap.size (.slice A4 l3.length c4) l3) := ⟨R4.out.below hb5⟩
      have H5 := Aside0.mk (H4.out.below hb5)
      have D5 : Aside0 (Below w.heap.size w v5) := ⟨D4.out.trans (hb5.mono D4.out.size)⟩
      clear hr5 hb5
      go_wp2_with fail
      refine (events_h H5.out (by have := HN.out; omega) b b).mono ?_
      rw [E2.out]
      rintro e v6 ⟨x6, rfl, hr6, hb6⟩
      obtain ⟨A6, c6, rfl⟩ := ev_slice hr6
      rw [List.length_nil]
      have R4c : Aside0 (EvRow v6 v1.heap.size (.slice A4 l3.length c4) l3) := ⟨R4b.out.below hb6⟩
      have R5c := Aside0.mk (R5.out.below hb6)
      have H6 := Aside0.mk (H5.out.below hb6)
      have D6 : Aside0 (Below w.heap.size w v6) := ⟨D5.out.trans (hb6.mono D5.out.size)⟩
      clear hr6 hb6
      go_wp2_with fail
      refine (events_h H6.out (by have := HN.out; omega) c a).mono ?_
      rw [E3.out]
      rintro e v7 ⟨x7, rfl, hr7, hb7⟩
      obtain ⟨A7, c7, rfl⟩ := ev_slice hr7
      rw [List.length_nil]
      have R4d : Aside0 (EvRow v7 v1.heap.size (.slice A4 l3.length c4) l3) := ⟨R4c.out.below hb7⟩
      have R5d := Aside0.mk (R5c.out.below hb7)
      have D7 : Aside0 (Below w.heap.size w v7) := ⟨D6.out.trans (hb7.mono D6.out.size)⟩
      clear hr7 hb7
      obtain ⟨n3, hn3⟩ : ∃ n, l3.length = n := ⟨_, rfl⟩
      have HN3 := Aside0.mk hn3
      rw [hn3]
      clear hn3
      go_wp2_with fail
      go_loopg [15] n3 (fun kq v15 wr => ∃ i : Nat, v15 = .int .i64 i ∧ Aside0 (i + kq = n3) ∧ Aside0 (Below v7.heap.size v7 wr))
      case atStart => exact ⟨0, rfl, ⟨by omega⟩, ⟨Below.refl _ _⟩⟩
      case round =>
        obtain ⟨i, h15, HI, HBW⟩ := hrel
        rename World => wq
        subst h15
        cases gk with
        | zero =>
          obtain rfl : i = n3 := by have := HI.out; omega
          have p3 : decide ((i : Int) < (i : Int)) = false := decide_eq_false (by omega)
          have p4 : ((i : Int) < (i : Int)) = False := eq_false (by omega)
          go_wp2
          go_ret
          exact ⟨rfl, D7.out.trans (HBW.out.mono D7.out.size)⟩
        | succ kq =>
          have hi : i < n3 := by have := HI.out; omega
          have p3 : decide ((i : Int) < (n3 : Int)) = true := decide_eq_true (by omega)
          have p4 : ((i : Int) < (n3 : Int)) = True := eq_true (by omega)
          have p5 : decide ((i : Int) < 0) = false := decide_eq_false (by omega)
          have p6 : (0 ≤ (i : Int)) = True := eq_true (by omega)
          have p7 : (i < n3) = True := eq_true hi
          have hil : i < l3.length := by rw [HN3.out]; exact hi
          obtain ⟨e, he⟩ : ∃ e, l3[i] = e := ⟨_, rfl⟩
          have hel : l3[i]? = some e := by rw [List.getElem?_eq_getElem hil, he]
          have hem : e ∈ l3 := by rw [← he]; exact List.getElem_mem _
          obtain ⟨he1, he2⟩ := E4.out e hem
          obtain ⟨g4, q4, e4, -, -, -, hc4⟩ := ev_cells (R4d.out.below HBW.out) (by intro h; rw [h] at hil; simp at hil)
          obtain ⟨g5, q5, e5, -, -, -, hc5⟩ := ev_cells (R5d.out.below HBW.out) (by intro h; rw [h] at hil; simp at hil)
          injection e4 with e4 e4b e4c
          injection e5 with e5 e5b e5c
          subst e4
          subst e5
          subst e4c
          subst e5c
          clear e4b e5b
          obtain ⟨m0, m1, m2⟩ := hc4 i e hel
          obtain ⟨n0, n1, n2⟩ := hc5 i e hel
          have d1 : decide (e.1 ≤ a) = false := decide_eq_false (by omega)
          have d2 : decide (c < e.1) = false := decide_eq_false (by omega)
          have HWI : Aside0 (wrap64 ((i : Int) + 1) = ((i + 1 : Nat) : Int)) := ⟨by have := HLL.out.2.2; unfold wrap64; omega⟩
          obtain ⟨er, ek, ea⟩ := e
          clear hi hil he hel hem he1 he2 hc4 hc5
          dsimp only at *
          go_wp2_with fail
          go_quiet (fail)
          have HBq : Aside0 (Below v7.heap.size v7 (wq.drewN nq)) := ⟨pw_below_drewN HBW.out nq⟩
          clear m0 m1 m2 n0 n1 n2
          go_wp2_with fail
          go_roundg kq
          case measure => omega
          case rel => exact ⟨i + 1, by rw [HWI.out], ⟨by have := HI.out; omega⟩, HBq⟩
end Go.Proofs.Ythpcplpannbipaa.Wk
