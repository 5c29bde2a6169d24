/- Spans on the heap: Put walked; no condition. -/
import Derived.Test.YthpcplpannbipaaSf
set_option linter.unusedVariables false
set_option linter.unusedSimpArgs false
set_option linter.unusedSectionVars false
namespace Go.Proofs.Ythpcplpannbipaa.Sa
open Go.RowKit Go.Maps Go.MapKept Go.Proofs.YthpcplpannbipaaW.PrintWords Go.Proofs.YthpcplpannbipaaW.PrintLast Go.Proofs.Ythpcplpannbipaa.X Go.Proofs.Ythpcplpannbipaa.Kx Go.Proofs.Ythpcplpannbipaa.Mp Go.Proofs.Ythpcplpannbipaa.Mq Go.Proofs.Ythpcplpannbipaa.Sq Go.Proofs.Ythpcplpannbipaa.Mb Go.Proofs.Ythpcplpannbipaa.Maps Go.Proofs.Ythpcplpannbipaa.Jn_
section
variable {w : World} {ok : Nat → Prop} {b : Nat} {s : St ByteArray}
def PutP (w : World) (ok : Nat → Prop) (b : Nat) (s : St ByteArray) (key : ByteArray) (rev : Int) (e : Ending) (w' : World) : Prop :=
  e = .returned (.bool (putS blt s key rev).2) ∧ SpAt w' (fun n => ok n ∨ w.heap.size ≤ n) b (putS blt s key rev).1 ∧ FrO ok w w'
theorem SpAt.weak {w : World} {ok ok' : Nat → Prop} {b : Nat} {s : St ByteArray} (h : SpAt w ok b s) (hf : ∀ n, ok n → ok' n) : SpAt w ok' b s := by
  obtain ⟨m, ks, L, h1, h2⟩ := h
  exact ⟨m, ks, L, h1.weak hf, h2⟩
set_option maxHeartbeats 8000000 in
set_option maxRecDepth 100000 in
theorem Put_c (h : SpAt w ok b s) (key : ByteArray) (rev : Int) (hbig : (get s.g key).length ≤ 1000000) (hkeys : (keysG s.g).length ≤ 1000000) : Calls Try.prog 26 #[.pointer (some ⟨b, 0, none⟩), .string key, .int .i64 rev] w (PutP w ok b s key rev) := by
  have HS := Aside0.mk h
  obtain ⟨m, ks, L, hA, hI⟩ := h
  have c2 := blk_cell hA.hb 2
  by_cases h0 : rev < 1
  · have d0 : decide (rev < 1) = true := decide_eq_true h0
    have HR : Aside0 (putS blt s key rev = (s, false)) := ⟨by unfold putS; rw [if_pos (.inl h0)]⟩
    clear hA hI h0 c2
    go_enter Try.func26, Try.ntmps26
    go_wp2
    go_ret
    unfold PutP
    rw [HR.out]
    exact ⟨rfl, HS.out.weak (fun n hn => .inl hn), FrO.of_below (Below.refl _ _)⟩
  have d0 : decide (rev < 1) = false := decide_eq_false h0
  by_cases h1 : rev < s.last
  · have d1 : decide (rev < s.last) = true := decide_eq_true h1
    have HR : Aside0 (putS blt s key rev = (s, false)) := ⟨by unfold putS; rw [if_pos (.inr (.inl h1))]⟩
    clear hA hI h1 h0
    go_enter Try.func26, Try.ntmps26
    go_wp2
    go_ret
    unfold PutP
    rw [HR.out]
    exact ⟨rfl, HS.out.weak (fun n hn => .inl hn), FrO.of_below (Below.refl _ _)⟩
  have d1 : decide (rev < s.last) = false := decide_eq_false h1
  have hcall := open_c hA hI key hbig
  have HI := Aside0.mk hI
  have HAA := Aside0.mk hA
  have H1 := Aside0.mk (And.intro h0 h1)
  have HBIG := Aside0.mk hbig
  have HKEYS := Aside0.mk hkeys
  clear hI h1 hbig h0 hkeys
  go_enter Try.func26, Try.ntmps26
  go_wp2_with fail
  refine hcall.mono ?_
  rintro e w2 ⟨ho, rfl⟩
  rcases ho with ⟨h2, rfl⟩ | ⟨a, x, g, c, h3, h4, h5, rfl⟩
  rotate_left
  · have hop : opn (get s.g key) = true := by rw [h3, opn_snoc]; exact decide_eq_true h4
    have HR : Aside0 (putS blt s key rev = (s, false)) := ⟨by unfold putS; rw [if_pos (.inr (.inr hop))]⟩
    clear h3 h4 h5 hop hcall hA
    go_wp2
    go_ret
    unfold PutP
    rw [HR.out]
    exact ⟨rfl, HS.out.weak (fun n hn => .inl hn), FrO.of_below (Below.refl _ _)⟩
  have HR : Aside0 (putS blt s key rev = (⟨upd blt s.g key (get s.g key ++ [(rev, 0)]), rev⟩, true)) := ⟨by
    unfold putS
    rw [if_neg (by rw [h2]; rintro (h | h | h); (have := H1.out; omega); (have := H1.out; omega); exact absurd h (by decide))]⟩
  obtain ⟨A, c, rfl⟩ := Kd.R_slice hA.hk
  have c1 := blk_cell hA.hb 1
  have hC := (Kd.R_reads' hA.hk).2.2
  have hcc := (Kd.R_reads' hA.hk).2.1
  have hsearch := Se.search_c hC hcc HI.out.srt HKEYS.out key
  clear hA hcall h2 hC hcc c2
  go_wp2_with fail
  refine hsearch.mono ?_
  rintro e w3 ⟨rfl, hd⟩
  obtain ⟨nn, rfl⟩ := hd
  clear hsearch
  have HA3 : Aside0 (At (w2.drewN nn) ok b m (.slice A (keysG s.g).length c) L s) := ⟨HAA.out.move (fun n _ _ => rfl)⟩
  have HF3 : Aside0 (FrO (fun n => (Value.slice A (keysG s.g).length c).ownBlock = some n) w2 (w2.drewN nn)) := ⟨FrO.of_below (pw_below_drewN (Below.refl _ _) nn)⟩
  obtain ⟨w3, hw3⟩ : ∃ x, w2.drewN nn = x := ⟨_, rfl⟩
  rw [hw3] at HA3 HF3 ⊢
  have HSZ3 : Aside0 (w3.heap.size = w2.heap.size) := ⟨by rw [← hw3]; rfl⟩
  clear hw3 c1
  by_cases hin : key ∈ keysG s.g
  · have i1 : decide (key ∈ keysG s.g) = true := decide_eq_true hin
    have HIN := Aside0.mk hin
    rw [i1]
    clear i1 hin
    have HB2 := Aside0.mk HA3.out.hb
    have HM := Aside0.mk HA3.out.hm
    have HROW := Aside0.mk (HA3.out.hr key)
    have HF1 := HF3
    have HK1 : Aside0 (Kd.string.R 9 w3 0 (fun k => (Value.slice A (keysG s.g).length c).ownBlock = some k) (.slice A (keysG s.g).length c) (keysG (upd blt s.g key (get s.g key ++ [(rev, 0)])))) := ⟨by rw [keys_upd blt_TO _ _ _ HI.out.srt, if_pos HIN.out]; exact HA3.out.hk⟩
    have HG1 : Aside0 (Grew (Value.slice A (keysG s.g).length c) (.slice A (keysG s.g).length c) w2) := ⟨.inl rfl⟩
    go_upto_region 6 with (fail)
    obtain ⟨v, hv⟩ : ∃ v, lookL L key nil_ = v := ⟨_, rfl⟩
    have HV := Aside0.mk hv
    have hz : ∀ w, (zeroValue 97).run Try.prog w = .ok nil_ w := Try.zeroValue97
    have hlk0 : ∀ W : World, W.heap[m]? = w3.heap[m]? → (Instr.lookup 90 (.map (some m)) (.string key) false).run Try.prog W = .ok v W := fun W hW => by
      have := run_look (P := Try.prog) (HM.out.of_block hW) Try.underlying90 Try.underlying9 key hz
      rwa [hv] at this
    have HLK := Aside0.mk hlk0
    have HBd : Aside0 (w3.drew.heap[b]? = some (.cells #[.map (some m), (.slice A (keysG s.g).length c), .int .i64 s.last] 92 (0, 0))) := ⟨HB2.out⟩
    have HMd : Aside0 (MapSt w3.drew m L) := ⟨HM.out.of_block rfl⟩
    have HRd : Aside0 (k99.R 99 w3.drew 0 (fun _ => True) v ((get s.g key).map mk)) := ⟨Kd.R_drew (by rw [← hv]; exact Kd.R_mono (HROW.out) (fun _ _ => trivial))⟩
    have HML : Aside0 (m < w3.heap.size) := ⟨HM.out.lt⟩
    have HLd : Aside0 (∀ W : World, W.heap[m]? = w3.drew.heap[m]? → (Instr.lookup 90 (.map (some m)) (.string key) false).run Try.prog W = .ok v W) := ⟨hlk0⟩
    have HFd : Aside0 (FrO (fun n => v.ownBlock = some n) w3 w3.drew) := ⟨FrO.of_below (Below.refl _ _).drew⟩
    clear hlk0 hv hz
    refine start_ (n := 16) (S := fun w' => w'.cell? ⟨b, 0, none⟩ = some (.map (some m)) ∧ (Instr.lookup 90 (.map (some m)) (.string key) false).run Try.prog w' = .ok v w') (ds := [15]) #[false, false, false, false, false, false, false, false, false, false, false, false, false, false, false, false] (by kernel_rfl) rfl rfl ⟨blk_cell HBd.out 0, HLd.out _ rfl⟩ (fun hHeld => ?_)
    generalize w3.drew = w7 at HBd HMd HRd HLd HFd hHeld ⊢
    refine pure_ (i := 0) (N := some 51) (v := ?_) (a' := ?_) #[true, false, false, false, false, false, false, false, false, false, false, false, false, false, false, false] rfl rfl (by kernel_rfl) (fun _ _ _ h => h) (Or.inl ⟨by rfl, ?_⟩) ?_ ?_
    rotate_left
    · intro w'
      go_simp
      with_reducible rfl
    rotate_left
    · simp only [Act.put, List.setIfInBounds_toArray, List.set_cons_zero, List.set_cons_succ, i64_w, i32_w]
      rfl
    refine pure_ (i := 1) (N := some 52) (v := ?_) (a' := ?_) #[true, true, false, false, false, false, false, false, false, false, false, false, false, false, false, false] rfl rfl (by kernel_rfl) (fun _ _ _ h => h) (Or.inl ⟨by rfl, ?_⟩) ?_ ?_
    rotate_left
    · intro w'
      go_simp
      with_reducible rfl
    rotate_left
    · simp only [Act.put, List.setIfInBounds_toArray, List.set_cons_zero, List.set_cons_succ, i64_w, i32_w]
      rfl
    refine pure_ (i := 2) (N := some 53) (v := ?_) (a' := ?_) #[true, true, true, false, false, false, false, false, false, false, false, false, false, false, false, false] rfl rfl (by kernel_rfl) (fun _ _ _ h => h) (Or.inl ⟨by rfl, ?_⟩) ?_ ?_
    rotate_left
    · intro w'
      go_simp
      with_reducible rfl
    rotate_left
    · simp only [Act.put, List.setIfInBounds_toArray, List.set_cons_zero, List.set_cons_succ, i64_w, i32_w]
      rfl
    refine pure_ (i := 4) (N := some 55) (v := ?_) (a' := ?_) #[true, true, true, false, true, false, false, false, false, false, false, false, false, false, false, false] rfl rfl (by kernel_rfl) (fun _ _ _ h => h) (Or.inl ⟨by rfl, ?_⟩) ?_ ?_
    rotate_left
    · intro w'
      go_simp
      with_reducible rfl
    rotate_left
    · simp only [Act.put, List.setIfInBounds_toArray, List.set_cons_zero, List.set_cons_succ, i64_w, i32_w]
      rfl
    refine pure_ (i := 5) (N := some 56) (v := ?_) (a' := ?_) #[true, true, true, false, true, true, false, false, false, false, false, false, false, false, false, false] rfl rfl (by kernel_rfl) (fun _ _ _ h => h) (Or.inl ⟨by rfl, ?_⟩) ?_ ?_
    rotate_left
    · intro w'
      go_simp
      with_reducible rfl
    rotate_left
    · simp only [Act.put, List.setIfInBounds_toArray, List.set_cons_zero, List.set_cons_succ, i64_w, i32_w]
      rfl
    refine pure_ (i := 6) (N := some 57) (v := ?_) (a' := ?_) #[true, true, true, false, true, true, true, false, false, false, false, false, false, false, false, false] rfl rfl (by kernel_rfl) (fun _ _ _ h => h) (Or.inl ⟨by rfl, ?_⟩) ?_ ?_
    rotate_left
    · intro w'
      go_simp
      with_reducible rfl
    rotate_left
    · simp only [Act.put, List.setIfInBounds_toArray, List.set_cons_zero, List.set_cons_succ, i64_w, i32_w]
      rfl
    refine pure_ (i := 7) (N := some 58) (v := ?_) (a' := ?_) #[true, true, true, false, true, true, true, true, false, false, false, false, false, false, false, false] rfl rfl (by kernel_rfl) (fun _ _ _ h => h) (Or.inl ⟨by rfl, ?_⟩) ?_ ?_
    rotate_left
    · intro w'
      go_simp
      with_reducible rfl
    rotate_left
    · simp only [Act.put, List.setIfInBounds_toArray, List.set_cons_zero, List.set_cons_succ, i64_w, i32_w]
      rfl
    refine pure_ (i := 9) (N := some 60) (v := ?_) (a' := ?_) #[true, true, true, false, true, true, true, true, false, true, false, false, false, false, false, false] rfl rfl (by kernel_rfl) (fun _ _ _ h => h) (Or.inl ⟨by rfl, ?_⟩) ?_ ?_
    rotate_left
    · intro w'
      go_simp
      with_reducible rfl
    rotate_left
    · simp only [Act.put, List.setIfInBounds_toArray, List.set_cons_zero, List.set_cons_succ, i64_w, i32_w]
      rfl
    refine pure_ (i := 11) (N := some 62) (v := ?_) (a' := ?_) #[true, true, true, false, true, true, true, true, false, true, false, true, false, false, false, false] rfl rfl (by kernel_rfl) (fun _ _ _ h => h) (Or.inl ⟨by rfl, ?_⟩) ?_ ?_
    rotate_left
    · intro w'
      go_simp
      with_reducible rfl
    rotate_left
    · simp only [Act.put, List.setIfInBounds_toArray, List.set_cons_zero, List.set_cons_succ, i64_w, i32_w]
      rfl
    refine pure_ (i := 12) (N := some 63) (v := ?_) (a' := ?_) #[true, true, true, false, true, true, true, true, false, true, false, true, true, false, false, false] rfl rfl (by kernel_rfl) (fun _ _ _ h => h) (Or.inl ⟨by rfl, ?_⟩) ?_ ?_
    rotate_left
    · intro w'
      go_simp
      with_reducible rfl
    rotate_left
    · simp only [Act.put, List.setIfInBounds_toArray, List.set_cons_zero, List.set_cons_succ, i64_w, i32_w]
      rfl
    refine take_ (i := 3) (N := some 54) (v := ?_) (a' := ?_) #[true, true, true, true, true, true, true, true, false, true, false, true, true, false, false, false] rfl rfl (by kernel_rfl) (fun _ _ _ h => h) (Or.inl ⟨by rfl, ?_⟩) hHeld ?_ ?_
    rotate_left
    · rintro w' ⟨s0, s1⟩
      go_simp
      with_reducible rfl
    rotate_left
    · simp only [Act.put, List.setIfInBounds_toArray, List.set_cons_zero, List.set_cons_succ, i64_w, i32_w]
      rfl
    refine take_ (i := 8) (N := some 59) (v := ?_) (a' := ?_) #[true, true, true, true, true, true, true, true, true, true, false, true, true, false, false, false] rfl rfl (by kernel_rfl) (fun _ _ _ h => h) (Or.inl ⟨by rfl, ?_⟩) hHeld ?_ ?_
    rotate_left
    · rintro w' ⟨s0, s1⟩
      go_simp
      with_reducible rfl
    rotate_left
    · simp only [Act.put, List.setIfInBounds_toArray, List.set_cons_zero, List.set_cons_succ, i64_w, i32_w]
      rfl
    refine take_ (i := 10) (N := some 61) (v := ?_) (a' := ?_) #[true, true, true, true, true, true, true, true, true, true, true, true, true, false, false, false] rfl rfl (by kernel_rfl) (fun _ _ _ h => h) (Or.inl ⟨by rfl, ?_⟩) hHeld ?_ ?_
    rotate_left
    · rintro w' ⟨s0, s1⟩
      go_simp
      with_reducible rfl
    rotate_left
    · simp only [Act.put, List.setIfInBounds_toArray, List.set_cons_zero, List.set_cons_succ, i64_w, i32_w]
      rfl
    refine one_ (i := 13) (N := some 64) #[true, true, true, true, true, true, true, true, true, true, true, true, true, true, false, false] rfl rfl (by kernel_rfl) (by decide) (fun K hK => ?_)
    refine value_ (w1 := ?_) (v := ?_) (by rfl) rfl ?_ ?_
    rotate_left 2
    · go_simp
      constructor
      · rfl
      · rfl
    refine hK.out _ _ ⟨(World.cell?_alloc_lt _ _ _ (World.block_lt_of_cell? _ _ (hHeld.1))).trans (hHeld.1), HLd.out _ ((Go.MapKept.heap_alloc w7 _).2 m HMd.out.lt)⟩ (fun hHeld => ?_)
    clear hK K
    refine norm_ (a' := ?_) ?_ ?_
    rotate_left
    · show Act.put _ (some 64) _ = _
      simp only [Act.put, List.setIfInBounds_toArray, List.set_cons_zero, List.set_cons_succ, i64_w, i32_w]
      rfl
    refine one_ (i := 14) (N := some 65) #[true, true, true, true, true, true, true, true, true, true, true, true, true, true, true, false] rfl rfl (by kernel_rfl) (by decide) (fun K hK => ?_)
    refine Kd.R_append_step k99 (W := w7) (w0 := w7) 0 (by rfl) (.tmp 61) (.tmp 64) 97 99 (.agg #[.int .i64 0, .int .i64 0]) 16 (by rfl) Try.underlying97 info99 rfl (by decide) (by omega) v ((get s.g key).map mk) (mk (rev, 0)) [.int .i64 rev, .int .i64 0] (fun _ => True) (fun _ => False) (by rfl) (by rfl) (k99_mkM _ _ _ (mk (rev, 0))) (fun _ h => h.elim) (fun _ _ => trivial) HRd.out (Below.refl _ _) (Nat.zero_le _) (by have := HBIG.out; rw [List.length_map]; omega) ?_
    intro v8 w8 ho8 hb8 hg8 hat8
    have HO8 := Aside0.mk ho8
    have HG8 := Aside0.mk hat8
    have HF8 : Aside0 (FrO (fun n => v.ownBlock = some n) w7 w8) := ⟨⟨hg8.os, hg8.tape, hg8.output, hg8.size, fun n hn ho => hg8.block n hn (fun e => ho e.symm)⟩⟩
    have q8 := HF8.out.block m HMd.out.lt (by rw [← HV.out]; exact fun e => (HA3.out.ne_row key e).2.1 rfl)
    have hm8 : MapSt w8 m L := HMd.out.of_block q8
    have hl8 := HLd.out w8 q8
    have hb8' := (HF8.out.block b (blk_lt HBd.out) (by rw [← HV.out]; exact fun e => (HA3.out.ne_row key e).1 rfl)).trans HBd.out
    have HB8 := Aside0.mk hb8'
    obtain ⟨w9, e9, M9, B9⟩ := run_set (P := Try.prog) hm8 Try.underlying90 Try.underlying9 key v8
    have HM9 := Aside0.mk M9
    have HB9 := Aside0.mk B9
    clear ho8 hb8 hb8' q8 hg8 hat8 hm8 M9 B9 hHeld
    refine hK.out _ _ ⟨blk_cell HB8.out 0, hl8⟩ (fun hHeld => ?_)
    clear hK K
    refine norm_ (a' := ?_) ?_ ?_
    rotate_left
    · show Act.put _ (some 65) _ = _
      simp only [Act.put, List.setIfInBounds_toArray, List.set_cons_zero, List.set_cons_succ, i64_w, i32_w]
      rfl
    refine last_ (i := 15) (N := none) #[true, true, true, true, true, true, true, true, true, true, true, true, true, true, true, true] rfl rfl (by kernel_rfl) (by decide) (fun K hK => ?_)
    refine skip_ (w1 := ?_) (by rfl) rfl ?_ ?_
    rotate_left
    · go_simp
      rfl
    refine hK.out _ _ ?_
    clear hK K
    refine done_ (by kernel_rfl) ?_
    have hbm := HA3.out.ne
    have hb9 := (HB9.out.block b hbm).trans HB8.out
    have f2 := blk_frozen hb9 2
    have c2 := blk_cell hb9 2
    have hi := inv_put blt_TO HI.out key rev
    rw [HR.out] at hi
    have HI2 := Aside0.mk hi
    have hrow8 : RowOf w8 v8 (get s.g key ++ [(rev, 0)]) := by
      have := row_only HO8.out
      unfold RowOf
      rw [List.map_append]
      exact this
    have hg8 : Grew (lookL L key nil_) v8 w3 := by
      rw [HV.out]
      rcases HG8.out with h | ⟨n, h, h2⟩
      · exact .inl h
      · exact .inr ⟨n, h, Nat.le_trans HFd.out.size h2⟩
    have hput := At.put (rev := rev) HAA.out HI.out HF1.out HK1.out HG1.out HB2.out (fun _ _ => rfl) rfl ⟨rfl, rfl, rfl⟩ (by rw [HV.out]; exact HFd.out.trans HF8.out) hrow8 hg8 HM9.out HB9.out
    have HN := Aside0.mk hput
    clear hput hg8 hrow8 hi hb9 hbm
    go_wp2
    go_ret
    unfold PutP
    rw [HR.out]
    exact ⟨rfl, ⟨_, _, _, HN.out.1, HI2.out⟩, HN.out.2⟩
  · have i1 : decide (key ∈ keysG s.g) = false := decide_eq_false hin
    have HIN := Aside0.mk hin
    rw [i1]
    clear i1 hin
    have c1 := blk_cell HA3.out.hb 1
    have hins := insert_calls w3 0 _ (keysG s.g) key (pos blt (keysG s.g) key) (pos_le _ _) HKEYS.out (Kd.R_mono HA3.out.hk (fun _ _ => trivial)) (Nat.zero_le _)
    go_wp2_with fail
    refine hins.mono ?_
    rintro e w4 ⟨ks', rfl, hr4, hf4, hg4⟩
    obtain ⟨A4, c4, rfl⟩ := Kd.R_slice hr4
    obtain ⟨n4, hn4⟩ : ∃ n, ((keysG s.g).take (pos blt (keysG s.g) key) ++ key :: (keysG s.g).drop (pos blt (keysG s.g) key)).length = n := ⟨_, rfl⟩
    rw [hn4] at hr4 hg4 ⊢
    have hkb : (Value.slice A (keysG s.g).length c).ownBlock ≠ some b := fun e => (HA3.out.ne_key e).1 rfl
    have hkm : (Value.slice A (keysG s.g).length c).ownBlock ≠ some m := fun e => (HA3.out.ne_key e).2 rfl
    have hb4 := (hf4.block b (blk_lt HA3.out.hb) hkb).trans HA3.out.hb
    have fz := blk_frozen hb4 1
    have ce := blk_cell hb4 1
    have HF1 : Aside0 (FrO (fun n => (Value.slice A (keysG s.g).length c).ownBlock = some n) w2 w4) := ⟨HF3.out.trans hf4⟩
    have HK1 : Aside0 (Kd.string.R 9 w4 0 (fun k => (Value.slice A4 n4 c4).ownBlock = some k) (.slice A4 n4 c4) (keysG (upd blt s.g key (get s.g key ++ [(rev, 0)])))) := ⟨by rw [keys_upd blt_TO _ _ _ HI.out.srt, if_neg HIN.out]; exact key_only hr4⟩
    have HG1 : Aside0 (Grew (Value.slice A (keysG s.g).length c) (.slice A4 n4 c4) w2) := ⟨by
      rcases hg4 with h | ⟨n, h, h2⟩
      · exact .inl h
      · exact .inr ⟨n, h, by rw [← HSZ3.out]; exact h2⟩⟩
    have HB2 : Aside0 ((w4.setCell ⟨b, 1, none⟩ (.slice A4 n4 c4)).heap[b]? = some (.cells #[.map (some m), .slice A4 n4 c4, .int .i64 s.last] 92 (0, 0))) := ⟨by simpa using blk_set hb4 1 (.slice A4 n4 c4)⟩
    have H12 : Aside0 (∀ n, n ≠ b → (w4.setCell ⟨b, 1, none⟩ (.slice A4 n4 c4)).heap[n]? = w4.heap[n]?) := ⟨fun n hn => Below.heap_setCell w4 ⟨b, 1, none⟩ _ n hn⟩
    have HS2 : Aside0 ((w4.setCell ⟨b, 1, none⟩ (.slice A4 n4 c4)).heap.size = w4.heap.size) := ⟨by simp⟩
    have HO2 : Aside0 ((w4.setCell ⟨b, 1, none⟩ (.slice A4 n4 c4)).os = w4.os ∧ (w4.setCell ⟨b, 1, none⟩ (.slice A4 n4 c4)).tape = w4.tape ∧ (w4.setCell ⟨b, 1, none⟩ (.slice A4 n4 c4)).output = w4.output) := ⟨rfl, rfl, rfl⟩
    have HM : Aside0 (MapSt (w4.setCell ⟨b, 1, none⟩ (.slice A4 n4 c4)) m L) := ⟨HA3.out.hm.of_block ((Below.heap_setCell w4 ⟨b, 1, none⟩ _ m (Ne.symm HA3.out.ne)).trans (hf4.block m HA3.out.hm.lt hkm))⟩
    have HROW : Aside0 (RowOf (w4.setCell ⟨b, 1, none⟩ (.slice A4 n4 c4)) (lookL L key nil_) (get s.g key)) := ⟨Kd.R_step (HA3.out.hr key) (fun n hn hlt => (Below.heap_setCell w4 ⟨b, 1, none⟩ _ n (HA3.out.ne_row key hn).1).trans (hf4.block n hlt (HA3.out.ne_row key hn).2.2))⟩
    clear hr4 hf4 hg4 hn4 hkb hkm hb4 hins
    go_upto_region 6 with (fail)
    obtain ⟨w5, hw5⟩ : ∃ x, w4.setCell ⟨b, 1, none⟩ (.slice A4 n4 c4) = x := ⟨_, rfl⟩
    rw [hw5] at HB2 H12 HS2 HO2 HM HROW ⊢
    clear hw5 fz ce c1
    obtain ⟨v, hv⟩ : ∃ v, lookL L key nil_ = v := ⟨_, rfl⟩
    have HV := Aside0.mk hv
    have hz : ∀ w, (zeroValue 97).run Try.prog w = .ok nil_ w := Try.zeroValue97
    have hlk0 : ∀ W : World, W.heap[m]? = w5.heap[m]? → (Instr.lookup 90 (.map (some m)) (.string key) false).run Try.prog W = .ok v W := fun W hW => by
      have := run_look (P := Try.prog) (HM.out.of_block hW) Try.underlying90 Try.underlying9 key hz
      rwa [hv] at this
    have HLK := Aside0.mk hlk0
    have HBd : Aside0 (w5.drew.heap[b]? = some (.cells #[.map (some m), (.slice A4 n4 c4), .int .i64 s.last] 92 (0, 0))) := ⟨HB2.out⟩
    have HMd : Aside0 (MapSt w5.drew m L) := ⟨HM.out.of_block rfl⟩
    have HRd : Aside0 (k99.R 99 w5.drew 0 (fun _ => True) v ((get s.g key).map mk)) := ⟨Kd.R_drew (by rw [← hv]; exact Kd.R_mono (HROW.out) (fun _ _ => trivial))⟩
    have HML : Aside0 (m < w5.heap.size) := ⟨HM.out.lt⟩
    have HLd : Aside0 (∀ W : World, W.heap[m]? = w5.drew.heap[m]? → (Instr.lookup 90 (.map (some m)) (.string key) false).run Try.prog W = .ok v W) := ⟨hlk0⟩
    have HFd : Aside0 (FrO (fun n => v.ownBlock = some n) w5 w5.drew) := ⟨FrO.of_below (Below.refl _ _).drew⟩
    clear hlk0 hv hz
    refine start_ (n := 16) (S := fun w' => w'.cell? ⟨b, 0, none⟩ = some (.map (some m)) ∧ (Instr.lookup 90 (.map (some m)) (.string key) false).run Try.prog w' = .ok v w') (ds := [15]) #[false, false, false, false, false, false, false, false, false, false, false, false, false, false, false, false] (by kernel_rfl) rfl rfl ⟨blk_cell HBd.out 0, HLd.out _ rfl⟩ (fun hHeld => ?_)
    generalize w5.drew = w7 at HBd HMd HRd HLd HFd hHeld ⊢
    refine pure_ (i := 0) (N := some 51) (v := ?_) (a' := ?_) #[true, false, false, false, false, false, false, false, false, false, false, false, false, false, false, false] rfl rfl (by kernel_rfl) (fun _ _ _ h => h) (Or.inl ⟨by rfl, ?_⟩) ?_ ?_
    rotate_left
    · intro w'
      go_simp
      with_reducible rfl
    rotate_left
    · simp only [Act.put, List.setIfInBounds_toArray, List.set_cons_zero, List.set_cons_succ, i64_w, i32_w]
      rfl
    refine pure_ (i := 1) (N := some 52) (v := ?_) (a' := ?_) #[true, true, false, false, false, false, false, false, false, false, false, false, false, false, false, false] rfl rfl (by kernel_rfl) (fun _ _ _ h => h) (Or.inl ⟨by rfl, ?_⟩) ?_ ?_
    rotate_left
    · intro w'
      go_simp
      with_reducible rfl
    rotate_left
    · simp only [Act.put, List.setIfInBounds_toArray, List.set_cons_zero, List.set_cons_succ, i64_w, i32_w]
      rfl
    refine pure_ (i := 2) (N := some 53) (v := ?_) (a' := ?_) #[true, true, true, false, false, false, false, false, false, false, false, false, false, false, false, false] rfl rfl (by kernel_rfl) (fun _ _ _ h => h) (Or.inl ⟨by rfl, ?_⟩) ?_ ?_
    rotate_left
    · intro w'
      go_simp
      with_reducible rfl
    rotate_left
    · simp only [Act.put, List.setIfInBounds_toArray, List.set_cons_zero, List.set_cons_succ, i64_w, i32_w]
      rfl
    refine pure_ (i := 4) (N := some 55) (v := ?_) (a' := ?_) #[true, true, true, false, true, false, false, false, false, false, false, false, false, false, false, false] rfl rfl (by kernel_rfl) (fun _ _ _ h => h) (Or.inl ⟨by rfl, ?_⟩) ?_ ?_
    rotate_left
    · intro w'
      go_simp
      with_reducible rfl
    rotate_left
    · simp only [Act.put, List.setIfInBounds_toArray, List.set_cons_zero, List.set_cons_succ, i64_w, i32_w]
      rfl
    refine pure_ (i := 5) (N := some 56) (v := ?_) (a' := ?_) #[true, true, true, false, true, true, false, false, false, false, false, false, false, false, false, false] rfl rfl (by kernel_rfl) (fun _ _ _ h => h) (Or.inl ⟨by rfl, ?_⟩) ?_ ?_
    rotate_left
    · intro w'
      go_simp
      with_reducible rfl
    rotate_left
    · simp only [Act.put, List.setIfInBounds_toArray, List.set_cons_zero, List.set_cons_succ, i64_w, i32_w]
      rfl
    refine pure_ (i := 6) (N := some 57) (v := ?_) (a' := ?_) #[true, true, true, false, true, true, true, false, false, false, false, false, false, false, false, false] rfl rfl (by kernel_rfl) (fun _ _ _ h => h) (Or.inl ⟨by rfl, ?_⟩) ?_ ?_
    rotate_left
    · intro w'
      go_simp
      with_reducible rfl
    rotate_left
    · simp only [Act.put, List.setIfInBounds_toArray, List.set_cons_zero, List.set_cons_succ, i64_w, i32_w]
      rfl
    refine pure_ (i := 7) (N := some 58) (v := ?_) (a' := ?_) #[true, true, true, false, true, true, true, true, false, false, false, false, false, false, false, false] rfl rfl (by kernel_rfl) (fun _ _ _ h => h) (Or.inl ⟨by rfl, ?_⟩) ?_ ?_
    rotate_left
    · intro w'
      go_simp
      with_reducible rfl
    rotate_left
    · simp only [Act.put, List.setIfInBounds_toArray, List.set_cons_zero, List.set_cons_succ, i64_w, i32_w]
      rfl
    refine pure_ (i := 9) (N := some 60) (v := ?_) (a' := ?_) #[true, true, true, false, true, true, true, true, false, true, false, false, false, false, false, false] rfl rfl (by kernel_rfl) (fun _ _ _ h => h) (Or.inl ⟨by rfl, ?_⟩) ?_ ?_
    rotate_left
    · intro w'
      go_simp
      with_reducible rfl
    rotate_left
    · simp only [Act.put, List.setIfInBounds_toArray, List.set_cons_zero, List.set_cons_succ, i64_w, i32_w]
      rfl
    refine pure_ (i := 11) (N := some 62) (v := ?_) (a' := ?_) #[true, true, true, false, true, true, true, true, false, true, false, true, false, false, false, false] rfl rfl (by kernel_rfl) (fun _ _ _ h => h) (Or.inl ⟨by rfl, ?_⟩) ?_ ?_
    rotate_left
    · intro w'
      go_simp
      with_reducible rfl
    rotate_left
    · simp only [Act.put, List.setIfInBounds_toArray, List.set_cons_zero, List.set_cons_succ, i64_w, i32_w]
      rfl
    refine pure_ (i := 12) (N := some 63) (v := ?_) (a' := ?_) #[true, true, true, false, true, true, true, true, false, true, false, true, true, false, false, false] rfl rfl (by kernel_rfl) (fun _ _ _ h => h) (Or.inl ⟨by rfl, ?_⟩) ?_ ?_
    rotate_left
    · intro w'
      go_simp
      with_reducible rfl
    rotate_left
    · simp only [Act.put, List.setIfInBounds_toArray, List.set_cons_zero, List.set_cons_succ, i64_w, i32_w]
      rfl
    refine take_ (i := 3) (N := some 54) (v := ?_) (a' := ?_) #[true, true, true, true, true, true, true, true, false, true, false, true, true, false, false, false] rfl rfl (by kernel_rfl) (fun _ _ _ h => h) (Or.inl ⟨by rfl, ?_⟩) hHeld ?_ ?_
    rotate_left
    · rintro w' ⟨s0, s1⟩
      go_simp
      with_reducible rfl
    rotate_left
    · simp only [Act.put, List.setIfInBounds_toArray, List.set_cons_zero, List.set_cons_succ, i64_w, i32_w]
      rfl
    refine take_ (i := 8) (N := some 59) (v := ?_) (a' := ?_) #[true, true, true, true, true, true, true, true, true, true, false, true, true, false, false, false] rfl rfl (by kernel_rfl) (fun _ _ _ h => h) (Or.inl ⟨by rfl, ?_⟩) hHeld ?_ ?_
    rotate_left
    · rintro w' ⟨s0, s1⟩
      go_simp
      with_reducible rfl
    rotate_left
    · simp only [Act.put, List.setIfInBounds_toArray, List.set_cons_zero, List.set_cons_succ, i64_w, i32_w]
      rfl
    refine take_ (i := 10) (N := some 61) (v := ?_) (a' := ?_) #[true, true, true, true, true, true, true, true, true, true, true, true, true, false, false, false] rfl rfl (by kernel_rfl) (fun _ _ _ h => h) (Or.inl ⟨by rfl, ?_⟩) hHeld ?_ ?_
    rotate_left
    · rintro w' ⟨s0, s1⟩
      go_simp
      with_reducible rfl
    rotate_left
    · simp only [Act.put, List.setIfInBounds_toArray, List.set_cons_zero, List.set_cons_succ, i64_w, i32_w]
      rfl
    refine one_ (i := 13) (N := some 64) #[true, true, true, true, true, true, true, true, true, true, true, true, true, true, false, false] rfl rfl (by kernel_rfl) (by decide) (fun K hK => ?_)
    refine value_ (w1 := ?_) (v := ?_) (by rfl) rfl ?_ ?_
    rotate_left 2
    · go_simp
      constructor
      · rfl
      · rfl
    refine hK.out _ _ ⟨(World.cell?_alloc_lt _ _ _ (World.block_lt_of_cell? _ _ (hHeld.1))).trans (hHeld.1), HLd.out _ ((Go.MapKept.heap_alloc w7 _).2 m HMd.out.lt)⟩ (fun hHeld => ?_)
    clear hK K
    refine norm_ (a' := ?_) ?_ ?_
    rotate_left
    · show Act.put _ (some 64) _ = _
      simp only [Act.put, List.setIfInBounds_toArray, List.set_cons_zero, List.set_cons_succ, i64_w, i32_w]
      rfl
    refine one_ (i := 14) (N := some 65) #[true, true, true, true, true, true, true, true, true, true, true, true, true, true, true, false] rfl rfl (by kernel_rfl) (by decide) (fun K hK => ?_)
    refine Kd.R_append_step k99 (W := w7) (w0 := w7) 0 (by rfl) (.tmp 61) (.tmp 64) 97 99 (.agg #[.int .i64 0, .int .i64 0]) 16 (by rfl) Try.underlying97 info99 rfl (by decide) (by omega) v ((get s.g key).map mk) (mk (rev, 0)) [.int .i64 rev, .int .i64 0] (fun _ => True) (fun _ => False) (by rfl) (by rfl) (k99_mkM _ _ _ (mk (rev, 0))) (fun _ h => h.elim) (fun _ _ => trivial) HRd.out (Below.refl _ _) (Nat.zero_le _) (by have := HBIG.out; rw [List.length_map]; omega) ?_
    intro v8 w8 ho8 hb8 hg8 hat8
    have HO8 := Aside0.mk ho8
    have HG8 := Aside0.mk hat8
    have HF8 : Aside0 (FrO (fun n => v.ownBlock = some n) w7 w8) := ⟨⟨hg8.os, hg8.tape, hg8.output, hg8.size, fun n hn ho => hg8.block n hn (fun e => ho e.symm)⟩⟩
    have q8 := HF8.out.block m HMd.out.lt (by rw [← HV.out]; exact fun e => (HA3.out.ne_row key e).2.1 rfl)
    have hm8 : MapSt w8 m L := HMd.out.of_block q8
    have hl8 := HLd.out w8 q8
    have hb8' := (HF8.out.block b (blk_lt HBd.out) (by rw [← HV.out]; exact fun e => (HA3.out.ne_row key e).1 rfl)).trans HBd.out
    have HB8 := Aside0.mk hb8'
    obtain ⟨w9, e9, M9, B9⟩ := run_set (P := Try.prog) hm8 Try.underlying90 Try.underlying9 key v8
    have HM9 := Aside0.mk M9
    have HB9 := Aside0.mk B9
    clear ho8 hb8 hb8' q8 hg8 hat8 hm8 M9 B9 hHeld
    refine hK.out _ _ ⟨blk_cell HB8.out 0, hl8⟩ (fun hHeld => ?_)
    clear hK K
    refine norm_ (a' := ?_) ?_ ?_
    rotate_left
    · show Act.put _ (some 65) _ = _
      simp only [Act.put, List.setIfInBounds_toArray, List.set_cons_zero, List.set_cons_succ, i64_w, i32_w]
      rfl
    refine last_ (i := 15) (N := none) #[true, true, true, true, true, true, true, true, true, true, true, true, true, true, true, true] rfl rfl (by kernel_rfl) (by decide) (fun K hK => ?_)
    refine skip_ (w1 := ?_) (by rfl) rfl ?_ ?_
    rotate_left
    · go_simp
      rfl
    refine hK.out _ _ ?_
    clear hK K
    refine done_ (by kernel_rfl) ?_
    have hbm := HA3.out.ne
    have hb9 := (HB9.out.block b hbm).trans HB8.out
    have f2 := blk_frozen hb9 2
    have c2 := blk_cell hb9 2
    have hi := inv_put blt_TO HI.out key rev
    rw [HR.out] at hi
    have HI2 := Aside0.mk hi
    have hrow8 : RowOf w8 v8 (get s.g key ++ [(rev, 0)]) := by
      have := row_only HO8.out
      unfold RowOf
      rw [List.map_append]
      exact this
    have hg8 : Grew (lookL L key nil_) v8 w5 := by
      rw [HV.out]
      rcases HG8.out with h | ⟨n, h, h2⟩
      · exact .inl h
      · exact .inr ⟨n, h, Nat.le_trans HFd.out.size h2⟩
    have hput := At.put (rev := rev) HAA.out HI.out HF1.out HK1.out HG1.out HB2.out H12.out HS2.out HO2.out (by rw [HV.out]; exact HFd.out.trans HF8.out) hrow8 hg8 HM9.out HB9.out
    have HN := Aside0.mk hput
    clear hput hg8 hrow8 hi hb9 hbm
    go_wp2
    go_ret
    unfold PutP
    rw [HR.out]
    exact ⟨rfl, ⟨_, _, _, HN.out.1, HI2.out⟩, HN.out.2⟩
end
end Go.Proofs.Ythpcplpannbipaa.Sa
