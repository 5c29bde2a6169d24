/- Spans on the heap: Trim walked; no condition. -/
import Derived.Test.YthpcplpannbipaaSu
set_option linter.unusedVariables false
set_option linter.unusedSimpArgs false
set_option linter.unusedSectionVars false
namespace Go.Proofs.Ythpcplpannbipaa.Sa
open Go.RowKit Go.Maps Go.MapKept Go.Proofs.YthpcplpannbipaaW.PrintWords Go.Proofs.YthpcplpannbipaaW.PrintLast Go.Proofs.Ythpcplpannbipaa.X Go.Proofs.Ythpcplpannbipaa.Kx Go.Proofs.Ythpcplpannbipaa.Mp Go.Proofs.Ythpcplpannbipaa.Mq Go.Proofs.Ythpcplpannbipaa.Sq Go.Proofs.Ythpcplpannbipaa.Mb Go.Proofs.Ythpcplpannbipaa.Maps
section
variable {w : World} {ok : Nat → Prop} {b : Nat} {s : St ByteArray}
def TrimP (w : World) (ok : Nat → Prop) (b : Nat) (s : St ByteArray) (rev : Int) (e : Ending) (w' : World) : Prop :=
  e = .returned (.int .i64 (trimS s rev).2) ∧ SpAt w' ok b (trimS s rev).1 ∧ FrO ok w w'
set_option maxHeartbeats 8000000 in
set_option maxRecDepth 100000 in
theorem Trim_c (h : SpAt w ok b s) (rev : Int) (hkeys : (keysG s.g).length ≤ 1000000) (hbig : ∀ k, (get s.g k).length ≤ 1000000) (hsz : ∀ k ∈ keysG s.g, k.size ≤ maxLen) (htot : (flat s.g).length ≤ 1000000) : Calls Try.prog 30 #[.pointer (some ⟨b, 0, none⟩), .int .i64 rev] w (TrimP w ok b s rev) := by
  have HS := Aside0.mk h
  have h := h.tight
  obtain ⟨m, ks, L, hA0, hI⟩ := h
  obtain ⟨wa, ea, hb2, bb, zb, kb⟩ : ∃ w1, w.alloc (.cells #[.pointer (some ⟨b, 0, none⟩)] 50) = w1 ∧ w1.heap[w.heap.size]? = some (.cells #[.pointer (some ⟨b, 0, none⟩)] 50 (0, 0)) ∧ Below w.heap.size w w1 ∧ w1.heap.size = w.heap.size + 1 ∧ ∀ (k : Nat) (o : Obj), w.heap[k]? = some o → w1.heap[k]? = some o :=
    ⟨_, rfl, (Go.MapKept.heap_alloc w _).1, below_alloc (Below.refl _ _) _, by simp, fun k o h => blk_alloc h _⟩
  obtain ⟨wc, ec, hc2, bc, zc, kc⟩ : ∃ w1, wa.alloc (.cells #[.int .i64 rev] 3) = w1 ∧ w1.heap[wa.heap.size]? = some (.cells #[.int .i64 rev] 3 (0, 0)) ∧ Below wa.heap.size wa w1 ∧ w1.heap.size = wa.heap.size + 1 ∧ ∀ (k : Nat) (o : Obj), wa.heap[k]? = some o → w1.heap[k]? = some o :=
    ⟨_, rfl, (Go.MapKept.heap_alloc wa _).1, below_alloc (Below.refl _ _) _, by simp, fun k o h => blk_alloc h _⟩
  obtain ⟨B2, hB2⟩ : ∃ B, w.heap.size = B := ⟨_, rfl⟩
  obtain ⟨B3, hB3⟩ : ∃ B, wa.heap.size = B := ⟨_, rfl⟩
  have hbc : Below w.heap.size w wc := bb.trans (bc.mono bb.size)
  have hbs := kc _ _ hb2
  have hA := hA0.move (w' := wc) (fun n _ hlt => hbc.block n hlt)
  have c0 := blk_cell hA.hb 0
  have k2 := blk_cell hbs 0
  have HEA := Aside0.mk ea
  have HEC := Aside0.mk ec
  have HSZ : Aside0 (B2 = w.heap.size ∧ B3 = B2 + 1 ∧ wc.heap.size = B2 + 2) := ⟨by omega⟩
  have HBC := Aside0.mk hbc
  have HBS := Aside0.mk hbs
  have HC2 := Aside0.mk hc2
  have HA := Aside0.mk hA
  have HI := Aside0.mk hI
  have HKEYS := Aside0.mk hkeys
  have HBIG := Aside0.mk hbig
  have HSK := Aside0.mk hsz
  have HTOT := Aside0.mk htot
  rw [hB2] at HBS k2
  have hB4 : wa.heap.size = B2 + 1 := by omega
  rw [hB4] at HC2
  clear hB4
  clear hA0 hA hI hkeys hbig hsz htot hb2 bb zb kb hc2 bc zc kc hbc hbs ea ec
  go_enter Try.func30, Try.ntmps30
  go_upto_region 1 with (fail)
  rw [HEA.out, HEC.out]
  go_wp2_with fail
  refine (keys_c m wc).mono ?_
  rintro e wd ⟨rfl, rfl⟩
  have hm1 : MapSt (wc.alloc (.cells #[.map (some m)] 90)) m L := HA.out.hm.of_block ((below_alloc (Below.refl _ wc) _).block m HA.out.hm.lt)
  have hmk := (Go.MapKept.heap_alloc wc (.cells #[.map (some m)] 90)).1
  have HL : Aside0 (L.length = (keysG s.g).length) := ⟨by have := (HA.out.keysPerm HI.out).length_eq; rwa [List.length_map] at this⟩
  have hcoll := collect_c hm1 (fun p hp => HSK.out _ (HA.out.mem p hp)) (by rw [HL.out]; exact HKEYS.out) (blk_cell hmk 0) (blk_lt hmk)
  have HBD : Aside0 (Below wc.heap.size wc (wc.alloc (.cells #[.map (some m)] 90))) := ⟨below_alloc (Below.refl _ wc) _⟩
  clear hm1 hmk
  go_wp2_with fail
  refine hcoll.mono ?_
  rintro e wf ⟨rw_, ss, rfl, hperm, hrow, hbf⟩
  have HBF : Aside0 (Below wc.heap.size wc wf) := ⟨HBD.out.trans (hbf.mono HBD.out.size)⟩
  have HAF : Aside0 (At wf (fun n => ok n ∧ n < w.heap.size) b m ks L s) := ⟨HA.out.move (fun n hn _ => HBF.out.block n (by have := HSZ.out; have := hn.2; omega))⟩
  obtain ⟨A, c, rfl⟩ := Kd.R_slice hrow
  have HPERM : Aside0 (ss.Perm (keysG s.g)) := ⟨hperm.trans (HA.out.keysPerm HI.out)⟩
  have HROW := Aside0.mk hrow
  have HBLK : Aside0 (wf.heap[B2]? = some (.cells #[.pointer (some ⟨b, 0, none⟩)] 50 (0, 0)) ∧ wf.heap[B2 + 1]? = some (.cells #[.int .i64 rev] 3 (0, 0))) := ⟨(HBF.out.block B2 (by have := HSZ.out; omega)).trans HBS.out, (HBF.out.block (B2 + 1) (by have := HSZ.out; omega)).trans HC2.out⟩
  obtain ⟨nn, hnn⟩ : ∃ nn, ss.length = nn := ⟨_, rfl⟩
  have HNN := Aside0.mk hnn
  rw [hnn]
  have HNB : Aside0 (nn ≤ 1000000) := ⟨by have := HPERM.out.length_eq; have := HKEYS.out; omega⟩
  clear hcoll hperm hrow hbf hnn c0 k2
  go_wp2_with fail
  go_loopg [5, 20] nn (fun kq v5 v20 wr => ∃ (j : Nat) (Lj : Ent), v5 = .int .i64 (cntG rev s.g (ss.take j)) ∧ v20 = .int .i64 j ∧ Aside0 (j + kq = nn) ∧ Aside0 (At wr (fun n => ok n ∧ n < w.heap.size) b m ks Lj ⟨mid rev (ss.take j) s.g, s.last⟩) ∧ Aside0 (FrO (fun n => ok n ∧ n < w.heap.size) wf wr) ∧ Aside0 (∀ p ∈ Lj, get (mid rev (ss.take j) s.g) p.1 ≠ []))
  case atStart => exact ⟨0, L, rfl, rfl, ⟨by omega⟩, ⟨by rw [List.take_zero, mid_nil]; exact HAF.out⟩, ⟨FrO.of_below (Below.refl _ _)⟩, ⟨fun p hp => by rw [List.take_zero, mid_nil]; exact (full_get blt_TO HI.out.srt HI.out.full p.1).1 (HAF.out.mem p hp)⟩⟩
  case round =>
    obtain ⟨j, Lj, h5, h20, HJ, HAJ, HF, HM⟩ := hrel
    rename World => wr
    subst h5
    subst h20
    have hblk : ∀ n, n < wf.heap.size → w.heap.size ≤ n → wr.heap[n]? = wf.heap[n]? := fun n h1 h2 => HF.out.block n h1 (fun e => by have := e.2; omega)
    have hbr := (hblk B2 (blk_lt HBLK.out.1) (by have := HSZ.out; omega)).trans HBLK.out.1
    have hbr3 := (hblk (B2 + 1) (blk_lt HBLK.out.2) (by have := HSZ.out; omega)).trans HBLK.out.2
    have k2 := blk_cell hbr 0
    have c0 := blk_cell HAJ.out.hb 0
    have HBR := Aside0.mk (And.intro hbr hbr3)
    have hcap := (Kd.R_reads' HROW.out).2.1
    have HBLKS := Aside0.mk hblk
    clear hbr hbr3 hblk hcap
    cases gk with
    | zero =>
      obtain rfl : j = nn := by have := HJ.out; omega
      have p1 : decide ((j : Int) < (j : Int)) = false := decide_eq_false (by omega)
      have p2 : ((j : Int) < (j : Int)) = False := eq_false (by omega)
      have htk : ss.take j = ss := List.take_of_length_le (by rw [HNN.out]; exact Nat.le_refl _)
      have hN : cntG rev s.g (ss.take j) = (trimS s rev).2 := by rw [htk, cnt_perm rev s.g HPERM.out, cnt_keys rev HI.out.srt]; rfl
      have HN := Aside0.mk hN
      have hF : ∀ x, get (mid rev (ss.take j) s.g) x = get (trimG rev s.g) x := fun x => by
        rw [htk, mid_get, get_trim blt_TO HI.out.srt]
        by_cases hx : x ∈ ss
        · rw [if_pos hx]
        · rw [if_neg hx, get_not (fun h => hx (HPERM.out.symm.subset h))]; rfl
      have hks : keysG (trimG rev s.g) = (keysG s.g).filter fun x => !(get (mid rev (ss.take j) s.g) x).isEmpty := by
        rw [keys_trim_eq rev HI.out.srt]
        refine List.filter_congr (fun x hx => ?_)
        rw [hF, get_trim blt_TO HI.out.srt]
      have hk14 := HAJ.out.hk
      rw [show keysG (⟨mid rev (ss.take j) s.g, s.last⟩ : St ByteArray).g = keysG s.g from mid_keys _ _ _] at hk14
      have hdk := delkeys_c (w := wr.drew) (F := fun x => get (mid rev (ss.take j) s.g) x) (Kd.R_drew hk14) (B2 := B2) HBR.out.1 HAJ.out.hb (HAJ.out.hm.of_block rfl) (fun x => by
        obtain ⟨A', c', e⟩ := Kd.R_slice (HAJ.out.hr x)
        exact ⟨A', c', by rw [e, List.length_map]⟩) (fun e => (HAJ.out.ne_key e).1 rfl) (fun e => (HAJ.out.ne_key e).2 rfl) (fun e => by have := (HAJ.out.okk _ e).2; have := HSZ.out; omega) HKEYS.out
      rw [← hks] at hdk
      have HDK := Aside0.mk hdk
      have HGE := Aside0.mk hF
      have hkn : ∀ n, ks.ownBlock = some n → n ≠ B2 ∧ n ≠ b := fun n hn => ⟨by have := (HAJ.out.okk _ hn).2; have := HSZ.out; omega, (HAJ.out.ne_key hn).1⟩
      have HKN := Aside0.mk hkn
      have HBd : Aside0 (wr.drew.heap[b]? = some (.cells #[.map (some m), ks, .int .i64 s.last] 92 (0, 0))) := ⟨HAJ.out.hb⟩
      have HBOX : Aside0 (wr.drew.heap[B2]? = some (.cells #[.pointer (some ⟨b, 0, none⟩)] 50 (0, 0))) := ⟨HBR.out.1⟩
      have HFd : Aside0 (FrO (fun n => ks.ownBlock = some n) wr wr.drew) := ⟨FrO.of_below (Below.refl _ _).drew⟩
      clear htk hN hF hks hk14 hdk hkn c0 k2
      go_upto_region 14 with (fail)
      refine start_ (n := 10) (S := fun w' => w'.cell? ⟨B2, 0, none⟩ = some (.pointer (some ⟨b, 0, none⟩)) ∧ w'.cell? ⟨b, 1, none⟩ = some ks) (ds := [9]) #[false, false, false, false, false, false, false, false, false, false] (by kernel_rfl) rfl rfl ⟨blk_cell HBOX.out 0, blk_cell HBd.out 1⟩ (fun hHeld => ?_)
      generalize wr.drew = w7 at HBd HBOX HFd HDK hHeld ⊢
      refine pure_ (i := 5) (N := some 74) (v := ?_) (a' := ?_) #[false, false, false, false, false, true, false, false, false, false] rfl rfl (by kernel_rfl) (fun _ _ _ h => h) (Or.inl ⟨by rfl, ?_⟩) ?_ ?_
      rotate_left
      · intro w'
        go_simp
        with_reducible rfl
      rotate_left
      · simp only [Act.put, List.setIfInBounds_toArray, List.set_cons_zero, List.set_cons_succ, i64_w, i32_w]
        rfl
      refine take_ (i := 0) (N := some 69) (v := ?_) (a' := ?_) #[true, false, false, false, false, true, false, false, false, false] rfl rfl (by kernel_rfl) (fun _ _ _ h => h) (Or.inl ⟨by rfl, ?_⟩) hHeld ?_ ?_
      rotate_left
      · rintro w' ⟨s0, s1⟩
        go_simp
        with_reducible rfl
      rotate_left
      · simp only [Act.put, List.setIfInBounds_toArray, List.set_cons_zero, List.set_cons_succ, i64_w, i32_w]
        rfl
      refine take_ (i := 1) (N := some 70) (v := ?_) (a' := ?_) #[true, true, false, false, false, true, false, false, false, false] rfl rfl (by kernel_rfl) (fun _ _ _ h => h) (Or.inl ⟨by rfl, ?_⟩) hHeld ?_ ?_
      rotate_left
      · rintro w' ⟨s0, s1⟩
        go_simp
        with_reducible rfl
      rotate_left
      · simp only [Act.put, List.setIfInBounds_toArray, List.set_cons_zero, List.set_cons_succ, i64_w, i32_w]
        rfl
      refine pure_ (i := 2) (N := some 71) (v := ?_) (a' := ?_) #[true, true, true, false, false, true, false, false, false, false] rfl rfl (by kernel_rfl) (fun _ _ _ h => h) (Or.inl ⟨by rfl, ?_⟩) ?_ ?_
      rotate_left
      · intro w'
        go_simp
        with_reducible rfl
      rotate_left
      · simp only [Act.put, List.setIfInBounds_toArray, List.set_cons_zero, List.set_cons_succ, i64_w, i32_w]
        rfl
      refine pure_ (i := 3) (N := some 72) (v := ?_) (a' := ?_) #[true, true, true, true, false, true, false, false, false, false] rfl rfl (by kernel_rfl) (fun _ _ _ h => h) (Or.inl ⟨by rfl, ?_⟩) ?_ ?_
      rotate_left
      · intro w'
        go_simp
        with_reducible rfl
      rotate_left
      · simp only [Act.put, List.setIfInBounds_toArray, List.set_cons_zero, List.set_cons_succ, i64_w, i32_w]
        rfl
      refine take_ (i := 4) (N := some 73) (v := ?_) (a' := ?_) #[true, true, true, true, true, true, false, false, false, false] rfl rfl (by kernel_rfl) (fun _ _ _ h => h) (Or.inl ⟨by rfl, ?_⟩) hHeld ?_ ?_
      rotate_left
      · rintro w' ⟨s0, s1⟩
        go_simp
        with_reducible rfl
      rotate_left
      · simp only [Act.put, List.setIfInBounds_toArray, List.set_cons_zero, List.set_cons_succ, i64_w, i32_w]
        rfl
      refine one_ (i := 6) (N := some 75) #[true, true, true, true, true, true, true, false, false, false] rfl rfl (by kernel_rfl) (by decide) (fun K hK => ?_)
      refine goes_ Try.func58 (by kernel_rfl) rfl #[ks, .func (.func 59) #[] #[.pointer (some ⟨B2, 0, none⟩)]] (by rfl) rfl rfl (by simp only [List.map_toArray, List.map_cons, List.map_nil]; rfl) ?_
      with_reducible refine (HDK.out).mono ?_
      rintro e w8 ⟨v8, rfl, hr8, ho8, hf8⟩
      refine ⟨_, rfl, ?_⟩
      obtain ⟨A8, c8, rfl⟩ := Kd.R_slice hr8
      have HR8 := Aside0.mk hr8
      have HO8 := Aside0.mk ho8
      have HF8 := Aside0.mk hf8
      have hb8 := (hf8.block b (blk_lt HBd.out) (fun e => (HKN.out b e).2 rfl)).trans HBd.out
      have HB8 := Aside0.mk hb8
      have f18 := blk_frozen hb8 1
      have c18 := blk_cell hb8 1
      have hbx8 := (hf8.block B2 (blk_lt HBOX.out) (fun e => (HKN.out B2 e).1 rfl)).trans HBOX.out
      have HBX8 := Aside0.mk hbx8
      clear hr8 ho8 hf8 hb8 hbx8 hHeld
      refine hK.out _ _ ⟨blk_cell HBX8.out 0, blk_cell HB8.out 1⟩ (fun hHeld => ?_)
      clear hK K
      refine norm_ (a' := ?_) ?_ ?_
      rotate_left
      · show Act.put _ (some 75) _ = _
        simp only [Act.put, List.setIfInBounds_toArray, List.set_cons_zero, List.set_cons_succ, i64_w, i32_w]
        rfl
      refine pure_ (i := 7) (N := some 76) (v := ?_) (a' := ?_) #[true, true, true, true, true, true, true, true, false, false] rfl rfl (by kernel_rfl) (fun _ _ _ h => h) (Or.inl ⟨by rfl, ?_⟩) ?_ ?_
      rotate_left
      · intro w'
        go_simp
        with_reducible rfl
      rotate_left
      · simp only [Act.put, List.setIfInBounds_toArray, List.set_cons_zero, List.set_cons_succ, i64_w, i32_w]
        rfl
      refine pure_ (i := 8) (N := some 77) (v := ?_) (a' := ?_) #[true, true, true, true, true, true, true, true, true, false] rfl rfl (by kernel_rfl) (fun _ _ _ h => h) (Or.inl ⟨by rfl, ?_⟩) ?_ ?_
      rotate_left
      · intro w'
        go_simp
        with_reducible rfl
      rotate_left
      · simp only [Act.put, List.setIfInBounds_toArray, List.set_cons_zero, List.set_cons_succ, i64_w, i32_w]
        rfl
      refine last_ (i := 9) (N := none) #[true, true, true, true, true, true, true, true, true, true] rfl rfl (by kernel_rfl) (by decide) (fun K hK => ?_)
      refine skip_ (w1 := ?_) (by rfl) rfl ?_ ?_
      rotate_left
      · go_simp
        rfl
      refine hK.out _ _ ?_
      clear hK K
      refine done_ (by kernel_rfl) ?_
      have hfin := At.setKeys (s' := (trimS s rev).1) HAJ.out (HFd.out.trans HF8.out) HR8.out HO8.out rfl (fun x => (HGE.out x).symm) (fun p hp => by
        have h1 := HM.out p hp
        rw [HGE.out] at h1
        exact (full_get blt_TO (inv_trim HI.out rev).srt (inv_trim HI.out rev).full p.1).2 h1)
      have HFIN := Aside0.mk hfin
      clear hfin
      go_wp2
      go_ret
      refine ⟨by rw [← HN.out]; rfl, ⟨m, _, Lj, HFIN.out.1.weak (fun n h => h.1), inv_trim HI.out rev⟩, ?_⟩
      have hall := HF.out.trans HFIN.out.2
      exact (FrO.of_below (HBC.out.trans (HBF.out.mono HBC.out.size))).trans (hall.mono (fun n _ h => h.1))
    | succ kq =>
      have hjn : j < nn := by have := HJ.out; omega
      have p1 : decide ((j : Int) < (nn : Int)) = true := decide_eq_true (by omega)
      have p2 : ((j : Int) < (nn : Int)) = True := eq_true (by omega)
      have p5 : decide ((j : Int) < 0) = false := decide_eq_false (by omega)
      have p6 : (0 ≤ (j : Int)) = True := eq_true (by omega)
      have p9 : (j < nn) = True := eq_true hjn
      have p10 : decide (j < nn) = true := decide_eq_true hjn
      have hjs : j < ss.length := by rw [HNN.out]; exact hjn
      obtain ⟨k, hk⟩ : ∃ k, ss[j] = k := ⟨_, rfl⟩
      obtain ⟨G, hG⟩ : ∃ g, A = some ⟨g, 0, none⟩ := by
        obtain ⟨inner, hown⟩ := Kd.R_own HROW.out
        rcases hown.2 with ⟨_, h0⟩ | ⟨g, cap, cur, hv, _⟩
        · omega
        · injection hv with h1; exact ⟨g, h1⟩
      subst hG
      have hcellk : wr.cell? ⟨G, j, none⟩ = some (.string k) := by
        have h1 := (Kd.R_cell (⟨#[]⟩ : ByteArray) HROW.out (j : Int) (by omega) (by omega)).1
        unfold rdOf at h1
        rw [Int.toNat_natCast, List.getD_eq_getElem?_getD, List.getElem?_eq_getElem hjs, Option.getD_some, hk] at h1
        have hGb := Kd.R_base HROW.out G rfl
        rw [← h1]
        unfold World.cell?
        rw [HBLKS.out G (Kd.R_lt HROW.out G rfl) (by have := HSZ.out; have := HBD.out.size; omega)]
      have hkm : k ∈ keysG s.g := HPERM.out.subset (by rw [← hk]; exact List.getElem_mem _)
      have hkd : k ∉ ss.take j := fun hin => by
        have hnd := HPERM.out.nodup_iff.2 (srt_nodup HI.out.srt)
        obtain ⟨i, hi, e⟩ := List.mem_iff_getElem.1 hin
        rw [List.length_take] at hi
        rw [List.getElem_take, ← hk] at e
        exact List.pairwise_iff_getElem.1 hnd i j (by omega) hjs (by omega) e
      have hgk : get (mid rev (ss.take j) s.g) k = get s.g k := by rw [mid_get, if_neg hkd]
      have hne : get s.g k ≠ [] := (full_get blt_TO HI.out.srt HI.out.full k).1 hkm
      obtain ⟨l, hl⟩ : ∃ l, get s.g k = l := ⟨_, rfl⟩
      have hrk := HAJ.out.hr k
      rw [hgk, hl] at hrk
      rw [hl] at hne
      obtain ⟨v, hv⟩ : ∃ v, lookL Lj k nil_ = v := ⟨_, rfl⟩
      have hz : ∀ w, (zeroValue 97).run Try.prog w = .ok nil_ w := Try.zeroValue97
      have hlk := run_look (P := Try.prog) HAJ.out.hm Try.underlying90 Try.underlying9 k hz
      rw [hv] at hlk hrk
      obtain ⟨Av, cv, rfl⟩ := Kd.R_slice hrk
      rw [List.length_map] at hlk hrk hv
      have hk' : ss[j]? = some k := by rw [List.getElem?_eq_getElem hjs, hk]
      have HK := Aside0.mk (And.intro hk' (And.intro hkm hkd))
      have HG := Aside0.mk (And.intro hgk hl)
      have HNE := Aside0.mk hne
      have HRK := Aside0.mk hrk
      have HV := Aside0.mk hv
      have HLK := Aside0.mk hlk
      obtain ⟨ln, hln⟩ : ∃ n, l.length = n := ⟨_, rfl⟩
      have HLN := Aside0.mk hln
      rw [hln] at hlk
      clear hk hk' hkm hkd hgk hl hne hrk hv hln hz hjs hjn
      go_upto_region 9 with (fail)
      have hnb : ∀ n, (Value.slice Av l.length cv).ownBlock = some n → n ≠ B2 ∧ n ≠ B2 + 1 ∧ n ≠ b ∧ n ≠ m := fun n hn => by
        rw [← HV.out] at hn
        have h1 := (HAJ.out.okr k n hn).2
        have h2 := HAJ.out.ne_row k hn
        have := HSZ.out
        exact ⟨by omega, by omega, h2.1, h2.2.1⟩
      have HNB2 := Aside0.mk hnb
      have hdel := delspan_c (w := wr.drew) (Kd.R_drew HRK.out) HNE.out (by have := HBIG.out k; rwa [HG.out.2] at this) rev (B2 + 1) (blk_cell (w := wr.drew) HBR.out.2 0) (fun e => (hnb _ e).2.1 rfl)
      rw [HLN.out] at hdel
      have HDEL := Aside0.mk hdel
      have HBd : Aside0 (wr.drew.heap[b]? = some (.cells #[.map (some m), ks, .int .i64 s.last] 92 (0, 0))) := ⟨HAJ.out.hb⟩
      have HBOX : Aside0 (wr.drew.heap[B2]? = some (.cells #[.pointer (some ⟨b, 0, none⟩)] 50 (0, 0))) := ⟨HBR.out.1⟩
      have HMd : Aside0 (MapSt wr.drew m Lj) := ⟨HAJ.out.hm.of_block rfl⟩
      have hz : ∀ w, (zeroValue 97).run Try.prog w = .ok nil_ w := Try.zeroValue97
      have HLd : Aside0 (∀ W : World, W.heap[m]? = wr.drew.heap[m]? → (Instr.lookup 90 (.map (some m)) (.string k) false).run Try.prog W = .ok (.slice Av ln cv) W) := ⟨fun W hW => by
        have := run_look (P := Try.prog) (HMd.out.of_block hW) Try.underlying90 Try.underlying9 k hz
        rwa [HV.out, HLN.out] at this⟩
      have HFd : Aside0 (FrO (fun n => (Value.slice Av l.length cv).ownBlock = some n) wr wr.drew) := ⟨FrO.of_below (Below.refl _ _).drew⟩
      clear hnb hdel hz
      refine start_ (n := 14) (S := fun w' => w'.cell? ⟨B2, 0, none⟩ = some (.pointer (some ⟨b, 0, none⟩)) ∧ w'.cell? ⟨b, 0, none⟩ = some (.map (some m)) ∧ (Instr.lookup 90 (.map (some m)) (.string k) false).run Try.prog w' = .ok (.slice Av ln cv) w') (ds := [13]) #[false, false, false, false, false, false, false, false, false, false, false, false, false, false] (by kernel_rfl) rfl rfl ⟨blk_cell HBOX.out 0, blk_cell HBd.out 0, HLd.out _ rfl⟩ (fun hHeld => ?_)
      generalize wr.drew = w7 at HBd HBOX HMd HLd HFd HDEL hHeld ⊢
      refine pure_ (i := 4) (N := some 35) (v := ?_) (a' := ?_) #[false, false, false, false, true, false, false, false, false, false, false, false, false, false] rfl rfl (by kernel_rfl) (fun _ _ _ h => h) (Or.inl ⟨by rfl, ?_⟩) ?_ ?_
      rotate_left
      · intro w'
        go_simp
        with_reducible rfl
      rotate_left
      · simp only [Act.put, List.setIfInBounds_toArray, List.set_cons_zero, List.set_cons_succ, i64_w, i32_w]
        rfl
      refine pure_ (i := 9) (N := some 40) (v := ?_) (a' := ?_) #[false, false, false, false, true, false, false, false, false, true, false, false, false, false] rfl rfl (by kernel_rfl) (fun _ _ _ h => h) (Or.inl ⟨by rfl, ?_⟩) ?_ ?_
      rotate_left
      · intro w'
        go_simp
        with_reducible rfl
      rotate_left
      · simp only [Act.put, List.setIfInBounds_toArray, List.set_cons_zero, List.set_cons_succ, i64_w, i32_w]
        rfl
      refine pure_ (i := 11) (N := some 42) (v := ?_) (a' := ?_) #[false, false, false, false, true, false, false, false, false, true, false, true, false, false] rfl rfl (by kernel_rfl) (fun _ _ _ h => h) (Or.inl ⟨by rfl, ?_⟩) ?_ ?_
      rotate_left
      · intro w'
        go_simp
        with_reducible rfl
      rotate_left
      · simp only [Act.put, List.setIfInBounds_toArray, List.set_cons_zero, List.set_cons_succ, i64_w, i32_w]
        rfl
      refine take_ (i := 0) (N := some 31) (v := ?_) (a' := ?_) #[true, false, false, false, true, false, false, false, false, true, false, true, false, false] rfl rfl (by kernel_rfl) (fun _ _ _ h => h) (Or.inl ⟨by rfl, ?_⟩) hHeld ?_ ?_
      rotate_left
      · rintro w' ⟨s0, s1, s2⟩
        go_simp
        with_reducible rfl
      rotate_left
      · simp only [Act.put, List.setIfInBounds_toArray, List.set_cons_zero, List.set_cons_succ, i64_w, i32_w]
        rfl
      refine pure_ (i := 1) (N := some 32) (v := ?_) (a' := ?_) #[true, true, false, false, true, false, false, false, false, true, false, true, false, false] rfl rfl (by kernel_rfl) (fun _ _ _ h => h) (Or.inl ⟨by rfl, ?_⟩) ?_ ?_
      rotate_left
      · intro w'
        go_simp
        with_reducible rfl
      rotate_left
      · simp only [Act.put, List.setIfInBounds_toArray, List.set_cons_zero, List.set_cons_succ, i64_w, i32_w]
        rfl
      refine pure_ (i := 2) (N := some 33) (v := ?_) (a' := ?_) #[true, true, true, false, true, false, false, false, false, true, false, true, false, false] rfl rfl (by kernel_rfl) (fun _ _ _ h => h) (Or.inl ⟨by rfl, ?_⟩) ?_ ?_
      rotate_left
      · intro w'
        go_simp
        with_reducible rfl
      rotate_left
      · simp only [Act.put, List.setIfInBounds_toArray, List.set_cons_zero, List.set_cons_succ, i64_w, i32_w]
        rfl
      refine take_ (i := 3) (N := some 34) (v := ?_) (a' := ?_) #[true, true, true, true, true, false, false, false, false, true, false, true, false, false] rfl rfl (by kernel_rfl) (fun _ _ _ h => h) (Or.inl ⟨by rfl, ?_⟩) hHeld ?_ ?_
      rotate_left
      · rintro w' ⟨s0, s1, s2⟩
        go_simp
        with_reducible rfl
      rotate_left
      · simp only [Act.put, List.setIfInBounds_toArray, List.set_cons_zero, List.set_cons_succ, i64_w, i32_w]
        rfl
      refine take_ (i := 5) (N := some 36) (v := ?_) (a' := ?_) #[true, true, true, true, true, true, false, false, false, true, false, true, false, false] rfl rfl (by kernel_rfl) (fun _ _ _ h => h) (Or.inl ⟨by rfl, ?_⟩) hHeld ?_ ?_
      rotate_left
      · rintro w' ⟨s0, s1, s2⟩
        go_simp
        with_reducible rfl
      rotate_left
      · simp only [Act.put, List.setIfInBounds_toArray, List.set_cons_zero, List.set_cons_succ, i64_w, i32_w]
        rfl
      refine pure_ (i := 6) (N := some 37) (v := ?_) (a' := ?_) #[true, true, true, true, true, true, true, false, false, true, false, true, false, false] rfl rfl (by kernel_rfl) (fun _ _ _ h => h) (Or.inl ⟨by rfl, ?_⟩) ?_ ?_
      rotate_left
      · intro w'
        go_simp
        with_reducible rfl
      rotate_left
      · simp only [Act.put, List.setIfInBounds_toArray, List.set_cons_zero, List.set_cons_succ, i64_w, i32_w]
        rfl
      refine pure_ (i := 7) (N := some 38) (v := ?_) (a' := ?_) #[true, true, true, true, true, true, true, true, false, true, false, true, false, false] rfl rfl (by kernel_rfl) (fun _ _ _ h => h) (Or.inl ⟨by rfl, ?_⟩) ?_ ?_
      rotate_left
      · intro w'
        go_simp
        with_reducible rfl
      rotate_left
      · simp only [Act.put, List.setIfInBounds_toArray, List.set_cons_zero, List.set_cons_succ, i64_w, i32_w]
        rfl
      refine take_ (i := 8) (N := some 39) (v := ?_) (a' := ?_) #[true, true, true, true, true, true, true, true, true, true, false, true, false, false] rfl rfl (by kernel_rfl) (fun _ _ _ h => h) (Or.inl ⟨by rfl, ?_⟩) hHeld ?_ ?_
      rotate_left
      · rintro w' ⟨s0, s1, s2⟩
        go_simp
        with_reducible rfl
      rotate_left
      · simp only [Act.put, List.setIfInBounds_toArray, List.set_cons_zero, List.set_cons_succ, i64_w, i32_w]
        rfl
      refine take_ (i := 10) (N := some 41) (v := ?_) (a' := ?_) #[true, true, true, true, true, true, true, true, true, true, true, true, false, false] rfl rfl (by kernel_rfl) (fun _ _ _ h => h) (Or.inl ⟨by rfl, ?_⟩) hHeld ?_ ?_
      rotate_left
      · rintro w' ⟨s0, s1, s2⟩
        go_simp
        with_reducible rfl
      rotate_left
      · simp only [Act.put, List.setIfInBounds_toArray, List.set_cons_zero, List.set_cons_succ, i64_w, i32_w]
        rfl
      refine one_ (i := 12) (N := some 43) #[true, true, true, true, true, true, true, true, true, true, true, true, true, false] rfl rfl (by kernel_rfl) (by decide) (fun K hK => ?_)
      refine goes_ Try.func57 (by kernel_rfl) rfl #[.slice Av ln cv, .func (.func 54) #[] #[.pointer (some ⟨B2 + 1, 0, none⟩)]] (by rfl) rfl rfl (by simp only [List.map_toArray, List.map_cons, List.map_nil]; rfl) ?_
      with_reducible refine (HDEL.out).mono ?_
      rintro e w8 ⟨v8, rfl, hr8, ho8, hf8⟩
      refine ⟨_, rfl, ?_⟩
      rw [← HLN.out] at ho8 hf8
      have HR8 := Aside0.mk hr8
      have HO8 := Aside0.mk ho8
      have HF8 := Aside0.mk hf8
      have q8 := hf8.block m HMd.out.lt (fun e => (HNB2.out m e).2.2.2 rfl)
      have hm8 : MapSt w8 m Lj := HMd.out.of_block q8
      have hl8 := HLd.out w8 q8
      have hb8 := (hf8.block b (blk_lt HBd.out) (fun e => (HNB2.out b e).2.2.1 rfl)).trans HBd.out
      have HB8 := Aside0.mk hb8
      have hbx8 := (hf8.block B2 (blk_lt HBOX.out) (fun e => (HNB2.out B2 e).1 rfl)).trans HBOX.out
      have HBX8 := Aside0.mk hbx8
      obtain ⟨w9, e9, M9, B9⟩ := run_set (P := Try.prog) hm8 Try.underlying90 Try.underlying9 k v8
      have HM9 := Aside0.mk M9
      have HB9 := Aside0.mk B9
      clear hr8 ho8 hf8 q8 hm8 hb8 hbx8 M9 B9 hHeld
      refine hK.out _ _ ⟨blk_cell HBX8.out 0, blk_cell HB8.out 0, hl8⟩ (fun hHeld => ?_)
      clear hK K
      refine norm_ (a' := ?_) ?_ ?_
      rotate_left
      · show Act.put _ (some 43) _ = _
        simp only [Act.put, List.setIfInBounds_toArray, List.set_cons_zero, List.set_cons_succ, i64_w, i32_w]
        rfl
      refine last_ (i := 13) (N := none) #[true, true, true, true, true, true, true, true, true, true, true, true, true, true] rfl rfl (by kernel_rfl) (by decide) (fun K hK => ?_)
      refine skip_ (w1 := ?_) (by rfl) rfl ?_ ?_
      rotate_left
      · go_simp
        rfl
      refine hK.out _ _ ?_
      clear hK K
      refine done_ (by kernel_rfl) ?_
      have hmid : ∀ x, get (mid rev (ss.take (j + 1)) s.g) x = if x = k then l.filter (fun y => !gone rev y) else get (mid rev (ss.take j) s.g) x := fun x => by
        have ht : ss.take (j + 1) = ss.take j ++ [k] := by rw [List.take_add_one, HK.out.1]; rfl
        rw [mid_get, mid_get, ht]
        by_cases hx : x = k
        · subst hx; rw [if_pos (by simp), if_pos rfl, HG.out.2]
        · rw [if_neg hx]
          have : x ∈ ss.take j ++ [k] ↔ x ∈ ss.take j := by simp [hx]
          simp only [this]
      have hcnt : cntG rev s.g (ss.take (j + 1)) = cntG rev s.g (ss.take j) + (l.length - (l.filter fun y => !gone rev y).length) := by
        have ht : ss.take (j + 1) = ss.take j ++ [k] := by rw [List.take_add_one, HK.out.1]; rfl
        rw [ht, cnt_snoc, HG.out.2, (len_filter rev l).1]
      have hset := At.setRow (s' := ⟨mid rev (ss.take (j + 1)) s.g, s.last⟩) HAJ.out (by rw [HV.out]; exact HFd.out.trans HF8.out) HR8.out (by rw [HV.out]; exact HO8.out) HM9.out HB9.out rfl (by show keysG (mid _ _ _) = keysG (mid _ _ _); rw [mid_keys, mid_keys]) (by show k ∈ keysG (mid _ _ _); rw [mid_keys]; exact HK.out.2.1) hmid
      obtain ⟨A8, c8, rfl⟩ := Kd.R_slice HR8.out
      have hle := (len_filter rev l).2
      have hcb : cntG rev s.g (ss.take (j + 1)) ≤ 1000000 := by
        have h1 := cnt_sub rev s.g (HPERM.out) (List.take_sublist (j + 1) ss)
        have h2 := cnt_keys rev HI.out.srt
        have h3 := List.countP_le_length (p := fun p : ByteArray × Sp => gone rev p.2) (l := flat s.g)
        have := HTOT.out
        omega
      have hlk9 := run_look (P := Try.prog) HM9.out Try.underlying90 Try.underlying9 k Try.zeroValue97
      rw [lookL_set, if_pos rfl, List.length_map] at hlk9
      obtain ⟨n8, hn8⟩ : ∃ n8, (l.filter fun y => !gone rev y).length = n8 := ⟨_, rfl⟩
      rw [hn8] at hlk9 hcnt hle
      rw [HLN.out] at hcnt hle
      have c09 := blk_cell hset.1.hb 0
      have hbx9 := (HB9.out.block B2 (fun e => by have := HAJ.out.okm.2; have := HSZ.out; omega)).trans HBX8.out
      have k29 := blk_cell hbx9 0
      have hw1 : wrap64 ((cntG rev s.g (ss.take j) : Nat) + wrap64 ((ln : Int) - (n8 : Int))) = ((cntG rev s.g (ss.take (j + 1)) : Nat) : Int) := by unfold wrap64; omega
      have HSET := Aside0.mk hset
      have HMID := Aside0.mk hmid
      have HN8 := Aside0.mk hn8
      have HW1 := Aside0.mk hw1
      clear hmid hcnt hset hle hcb hn8 hbx9 hw1 c0 k2
      by_cases h0 : n8 = 0
      · subst h0
        have hfe : (l.filter fun y => !gone rev y) = [] := List.length_eq_zero_iff.1 HN8.out
        obtain ⟨wx, ex, MX, BX⟩ := run_del (P := Try.prog) (ty := 0) HM9.out Try.underlying90 Try.underlying9 k
        have HDELR := Aside0.mk (At.delRow HSET.out.1 MX BX (by show get (mid _ _ _) k = []; rw [HMID.out, if_pos rfl, hfe]))
        clear hfe MX BX
        go_wp2_with fail
        go_roundg kq
        case measure => omega
        case rel =>
          refine ⟨j + 1, delL (setL Lj k _) k, by have := HW1.out; simp at this; rw [this], by rw [wrap_succ j (by have := HJ.out; have := HNB.out; omega)], ⟨by have := HJ.out; omega⟩, ⟨HDELR.out.1⟩, ⟨HF.out.trans (HSET.out.2.trans HDELR.out.2)⟩, ⟨fun p hp => ?_⟩⟩
          obtain ⟨hp1, hp2⟩ := List.mem_filter.1 hp
          have hpk : p.1 ≠ k := by simpa using hp2
          rw [HMID.out, if_neg hpk]
          exact HM.out p ((mem_setL hp1).resolve_left hpk)
      · have z1 : ((n8 : Int) == 0) = false := beq_eq_false_iff_ne.2 (by omega)
        have z2 : decide ((n8 : Int) = 0) = false := decide_eq_false (by omega)
        have z3 : ((n8 : Int) = 0) = False := eq_false (by omega)
        have z4 : (n8 = 0) = False := eq_false h0
        have H0 := Aside0.mk h0
        clear h0
        go_wp2_with fail
        go_roundg kq
        case measure => omega
        case rel =>
          refine ⟨j + 1, setL Lj k _, by rw [HW1.out], by rw [wrap_succ j (by have := HJ.out; have := HNB.out; omega)], ⟨by have := HJ.out; omega⟩, ⟨HSET.out.1⟩, ⟨HF.out.trans HSET.out.2⟩, ⟨fun p hp => ?_⟩⟩
          rw [HMID.out]
          by_cases hpk : p.1 = k
          · rw [if_pos hpk]
            exact fun e => H0.out (by rw [← HN8.out, e]; rfl)
          · rw [if_neg hpk]
            exact HM.out p ((mem_setL hp).resolve_left hpk)
end
end Go.Proofs.Ythpcplpannbipaa.Sa
