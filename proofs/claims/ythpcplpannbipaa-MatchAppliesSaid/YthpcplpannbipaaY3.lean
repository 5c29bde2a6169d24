-- Written by a program of this session (wip/tools/drive.py) for this seat, partly by the kit's print.py; some functions by hand.
import Derived.Test.YthpcplpannbipaaY0
import Derived.Test.YthpcplpannbipaaY2
import Derived.Test.YthpcplpannbipaaMr
import Derived.Test.YthpcplpannbipaaIo
namespace Go.Proofs.Ythpcplpannbipaa.Y
open Go.RowKit Go.Proofs.YthpcplpannbipaaW.PrintWords Go.Proofs.YthpcplpannbipaaW.PrintLast Go.Proofs.YthpcplpannbipaaW.PrintMore
attribute [local go_sem] max2_int min2_int max_two min_two max_three min_three max_four min_four   -- for this text's walks alone
open Go.Proofs.Ythpcplpannbipaa.Kx
set_option linter.unusedVariables false
set_option linter.unusedSimpArgs false

section
-- @GIVEN@ 17
/-! ### match_Set_Apply: function 17 -/
-- GIVEN (doorman/match.Set).Apply rounds=0 making=1
--import Derived.Test.YthpcplpannbipaaMr
--import Derived.Test.YthpcplpannbipaaIo
def match_Set_Apply.f (l0 : List ByteArray) (l1 : List S46) (l2 : List S40) : Option (List ByteArray × Int × Int) :=
  if Mp.Srt Mq.blt l0 ∧ l0.length + l2.length ≤ 900000 ∧ l1.length ≤ 900000 then some (Mq.applyB l0 (l1.map fun x => (x.f0, x.f1)) (l2.map fun x => (x.f0, x.f1))) else none
theorem match_Set_Apply.drawn {w w' : World} (h : Drawn0 w w') {base : Nat} : Below base w w' := by
  obtain ⟨n, rfl⟩ := h
  exact ⟨rfl, rfl, rfl, Nat.le_refl _, fun _ _ => rfl⟩
set_option maxHeartbeats 2000000 in
set_option maxRecDepth 100000 in
theorem match_Set_Apply.add (w : World) (base : Nat) (v : Value) (s : List ByteArray) (k : ByteArray) (hs : Mp.Srt Mq.blt s) (hn : s.length ≤ 900000) (HO : Kd.string.R 9 w base (fun _ => True) v s) (hb : base ≤ w.heap.size) :
    Calls Try.prog 47 #[v, .string k] w fun e w' => ∃ v', e = .returned (.tuple #[v', .bool (!decide (k ∈ s))]) ∧ Below base w w' ∧ (k ∉ s → Kd.string.R 9 w' base (fun _ => True) v' (Mp.ins Mq.blt s k)) := by
  have hf := Mr.search_f hs (by omega) k (k := s.length + 1) (by omega)
  obtain ⟨A, c, rfl, hlc, hC⟩ := Kd.R_reads HO
  have hcall := match_Set_string.calls (s.length + 1) A c s k _ _ w hC hlc hf
  have HP : Aside0 (Mp.pos Mq.blt s k ≤ s.length) := ⟨Mp.pos_le s k⟩
  obtain ⟨p, hp⟩ : ∃ p, Mp.pos Mq.blt s k = p := ⟨_, rfl⟩
  rw [hp] at hcall HP
  have HPp := Aside0.mk hp
  have H := Aside0.mk HO
  have HN := Aside0.mk (And.intro hn hb)
  clear hp hf hlc hC HO hs hn hb
  go_enter Try.func47, Try.ntmps47
  by_cases hk : k ∈ s
  · have hd : decide (k ∈ s) = true := decide_eq_true hk
    rw [hd] at hcall ⊢
    have HK := Aside0.mk hk
    clear hk hd
    go_wp2_with fail
    refine hcall.mono ?_
    rintro e w1 ⟨rfl, hd⟩
    have HB := Aside0.mk (match_Set_Apply.drawn hd (base := base))
    clear hd hcall
    go_wp2_with fail
    go_ret2
    exact ⟨_, rfl, HB.out, fun h => absurd HK.out h⟩
  · have hd : decide (k ∈ s) = false := decide_eq_false hk
    rw [hd] at hcall ⊢
    clear hk hd
    go_wp2_with fail
    refine hcall.mono ?_
    rintro e w1 ⟨rfl, hd⟩
    have HB := Aside0.mk (match_Set_Apply.drawn hd (base := base))
    have H1 := Aside0.mk (Kd.R_below H.out (match_Set_Apply.drawn hd))
    have hcall2 := In_.insert_calls w1 base _ s k p HP.out (by have := HN.out; omega) H1.out (by have := HN.out; have := HB.out.size; omega)
    clear hd hcall H1
    go_wp2_with fail
    refine hcall2.mono ?_
    rintro e w2 ⟨v', rfl, hr, hb⟩
    have HR := Aside0.mk hr
    have HB2 := Aside0.mk (HB.out.trans hb)
    clear hr hb hcall2
    go_wp2_with fail
    go_ret2
    refine ⟨_, rfl, HB2.out, fun _ => ?_⟩
    unfold Mp.ins
    rw [HPp.out]
    exact HR.out
set_option maxHeartbeats 2000000 in
set_option maxRecDepth 100000 in
theorem match_Set_Apply.drop (w : World) (base : Nat) (v : Value) (s : List ByteArray) (k : ByteArray) (hs : Mp.Srt Mq.blt s) (hn : s.length ≤ 900000) (HO : Kd.string.R 9 w base (fun _ => True) v s) (hb : base ≤ w.heap.size) :
    Calls Try.prog 46 #[v, .string k] w fun e w' => ∃ v', e = .returned (.tuple #[v', .bool (decide (k ∈ s))]) ∧ Below base w w' ∧ (k ∈ s → Kd.string.R 9 w' base (fun _ => True) v' (Mp.del s k)) := by
  have hf := Mr.search_f hs (by omega) k (k := s.length + 1) (by omega)
  obtain ⟨A, c, rfl, hlc, hC⟩ := Kd.R_reads HO
  have hcall := match_Set_string.calls (s.length + 1) A c s k _ _ w hC hlc hf
  obtain ⟨p, hp⟩ : ∃ p, Mp.pos Mq.blt s k = p := ⟨_, rfl⟩
  rw [hp] at hcall
  have HPp := Aside0.mk hp
  have H := Aside0.mk HO
  have HN := Aside0.mk (And.intro hn hb)
  have HS := Aside0.mk hs
  clear hp hf hlc hC HO hs hb
  go_enter Try.func46, Try.ntmps46
  by_cases hk : k ∈ s
  · have hd : decide (k ∈ s) = true := decide_eq_true hk
    rw [hd] at hcall ⊢
    have HK := Aside0.mk hk
    have hpl : p < s.length := by obtain ⟨h, _⟩ := Mp.pos_mem Mr.blt_TO HS.out hk; rw [HPp.out] at h; exact h
    have HPL := Aside0.mk hpl
    have hwr : IntKind.i64.wrap ((p : Int) + 1) = ((p + 1 : Nat) : Int) := by rw [IntKind.wrap_i64]; omega
    clear hk hd hpl hn
    go_wp2_with fail
    refine hcall.mono ?_
    rintro e w1 ⟨rfl, hd⟩
    have HB := Aside0.mk (match_Set_Apply.drawn hd (base := base))
    have H1 := Aside0.mk (Kd.R_below H.out (match_Set_Apply.drawn hd))
    have hcall2 := In_.delete_calls w1 base _ s p HPL.out H1.out
    clear hd hcall H1
    go_wp2_with fail
    refine hcall2.mono ?_
    rintro e w2 ⟨v', rfl, hr, hb⟩
    have HR := Aside0.mk hr
    have HB2 := Aside0.mk (HB.out.trans hb)
    clear hr hb hcall2
    go_wp2_with fail
    go_ret2
    refine ⟨_, rfl, HB2.out, fun _ => ?_⟩
    rw [Mp.del_pos Mr.blt_TO HS.out HK.out, HPp.out]
    exact HR.out
  · have hd : decide (k ∈ s) = false := decide_eq_false hk
    rw [hd] at hcall ⊢
    have HK := Aside0.mk hk
    clear hk hd hn
    go_wp2_with fail
    refine hcall.mono ?_
    rintro e w1 ⟨rfl, hd⟩
    have HB := Aside0.mk (match_Set_Apply.drawn hd (base := base))
    clear hd hcall
    go_wp2_with fail
    go_ret2
    exact ⟨_, rfl, HB.out, fun h => absurd h HK.out⟩
set_option maxHeartbeats 16000000 in
set_option maxRecDepth 100000 in
theorem match_Set_Apply.calls (A0 : Option Addr) (c0 : Nat) (l0 : List ByteArray) (A1 : Option Addr) (c1 : Nat) (l1 : List S46) (A2 : Option Addr) (c2 : Nat) (l2 : List S40) (r1 : List ByteArray) (r2 r3 : Int) (w : World)
    (hr0 : Kd.C Kd.string w A0 l0.length l0) (hc0 : l0.length ≤ c0) (hr1 : Kd.C k46 w A1 l1.length l1) (hc1 : l1.length ≤ c1) (hr2 : Kd.C k40 w A2 l2.length l2) (hc2 : l2.length ≤ c2) (h : match_Set_Apply.f l0 l1 l2 = some (r1, r2, r3)) :
    Calls Try.prog 17 #[.slice A0 l0.length c0, .slice A1 l1.length c1, .slice A2 l2.length c2] w fun e w' => ∃ v0_ : Value, e = .returned (.tuple #[v0_, .int .i64 r2, .int .i64 r3]) ∧ Kd.R Kd.string 9 w' w.heap.size (fun _ => True) v0_ r1 ∧ Below w.heap.size w w' := by
  have hcnd : Mp.Srt Mq.blt l0 ∧ l0.length + l2.length ≤ 900000 ∧ l1.length ≤ 900000 := by
    unfold match_Set_Apply.f at h; split at h
    · assumption
    · cases h
  have hres : Mq.applyB l0 (l1.map fun x => (x.f0, x.f1)) (l2.map fun x => (x.f0, x.f1)) = (r1, r2, r3) := by
    unfold match_Set_Apply.f at h; rw [if_pos hcnd] at h; exact Option.some.inj h
  have HR := Aside0.mk hres
  have HS := Aside0.mk hcnd.1
  have HN := Aside0.mk hcnd.2.1
  have HC0 := Aside0.mk hr0
  have HL0 := Aside0.mk hc0
  have HC1 := Aside0.mk hr1
  have HL1 := Aside0.mk hc1
  have HC2 := Aside0.mk hr2
  have HL2 := Aside0.mk hc2
  have HM1 : Aside0 (l1.length ≤ 9223372036854775807) := ⟨Kd.C_max hr1⟩
  have HL47 : Aside0 (l1.length ≤ 900000) := ⟨hcnd.2.2⟩
  clear h hcnd hres hr0 hc0 hr1 hc1 hr2 hc2
  go_enter Try.func17, Try.ntmps17
  go_wp2_with fail
  go_loopg [20] (l1.length + 1) (fun gg s20 wr => ∃ (i : Nat), s20 = .int .i64 i ∧ i + gg = l1.length + 1 ∧ i ≤ l1.length ∧ Aside0 (Mp.preF l0 ((l1.drop i).map fun x => (x.f0, x.f1)) i = Mp.preF l0 (l1.map fun x => (x.f0, x.f1)) 0) ∧ Aside0 (Below w.heap.size w wr))
  case atStart => exact ⟨0, rfl, by omega, Nat.zero_le _, ⟨rfl⟩, ⟨Below.refl _ _⟩⟩
  case round =>
    obtain ⟨i, rfl, hi, hil, HP, HB⟩ := hrel
    rename World => wr
    cases gk with
    | zero => omega
    | succ g1 =>
      by_cases hlt : i < l1.length
      · have e1 : decide ((i : Int) < (l1.length : Int)) = true := decide_eq_true (by omega)
        have e2 : ((i : Int) < (l1.length : Int)) = True := eq_true (by omega)
        have e3 : decide (i < l1.length) = true := decide_eq_true hlt
        have e4 : (0 ≤ (i : Int)) = True := eq_true (by omega)
        have e5 : decide ((i : Int) < 0) = false := decide_eq_false (by omega)
        have e6 : ((i : Int) < 0) = False := eq_false (by omega)
        obtain ⟨X, hX⟩ : ∃ X, rd_T46 l1 (i : Int) = X := ⟨_, rfl⟩
        have hxi : l1[i] = X := by rw [← hX]; unfold rd_T46; rw [Int.toNat_natCast, List.getD_eq_getElem?_getD, List.getElem?_eq_getElem hlt]; rfl
        obtain ⟨ad, rfl, c0', c1'⟩ := at_T46 HC1.out (i : Int) (by omega) (by omega)
        rw [hX, Int.toNat_natCast] at c0' c1'
        replace c0' := pw_cell_below HB.out c0'
        replace c1' := pw_cell_below HB.out c1'
        have HQ : Aside0 ((if decide (X.f0 ∈ l0) = X.f1 then Mp.preF l0 ((l1.drop (i + 1)).map fun x => (x.f0, x.f1)) (i + 1) else some i) = Mp.preF l0 (l1.map fun x => (x.f0, x.f1)) 0) := ⟨by
          have := HP.out
          rw [List.drop_eq_getElem_cons hlt, hxi, List.map_cons, Mp.preF] at this
          exact this⟩
        have hw : IntKind.i64.wrap ((i : Int) + 1) = ((i + 1 : Nat) : Int) := by have := HM1.out; rw [IntKind.wrap_i64]; omega
        have HJ := Aside0.mk (And.intro hi (And.intro hil hlt))
        clear hX hxi hi hil hlt HP
        obtain ⟨b, hb⟩ : ∃ b, decide (X.f0 ∈ l0) = b := ⟨_, rfl⟩
        obtain ⟨f1, hf1⟩ : ∃ f1, X.f1 = f1 := ⟨_, rfl⟩
        rw [hf1] at c1' HQ
        rw [hb] at HQ
        go_upto_region 4 with (fail)
        obtain ⟨wz, ez, hz, bz, zz, kz⟩ : ∃ wz, wr.alloc (.cells #[.string X.f0, .bool f1] 46) = wz ∧ wz.heap[wr.heap.size]? = some (.cells #[.string X.f0, .bool f1] 46 (0, 0)) ∧ Below w.heap.size w wz ∧ True ∧ True := ⟨_, rfl, (Go.MapKept.heap_alloc wr _).1, HB.out.alloc HB.out.size _, trivial, trivial⟩
        rw [ez]
        obtain ⟨q, hq⟩ : ∃ q, wr.heap.size = q := ⟨_, rfl⟩
        rw [hq] at hz ⊢
        have HXd : Aside0 (wz.drew.heap[q]? = some (.cells #[.string X.f0, .bool f1] 46 (0, 0))) := ⟨hz⟩
        have HBd : Aside0 (Below w.heap.size w wz.drew) := ⟨bz.drew⟩
        have hcall := match_Set_Has.calls (l0.length + 1) A0 c0 l0 X.f0 _ wz.drew (Kd.C_below HC0.out HBd.out) HL0.out (Mr.has_f HS.out (by have := HN.out; omega) X.f0 (by omega))
        rw [hb] at hcall
        clear ez hz bz zz kz hq HB c0' c1' hb hf1
        cases b with
        | true =>
          cases f1 with
          | true =>
            refine start_ (n := 7) (S := fun w' => w'.cell? ⟨q, 0, none⟩ = some (.string X.f0) ∧ w'.cell? ⟨q, 1, none⟩ = some (.bool true)) (ds := []) #[false, false, false, false, false, false, false] (by kernel_rfl) rfl rfl ⟨blk_cell HXd.out 0, blk_cell HXd.out 1⟩ (fun hHeld => ?_)
            generalize wz.drew = w7 at HBd HXd hcall hHeld ⊢
            refine pure_ (i := 0) (N := some 25) (v := ?_) (a' := ?_) #[true, false, false, false, false, false, false] rfl rfl (by kernel_rfl) (fun _ _ _ h => h) (Or.inl ⟨by rfl, ?_⟩) ?_ ?_
            rotate_left
            · intro w'
              go_simp
              with_reducible rfl
            rotate_left
            · simp only [Act.put, List.setIfInBounds_toArray, List.set_cons_zero, List.set_cons_succ, i64_w, i32_w]
              rfl
            refine pure_ (i := 1) (N := some 26) (v := ?_) (a' := ?_) #[true, true, false, false, false, false, false] rfl rfl (by kernel_rfl) (fun _ _ _ h => h) (Or.inl ⟨by rfl, ?_⟩) ?_ ?_
            rotate_left
            · intro w'
              go_simp
              with_reducible rfl
            rotate_left
            · simp only [Act.put, List.setIfInBounds_toArray, List.set_cons_zero, List.set_cons_succ, i64_w, i32_w]
              rfl
            refine pure_ (i := 4) (N := some 29) (v := ?_) (a' := ?_) #[true, true, false, false, true, false, false] rfl rfl (by kernel_rfl) (fun _ _ _ h => h) (Or.inl ⟨by rfl, ?_⟩) ?_ ?_
            rotate_left
            · intro w'
              go_simp
              with_reducible rfl
            rotate_left
            · simp only [Act.put, List.setIfInBounds_toArray, List.set_cons_zero, List.set_cons_succ, i64_w, i32_w]
              rfl
            refine take_ (i := 2) (N := some 27) (v := ?_) (a' := ?_) #[true, true, true, false, true, false, false] rfl rfl (by kernel_rfl) (fun _ _ _ h => h) (Or.inl ⟨by rfl, ?_⟩) hHeld ?_ ?_
            rotate_left
            · rintro w' ⟨s0, s1⟩
              go_simp
              with_reducible rfl
            rotate_left
            · simp only [Act.put, List.setIfInBounds_toArray, List.set_cons_zero, List.set_cons_succ, i64_w, i32_w]
              rfl
            refine take_ (i := 5) (N := some 30) (v := ?_) (a' := ?_) #[true, true, true, false, true, true, false] rfl rfl (by kernel_rfl) (fun _ _ _ h => h) (Or.inl ⟨by rfl, ?_⟩) hHeld ?_ ?_
            rotate_left
            · rintro w' ⟨s0, s1⟩
              go_simp
              with_reducible rfl
            rotate_left
            · simp only [Act.put, List.setIfInBounds_toArray, List.set_cons_zero, List.set_cons_succ, i64_w, i32_w]
              rfl
            refine one_ (i := 3) (N := some 28) #[true, true, true, true, true, true, false] rfl rfl (by kernel_rfl) (by decide) (fun K hK => ?_)
            refine goes_ Try.func20 (by kernel_rfl) rfl #[.slice A0 l0.length c0, .string X.f0] (by rfl) rfl rfl (by simp only [List.map_toArray, List.map_cons, List.map_nil]; rfl) ?_
            refine hcall.mono ?_
            rintro e w8 ⟨rfl, hd7⟩
            have hb7 : Below w7.heap.size w7 w8 := match_Set_Apply.drawn hd7
            refine ⟨_, rfl, ?_⟩
            refine hK.out _ _ ⟨pw_cell_below hb7 hHeld.1, pw_cell_below hb7 hHeld.2⟩ (fun hHeld => ?_)
            clear hK K
            refine norm_ (a' := ?_) ?_ ?_
            rotate_left
            · show Act.put _ (some 28) _ = _
              simp only [Act.put, List.setIfInBounds_toArray, List.set_cons_zero, List.set_cons_succ, i64_w, i32_w]
              rfl
            refine pure_ (i := 6) (N := some 31) (v := ?_) (a' := ?_) #[true, true, true, true, true, true, true] rfl rfl (by kernel_rfl) (fun _ _ _ h => h) (Or.inl ⟨by rfl, ?_⟩) ?_ ?_
            rotate_left
            · intro w'
              go_simp
              with_reducible rfl
            rotate_left
            · simp only [Act.put, List.setIfInBounds_toArray, List.set_cons_zero, List.set_cons_succ, i64_w, i32_w]
              rfl
            refine done_ (by kernel_rfl) ?_
            have HB8 := Aside0.mk (HBd.out.trans (match_Set_Apply.drawn hd7))
            clear hcall hd7 hb7 HBd HXd
            go_wp2_with fail
            go_roundg g1
            case measure => omega
            case rel => exact ⟨i + 1, by simp, by have := HJ.out; omega, HJ.out.2.2, ⟨by have := HQ.out; simpa using this⟩, HB8⟩
          | false =>
            refine start_ (n := 7) (S := fun w' => w'.cell? ⟨q, 0, none⟩ = some (.string X.f0) ∧ w'.cell? ⟨q, 1, none⟩ = some (.bool false)) (ds := []) #[false, false, false, false, false, false, false] (by kernel_rfl) rfl rfl ⟨blk_cell HXd.out 0, blk_cell HXd.out 1⟩ (fun hHeld => ?_)
            generalize wz.drew = w7 at HBd HXd hcall hHeld ⊢
            refine pure_ (i := 0) (N := some 25) (v := ?_) (a' := ?_) #[true, false, false, false, false, false, false] rfl rfl (by kernel_rfl) (fun _ _ _ h => h) (Or.inl ⟨by rfl, ?_⟩) ?_ ?_
            rotate_left
            · intro w'
              go_simp
              with_reducible rfl
            rotate_left
            · simp only [Act.put, List.setIfInBounds_toArray, List.set_cons_zero, List.set_cons_succ, i64_w, i32_w]
              rfl
            refine pure_ (i := 1) (N := some 26) (v := ?_) (a' := ?_) #[true, true, false, false, false, false, false] rfl rfl (by kernel_rfl) (fun _ _ _ h => h) (Or.inl ⟨by rfl, ?_⟩) ?_ ?_
            rotate_left
            · intro w'
              go_simp
              with_reducible rfl
            rotate_left
            · simp only [Act.put, List.setIfInBounds_toArray, List.set_cons_zero, List.set_cons_succ, i64_w, i32_w]
              rfl
            refine pure_ (i := 4) (N := some 29) (v := ?_) (a' := ?_) #[true, true, false, false, true, false, false] rfl rfl (by kernel_rfl) (fun _ _ _ h => h) (Or.inl ⟨by rfl, ?_⟩) ?_ ?_
            rotate_left
            · intro w'
              go_simp
              with_reducible rfl
            rotate_left
            · simp only [Act.put, List.setIfInBounds_toArray, List.set_cons_zero, List.set_cons_succ, i64_w, i32_w]
              rfl
            refine take_ (i := 2) (N := some 27) (v := ?_) (a' := ?_) #[true, true, true, false, true, false, false] rfl rfl (by kernel_rfl) (fun _ _ _ h => h) (Or.inl ⟨by rfl, ?_⟩) hHeld ?_ ?_
            rotate_left
            · rintro w' ⟨s0, s1⟩
              go_simp
              with_reducible rfl
            rotate_left
            · simp only [Act.put, List.setIfInBounds_toArray, List.set_cons_zero, List.set_cons_succ, i64_w, i32_w]
              rfl
            refine take_ (i := 5) (N := some 30) (v := ?_) (a' := ?_) #[true, true, true, false, true, true, false] rfl rfl (by kernel_rfl) (fun _ _ _ h => h) (Or.inl ⟨by rfl, ?_⟩) hHeld ?_ ?_
            rotate_left
            · rintro w' ⟨s0, s1⟩
              go_simp
              with_reducible rfl
            rotate_left
            · simp only [Act.put, List.setIfInBounds_toArray, List.set_cons_zero, List.set_cons_succ, i64_w, i32_w]
              rfl
            refine one_ (i := 3) (N := some 28) #[true, true, true, true, true, true, false] rfl rfl (by kernel_rfl) (by decide) (fun K hK => ?_)
            refine goes_ Try.func20 (by kernel_rfl) rfl #[.slice A0 l0.length c0, .string X.f0] (by rfl) rfl rfl (by simp only [List.map_toArray, List.map_cons, List.map_nil]; rfl) ?_
            refine hcall.mono ?_
            rintro e w8 ⟨rfl, hd7⟩
            have hb7 : Below w7.heap.size w7 w8 := match_Set_Apply.drawn hd7
            refine ⟨_, rfl, ?_⟩
            refine hK.out _ _ ⟨pw_cell_below hb7 hHeld.1, pw_cell_below hb7 hHeld.2⟩ (fun hHeld => ?_)
            clear hK K
            refine norm_ (a' := ?_) ?_ ?_
            rotate_left
            · show Act.put _ (some 28) _ = _
              simp only [Act.put, List.setIfInBounds_toArray, List.set_cons_zero, List.set_cons_succ, i64_w, i32_w]
              rfl
            refine pure_ (i := 6) (N := some 31) (v := ?_) (a' := ?_) #[true, true, true, true, true, true, true] rfl rfl (by kernel_rfl) (fun _ _ _ h => h) (Or.inl ⟨by rfl, ?_⟩) ?_ ?_
            rotate_left
            · intro w'
              go_simp
              with_reducible rfl
            rotate_left
            · simp only [Act.put, List.setIfInBounds_toArray, List.set_cons_zero, List.set_cons_succ, i64_w, i32_w]
              rfl
            refine done_ (by kernel_rfl) ?_
            have HB8 := Aside0.mk (HBd.out.trans (match_Set_Apply.drawn hd7))
            clear hcall hd7 hb7 HBd HXd
            go_wp2_with fail
            (try rw [Exit.noGoto_ret])
            go_ret3
            have hq := HQ.out
            rw [if_neg (by decide)] at hq
            have hr := HR.out
            unfold Mq.applyB at hr
            rw [← hq] at hr
            simp only [Prod.mk.injEq] at hr
            obtain ⟨rfl, rfl, rfl⟩ := hr
            exact ⟨_, rfl, Kd.R_nil _ _ _ _ _, HB8.out⟩
        | false =>
          cases f1 with
          | true =>
            refine start_ (n := 7) (S := fun w' => w'.cell? ⟨q, 0, none⟩ = some (.string X.f0) ∧ w'.cell? ⟨q, 1, none⟩ = some (.bool true)) (ds := []) #[false, false, false, false, false, false, false] (by kernel_rfl) rfl rfl ⟨blk_cell HXd.out 0, blk_cell HXd.out 1⟩ (fun hHeld => ?_)
            generalize wz.drew = w7 at HBd HXd hcall hHeld ⊢
            refine pure_ (i := 0) (N := some 25) (v := ?_) (a' := ?_) #[true, false, false, false, false, false, false] rfl rfl (by kernel_rfl) (fun _ _ _ h => h) (Or.inl ⟨by rfl, ?_⟩) ?_ ?_
            rotate_left
            · intro w'
              go_simp
              with_reducible rfl
            rotate_left
            · simp only [Act.put, List.setIfInBounds_toArray, List.set_cons_zero, List.set_cons_succ, i64_w, i32_w]
              rfl
            refine pure_ (i := 1) (N := some 26) (v := ?_) (a' := ?_) #[true, true, false, false, false, false, false] rfl rfl (by kernel_rfl) (fun _ _ _ h => h) (Or.inl ⟨by rfl, ?_⟩) ?_ ?_
            rotate_left
            · intro w'
              go_simp
              with_reducible rfl
            rotate_left
            · simp only [Act.put, List.setIfInBounds_toArray, List.set_cons_zero, List.set_cons_succ, i64_w, i32_w]
              rfl
            refine pure_ (i := 4) (N := some 29) (v := ?_) (a' := ?_) #[true, true, false, false, true, false, false] rfl rfl (by kernel_rfl) (fun _ _ _ h => h) (Or.inl ⟨by rfl, ?_⟩) ?_ ?_
            rotate_left
            · intro w'
              go_simp
              with_reducible rfl
            rotate_left
            · simp only [Act.put, List.setIfInBounds_toArray, List.set_cons_zero, List.set_cons_succ, i64_w, i32_w]
              rfl
            refine take_ (i := 2) (N := some 27) (v := ?_) (a' := ?_) #[true, true, true, false, true, false, false] rfl rfl (by kernel_rfl) (fun _ _ _ h => h) (Or.inl ⟨by rfl, ?_⟩) hHeld ?_ ?_
            rotate_left
            · rintro w' ⟨s0, s1⟩
              go_simp
              with_reducible rfl
            rotate_left
            · simp only [Act.put, List.setIfInBounds_toArray, List.set_cons_zero, List.set_cons_succ, i64_w, i32_w]
              rfl
            refine take_ (i := 5) (N := some 30) (v := ?_) (a' := ?_) #[true, true, true, false, true, true, false] rfl rfl (by kernel_rfl) (fun _ _ _ h => h) (Or.inl ⟨by rfl, ?_⟩) hHeld ?_ ?_
            rotate_left
            · rintro w' ⟨s0, s1⟩
              go_simp
              with_reducible rfl
            rotate_left
            · simp only [Act.put, List.setIfInBounds_toArray, List.set_cons_zero, List.set_cons_succ, i64_w, i32_w]
              rfl
            refine one_ (i := 3) (N := some 28) #[true, true, true, true, true, true, false] rfl rfl (by kernel_rfl) (by decide) (fun K hK => ?_)
            refine goes_ Try.func20 (by kernel_rfl) rfl #[.slice A0 l0.length c0, .string X.f0] (by rfl) rfl rfl (by simp only [List.map_toArray, List.map_cons, List.map_nil]; rfl) ?_
            refine hcall.mono ?_
            rintro e w8 ⟨rfl, hd7⟩
            have hb7 : Below w7.heap.size w7 w8 := match_Set_Apply.drawn hd7
            refine ⟨_, rfl, ?_⟩
            refine hK.out _ _ ⟨pw_cell_below hb7 hHeld.1, pw_cell_below hb7 hHeld.2⟩ (fun hHeld => ?_)
            clear hK K
            refine norm_ (a' := ?_) ?_ ?_
            rotate_left
            · show Act.put _ (some 28) _ = _
              simp only [Act.put, List.setIfInBounds_toArray, List.set_cons_zero, List.set_cons_succ, i64_w, i32_w]
              rfl
            refine pure_ (i := 6) (N := some 31) (v := ?_) (a' := ?_) #[true, true, true, true, true, true, true] rfl rfl (by kernel_rfl) (fun _ _ _ h => h) (Or.inl ⟨by rfl, ?_⟩) ?_ ?_
            rotate_left
            · intro w'
              go_simp
              with_reducible rfl
            rotate_left
            · simp only [Act.put, List.setIfInBounds_toArray, List.set_cons_zero, List.set_cons_succ, i64_w, i32_w]
              rfl
            refine done_ (by kernel_rfl) ?_
            have HB8 := Aside0.mk (HBd.out.trans (match_Set_Apply.drawn hd7))
            clear hcall hd7 hb7 HBd HXd
            go_wp2_with fail
            (try rw [Exit.noGoto_ret])
            go_ret3
            have hq := HQ.out
            rw [if_neg (by decide)] at hq
            have hr := HR.out
            unfold Mq.applyB at hr
            rw [← hq] at hr
            simp only [Prod.mk.injEq] at hr
            obtain ⟨rfl, rfl, rfl⟩ := hr
            exact ⟨_, rfl, Kd.R_nil _ _ _ _ _, HB8.out⟩
          | false =>
            refine start_ (n := 7) (S := fun w' => w'.cell? ⟨q, 0, none⟩ = some (.string X.f0) ∧ w'.cell? ⟨q, 1, none⟩ = some (.bool false)) (ds := []) #[false, false, false, false, false, false, false] (by kernel_rfl) rfl rfl ⟨blk_cell HXd.out 0, blk_cell HXd.out 1⟩ (fun hHeld => ?_)
            generalize wz.drew = w7 at HBd HXd hcall hHeld ⊢
            refine pure_ (i := 0) (N := some 25) (v := ?_) (a' := ?_) #[true, false, false, false, false, false, false] rfl rfl (by kernel_rfl) (fun _ _ _ h => h) (Or.inl ⟨by rfl, ?_⟩) ?_ ?_
            rotate_left
            · intro w'
              go_simp
              with_reducible rfl
            rotate_left
            · simp only [Act.put, List.setIfInBounds_toArray, List.set_cons_zero, List.set_cons_succ, i64_w, i32_w]
              rfl
            refine pure_ (i := 1) (N := some 26) (v := ?_) (a' := ?_) #[true, true, false, false, false, false, false] rfl rfl (by kernel_rfl) (fun _ _ _ h => h) (Or.inl ⟨by rfl, ?_⟩) ?_ ?_
            rotate_left
            · intro w'
              go_simp
              with_reducible rfl
            rotate_left
            · simp only [Act.put, List.setIfInBounds_toArray, List.set_cons_zero, List.set_cons_succ, i64_w, i32_w]
              rfl
            refine pure_ (i := 4) (N := some 29) (v := ?_) (a' := ?_) #[true, true, false, false, true, false, false] rfl rfl (by kernel_rfl) (fun _ _ _ h => h) (Or.inl ⟨by rfl, ?_⟩) ?_ ?_
            rotate_left
            · intro w'
              go_simp
              with_reducible rfl
            rotate_left
            · simp only [Act.put, List.setIfInBounds_toArray, List.set_cons_zero, List.set_cons_succ, i64_w, i32_w]
              rfl
            refine take_ (i := 2) (N := some 27) (v := ?_) (a' := ?_) #[true, true, true, false, true, false, false] rfl rfl (by kernel_rfl) (fun _ _ _ h => h) (Or.inl ⟨by rfl, ?_⟩) hHeld ?_ ?_
            rotate_left
            · rintro w' ⟨s0, s1⟩
              go_simp
              with_reducible rfl
            rotate_left
            · simp only [Act.put, List.setIfInBounds_toArray, List.set_cons_zero, List.set_cons_succ, i64_w, i32_w]
              rfl
            refine take_ (i := 5) (N := some 30) (v := ?_) (a' := ?_) #[true, true, true, false, true, true, false] rfl rfl (by kernel_rfl) (fun _ _ _ h => h) (Or.inl ⟨by rfl, ?_⟩) hHeld ?_ ?_
            rotate_left
            · rintro w' ⟨s0, s1⟩
              go_simp
              with_reducible rfl
            rotate_left
            · simp only [Act.put, List.setIfInBounds_toArray, List.set_cons_zero, List.set_cons_succ, i64_w, i32_w]
              rfl
            refine one_ (i := 3) (N := some 28) #[true, true, true, true, true, true, false] rfl rfl (by kernel_rfl) (by decide) (fun K hK => ?_)
            refine goes_ Try.func20 (by kernel_rfl) rfl #[.slice A0 l0.length c0, .string X.f0] (by rfl) rfl rfl (by simp only [List.map_toArray, List.map_cons, List.map_nil]; rfl) ?_
            refine hcall.mono ?_
            rintro e w8 ⟨rfl, hd7⟩
            have hb7 : Below w7.heap.size w7 w8 := match_Set_Apply.drawn hd7
            refine ⟨_, rfl, ?_⟩
            refine hK.out _ _ ⟨pw_cell_below hb7 hHeld.1, pw_cell_below hb7 hHeld.2⟩ (fun hHeld => ?_)
            clear hK K
            refine norm_ (a' := ?_) ?_ ?_
            rotate_left
            · show Act.put _ (some 28) _ = _
              simp only [Act.put, List.setIfInBounds_toArray, List.set_cons_zero, List.set_cons_succ, i64_w, i32_w]
              rfl
            refine pure_ (i := 6) (N := some 31) (v := ?_) (a' := ?_) #[true, true, true, true, true, true, true] rfl rfl (by kernel_rfl) (fun _ _ _ h => h) (Or.inl ⟨by rfl, ?_⟩) ?_ ?_
            rotate_left
            · intro w'
              go_simp
              with_reducible rfl
            rotate_left
            · simp only [Act.put, List.setIfInBounds_toArray, List.set_cons_zero, List.set_cons_succ, i64_w, i32_w]
              rfl
            refine done_ (by kernel_rfl) ?_
            have HB8 := Aside0.mk (HBd.out.trans (match_Set_Apply.drawn hd7))
            clear hcall hd7 hb7 HBd HXd
            go_wp2_with fail
            go_roundg g1
            case measure => omega
            case rel => exact ⟨i + 1, by simp, by have := HJ.out; omega, HJ.out.2.2, ⟨by have := HQ.out; simpa using this⟩, HB8⟩
      · have e1 : decide ((i : Int) < (l1.length : Int)) = false := decide_eq_false (by omega)
        have e2 : ((i : Int) < (l1.length : Int)) = False := eq_false (by omega)
        have e3 : decide (i < l1.length) = false := decide_eq_false hlt
        have HP2 : Aside0 (Mp.preF l0 (l1.map fun x => (x.f0, x.f1)) 0 = none) := ⟨by
          have := HP.out
          rw [List.drop_of_length_le (by omega)] at this
          exact this.symm⟩
        have hclone := In_.clone_calls wr A0 c0 l0 (by have := HN.out; omega) (Kd.C_below HC0.out HB.out)
        clear hlt hi hil HP
        go_wp2_with fail
        refine hclone.mono ?_
        rintro e w2 ⟨v2, rfl, ho2, hb2⟩
        have HO2 := Aside0.mk (Kd.R_lower ho2 HB.out.size)
        have HB2 := Aside0.mk (HB.out.trans (hb2.mono HB.out.size))
        clear hclone ho2 hb2
        go_wp2_with fail
        go_loopg [11, 38] (l2.length + 1) (fun gg s11 s38 wr => ∃ (j : Nat) (t : List ByteArray), s38 = .int .i64 j ∧ j + gg = l2.length + 1 ∧ j ≤ l2.length ∧ Aside0 (Kd.string.R 9 wr w.heap.size (fun _ => True) s11 t) ∧ Aside0 (Mp.Srt Mq.blt t) ∧ Aside0 (t.length ≤ l0.length + j) ∧ Aside0 (Mp.apC Mq.blt t ((l2.drop j).map fun x => (x.f0, x.f1)) j = Mp.apC Mq.blt l0 (l2.map fun x => (x.f0, x.f1)) 0) ∧ Aside0 (Below w.heap.size w wr))
        case atStart => exact ⟨0, l0, rfl, by omega, Nat.zero_le _, HO2, HS, ⟨Nat.le_refl _⟩, ⟨rfl⟩, HB2⟩
        case round =>
          clear HO2 HB2 HB
          obtain ⟨j, t, rfl, hj, hjl, HO, HT, HTl, HA, HB⟩ := hrel
          rename World => wr
          cases gk with
          | zero => omega
          | succ g2 =>
            by_cases hlt : j < l2.length
            · have e1 : decide ((j : Int) < (l2.length : Int)) = true := decide_eq_true (by omega)
              have e2 : ((j : Int) < (l2.length : Int)) = True := eq_true (by omega)
              have e3 : decide (j < l2.length) = true := decide_eq_true hlt
              have e4 : (0 ≤ (j : Int)) = True := eq_true (by omega)
              have e5 : decide ((j : Int) < 0) = false := decide_eq_false (by omega)
              have e6 : ((j : Int) < 0) = False := eq_false (by omega)
              obtain ⟨Y, hY⟩ : ∃ Y, rd_T40 l2 (j : Int) = Y := ⟨_, rfl⟩
              have hyj : l2[j] = Y := by rw [← hY]; unfold rd_T40; rw [Int.toNat_natCast, List.getD_eq_getElem?_getD, List.getElem?_eq_getElem hlt]; rfl
              obtain ⟨ae, rfl, d0, d1⟩ := at_T40 HC2.out (j : Int) (by omega) (by omega)
              rw [hY, Int.toNat_natCast] at d0 d1
              replace d0 := pw_cell_below HB.out d0
              replace d1 := pw_cell_below HB.out d1
              obtain ⟨f1, hf1⟩ : ∃ f1, Y.f1 = f1 := ⟨_, rfl⟩
              rw [hf1] at d1
              have HQ : Aside0 ((if decide (Y.f0 ∈ t) = f1 then Except.error (f1, j) else Mp.apC Mq.blt (if f1 then Mp.ins Mq.blt t Y.f0 else Mp.del t Y.f0) ((l2.drop (j + 1)).map fun x => (x.f0, x.f1)) (j + 1)) = Mp.apC Mq.blt l0 (l2.map fun x => (x.f0, x.f1)) 0) := ⟨by
                have := HA.out
                rw [List.drop_eq_getElem_cons hlt, hyj, List.map_cons, Mp.apC, hf1] at this
                exact this⟩
              have hw : IntKind.i64.wrap ((j : Int) + 1) = ((j + 1 : Nat) : Int) := by have := HN.out; rw [IntKind.wrap_i64]; omega
              have hw2 : IntKind.i64.wrap ((l1.length : Int) + (j : Int)) = ((l1.length + j : Nat) : Int) := by have := HN.out; have := HM1.out; have := HL47.out; rw [IntKind.wrap_i64]; omega
              have HJ := Aside0.mk (And.intro hj (And.intro hjl hlt))
              clear hY hyj hj hjl hlt HA hf1
              cases f1 with
              | true =>
                go_upto_region 11 with (fail)
                obtain ⟨wz, ez, hz, bz⟩ : ∃ wz, wr.alloc (.cells #[.string Y.f0, .bool true] 40) = wz ∧ wz.heap[wr.heap.size]? = some (.cells #[.string Y.f0, .bool true] 40 (0, 0)) ∧ Below wr.heap.size wr wz := ⟨_, rfl, (Go.MapKept.heap_alloc wr _).1, (Below.refl _ _).alloc (Nat.le_refl _) _⟩
                rw [ez]
                obtain ⟨q, hq⟩ : ∃ q, wr.heap.size = q := ⟨_, rfl⟩
                have HBz : Aside0 (Below w.heap.size w wz) := ⟨HB.out.trans (bz.mono HB.out.size)⟩
                have hcall := match_Set_Apply.add wz w.heap.size _ t Y.f0 HT.out (by have := HTl.out; have := HN.out; have := HJ.out.2.2; omega) (Kd.R_below HO.out bz) HBz.out.size
                rw [hq] at hz ⊢
                have x0 := blk_cell hz 0
                have x1 := blk_cell hz 1
                clear ez hz bz hq HB HO d0 d1
                by_cases hm : Y.f0 ∈ t
                · have hd : decide (Y.f0 ∈ t) = true := decide_eq_true hm
                  have hq := HQ.out
                  rw [if_pos (by rw [hd])] at hq
                  have HR2 : Aside0 (r1 = [] ∧ r2 = 32 ∧ r3 = ((l1.length + j : Nat) : Int)) := ⟨by
                    have hr := HR.out
                    unfold Mq.applyB at hr
                    rw [HP2.out, ← hq] at hr
                    simp only [Prod.mk.injEq, List.length_map] at hr
                    exact ⟨hr.1.symm, by rw [← hr.2.1]; rfl, hr.2.2.symm⟩⟩
                  rw [hd] at hcall
                  clear hq hd hm HQ
                  go_wp2_with fail
                  refine hcall.mono ?_
                  rintro e w3 ⟨v3, rfl, hb3, hr3⟩
                  have HB3 := Aside0.mk (HBz.out.trans hb3)
                  clear hcall hb3 hr3
                  go_wp2_with fail
                  (try rw [Exit.noGoto_ret])
                  go_ret3
                  obtain ⟨rfl, rfl, rfl⟩ := HR2.out
                  exact ⟨_, rfl, Kd.R_nil _ _ _ _ _, HB3.out⟩
                · have hd : decide (Y.f0 ∈ t) = false := decide_eq_false hm
                  have hq := HQ.out
                  rw [if_neg (by rw [hd]; decide)] at hq
                  have HQ2 := Aside0.mk hq
                  have HM := Aside0.mk hm
                  rw [hd] at hcall
                  clear hq hd hm HQ
                  go_wp2_with fail
                  refine hcall.mono ?_
                  rintro e w3 ⟨v3, rfl, hb3, hr3⟩
                  have HB3 := Aside0.mk (HBz.out.trans hb3)
                  have HO3 := Aside0.mk (hr3 HM.out)
                  clear hcall hb3 hr3
                  go_wp2_with fail
                  go_roundg g2
                  case measure => omega
                  case rel => exact ⟨j + 1, _, by simp, by have := HJ.out; omega, HJ.out.2.2, HO3, ⟨Mp.srt_ins Mr.blt_TO HT.out HM.out⟩, ⟨by have := HTl.out; rw [Mp.ins_len]; omega⟩, ⟨by have := HQ2.out; simpa using this⟩, HB3⟩
              | false =>
                go_upto_region 11 with (fail)
                obtain ⟨wz, ez, hz, bz⟩ : ∃ wz, wr.alloc (.cells #[.string Y.f0, .bool false] 40) = wz ∧ wz.heap[wr.heap.size]? = some (.cells #[.string Y.f0, .bool false] 40 (0, 0)) ∧ Below wr.heap.size wr wz := ⟨_, rfl, (Go.MapKept.heap_alloc wr _).1, (Below.refl _ _).alloc (Nat.le_refl _) _⟩
                rw [ez]
                obtain ⟨q, hq⟩ : ∃ q, wr.heap.size = q := ⟨_, rfl⟩
                have HBz : Aside0 (Below w.heap.size w wz) := ⟨HB.out.trans (bz.mono HB.out.size)⟩
                have hcall := match_Set_Apply.drop wz w.heap.size _ t Y.f0 HT.out (by have := HTl.out; have := HN.out; have := HJ.out.2.2; omega) (Kd.R_below HO.out bz) HBz.out.size
                rw [hq] at hz ⊢
                have x0 := blk_cell hz 0
                have x1 := blk_cell hz 1
                clear ez hz bz hq HB HO d0 d1
                by_cases hm : Y.f0 ∈ t
                · have hd : decide (Y.f0 ∈ t) = true := decide_eq_true hm
                  have hq := HQ.out
                  rw [if_neg (by rw [hd]; decide)] at hq
                  have HQ2 := Aside0.mk hq
                  have HM := Aside0.mk hm
                  rw [hd] at hcall
                  clear hq hd hm HQ
                  go_wp2_with fail
                  refine hcall.mono ?_
                  rintro e w3 ⟨v3, rfl, hb3, hr3⟩
                  have HB3 := Aside0.mk (HBz.out.trans hb3)
                  have HO3 := Aside0.mk (hr3 HM.out)
                  clear hcall hb3 hr3
                  go_wp2_with fail
                  go_roundg g2
                  case measure => omega
                  case rel => exact ⟨j + 1, _, by simp, by have := HJ.out; omega, HJ.out.2.2, HO3, ⟨Mp.srt_del _ HT.out⟩, ⟨by have := HTl.out; have := List.length_filter_le (fun x => !decide (x = Y.f0)) t; unfold Mp.del; omega⟩, ⟨by have := HQ2.out; simpa using this⟩, HB3⟩
                · have hd : decide (Y.f0 ∈ t) = false := decide_eq_false hm
                  have hq := HQ.out
                  rw [if_pos (by rw [hd])] at hq
                  have HR2 : Aside0 (r1 = [] ∧ r2 = 41 ∧ r3 = ((l1.length + j : Nat) : Int)) := ⟨by
                    have hr := HR.out
                    unfold Mq.applyB at hr
                    rw [HP2.out, ← hq] at hr
                    simp only [Prod.mk.injEq, List.length_map] at hr
                    exact ⟨hr.1.symm, by rw [← hr.2.1]; rfl, hr.2.2.symm⟩⟩
                  rw [hd] at hcall
                  clear hq hd hm HQ
                  go_wp2_with fail
                  refine hcall.mono ?_
                  rintro e w3 ⟨v3, rfl, hb3, hr3⟩
                  have HB3 := Aside0.mk (HBz.out.trans hb3)
                  clear hcall hb3 hr3
                  go_wp2_with fail
                  (try rw [Exit.noGoto_ret])
                  go_ret3
                  obtain ⟨rfl, rfl, rfl⟩ := HR2.out
                  exact ⟨_, rfl, Kd.R_nil _ _ _ _ _, HB3.out⟩
            · have e1 : decide ((j : Int) < (l2.length : Int)) = false := decide_eq_false (by omega)
              have e2 : ((j : Int) < (l2.length : Int)) = False := eq_false (by omega)
              have e3 : decide (j < l2.length) = false := decide_eq_false hlt
              have HR2 : Aside0 (r1 = t ∧ r2 = 0 ∧ r3 = 0) := ⟨by
                have ha := HA.out
                rw [List.drop_of_length_le (by omega), List.map_nil, Mp.apC] at ha
                have hr := HR.out
                unfold Mq.applyB at hr
                rw [HP2.out, ← ha] at hr
                simp only [Prod.mk.injEq] at hr
                exact ⟨hr.1.symm, hr.2.1.symm, hr.2.2.symm⟩⟩
              clear hlt hj hjl HA
              go_wp2_with fail
              go_ret3
              obtain ⟨rfl, rfl, rfl⟩ := HR2.out
              exact ⟨_, rfl, HO.out, HB.out⟩

end
end Go.Proofs.Ythpcplpannbipaa.Y
