-- Written by a program of this session (wip/tools/drive.py) for this seat, partly by the kit's print.py; some functions by hand.
import Derived.Test.YtkgnhghaiopgcaaDoorX0
import Derived.Test.YtkgnhghaiopgcaaDoorX2
import Derived.Test.YtkgnhghaiopgcaaDoorX3
import Derived.Test.YtkgnhghaiopgcaaDoorX4
import Derived.Test.YtkgnhghaiopgcaaDoorAid
import Derived.Deep.DrawnRows
import Derived.Lib.Strings
import Derived.Test.YtkgnhghaiopgcaaDoorMap
import Derived.Lib.SmallJoins
import Derived.Test.YtkgnhghaiopgcaaDoorAid
namespace Go.Proofs.YtkgnhghaiopgcaaDoor.X
open Go.RowKit Go.Proofs.YtkgnhghaiopgcaaDoorW.PrintWords Go.Proofs.YtkgnhghaiopgcaaDoorW.PrintLast
set_option linter.unusedVariables false
set_option linter.unusedSimpArgs false

section
-- @GIVEN@ 25
/-! ### token_All: function 25 -/
-- GIVEN doorman/token.All rounds=0 making=1 helpers=token_broken,strings_Cut,reader_put,reader_sign,reader_note,reader_word
--import Derived.Test.YtkgnhghaiopgcaaDoorAid
--import Derived.Deep.DrawnRows
--import Derived.Lib.Strings
--import Derived.Test.YtkgnhghaiopgcaaDoorMap
--import Derived.Lib.SmallJoins
open Go.Proofs.YtkgnhghaiopgcaaDoor.Aid Go.Proofs.YtkgnhghaiopgcaaDoor.Maps
attribute [local go_sem ↓] Go.wp_at_zero Go.wp_at_succ

def isSign (c : Nat) : Bool := c = 123 || c = 125 || c = 40 || c = 41 || c = 58 || c = 44 || c = 59 || c = 124 || c = 38 || c = 45 || c = 46 || c = 35

def token_All.l0 (s : ByteArray) : Nat → Nat → List S32 → Option (List S32 × Int × Int)
  | 0, _, _ => none
  | k + 1, pos, l => if h : pos < s.size then
      (if (s[pos]'h).toNat = 32 ∨ (s[pos]'h).toNat = 9 ∨ (s[pos]'h).toNat = 10 then token_All.l0 s k (pos + 1) l
       else if (s[pos]'h).toNat = 47 then
        (if (s.data.toList.drop pos).take 2 = [47, 47] then token_All.l0 s k (pos + noteLen (s.data.toList.drop pos)) l else some ([], 30, (pos : Int)))
       else if isSign (s[pos]'h).toNat = true then token_All.l0 s k (pos + 1) (l ++ [⟨2, s.extract pos (pos + 1), pos⟩])
       else (token_word.l0 (s.extract pos s.size) (s.size + 1) 0 0).bind fun n =>
        if n = 0 then some ([], 30, (pos : Int))
        else if 0 < n ∧ pos + n ≤ s.size then (glyph_Name.f (s.extract pos (pos + n.toNat))).bind fun v =>
          if v = true then token_All.l0 s k (pos + n.toNat) (l ++ [⟨1, s.extract pos (pos + n.toNat), pos⟩]) else some ([], 31, (pos : Int))
        else none)
    else some (l ++ [⟨3, s.extract pos pos, pos⟩], 0, 0)

def token_All.f (a0 : ByteArray) : Option (List S32 × Int × Int) :=
  if (a0.size : Int) > 2048 then some ([], 13, 0)
  else (token_broken.f a0).bind fun b => if b ≥ 0 then some ([], 11, b) else token_All.l0 a0 (a0.size + 1) 0 []

/-- A method's value. -/
abbrev clo (f : Nat) (b : Nat) : Value := .func (.func f) #[.pointer (some ⟨b, 0, none⟩)] #[]
def doKeys : List Int := [32, 9, 10, 47, 123, 125, 40, 41, 58, 44, 59, 124, 38, 45, 46, 35]
def doFn (c : Int) : Nat := if c = 32 ∨ c = 9 ∨ c = 10 then 54 else if c = 47 then 55 else 56
def mapL (b j : Nat) : List (Int × Value) := (doKeys.take (4 + j)).map fun c => (c, clo (doFn c) b)
def signRow : Array Value := #[.int .u8 123, .int .u8 125, .int .u8 40, .int .u8 41, .int .u8 58, .int .u8 44, .int .u8 59, .int .u8 124, .int .u8 38, .int .u8 45, .int .u8 46, .int .u8 35]

theorem mapL_step (b j : Nat) (hj : j < 12) : ∃ c, signRow[j]? = some (.int .u8 c) ∧ mapL b (j + 1) = mapL b j ++ [(c, clo 56 b)] ∧ ∀ p ∈ mapL b j, ik .u8 p.1 ≠ ik .u8 c := by
  have hk : ∀ c : Int, (∀ q ∈ doKeys.take (4 + j), q ≠ c) → ∀ p ∈ mapL b j, ik .u8 p.1 ≠ ik .u8 c := by
    intro c h p hp
    obtain ⟨q, hq, rfl⟩ := List.mem_map.1 hp
    intro e
    exact h q hq (ik_inj _ _ _ e)
  have h : j = 0 ∨ j = 1 ∨ j = 2 ∨ j = 3 ∨ j = 4 ∨ j = 5 ∨ j = 6 ∨ j = 7 ∨ j = 8 ∨ j = 9 ∨ j = 10 ∨ j = 11 := by omega
  rcases h with rfl | rfl | rfl | rfl | rfl | rfl | rfl | rfl | rfl | rfl | rfl | rfl
  all_goals exact ⟨_, rfl, rfl, hk _ (by decide)⟩

theorem But_below {r base : Nat} {w w' : World} (h : But r w w') (hb : base ≤ r) : Below base w w' :=
  ⟨h.os, h.tape, h.output, Nat.le_of_eq h.size.symm, fun k hk => h.block k (by omega)⟩

theorem R_setB {w : World} {base b : Nat} {v : Value} {l : List S32} (h : k32.R 32 w base (fun _ => True) v l) (hb : b < base) (j : Nat) (x : Value) : k32.R 32 (w.setCell ⟨b, j, none⟩ x) base (fun _ => True) v l :=
  Kd.R_mono (Kd.R_far (p := ⟨b, j, none⟩) (Kd.R_mono (Kd.R_bound h) (fun k hk => (⟨trivial, fun e => by subst e; exact Nat.not_lt.2 hk.2.1 hb⟩ : True ∧ k ≠ b))) (fun _ hk => hk.2) x) (fun _ _ => trivial)

theorem Fr.below {b base B : Nat} {w w' : World} (h : Fr b base w w') (h1 : B ≤ b) (h2 : B ≤ base) : Below B w w' :=
  ⟨h.os, h.tape, h.output, h.size, fun k hk => h.block k (by omega) (by omega)⟩

theorem mapL_nodup (b : Nat) : ((mapL b 12).map (·.1)).Nodup := by
  have : (mapL b 12).map (·.1) = doKeys := rfl
  rw [this]; decide

theorem mapL_mem (b : Nat) (c : Int) (h : c ∈ doKeys) : (c, clo (doFn c) b) ∈ mapL b 12 := List.mem_map.2 ⟨c, h, rfl⟩
theorem mapL_not (b : Nat) (c : Int) (h : ¬ c ∈ doKeys) : ∀ p ∈ mapL b 12, ik .u8 p.1 ≠ ik .u8 c := by
  intro p hp e
  obtain ⟨q, hq, rfl⟩ := List.mem_map.1 hp
  have := ik_inj _ _ _ e
  exact h (this ▸ hq)

set_option maxHeartbeats 4000000 in
set_option maxRecDepth 100000 in
theorem token_All.calls (a0 : ByteArray) (r1 : List S32) (r2 : Int) (r3 : Int) (w : World) (h : token_All.f a0 = some (r1, r2, r3)) :
    Calls Tryd.prog 25 #[.string a0] w fun e w' => ∃ v0_ : Value, e = .returned (.tuple #[v0_, .int .i64 r2, .int .i64 r3]) ∧ Kd.R k32 32 w' w.heap.size (fun _ => True) v0_ r1 ∧ Below w.heap.size w w' := by
  unfold token_All.f at h
  by_cases hlen : (a0.size : Int) > 2048
  · rw [if_pos hlen] at h
    simp only [Option.some.injEq, Prod.mk.injEq] at h
    obtain ⟨rfl, rfl, rfl⟩ := h
    have hl1 : decide ((2048 : Int) < (a0.size : Int)) = true := decide_eq_true hlen
    go_enter Tryd.func25, Tryd.ntmps25
    go_wp2
    go_ret3
    exact ⟨_, rfl, Kd.R_nil _ _ _ _ _, Below.refl _ _⟩
  rw [if_neg hlen] at h
  obtain ⟨bk, hbk, h⟩ := Option.bind_eq_some_iff.mp h
  have hl1 : decide ((2048 : Int) < (a0.size : Int)) = false := decide_eq_false hlen
  have hsz : a0.size ≤ 4096 := by omega
  have HB := Aside0.mk hbk
  clear hbk
  by_cases hb0 : bk ≥ 0
  · rw [if_pos hb0] at h
    simp only [Option.some.injEq, Prod.mk.injEq] at h
    obtain ⟨rfl, rfl, rfl⟩ := h
    go_enter Tryd.func25, Tryd.ntmps25
    go_wp2_with fail
    refine (token_broken.calls _ _ _ hsz HB.out).mono ?_
    rintro e w1 ⟨rfl, hb1⟩
    have hd : decide (0 ≤ bk) = true := decide_eq_true hb0
    go_wp2
    go_ret3
    exact ⟨_, rfl, Kd.R_nil _ _ _ _ _, hb1⟩
  rw [if_neg hb0] at h
  have H' := Aside0.mk h
  have hd : decide (0 ≤ bk) = false := decide_eq_false hb0
  clear h
  go_enter Tryd.func25, Tryd.ntmps25
  go_wp2_with fail
  refine (token_broken.calls _ _ _ hsz HB.out).mono ?_
  rintro e w1 ⟨rfl, hb1⟩
  clear hl1
  have hmk : ∀ (W : World), (Instr.makeMap 91 none).run Tryd.prog W = .ok (.map (some W.heap.size)) (W.alloc (.map #[] 0)) := fun _ => rfl
  have m0 : MapIs (ik .u8) ((w1.alloc (.cells #[.string a0, .int .i64 0, .slice none 0 0, .int .i64 0] 90)).alloc (.map #[] 0)) (w1.heap.size + 1) [] := by
    have := MapIs.new (ik .u8) (w1.alloc (.cells #[.string a0, .int .i64 0, .slice none 0 0, .int .i64 0] 90))
    rwa [show (w1.alloc (.cells #[.string a0, .int .i64 0, .slice none 0 0, .int .i64 0] 90)).heap.size = w1.heap.size + 1 by simp] at this
  have hu1 : Tryd.prog.underlying 91 = some (.map 5 1) := by kernel_rfl
  have hu2 : Tryd.prog.underlying 5 = some (.int .u8) := by kernel_rfl
  obtain ⟨m1, e1, M1, F1⟩ := run_update_new (P := Tryd.prog) (ik_key .u8) m0 hu1 hu2 32 (clo 54 w1.heap.size) (by simp)
  obtain ⟨m2, e2, M2, F2⟩ := run_update_new (P := Tryd.prog) (ik_key .u8) M1 hu1 hu2 9 (clo 54 w1.heap.size) (by simp)
  obtain ⟨m3, e3, M3, F3⟩ := run_update_new (P := Tryd.prog) (ik_key .u8) M2 hu1 hu2 10 (clo 54 w1.heap.size) (by simp)
  obtain ⟨m4, e4, M4, F4⟩ := run_update_new (P := Tryd.prog) (ik_key .u8) M3 hu1 hu2 47 (clo 55 w1.heap.size) (by simp)
  simp only [ik, clo] at e1 e2 e3 e4
  have hu3 : Tryd.prog.underlying 36 = some (.slice 5) := by kernel_rfl
  have hs4 : m4.heap.size = w1.heap.size + 2 := by rw [F4.size, F3.size, F2.size, F1.size]; simp
  have hz0 : ∀ W : World, (zeroValue 1).run Tryd.prog W = .ok (.nilFunc) W := by
    intro W
    rfl
  have hcv := Go.Joins.run_convert_bytes_const_at (P := Tryd.prog) m4 36 5 signRow 12 12 (w1.heap.size + 2) hs4.symm hu3 hu2
  simp only [signRow] at hcv
  have hR4 : Rdr m4 w1.heap.size a0 0 (.slice none 0 0) 0 := by
    unfold Rdr
    rw [F4.block _ (by omega), F3.block _ (by omega), F2.block _ (by omega), F1.block _ (by omega), Below.heap_alloc _ _ _ (by simp)]
    exact (Go.MapKept.heap_alloc w1 _).1
  have hB4 : Below w.heap.size w m4 := by
    have hz := hb1.size
    refine Below.trans ?_ (But_below F4 (by omega))
    refine Below.trans ?_ (But_below F3 (by omega))
    refine Below.trans ?_ (But_below F2 (by omega))
    refine Below.trans ?_ (But_below F1 (by omega))
    exact (hb1.alloc (by omega) _).alloc (by simp; omega) _
  go_wp2_with fail
  obtain ⟨w5, hw5⟩ : ∃ w5, w5 = m4.alloc (.cells signRow 5 (12, 13)) := ⟨_, rfl⟩
  have hR5 : Rdr w5 w1.heap.size a0 0 (.slice none 0 0) 0 := by rw [hw5]; exact hR4.alloc _
  have hB5 : Below w.heap.size w w5 := by rw [hw5]; exact hB4.alloc (by have := hb1.size; omega) _
  have hs5 : w5.heap.size = w1.heap.size + 3 := by rw [hw5]; simp; omega
  have hM5 : MapIs (ik .u8) w5 (w1.heap.size + 1) (mapL w1.heap.size 0) := by
    rw [hw5]
    exact M4.of_block (Below.heap_alloc _ _ _ (by omega))
  have hC5 : w5.heap[w1.heap.size + 2]? = some (.cells signRow 5 (12, 13)) := by rw [hw5, ← hs4]; exact (Go.MapKept.heap_alloc m4 _).1
  have hRef : But (w1.heap.size + 1) w5 w5 := ⟨rfl, rfl, rfl, rfl, fun _ _ => rfl⟩
  simp only [signRow] at hw5
  rw [← hw5]
  have hwb : w.heap.size ≤ w1.heap.size := hb1.size
  clear e1 e2 e3 e4 M1 M2 M3 M4 F1 F2 F3 F4 m0 hcv hw5 hmk hR4 hB4 hb1
  clear hs4
  generalize w1.heap.size = b at hwb hR5 hs5 hM5 hRef hC5 ⊢
  go_loopg [9, 36] 12 (fun kq v9 v36 wr => ∃ (j : Nat), v36 = .int .i64 j ∧ j + kq = 12 ∧ MapIs (ik .u8) wr (b + 1) (mapL b j) ∧ But (b + 1) w5 wr)
  case atStart => exact ⟨0, rfl, rfl, hM5, hRef⟩
  case round =>
    obtain ⟨j, rfl, hj, hM, hBt⟩ := hrel
    cases gk with
    | succ k1 =>
      have hl : decide ((j : Int) < 12) = true := decide_eq_true (by omega)
      have hl2 : (j : Int) < 12 := by omega
      have hl3 : (0 : Int) ≤ (j : Int) := by omega
      have hwj : IntKind.i64.wrap ((j : Int) + 1) = (j : Int) + 1 := by rw [IntKind.wrap_i64]; omega
      obtain ⟨c, hc, hL, hno⟩ := mapL_step b j (by omega)
      have cj : wr.cell? ⟨b + 2, j, none⟩ = some (.int .u8 c) := (Go.Joins.cell_of_block ((hBt.block _ (by omega)).trans hC5) j).trans hc
      obtain ⟨w6, e6, M6, F6⟩ := run_update_new (P := Tryd.prog) (ik_key .u8) hM hu1 hu2 c (clo 56 b) hno
      simp only [ik, clo] at e6
      rw [← hL] at M6
      have hB6 : But (b + 1) w5 w6 := ⟨F6.os.trans hBt.os, F6.tape.trans hBt.tape, F6.output.trans hBt.output, F6.size.trans hBt.size, fun k hk => (F6.block k hk).trans (hBt.block k hk)⟩
      clear hM hBt hL hno hc F6
      go_wp2
      go_roundg k1
      case measure => omega
      case rel => exact ⟨j + 1, by push_cast; rfl, by omega, M6, hB6⟩
    | zero =>
      obtain rfl : j = 12 := by omega
      have hRm : Rdr wr b a0 0 (.slice none 0 0) 0 := by
        unfold Rdr
        rw [hBt.block b (by omega)]; exact hR5
      have hBm : Below w.heap.size w wr := hB5.trans (But_below hBt (by omega))
      have hsm : wr.heap.size = b + 3 := hBt.size.trans hs5
      clear hBt hB5 hR5 hM5 hC5 hs5 hRef
      go_wp2_with fail
      go_loopg [10, 11] (a0.size + 1) (fun kq v10 v11 wq => ∃ (pos : Nat) (l : List S32) (v1 : Value), Rdr wq b a0 pos v1 0 ∧ k32.R 32 wq (b + 3) (fun _ => True) v1 l ∧ MapIs (ik .u8) wq (b + 1) (mapL b 12) ∧ Below w.heap.size w wq ∧ b + 3 ≤ wq.heap.size ∧ l.length ≤ pos ∧ pos ≤ a0.size ∧ Aside0 (token_All.l0 a0 kq pos l = some (r1, r2, r3)))
      case atStart => exact ⟨0, [], _, hRm, Kd.R_nil _ _ _ _ _, hM, hBm, by omega, Nat.le_refl _, by omega, H'⟩
      case round =>
        clear hRm hM hBm hsm
        obtain ⟨pos, l, v1, hR, hO, hM, hBm, hsm, hll, hpl, HA⟩ := hrel
        rename World => wq
        cases gk with
        | zero => exact absurd HA.out (by simp [token_All.l0])
        | succ k1 =>
          have H := HA.out
          clear HA
          simp only [token_All.l0] at H
          have c1 := hR.cell1
          have HRq := Aside0.mk hR
          have HOq := Aside0.mk hO
          clear hR hO
          by_cases hp : pos < a0.size
          · rw [dif_pos hp] at H
            have hl : decide ((pos : Int) < (a0.size : Int)) = true := decide_eq_true (by omega)
            have p1 : (0 : Int) ≤ (pos : Int) := by omega
            have p2 : (pos : Int) < (a0.size : Int) := by omega
            by_cases hc : (a0[pos]'hp).toNat = 32 ∨ (a0[pos]'hp).toNat = 9 ∨ (a0[pos]'hp).toNat = 10
            · rw [if_pos hc] at H
              have HN := Aside0.mk H
              have hk : ((a0[pos]'hp).toNat : Int) ∈ doKeys := by simp only [doKeys, List.mem_cons, List.not_mem_nil, or_false]; omega
              have hfn : doFn ((a0[pos]'hp).toNat : Int) = 54 := by unfold doFn; rw [if_pos (by omega)]
              have hlk := run_lookup_hit (P := Tryd.prog) (ik_key .u8) (ik_inj .u8) hM hu1 hu2 ((a0[pos]'hp).toNat : Int) _ (mapL_mem b _ hk) (mapL_nodup b) true
              rw [hfn] at hlk
              simp only [ik, clo, if_true] at hlk
              clear hk hfn
              clear hc H
              go_wp2_with fail
              refine (reader_blank b a0 pos 0 v1 _ HRq.out).mono ?_
              rintro e w7 ⟨rfl, hw7⟩
              have hwp : wrap64 ((pos : Int) + 1) = ((pos + 1 : Nat) : Int) := by rw [← i64_w, IntKind.wrap_i64]; omega
              rw [hwp] at hw7
              have HRn := Aside0.mk (show Rdr w7 b a0 (pos + 1 : Nat) v1 0 from by rw [hw7]; exact HRq.out.set1 _)
              have HOn := Aside0.mk (show k32.R 32 w7 (b + 3) (fun _ => True) v1 l from by rw [hw7]; exact R_setB HOq.out (by omega) _ _)
              have HFn := Aside0.mk (show Fr b (b + 3) wq w7 from by rw [hw7]; exact (Fr.refl _ _ _).set _ _)
              have d3 := HRn.out.cell3
              clear hw7 hwp c1 HRq HOq hlk
              go_wp2
              go_roundg k1
              case measure => omega
              case rel => exact ⟨pos + 1, l, v1, HRn.out, HOn.out, hM.of_block (HFn.out.block _ (by omega) (by omega)), hBm.trans (HFn.out.below hwb (by omega)), Nat.le_trans hsm HFn.out.size, (by first | omega | (simp only [List.length_append, List.length_singleton]; omega)), (by omega), HN⟩
            rw [if_neg hc] at H
            by_cases hn : (a0[pos]'hp).toNat = 47
            · rw [if_pos hn] at H
              by_cases hq : (a0.data.toList.drop pos).take 2 = [47, 47]
              · rw [if_pos hq] at H
                have HN := Aside0.mk H
                have hk : ((a0[pos]'hp).toNat : Int) ∈ doKeys := by simp only [doKeys, List.mem_cons, List.not_mem_nil, or_false]; omega
                have hfn : doFn ((a0[pos]'hp).toNat : Int) = 55 := by unfold doFn; rw [if_neg (by omega), if_pos (by omega)]
                have hlk := run_lookup_hit (P := Tryd.prog) (ik_key .u8) (ik_inj .u8) hM hu1 hu2 ((a0[pos]'hp).toNat : Int) _ (mapL_mem b _ hk) (mapL_nodup b) true
                rw [hfn] at hlk
                simp only [ik, clo, if_true] at hlk
                clear hk hfn
                have hnl : noteLen (a0.data.toList.drop pos) ≤ a0.size - pos := by
                  rw [noteLen_upto]
                  have := uptoByte_le 10 (a0.data.toList.drop pos)
                  rw [List.length_drop, Array.length_toList] at this; exact this
                have hq' := Aside0.mk hq
                clear hc hn H hq
                go_wp2_with fail
                refine (reader_note_yes b a0 pos 0 v1 _ HRq.out hpl hsz hq'.out).mono ?_
                rintro e w7 ⟨rfl, mm, hw7⟩
                have hcast : (pos : Int) + (noteLen (a0.data.toList.drop pos) : Nat) = ((pos + noteLen (a0.data.toList.drop pos) : Nat) : Int) := by push_cast; rfl
                rw [hcast] at hw7
                have HRn := Aside0.mk (show Rdr w7 b a0 (pos + noteLen (a0.data.toList.drop pos) : Nat) v1 0 from by rw [hw7]; exact (HRq.out.set1 _).drewN _)
                have HOn := Aside0.mk (show k32.R 32 w7 (b + 3) (fun _ => True) v1 l from by rw [hw7]; exact Kd.R_drewN (R_setB HOq.out (by omega) _ _) _)
                have HFn := Aside0.mk (show Fr b (b + 3) wq w7 from by rw [hw7]; exact ((Fr.refl _ _ _).set _ _).drewN _)
                have d3 := HRn.out.cell3
                clear hw7 hcast c1 HRq HOq hlk hq'
                go_wp2
                go_roundg k1
                case measure => omega
                case rel => exact ⟨pos + noteLen (a0.data.toList.drop pos), l, v1, HRn.out, HOn.out, hM.of_block (HFn.out.block _ (by omega) (by omega)), hBm.trans (HFn.out.below hwb (by omega)), Nat.le_trans hsm HFn.out.size, (by first | omega | (simp only [List.length_append, List.length_singleton]; omega)), (by omega), HN⟩
              · rw [if_neg hq] at H
                simp only [Option.some.injEq, Prod.mk.injEq] at H
                obtain ⟨rfl, rfl, rfl⟩ := H
                have hk : ((a0[pos]'hp).toNat : Int) ∈ doKeys := by simp only [doKeys, List.mem_cons, List.not_mem_nil, or_false]; omega
                have hfn : doFn ((a0[pos]'hp).toNat : Int) = 55 := by unfold doFn; rw [if_neg (by omega), if_pos (by omega)]
                have hlk := run_lookup_hit (P := Tryd.prog) (ik_key .u8) (ik_inj .u8) hM hu1 hu2 ((a0[pos]'hp).toNat : Int) _ (mapL_mem b _ hk) (mapL_nodup b) true
                rw [hfn] at hlk
                simp only [ik, clo, if_true] at hlk
                clear hk hfn
                have hq' := Aside0.mk hq
                clear hc hn hq
                go_wp2_with fail
                refine (reader_note_no b a0 pos 0 v1 _ HRq.out hpl hsz hq'.out).mono ?_
                rintro e w7 ⟨rfl, mm, hw7⟩
                have HRn := Aside0.mk (show Rdr w7 b a0 (pos : Nat) v1 30 from by rw [hw7]; exact (HRq.out.set3 _).drewN _)
                have HFn := Aside0.mk (show Fr b (b + 3) wq w7 from by rw [hw7]; exact ((Fr.refl _ _ _).set _ _).drewN _)
                have d3 := HRn.out.cell3
                have d1 := HRn.out.cell1
                clear hw7 c1 HRq HOq hlk hq'
                go_wp2_with fail
                go_quiet (fail)
                go_wp2
                go_ret3
                exact ⟨_, rfl, Kd.R_nil _ _ _ _ _, by simpa using pw_below_drewN (hBm.trans (HFn.out.below hwb (by omega))) _⟩
            rw [if_neg hn] at H
            by_cases hs : isSign (a0[pos]'hp).toNat = true
            · rw [if_pos hs] at H
              have HN := Aside0.mk H
              have hk : ((a0[pos]'hp).toNat : Int) ∈ doKeys := by simp only [isSign, Bool.or_eq_true, decide_eq_true_eq] at hs; simp only [doKeys, List.mem_cons, List.not_mem_nil, or_false]; omega
              have hfn : doFn ((a0[pos]'hp).toNat : Int) = 56 := by unfold doFn; rw [if_neg (by omega), if_neg (by omega)]
              have hlk := run_lookup_hit (P := Tryd.prog) (ik_key .u8) (ik_inj .u8) hM hu1 hu2 ((a0[pos]'hp).toNat : Int) _ (mapL_mem b _ hk) (mapL_nodup b) true
              rw [hfn] at hlk
              simp only [ik, clo, if_true] at hlk
              clear hk hfn
              clear hc hn hs H
              go_wp2_with fail
              refine (reader_sign b (b + 3) a0 pos 0 v1 l _ HRq.out HOq.out (by omega) hsm p1 (by omega) hsz (by omega)).mono ?_
              rintro e w7 ⟨v2, rfl, hR7, hO7, hF7⟩
              have hcast : (pos : Int) + 1 = ((pos + 1 : Nat) : Int) := by push_cast; rfl
              rw [hcast] at hR7 hO7
              have HRn := Aside0.mk (show Rdr w7 b a0 (pos + 1 : Nat) v2 0 from hR7)
              have HOn := Aside0.mk (show k32.R 32 w7 (b + 3) (fun _ => True) v2 (l ++ [⟨2, a0.extract pos (pos + 1), pos⟩]) from hO7)
              have HFn := Aside0.mk (show Fr b (b + 3) wq w7 from hF7)
              have d3 := HRn.out.cell3
              clear hcast hR7 hO7 hF7 c1 HRq HOq hlk
              go_wp2
              go_roundg k1
              case measure => omega
              case rel => exact ⟨pos + 1, (l ++ [⟨2, a0.extract pos (pos + 1), pos⟩]), v2, HRn.out, HOn.out, hM.of_block (HFn.out.block _ (by omega) (by omega)), hBm.trans (HFn.out.below hwb (by omega)), Nat.le_trans hsm HFn.out.size, (by first | omega | (simp only [List.length_append, List.length_singleton]; omega)), (by omega), HN⟩
            rw [if_neg hs] at H
            have hk : ¬ ((a0[pos]'hp).toNat : Int) ∈ doKeys := by
              intro h
              simp only [doKeys, List.mem_cons, List.not_mem_nil, or_false] at h
              simp only [isSign, Bool.or_eq_true, decide_eq_true_eq] at hs
              omega
            have hlk := run_lookup_miss (P := Tryd.prog) (ik_key .u8) hM hu1 hu2 ((a0[pos]'hp).toNat : Int) (hz0 wq) (mapL_not b _ hk) true
            simp only [ik, if_true] at hlk
            obtain ⟨n, hw, H⟩ := Option.bind_eq_some_iff.mp H
            clear hk hs hn hc
            by_cases hn0 : n = 0
            · rw [if_pos hn0] at H
              simp only [Option.some.injEq, Prod.mk.injEq] at H
              obtain ⟨rfl, rfl, rfl⟩ := H
              have hw' := Aside0.mk hw
              clear hw
              go_wp2_with fail
              refine (reader_word_none b (b + 3) a0 pos 0 n v1 _ HRq.out hpl hsz hw'.out hn0 (by omega) hsm).mono ?_
              rintro e w7 ⟨rfl, hR7, hF7⟩
              have HRn := Aside0.mk (show Rdr w7 b a0 (pos : Nat) v1 30 from hR7)
              have HFn := Aside0.mk (show Fr b (b + 3) wq w7 from hF7)
              have d3 := HRn.out.cell3
              have d1 := HRn.out.cell1
              clear hR7 hF7 c1 HRq HOq hlk hw'
              go_wp2_with fail
              go_quiet (fail)
              go_wp2
              go_ret3
              exact ⟨_, rfl, Kd.R_nil _ _ _ _ _, by simpa using pw_below_drewN (hBm.trans (HFn.out.below hwb (by omega))) _⟩
            rw [if_neg hn0] at H
            by_cases hnp : 0 < n ∧ (pos : Int) + n ≤ (a0.size : Int)
            · rw [if_pos hnp] at H
              obtain ⟨vn, hv, H⟩ := Option.bind_eq_some_iff.mp H
              have htn : ((pos : Int) + n).toNat = pos + n.toNat := by omega
              cases vn with
              | true =>
                rw [if_pos rfl] at H
                have HN := Aside0.mk H
                have hw' := Aside0.mk hw
                rw [← htn] at hv
                have hv' := Aside0.mk hv
                clear hw hv H
                obtain ⟨hn1, hn2⟩ := hnp
                go_wp2_with fail
                refine (reader_word_put b (b + 3) a0 pos 0 n v1 _ HRq.out hpl hsz hw'.out hn1 hn2 hv'.out (by omega) hsm l HOq.out (by omega)).mono ?_
                rintro e w7 ⟨v2, rfl, hR7, hO7, hF7⟩
                have hcast : (pos : Int) + n = ((pos + n.toNat : Nat) : Int) := by omega
                rw [htn] at hO7
                rw [hcast] at hR7
                have HRn := Aside0.mk (show Rdr w7 b a0 (pos + n.toNat : Nat) v2 0 from hR7)
                have HOn := Aside0.mk (show k32.R 32 w7 (b + 3) (fun _ => True) v2 (l ++ [⟨1, a0.extract pos (pos + n.toNat), pos⟩]) from hO7)
                have HFn := Aside0.mk (show Fr b (b + 3) wq w7 from hF7)
                have d3 := HRn.out.cell3
                clear hcast hR7 hO7 hF7 c1 HRq HOq hlk hw' hv' htn
                go_wp2
                go_roundg k1
                case measure => omega
                case rel => exact ⟨pos + n.toNat, (l ++ [⟨1, a0.extract pos (pos + n.toNat), pos⟩]), v2, HRn.out, HOn.out, hM.of_block (HFn.out.block _ (by omega) (by omega)), hBm.trans (HFn.out.below hwb (by omega)), Nat.le_trans hsm HFn.out.size, (by first | omega | (simp only [List.length_append, List.length_singleton]; omega)), (by omega), HN⟩
              | false =>
                rw [if_neg (by decide)] at H
                simp only [Option.some.injEq, Prod.mk.injEq] at H
                obtain ⟨rfl, rfl, rfl⟩ := H
                have hw' := Aside0.mk hw
                rw [← htn] at hv
                have hv' := Aside0.mk hv
                clear hw hv htn
                obtain ⟨hn1, hn2⟩ := hnp
                go_wp2_with fail
                refine (reader_word_bad b (b + 3) a0 pos 0 n v1 _ HRq.out hpl hsz hw'.out hn1 hn2 hv'.out (by omega) hsm).mono ?_
                rintro e w7 ⟨rfl, hR7, hF7⟩
                have HRn := Aside0.mk (show Rdr w7 b a0 (pos : Nat) v1 31 from hR7)
                have HFn := Aside0.mk (show Fr b (b + 3) wq w7 from hF7)
                have d3 := HRn.out.cell3
                have d1 := HRn.out.cell1
                clear hR7 hF7 c1 HRq HOq hlk hw' hv'
                go_wp2_with fail
                go_quiet (fail)
                go_wp2
                go_ret3
                exact ⟨_, rfl, Kd.R_nil _ _ _ _ _, by simpa using pw_below_drewN (hBm.trans (HFn.out.below hwb (by omega))) _⟩
            · rw [if_neg hnp] at H
              exact absurd H (by simp)
          · rw [dif_neg hp] at H
            simp only [Option.some.injEq, Prod.mk.injEq] at H
            obtain ⟨rfl, rfl, rfl⟩ := H
            have hl : decide ((pos : Int) < (a0.size : Int)) = false := decide_eq_false (by omega)
            go_wp2_with fail
            refine (reader_put b (b + 3) a0 pos 0 3 0 v1 l _ HRq.out HOq.out (by omega) hsm (by omega) (by omega) (by omega) hsz (by omega)).mono ?_
            rintro e w7 ⟨v2, rfl, hR7, hO7, hF7⟩
            have hcast : ((pos : Int) + 0).toNat = pos := by omega
            rw [hcast] at hO7
            have HO7 := Aside0.mk hO7
            have HF7 := Aside0.mk hF7
            have d2 := hR7.cell2
            clear hR7 hO7 hF7 c1 HRq HOq hcast
            go_wp2
            go_ret3
            exact ⟨v2, rfl, Kd.R_lower HO7.out (by omega), hBm.trans (HF7.out.below hwb (by omega))⟩

end
/-! ### slices_Index_string_string: function 96 -/
def slices_Index_string_string.l0 : Nat → List ByteArray → ByteArray → Int → Int → Option (Int)
  | 0, _, _, _, _ => none
  | k + 1, x0, x1, x7, x8 => if x8 < x7 then (if 0 ≤ x8 then (if x8 < (x0.length : Int) then (if x1.toList = (rdOf ByteArray.empty x0 x8).toList then (some x8) else (slices_Index_string_string.l0 k x0 x1 x7 (wrap64 (x8 + 1)))) else (none)) else (none)) else (some (-1))
def slices_Index_string_string.f (k : Nat) (l0 : List ByteArray) (a1 : ByteArray) : Option (Int) := slices_Index_string_string.l0 k l0 a1 (l0.length : Int) 0
theorem slices_Index_string_string.mono_l : ∀ k, (∀ y0 y1 y2 y3, LeO (slices_Index_string_string.l0 k y0 y1 y2 y3) (slices_Index_string_string.l0 (k + 1) y0 y1 y2 y3))
  | 0 => fun _ _ _ _ r h => by simp [slices_Index_string_string.l0] at h
  | k + 1 => by
    have ih0 := slices_Index_string_string.mono_l k
    · intro y0 y1 y2 y3
      unfold slices_Index_string_string.l0
      repeat' first
      | (with_reducible exact ih0 _ _ _ _)
      | (with_reducible exact LeO.refl _)
      | (with_reducible exact LeO.none _)
      | (with_reducible refine LeO.ite ?_ ?_)
      | (with_reducible refine LeO.bind ?_ (fun _ => ?_))
      | exact ih0 _ _ _ _
      | exact LeO.none _
      | refine LeO.ite ?_ ?_
      | refine LeO.bind ?_ (fun _ => ?_)
theorem slices_Index_string_string.mono : ∀ a0 a1 k, LeO (slices_Index_string_string.f k a0 a1) (slices_Index_string_string.f (k + 1) a0 a1) := by
  intro a0 a1 k
  have ih0 := slices_Index_string_string.mono_l k
  unfold slices_Index_string_string.f
  repeat' first
      | (with_reducible exact ih0 _ _ _ _)
      | (with_reducible exact LeO.refl _)
      | (with_reducible exact LeO.none _)
      | (with_reducible refine LeO.ite ?_ ?_)
      | (with_reducible refine LeO.bind ?_ (fun _ => ?_))
      | exact ih0 _ _ _ _
      | exact LeO.none _
      | refine LeO.ite ?_ ?_
      | refine LeO.bind ?_ (fun _ => ?_)
set_option maxHeartbeats 8000000 in
set_option maxRecDepth 100000 in
theorem slices_Index_string_string.calls (k : Nat) (A0 : Option Addr) (c0 : Nat) (l0 : List ByteArray) (a1 : ByteArray) (r : Int) (w : World) (hr0 : Kd.C Kd.string w A0 l0.length l0) (hc0 : l0.length ≤ c0) (h : slices_Index_string_string.f k l0 a1 = some r) :
    Calls Tryd.prog 96 #[.slice A0 l0.length c0, .string a1] w fun e w' => e = .returned (.int .i64 r) ∧ Drawn0 w w' := by
  have HR0 := Aside0.mk hr0
  have HC0 := Aside0.mk hc0
  clear hr0 hc0
  have H : (slices_Index_string_string.l0 k l0 a1 (l0.length : Int) 0) = some r := h
  clear h
  have H' := Aside0.mk H
  clear H
  go_enter Tryd.func96, Tryd.ntmps96
  go_wp2
  go_loopg [8] k (fun kq v8 w' => ∃ (x8_1 : Int), v8 = .int .i64 x8_1 ∧ Aside0 (slices_Index_string_string.l0 kq l0 a1 (l0.length : Int) x8_1 = some r) ∧ Aside0 (kq ≤ k) ∧ Drawn0 w w')
  case atStart => exact ⟨(0), (by first | rfl | (simp; done) | (simp [*]; done)), H', ⟨Nat.le_refl _⟩, by repeat (first | exact Drawn0.refl _ | apply Drawn0.step)⟩
  case round =>
    clear H'
    try clear p2
    obtain ⟨x8_1, rfl, HA, HK1, ⟨m1, rfl⟩⟩ := hrel
    cases gk with
    | zero => exact absurd HA.out (by simp [slices_Index_string_string.l0])
    | succ k1 =>
      have H := HA.out
      clear HA
      simp only [slices_Index_string_string.l0] at H
      by_cases c3 : x8_1 < (l0.length : Int)
      · rw [if_pos c3] at H
        have c3b0 : decide (x8_1 < (l0.length : Int)) = true := decide_eq_true c3
        clear c3
        by_cases c4 : 0 ≤ x8_1
        · rw [if_pos c4] at H
          have c4b0 : decide (0 ≤ x8_1) = true := decide_eq_true c4
          clear c4
          by_cases c5 : x8_1 < (l0.length : Int)
          · rw [if_pos c5] at H
            have c5b0 : decide (x8_1 < (l0.length : Int)) = true := decide_eq_true c5
            clear c5
            by_cases c6 : a1.toList = (rdOf ByteArray.empty l0 x8_1).toList
            · rw [if_pos c6] at H
              have c6b0 : (a1.toList == (rdOf ByteArray.empty l0 x8_1).toList) = true := beq_iff_eq.mpr c6
              have c6b1 : (a1.toList != (rdOf ByteArray.empty l0 x8_1).toList) = false := bne_eq_false_iff_eq.mpr c6
              clear c6
              obtain rfl := Option.some.inj H
              have p102 : 0 ≤ (x8_1 : Int) := of_decide_eq_true (by first | (with_reducible assumption) | assumption)
              have q102 : x8_1 < (l0.length : Int) := of_decide_eq_true (by first | (with_reducible assumption) | assumption)
              obtain ⟨ad102, e102, hx102_0⟩ := Kd.at_string HR0.out x8_1 p102 q102
              cases e102
              replace p102 := eq_true p102
              replace q102 := eq_true q102
              go_wp2
              go_ret
              exact ⟨by first | rfl | (simp; done) | (simp [*]; done), by repeat (first | exact Drawn0.refl _ | apply Drawn0.step)⟩
            · rw [if_neg c6] at H
              have c6b0 : (a1.toList == (rdOf ByteArray.empty l0 x8_1).toList) = false := beq_eq_false_iff_ne.mpr c6
              have c6b1 : (a1.toList != (rdOf ByteArray.empty l0 x8_1).toList) = true := bne_iff_ne.mpr c6
              have H' := Aside0.mk H
              clear H
              have p102 : 0 ≤ (x8_1 : Int) := of_decide_eq_true (by first | (with_reducible assumption) | assumption)
              have q102 : x8_1 < (l0.length : Int) := of_decide_eq_true (by first | (with_reducible assumption) | assumption)
              obtain ⟨ad102, e102, hx102_0⟩ := Kd.at_string HR0.out x8_1 p102 q102
              cases e102
              replace p102 := eq_true p102
              replace q102 := eq_true q102
              go_wp2
              go_roundg k1
              case measure => have := HK1.out; omega
              case rel => exact ⟨(wrap64 (x8_1 + 1)), (by first | rfl | (simp; done) | (simp [*]; done)), H', ⟨by have := HK1.out; omega⟩, by repeat (first | exact Drawn0.refl _ | apply Drawn0.step)⟩
          · rw [if_neg c5] at H
            exact absurd H (by simp)
        · rw [if_neg c4] at H
          exact absurd H (by simp)
      · rw [if_neg c3] at H
        have c3b0 : decide (x8_1 < (l0.length : Int)) = false := decide_eq_false c3
        clear c3
        obtain rfl := Option.some.inj H
        go_wp2
        go_ret
        exact ⟨by first | rfl | (simp; done) | (simp [*]; done), by repeat (first | exact Drawn0.refl _ | apply Drawn0.step)⟩

/-! ### slices_Contains_string_string: function 62 -/
def slices_Contains_string_string.f (k : Nat) (l0 : List ByteArray) (a1 : ByteArray) : Option (Bool) := (slices_Index_string_string.f k l0 a1).bind fun t103 => (some (decide (t103 ≥ 0)))
theorem slices_Contains_string_string.mono : ∀ a0 a1 k, LeO (slices_Contains_string_string.f k a0 a1) (slices_Contains_string_string.f (k + 1) a0 a1) := by
  intro a0 a1 k
  unfold slices_Contains_string_string.f
  repeat' first
      | (with_reducible exact slices_Index_string_string.mono _ _ _)
      | (with_reducible exact LeO.refl _)
      | (with_reducible exact LeO.none _)
      | (with_reducible refine LeO.ite ?_ ?_)
      | (with_reducible refine LeO.bind ?_ (fun _ => ?_))
      | exact slices_Index_string_string.mono _ _ _
      | exact LeO.none _
      | refine LeO.ite ?_ ?_
      | refine LeO.bind ?_ (fun _ => ?_)
set_option maxHeartbeats 8000000 in
set_option maxRecDepth 100000 in
theorem slices_Contains_string_string.calls (k : Nat) (A0 : Option Addr) (c0 : Nat) (l0 : List ByteArray) (a1 : ByteArray) (r : Bool) (w : World) (hr0 : Kd.C Kd.string w A0 l0.length l0) (hc0 : l0.length ≤ c0) (h : slices_Contains_string_string.f k l0 a1 = some r) :
    Calls Tryd.prog 62 #[.slice A0 l0.length c0, .string a1] w fun e w' => e = .returned (.bool r) ∧ Drawn0 w w' := by
  have HR0 := Aside0.mk hr0
  have HC0 := Aside0.mk hc0
  clear hr0 hc0
  have H : ((slices_Index_string_string.f k l0 a1).bind fun t103 => (some (decide (t103 ≥ 0)))) = some r := h
  clear h
  replace H := Option.bind_eq_some_iff.mp H
  obtain ⟨t103, A30, H⟩ := H
  replace H : (some (decide (t103 ≥ 0))) = some r := H
  have A3 := Aside0.mk A30
  clear A30
  obtain rfl := Option.some.inj H
  go_enter Tryd.func62, Tryd.ntmps62
  go_wp2_with (first | ((with_reducible refine gate_callee (f := 96) rfl ?_); refine goesL_ (some 7) rfl rfl Tryd.func96 (by kernel_rfl) rfl #[.slice A0 l0.length c0, .string a1] rfl (by (try simp only [List.map_toArray, List.map_cons, List.map_nil]); first | done | rfl | (simp only [List.length_drop, List.length_take]; rfl)) ?_; (with_reducible refine (slices_Index_string_string.calls k _ _ l0 a1 t103 _ ?side1 ?side2 A3.out).mono ?_); (case side1 => repeat (first | exact HR0.out | (with_reducible refine Kd.C_alloc ?_ _) | (with_reducible refine Kd.C_drewN ?_ _) | (with_reducible refine Kd.C_drew ?_))); (case side2 => exact HC0.out); rintro e w' ⟨rfl, ⟨nd, rfl⟩⟩; refine ⟨_, rfl, ?_⟩))
  go_ret
  exact ⟨by first | rfl | (simp; done) | (simp [*]; done), by repeat (first | exact Drawn0.refl _ | apply Drawn0.step)⟩

section
-- @GIVEN@ 27
/-! ### token_Key: function 27 -/
-- GIVEN doorman/token.Key rounds=0 making=0 keys=1
--import Derived.Test.YtkgnhghaiopgcaaDoorAid
open Go.Proofs.YtkgnhghaiopgcaaDoor.Aid

def token_Key.f (a0 : ByteArray) : Option Bool := slices_Contains_string_string.f 6 keysL a0

set_option maxHeartbeats 1000000 in
theorem token_Key.calls (a0 : ByteArray) (r : Bool) (w : World) (hK : Aside0 (KeysIn w)) (h : token_Key.f a0 = some r) :
    Calls Tryd.prog 27 #[.string a0] w fun e w' => e = .returned (.bool r) ∧ Drawn0 w w' := by
  obtain ⟨a, cap, h0, h1, h2, h3, h4⟩ := hK.out
  have hC : Kd.C Kd.string w (some a) keysL.length keysL := ⟨rfl, by decide, fun _ => ⟨a, rfl, fun j p hj => ⟨[.string p], rfl, rfl, fun i u hi => by
    cases i with
    | zero => simp at hi; subst hi; simpa [show Kd.string.sz = 1 from rfl] using h4 j p hj
    | succ i => simp at hi⟩⟩⟩
  have HC := Aside0.mk hC
  have hcap : Aside0 (keysL.length ≤ cap) := ⟨h0⟩
  have H := Aside0.mk h
  clear h hC h4 hK h0
  go_enter Tryd.func27, Tryd.ntmps27
  go_wp2_with fail
  refine (slices_Contains_string_string.calls 6 (some a) cap keysL a0 r _ HC.out hcap.out H.out).mono ?_
  rintro e w' ⟨rfl, ⟨nd, rfl⟩⟩
  go_wp2
  go_ret
  exact ⟨rfl, by repeat (first | exact Drawn0.refl _ | apply Drawn0.step)⟩

end
end Go.Proofs.YtkgnhghaiopgcaaDoor.X
