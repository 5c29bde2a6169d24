-- Written by a program of this session (wip/tools/drive.py) for this seat, partly by the kit's print.py; some functions by hand.
import Derived.Test.YtkgnhghaiopgcaaDoorX0
import Derived.Test.YtkgnhghaiopgcaaDoorAid
import Derived.Test.YtkgnhghaiopgcaaDoorAid
import Derived.Test.YtkgnhghaiopgcaaDoorAid
import Derived.Deep.DrawnRows
import Derived.Lib.Strings
import Derived.Lib.OthersKept
import Derived.Test.YtkgnhghaiopgcaaDoorAid
import Derived.Test.YtkgnhghaiopgcaaDoorAid
import Derived.Test.YtkgnhghaiopgcaaDoorAid
import Derived.Deep.DrawnRows
import Derived.Lib.Strings
namespace Go.Proofs.YtkgnhghaiopgcaaDoor.X
open Go.RowKit Go.Proofs.YtkgnhghaiopgcaaDoorW.PrintWords Go.Proofs.YtkgnhghaiopgcaaDoorW.PrintLast
set_option linter.unusedVariables false
set_option linter.unusedSimpArgs false

/-! ### stringslite_HasPrefix: function 97 -/
def stringslite_HasPrefix.f (a0 : ByteArray) (a1 : ByteArray) : Option (Bool) := if (a0.size : Int) ≥ (a1.size : Int) then (if 0 ≤ (a1.size : Int) then (if (a1.size : Int) ≤ (a0.size : Int) then (some ((a0.extract 0 ((a1.size : Int) : Int).toNat).toList == a1.toList)) else (none)) else (none)) else (some false)
set_option maxHeartbeats 8000000 in
set_option maxRecDepth 100000 in
theorem stringslite_HasPrefix.calls (a0 : ByteArray) (a1 : ByteArray) (r : Bool) (w : World) (h : stringslite_HasPrefix.f a0 a1 = some r) :
    Calls Tryd.prog 97 #[.string a0, .string a1] w fun e w' => e = .returned (.bool r) ∧ Drawn0 w w' := by
  have H : (if (a0.size : Int) ≥ (a1.size : Int) then (if 0 ≤ (a1.size : Int) then (if (a1.size : Int) ≤ (a0.size : Int) then (some ((a0.extract 0 ((a1.size : Int) : Int).toNat).toList == a1.toList)) else (none)) else (none)) else (some false)) = some r := h
  clear h
  by_cases c3 : (a0.size : Int) ≥ (a1.size : Int)
  · rw [if_pos c3] at H
    have c3b0 : decide ((a1.size : Int) ≤ (a0.size : Int)) = true := decide_eq_true c3
    have c3b1 : decide (a1.size ≤ a0.size) = true := decide_eq_true (Int.ofNat_le.mp c3)
    clear c3
    by_cases c4 : 0 ≤ (a1.size : Int)
    · rw [if_pos c4] at H
      have c4b0 := eq_true c4
      have c4b1 : decide (0 ≤ (a1.size : Int)) = true := decide_eq_true c4
      clear c4
      by_cases c5 : (a1.size : Int) ≤ (a0.size : Int)
      · rw [if_pos c5] at H
        have c5b0 := eq_true c5
        have c5b1 : decide ((a1.size : Int) ≤ (a0.size : Int)) = true := decide_eq_true c5
        clear c5
        obtain rfl := Option.some.inj H
        go_enter Tryd.func97, Tryd.ntmps97
        go_wp2
        go_ret
        exact ⟨by first | rfl | (simp; done) | (simp [*]; done), by repeat (first | exact Drawn0.refl _ | apply Drawn0.step)⟩
      · rw [if_neg c5] at H
        exact absurd H (by simp)
    · rw [if_neg c4] at H
      exact absurd H (by simp)
  · rw [if_neg c3] at H
    have c3b0 : decide ((a1.size : Int) ≤ (a0.size : Int)) = false := decide_eq_false c3
    have c3b1 : decide (a1.size ≤ a0.size) = false := decide_eq_false (fun h => c3 (Int.ofNat_le.mpr h))
    clear c3
    obtain rfl := Option.some.inj H
    go_enter Tryd.func97, Tryd.ntmps97
    go_wp2
    go_ret
    exact ⟨by first | rfl | (simp; done) | (simp [*]; done), by repeat (first | exact Drawn0.refl _ | apply Drawn0.step)⟩

/-! ### strings_HasPrefix: function 63 -/
def strings_HasPrefix.f (a0 : ByteArray) (a1 : ByteArray) : Option (Bool) := (stringslite_HasPrefix.f a0 a1).bind fun t101 => (some t101)
set_option maxHeartbeats 8000000 in
set_option maxRecDepth 100000 in
theorem strings_HasPrefix.calls (a0 : ByteArray) (a1 : ByteArray) (r : Bool) (w : World) (h : strings_HasPrefix.f a0 a1 = some r) :
    Calls Tryd.prog 63 #[.string a0, .string a1] w fun e w' => e = .returned (.bool r) ∧ Drawn0 w w' := by
  have H : ((stringslite_HasPrefix.f a0 a1).bind fun t101 => (some t101)) = some r := h
  clear h
  replace H := Option.bind_eq_some_iff.mp H
  obtain ⟨t101, A30, H⟩ := H
  replace H : (some t101) = some r := H
  have A3 := Aside0.mk A30
  clear A30
  obtain rfl := Option.some.inj H
  go_enter Tryd.func63, Tryd.ntmps63
  go_wp2_with (first | ((with_reducible refine gate_callee (f := 97) rfl ?_); refine goesL_ (some 7) rfl rfl Tryd.func97 (by kernel_rfl) rfl #[.string a0, .string a1] rfl (by (try simp only [List.map_toArray, List.map_cons, List.map_nil]); first | done | rfl | (simp only [List.length_drop, List.length_take]; rfl)) ?_; (with_reducible refine (stringslite_HasPrefix.calls a0 a1 t101 _ A3.out).mono ?_); rintro e w' ⟨rfl, ⟨nd, rfl⟩⟩; refine ⟨_, rfl, ?_⟩))
  go_ret
  exact ⟨by first | rfl | (simp; done) | (simp [*]; done), by repeat (first | exact Drawn0.refl _ | apply Drawn0.step)⟩

section
-- @GIVEN@ 29
/-! ### glyph_Valid: function 29 -/
-- GIVEN doorman/glyph.Valid rounds=0 making=1
--import Derived.Test.YtkgnhghaiopgcaaDoorAid
open Go.Proofs.YtkgnhghaiopgcaaDoor.Aid
def glyph_Valid.l0 (s : ByteArray) : Nat → Nat → Option Bool
  | 0, _ => none
  | k + 1, pos => if pos < s.size then
      (if (Utf8.decode s pos).1 = 65533 then
        (strings_HasPrefix.f (s.extract pos s.size) ⟨#[239, 191, 189]⟩).bind fun b => if b = true then glyph_Valid.l0 s k (pos + (Utf8.decode s pos).2) else some false
       else glyph_Valid.l0 s k (pos + (Utf8.decode s pos).2))
    else some true

def glyph_Valid.f (a0 : ByteArray) : Option Bool := glyph_Valid.l0 a0 (a0.size + 1) 0

set_option maxHeartbeats 1000000 in
theorem glyph_Valid.calls (a0 : ByteArray) (r : Bool) (w : World) (h : glyph_Valid.f a0 = some r) :
    Calls Tryd.prog 29 #[.string a0] w fun e w' => e = .returned (.bool r) ∧ Below w.heap.size w w' := by
  have H' := Aside0.mk h
  clear h
  go_enter Tryd.func29, Tryd.ntmps29
  go_wp2
  go_loopg [3, 4] (a0.size+1) (fun kq v3 v4 w' => ∃ (pos : Nat) (m : Nat), Aside0 (glyph_Valid.l0 a0 kq pos = some r) ∧ w' = (w.iter a0 pos).drewN m)
  case atStart => exact ⟨0, 0, H', rfl⟩
  case round =>
    obtain ⟨pos, m, HA, rfl⟩ := hrel
    cases gk with
    | zero => exact absurd HA.out (by simp [glyph_Valid.l0])
    | succ k1 =>
      have H := HA.out
      clear HA
      simp only [glyph_Valid.l0] at H
      by_cases hlt : pos < a0.size
      · rw [if_pos hlt] at H
        have hnx := fun ty => run_next_any_d (P := Tryd.prog) w m a0 pos ty hlt
        by_cases hc : (Utf8.decode a0 pos).1 = 65533
        · rw [if_pos hc] at H
          obtain ⟨b, hb, H⟩ := Option.bind_eq_some_iff.mp H
          have HB := Aside0.mk hb
          have hc1 : (((Utf8.decode a0 pos).1 : Int) == 65533) = true := by rw [hc]; rfl
          clear hc hb
          cases b with
          | true =>
            rw [if_pos rfl] at H
            have HN := Aside0.mk H
            clear H
            go_wp2_with fail
            refine (strings_HasPrefix.calls _ _ true _ HB.out).mono ?_
            rintro e w' ⟨rfl, ⟨nd, rfl⟩⟩
            go_wp2
            go_roundg k1
            case measure => omega
            case rel => exact ⟨_, _, HN, rfl⟩
          | false =>
            rw [if_neg (by decide)] at H
            obtain rfl := Option.some.inj H
            clear H
            go_wp2_with fail
            refine (strings_HasPrefix.calls _ _ false _ HB.out).mono ?_
            rintro e w' ⟨rfl, ⟨nd, rfl⟩⟩
            go_wp2
            go_ret
            exact ⟨rfl, pw_below_drewN ((Below.refl _ _).alloc (Nat.le_refl _) _) _⟩
        · rw [if_neg hc] at H
          have HN := Aside0.mk H
          have hc1 : (((Utf8.decode a0 pos).1 : Int) == 65533) = false := by simp; omega
          clear hc H
          go_wp2
          go_roundg k1
          case measure => omega
          case rel => exact ⟨_, _, HN, rfl⟩
      · rw [if_neg hlt] at H
        obtain rfl := Option.some.inj H
        have hnx := fun ty => run_next_end_d (P := Tryd.prog) w m a0 pos ty hlt
        go_wp2
        go_ret
        exact ⟨rfl, pw_below_drewN ((Below.refl _ _).alloc (Nat.le_refl _) _) _⟩

end
section
-- @GIVEN@ 93
/-! ### glyph_Cut: function 93 -/
-- GIVEN doorman/glyph.Cut rounds=0 making=1
--import Derived.Test.YtkgnhghaiopgcaaDoorAid
open Go.Proofs.YtkgnhghaiopgcaaDoor.Aid
/-- Cut -/
def glyph_Cut.l0 (s : ByteArray) (n : Int) : Nat → Nat → Int → Option (ByteArray × ByteArray)
  | 0, _, _ => none
  | k + 1, pos, j => if pos < s.size then
      (if n ≤ j then some (s.extract 0 pos, s.extract pos s.size) else glyph_Cut.l0 s n k (pos + (Utf8.decode s pos).2) (wrap64 (j + 1)))
    else some (s, ⟨#[]⟩)
def glyph_Cut.f (a0 : ByteArray) (a1 : Int) : Option (ByteArray × ByteArray) := glyph_Cut.l0 a0 a1 (a0.size + 1) 0 0

set_option maxHeartbeats 1000000 in
theorem glyph_Cut.calls (a0 : ByteArray) (a1 : Int) (r1 r2 : ByteArray) (w : World) (h : glyph_Cut.f a0 a1 = some (r1, r2)) :
    Calls Tryd.prog 93 #[.string a0, .int .i64 a1] w fun e w' => e = .returned (.tuple #[.string r1, .string r2]) ∧ Below w.heap.size w w' := by
  have H' := Aside0.mk h
  clear h
  go_enter Tryd.func93, Tryd.ntmps93
  go_wp2
  go_loopg [6, 7] (a0.size+1) (fun kq v6 v7 w' => ∃ (pos : Nat) (j : Int), v6 = .int .i64 j ∧ Aside0 (glyph_Cut.l0 a0 a1 kq pos j = some (r1, r2)) ∧ w' = (w.iter a0 pos).drewN 0)
  case atStart => exact ⟨0, 0, rfl, H', rfl⟩
  case round =>
    obtain ⟨pos, j, rfl, HA, rfl⟩ := hrel
    cases gk with
    | zero => exact absurd HA.out (by simp [glyph_Cut.l0])
    | succ k1 =>
      have H := HA.out
      clear HA
      simp only [glyph_Cut.l0] at H
      by_cases hlt : pos < a0.size
      · rw [if_pos hlt] at H
        have hnx := fun ty => run_next_any_d (P := Tryd.prog) w 0 a0 pos ty hlt
        by_cases hc : a1 ≤ j
        · rw [if_pos hc] at H
          obtain ⟨rfl, rfl⟩ := Prod.mk.inj (Option.some.inj H)
          clear H
          have hc1 : decide (a1 ≤ j) = true := decide_eq_true hc
          have hle : (pos : Int) ≤ a0.size := by omega
          have hle2 : pos ≤ a0.size := by omega
          clear hc
          go_wp2
          go_quiet (fail)
          go_wp2
          go_ret2
          exact ⟨rfl, pw_below_drewN ((Below.refl _ _).alloc (Nat.le_refl _) _) _⟩
        · rw [if_neg hc] at H
          have HN := Aside0.mk H
          have hc1 : decide (a1 ≤ j) = false := decide_eq_false hc
          clear hc H
          go_wp2
          go_roundg k1
          case measure => omega
          case rel => exact ⟨_, _, rfl, HN, rfl⟩
      · rw [if_neg hlt] at H
        obtain ⟨rfl, rfl⟩ := Prod.mk.inj (Option.some.inj H)
        have hnx := fun ty => run_next_end_d (P := Tryd.prog) w 0 a0 pos ty hlt
        go_wp2
        go_ret2
        exact ⟨rfl, pw_below_drewN ((Below.refl _ _).alloc (Nat.le_refl _) _) _⟩


end
-- NOT PRINTED: function 53 (token_broken)

-- NOT PRINTED: function 58 (token_reader_put)

section
-- @GIVEN@ 25
/-! ### token_broken: by hand -/
-- GIVEN doorman/token.broken rounds=0 making=1 helper=1
--import Derived.Test.YtkgnhghaiopgcaaDoorAid
--import Derived.Deep.DrawnRows
--import Derived.Lib.Strings
--import Derived.Lib.OthersKept
open Go.Proofs.YtkgnhghaiopgcaaDoor.Aid
attribute [local go_sem ↓] Go.wp_at_zero Go.wp_at_succ

/-- The place of the first rune that isn't valid, from a place on; below 0: there is none. -/
def token_broken.l0 (s : ByteArray) : Nat → Nat → Option Int
  | 0, _ => none
  | k + 1, pos => if pos < s.size then
      (glyph_Cut.f (s.extract pos s.size) 1).bind fun x => if pos + x.2.size ≤ s.size then (glyph_Valid.f (s.extract pos (s.size - x.2.size))).bind fun v =>
        if v = true then token_broken.l0 s k (pos + (Utf8.decode s pos).2) else some (pos : Int)
       else none
    else some (-1)
def token_broken.f (a0 : ByteArray) : Option Int := token_broken.l0 a0 (a0.size + 1) 0

set_option maxHeartbeats 2000000 in
set_option maxRecDepth 100000 in
theorem token_broken.calls (a0 : ByteArray) (r : Int) (w : World) (hs : a0.size ≤ 4096) (h : token_broken.f a0 = some r) :
    Calls Tryd.prog 53 #[.string a0] w fun e w' => e = .returned (.int .i64 r) ∧ Below w.heap.size w w' := by
  have H' := Aside0.mk h
  clear h
  go_enter Tryd.func53, Tryd.ntmps53
  go_wp2
  go_loopg [3, 4, 5] (a0.size+1) (fun kq v3 v4 v5 wr => ∃ (pos : Nat), wr.heap[w.heap.size]? = some (.stringIter a0 pos) ∧ Below w.heap.size w wr ∧ w.heap.size < wr.heap.size ∧ Aside0 (token_broken.l0 a0 kq pos = some r))
  case atStart => exact ⟨0, World.iter_heap w a0 0, (Below.refl _ _).alloc (Nat.le_refl _) _, by simp [World.iter], H'⟩
  case round =>
    obtain ⟨pos, hit, hbw, hsz, HA⟩ := hrel
    cases gk with
    | zero => exact absurd HA.out (by simp [token_broken.l0])
    | succ k1 =>
      have H := HA.out
      clear HA
      simp only [token_broken.l0] at H
      by_cases hp : pos < a0.size
      · rw [if_pos hp] at H
        obtain ⟨⟨x1, x2⟩, hx, H⟩ := Option.bind_eq_some_iff.mp H
        simp only [] at H
        by_cases hx2 : pos + x2.size ≤ a0.size
        · rw [if_pos hx2] at H
          obtain ⟨v, hv, H⟩ := Option.bind_eq_some_iff.mp H
          have HX := Aside0.mk hx
          have HV := Aside0.mk hv
          clear hx hv
          have hnx : ∀ ty, (Instr.next (.pointer (some ⟨w.heap.size, 0, none⟩)) true ty).run Tryd.prog wr = _ := fun ty => Lib.run_next_any_at wr w.heap.size a0 pos ty hit hp
          have hit2 := Lib.iterAt_heap wr w.heap.size a0 pos (pos + (Utf8.decode a0 pos).2) hit
          have hbw2 := Lib.below_iterAt hbw (k := w.heap.size) (Nat.le_refl _) a0 (pos + (Utf8.decode a0 pos).2)
          have hsz2 : w.heap.size < (wr.iterAt w.heap.size a0 (pos + (Utf8.decode a0 pos).2)).heap.size := by rw [Lib.iterAt_size]; omega
          obtain ⟨W1, hW1⟩ : ∃ W1, W1 = wr.iterAt w.heap.size a0 (pos + (Utf8.decode a0 pos).2) := ⟨_, rfl⟩
          rw [← hW1] at hnx hit2 hbw2 hsz2
          have b1 : (0 : Int) ≤ (pos : Int) := by omega
          have b2 : (pos : Int) ≤ a0.size := by omega
          have b3 : IntKind.i64.wrap ((a0.size : Int) - (x2.size : Int)) = (a0.size : Int) - (x2.size : Int) := by rw [IntKind.wrap_i64]; omega
          have b4 : (pos : Int) ≤ (a0.size : Int) - (x2.size : Int) := by omega
          have b5 : (a0.size : Int) - (x2.size : Int) ≤ (a0.size : Int) := by omega
          clear hW1 hit hbw hsz hx2
          cases v with
          | true =>
            rw [if_pos rfl] at H
            have HN := Aside0.mk H
            clear H
            go_wp2_with fail
            refine (glyph_Cut.calls _ _ x1 x2 _ HX.out).mono ?_
            rintro e w2 ⟨rfl, hb2⟩
            have hit3 : w2.heap[w.heap.size]? = some (.stringIter a0 (pos + (Utf8.decode a0 pos).2)) := (hb2.block _ hsz2).trans hit2
            have hbw3 : Below w.heap.size w w2 := hbw2.trans (hb2.mono (Nat.le_of_lt hsz2))
            have hsz3 : w.heap.size < w2.heap.size := Nat.lt_of_lt_of_le hsz2 hb2.size
            clear hit2 hbw2 hsz2 hb2 hnx
            go_wp2_with fail
            refine (glyph_Valid.calls _ true _ HV.out).mono ?_
            rintro e w4 ⟨rfl, hb4⟩
            have hit4 : w4.heap[w.heap.size]? = some (.stringIter a0 (pos + (Utf8.decode a0 pos).2)) := (hb4.block _ hsz3).trans hit3
            have hbw4 : Below w.heap.size w w4 := hbw3.trans (hb4.mono (Nat.le_of_lt hsz3))
            have hsz4 : w.heap.size < w4.heap.size := Nat.lt_of_lt_of_le hsz3 hb4.size
            clear hit3 hbw3 hsz3 hb4
            go_wp2
            go_roundg k1
            case measure => omega
            case rel => exact ⟨_, hit4, hbw4, hsz4, HN⟩
          | false =>
            rw [if_neg (by decide)] at H
            obtain rfl := Option.some.inj H
            clear H
            go_wp2_with fail
            refine (glyph_Cut.calls _ _ x1 x2 _ HX.out).mono ?_
            rintro e w2 ⟨rfl, hb2⟩
            have hbw3 : Below w.heap.size w w2 := hbw2.trans (hb2.mono (Nat.le_of_lt hsz2))
            have hsz3 : w.heap.size < w2.heap.size := Nat.lt_of_lt_of_le hsz2 hb2.size
            clear hit2 hbw2 hsz2 hb2 hnx
            go_wp2_with fail
            refine (glyph_Valid.calls _ false _ HV.out).mono ?_
            rintro e w4 ⟨rfl, hb4⟩
            have hbw4 : Below w.heap.size w w4 := hbw3.trans (hb4.mono (Nat.le_of_lt hsz3))
            clear hbw3 hsz3 hb4
            go_wp2
            go_ret
            exact ⟨rfl, hbw4⟩
        · rw [if_neg hx2] at H
          exact absurd H (by simp)
      · rw [if_neg hp] at H
        obtain rfl := Option.some.inj H
        have hnx : ∀ ty, (Instr.next (.pointer (some ⟨w.heap.size, 0, none⟩)) true ty).run Tryd.prog wr = _ := fun ty => Lib.run_next_end_at wr w.heap.size a0 pos ty hit hp
        go_wp2
        go_ret
        exact ⟨rfl, hbw⟩

end
section
-- @GIVEN@ 64
/-! ### glyph_Count: function 64 -/
-- GIVEN doorman/glyph.Count rounds=0 making=1
--import Derived.Test.YtkgnhghaiopgcaaDoorAid
open Go.Proofs.YtkgnhghaiopgcaaDoor.Aid

def glyph_Count.l0 (s : ByteArray) : Nat → Nat → Int → Option Int
  | 0, _, _ => none
  | k + 1, pos, n => if pos < s.size then glyph_Count.l0 s k (pos + (Utf8.decode s pos).2) (wrap64 (n + 1)) else some n

def glyph_Count.f (a0 : ByteArray) : Option Int := glyph_Count.l0 a0 (a0.size + 1) 0 0

set_option maxHeartbeats 1000000 in
theorem glyph_Count.calls (a0 : ByteArray) (r : Int) (w : World) (h : glyph_Count.f a0 = some r) :
    Calls Tryd.prog 64 #[.string a0] w fun e w' => e = .returned (.int .i64 r) ∧ Below w.heap.size w w' := by
  have H' := Aside0.mk h
  clear h
  go_enter Tryd.func64, Tryd.ntmps64
  go_wp2
  go_loopg [3] (a0.size+1) (fun kq v3 w' => ∃ (pos : Nat) (n : Int), v3 = .int .i64 n ∧ Aside0 (glyph_Count.l0 a0 kq pos n = some r) ∧ w' = w.iter a0 pos)
  case atStart => exact ⟨0, 0, rfl, H', rfl⟩
  case round =>
    obtain ⟨pos, n, rfl, HA, rfl⟩ := hrel
    cases gk with
    | zero => exact absurd HA.out (by simp [glyph_Count.l0])
    | succ k1 =>
      have H := HA.out
      clear HA
      simp only [glyph_Count.l0] at H
      by_cases hlt : pos < a0.size
      · rw [if_pos hlt] at H
        have HN := Aside0.mk H
        clear H
        have hnx := fun ty => run_next_any (P := Tryd.prog) w a0 pos ty hlt
        go_wp2
        go_roundg k1
        case measure => omega
        case rel => exact ⟨_, _, rfl, HN, rfl⟩
      · rw [if_neg hlt] at H
        obtain rfl := Option.some.inj H
        have hnx := fun ty => run_next_end (P := Tryd.prog) w a0 pos ty hlt
        go_wp2
        go_ret
        exact ⟨rfl, (Below.refl _ _).alloc (Nat.le_refl _) _⟩

end
-- NOT PRINTED: function 137 (bytealg_IndexByteString)

-- NOT PRINTED: function 131 (stringslite_IndexByte)

-- NOT PRINTED: function 117 (strings_IndexByte)

/-! ### utf8_ValidRune: function 118 -/
def utf8_ValidRune.j0 : Nat → Int → Bool → Option (Bool)
  | 0, _, _ => none
  | k + 1, x0, x3 => if x3 = true then (some true) else (if 57343 < x0 then (if x0 ≤ 1114111 then (some true) else (some false)) else (some false))
def utf8_ValidRune.f (k : Nat) (a0 : Int) : Option (Bool) := if 0 ≤ a0 then (utf8_ValidRune.j0 k a0 (decide (a0 < 55296))) else (utf8_ValidRune.j0 k a0 false)
theorem utf8_ValidRune.mono_l : ∀ k, (∀ y0 y1, LeO (utf8_ValidRune.j0 k y0 y1) (utf8_ValidRune.j0 (k + 1) y0 y1))
  | 0 => fun _ _ r h => by simp [utf8_ValidRune.j0] at h
  | k + 1 => by
    have ih0 := utf8_ValidRune.mono_l k
    · intro y0 y1
      unfold utf8_ValidRune.j0
      repeat' first
      | (with_reducible exact ih0 _ _)
      | (with_reducible exact LeO.refl _)
      | (with_reducible exact LeO.none _)
      | (with_reducible refine LeO.ite ?_ ?_)
      | (with_reducible refine LeO.bind ?_ (fun _ => ?_))
      | exact ih0 _ _
      | exact LeO.none _
      | refine LeO.ite ?_ ?_
      | refine LeO.bind ?_ (fun _ => ?_)
theorem utf8_ValidRune.mono : ∀ a0 k, LeO (utf8_ValidRune.f k a0) (utf8_ValidRune.f (k + 1) a0) := by
  intro a0 k
  have ih0 := utf8_ValidRune.mono_l k
  unfold utf8_ValidRune.f
  repeat' first
      | (with_reducible exact ih0 _ _)
      | (with_reducible exact LeO.refl _)
      | (with_reducible exact LeO.none _)
      | (with_reducible refine LeO.ite ?_ ?_)
      | (with_reducible refine LeO.bind ?_ (fun _ => ?_))
      | exact ih0 _ _
      | exact LeO.none _
      | refine LeO.ite ?_ ?_
      | refine LeO.bind ?_ (fun _ => ?_)
set_option maxHeartbeats 8000000 in
set_option maxRecDepth 100000 in
theorem utf8_ValidRune.calls (k : Nat) (a0 : Int) (r : Bool) (w : World) (h : utf8_ValidRune.f k a0 = some r) :
    Calls Tryd.prog 118 #[.int .i32 a0] w fun e w' => e = .returned (.bool r) ∧ Drawn0 w w' := by
  have H : (if 0 ≤ a0 then (utf8_ValidRune.j0 k a0 (decide (a0 < 55296))) else (utf8_ValidRune.j0 k a0 false)) = some r := h
  clear h
  have HC2 := Aside0.mk H
  clear H
  go_enter Tryd.func118, Tryd.ntmps118
  go_upto_region 1 with (fail)
  go_cut [3] (fun v3 wc => ∃ (kq : Nat) (x3_1 : Bool), v3 = .bool x3_1 ∧ Aside0 (utf8_ValidRune.j0 kq a0 x3_1 = some r) ∧ Aside0 (kq ≤ k) ∧ Drawn0 w wc)
  case first =>
    have H := HC2.out
    clear HC2
    by_cases c3 : 0 ≤ a0
    · rw [if_pos c3] at H
      have c3b0 : decide (0 ≤ a0) = true := decide_eq_true c3
      clear c3
      (first | rw [c3b0] | (simp only [i64_w, i32_w]; rw [c3b0]) | skip)
      have H' := Aside0.mk H
      clear H
      go_wp2
      go_meet
      case rel => exact ⟨_, (decide (a0 < 55296)), (by first | rfl | (simp; done) | (simp [*]; done)), H', ⟨by first | omega | exact Nat.le_refl _⟩, by repeat (first | exact Drawn0.refl _ | apply Drawn0.step)⟩
    · rw [if_neg c3] at H
      have c3b0 : decide (0 ≤ a0) = false := decide_eq_false c3
      clear c3
      (first | rw [c3b0] | (simp only [i64_w, i32_w]; rw [c3b0]) | skip)
      have H' := Aside0.mk H
      clear H
      go_wp2
      go_meet
      case rel => exact ⟨_, (false), (by first | rfl | (simp; done) | (simp [*]; done)), H', ⟨by first | omega | exact Nat.le_refl _⟩, by repeat (first | exact Drawn0.refl _ | apply Drawn0.step)⟩
  case rest =>
    clear HC2
    try clear c1
    try clear p2
    try clear c3
    try clear c3b0
    obtain ⟨kq, x3_1, rfl, HA, HJ1, ⟨mc1, rfl⟩⟩ := hcut
    cases kq with
    | zero => exact absurd HA.out (by simp [utf8_ValidRune.j0])
    | succ kj1 =>
      have H := HA.out
      clear HA
      simp only [utf8_ValidRune.j0] at H
      by_cases c4 : x3_1 = true
      · subst c4
        have H1 : (some true) = some r := by rw [if_pos rfl] at H; exact H
        clear H
        have H := H1
        clear H1
        obtain rfl := Option.some.inj H
        go_wp2
        go_ret
        exact ⟨by first | rfl | (simp; done) | (simp [*]; done), by repeat (first | exact Drawn0.refl _ | apply Drawn0.step)⟩
      · replace c4 := Bool.eq_false_iff.mpr c4
        subst c4
        have H1 : (if 57343 < a0 then (if a0 ≤ 1114111 then (some true) else (some false)) else (some false)) = some r := by rw [if_neg (show ¬ (false = true) by decide)] at H; exact H
        clear H
        have H := H1
        clear H1
        by_cases c5 : 57343 < a0
        · rw [if_pos c5] at H
          have c5b0 : decide (57343 < a0) = true := decide_eq_true c5
          clear c5
          by_cases c6 : a0 ≤ 1114111
          · rw [if_pos c6] at H
            have c6b0 : decide (a0 ≤ 1114111) = true := decide_eq_true c6
            clear c6
            obtain rfl := Option.some.inj H
            go_wp2
            go_ret
            exact ⟨by first | rfl | (simp; done) | (simp [*]; done), by repeat (first | exact Drawn0.refl _ | apply Drawn0.step)⟩
          · rw [if_neg c6] at H
            have c6b0 : decide (a0 ≤ 1114111) = false := decide_eq_false c6
            clear c6
            obtain rfl := Option.some.inj H
            go_wp2
            go_ret
            exact ⟨by first | rfl | (simp; done) | (simp [*]; done), by repeat (first | exact Drawn0.refl _ | apply Drawn0.step)⟩
        · rw [if_neg c5] at H
          have c5b0 : decide (57343 < a0) = false := decide_eq_false c5
          clear c5
          obtain rfl := Option.some.inj H
          go_wp2
          go_ret
          exact ⟨by first | rfl | (simp; done) | (simp [*]; done), by repeat (first | exact Drawn0.refl _ | apply Drawn0.step)⟩

/-! ### bytealg_Cutover: function 119 -/
def bytealg_Cutover.f (a0 : Int) : Option (Int) := some (wrap64 (Int.tdiv (wrap64 (a0 + 16)) 8))
set_option maxHeartbeats 8000000 in
set_option maxRecDepth 100000 in
theorem bytealg_Cutover.calls (a0 : Int) (r : Int) (w : World) (h : bytealg_Cutover.f a0 = some r) :
    Calls Tryd.prog 119 #[.int .i64 a0] w fun e w' => e = .returned (.int .i64 r) ∧ Drawn0 w w' := by
  have H : (some (wrap64 (Int.tdiv (wrap64 (a0 + 16)) 8))) = some r := h
  clear h
  obtain rfl := Option.some.inj H
  go_enter Tryd.func119, Tryd.ntmps119
  go_wp2
  go_ret
  exact ⟨by first | rfl | (simp; done) | (simp [*]; done), by repeat (first | exact Drawn0.refl _ | apply Drawn0.step)⟩

-- NOT PRINTED: function 120 (bytealg_IndexString)

-- NOT PRINTED: function 98 (strings_IndexRune)

-- NOT PRINTED: function 65 (strings_ContainsRune)

section
-- @GIVEN@ 30
/-! ### glyph_Name: function 30 -/
-- GIVEN doorman/glyph.Name rounds=0 making=1
--import Derived.Test.YtkgnhghaiopgcaaDoorAid
open Go.Proofs.YtkgnhghaiopgcaaDoor.Aid
set_option maxHeartbeats 1000000 in
set_option maxRecDepth 100000 in
theorem stringslite_IndexByte.at (a0 : ByteArray) (c : Int) (w : World)  :
    Calls Tryd.prog 131 #[.string a0, .int .u8 c] w fun e w' => e = .returned (.int .i64 (Lib.indexByte a0.data.toList c.toNat.toUInt8)) ∧ w' = w := by
  go_enter Tryd.func131, Tryd.ntmps131
  go_wp2
  rw [run_callFunc_extern Tryd.func137 (by kernel_rfl) (by kernel_rfl) (by kernel_rfl) (e := Extern.BytealgIndexByte.indexByte) (by kernel_rfl), Lib.run_indexByteString]
  simp only [Result.andThen]
  rw [Oper.upon_value]
  go_wp2
  go_ret
  exact ⟨rfl, rfl⟩

set_option maxHeartbeats 1000000 in
set_option maxRecDepth 100000 in
theorem strings_IndexByte.at (a0 : ByteArray) (c : Int) (w : World)  :
    Calls Tryd.prog 117 #[.string a0, .int .u8 c] w fun e w' => e = .returned (.int .i64 (Lib.indexByte a0.data.toList c.toNat.toUInt8)) ∧ w' = w := by
  go_enter Tryd.func117, Tryd.ntmps117
  go_wp2_with fail
  refine (stringslite_IndexByte.at _ _ _).mono ?_
  rintro e w' ⟨rfl, rfl⟩
  go_wp2
  go_ret
  exact ⟨rfl, rfl⟩

def letters : ByteArray := ⟨#[97, 98, 99, 100, 101, 102, 103, 104, 105, 106, 107, 108, 109, 110, 111, 112, 113, 114, 115, 116, 117, 118, 119, 120, 121, 122, 65, 66, 67, 68, 69, 70, 71, 72, 73, 74, 75, 76, 77, 78, 79, 80, 81, 82, 83, 84, 85, 86, 87, 88, 89, 90, 48, 49, 50, 51, 52, 53, 54, 55, 56, 57, 95]⟩

set_option maxHeartbeats 1000000 in
set_option maxRecDepth 100000 in
theorem strings_IndexRune.ascii (a0 : ByteArray) (c : Int) (h0 : 0 ≤ c) (h1 : c < 128) (w : World)  :
    Calls Tryd.prog 98 #[.string a0, .int .i32 c] w fun e w' => e = .returned (.int .i64 (Lib.indexByte a0.data.toList c.toNat.toUInt8)) ∧ w' = w := by
  have d0 : decide (0 ≤ c) = true := decide_eq_true h0
  have d1 : decide (c < 128) = true := decide_eq_true h1
  go_enter Tryd.func98, Tryd.ntmps98
  go_wp2_with (go_at_call 117; refine (strings_IndexByte.at _ _ _).mono ?_; rintro e w' ⟨rfl, hw⟩; rw [hw])
  go_ret
  exact ⟨rfl, rfl⟩

set_option maxHeartbeats 2000000 in
set_option maxRecDepth 100000 in
theorem strings_IndexRune.high (c : Int) (h0 : 128 ≤ c) (h1 : c < 161) (w : World)  :
    Calls Tryd.prog 98 #[.string letters, .int .i32 c] w fun e w' => e = .returned (.int .i64 (-1)) ∧ Drawn0 w w' := by
  have d0 : decide (0 ≤ c) = true := decide_eq_true (by omega)
  have d1 : decide (c < 128) = false := decide_eq_false (by omega)
  have d2 : (c == 65533) = false := by simp; omega
  have HV : Aside0 (utf8_ValidRune.f 1 c = some true) := ⟨by unfold utf8_ValidRune.f; rw [if_pos (by omega)]; simp [utf8_ValidRune.j0]; omega⟩
  have henc : Aside0 (Utf8.encode c = ⟨#[194, UInt8.ofNat c.toNat]⟩) := ⟨by
    obtain ⟨n, rfl⟩ := Int.eq_ofNat_of_zero_le (show 0 ≤ c by omega)
    have hv : Utf8.valid (n : Int) = true := by simp [Utf8.valid]; omega
    simp only [Utf8.encode, hv, if_true]
    rw [show ((n : Int)).toNat = n from rfl, if_neg (by omega), if_pos (by omega)]
    have e1 : (0xC0 + n / 64) = 194 := by omega
    have e2 : (0x80 + n % 64) = n := by omega
    rw [e1, e2]; rfl⟩
  have hne : ∀ b ∈ letters.data.toList, b.toNat < 128 := by decide
  go_enter Tryd.func98, Tryd.ntmps98
  go_wp2_with fail
  refine (utf8_ValidRune.calls 1 _ true _ HV.out).mono ?_
  rintro e w' ⟨rfl, ⟨nd, rfl⟩⟩
  go_wp2_with fail
  go_step3
  have he0 := henc.out
  clear henc
  obtain ⟨b, hb⟩ : ∃ b, UInt8.ofNat c.toNat = b := ⟨_, rfl⟩
  have hb2 : 128 ≤ b.toNat := by
    rw [← hb, UInt8.toNat_ofNat', Nat.mod_eq_of_lt (by omega)]; omega
  rw [hb] at he0
  have he : Utf8.encode c = ⟨#[194, b]⟩ := he0
  clear he0 hb
  have hsz : letters.size = 63 := by decide
  have hx1 : ∀ h, letters[1]'h = 98 := fun _ => rfl
  have hx2 : ∀ h, (⟨#[194, b]⟩ : ByteArray)[1]'h = b := fun _ => rfl
  have hidx : Lib.indexByte (List.take 61 (List.drop 2 letters.data.toList)) b = -1 := by
    have : ∀ l : List UInt8, (∀ x ∈ l, x.toNat < 128) → Lib.indexByte l b = -1 := by
      intro l hl
      induction l with
      | nil => rfl
      | cons a l ih =>
        unfold Lib.indexByte
        have ha := hl a (List.mem_cons_self ..)
        rw [if_neg (by simp; intro e; subst e; omega), ih fun x hx => hl x (List.mem_cons_of_mem _ hx)]
        rfl
    exact this _ (by decide)
  have hne98 : ((98 : Int) != (b.toNat : Int)) = true := by rw [bne_iff_ne]; omega
  go_wp2_with fail
  refine wp_loop_rounds 1 ?_
  rw [rounds_succ]
  go_wp2_with fail
  go_step3
  go_wp2_with fail
  go_quiet (fail)
  go_wp2_with fail
  go_quiet ((go_at_call 117; exact quiet_add_same (strings_IndexByte.at _ _ _)))
  go_wp2_with fail
  rw [Exit.noGoto_ret]
  go_wp2_with fail
  rw [Exit.noGoto_ret]
  go_wp2_with fail
  go_ret
  exact ⟨rfl, by repeat (first | exact Drawn0.refl _ | apply Drawn0.step)⟩

set_option maxHeartbeats 2000000 in
set_option maxRecDepth 100000 in
theorem strings_ContainsRune.ascii (a0 : ByteArray) (c : Int) (h0 : 0 ≤ c) (h1 : c < 128) (w : World)  :
    Calls Tryd.prog 65 #[.string a0, .int .i32 c] w fun e w' => e = .returned (.bool (decide (0 ≤ Lib.indexByte a0.data.toList c.toNat.toUInt8))) ∧ Drawn0 w w' := by
  go_enter Tryd.func65, Tryd.ntmps65
  go_wp2_with fail
  refine (strings_IndexRune.ascii _ _ h0 h1 _).mono ?_
  rintro e w' ⟨rfl, rfl⟩
  go_wp2_with fail
  go_ret
  exact ⟨rfl, Drawn0.refl _⟩

set_option maxHeartbeats 2000000 in
set_option maxRecDepth 100000 in
theorem strings_ContainsRune.high (c : Int) (h0 : 128 ≤ c) (h1 : c < 161) (w : World)  :
    Calls Tryd.prog 65 #[.string letters, .int .i32 c] w fun e w' => e = .returned (.bool false) ∧ Drawn0 w w' := by
  go_enter Tryd.func65, Tryd.ntmps65
  go_wp2_with fail
  refine (strings_IndexRune.high _ h0 h1 _).mono ?_
  rintro e w' ⟨rfl, ⟨nd, rfl⟩⟩
  go_wp2_with fail
  go_ret
  exact ⟨rfl, by repeat (first | exact Drawn0.refl _ | apply Drawn0.step)⟩

def isLetter (c : Int) : Bool := (97 ≤ c && c ≤ 122) || (65 ≤ c && c ≤ 90) || (48 ≤ c && c ≤ 57) || c == 95

theorem letters_ascii (c : Int) (h0 : 0 ≤ c) (h1 : c < 128) : decide (0 ≤ Lib.indexByte letters.data.toList c.toNat.toUInt8) = isLetter c := by
  have : ∀ n : Fin 128, decide (0 ≤ Lib.indexByte letters.data.toList n.val.toUInt8) = isLetter (n.val : Int) := by decide +kernel
  have := this ⟨c.toNat, by omega⟩
  simpa [Int.toNat_of_nonneg h0] using this

theorem strings_ContainsRune.letters (c : Int) (h0 : 0 ≤ c) (h1 : c < 161) (w : World)  :
    Calls Tryd.prog 65 #[.string letters, .int .i32 c] w fun e w' => e = .returned (.bool (isLetter c)) ∧ Drawn0 w w' := by
  by_cases h : c < 128
  · rw [← letters_ascii c h0 h]
    exact strings_ContainsRune.ascii _ c h0 h w
  · have : isLetter c = false := by unfold isLetter; simp; omega
    rw [this]
    exact strings_ContainsRune.high c (by omega) h1 w

def glyph_Name.l0 (s : ByteArray) : Nat → Nat → Option Bool
  | 0, _ => none
  | k + 1, pos => if pos < s.size then
      (if (Utf8.decode s pos).1 < 161 then
        (if isLetter ((Utf8.decode s pos).1 : Int) = true then glyph_Name.l0 s k (pos + (Utf8.decode s pos).2) else some false)
       else glyph_Name.l0 s k (pos + (Utf8.decode s pos).2))
    else some true
def glyph_Name.f (a0 : ByteArray) : Option Bool :=
  (glyph_Valid.f a0).bind fun v => if v = true then
    (if a0.toList.isEmpty = true then some false else (glyph_Count.f a0).bind fun n => if n > 24 then some false else glyph_Name.l0 a0 (a0.size + 1) 0)
  else some false

set_option maxHeartbeats 2000000 in
set_option maxRecDepth 100000 in
theorem glyph_Name.calls (a0 : ByteArray) (r : Bool) (w : World) (h : glyph_Name.f a0 = some r) :
    Calls Tryd.prog 30 #[.string a0] w fun e w' => e = .returned (.bool r) ∧ Below w.heap.size w w' := by
  unfold glyph_Name.f at h
  obtain ⟨v, hv, h⟩ := Option.bind_eq_some_iff.mp h
  have HV := Aside0.mk hv
  clear hv
  cases v with
  | false =>
    rw [if_neg (by decide)] at h
    obtain rfl := Option.some.inj h
    clear h
    go_enter Tryd.func30, Tryd.ntmps30
    go_wp2_with fail
    refine (glyph_Valid.calls _ false _ HV.out).mono ?_
    rintro e w1 ⟨rfl, hb1⟩
    go_wp2
    go_ret
    exact ⟨rfl, hb1⟩
  | true =>
    rw [if_pos rfl] at h
    cases hE : a0.toList.isEmpty with
    | true =>
      rw [hE, if_pos rfl] at h
      obtain rfl := Option.some.inj h
      clear h
      go_enter Tryd.func30, Tryd.ntmps30
      go_wp2_with fail
      refine (glyph_Valid.calls _ true _ HV.out).mono ?_
      rintro e w1 ⟨rfl, hb1⟩
      go_wp2
      go_ret
      exact ⟨rfl, hb1⟩
    | false =>
      rw [hE, if_neg (by decide)] at h
      obtain ⟨n, hn, h⟩ := Option.bind_eq_some_iff.mp h
      have HN := Aside0.mk hn
      clear hn
      by_cases hc : n > 24
      · rw [if_pos hc] at h
        obtain rfl := Option.some.inj h
        clear h
        have hc1 : decide (24 < n) = true := decide_eq_true hc
        clear hc
        go_enter Tryd.func30, Tryd.ntmps30
        go_wp2_with fail
        refine (glyph_Valid.calls _ true _ HV.out).mono ?_
        rintro e w1 ⟨rfl, hb1⟩
        go_wp2_with fail
        refine (glyph_Count.calls _ n _ HN.out).mono ?_
        rintro e w2 ⟨rfl, hb2⟩
        go_wp2
        go_ret
        exact ⟨rfl, below_step hb1 hb2⟩
      · rw [if_neg hc] at h
        have H' := Aside0.mk h
        clear h
        have hc1 : decide (24 < n) = false := decide_eq_false hc
        clear hc
        go_enter Tryd.func30, Tryd.ntmps30
        go_wp2_with fail
        refine (glyph_Valid.calls _ true _ HV.out).mono ?_
        rintro e w1 ⟨rfl, hb1⟩
        go_wp2_with fail
        refine (glyph_Count.calls _ n _ HN.out).mono ?_
        rintro e w2 ⟨rfl, hb2⟩
        have HB := Aside0.mk (below_step hb1 hb2)
        clear hb1 hb2 HN HV hE
        go_wp2_with fail
        go_loopg [4] (a0.size+1) (fun kq v4 w' => ∃ (pos : Nat) (m : Nat), Aside0 (glyph_Name.l0 a0 kq pos = some r) ∧ w' = (w2.iter a0 pos).drewN m)
        case atStart => exact ⟨0, 0, H', rfl⟩
        case round =>
          clear H'
          obtain ⟨pos, m, HA, rfl⟩ := hrel
          cases gk with
          | zero => exact absurd HA.out (by simp [glyph_Name.l0])
          | succ k1 =>
            have H := HA.out
            clear HA
            simp only [glyph_Name.l0] at H
            by_cases hlt : pos < a0.size
            · rw [if_pos hlt] at H
              have hnx := fun ty => run_next_any_d (P := Tryd.prog) w2 m a0 pos ty hlt
              by_cases hc : (Utf8.decode a0 pos).1 < 161
              · rw [if_pos hc] at H
                have hd1 : decide (((Utf8.decode a0 pos).1 : Int) < 161) = true := decide_eq_true (by omega)
                have HC : Aside0 (((Utf8.decode a0 pos).1 : Int) < 161) := ⟨by omega⟩
                clear hc
                cases hL : isLetter ((Utf8.decode a0 pos).1 : Int) with
                | true =>
                  rw [hL, if_pos rfl] at H
                  have HN := Aside0.mk H
                  have HL := Aside0.mk hL
                  clear H hL
                  go_wp2_with fail
                  refine (strings_ContainsRune.letters _ (by omega) HC.out _).mono ?_
                  rintro e w' ⟨rfl, ⟨nd, rfl⟩⟩
                  have hL := HL.out
                  clear HL
                  go_wp2
                  go_roundg k1
                  case measure => omega
                  case rel => exact ⟨_, _, HN, rfl⟩
                | false =>
                  rw [hL, if_neg (by decide)] at H
                  obtain rfl := Option.some.inj H
                  have HL := Aside0.mk hL
                  clear H hL
                  go_wp2_with fail
                  refine (strings_ContainsRune.letters _ (by omega) HC.out _).mono ?_
                  rintro e w' ⟨rfl, ⟨nd, rfl⟩⟩
                  have hL := HL.out
                  clear HL
                  go_wp2
                  go_ret
                  exact ⟨rfl, pw_below_drewN (below_alloc HB.out _) _⟩
              · rw [if_neg hc] at H
                have HN := Aside0.mk H
                have hd1 : decide (((Utf8.decode a0 pos).1 : Int) < 161) = false := decide_eq_false (by omega)
                clear hc H
                go_wp2
                go_roundg k1
                case measure => omega
                case rel => exact ⟨_, _, HN, rfl⟩
            · rw [if_neg hlt] at H
              obtain rfl := Option.some.inj H
              have hnx := fun ty => run_next_end_d (P := Tryd.prog) w2 m a0 pos ty hlt
              go_wp2
              go_ret
              exact ⟨rfl, pw_below_drewN (below_alloc HB.out _) _⟩

end
section
-- @GIVEN@ 25
/-! ### strings_Cut: by hand -/
-- GIVEN strings.Cut rounds=0 making=1 helper=1
--import Derived.Test.YtkgnhghaiopgcaaDoorAid
--import Derived.Deep.DrawnRows
--import Derived.Lib.Strings
open Go.Proofs.YtkgnhghaiopgcaaDoor.Aid
attribute [local go_sem ↓] Go.wp_at_zero Go.wp_at_succ

set_option maxHeartbeats 1000000 in
set_option maxRecDepth 100000 in
theorem stringslite_Index.one (t : ByteArray) (c : UInt8) (w : World) :
    Calls Tryd.prog 130 #[.string t, .string ⟨#[c]⟩] w fun e w' => e = .returned (.int .i64 (Lib.indexByte t.data.toList c)) ∧ w' = w := by
  have hi : ∀ h, (⟨#[c]⟩ : ByteArray)[0]'h = c := fun _ => rfl
  have hcc : (c.toNat : Int).toNat.toUInt8 = c := by simp
  by_cases he : t.toList = [c]
  · have h1 : ([c] == t.toList) = true := by rw [he]; simp
    have h2 : Aside0 (Lib.indexByte t.data.toList c = 0) := ⟨by rw [← Lib.toList_data, he]; simp [Lib.indexByte]⟩
    have hee := Aside0.mk he
    clear he
    go_enter Tryd.func130, Tryd.ntmps130
    go_wp2_with fail
    go_ret
    exact ⟨by rw [h2.out]; rfl, rfl⟩
  · have h1 : ([c] == t.toList) = false := by simpa using fun e => he e.symm
    clear he
    go_enter Tryd.func130, Tryd.ntmps130
    go_wp2_with fail
    refine (stringslite_IndexByte.at _ _ _).mono ?_
    rintro e w' ⟨rfl, rfl⟩
    go_wp2_with fail
    go_ret
    exact ⟨rfl, rfl⟩

/-- strings.Cut at a separator of one byte: the first part's length. -/
def uptoByte (c : UInt8) : List UInt8 → Nat
  | [] => 0
  | b :: r => if b = c then 0 else uptoByte c r + 1

theorem indexByte_upto (c : UInt8) (l : List UInt8) : (Lib.indexByte l c = -1 ∧ uptoByte c l = l.length) ∨ (Lib.indexByte l c = (uptoByte c l : Int) ∧ uptoByte c l < l.length) := by
  induction l with
  | nil => exact .inl ⟨rfl, rfl⟩
  | cons b r ih =>
    unfold Lib.indexByte uptoByte
    by_cases h : b = c
    · rw [if_pos (by simp [h]), if_pos h]; exact .inr ⟨rfl, by simp⟩
    · rw [if_neg (by simp [h]), if_neg h]
      rcases ih with ⟨h1, h2⟩ | ⟨h1, h2⟩
      · rw [h1, if_pos (by decide), h2]; exact .inl ⟨rfl, rfl⟩
      · rw [h1, if_neg (by simp)]; exact .inr ⟨by omega, by simp; omega⟩

set_option maxHeartbeats 1000000 in
set_option maxRecDepth 100000 in
theorem stringslite_Cut.one (t : ByteArray) (c : UInt8) (w : World) (hs : t.size ≤ 9223372036854775806) :
    Calls Tryd.prog 116 #[.string t, .string ⟨#[c]⟩] w fun e w' => (e = if uptoByte c t.data.toList < t.size then .returned (.tuple #[.string (t.extract 0 (uptoByte c t.data.toList)), .string (t.extract (uptoByte c t.data.toList + 1) t.size), .bool true])
      else .returned (.tuple #[.string t, .string ⟨#[]⟩, .bool false])) ∧ Drawn0 w w' := by
  have hlen : t.data.toList.length = t.size := by rw [Array.length_toList]; rfl
  rcases indexByte_upto c t.data.toList with ⟨h1, h2⟩ | ⟨h1, h2⟩
  · rw [if_neg (by omega)]
    have H1 := Aside0.mk h1
    clear h1 h2 hlen
    go_enter Tryd.func116, Tryd.ntmps116
    go_wp2_with fail
    refine (stringslite_Index.one _ _ _).mono ?_
    rintro e w' ⟨rfl, rfl⟩
    rw [H1.out]
    go_wp2_with fail
    go_ret3
    exact ⟨rfl, Drawn0.refl _⟩
  · rw [if_pos (by omega)]
    have H1 := Aside0.mk h1
    obtain ⟨i, hi⟩ : ∃ i, i = uptoByte c t.data.toList := ⟨_, rfl⟩
    rw [← hi] at h1 h2 H1 ⊢
    rw [hlen] at h2
    clear h1 hi hlen
    have b1 : (0 : Int) ≤ (i : Int) := by omega
    have b2 : (i : Int) ≤ t.size := by omega
    have b3 : (0 : Int) ≤ (i : Int) + 1 := by omega
    have b4 : (i : Int) + 1 ≤ t.size := by omega
    have b5 : IntKind.i64.wrap ((i : Int) + 1) = (i : Int) + 1 := by rw [IntKind.wrap_i64]; omega
    go_enter Tryd.func116, Tryd.ntmps116
    go_wp2_with fail
    refine (stringslite_Index.one _ _ _).mono ?_
    rintro e w' ⟨rfl, rfl⟩
    rw [H1.out]
    go_wp2_with fail
    go_quiet (fail)
    go_wp2
    go_ret3
    exact ⟨rfl, by repeat (first | exact Drawn0.refl _ | apply Drawn0.step)⟩

theorem uptoByte_le (c : UInt8) (l : List UInt8) : uptoByte c l ≤ l.length := by
  induction l with
  | nil => exact Nat.le_refl _
  | cons b r ih => unfold uptoByte; split <;> simp <;> omega

set_option maxHeartbeats 1000000 in
theorem strings_Cut.one (t : ByteArray) (c : UInt8) (hs : t.size ≤ 9223372036854775806) :
    ∃ x y f, x.size = uptoByte c t.data.toList ∧ ∀ w : World, Calls Tryd.prog 94 #[.string t, .string ⟨#[c]⟩] w fun e w' => e = .returned (.tuple #[.string x, .string y, .bool f]) ∧ Drawn0 w w' := by
  have hlen : t.data.toList.length = t.size := by rw [Array.length_toList]; rfl
  have hle := uptoByte_le c t.data.toList
  rw [hlen] at hle
  by_cases h : uptoByte c t.data.toList < t.size
  · refine ⟨t.extract 0 (uptoByte c t.data.toList), t.extract (uptoByte c t.data.toList + 1) t.size, true, by rw [ByteArray.size_extract]; omega, fun w => ?_⟩
    have HH := Aside0.mk h
    clear h hle hlen
    go_enter Tryd.func94, Tryd.ntmps94
    go_wp2_with fail
    refine (stringslite_Cut.one t c _ hs).mono ?_
    rintro e w' ⟨he, ⟨nd, rfl⟩⟩
    rw [if_pos HH.out] at he
    subst he
    clear HH
    go_wp2_with fail
    go_ret3
    exact ⟨rfl, by repeat (first | exact Drawn0.refl _ | apply Drawn0.step)⟩
  · refine ⟨t, ⟨#[]⟩, false, by omega, fun w => ?_⟩
    have HH := Aside0.mk h
    clear h hle hlen
    go_enter Tryd.func94, Tryd.ntmps94
    go_wp2_with fail
    refine (stringslite_Cut.one t c _ hs).mono ?_
    rintro e w' ⟨he, ⟨nd, rfl⟩⟩
    rw [if_neg HH.out] at he
    subst he
    clear HH
    go_wp2_with fail
    go_ret3
    exact ⟨rfl, by repeat (first | exact Drawn0.refl _ | apply Drawn0.step)⟩

end
end Go.Proofs.YtkgnhghaiopgcaaDoor.X
