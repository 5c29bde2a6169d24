-- Written by a program of this session (wip/tools/drive.py) for this seat, partly by the kit's print.py; some functions by hand.
import Derived.Test.YtlipjbdigpoacaaX0
import Derived.Test.YtlipjbdigpoacaaAid
namespace Go.Proofs.Ytlipjbdigpoacaa.X
open Go.RowKit Go.Proofs.YtlipjbdigpoacaaW.PrintWords Go.Proofs.YtlipjbdigpoacaaW.PrintLast Go.Proofs.YtlipjbdigpoacaaW.PrintMore
attribute [local go_sem] max2_int min2_int max_two min_two max_three min_three max_four min_four   -- for this text's walks alone
set_option linter.unusedVariables false
set_option linter.unusedSimpArgs false

-- @GIVEN@ 10
/-! ### glyph_Cut: function 10 -/
-- GIVEN doorman/glyph.Cut rounds=0 making=1
--import Derived.Test.YtlipjbdigpoacaaAid
open Go.Proofs.Ytlipjbdigpoacaa.Aid
/-- Cut -/
def glyph_Cut.l0 (s : ByteArray) (n : Int) : Nat → Nat → Int → Option (ByteArray × ByteArray)
  | 0, _, _ => none
  | k + 1, pos, j => if pos < s.size then
      (if n ≤ j then some (s.extract 0 pos, s.extract pos s.size) else glyph_Cut.l0 s n k (pos + (Utf8.decode s pos).2) (wrap64 (j + 1)))
    else some (s, ⟨#[]⟩)
def glyph_Cut.f (a0 : ByteArray) (a1 : Int) : Option (ByteArray × ByteArray) := glyph_Cut.l0 a0 a1 (a0.size + 1) 0 0

set_option maxHeartbeats 1000000 in
theorem glyph_Cut.calls (a0 : ByteArray) (a1 : Int) (r1 r2 : ByteArray) (w : World) (h : glyph_Cut.f a0 a1 = some (r1, r2)) :
    Calls Try.prog 10 #[.string a0, .int .i64 a1] w fun e w' => e = .returned (.tuple #[.string r1, .string r2]) ∧ Below w.heap.size w w' := by
  have H' := Aside0.mk h
  clear h
  go_enter Try.func10, Try.ntmps10
  go_wp2
  go_loopg [6, 7] (a0.size+1) (fun kq v6 v7 w' => ∃ (pos : Nat) (j : Int), v6 = .int .i64 j ∧ Aside0 (glyph_Cut.l0 a0 a1 kq pos j = some (r1, r2)) ∧ w' = (w.iter a0 pos).drewN 0)
  case atStart => exact ⟨0, 0, rfl, H', rfl⟩
  case round =>
    obtain ⟨pos, j, rfl, HA, rfl⟩ := hrel
    cases gk with
    | zero => exact absurd HA.out (by simp [glyph_Cut.l0])
    | succ k1 =>
      have H := HA.out
      clear HA
      simp only [glyph_Cut.l0] at H
      by_cases hlt : pos < a0.size
      · rw [if_pos hlt] at H
        have hnx := fun ty => run_next_any_d (P := Try.prog) w 0 a0 pos ty hlt
        by_cases hc : a1 ≤ j
        · rw [if_pos hc] at H
          obtain ⟨rfl, rfl⟩ := Prod.mk.inj (Option.some.inj H)
          clear H
          have hc1 : decide (a1 ≤ j) = true := decide_eq_true hc
          have hle : (pos : Int) ≤ a0.size := by omega
          have hle2 : pos ≤ a0.size := by omega
          clear hc
          go_wp2
          go_quiet (fail)
          go_wp2
          go_ret2
          exact ⟨rfl, pw_below_drewN ((Below.refl _ _).alloc (Nat.le_refl _) _) _⟩
        · rw [if_neg hc] at H
          have HN := Aside0.mk H
          have hc1 : decide (a1 ≤ j) = false := decide_eq_false hc
          clear hc H
          go_wp2
          go_roundg k1
          case measure => omega
          case rel => exact ⟨_, _, rfl, HN, rfl⟩
      · rw [if_neg hlt] at H
        obtain ⟨rfl, rfl⟩ := Prod.mk.inj (Option.some.inj H)
        have hnx := fun ty => run_next_end_d (P := Try.prog) w 0 a0 pos ty hlt
        go_wp2
        go_ret2
        exact ⟨rfl, pw_below_drewN ((Below.refl _ _).alloc (Nat.le_refl _) _) _⟩


end Go.Proofs.Ytlipjbdigpoacaa.X
