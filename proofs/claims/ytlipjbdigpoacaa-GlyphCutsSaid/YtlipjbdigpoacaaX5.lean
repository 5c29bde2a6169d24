-- Written by a program of this session (wip/tools/drive.py) for this seat, partly by the kit's print.py; some functions by hand.
import Derived.Test.YtlipjbdigpoacaaX0
import Derived.Test.YtlipjbdigpoacaaAid
namespace Go.Proofs.Ytlipjbdigpoacaa.X
open Go.RowKit Go.Proofs.YtlipjbdigpoacaaW.PrintWords Go.Proofs.YtlipjbdigpoacaaW.PrintLast Go.Proofs.YtlipjbdigpoacaaW.PrintMore
attribute [local go_sem] max2_int min2_int max_two min_two max_three min_three max_four min_four   -- for this text's walks alone
set_option linter.unusedVariables false
set_option linter.unusedSimpArgs false

-- @GIVEN@ 16
/-! ### glyph_Count: function 16 -/
-- GIVEN doorman/glyph.Count rounds=0 making=1
--import Derived.Test.YtlipjbdigpoacaaAid
open Go.Proofs.Ytlipjbdigpoacaa.Aid

def glyph_Count.l0 (s : ByteArray) : Nat → Nat → Int → Option Int
  | 0, _, _ => none
  | k + 1, pos, n => if pos < s.size then glyph_Count.l0 s k (pos + (Utf8.decode s pos).2) (wrap64 (n + 1)) else some n

def glyph_Count.f (a0 : ByteArray) : Option Int := glyph_Count.l0 a0 (a0.size + 1) 0 0

set_option maxHeartbeats 1000000 in
theorem glyph_Count.calls (a0 : ByteArray) (r : Int) (w : World) (h : glyph_Count.f a0 = some r) :
    Calls Try.prog 16 #[.string a0] w fun e w' => e = .returned (.int .i64 r) ∧ Below w.heap.size w w' := by
  have H' := Aside0.mk h
  clear h
  go_enter Try.func16, Try.ntmps16
  go_wp2
  go_loopg [3] (a0.size+1) (fun kq v3 w' => ∃ (pos : Nat) (n : Int), v3 = .int .i64 n ∧ Aside0 (glyph_Count.l0 a0 kq pos n = some r) ∧ w' = w.iter a0 pos)
  case atStart => exact ⟨0, 0, rfl, H', rfl⟩
  case round =>
    obtain ⟨pos, n, rfl, HA, rfl⟩ := hrel
    cases gk with
    | zero => exact absurd HA.out (by simp [glyph_Count.l0])
    | succ k1 =>
      have H := HA.out
      clear HA
      simp only [glyph_Count.l0] at H
      by_cases hlt : pos < a0.size
      · rw [if_pos hlt] at H
        have HN := Aside0.mk H
        clear H
        have hnx := fun ty => run_next_any (P := Try.prog) w a0 pos ty hlt
        go_wp2
        go_roundg k1
        case measure => omega
        case rel => exact ⟨_, _, rfl, HN, rfl⟩
      · rw [if_neg hlt] at H
        obtain rfl := Option.some.inj H
        have hnx := fun ty => run_next_end (P := Try.prog) w a0 pos ty hlt
        go_wp2
        go_ret
        exact ⟨rfl, (Below.refl _ _).alloc (Nat.le_refl _) _⟩

end Go.Proofs.Ytlipjbdigpoacaa.X
