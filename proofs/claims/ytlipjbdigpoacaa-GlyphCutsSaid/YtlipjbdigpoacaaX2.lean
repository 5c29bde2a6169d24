-- Written by a program of this session (wip/tools/drive.py) for this seat, partly by the kit's print.py; some functions by hand.
import Derived.Test.YtlipjbdigpoacaaX0
import Derived.Test.YtlipjbdigpoacaaAid
namespace Go.Proofs.Ytlipjbdigpoacaa.X
open Go.RowKit Go.Proofs.YtlipjbdigpoacaaW.PrintWords Go.Proofs.YtlipjbdigpoacaaW.PrintLast Go.Proofs.YtlipjbdigpoacaaW.PrintMore
attribute [local go_sem] max2_int min2_int max_two min_two max_three min_three max_four min_four   -- for this text's walks alone
set_option linter.unusedVariables false
set_option linter.unusedSimpArgs false

-- @GIVEN@ 12
/-! ### glyph_Where: function 12 -/
-- GIVEN doorman/glyph.Where rounds=0 making=1
--import Derived.Test.YtlipjbdigpoacaaAid
open Go.Proofs.Ytlipjbdigpoacaa.Aid
/-- Where -/
def glyph_Where.l0 (s : ByteArray) (at_ : Int) : Nat → Nat → Int → Int → Option (Int × Int)
  | 0, _, _, _ => none
  | k + 1, pos, line, col => if pos < s.size then
      (if at_ ≤ (pos : Int) then some (line, col)
       else if (Utf8.decode s pos).1 = 10 then glyph_Where.l0 s at_ k (pos + (Utf8.decode s pos).2) (wrap64 (line + 1)) 1
       else glyph_Where.l0 s at_ k (pos + (Utf8.decode s pos).2) line (wrap64 (col + 1)))
    else some (line, col)
def glyph_Where.f (a0 : ByteArray) (a1 : Int) : Option (Int × Int) := glyph_Where.l0 a0 a1 (a0.size + 1) 0 1 1

set_option maxHeartbeats 1000000 in
theorem glyph_Where.calls (a0 : ByteArray) (a1 : Int) (r1 r2 : Int) (w : World) (h : glyph_Where.f a0 a1 = some (r1, r2)) :
    Calls Try.prog 12 #[.string a0, .int .i64 a1] w fun e w' => e = .returned (.tuple #[.int .i64 r1, .int .i64 r2]) ∧ Below w.heap.size w w' := by
  have H' := Aside0.mk h
  clear h
  go_enter Try.func12, Try.ntmps12
  go_wp2
  go_loopg [6, 7, 8, 9] (a0.size+1) (fun kq v6 v7 v8 v9 w' => ∃ (pos : Nat) (line col : Int), v6 = .int .i64 line ∧ v7 = .int .i64 col ∧ Aside0 (glyph_Where.l0 a0 a1 kq pos line col = some (r1, r2)) ∧ w' = (w.iter a0 pos).drewN 0)
  case atStart => exact ⟨0, 1, 1, rfl, rfl, H', rfl⟩
  case round =>
    obtain ⟨pos, line, col, rfl, rfl, HA, rfl⟩ := hrel
    cases gk with
    | zero => exact absurd HA.out (by simp [glyph_Where.l0])
    | succ k1 =>
      have H := HA.out
      clear HA
      simp only [glyph_Where.l0] at H
      by_cases hlt : pos < a0.size
      · rw [if_pos hlt] at H
        have hnx := fun ty => run_next_any_d (P := Try.prog) w 0 a0 pos ty hlt
        by_cases hc : a1 ≤ pos
        · rw [if_pos hc] at H
          obtain ⟨rfl, rfl⟩ := Prod.mk.inj (Option.some.inj H)
          clear H
          have hc1 : decide (a1 ≤ (pos : Int)) = true := decide_eq_true hc
          clear hc
          go_wp2
          go_ret2
          exact ⟨rfl, pw_below_drewN ((Below.refl _ _).alloc (Nat.le_refl _) _) _⟩
        · rw [if_neg hc] at H
          have hc1 : decide (a1 ≤ (pos : Int)) = false := decide_eq_false hc
          clear hc
          by_cases hd : (Utf8.decode a0 pos).1 = 10
          · rw [if_pos hd] at H
            have hd1 : (((Utf8.decode a0 pos).1 : Int) == 10) = true := by rw [hd]; rfl
            clear hd
            have HN := Aside0.mk H
            clear H
            go_wp2
            go_roundg k1
            case measure => omega
            case rel => exact ⟨_, _, _, rfl, rfl, HN, rfl⟩
          · rw [if_neg hd] at H
            have hd1 : (((Utf8.decode a0 pos).1 : Int) == 10) = false := by simp; omega
            clear hd
            have HN := Aside0.mk H
            clear H
            go_wp2
            go_roundg k1
            case measure => omega
            case rel => exact ⟨_, _, _, rfl, rfl, HN, rfl⟩
      · rw [if_neg hlt] at H
        obtain ⟨rfl, rfl⟩ := Prod.mk.inj (Option.some.inj H)
        have hnx := fun ty => run_next_end_d (P := Try.prog) w 0 a0 pos ty hlt
        go_wp2
        go_ret2
        exact ⟨rfl, pw_below_drewN ((Below.refl _ _).alloc (Nat.le_refl _) _) _⟩

end Go.Proofs.Ytlipjbdigpoacaa.X
