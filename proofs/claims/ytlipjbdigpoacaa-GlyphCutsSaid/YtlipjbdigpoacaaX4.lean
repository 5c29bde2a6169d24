-- Written by a program of this session (wip/tools/drive.py) for this seat, partly by the kit's print.py; some functions by hand.
import Derived.Test.YtlipjbdigpoacaaX0
import Derived.Test.YtlipjbdigpoacaaX3
import Derived.Test.YtlipjbdigpoacaaAid
namespace Go.Proofs.Ytlipjbdigpoacaa.X
open Go.RowKit Go.Proofs.YtlipjbdigpoacaaW.PrintWords Go.Proofs.YtlipjbdigpoacaaW.PrintLast Go.Proofs.YtlipjbdigpoacaaW.PrintMore
attribute [local go_sem] max2_int min2_int max_two min_two max_three min_three max_four min_four   -- for this text's walks alone
set_option linter.unusedVariables false
set_option linter.unusedSimpArgs false

-- @GIVEN@ 14
/-! ### glyph_Valid: function 14 -/
-- GIVEN doorman/glyph.Valid rounds=0 making=1
--import Derived.Test.YtlipjbdigpoacaaAid
open Go.Proofs.Ytlipjbdigpoacaa.Aid
def glyph_Valid.l0 (s : ByteArray) : Nat → Nat → Option Bool
  | 0, _ => none
  | k + 1, pos => if pos < s.size then
      (if (Utf8.decode s pos).1 = 65533 then
        (strings_HasPrefix.f (s.extract pos s.size) ⟨#[239, 191, 189]⟩).bind fun b => if b = true then glyph_Valid.l0 s k (pos + (Utf8.decode s pos).2) else some false
       else glyph_Valid.l0 s k (pos + (Utf8.decode s pos).2))
    else some true

def glyph_Valid.f (a0 : ByteArray) : Option Bool := glyph_Valid.l0 a0 (a0.size + 1) 0

set_option maxHeartbeats 1000000 in
theorem glyph_Valid.calls (a0 : ByteArray) (r : Bool) (w : World) (h : glyph_Valid.f a0 = some r) :
    Calls Try.prog 14 #[.string a0] w fun e w' => e = .returned (.bool r) ∧ Below w.heap.size w w' := by
  have H' := Aside0.mk h
  clear h
  go_enter Try.func14, Try.ntmps14
  go_wp2
  go_loopg [3, 4] (a0.size+1) (fun kq v3 v4 w' => ∃ (pos : Nat) (m : Nat), Aside0 (glyph_Valid.l0 a0 kq pos = some r) ∧ w' = (w.iter a0 pos).drewN m)
  case atStart => exact ⟨0, 0, H', rfl⟩
  case round =>
    obtain ⟨pos, m, HA, rfl⟩ := hrel
    cases gk with
    | zero => exact absurd HA.out (by simp [glyph_Valid.l0])
    | succ k1 =>
      have H := HA.out
      clear HA
      simp only [glyph_Valid.l0] at H
      by_cases hlt : pos < a0.size
      · rw [if_pos hlt] at H
        have hnx := fun ty => run_next_any_d (P := Try.prog) w m a0 pos ty hlt
        by_cases hc : (Utf8.decode a0 pos).1 = 65533
        · rw [if_pos hc] at H
          obtain ⟨b, hb, H⟩ := Option.bind_eq_some_iff.mp H
          have HB := Aside0.mk hb
          have hc1 : (((Utf8.decode a0 pos).1 : Int) == 65533) = true := by rw [hc]; rfl
          clear hc hb
          cases b with
          | true =>
            rw [if_pos rfl] at H
            have HN := Aside0.mk H
            clear H
            go_wp2_with fail
            refine (strings_HasPrefix.calls _ _ true _ HB.out).mono ?_
            rintro e w' ⟨rfl, ⟨nd, rfl⟩⟩
            go_wp2
            go_roundg k1
            case measure => omega
            case rel => exact ⟨_, _, HN, rfl⟩
          | false =>
            rw [if_neg (by decide)] at H
            obtain rfl := Option.some.inj H
            clear H
            go_wp2_with fail
            refine (strings_HasPrefix.calls _ _ false _ HB.out).mono ?_
            rintro e w' ⟨rfl, ⟨nd, rfl⟩⟩
            go_wp2
            go_ret
            exact ⟨rfl, pw_below_drewN ((Below.refl _ _).alloc (Nat.le_refl _) _) _⟩
        · rw [if_neg hc] at H
          have HN := Aside0.mk H
          have hc1 : (((Utf8.decode a0 pos).1 : Int) == 65533) = false := by simp; omega
          clear hc H
          go_wp2
          go_roundg k1
          case measure => omega
          case rel => exact ⟨_, _, HN, rfl⟩
      · rw [if_neg hlt] at H
        obtain rfl := Option.some.inj H
        have hnx := fun ty => run_next_end_d (P := Try.prog) w m a0 pos ty hlt
        go_wp2
        go_ret
        exact ⟨rfl, pw_below_drewN ((Below.refl _ _).alloc (Nat.le_refl _) _) _⟩

end Go.Proofs.Ytlipjbdigpoacaa.X
