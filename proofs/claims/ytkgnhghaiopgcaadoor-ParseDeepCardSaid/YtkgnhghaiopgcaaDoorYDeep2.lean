-- Written by a program of this session (wip/tools/drive.py) for this seat, partly by the kit's print.py; some functions by hand.
import Derived.Test.YtkgnhghaiopgcaaDoorYDeep0
import Derived.Test.YtkgnhghaiopgcaaDoorPu
import Derived.Test.YtkgnhghaiopgcaaDoorPwd
namespace Go.Proofs.YtkgnhghaiopgcaaDoor.YDeep
open Go.RowKit Go.Proofs.YtkgnhghaiopgcaaDoorW.PrintWords Go.Proofs.YtkgnhghaiopgcaaDoorW.PrintLast Go.Proofs.YtkgnhghaiopgcaaDoorW.PrintMore
attribute [local go_sem] max2_int min2_int max_two min_two max_three min_three max_four min_four   -- for this text's walks alone
open Go.Proofs.YtkgnhghaiopgcaaDoor.Kx
set_option linter.unusedVariables false
set_option linter.unusedSimpArgs false

section
-- @GIVEN@ 32
/-! ### doormanlaw07_awake: function 32 -/
-- GIVEN doorman/doormanlaw07.awake rounds=0 making=1 keys=1
--import Derived.Test.YtkgnhghaiopgcaaDoorPu
def doormanlaw07_awake.f : Option Bool := some true
theorem doormanlaw07_awake.calls (r : Bool) (w : World) (hK : Aside0 (Aid.KeysIn w)) (h : doormanlaw07_awake.f = some r) :
    Calls Tryd.prog 32 #[] w fun e w' => e = .returned (.bool r) ∧ Below w.heap.size w w' := by
  obtain rfl := Option.some.inj h
  exact Pu.awake_calls w hK

end
section
-- @GIVEN@ 33
/-! ### parse_Parse: function 33 -/
-- GIVEN doorman/parse.Parse rounds=0 making=1 keys=1
--import Derived.Test.YtkgnhghaiopgcaaDoorPwd
open Go.Proofs.YtkgnhghaiopgcaaDoor.Gl Go.Proofs.YtkgnhghaiopgcaaDoor.GlFn Go.Proofs.YtkgnhghaiopgcaaDoor.Tk Go.Proofs.YtkgnhghaiopgcaaDoor.Ps Go.Proofs.YtkgnhghaiopgcaaDoor.Pw

/-- What package parse tells of a text, as the printed functions have it. -/
def parse_Parse.f (a0 : ByteArray) : Option (List S53 × Int × Int) :=
  match Ps.parse (L a0) with
  | none => none
  | some (.ok X) => some (X, 0, 0)
  | some (.error e) => some ([], e.1, (e.2 : Int))

theorem parse_Parse.calls (a0 : ByteArray) (r0 : List S53) (r1 r2 : Int) (w : World) (hK : Aside0 (Aid.KeysIn w)) (h : parse_Parse.f a0 = some (r0, r1, r2)) :
    Calls Tryd.prog 33 #[.string a0] w fun e w' => ∃ v0_ : Value, e = .returned (.tuple #[.agg #[v0_], .int .i64 r1, .int .i64 r2]) ∧ Kd.R k53 53 w' w.heap.size (fun _ => True) v0_ r0 ∧ Below w.heap.size w w' := by
  unfold parse_Parse.f at h
  split at h
  · exact absurd h (by simp)
  · rename_i X hX
    simp only [Option.some.injEq, Prod.mk.injEq] at h
    obtain ⟨rfl, rfl, rfl⟩ := h
    refine (Parse_calls a0 rfl hX w hK).mono ?_
    intro e w' he
    obtain ⟨v, rfl, hv, hb⟩ := he
    exact ⟨v, rfl, hv, hb⟩
  · rename_i er hX
    simp only [Option.some.injEq, Prod.mk.injEq] at h
    obtain ⟨rfl, rfl, rfl⟩ := h
    refine (Parse_calls a0 rfl hX w hK).mono ?_
    intro e w' he
    obtain ⟨rfl, hb⟩ := he
    exact ⟨_, rfl, Kd.R_nil _ _ _ _ _, hb⟩

end
end Go.Proofs.YtkgnhghaiopgcaaDoor.YDeep
