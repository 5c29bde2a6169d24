/- The row of ParseTells and its card, over the walk of the law's code. -/
import Derived.Test.YtkgnhghaiopgcaaDoorRows
import Derived.Test.YtkgnhghaiopgcaaDoorCards
import Derived.Test.YtkgnhghaiopgcaaDoorTie
import Derived.Test.YtkgnhghaiopgcaaDoorDoor
import Derived.Test.YtkgnhghaiopgcaaDoorFctA
import Derived.Test.YtkgnhghaiopgcaaDoorFctB
import Derived.Test.YtkgnhghaiopgcaaDoorFctC
import Derived.Test.YtkgnhghaiopgcaaDoorFctD
import Derived.Test.YtkgnhghaiopgcaaDoorWkParseTells
import Derived.SevenTiedAt
import Derived.LaidMore
import Derived.Handed
import Derived.WalkKit
import Derived.ProofKit
import Derived.OpenShut
import Derived.ShutString
import Derived.ChangeOld
import Derived.Below
import Derived.SizedLaws
namespace Go.Proofs.YtkgnhghaiopgcaaDoor.parseTells
open Go.ChangeShapes Go.WideShapes Go.ChangeAt Go.RowKit
open Go.ChangeMaps (open_string shut_string)
set_option linter.unusedVariables false
theorem own : ownKnob Tryd.prog.godebug = none := by kernel_rfl
set_option maxRecDepth 100000 in
theorem lifted (os : Os) (started : os.Started) (H : Type) (enc : TypeId × Value → H) :
    ReturnsInHanded {} Tryd.checked os 9 .any (fun w args => (Rows.parseTellsSpec.pre enc Tryd.prog Tryd.f9 [] false w args ∧ laidMetH Tryd.prog Door.lk w) ∧ sizedMet enc Tryd.prog Tryd.f9 (OpenSpec.ofChange Rows.parseTellsSpec) false w args) (Rows.parseTellsSpec.post enc Tryd.prog Tryd.f9 false true false false) := by
  refine returnsInHanded_of_change_and (C := Tryd.checked) (X := fun w _ => laidMetH Tryd.prog Door.lk w) (fun _ _ _ hh h => h.of_heap hh) own started (by kernel_rfl) Tryd.func9
    (ChangeSpec.witness_shaped (enc := enc) (C := Tryd.checked) (os := os) (X := fun w _ => laidMetH Tryd.prog Door.lk w) false (World.doorLaid Tryd.prog 400 os) #[.string ByteArray.empty] 8 rfl (World.shaped_of_RefB (by kernel_rfl) (by kernel_rfl)) (by kernel_rfl) (by kernel_rfl) (by kernel_rfl) (Door.door_met os _)) ?_
  intro W base args ds gs before hval0 hW hcnd hsz0 hL _
  have hsz : (DataW.weightsEach Tryd.prog (Tryd.f9.params.toList ++ Rows.parseTellsSpec.plain.varTypes Tryd.prog) (ds ++ gs)).all (· ≤ reachBytes) = true := hsz0
  have hval : ∀ (j : Nat) t v, Tryd.f9.params[j]? = some t → args[j]? = some v → Value.okWide Tryd.prog W .any base t v := hval0
  have hW' := hW
  obtain ⟨p, q, hA0, hV, rfl, hfz, hnd⟩ := hW
  have hA : DataW.TrodAll enc Tryd.prog W 0 (fun _ => true) true Tryd.f9.params.toList args.toList ds p := hA0
  rw [Tryd.params9] at hA hval hsz
  obtain ⟨v0, vs0, d0, ds0, p0, q0, hargs, rfl, rfl, h0, r0⟩ := trodAll_cons hA
  obtain ⟨rfl, rfl, rfl⟩ := trodAll_nil r0
  obtain rfl : args = #[v0] := by cases args; simp_all
  obtain ⟨rfl, rfl⟩ := trodVars_none hV
  obtain ⟨a0, rfl, rfl, rfl, y0⟩ := open_string Tryd.underlying9 (hval 0 9 v0 rfl rfl) h0
  have w0 : a0.size ≤ 140737488351232 := by
    have z := sized_string hsz (j := 0) (t := 9) rfl rfl
    rw [Array.length_toList] at z
    exact z
  clear hA0 hval0 hsz0 hsz
  refine (Wk.ParseTells a0 W ⟨Door.of_laid hL⟩ w0).mono fun e W' ⟨he, bel⟩ => ?_
  subst he
  exact ⟨_, rfl, _, _, _, [], _, [], hW', trodAll_mk1 (shut_bool Tryd.underlying4 _), (trodAll_cons_mk (shut_string Tryd.underlying9 y0) trodAll_mk0), rfl, bel.frame _, fun h => by cases h⟩
set_option maxRecDepth 100000 in
set_option maxHeartbeats 4000000 in
theorem closed : joinedFacts Tryd.pinned.checked.prog 9 Tryd.f9 Rows.parseTellsSpec Rows.parseTellsRow = true := by
  have hB : (Rows.parseTellsRow.lifted == Tryd.pinned.checked.prog.liftsFinal) = true := Fct.liftsFinal
  have hC : (Tryd.pinned.checked.prog.make == some Rows.parseTellsRow.make) = true := Fct.make_
  unfold joinedFacts
  simp only [Bool.and_eq_true]
  and_intros
  all_goals first | (with_reducible exact Fct.mayEnter) | (with_reducible exact hB) | (with_reducible exact hC) | as_aux_lemma => kernel_rfl
theorem over : Rows.parseTellsRow.holds Tryd.pinned (OpenSpec.ofChange Rows.parseTellsSpec) :=
  OpenClaim.holds_of_wide 9 Tryd.f9 rfl rfl rfl rfl rfl rfl rfl ⟨rfl, rfl, rfl, rfl, rfl⟩ rfl rfl rfl rfl rfl (by kernel_rfl) Tryd.func9 closed
    (of_decide_eq_true (by kernel_rfl)) (by unfold Func.isWrapper; first | (rw [if_pos (by decide +kernel)]; kernel_rfl) | (rw [if_neg (by decide +kernel)]; exact ⟨rfl, rfl⟩))
    (fun os started H enc _ => lifted os started H enc)
theorem proved : Rows.ParseTellsSaid := over
theorem wf_ : Rows.parseTellsRow.wfByText (OpenSpec.ofChange Rows.parseTellsSpec) = true := by kernel_rfl
theorem main_ : Tryd.pinned.checked.prog.mainIs = some (true, "7b661440b5aae90047754a37ea86839fd8a03a7f002c3a4a48eefa1bf2659ddf".toList) := by kernel_rfl
theorem goes_ : false = Rows.parseTellsRow.goesBy Tryd.pinned.checked.prog := by kernel_rfl
theorem name_ : Tryd.prog.funcNamed "doorman/doormanlaw07.ParseTells" = some 9 := by kernel_rfl
theorem wants_ : (([9] : List Nat).all fun u => !Tryd.prog.wantsStandIn u) = true := by kernel_rfl
theorem looks_ : ∀ f fn, Tryd.pinned.checked.prog.funcNamed Rows.parseTellsRow.func = some f → Tryd.pinned.checked.prog.funcs[f]? = some fn → true = Tryd.pinned.checked.prog.looks [] ∧ ∀ (j : Nat) t, fn.params[j]? = some t → Tryd.pinned.checked.prog.wantsStandIn t = false := by
  intro f fn hf hfn
  obtain rfl : f = 9 := Option.some.inj (name_.symm.trans hf) |>.symm
  obtain rfl : fn = Tryd.f9 := (Option.some.inj (Tryd.func9.symm.trans hfn)).symm
  refine ⟨Fct.looks_, fun j t ht => ?_⟩
  rw [Tryd.params9] at ht
  have hm : t ∈ ([9] : List Nat) := by simpa using Array.mem_of_getElem? ht
  exact (show Tryd.prog.wantsStandIn t = false by simpa using List.all_eq_true.1 wants_ t hm)
theorem card_holds : Rows.ParseTellsCardSaid :=
  Claim7.holds_tied_plain_at .later [] [.widerDeep] true (true, "7b661440b5aae90047754a37ea86839fd8a03a7f002c3a4a48eefa1bf2659ddf") true
    proved (fun _ h => by cases h) wf_ (fun _ h => by cases h) parseTells_row_tie rfl ⟨rfl, rfl⟩ main_ rfl looks_ goes_
#print axioms card_holds
end Go.Proofs.YtkgnhghaiopgcaaDoor.parseTells
namespace Go.Proofs.YtkgnhghaiopgcaaDoor
/-- The row, under a short name, for the claim. -/
theorem parseTells_holds : Rows.ParseTellsCardSaid := parseTells.card_holds
end Go.Proofs.YtkgnhghaiopgcaaDoor
