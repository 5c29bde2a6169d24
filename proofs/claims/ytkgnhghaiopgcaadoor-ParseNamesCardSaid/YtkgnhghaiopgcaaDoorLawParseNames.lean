/- The row of ParseNames and its card, over the walk of the law's code. -/
import Derived.Test.YtkgnhghaiopgcaaDoorRows
import Derived.Test.YtkgnhghaiopgcaaDoorCards
import Derived.Test.YtkgnhghaiopgcaaDoorTie
import Derived.Test.YtkgnhghaiopgcaaDoorDoor
import Derived.Test.YtkgnhghaiopgcaaDoorFctA
import Derived.Test.YtkgnhghaiopgcaaDoorFctB
import Derived.Test.YtkgnhghaiopgcaaDoorFctC
import Derived.Test.YtkgnhghaiopgcaaDoorFctD
import Derived.Test.YtkgnhghaiopgcaaDoorWkParseNames
import Derived.SevenTiedAt
import Derived.LaidMore
import Derived.Handed
import Derived.WalkKit
import Derived.ProofKit
import Derived.OpenShut
import Derived.ShutString
import Derived.ChangeOld
import Derived.Below
import Derived.SizedLaws
namespace Go.Proofs.YtkgnhghaiopgcaaDoor.parseNames
open Go.ChangeShapes Go.WideShapes Go.ChangeAt Go.RowKit
open Go.ChangeMaps (open_string shut_string)
set_option linter.unusedVariables false
theorem own : ownKnob Tryd.prog.godebug = none := by kernel_rfl
theorem laidOut : laidOutB Tryd.prog = true := by kernel_rfl
set_option maxRecDepth 100000 in
theorem lifted (os : Os) (started : os.Started) (H : Type) (enc : TypeId × Value → H) :
    ReturnsInHanded {} Tryd.checked os 13 .any (fun w args => (Rows.parseNamesSpec.pre enc Tryd.prog Tryd.f13 [] false w args ∧ laidMetH Tryd.prog Door.lk w) ∧ sizedMet enc Tryd.prog Tryd.f13 (OpenSpec.ofChange Rows.parseNamesSpec) false w args) (Rows.parseNamesSpec.post enc Tryd.prog Tryd.f13 false true false false) := by
  refine returnsInHanded_of_change_and (C := Tryd.checked) (X := fun w _ => laidMetH Tryd.prog Door.lk w) (fun _ _ _ hh h => h.of_heap hh) own started (by kernel_rfl) Tryd.func13
    (ChangeSpec.witness_shaped (enc := enc) (C := Tryd.checked) (os := os) (X := fun w _ => laidMetH Tryd.prog Door.lk w) false (World.doorLaid Tryd.prog 400 os) #[.slice none 0 0, .int .u8 0] 8 rfl (World.shaped_of_RefB (by kernel_rfl) (by kernel_rfl)) (by kernel_rfl) (by kernel_rfl) (by kernel_rfl) (Door.door_met os _)) ?_
  intro W base args ds gs before hval0 hW hcnd hsz0 hL _
  have hsz : (DataW.weightsEach Tryd.prog (Tryd.f13.params.toList ++ Rows.parseNamesSpec.plain.varTypes Tryd.prog) (ds ++ gs)).all (· ≤ reachBytes) = true := hsz0
  have hval : ∀ (j : Nat) t v, Tryd.f13.params[j]? = some t → args[j]? = some v → Value.okWide Tryd.prog W .any base t v := hval0
  have hW' := hW
  obtain ⟨p, q, hA0, hV, rfl, hfz, hnd⟩ := hW
  have hA : DataW.TrodAll enc Tryd.prog W 0 (fun _ => true) true Tryd.f13.params.toList args.toList ds p := hA0
  rw [Tryd.params13] at hA hval hsz
  obtain ⟨v0, vs0, d0, ds0, p0, q0, hargs, rfl, rfl, h0, r0⟩ := trodAll_cons hA
  obtain ⟨v1, vs1, d1, ds1, p1, q1, rfl, rfl, rfl, h1, r1⟩ := trodAll_cons r0
  obtain ⟨rfl, rfl, rfl⟩ := trodAll_nil r1
  obtain rfl : args = #[v0, v1] := by cases args; simp_all
  obtain ⟨rfl, rfl⟩ := trodVars_none hV
  obtain ⟨a0, len0, cap0, rfl⟩ := okWide_slice Tryd.underlying39 (hval 0 39 v0 rfl rfl)
  have k0 := h0
  have lt0 : ∀ x ∈ p0, x.block < W.heap.size := by obtain ⟨m, hm⟩ := k0; exact DataW.trod_lt m _ _ _ hm
  obtain ⟨z0, w0⟩ := Wk.strRow_of hsz (j := 0) (t := 39) rfl rfl Tryd.underlying39 Tryd.underlying9 (by kernel_rfl) (by kernel_rfl) h0
  obtain ⟨a1, rfl, rfl, rfl, w1⟩ := open_int Tryd.underlying5 (hval 1 5 v1 rfl rfl) h1
  clear hA0 hval0 hsz0 hsz
  refine (Wk.ParseNames a0 len0 cap0 z0 a1 W ⟨Door.of_laid hL⟩ w0 w1).mono fun e W' ⟨he, bel⟩ => ?_
  subst he
  exact ⟨_, rfl, _, _, _, [], _, [], hW', trodAll_mk1 (shut_bool Tryd.underlying4 _), (trodAll_cons_mk (Below.trod laidOut (by kernel_rfl) (of_decide_eq_true (by kernel_rfl)) k0 bel lt0) (trodAll_cons_mk (shut_int Tryd.underlying5 w1) trodAll_mk0)), rfl, bel.frame _, fun h => by cases h⟩
set_option maxRecDepth 100000 in
set_option maxHeartbeats 4000000 in
theorem closed : joinedFacts Tryd.pinned.checked.prog 13 Tryd.f13 Rows.parseNamesSpec Rows.parseNamesRow = true := by
  have hB : (Rows.parseNamesRow.lifted == Tryd.pinned.checked.prog.liftsFinal) = true := Fct.liftsFinal
  have hC : (Tryd.pinned.checked.prog.make == some Rows.parseNamesRow.make) = true := Fct.make_
  unfold joinedFacts
  simp only [Bool.and_eq_true]
  and_intros
  all_goals first | (with_reducible exact Fct.mayEnter) | (with_reducible exact hB) | (with_reducible exact hC) | as_aux_lemma => kernel_rfl
theorem over : Rows.parseNamesRow.holds Tryd.pinned (OpenSpec.ofChange Rows.parseNamesSpec) :=
  OpenClaim.holds_of_wide 13 Tryd.f13 rfl rfl rfl rfl rfl rfl rfl ⟨rfl, rfl, rfl, rfl, rfl⟩ rfl rfl rfl rfl rfl (by kernel_rfl) Tryd.func13 closed
    (of_decide_eq_true (by kernel_rfl)) (by unfold Func.isWrapper; first | (rw [if_pos (by decide +kernel)]; kernel_rfl) | (rw [if_neg (by decide +kernel)]; exact ⟨rfl, rfl⟩))
    (fun os started H enc _ => lifted os started H enc)
theorem proved : Rows.ParseNamesSaid := over
theorem wf_ : Rows.parseNamesRow.wfByText (OpenSpec.ofChange Rows.parseNamesSpec) = true := by kernel_rfl
theorem main_ : Tryd.pinned.checked.prog.mainIs = some (true, "7b661440b5aae90047754a37ea86839fd8a03a7f002c3a4a48eefa1bf2659ddf".toList) := by kernel_rfl
theorem goes_ : false = Rows.parseNamesRow.goesBy Tryd.pinned.checked.prog := by kernel_rfl
theorem name_ : Tryd.prog.funcNamed "doorman/doormanlaw07.ParseNames" = some 13 := by kernel_rfl
theorem wants_ : (([39, 5] : List Nat).all fun u => !Tryd.prog.wantsStandIn u) = true := by kernel_rfl
theorem looks_ : ∀ f fn, Tryd.pinned.checked.prog.funcNamed Rows.parseNamesRow.func = some f → Tryd.pinned.checked.prog.funcs[f]? = some fn → true = Tryd.pinned.checked.prog.looks [] ∧ ∀ (j : Nat) t, fn.params[j]? = some t → Tryd.pinned.checked.prog.wantsStandIn t = false := by
  intro f fn hf hfn
  obtain rfl : f = 13 := Option.some.inj (name_.symm.trans hf) |>.symm
  obtain rfl : fn = Tryd.f13 := (Option.some.inj (Tryd.func13.symm.trans hfn)).symm
  refine ⟨Fct.looks_, fun j t ht => ?_⟩
  rw [Tryd.params13] at ht
  have hm : t ∈ ([39, 5] : List Nat) := by simpa using Array.mem_of_getElem? ht
  exact (show Tryd.prog.wantsStandIn t = false by simpa using List.all_eq_true.1 wants_ t hm)
theorem card_holds : Rows.ParseNamesCardSaid :=
  Claim7.holds_tied_plain_at .later [] [.widerDeep] true (true, "7b661440b5aae90047754a37ea86839fd8a03a7f002c3a4a48eefa1bf2659ddf") true
    proved (fun _ h => by cases h) wf_ (fun _ h => by cases h) parseNames_row_tie rfl ⟨rfl, rfl⟩ main_ rfl looks_ goes_
#print axioms card_holds
end Go.Proofs.YtkgnhghaiopgcaaDoor.parseNames
namespace Go.Proofs.YtkgnhghaiopgcaaDoor
/-- The row, under a short name, for the claim. -/
theorem parseNames_holds : Rows.ParseNamesCardSaid := parseNames.card_holds
end Go.Proofs.YtkgnhghaiopgcaaDoor
