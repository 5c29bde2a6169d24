/- The listed table of keys: what the row's condition gives the walks, and that the door's own run lays it. -/
import Derived.Test.YtkgnhghaiopgcaaDoorRows
import Derived.Test.YtkgnhghaiopgcaaDoorAid
import Derived.ProofKit
import Derived.LaidMore
import Derived.SliceStrings
import Derived.OpenShut
set_option linter.unusedVariables false
set_option linter.unusedSimpArgs false
namespace Go.Proofs.YtkgnhghaiopgcaaDoor.Door
open Go.ChangeShapes Go.WideShapes Go.ChangeAt Go.RowKit

abbrev lk : List (String × DataW Unit) := [("doorman/token.keys", Rows.laid_doorman_token_keys)]
theorem gKeys : Tryd.prog.globalNamed "doorman/token.keys" = some 0 := by kernel_rfl
theorem tKeys : (Tryd.prog.globals[0]?).map (·.type) = some 39 := by kernel_rfl
theorem door_met (os : Os) (args : Array Value) : laidMetH Tryd.prog lk ((World.doorLaid Tryd.prog 400 os).forCall (fun _ _ => 0) ⟨#[], args, []⟩).memory :=
  laidMetH_of_parts3 (fuel := 8) (laidMet_of_run' 8 (by kernel_rfl) (by kernel_rfl)) (by kernel_rfl) (by kernel_rfl)

theorem of_laid {W : World} (h : laidMetH Tryd.prog lk W) : Aid.KeysIn W := by
  rw [MakeChecks.laidMetH_plain _ _ _ (by kernel_rfl)] at h
  obtain ⟨ps, ⟨g0, t0, cs0, f0, p0, q0, hg0, ht0, hv0, hd0, _, _⟩, _, _⟩ := h
  obtain rfl := Option.some.inj (gKeys.symm.trans hg0)
  obtain rfl := Option.some.inj (tKeys.symm.trans ht0)
  rcases open_strings Tryd.underlying39 Tryd.underlying9 (by kernel_rfl) hd0 with ⟨_, hx⟩ | ⟨a, len, cap, ss, hcs, _, hlc, _, hsl, hx, hcell, _⟩
  · simp [Rows.laid_doorman_token_keys] at hx
  have hcell0 : W.cell? ⟨0, 0, none⟩ = some (.slice (some a) len cap) := by
    have := World.var?_cell hg0 hv0 0
    rw [Array.eq_one_of_toList hcs] at this
    simpa using this
  simp only [Rows.laid_doorman_token_keys, Prod.mk.injEq, DataW.slice.injEq] at hx
  obtain ⟨⟨hx1, hx2⟩, _⟩ := hx
  have hle : len ≤ ss.length := by rw [hsl]; split <;> omega
  have hdr : ss.drop len = [] := by simpa [strs] using hx2.symm
  have hss : ss.take len = ss := by
    have := List.take_append_drop len ss
    rwa [hdr, List.append_nil] at this
  rw [hss] at hx1
  have e := congrArg (List.map fun d : DataW Unit => match d with | .lit (.string s) => s | _ => []) hx1
  simp only [strs, List.map_cons, List.map_nil, List.map_map] at e
  have hk : ss = Aid.keysL := by
    have inj : ∀ {x : ByteArray} {l : List UInt8}, l = x.data.toList → x = ⟨l.toArray⟩ := fun h => by
      rename_i x l
      subst h
      cases x; simp
    match ss, e with
    | [x0, x1, x2, x3], e =>
      simp only [List.map_cons, List.map_nil, List.cons.injEq, Function.comp_apply] at e
      obtain ⟨e0, e1, e2, e3, _⟩ := e
      rw [inj e0, inj e1, inj e2, inj e3]; rfl
    | [], e => simp at e
    | [_], e => simp at e
    | [_, _], e => simp at e
    | [_, _, _], e => simp at e
    | _ :: _ :: _ :: _ :: _ :: _, e => simp at e
  have hl4 : ss.length = 4 := by rw [hk]; rfl
  have hlen : len = 4 := by
    have := congrArg List.length hss
    rw [List.length_take] at this; omega
  subst hlen
  have h0 := hcell 0 (by omega)
  refine ⟨a, cap, hlc, World.block_lt_of_cell? _ _ hcell0, ?_, hcell0, fun j p hj => ?_⟩
  · have := World.block_lt_of_cell? _ _ h0
    unfold Addr.add at this; split at this <;> exact this
  · have hjl : j < ss.length := by rw [hk]; exact (List.getElem?_eq_some_iff.1 hj).1
    rw [hcell j hjl, hk, List.getD_eq_getElem?_getD, hj]; rfl

end Go.Proofs.YtkgnhghaiopgcaaDoor.Door
