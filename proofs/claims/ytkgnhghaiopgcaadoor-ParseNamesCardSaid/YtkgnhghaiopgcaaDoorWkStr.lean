/- A row of strings that comes in as an argument, as the laws' walks read it; no condition. -/
import Derived.Test.YtkgnhghaiopgcaaDoorX0
import Derived.ChangeMaps
import Derived.SliceStrings
import Derived.SizedLaws
import Derived.OpenShut
set_option linter.unusedVariables false
set_option linter.unusedSimpArgs false
namespace Go.Proofs.YtkgnhghaiopgcaaDoor.Wk
open Go.RowKit Go.Proofs.YtkgnhghaiopgcaaDoorW.PrintWords Go.Proofs.YtkgnhghaiopgcaaDoorW.PrintLast Go.ChangeMaps Go.ChangeShapes Go.WideShapes

/-- A slice of strings, as it lies. -/
structure StrRow (w : World) (a : Option Addr) (len cap : Nat) (ss : List ByteArray) : Prop where
  hl : ss.length = len
  hc : len ≤ cap
  hm : cap ≤ 9223372036854775807
  hb : len * 16 ≤ 140737488351232
  cells : ∀ j, j < len → ∃ ad, a = some ad ∧ w.cell? (ad.add j) = some (.string (ss.getD j ByteArray.empty))
  sz : ∀ s ∈ ss, s.size ≤ 140737488351232
theorem StrRow.below {w w1 : World} {a : Option Addr} {len cap : Nat} {ss : List ByteArray} (h : StrRow w a len cap ss) (hb : Below w.heap.size w w1) : StrRow w1 a len cap ss :=
  ⟨h.hl, h.hc, h.hm, h.hb, fun j hj => by
    obtain ⟨ad, e, hc⟩ := h.cells j hj
    exact ⟨ad, e, pw_cell_below hb hc⟩, h.sz⟩
theorem mem_weightsAll {H : Type} {P : Program} {e : TypeId} {x : DataW H} {n : Nat} : ∀ {l : List (DataW H)}, x ∈ l → n ∈ x.weights P e → n ∈ DataW.weightsAll P e l
  | [], h, _ => by simp at h
  | y :: l, h, hn => by
    rw [DataW.weightsAll, List.mem_append]
    rcases List.mem_cons.1 h with rfl | h
    · exact .inl hn
    · exact .inr (mem_weightsAll h hn)
theorem strRow_of {H : Type} {enc : TypeId × Value → H} {P : Program} {W : World} {base : Nat} {spare : Nat → Bool} {held : Bool} {t e : TypeId} {a : Option Addr} {len cap : Nat} {d : DataW H} {ps : List MemPlace} {ts : List TypeId} {ds : List (DataW H)} {j : Nat}
    (hsz : (DataW.weightsEach P ts ds).all (· ≤ reachBytes) = true) (ht : ts[j]? = some t) (hd : ds[j]? = some d) (hu : P.underlying t = some (.slice e)) (he : P.underlying e = some .string) (hc : P.cellsOf e = 1) (hB : P.bytesOf e = 16)
    (h : DataW.Trod enc P W base spare held t (.slice a len cap) d ps) : ∃ ss, StrRow W a len cap ss := by
  obtain ⟨fuel, hf⟩ := h
  rcases open_strings hu he hc hf with ⟨hcs, _⟩ | ⟨x, l, c, ss, hcs, _, hl, hm, hlen, hx, hcell, hwz⟩
  · simp [Value.cells] at hcs
    obtain ⟨rfl, rfl, rfl⟩ := hcs
    exact ⟨[], rfl, Nat.le_refl _, by omega, by omega, fun j hj => by omega, by simp⟩
  · simp [Value.cells] at hcs
    obtain ⟨rfl, rfl, rfl⟩ := hcs
    injection hx with hd2 _
    subst hd2
    have hle : len ≤ ss.length := by rw [hlen]; split <;> omega
    have hs := sized_slice hsz ht hd hu
    have hr := reachBytes_lt
    have hR : reachBytes = 140737488351232 := rfl
    have hlt : (strs (H := H) (ss.take len)).length = len := by simp [strs]; omega
    rw [hlt, hB] at hs
    refine ⟨ss.take len, by rw [List.length_take]; omega, hl, by unfold maxLen at hm; omega, ?_, ?_, ?_⟩
    · have := Nat.le_trans (Nat.mul_le_mul_right 16 (Nat.le_add_right len _)) hs
      omega
    · intro j hj
      refine ⟨x, rfl, ?_⟩
      rw [hcell j (by omega), List.getD_eq_getElem?_getD, List.getD_eq_getElem?_getD, List.getElem?_take, if_pos hj]
    · intro s hm2
      have hw : s.data.toList.length ∈ (DataW.slice (strs (ss.take len)) (strs (ss.drop len)) : DataW H).weights P t := by
        rw [DataW.weights, hu]
        refine List.mem_cons_of_mem _ (List.mem_append_left _ (mem_weightsAll (x := .lit (.string s.data.toList)) ?_ ?_))
        · exact List.mem_map.2 ⟨s, hm2, rfl⟩
        · simp [DataW.weights]
      have := List.all_eq_true.1 hsz _ (DataW.weights_mem_each ht hd _ hw)
      have h2 : s.data.toList.length ≤ reachBytes := by simpa using this
      rw [Array.length_toList] at h2
      exact h2
end Go.Proofs.YtkgnhghaiopgcaaDoor.Wk
