/- A row of bytes that comes in as an argument, as the laws' walks read it; no condition. -/
import Derived.Test.YtkgnhghaiopgcaaDoorX0
import Derived.ChangeMaps
import Derived.SliceStrings
import Derived.SizedLaws
import Derived.OpenShut
set_option linter.unusedVariables false
set_option linter.unusedSimpArgs false
namespace Go.Proofs.YtkgnhghaiopgcaaDoor.Wk
open Go.RowKit Go.Proofs.YtkgnhghaiopgcaaDoorW.PrintWords Go.Proofs.YtkgnhghaiopgcaaDoorW.PrintLast Go.ChangeMaps Go.ChangeShapes Go.WideShapes

/-- A slice of bytes, as it lies. -/
structure ByteRow (w : World) (a : Option Addr) (len cap : Nat) (zs : List Int) : Prop where
  hl : zs.length = len
  hc : len ≤ cap
  hm : cap ≤ 9223372036854775807
  cells : ∀ j, j < len → ∃ ad, a = some ad ∧ w.cell? (ad.add j) = some (.int .u8 (zs.getD j 0))
  wf : ∀ n ∈ zs, 0 ≤ n ∧ n ≤ 255
theorem ByteRow.below {w w1 : World} {a : Option Addr} {len cap : Nat} {zs : List Int} (h : ByteRow w a len cap zs) (hb : Below w.heap.size w w1) : ByteRow w1 a len cap zs :=
  ⟨h.hl, h.hc, h.hm, fun j hj => by
    obtain ⟨ad, e, hc⟩ := h.cells j hj
    exact ⟨ad, e, pw_cell_below hb hc⟩, h.wf⟩
theorem byteRow_of {H : Type} {enc : TypeId × Value → H} {P : Program} {W : World} {base : Nat} {spare : Nat → Bool} {held : Bool} {t e : TypeId} {a : Option Addr} {len cap : Nat} {d : DataW H} {ps : List MemPlace}
    (hu : P.underlying t = some (.slice e)) (he : P.underlying e = some (.int .u8)) (hc : P.cellsOf e = 1)
    (h : DataW.Trod enc P W base spare held t (.slice a len cap) d ps) : ∃ zs, ByteRow W a len cap zs := by
  obtain ⟨fuel, hf⟩ := h
  rcases open_ints hu he hc hf with ⟨hcs, _⟩ | ⟨x, l, c, zs, hcs, _, hl, hm, hz, _, hcell, hwz⟩
  · simp [Value.cells] at hcs
    obtain ⟨rfl, rfl, rfl⟩ := hcs
    exact ⟨[], rfl, Nat.le_refl _, by omega, fun j hj => by omega, by simp⟩
  · simp [Value.cells] at hcs
    obtain ⟨rfl, rfl, rfl⟩ := hcs
    have hz' : len ≤ zs.length := by rw [hz]; split <;> omega
    refine ⟨zs.take len, by rw [List.length_take]; omega, hl, by unfold maxLen at hm; omega, fun j hj => ⟨x, rfl, ?_⟩, fun n hn => ?_⟩
    · rw [hcell j (by omega), List.getD_eq_getElem?_getD, List.getD_eq_getElem?_getD, List.getElem?_take, if_pos hj]
    · have := hwz n (List.mem_of_mem_take hn)
      rw [Lit.wf, Bool.and_eq_true, decide_eq_true_eq, decide_eq_true_eq] at this
      exact this
end Go.Proofs.YtkgnhghaiopgcaaDoor.Wk
