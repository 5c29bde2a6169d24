/- For all texts ParseTwo returns true: the pure statement. No condition. -/
import Derived.Test.YtkgnhghaiopgcaaDoorYTwo4
import Derived.Test.YtkgnhghaiopgcaaDoorOf
import Derived.Test.YtkgnhghaiopgcaaDoorPt
set_option linter.unusedVariables false
set_option linter.unusedSimpArgs false
namespace Go.Proofs.YtkgnhghaiopgcaaDoor.Pure
open Go.RowKit Go.Proofs.YtkgnhghaiopgcaaDoor.YTwo Go.Proofs.YtkgnhghaiopgcaaDoor.Kx Go.Proofs.YtkgnhghaiopgcaaDoor.Ps Go.Proofs.YtkgnhghaiopgcaaDoor.Pv Go.Proofs.YtkgnhghaiopgcaaDoor.Pl Go.Proofs.YtkgnhghaiopgcaaDoor.Of Go.Proofs.YtkgnhghaiopgcaaDoor.GlFn Go.Proofs.YtkgnhghaiopgcaaDoorW.PrintWords Go.Proofs.YtkgnhghaiopgcaaDoorW.PrintLast

theorem ob {α β : Type} (a : α) (f : α → Option β) : (some a).bind f = f a := by cases h : f a <;> simp [h]
theorem parse_f_ok {a : ByteArray} {X : List ST} (h : parse (L a) = some (.ok X)) : parse_Parse.f a = some (X, 0, 0) := by unfold parse_Parse.f; rw [h]
theorem parse_f_err {a : ByteArray} {e : Er} (h : parse (L a) = some (.error e)) : parse_Parse.f a = some ([], e.1, (e.2 : Int)) := by unfold parse_Parse.f; rw [h]
theorem L_two (a b : ByteArray) : L ((a ++ (⟨#[10]⟩ : ByteArray)) ++ b) = L a ++ 10 :: L b := by simp [L, ByteArray.data_append]
theorem two_j1 (X Y : List ST) (hX : Small X) (hY : Small Y) (hZ : Small (X ++ Y)) (k : Nat) : doormanlaw07_ParseTwo.j1 (k + 1) 0 false X Y (X ++ Y) = some true := by
  have hl : (X.map toT).length + (Y.map toT).length < 3518437208883 := by have := hX.1; have := hY.1; simp only [List.length_map]; omega
  rw [doormanlaw07_ParseTwo.j1, if_neg (by decide), doormanlaw07_of.tells hX, ob, doormanlaw07_of.tells hY, ob, if_pos hl, if_pos rfl, doormanlaw07_of.tells hZ, ob, List.map_append, doormanref07_Same.refl, ob]
theorem two_err (k : Nat) (e : Int) (X Y Z : List ST) : doormanlaw07_ParseTwo.j1 (k + 1) e true X Y Z = some true := by
  rw [doormanlaw07_ParseTwo.j1, if_pos rfl]
theorem parse_ne {l : List UInt8} {e : Er} (h : parse l = some (.error e)) (hl : l.length ≤ 2048) : e.1 ≠ 0 := (Go.Proofs.YtkgnhghaiopgcaaDoor.Pz.parse_err h hl).1
theorem ParseTwo : doormanlaw07_ParseTwo.Pure := by
  intro a b ha hb
  unfold doormanlaw07_ParseTwo.f
  rw [show doormanlaw07_awake.f = some true from rfl]
  simp only [ob, if_true]
  by_cases c1 : (a.size : Int) > 900
  · refine ⟨1, ?_⟩
    rw [if_pos c1, doormanlaw07_ParseTwo.j0, if_pos rfl]
  by_cases c2 : (b.size : Int) > 900
  · refine ⟨1, ?_⟩
    rw [if_neg c1, doormanlaw07_ParseTwo.j0, if_pos (decide_eq_true c2)]
  have la : (L a).length = a.size := by simp [L]
  have lb : (L b).length = b.size := by simp [L]
  have s1 : (⟨#[10]⟩ : ByteArray).size = 1 := rfl
  have s2 : (a ++ (⟨#[10]⟩ : ByteArray)).size = a.size + 1 := by rw [ByteArray.size_append]; rfl
  obtain ⟨ra, hra⟩ := parse_some (L a)
  obtain ⟨rb, hrb⟩ := parse_some (L b)
  obtain ⟨rz, hrz⟩ := parse_some (L ((a ++ (⟨#[10]⟩ : ByteArray)) ++ b))
  have key : ∃ k, doormanlaw07_ParseTwo.j0 k a b (decide ((b.size : Int) > 900)) = some true := by
    cases rb with
    | error eb =>
      have hb0 := parse_ne hrb (by omega)
      refine ⟨2, ?_⟩
      rw [doormanlaw07_ParseTwo.j0, if_neg (by simpa using c2)]
      have hz : ∃ z, parse_Parse.f ((a ++ (⟨#[10]⟩ : ByteArray)) ++ b) = some z := by
        cases rz with
        | error e => exact ⟨_, parse_f_err hrz⟩
        | ok Z => exact ⟨_, parse_f_ok hrz⟩
      obtain ⟨z, hz⟩ := hz
      have hx : ∃ x, parse_Parse.f a = some x := by
        cases ra with
        | error e => exact ⟨_, parse_f_err hra⟩
        | ok Z => exact ⟨_, parse_f_ok hra⟩
      obtain ⟨x, hx⟩ := hx
      rw [hx, ob, parse_f_err hrb, ob, if_pos (by omega), if_pos (by omega), hz, ob]
      have hbn : (eb.1 != 0) = true := by simpa using hb0
      dsimp only
      rw [hbn]
      split <;> exact two_err _ _ _ _ _
    | ok Y =>
      cases ra with
      | error ea =>
        have ha0 := parse_ne hra (by omega)
        have hz : ∃ z, parse_Parse.f ((a ++ (⟨#[10]⟩ : ByteArray)) ++ b) = some z := by
          cases rz with
          | error e => exact ⟨_, parse_f_err hrz⟩
          | ok Z => exact ⟨_, parse_f_ok hrz⟩
        obtain ⟨z, hz⟩ := hz
        refine ⟨2, ?_⟩
        rw [doormanlaw07_ParseTwo.j0, if_neg (by simpa using c2), parse_f_err hra, ob, parse_f_ok hrb, ob, if_pos (by omega), if_pos (by omega), hz, ob]
        dsimp only
        rw [if_neg ha0]
        exact two_err _ _ _ _ _
      | ok X =>
        have hz := two hra hrb (by omega)
        rw [← L_two] at hz
        refine ⟨2, ?_⟩
        rw [doormanlaw07_ParseTwo.j0, if_neg (by simpa using c2), parse_f_ok hra, ob, parse_f_ok hrb, ob, if_pos (by omega), if_pos (by omega), parse_f_ok hz, ob]
        exact two_j1 X Y (parse_small hra) (parse_small hrb) (parse_small hz) 0
  obtain ⟨k, hk⟩ := key
  exact ⟨k, by rw [if_neg c1]; exact hk⟩

end Go.Proofs.YtkgnhghaiopgcaaDoor.Pure
