/- What holds of a schema that is right: plain Lean, no program walked; no condition. -/
import Derived.Test.YtkgnhghaiopgcaaDoorCk
set_option linter.unusedVariables false
set_option linter.unusedSimpArgs false
namespace Go.Proofs.YtkgnhghaiopgcaaDoor.Cl
open Go.Proofs.YtkgnhghaiopgcaaDoor.X Go.Proofs.YtkgnhghaiopgcaaDoor.Kx Go.Proofs.YtkgnhghaiopgcaaDoor.Ps Go.Proofs.YtkgnhghaiopgcaaDoor.Ck

theorem find_at {α : Type} {p : α → Bool} {xs : List α} {j : Nat} (hj : j < xs.length) (h0 : (xs.take j).find? p = none) (h1 : p xs[j] = true) : xs.find? p = some xs[j] := by
  have h : xs.take j ++ xs[j] :: xs.drop (j + 1) = xs := by rw [← List.drop_eq_getElem_cons hj, List.take_append_drop]
  have h2 : (xs.take j ++ xs[j] :: xs.drop (j + 1)).find? p = some xs[j] := by
    rw [List.find?_append, h0, Option.none_or, List.find?_cons, h1]
  rw [h] at h2
  exact h2
theorem any_none {α : Type} {p : α → Bool} {xs : List α} (h : xs.any p = false) : xs.find? p = none := by
  rw [List.find?_eq_none]
  intro x hx
  have := List.any_eq_false.1 h x hx
  simpa using this
theorem relF_none (t : ST) : ∀ (n k : Nat), n + k = t.f1.length → relF t (t.f1.drop k) k = none → ∀ j, k ≤ j → ∀ h : j < t.f1.length, hasR (t.f1.take j) (t.f1[j]).f0 = false ∧ (t.f1[j]).f5.length ≤ 16
  | 0, k, hn, _, j, hj, h => by omega
  | n + 1, k, hn, hr, j, hj, h => by
    have hk : k < t.f1.length := by omega
    rw [List.drop_eq_getElem_cons hk, relF] at hr
    split at hr
    · exact absurd hr (by simp)
    · rename_i h1
      split at hr
      · exact absurd hr (by simp)
      · rename_i h2
        by_cases e : j = k
        · subst e; exact ⟨by simpa using h1, by omega⟩
        · exact relF_none t n (k + 1) (by omega) hr j (by omega) h
theorem countF_right (X : List ST) : ∀ (n i : Nat), n + i = X.length → (countF X (X.drop i) i).1 = 0 → ∀ j, i ≤ j → ∀ h : j < X.length, (kindT (X.take j) (X[j]).f0).isSome = false ∧ (X[j]).f1.length ≤ 12 ∧ relF X[j] (X[j]).f1 0 = none
  | 0, i, hn, _, j, hj, h => by omega
  | n + 1, i, hn, hr, j, hj, h => by
    have hi : i < X.length := by omega
    rw [List.drop_eq_getElem_cons hi, countF] at hr
    split at hr
    · exact absurd hr (by decide : ¬ (32 : Int) = 0)
    · rename_i h1
      split at hr
      · exact absurd hr (by decide : ¬ (13 : Int) = 0)
      · rename_i h2
        cases hf : relF X[i] (X[i]).f1 0 with
        | some e => rw [hf] at hr; exact absurd hr (relF_zero _ _ _ e hf)
        | none =>
          rw [hf] at hr
          by_cases e : j = i
          · subst e; exact ⟨by simpa using h1, by omega, hf⟩
          · exact countF_right X n (i + 1) (by omega) hr j (by omega) h
/-- A schema that is right. -/
def Right (X : List ST) : Prop := (checkX X).1 = 0
theorem Right.count {X : List ST} (h : Right X) : (countX X).1 = 0 := by
  unfold Right checkX at h
  split at h
  · assumption
  · rename_i h1; exact Classical.not_not.1 h1
theorem Right.names {X : List ST} (h : Right X) : (typeN X X).1 = 0 := by
  have hc := h.count
  unfold Right checkX at h
  rw [if_neg (fun e => e hc)] at h
  exact h
theorem Right.len {X : List ST} (h : Right X) : X.length ≤ 8 := by
  have hc := h.count
  unfold countX at hc
  split at hc
  · exact absurd hc (by decide : ¬ (13 : Int) = 0)
  · omega
theorem Right.types {X : List ST} (h : Right X) : ∀ j, ∀ hj : j < X.length, (kindT (X.take j) (X[j]).f0).isSome = false ∧ (X[j]).f1.length ≤ 12 ∧ relF X[j] (X[j]).f1 0 = none := by
  have hc := h.count
  unfold countX at hc
  rw [if_neg (by have := h.len; omega)] at hc
  exact fun j hj => countF_right X X.length 0 rfl hc j (Nat.zero_le _) hj
theorem Right.kind {X : List ST} (h : Right X) {j : Nat} (hj : j < X.length) : kindT X (X[j]).f0 = some X[j] := by
  have h1 := (h.types j hj).1
  unfold kindT at h1 ⊢
  exact find_at hj (by simpa using h1) (by simp [namedT])
theorem Right.rel {X : List ST} (h : Right X) {j k : Nat} (hj : j < X.length) (hk : k < (X[j]).f1.length) : findR X (X[j]).f0 ((X[j]).f1[k]).f0 = some (X[j]).f1[k] := by
  have h1 := (h.types j hj).2.2
  have h2 := relF_none X[j] (X[j]).f1.length 0 rfl h1 k (Nat.zero_le _) hk
  unfold findR kindV
  rw [h.kind hj]
  exact find_at hk (any_none h2.1) (by simp [named])
def thereR (typ rel : ByteArray) (t : ST) (r : SR) : Bool := (t.f0.toList == typ.toList) && (r.f0.toList == rel.toList)
theorem Right.there {X : List ST} (h : Right X) (typ rel : ByteArray) : (findR X typ rel).isSome = X.any fun t => t.f1.any (thereR typ rel t) := by
  cases hf : findR X typ rel with
  | some r =>
    symm
    rw [Option.isSome_some, List.any_eq_true]
    unfold findR kindV at hf
    cases hk : kindT X typ with
    | none => rw [hk] at hf; exact absurd hf (by simp [zT])
    | some t =>
      rw [hk] at hf
      have ht := List.find?_some hk
      have hr := List.find?_some hf
      exact ⟨t, List.mem_of_find?_eq_some hk, List.any_eq_true.2 ⟨r, List.mem_of_find?_eq_some hf, by unfold thereR; unfold namedT at ht; unfold named at hr; rw [ht, hr]; rfl⟩⟩
  | none =>
    symm
    rw [Option.isSome_none, List.any_eq_false]
    intro t ht ha
    obtain ⟨r, hr, he⟩ := List.any_eq_true.1 ha
    unfold thereR at he
    rw [Bool.and_eq_true, beq_iff_eq, beq_iff_eq] at he
    obtain ⟨j, hj, rfl⟩ := List.getElem_of_mem ht
    have hk : kindT X typ = some X[j] := by
      rw [← h.kind hj]
      unfold kindT namedT
      rw [he.1]
    unfold findR kindV at hf
    rw [hk] at hf
    have := List.find?_eq_none.1 hf r hr
    unfold named at this
    rw [he.2] at this
    simp at this
end Go.Proofs.YtkgnhghaiopgcaaDoor.Cl
