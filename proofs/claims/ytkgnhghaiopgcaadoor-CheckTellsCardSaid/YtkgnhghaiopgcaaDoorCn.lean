/- What holds of a schema that is right, second part: plain Lean, no program walked; no condition. -/
import Derived.Test.YtkgnhghaiopgcaaDoorCl
set_option linter.unusedVariables false
set_option linter.unusedSimpArgs false
namespace Go.Proofs.YtkgnhghaiopgcaaDoor.Cl
open Go.Proofs.YtkgnhghaiopgcaaDoor.X Go.Proofs.YtkgnhghaiopgcaaDoor.Kx Go.Proofs.YtkgnhghaiopgcaaDoor.Ps Go.Proofs.YtkgnhghaiopgcaaDoor.Ck

theorem relN_none (X : List ST) (t : ST) : ∀ (l : List SR), relN X t l = none → ∀ r ∈ l, (hasR t.f1 r.f1 = true ∧ hasR t.f1 r.f2 = true ∧ hasR t.f1 r.f3 = true) ∧ subsX X r.f4 = 0 ∧ ∀ o ∈ r.f5, opX X t o = true
  | [], _, r, hr => by simp at hr
  | x :: xs, h, r, hr => by
    rw [relN] at h
    split at h
    · exact absurd h (by simp)
    · rename_i h1
      split at h
      · exact absurd h (by simp)
      · rename_i h2
        split at h
        · exact absurd h (by simp)
        · rename_i h3
          rcases List.mem_cons.1 hr with rfl | hr
          · refine ⟨?_, Classical.not_not.1 h2, fun o ho => ?_⟩
            · simp only [Bool.or_eq_true, Bool.not_eq_true', not_or, Bool.not_eq_false] at h1
              exact ⟨h1.1.1, h1.1.2, h1.2⟩
            · simp only [List.any_eq_true, not_exists, not_and, Bool.not_eq_true', Bool.not_eq_false] at h3
              exact h3 o ho
          · exact relN_none X t xs h r hr
theorem relN_code (X : List ST) (t : ST) : ∀ (l : List SR) (e : Int × ByteArray), relN X t l = some e → e.1 ≠ 0
  | [], _, h => absurd h (by simp [relN])
  | x :: xs, e, h => by
    rw [relN] at h
    split at h
    · obtain rfl := Option.some.inj h; exact (by decide : (31 : Int) ≠ 0)
    · split at h
      · rename_i h2; obtain rfl := Option.some.inj h; exact h2
      · split at h
        · obtain rfl := Option.some.inj h; exact (by decide : (31 : Int) ≠ 0)
        · exact relN_code X t xs e h
theorem typeN_none (X : List ST) : ∀ (l : List ST), (typeN X l).1 = 0 → ∀ t ∈ l, relN X t t.f1 = none
  | [], _, t, ht => by simp at ht
  | x :: xs, h, t, ht => by
    rw [typeN] at h
    cases hr : relN X x x.f1 with
    | some e => rw [hr] at h; exact absurd h (relN_code X x _ e hr)
    | none =>
      rw [hr] at h
      rcases List.mem_cons.1 ht with rfl | ht
      · exact hr
      · exact typeN_none X xs h t ht
theorem Right.parts {X : List ST} (h : Right X) {t : ST} (ht : t ∈ X) {r : SR} (hr : r ∈ t.f1) : (hasR t.f1 r.f1 = true ∧ hasR t.f1 r.f2 = true ∧ hasR t.f1 r.f3 = true) ∧ subsX X r.f4 = 0 ∧ ∀ o ∈ r.f5, opX X t o = true :=
  relN_none X t t.f1 (typeN_none X X h.names t ht) r hr
theorem has_find {rs : List SR} {n : ByteArray} : hasR rs n = (rs.find? (named n)).isSome := by
  unfold hasR
  cases hf : rs.find? (named n) with
  | none => rw [List.find?_eq_none] at hf; rw [Option.isSome_none, List.any_eq_false]; exact hf
  | some r => rw [Option.isSome_some, List.any_eq_true]; exact ⟨r, List.mem_of_find?_eq_some hf, List.find?_some hf⟩
theorem Right.has {X : List ST} (h : Right X) {t : ST} (ht : t ∈ X) (n : ByteArray) : (findR X t.f0 n).isSome = hasR t.f1 n := by
  obtain ⟨j, hj, rfl⟩ := List.getElem_of_mem ht
  unfold findR kindV
  rw [h.kind hj, has_find]
  rfl
theorem subsF_zero (X : List ST) (l : List SS) : ∀ (r : List SS) (i : Nat), subsF X l r i = 0 → ∀ x ∈ r, subNo X x = false
  | [], _, _, x, hx => by simp at hx
  | y :: ys, i, h, x, hx => by
    rw [subsF] at h
    split at h
    · exact absurd h (by decide : ¬ (31 : Int) = 0)
    · rename_i h1
      split at h
      · exact absurd h (by decide : ¬ (32 : Int) = 0)
      · rcases List.mem_cons.1 hx with rfl | hx
        · simpa using h1
        · exact subsF_zero X l ys (i + 1) h x hx
theorem Right.sub {X : List ST} (h : Right X) {t : ST} (ht : t ∈ X) {r : SR} (hr : r ∈ t.f1) {x : SS} (hx : x ∈ r.f4) : (x.f1.toList == ([] : List UInt8)) = true ∨ (findR X x.f0 x.f1).isSome = true := by
  have h1 := subsF_zero X r.f4 r.f4 0 (h.parts ht hr).2.1 x hx
  unfold subNo at h1
  rw [Bool.or_eq_false_iff] at h1
  cases hb : (x.f1.toList == ([] : List UInt8)) with
  | true => exact .inl rfl
  | false =>
    rw [hb] at h1
    have h2 : hasR (kindV X x.f0).f1 x.f1 = true := by simpa using h1.2
    rw [has_find] at h2
    exact .inr h2
theorem Right.op {X : List ST} (h : Right X) {t : ST} (ht : t ∈ X) {r : SR} (hr : r ∈ t.f1) {o : SO} (ho : o ∈ r.f5) : (o.f0 ≠ 2 ∧ o.f0 ≠ 3) ∨ (findR X t.f0 o.f1).isSome = true := by
  have h1 := (h.parts ht hr).2.2 o ho
  unfold opX at h1
  by_cases h2 : o.f0 = 2
  · rw [if_pos h2] at h1; exact .inr (by rw [h.has ht]; exact h1)
  · by_cases h3 : o.f0 = 3
    · rw [if_neg h2, if_pos h3, Bool.and_eq_true] at h1; exact .inr h1.1
    · exact .inl ⟨h2, h3⟩
theorem Right.lens {X : List ST} (h : Right X) {t : ST} (ht : t ∈ X) : t.f1.length ≤ 12 ∧ ∀ r ∈ t.f1, r.f5.length ≤ 16 := by
  obtain ⟨j, hj, rfl⟩ := List.getElem_of_mem ht
  refine ⟨(h.types j hj).2.1, fun r hr => ?_⟩
  obtain ⟨k, hk, rfl⟩ := List.getElem_of_mem hr
  exact (relF_none X[j] (X[j]).f1.length 0 rfl (h.types j hj).2.2 k (Nat.zero_le _) hk).2
end Go.Proofs.YtkgnhghaiopgcaaDoor.Cl
