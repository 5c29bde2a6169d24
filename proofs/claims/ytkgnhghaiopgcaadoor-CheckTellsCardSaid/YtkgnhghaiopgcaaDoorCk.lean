/- What package check tells, in plain Lean: searches, and what is wrong first with a schema; no program walked; no condition. -/
import Derived.Test.YtkgnhghaiopgcaaDoorPs
set_option linter.unusedVariables false
set_option linter.unusedSimpArgs false
namespace Go.Proofs.YtkgnhghaiopgcaaDoor.Ck
open Go.Proofs.YtkgnhghaiopgcaaDoor.X Go.Proofs.YtkgnhghaiopgcaaDoor.Kx Go.Proofs.YtkgnhghaiopgcaaDoor.Ps

/-- The first place where p holds, from a number on; -1: there is none. -/
def idxF {α : Type} (p : α → Bool) : List α → Nat → Int
  | [], _ => -1
  | x :: r, i => if p x = true then (i : Int) else idxF p r (i + 1)
def idxI {α : Type} (p : α → Bool) (xs : List α) : Int := idxF p xs 0
theorem idxF_spec {α : Type} (p : α → Bool) : ∀ (xs : List α) (i : Nat), (idxF p xs i = -1 ∧ xs.find? p = none ∧ xs.any p = false) ∨ ∃ (j : Nat) (h : j < xs.length), idxF p xs i = ((i + j : Nat) : Int) ∧ xs.find? p = some xs[j] ∧ xs.any p = true
  | [], i => .inl ⟨rfl, rfl, rfl⟩
  | x :: r, i => by
    cases hx : p x with
    | true => exact .inr ⟨0, by simp, by rw [idxF, if_pos hx]; rfl, by rw [List.find?_cons, hx]; rfl, by rw [List.any_cons, hx]; rfl⟩
    | false =>
      rcases idxF_spec p r (i + 1) with ⟨a, b, c⟩ | ⟨j, h, a, b, c⟩
      · exact .inl ⟨by rw [idxF, if_neg (by rw [hx]; decide), a], by rw [List.find?_cons, hx]; exact b, by rw [List.any_cons, hx, c]; rfl⟩
      · exact .inr ⟨j + 1, by simpa using h, by rw [idxF, if_neg (by rw [hx]; decide), a]; congr 1; omega, by rw [List.find?_cons, hx]; exact b, by rw [List.any_cons, hx, c]; rfl⟩
theorem idxI_spec {α : Type} (p : α → Bool) (xs : List α) : (idxI p xs = -1 ∧ xs.find? p = none ∧ xs.any p = false) ∨ ∃ (j : Nat) (h : j < xs.length), idxI p xs = (j : Int) ∧ xs.find? p = some xs[j] ∧ xs.any p = true := by
  rcases idxF_spec p xs 0 with h | ⟨j, h, a, b, c⟩
  · exact .inl h
  · exact .inr ⟨j, h, by unfold idxI; rw [a]; simp, b, c⟩
theorem idxI_any {α : Type} (p : α → Bool) (xs : List α) : xs.any p = decide (0 ≤ idxI p xs) := by
  rcases idxI_spec p xs with ⟨a, b, c⟩ | ⟨j, h, a, b, c⟩
  · rw [a, c]; rfl
  · rw [a, c]; exact (decide_eq_true (by omega)).symm
def named (n : ByteArray) (r : SR) : Bool := r.f0.toList == n.toList
def namedT (n : ByteArray) (t : ST) : Bool := t.f0.toList == n.toList
def hasR (rs : List SR) (n : ByteArray) : Bool := rs.any (named n)
def zT : ST := ⟨⟨#[]⟩, []⟩
def zR : SR := ⟨⟨#[]⟩, ⟨#[]⟩, ⟨#[]⟩, ⟨#[]⟩, [], []⟩
def kindT (X : List ST) (n : ByteArray) : Option ST := X.find? (namedT n)
def kindV (X : List ST) (n : ByteArray) : ST := (kindT X n).getD zT
def findR (X : List ST) (typ rel : ByteArray) : Option SR := (kindV X typ).f1.find? (named rel)
def findV (X : List ST) (typ rel : ByteArray) : SR := (findR X typ rel).getD zR
def leadsX (X : List ST) (subs : List SS) (next : ByteArray) : Bool := subs.any fun x => (x.f1.toList == ([] : List UInt8)) && hasR (kindV X x.f0).f1 next
def opX (X : List ST) (t : ST) (o : SO) : Bool :=
  if o.f0 = 2 then hasR t.f1 o.f1 else if o.f0 = 3 then (findR X t.f0 o.f1).isSome && leadsX X (findV X t.f0 o.f1).f4 o.f2 else true
/-! ### What is wrong with a schema -/
def eqS (x y : SS) : Bool := (x.f0.toList == y.f0.toList) && (x.f1.toList == y.f1.toList)
def pathX (t : ST) (r : SR) : ByteArray := t.f0 ++ ⟨#[46]⟩ ++ r.f0
def subNo (X : List ST) (x : SS) : Bool := !(kindT X x.f0).isSome || (!(x.f1.toList == ([] : List UInt8)) && !hasR (kindV X x.f0).f1 x.f1)
def subsF (X : List ST) (l : List SS) : List SS → Nat → Int
  | [], _ => 0
  | x :: r, i => if subNo X x = true then 31 else if (l.take i).any (eqS x) = true then 32 else subsF X l r (i + 1)
def subsX (X : List ST) (l : List SS) : Int := subsF X l l 0
def relF (t : ST) : List SR → Nat → Option (Int × ByteArray)
  | [], _ => none
  | r :: rs, k => if hasR (t.f1.take k) r.f0 = true then some (32, pathX t r) else if 16 < r.f5.length then some (13, pathX t r) else relF t rs (k + 1)
def countF (X : List ST) : List ST → Nat → Int × ByteArray
  | [], _ => (0, ⟨#[]⟩)
  | t :: ts, i => if (kindT (X.take i) t.f0).isSome = true then (32, t.f0) else if 12 < t.f1.length then (13, t.f0) else (relF t t.f1 0).getD (countF X ts (i + 1))
def countX (X : List ST) : Int × ByteArray := if 8 < X.length then (13, ⟨#[]⟩) else countF X X 0
def relN (X : List ST) (t : ST) : List SR → Option (Int × ByteArray)
  | [] => none
  | r :: rs => if (!hasR t.f1 r.f1 || !hasR t.f1 r.f2 || !hasR t.f1 r.f3) = true then some (31, pathX t r) else if subsX X r.f4 ≠ 0 then some (subsX X r.f4, pathX t r) else if (r.f5.any fun o => !opX X t o) = true then some (31, pathX t r) else relN X t rs
def typeN (X : List ST) : List ST → Int × ByteArray
  | [] => (0, ⟨#[]⟩)
  | t :: ts => (relN X t t.f1).getD (typeN X ts)
def checkX (X : List ST) : Int × ByteArray := if (countX X).1 ≠ 0 then countX X else typeN X X
theorem relF_zero (t : ST) : ∀ (l : List SR) (k : Nat) (e : Int × ByteArray), relF t l k = some e → e.1 ≠ 0
  | [], _, _, h => absurd h (by simp [relF])
  | r :: rs, k, e, h => by
    rw [relF] at h
    split at h
    · obtain rfl := Option.some.inj h; exact (by decide : (32 : Int) ≠ 0)
    · split at h
      · obtain rfl := Option.some.inj h; exact (by decide : (13 : Int) ≠ 0)
      · exact relF_zero t rs (k + 1) e h
theorem countF_zero (X : List ST) : ∀ (l : List ST) (i : Nat), (countF X l i).1 = 0 → countF X l i = (0, ⟨#[]⟩)
  | [], _, _ => rfl
  | t :: ts, i, h => by
    rw [countF] at h ⊢
    split at h
    · exact absurd h (by decide : ¬ (32 : Int) = 0)
    · split at h
      · exact absurd h (by decide : ¬ (13 : Int) = 0)
      · rename_i h1 h2
        rw [if_neg h1, if_neg h2]
        cases hr : relF t t.f1 0 with
        | some e => rw [hr] at h; exact absurd h (relF_zero t _ _ e hr)
        | none => rw [hr] at h; exact countF_zero X ts (i + 1) h
theorem countX_zero {X : List ST} (h : (countX X).1 = 0) : countX X = (0, ⟨#[]⟩) := by
  unfold countX at h ⊢
  split at h
  · exact absurd h (by decide : ¬ (13 : Int) = 0)
  · rename_i h1
    rw [if_neg h1]
    exact countF_zero X X 0 h
end Go.Proofs.YtkgnhghaiopgcaaDoor.Ck
