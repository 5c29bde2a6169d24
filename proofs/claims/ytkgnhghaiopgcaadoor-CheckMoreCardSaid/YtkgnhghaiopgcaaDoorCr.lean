/- A schema with a relation more in one of its types stays right: plain Lean, no program walked; no condition. -/
import Derived.Test.YtkgnhghaiopgcaaDoorCq
set_option linter.unusedVariables false
set_option linter.unusedSimpArgs false
namespace Go.Proofs.YtkgnhghaiopgcaaDoor.Cl
open Go.Proofs.YtkgnhghaiopgcaaDoor.X Go.Proofs.YtkgnhghaiopgcaaDoor.Kx Go.Proofs.YtkgnhghaiopgcaaDoor.Ps Go.Proofs.YtkgnhghaiopgcaaDoor.Ck

theorem kind_set : ∀ (X : List ST) (k : Nat) (h : k < X.length) (t' : ST), t'.f0 = (X[k]).f0 → ∀ n, (kindT (X.set k t') n).isSome = (kindT X n).isSome
  | [], _, h, _, _, _ => absurd h (by simp)
  | x :: r, 0, h, t', e, n => by
    have e1 : namedT n t' = namedT n x := by unfold namedT; rw [e]; rfl
    unfold kindT
    rw [List.set_cons_zero, List.find?_cons, List.find?_cons, e1]
    cases namedT n x <;> rfl
  | x :: r, k + 1, h, t', e, n => by
    have ih := kind_set r k (by simpa using h) t' (by simpa using e) n
    unfold kindT at ih ⊢
    rw [List.set_cons_succ, List.find?_cons, List.find?_cons]
    cases namedT n x
    · exact ih
    · rfl
theorem ext_set : ∀ (X : List ST) (k : Nat) (h : k < X.length) (t' : ST), t'.f0 = (X[k]).f0 → (X[k]).f1 <+: t'.f1 → Ext X (X.set k t')
  | [], _, h, _, _, _ => absurd h (by simp)
  | x :: r, 0, h, t', e, p => by
    intro n t hk
    have e1 : namedT n t' = namedT n x := by unfold namedT; rw [e]; rfl
    unfold kindT at hk ⊢
    rw [List.find?_cons] at hk
    rw [List.set_cons_zero, List.find?_cons, e1]
    cases hb : namedT n x with
    | true => rw [hb] at hk; obtain rfl := Option.some.inj hk; exact ⟨t', rfl, p⟩
    | false => rw [hb] at hk; exact ⟨t, hk, List.prefix_refl _⟩
  | x :: r, k + 1, h, t', e, p => by
    intro n t hk
    have ih := ext_set r k (by simpa using h) t' (by simpa using e) (by simpa using p) n t
    unfold kindT at hk ih ⊢
    rw [List.find?_cons] at hk
    rw [List.set_cons_succ, List.find?_cons]
    cases hb : namedT n x with
    | true => rw [hb] at hk; exact ⟨t, hk, List.prefix_refl _⟩
    | false => rw [hb] at hk; exact ih hk
theorem relF_all (t : ST) (ht : ∀ j, ∀ h : j < t.f1.length, hasR (t.f1.take j) (t.f1[j]).f0 = false ∧ (t.f1[j]).f5.length ≤ 16) : ∀ (n k : Nat), n + k = t.f1.length → relF t (t.f1.drop k) k = none
  | 0, k, hn => by rw [List.drop_of_length_le (by omega)]; rfl
  | n + 1, k, hn => by
    have hk : k < t.f1.length := by omega
    have h := ht k hk
    rw [List.drop_eq_getElem_cons hk, relF, if_neg (by rw [h.1]; decide), if_neg (by omega)]
    exact relF_all t ht n (k + 1) (by omega)
theorem relN_app (Y : List ST) (t : ST) (b : List SR) : ∀ (a : List SR), relN Y t a = none → relN Y t b = none → relN Y t (a ++ b) = none
  | [], _, h => h
  | x :: xs, h, hb => by
    rw [List.cons_append, relN]
    rw [relN] at h
    split at h
    · exact absurd h (by simp)
    · rename_i h1
      split at h
      · exact absurd h (by simp)
      · rename_i h2
        split at h
        · exact absurd h (by simp)
        · rename_i h3
          rw [if_neg h1, if_neg h2, if_neg h3]
          exact relN_app Y t b xs h hb
/-- A relation that names only itself. -/
def selfR (n : ByteArray) : SR := ⟨n, n, n, n, [], [⟨1, ⟨#[]⟩, ⟨#[]⟩⟩, ⟨2, n, ⟨#[]⟩⟩, ⟨4, ⟨#[]⟩, ⟨#[]⟩⟩]⟩
def withT (T : ST) (n : ByteArray) : ST := ⟨T.f0, T.f1 ++ [selfR n]⟩
def withX (X : List ST) (k : Nat) (T : ST) (n : ByteArray) : List ST := X.set k (withT T n)
theorem withX_types {X : List ST} (h : Right X) {k : Nat} (hk : k < X.length) (n : ByteArray) {j : Nat} (hj : j < X.length) (hne : j ≠ k) : (kindT ((withX X k X[k] n).take j) (X[j]).f0).isSome = false := by
  unfold withX
  have h1 := (h.types j hj).1
  by_cases hl : k < j
  · rw [List.take_set, kind_set _ _ (by rw [List.length_take]; omega) _ (by rw [List.getElem_take]; rfl)]
    exact h1
  · rw [List.take_set_of_le (by omega)]
    exact h1
theorem withX_self {X : List ST} (h : Right X) {k : Nat} (hk : k < X.length) (n : ByteArray) : (kindT ((withX X k X[k] n).take k) (X[k]).f0).isSome = false := by
  unfold withX
  rw [List.take_set_of_le (Nat.le_refl _)]
  exact (h.types k hk).1
theorem withX_get {X : List ST} {k : Nat} (n : ByteArray) {j : Nat} (T : ST) (hj : j < (withX X k T n).length) : (withX X k T n)[j] = if k = j then withT T n else X[j]'(by unfold withX at hj; rw [List.length_set] at hj; exact hj) := by
  simp only [withX, List.getElem_set]
theorem Right.long {X : List ST} (h : Right X) {k : Nat} (hk : k < X.length) (n : ByteArray) (hl : 12 < (X[k]).f1.length + 1) : checkX (withX X k X[k] n) = (13, (X[k]).f0) := by
  have hlen : (withX X k X[k] n).length = X.length := by unfold withX; rw [List.length_set]
  have hk' : k < (withX X k X[k] n).length := by rw [hlen]; exact hk
  have hs : (withX X k X[k] n).take k ++ withT X[k] n :: (withX X k X[k] n).drop (k + 1) = withX X k X[k] n := by
    have e := List.drop_eq_getElem_cons hk'
    rw [withX_get, if_pos rfl] at e
    rw [← e, List.take_append_drop]
  have ht : (withX X k X[k] n).take k = X.take k := by unfold withX; rw [List.take_set_of_le (Nat.le_refl _)]
  have hc : countX (withX X k X[k] n) = (13, (X[k]).f0) := by
    unfold countX
    rw [if_neg (by rw [hlen]; have := h.len; omega)]
    have := countF_skip (X := (withX X k X[k] n).take k) (Z := withT X[k] n :: (withX X k X[k] n).drop (k + 1)) (fun j hj => by
      rw [List.length_take] at hj
      have hj1 : j < X.length := by omega
      have hj2 : j < k := by omega
      simp only [ht, List.getElem_take, List.take_take, Nat.min_eq_left (Nat.le_of_lt hj2)]
      exact h.types j hj1) _ 0 rfl
    rw [List.drop_zero, hs] at this
    rw [this, countF, List.length_take, Nat.min_eq_left (by omega), if_neg (by rw [show (withT X[k] n).f0 = (X[k]).f0 from rfl, withX_self h hk n]; decide), if_pos (by show 12 < ((X[k]).f1 ++ [selfR n]).length; rw [List.length_append]; exact hl)]
    rfl
  unfold checkX
  rw [if_pos (by rw [hc]; exact (by decide : (13 : Int) ≠ 0)), hc]
theorem Right.with {X : List ST} (h : Right X) {k : Nat} (hk : k < X.length) (n : ByteArray) (hno : hasR (X[k]).f1 n = false) (hl : (X[k]).f1.length + 1 ≤ 12) : checkX (withX X k X[k] n) = (0, ⟨#[]⟩) := by
  have hlen : (withX X k X[k] n).length = X.length := by unfold withX; rw [List.length_set]
  have hsome : hasR (withT X[k] n).f1 n = true := by
    show hasR ((X[k]).f1 ++ [selfR n]) n = true
    unfold hasR
    rw [List.any_append, List.any_cons, show named n (selfR n) = true from by unfold named; exact beq_self_eq_true _, Bool.true_or, Bool.or_true]
  have hrel : relF (withT X[k] n) (withT X[k] n).f1 0 = none := by
    have := relF_all (withT X[k] n) (fun j hj => by
      have hj1 : j < (X[k]).f1.length + 1 := by simpa [withT] using hj
      show hasR (((X[k]).f1 ++ [selfR n]).take j) (((X[k]).f1 ++ [selfR n])[j]'(by simpa using hj1)).f0 = false ∧ (((X[k]).f1 ++ [selfR n])[j]'(by simpa using hj1)).f5.length ≤ 16
      rw [List.take_append_of_le_length (by omega)]
      by_cases hj2 : j < (X[k]).f1.length
      · rw [List.getElem_append_left hj2]
        exact relF_none X[k] (X[k]).f1.length 0 rfl (h.types k hk).2.2 j (Nat.zero_le _) hj2
      · obtain rfl : j = (X[k]).f1.length := by omega
        rw [List.take_length, List.getElem_append_right (Nat.le_refl _)]
        simp only [Nat.sub_self, List.getElem_cons_zero]
        exact ⟨hno, (by decide : (3 : Nat) ≤ 16)⟩) (withT X[k] n).f1.length 0 rfl
    rw [List.drop_zero] at this
    exact this
  have hc : countX (withX X k X[k] n) = (0, ⟨#[]⟩) := by
    unfold countX
    rw [if_neg (by rw [hlen]; have := h.len; omega)]
    have := countF_skip (X := withX X k X[k] n) (Z := []) (fun j hj => by
      have hj1 : j < X.length := by rw [← hlen]; exact hj
      rw [withX_get n X[k] hj]
      by_cases e : k = j
      · subst e
        rw [if_pos rfl]
        exact ⟨withX_self h hk n, by show ((X[k]).f1 ++ [selfR n]).length ≤ 12; rw [List.length_append]; exact hl, hrel⟩
      · rw [if_neg e]
        exact ⟨withX_types h hk n hj1 (fun a => e a.symm), (h.types j hj1).2⟩) _ 0 rfl
    rw [List.drop_zero, List.append_nil] at this
    rw [this]; rfl
  have hext : Ext X (withX X k X[k] n) := ext_set X k hk _ rfl (List.prefix_append _ _)
  unfold checkX
  rw [if_neg (by rw [hc]; exact fun e => e rfl)]
  refine typeN_zero _ fun t ht => ?_
  obtain ⟨j, hj, rfl⟩ := List.getElem_of_mem ht
  have hj1 : j < X.length := by rw [← hlen]; exact hj
  rw [withX_get n X[k] hj]
  by_cases e : k = j
  · subst e
    rw [if_pos rfl]
    refine relN_app _ _ _ _ (hext.relN (t := X[k]) (t' := withT X[k] n) rfl (List.prefix_append _ _) _ (typeN_none X X h.names _ (List.getElem_mem hk))) ?_
    rw [relN, if_neg (by rw [show (selfR n).f1 = n from rfl, show (selfR n).f2 = n from rfl, show (selfR n).f3 = n from rfl, hsome]; decide), if_neg (fun e => e rfl), if_neg (by
      intro e
      obtain ⟨o, ho, hb⟩ := List.any_eq_true.1 e
      have : opX (withX X k X[k] n) (withT X[k] n) o = true := by
        rcases List.mem_cons.1 ho with rfl | ho
        · rfl
        · rcases List.mem_cons.1 ho with rfl | ho
          · unfold opX; rw [if_pos rfl]; exact hsome
          · obtain rfl := List.mem_singleton.1 ho
            rfl
      rw [this] at hb
      exact absurd hb (by decide))]
    rfl
  · rw [if_neg e]
    exact hext.relN rfl (List.prefix_refl _) _ (typeN_none X X h.names _ (List.getElem_mem hj1))
end Go.Proofs.YtkgnhghaiopgcaaDoor.Cl
