/- What doormanref09 comes to of a schema as the model has it is what package check comes to: plain Lean, no program walked; no condition. -/
import Derived.Test.YtkgnhghaiopgcaaDoorRg
import Derived.Test.YtkgnhghaiopgcaaDoorCn
set_option linter.unusedVariables false
set_option linter.unusedSimpArgs false
namespace Go.Proofs.YtkgnhghaiopgcaaDoor.Rf
open Go.Proofs.YtkgnhghaiopgcaaDoor.X Go.Proofs.YtkgnhghaiopgcaaDoor.Kx Go.Proofs.YtkgnhghaiopgcaaDoor.Ps Go.Proofs.YtkgnhghaiopgcaaDoor.Ck Go.Proofs.YtkgnhghaiopgcaaDoor.Of Go.Proofs.YtkgnhghaiopgcaaDoor.Cl

theorem idxF_lt {α : Type} (p : α → Bool) : ∀ (xs : List α) (s k : Nat) (h : k < xs.length), p xs[k] = true → (decide (idxF p xs s < ((s + k : Nat) : Int)) = (xs.take k).any p)
  | [], _, _, h, _ => absurd h (by simp)
  | x :: r, s, 0, h, hp => by
    rw [idxF, if_pos (show p x = true from hp), List.take_zero, List.any_nil]
    exact decide_eq_false (by omega)
  | x :: r, s, k + 1, h, hp => by
    rw [idxF, List.take_succ_cons, List.any_cons]
    by_cases hx : p x = true
    · rw [if_pos hx, hx, Bool.true_or]
      exact decide_eq_true (by omega)
    · rw [if_neg hx, Bool.eq_false_iff.2 hx, Bool.false_or, ← idxF_lt p r (s + 1) k (by simpa using h) hp]
      congr 2
      omega
theorem idxI_lt {α : Type} (p : α → Bool) (xs : List α) (k : Nat) (h : k < xs.length) (hp : p xs[k] = true) : (idxI p xs < (k : Int)) ↔ (xs.take k).any p = true := by
  have := idxF_lt p xs 0 k h hp
  rw [Nat.zero_add] at this
  unfold idxI
  rw [← this, decide_eq_true_eq]
theorem idxF_map {α β : Type} (f : α → β) (p : β → Bool) (q : α → Bool) (h : ∀ x, p (f x) = q x) : ∀ (xs : List α) (i : Nat), idxF p (xs.map f) i = idxF q xs i
  | [], _ => rfl
  | x :: r, i => by
    rw [List.map_cons, idxF, idxF, h, idxF_map f p q h r]
theorem tyI_map (X : List ST) (n : ByteArray) : tyI (X.map toT) n = idxI (namedT n) X := idxF_map toT _ _ (fun _ => rfl) X 0
theorem reI_map (l : List SR) (n : ByteArray) : reI (l.map toR) n = idxI (named n) l := idxF_map toR _ _ (fun _ => rfl) l 0
theorem neg_any {α : Type} (p : α → Bool) (xs : List α) : (idxI p xs < 0) ↔ xs.any p = false := by
  rw [idxI_any, decide_eq_false_iff_not]; omega
theorem rdT_map (X : List ST) (j : Nat) (h : j < X.length) : rd_T74 (X.map toT) (j : Int) = toT X[j] := by
  unfold rd_T74
  rw [Int.toNat_natCast, List.getD_eq_getElem?_getD, List.getElem?_map, List.getElem?_eq_getElem h]
  rfl
theorem rdR_map (l : List SR) (j : Nat) (h : j < l.length) : rd_T78 (l.map toR) (j : Int) = toR l[j] := by
  unfold rd_T78
  rw [Int.toNat_natCast, List.getD_eq_getElem?_getD, List.getElem?_map, List.getElem?_eq_getElem h]
  rfl
theorem hasG_map (X : List ST) (ty re : ByteArray) : hasG (X.map toT) ty re = hasR (kindV X ty).f1 re := by
  unfold hasG tyV kindV kindT hasR
  rw [tyI_map]
  rcases idxI_spec (namedT ty) X with ⟨a, b, _⟩ | ⟨j, h, a, b, _⟩
  · rw [a, b]; rfl
  · rw [a, b, rdT_map X j h, decide_eq_true (by omega), Bool.true_and]
    show decide (0 ≤ reI ((X[j]).f1.map toR) re) = (X[j]).f1.any (named re)
    rw [reI_map, idxI_any]
theorem has_map (l : List SR) (n : ByteArray) : decide (0 ≤ reI (l.map toR) n) = hasR l n := by
  unfold hasR; rw [reI_map, idxI_any]
theorem subNo_map (X : List ST) (x : SS) : subNoG (X.map toT) (toS x) = subNo X x := by
  unfold subNoG subNo
  show (decide (tyI (X.map toT) x.f0 < 0) || (!(x.f1.toList == ([] : List UInt8)) && !hasG (X.map toT) x.f0 x.f1)) = _
  rw [hasG_map, tyI_map]
  unfold kindT
  rcases idxI_spec (namedT x.f0) X with ⟨a, b, _⟩ | ⟨j, h, a, b, _⟩
  · rw [a, b]; rfl
  · rw [a, b, decide_eq_false (by omega)]; rfl
theorem eq_map (x y : SS) : eqG (toS x) (toS y) = eqS x y := by
  show ((y.f0.toList == x.f0.toList) && (y.f1.toList == x.f1.toList)) = ((x.f0.toList == y.f0.toList) && (x.f1.toList == y.f1.toList))
  rw [BEq.comm (a := y.f0.toList), BEq.comm (a := y.f1.toList)]
theorem any_map_eq (l : List SS) (x : SS) (i : Nat) : ((l.map toS).take i).any (eqG (toS x)) = (l.take i).any (eqS x) := by
  rw [← List.map_take, List.any_map]
  congr 1
  funext y
  exact eq_map x y
theorem subs_map (X : List ST) (l : List SS) : ∀ (r : List SS) (i : Nat), subsG (X.map toT) (l.map toS) (r.map toS) i = subsF X l r i
  | [], _ => rfl
  | x :: r, i => by
    rw [List.map_cons, subsG, subsF, subNo_map, any_map_eq, subs_map X l r]
/-- Types are where their names say. -/
def Own (X : List ST) : Prop := ∀ t ∈ X, kindT X t.f0 = some t
theorem op_map {X : List ST} {t : ST} (ht : kindT X t.f0 = some t) (o : SO) : opG (X.map toT) (toT t) (toO o) = opX X t o := by
  unfold opG opX
  show (if o.f0 = 2 then decide (0 ≤ reI (t.f1.map toR) o.f1) else if o.f0 = 3 then decide (0 ≤ reI (t.f1.map toR) o.f1) && (rd_T78 (t.f1.map toR) (reI (t.f1.map toR) o.f1)).f4.any (leadG (X.map toT) o.f2) else true) = _
  rw [has_map]
  split
  · rfl
  · split
    · unfold findV findR kindV
      rw [ht, reI_map]
      show _ = ((t.f1.find? (named o.f1)).isSome && leadsX X ((t.f1.find? (named o.f1)).getD zR).f4 o.f2)
      unfold hasR
      rcases idxI_spec (named o.f1) t.f1 with ⟨a, b, c⟩ | ⟨j, h, a, b, c⟩
      · rw [b, c]; rfl
      · rw [a, b, c, rdR_map t.f1 j h]
        show (true && ((t.f1[j]).f4.map toS).any (leadG (X.map toT) o.f2)) = (true && leadsX X (t.f1[j]).f4 o.f2)
        rw [List.any_map]
        unfold leadsX
        congr 2
        funext x
        show ((x.f1.toList == ([] : List UInt8)) && hasG (X.map toT) x.f0 o.f2) = _
        rw [hasG_map]
    · rfl
theorem ops_map {X : List ST} {t : ST} (ht : kindT X t.f0 = some t) : ∀ l : List SO, opsG (X.map toT) (toT t) (l.map toO) = if (l.any fun o => !opX X t o) = true then 31 else 0
  | [] => rfl
  | o :: r => by
    rw [List.map_cons, opsG, op_map ht, ops_map ht r, List.any_cons]
    cases opX X t o <;> simp
theorem rel_map {X : List ST} {t : ST} (ht : kindT X t.f0 = some t) : ∀ l : List SR, namesGF (X.map toT) (toT t) (l.map toR) = relN X t l
  | [] => rfl
  | r :: l => by
    rw [List.map_cons, namesGF, relN, rel_map ht l]
    have hp : pathG (toT t) (toR r) = pathX t r := rfl
    rw [hp]
    have hn : namedG (X.map toT) (toT t) (toR r) = if hasR t.f1 r.f1 = false then 31 else if hasR t.f1 r.f2 = false then 31 else if hasR t.f1 r.f3 = false then 31 else if subsX X r.f4 ≠ 0 then subsX X r.f4 else if (r.f5.any fun o => !opX X t o) = true then 31 else 0 := by
      unfold namedG
      show (if reI (t.f1.map toR) r.f1 < 0 then 31 else if reI (t.f1.map toR) r.f2 < 0 then 31 else if reI (t.f1.map toR) r.f3 < 0 then 31 else if subsG (X.map toT) (r.f4.map toS) (r.f4.map toS) 0 ≠ 0 then subsG (X.map toT) (r.f4.map toS) (r.f4.map toS) 0 else opsG (X.map toT) (toT t) (r.f5.map toO)) = _
      rw [subs_map, ops_map ht, reI_map, reI_map, reI_map]
      unfold hasR subsX
      simp only [neg_any]
    rw [hn]
    cases h1 : hasR t.f1 r.f1 with
    | false => simp
    | true =>
      cases h2 : hasR t.f1 r.f2 with
      | false => simp
      | true =>
        cases h3 : hasR t.f1 r.f3 with
        | false => simp
        | true =>
          by_cases h4 : subsX X r.f4 = 0
          · rw [h4]
            by_cases h5 : (r.f5.any fun o => !opX X t o) = true
            · simp only [h5]; simp
            · have h6 : (r.f5.any fun o => !opX X t o) = false := by simpa using h5
              simp only [h6]; simp
          · simp [h4]
theorem types_map {X : List ST} : ∀ l : List ST, (∀ t ∈ l, kindT X t.f0 = some t) → (typesGF (X.map toT) (l.map toT)).getD (0, ⟨#[]⟩) = typeN X l
  | [], _ => rfl
  | t :: l, h => by
    rw [List.map_cons, typesGF, typeN]
    show ((namesGF (X.map toT) (toT t) (t.f1.map toR)).or _).getD _ = _
    rw [rel_map (h t (by simp))]
    cases relN X t t.f1 with
    | some e => rfl
    | none => exact types_map l (fun t ht => h t (by simp [ht]))
theorem relF_map (t : ST) : ∀ (n k : Nat), n + k = t.f1.length → relGF (toT t) ((t.f1.drop k).map toR) k = relF t (t.f1.drop k) k
  | 0, k, hn => by rw [List.drop_eq_nil_of_le (by omega)]; rfl
  | n + 1, k, hn => by
    have hk : k < t.f1.length := by omega
    rw [List.drop_eq_getElem_cons hk, List.map_cons, relGF, relF, relF_map t n (k + 1) (by omega)]
    have h1 : (reI (toT t).f1 (toR (t.f1[k])).f0 < (k : Int)) ↔ hasR (t.f1.take k) (t.f1[k]).f0 = true := by
      show (reI (t.f1.map toR) (t.f1[k]).f0 < (k : Int)) ↔ _
      rw [reI_map]
      exact idxI_lt _ _ k hk (by simp [named])
    have h2 : (toR (t.f1[k])).f5.length = (t.f1[k]).f5.length := by show ((t.f1[k]).f5.map toO).length = _; simp
    simp only [h1, h2]
    rfl
theorem count_map (X : List ST) : ∀ (n i : Nat), n + i = X.length → ((countGF (X.map toT) ((X.drop i).map toT) i).getD (0, ⟨#[]⟩) = countF X (X.drop i) i ∧ ∀ e, countGF (X.map toT) ((X.drop i).map toT) i = some e → e.1 ≠ 0)
  | 0, i, hn => by rw [List.drop_eq_nil_of_le (by omega)]; exact ⟨rfl, fun e h => absurd h (by simp [countGF])⟩
  | n + 1, i, hn => by
    have hi : i < X.length := by omega
    obtain ⟨a1, a2⟩ := count_map X n (i + 1) (by omega)
    rw [List.drop_eq_getElem_cons hi, List.map_cons, countGF, countF]
    have h1 : (tyI (X.map toT) (toT X[i]).f0 < (i : Int)) ↔ (kindT (X.take i) (X[i]).f0).isSome = true := by
      show (tyI (X.map toT) (X[i]).f0 < (i : Int)) ↔ _
      rw [tyI_map]
      unfold kindT
      rw [idxI_lt _ _ i hi (by simp [namedT])]
      cases hf : (X.take i).find? (namedT (X[i]).f0) with
      | none => rw [List.find?_eq_none] at hf; rw [List.any_eq_true]; simp; simpa using hf
      | some y => rw [List.any_eq_true]; simp; exact ⟨y, List.mem_of_find?_eq_some hf, List.find?_some hf⟩
    have h2 : (toT X[i]).f1.length = (X[i]).f1.length := by show ((X[i]).f1.map toR).length = _; simp
    have h3 : relGF (toT X[i]) (toT X[i]).f1 0 = relF X[i] (X[i]).f1 0 := relF_map X[i] _ 0 rfl
    simp only [h1, h2, h3]
    split
    · exact ⟨rfl, fun e h => by obtain rfl := Option.some.inj h; exact (by decide : (32 : Int) ≠ 0)⟩
    split
    · exact ⟨rfl, fun e h => by obtain rfl := Option.some.inj h; exact (by decide : (13 : Int) ≠ 0)⟩
    cases hr : relF X[i] (X[i]).f1 0 with
    | none => exact ⟨a1, a2⟩
    | some e => exact ⟨rfl, fun e2 h => by obtain rfl := Option.some.inj h; exact relF_zero _ _ _ _ hr⟩
theorem own_of {X : List ST} (h : (countX X).1 = 0) : Own X := by
  intro t ht
  obtain ⟨j, hj, rfl⟩ := List.getElem_of_mem ht
  unfold countX at h
  split at h
  · exact absurd h (by decide : ¬ (13 : Int) = 0)
  · have h1 := (countF_right X X.length 0 rfl h j (Nat.zero_le _) hj).1
    unfold kindT at h1 ⊢
    exact find_at hj (by simpa using h1) (by simp [namedT])
theorem check_map (X : List ST) : checkG (X.map toT) = checkX X := by
  unfold checkG checkX
  rw [List.length_map]
  by_cases h8 : 8 < X.length
  · have hc : countX X = (13, ⟨#[]⟩) := by unfold countX; rw [if_pos h8]
    rw [if_pos h8, hc, if_pos (by decide)]
  · have hc : countX X = countF X X 0 := by unfold countX; rw [if_neg h8]
    obtain ⟨a1, a2⟩ := count_map X X.length 0 rfl
    rw [List.drop_zero] at a1 a2
    rw [if_neg h8]
    cases ho : countGF (X.map toT) (X.map toT) 0 with
    | some e =>
      rw [ho] at a1
      have a3 := a2 e ho
      have hce : countX X = e := by rw [hc, ← a1]; rfl
      rw [hce, if_pos a3]; rfl
    | none =>
      rw [ho] at a1
      have hce : countX X = (0, ⟨#[]⟩) := by rw [hc, ← a1]; rfl
      have hz : (countX X).1 = 0 := by rw [hce]
      rw [if_neg (fun h => h hz), Option.none_or]
      exact types_map X (own_of hz)
theorem find_map (X : List ST) (typ rel : ByteArray) : (findR X typ rel).isSome = hasG (X.map toT) typ rel := by
  rw [hasG_map, has_find]
  rfl
/-- Where a relation is found, it is the one that the model finds. -/
theorem found_map {X : List ST} {typ rel : ByteArray} (h : (findR X typ rel).isSome = true) : ∃ (i k : Nat), tyI (X.map toT) typ = (i : Int) ∧ ∃ hi : i < X.length, reI ((X[i]).f1.map toR) rel = (k : Int) ∧ ∃ hk : k < (X[i]).f1.length, findV X typ rel = (X[i]).f1[k] := by
  unfold findV
  unfold findR kindV kindT at h ⊢
  rcases idxI_spec (namedT typ) X with ⟨a, b, _⟩ | ⟨i, hi, a, b, _⟩
  · rw [b] at h; exact absurd h (by simp [zT])
  · rw [b] at h ⊢
    rcases idxI_spec (named rel) (X[i]).f1 with ⟨a2, b2, _⟩ | ⟨k, hk, a2, b2, _⟩
    · rw [Option.getD_some, b2] at h; exact absurd h (by simp)
    · exact ⟨i, k, by rw [tyI_map, a], hi, by rw [reI_map, a2], hk, by rw [Option.getD_some, b2]; rfl⟩
end Go.Proofs.YtkgnhghaiopgcaaDoor.Rf
