/- The document's functions of layer 14, as contracts over the groups of spans; no condition. -/
import Derived.Test.YthpcplpannbipaaVb
import Derived.Test.YthpcplpannbipaaUg
set_option linter.unusedVariables false
set_option linter.unusedSimpArgs false
set_option linter.unusedSectionVars false
namespace Go.Proofs.Ythpcplpannbipaa.Nr
open Go.RowKit Go.Proofs.YthpcplpannbipaaW.PrintWords Go.Proofs.Ythpcplpannbipaa.Kx Go.Proofs.Ythpcplpannbipaa.Mp Go.Proofs.Ythpcplpannbipaa.Mq Go.Proofs.Ythpcplpannbipaa.Sq Go.Proofs.Ythpcplpannbipaa.Sa
/-- A value is the document's row of these spans; its cells lie where P says. -/
def Rf (w : World) (v : Value) (s : St ByteArray) (n : Nat) (P : Nat → Prop) : Prop := ∃ L : List Xs, RS w v L s.last P ∧ Rel s (L.map toR) ∧ L.length ≤ n
section
variable {w w' : World} {v : Value} {s : St ByteArray} {n : Nat} {P : Nat → Prop}
theorem Rf.below (h : Rf w v s n P) (hb : Below w.heap.size w w') : Rf w' v s n P := by
  obtain ⟨L, h1, h2, h3⟩ := h
  exact ⟨L, h1.below hb, h2, h3⟩
theorem Rf.move (h : Rf w v s n P) (hm : ∀ m, P m → w'.heap[m]? = w.heap[m]?) : Rf w' v s n P := by
  obtain ⟨L, ⟨A, c, e, h1, h4, h5⟩, h2, h3⟩ := h
  exact ⟨L, ⟨A, c, e, c_move h1 (fun ad h => hm _ (h5 ad h)), h4, h5⟩, h2, h3⟩
theorem Rf.mono {Q : Nat → Prop} (h : Rf w v s n P) (hm : ∀ m, P m → Q m) : Rf w v s n Q := by
  obtain ⟨L, ⟨A, c, e, h1, h4, h5⟩, h2, h3⟩ := h
  exact ⟨L, ⟨A, c, e, h1, h4, fun ad h => hm _ (h5 ad h)⟩, h2, h3⟩
theorem Rf.agg (h : Rf w v s n P) : ∃ A m c, v = .agg #[.slice A m c, .int .i64 s.last] := by
  obtain ⟨L, ⟨A, c, e, _⟩, _⟩ := h
  exact ⟨A, _, c, e⟩
theorem rf_nil (w : World) : Rf w (.agg #[.slice none 0 0, .int .i64 0]) ⟨[], 0⟩ 0 (fun _ => False) :=
  ⟨[], ⟨none, 0, rfl, (Kd.R_reads' (e := 102) (base := 0) (ok := fun _ => True) (xs := ([] : List Xs)) (d := k102) (w := w) (c := 0) (n := 0) (A := none) (Kd.R_nil _ _ _ _ _)).2.2, Nat.le_refl _, fun ad h => nomatch h⟩, fun k => rfl, Nat.le_refl _⟩
theorem has_r (h : Rf w v s n P) (hn : n ≤ 1000) (key : ByteArray) (rev : Int) : Calls Try.prog 35 #[v, .string key, .int .i64 rev] w fun e w' => e = .returned (.bool (hasS s key rev)) ∧ Below w.heap.size w w' := by
  obtain ⟨L, ⟨A, c, rfl, hC, hc, hP⟩, hr, hl⟩ := h
  refine doormanref14_Has.calls (L.length + 1) A c L s.last key rev _ w hC hc ?_
  have := has_l L s.last rev key (by omega) L 0 (L.length + 1) List.drop_zero (Nat.lt_succ_self _)
  rw [← has_rel hr key rev, List.any_map]
  exact this
theorem count_r (h : Rf w v s n P) (hn : n ≤ 1000) (hI : Sq.Inv blt s) (rev : Int) : Calls Try.prog 37 #[v, .int .i64 rev] w fun e w' => e = .returned (.int .i64 (countS s rev : Int)) ∧ Below w.heap.size w w' := by
  obtain ⟨L, ⟨A, c, rfl, hC, hc, hP⟩, hr, hl⟩ := h
  refine doormanref14_Count.calls (L.length + 1) A c L s.last rev _ w hC hc ?_
  have := count_l L s.last rev (by omega) L 0 0 (L.length + 1) List.drop_zero (Nat.lt_succ_self _) (by omega)
  rw [Nat.zero_add] at this
  rw [← count_rel blt_TO hI hr rev]
  exact this
theorem next_r (h : Rf w v s n P) (hn : n ≤ 1000) (hI : Sq.Inv blt s) (rev : Int) (f t : ByteArray) : Calls Try.prog 33 #[v, .int .i64 rev, .string f, .string t] w fun e w' => e = .returned (nxV (nextS blt s rev f (toO t))) ∧ Below w.heap.size w w' := by
  obtain ⟨L, ⟨A, c, rfl, hC, hc, hP⟩, hr, hl⟩ := h
  refine (doormanref14_Next.calls (L.length + 1) A c L s.last rev f t _ _ w hC hc (next_l L s.last rev f t (by omega) L none 0 (L.length + 1) List.drop_zero (Nat.lt_succ_self _))).mono fun e w' h => ⟨?_, h.2⟩
  rw [h.1, next_rel blt_TO hI hr rev f (toO t)]
  rfl
theorem events_r (h : Rf w v s n P) (hn : n ≤ 1000) (hI : Sq.Inv blt s) (f t : Int) : Calls Try.prog 39 #[v, .int .i64 f, .int .i64 t] w fun e w' => ∃ A c, ∃ o : List Es, e = .returned (.slice A o.length c) ∧ Kd.C k74 w' A o.length o ∧ o.map toE = eventsS blt s f t ∧ Below w.heap.size w w' := by
  obtain ⟨L, ⟨A, c, rfl, hC, hc, hP⟩, hr, hl⟩ := h
  obtain ⟨o, ho, he⟩ := events_l L s.last f t (by omega) L [] 0 (4 * L.length + 4) List.drop_zero (by simp) (by simp; omega)
  refine (doormanref14_Events.calls (4 * L.length + 4) A c L s.last f t o w hC hc ho).mono ?_
  rintro e w' ⟨v, rfl, hR, hb⟩
  obtain ⟨A', c', rfl⟩ := Kd.R_slice hR
  refine ⟨A', c', o, rfl, (Kd.R_reads' hR).2.2, ?_, hb⟩
  rw [he, ← events_rel blt_TO hI hr f t]
  rfl
theorem trim_r (h : Rf w v s n P) (hn : n ≤ 1000) (hI : Sq.Inv blt s) (rev : Int) : Calls Try.prog 31 #[v, .int .i64 rev] w fun e w' => ∃ v', e = .returned (.tuple #[v', .int .i64 ((trimS s rev).2 : Int)]) ∧ Rf w' v' (trimS s rev).1 n (fun m => P m ∨ w.heap.size ≤ m ∧ m < w'.heap.size) ∧ Below w.heap.size w w' := by
  obtain ⟨L, ⟨A, c, rfl, hC, hc, hP⟩, hr, hl⟩ := h
  refine (doormanref14_Trim.calls (L.length + 1) A c L s.last rev _ _ _ w hC hc (trim_l L s.last rev (by omega) L [] 0 (L.length + 1) List.drop_zero (Nat.lt_succ_self _) (by simp; omega))).mono ?_
  rintro e w' ⟨v, rfl, hR, hb⟩
  obtain ⟨A', c', rfl⟩ := Kd.R_slice hR
  have hrd := Kd.R_reads' hR
  have hm : ([] ++ L.filter (fun x => !gone rev (toR x).2)).map toR = trimR (L.map toR) rev := by
    rw [List.nil_append]
    unfold trimR
    rw [List.filter_map]
    rfl
  obtain ⟨t1, t2⟩ := trim_rel blt_TO hI hr rev
  have hle : (L.filter (fun x => !gone rev (toR x).2)).length ≤ L.length := List.length_filter_le _ _
  refine ⟨_, ?_, ⟨_, ⟨A', c', rfl, hrd.2.2, hrd.2.1, fun ad h => .inr (r_blk hR ad h)⟩, by rw [hm]; exact t1, Nat.le_trans hle hl⟩, hb⟩
  rw [← hm, List.length_map, List.length_map] at t2
  rw [← t2]
  have : ((L.length : Int) - (([] ++ L.filter (fun x => !gone rev (toR x).2)).length : Int)) = ((L.length - ([] ++ L.filter (fun x => !gone rev (toR x).2)).length : Nat) : Int) := by
    rw [List.nil_append]; omega
  rw [this]
  rfl
theorem opI_any (L : List Xs) (key : ByteArray) : decide (0 ≤ opI L key 0) = (L.map toR).any (isOpen key) := by
  unfold opI
  rw [List.any_map]
  cases h : L.findIdx? (fun x => isOpen key (toR x)) with
  | none =>
    rw [decide_eq_false (by decide)]
    exact (List.any_eq_false.2 (fun x hx => by have h1 := List.findIdx?_eq_none_iff.1 h x hx; show ¬ (isOpen key (toR x) = true); rw [h1]; simp)).symm
  | some j =>
    rw [decide_eq_true (Int.natCast_nonneg _)]
    obtain ⟨hj, h1, _⟩ := List.findIdx?_eq_some_iff_getElem.1 h
    exact (List.any_eq_true.2 ⟨L[j], List.getElem_mem hj, h1⟩).symm
theorem put_r (h : Rf w v s n P) (hn : n ≤ 1000) (hI : Sq.Inv blt s) (key : ByteArray) (rev : Int) : Calls Try.prog 27 #[v, .string key, .int .i64 rev] w fun e w' => ∃ v', e = .returned (.tuple #[v', .bool (putS blt s key rev).2]) ∧ Rf w' v' (putS blt s key rev).1 (n + 1) (fun m => P m ∨ w.heap.size ≤ m ∧ m < w'.heap.size) ∧ Below w.heap.size w w' := by
  obtain ⟨L, ⟨A, c, rfl, hC, hc, hP⟩, hr, hl⟩ := h
  refine (rput_c (L.length + 1) A c L s.last key rev _ w hC hc P hP (by omega) (open_l L s.last key (by omega) L 0 (L.length + 1) List.drop_zero (Nat.lt_succ_self _))).mono ?_
  rintro e w' ⟨v, rfl, hR, hb⟩
  obtain ⟨p1, p2, p3⟩ := put_rel blt_TO hI hr key rev
  rw [opI_any] at hR ⊢
  by_cases hcnd : rev < 1 ∨ rev < s.last ∨ (L.map toR).any (isOpen key) = true
  · have e1 : putR (L.map toR) s.last key rev = ((L.map toR, s.last), false) := if_pos hcnd
    have e2 : (decide (rev < 1) || decide (rev < s.last) || (L.map toR).any (isOpen key)) = true := by simp only [Bool.or_eq_true, decide_eq_true_eq]; rcases hcnd with h | h | h <;> simp [h]
    rw [e1] at p1 p2 p3
    rw [e2] at hR ⊢
    exact ⟨v, by rw [← p1]; rfl, ⟨L, by rw [← p2]; exact hR, p3, by omega⟩, hb⟩
  · have e1 : putR (L.map toR) s.last key rev = ((L.map toR ++ [(key, (rev, 0))], rev), true) := if_neg hcnd
    have e2 : (decide (rev < 1) || decide (rev < s.last) || (L.map toR).any (isOpen key)) = false := by
      cases hx : (decide (rev < 1) || decide (rev < s.last) || (L.map toR).any (isOpen key)) with
      | false => rfl
      | true => simp only [Bool.or_eq_true, decide_eq_true_eq] at hx; exact absurd (by rcases hx with (h | h) | h <;> simp [h]) hcnd
    rw [e1] at p1 p2 p3
    rw [e2] at hR ⊢
    exact ⟨v, by rw [← p1]; rfl, ⟨L ++ [⟨key, rev, 0⟩], by rw [← p2]; exact hR, by rw [List.map_append]; exact p3, by rw [List.length_append, List.length_singleton]; omega⟩, hb⟩
theorem drop_r (h : Rf w v s n P) (hn : n ≤ 1000) (hI : Sq.Inv blt s) (key : ByteArray) (rev : Int) : Calls Try.prog 29 #[v, .string key, .int .i64 rev] w fun e w' => ∃ v', e = .returned (.tuple #[v', .bool (dropS blt s key rev).2]) ∧ Rf w' v' (dropS blt s key rev).1 n (fun m => P m ∨ w.heap.size ≤ m ∧ m < w'.heap.size) ∧ Below w.heap.size w w' := by
  obtain ⟨L, ⟨A, c, rfl, hC, hc, hP⟩, hr, hl⟩ := h
  have hlt : opI L key 0 < (L.length : Int) := by
    unfold opI
    cases h : L.findIdx? (fun x => isOpen key (toR x)) with
    | none => show (-1 : Int) < _; omega
    | some j =>
      obtain ⟨hj, h1, _⟩ := List.findIdx?_eq_some_iff_getElem.1 h
      show ((0 + j : Nat) : Int) < _; omega
  refine (rdrop_c (L.length + 1) A c L s.last key rev _ w hC hc P hP (by omega) (open_l L s.last key (by omega) L 0 (L.length + 1) List.drop_zero (Nat.lt_succ_self _)) hlt).mono ?_
  rintro e w' ⟨v, rfl, hR, hb⟩
  obtain ⟨p1, p2, p3⟩ := drop_rel blt_TO hI hr key rev
  clear hlt
  unfold dropR at p1 p2 p3
  rw [List.findIdx?_map] at p1 p2 p3
  unfold opI at hR ⊢
  have hcomp : ((isOpen key) ∘ toR) = fun x => isOpen key (toR x) := rfl
  rw [hcomp] at p1 p2 p3
  cases hx : L.findIdx? (fun x => isOpen key (toR x)) with
  | none =>
    rw [hx] at p1 p2 p3 hR
    have e2 : ∀ b, (decide (rev < s.last) || decide ((-1 : Int) < 0) || b) = true := fun b => by simp
    dsimp only at p1 p2 p3 hR ⊢
    rw [e2] at hR ⊢
    exact ⟨v, by rw [← p1]; rfl, ⟨L, by rw [← p2]; exact hR, p3, hl⟩, hb⟩
  | some j =>
    rw [hx] at p1 p2 p3 hR
    obtain ⟨hj, h1, _⟩ := List.findIdx?_eq_some_iff_getElem.1 hx
    have hg : L[j]? = some L[j] := List.getElem?_eq_getElem hj
    have hrd : rd_T102 L ((0 + j : Nat) : Int) = L[j] := by rw [Nat.zero_add]; exact rd_x hg
    have hgm : (L.map toR)[j]? = some (toR L[j]) := by rw [List.getElem?_map, hg]; rfl
    have htn : (((0 + j : Nat) : Int)).toNat = j := by rw [Nat.zero_add]; rfl
    dsimp only at p1 p2 p3 hR ⊢
    rw [hgm] at p1 p2 p3
    rw [hrd, htn] at hR
    rw [hrd]
    dsimp only at p1 p2 p3
    have hneg : decide (((0 + j : Nat) : Int) < 0) = false := decide_eq_false (by omega)
    rw [hneg, Bool.or_false] at hR ⊢
    by_cases hcnd : rev < s.last ∨ rev ≤ (toR L[j]).2.1
    · rw [if_pos hcnd] at p1 p2 p3
      have e2 : (decide (rev < s.last) || decide (rev ≤ L[j].f1)) = true := by
        simp only [Bool.or_eq_true, decide_eq_true_eq]; exact hcnd
      rw [e2] at hR ⊢
      exact ⟨v, by rw [← p1]; rfl, ⟨L, by rw [← p2]; exact hR, p3, hl⟩, hb⟩
    · rw [if_neg hcnd] at p1 p2 p3
      have e2 : (decide (rev < s.last) || decide (rev ≤ L[j].f1)) = false := by
        cases hy : (decide (rev < s.last) || decide (rev ≤ L[j].f1)) with
        | false => rfl
        | true => simp only [Bool.or_eq_true, decide_eq_true_eq] at hy; exact absurd hy hcnd
      rw [e2] at hR ⊢
      refine ⟨v, by rw [← p1]; rfl, ⟨L.set j ⟨L[j].f0, L[j].f1, rev⟩, by rw [← p2]; exact hR, ?_, by rw [List.length_set]; exact hl⟩, hb⟩
      rw [List.map_set]
      exact p3
end
end Go.Proofs.Ythpcplpannbipaa.Nr
