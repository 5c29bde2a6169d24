/- Laws on spans in plain Lean: what became of keys; no program walked; no condition. -/
import Derived.Test.YthpcplpannbipaaUc
set_option linter.unusedVariables false
set_option linter.unusedSimpArgs false
set_option linter.unusedSectionVars false
namespace Go.Proofs.Ythpcplpannbipaa.Sa
open Go.Proofs.Ythpcplpannbipaa.Kx Go.Proofs.Ythpcplpannbipaa.Mp Go.Proofs.Ythpcplpannbipaa.Mq Go.Proofs.Ythpcplpannbipaa.Sq
theorem ev_mem {s : St ByteArray} {f t : Int} {e : Evt ByteArray} (h : e ∈ eventsS blt s f t) : f < e.1 ∧ e.1 ≤ t := by
  have h1 := (List.mergeSort_perm _ _).subset h
  obtain ⟨p, hp, he⟩ := List.mem_flatMap.1 h1
  unfold evs at he
  rcases List.mem_append.1 he with h2 | h2
  · split at h2
    · rename_i hc
      obtain rfl : e = _ := by simpa using h2
      exact hc
    · simp at h2
  · split at h2
    · rename_i hc
      obtain rfl : e = _ := by simpa using h2
      refine ⟨?_, hc.2⟩
      show f < p.2.2
      omega
    · simp at h2
theorem ev_none {s : St ByteArray} {f t : Int} (h : t ≤ f) : eventsS blt s f t = [] := by
  refine List.eq_nil_iff_forall_not_mem.2 (fun e he => ?_)
  have := ev_mem he
  omega
theorem if_two {α : Type} {P Q R : Prop} [Decidable P] [Decidable Q] [Decidable R] (x : α) (h1 : R ↔ P ∨ Q) (h2 : ¬ (P ∧ Q)) : (if P then [x] else []) ++ (if Q then [x] else []) = if R then [x] else [] := by
  by_cases hp : P
  · have hq : ¬ Q := fun hq => h2 ⟨hp, hq⟩
    rw [if_pos hp, if_neg hq, if_pos (h1.2 (.inl hp))]; rfl
  · by_cases hq : Q
    · rw [if_neg hp, if_pos hq, if_pos (h1.2 (.inr hq))]; rfl
    · rw [if_neg hp, if_neg hq, if_neg (fun h => (h1.1 h).elim hp hq)]; rfl
theorem evs_two {a b c : Int} (h1 : a ≤ b) (h2 : b ≤ c) (p : ByteArray × Sp) : (evs a b p ++ evs b c p).Perm (evs a c p) := by
  unfold evs
  have e1 := if_two (P := a < p.2.1 ∧ p.2.1 ≤ b) (Q := b < p.2.1 ∧ p.2.1 ≤ c) (R := a < p.2.1 ∧ p.2.1 ≤ c) ((p.2.1, p.1, true) : Evt ByteArray) (by omega) (by omega)
  have e2 := if_two (P := max a 0 < p.2.2 ∧ p.2.2 ≤ b) (Q := max b 0 < p.2.2 ∧ p.2.2 ≤ c) (R := max a 0 < p.2.2 ∧ p.2.2 ≤ c) ((p.2.2, p.1, false) : Evt ByteArray) (by omega) (by omega)
  rw [← e1, ← e2, List.append_assoc, List.append_assoc]
  refine List.Perm.append_left _ ?_
  rw [← List.append_assoc, ← List.append_assoc]
  exact List.Perm.append_right _ List.perm_append_comm
theorem flat_two {β γ : Type} (f g : β → List γ) : ∀ l : List β, (l.flatMap f ++ l.flatMap g).Perm (l.flatMap fun x => f x ++ g x)
  | [] => .nil
  | x :: l => by
    have ih := flat_two f g l
    rw [List.flatMap_cons, List.flatMap_cons, List.flatMap_cons, List.append_assoc, List.append_assoc]
    refine List.Perm.append_left _ ?_
    refine List.Perm.trans ?_ (List.Perm.append_left _ ih)
    rw [← List.append_assoc, ← List.append_assoc]
    exact List.Perm.append_right _ List.perm_append_comm
theorem flat_perm {β γ : Type} {f g : β → List γ} (h : ∀ x, (f x).Perm (g x)) : ∀ l : List β, (l.flatMap f).Perm (l.flatMap g)
  | [] => .nil
  | x :: l => by rw [List.flatMap_cons, List.flatMap_cons]; exact (h x).append (flat_perm h l)
theorem ev_two (s : St ByteArray) {a b c : Int} (h1 : a ≤ b) (h2 : b ≤ c) : eventsS blt s a b ++ eventsS blt s b c = eventsS blt s a c := by
  have T := elt_TO blt_TO
  refine wk_ext T ?_ (wk_sort T _) ?_
  · refine List.pairwise_append.2 ⟨wk_sort T _, wk_sort T _, fun x hx y hy => ?_⟩
    have q1 := ev_mem hx
    have q2 := ev_mem hy
    rw [Bool.eq_false_iff]
    intro h
    rcases (elt_iff _ _).1 h with h | h
    · omega
    · omega
  · refine (List.Perm.append (List.mergeSort_perm _ _) (List.mergeSort_perm _ _)).trans ?_
    refine (flat_two _ _ _).trans ?_
    exact (flat_perm (fun p => evs_two h1 h2 p) _).trans (List.mergeSort_perm _ _).symm
open Go.RowKit Go.Proofs.YthpcplpannbipaaW.PrintWords Go.Proofs.YthpcplpannbipaaW.PrintLast
theorem ev_len (s : St ByteArray) {f t : Int} {n : Nat} (h : (flat s.g).length ≤ n) : (eventsS blt s f t).length ≤ n * 2 := by
  have h1 : (eventsS blt s f t).length = ((flat s.g).flatMap (evs f t)).length := List.length_mergeSort _
  have h2 := evs_len f t (flat s.g)
  unfold evsOf at h2
  omega
def mkE (x : Evt ByteArray) : S73 := ⟨x.1, x.2.1, x.2.2⟩
theorem reps3 {α : Type} {R : α → List Value → Prop} {enc : α → List Value} (hR : ∀ p c, R p c → c = enc p) (h2 : ∀ p, (enc p).length = 3) : ∀ {xs : List α} {inner : List Value}, Reps R 3 xs inner → inner = xs.flatMap enc
  | [], inner, h => List.length_eq_zero_iff.1 (by simpa using h.1)
  | x :: xs, inner, h => by
    have h0 := hR _ _ (h.2 0 x rfl)
    rw [Nat.zero_mul, List.drop_zero] at h0
    have ih : inner.drop 3 = xs.flatMap enc := reps3 hR h2 ⟨by rw [List.length_drop, h.1, List.length_cons]; omega, fun j p hj => by
      have := h.2 (j + 1) p (by simpa using hj)
      rw [List.drop_drop]
      rwa [show 3 + j * 3 = (j + 1) * 3 by omega]⟩
    rw [List.flatMap_cons, ← ih, ← h0, List.take_append_drop]
theorem flat3_reps {α : Type} {R : α → List Value → Prop} {enc : α → List Value} (hR : ∀ p, R p (enc p)) (h2 : ∀ p, (enc p).length = 3) : ∀ (xs : List α), Reps R 3 xs (xs.flatMap enc)
  | [] => Reps.none _ _
  | x :: xs => by
    have ih := flat3_reps hR h2 xs
    refine ⟨by rw [List.flatMap_cons, List.length_append, h2, ih.1, List.length_cons]; omega, fun j p hj => ?_⟩
    rw [List.flatMap_cons]
    cases j with
    | zero =>
      obtain rfl : x = p := by simpa using hj
      rw [Nat.zero_mul, List.drop_zero, List.take_append_of_le_length (by rw [h2]; exact Nat.le_refl _), List.take_of_length_le (by rw [h2]; exact Nat.le_refl _)]
      exact hR x
    | succ j =>
      have h3 := ih.2 j p (by simpa using hj)
      rw [List.drop_append, h2, List.drop_eq_nil_of_le (by rw [h2]; omega), List.nil_append, show (j + 1) * 3 - 3 = j * 3 by omega]
      exact h3
theorem flat3_map (l : List (Evt ByteArray)) : (l.map mkE).flatMap (fun x : S73 => [.int .i64 x.f0, .string x.f1, .bool x.f2]) = l.flatMap enc3 := by
  rw [List.flatMap_map]; rfl
theorem ev_R {w : World} {base : Nat} {v : Value} {l : List (Evt ByteArray)} (h : EvRow w base v l) : k73.R 73 w base (fun _ => True) v (l.map mkE) := by
  refine ⟨fun _ _ => trivial, l.flatMap enc3, by rw [List.length_map]; exact h, ?_⟩
  rw [← flat3_map]
  exact flat3_reps (fun p => k73_mkM _ _ _ p) (fun _ => rfl) _
theorem R_ev {w : World} {base : Nat} {ok : Nat → Prop} {v : Value} {l : List (Evt ByteArray)} (h : k73.R 73 w base ok v (l.map mkE)) : EvRow w base v l := by
  obtain ⟨_, inner, ho, hr⟩ := h
  have e := reps3 (enc := fun x : S73 => [.int .i64 x.f0, .string x.f1, .bool x.f2]) (fun p c h => k73_openM h) (fun _ => rfl) hr
  rw [flat3_map] at e
  subst e
  rw [List.length_map] at ho
  exact ho
theorem ev_slice {w : World} {base : Nat} {v : Value} {l : List (Evt ByteArray)} (h : EvRow w base v l) : ∃ A c, v = .slice A l.length c := by
  obtain ⟨A, c, e⟩ := Kd.R_slice (ev_R h)
  exact ⟨A, c, by rw [e, List.length_map]⟩
theorem ev_C {w : World} {base : Nat} {A : Option Addr} {n c : Nat} {l : List (Evt ByteArray)} (h : EvRow w base (.slice A n c) l) : Kd.C k73 w A l.length (l.map mkE) := by
  have := (Kd.R_reads' (ev_R h)).2.2
  rwa [List.length_map] at this
theorem ev_KM {W : World} {base : Nat} {okp : Nat → Prop} (x : S73) (cs : List Value) (h : k73.K W x cs) : k73.M W base okp x cs := by
  have := k73_open h
  subst this
  exact k73_mkM _ _ _ x
theorem EvRow.below {w w' : World} {base : Nat} {v : Value} {l : List (Evt ByteArray)} (h : EvRow w base v l) (hb : Below w.heap.size w w') : EvRow w' base v l := R_ev (Kd.R_below (ev_R h) hb)
end Go.Proofs.Ythpcplpannbipaa.Sa
