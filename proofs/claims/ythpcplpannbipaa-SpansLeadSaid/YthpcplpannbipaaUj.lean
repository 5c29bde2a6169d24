/- Keys of a revision, and what became of them up to a later one, in plain Lean; no program walked; no condition. -/
import Derived.Test.YthpcplpannbipaaUh
import Derived.Test.YthpcplpannbipaaUg
set_option linter.unusedVariables false
set_option linter.unusedSimpArgs false
set_option linter.unusedSectionVars false
namespace Go.Proofs.Ythpcplpannbipaa.Sa
open Go.RowKit Go.Proofs.Ythpcplpannbipaa.Kx Go.Proofs.Ythpcplpannbipaa.Mp Go.Proofs.Ythpcplpannbipaa.Mq Go.Proofs.Ythpcplpannbipaa.Sq
/-- What is told of one key, event by event: none: an event that cannot be. -/
def run (k : ByteArray) : Bool → List (Evt ByteArray) → Option Bool
  | c, [] => some c
  | c, e :: r => if e.2.1 = k then (if c = e.2.2 then none else run k e.2.2 r) else run k c r
theorem run_filter (k : ByteArray) : ∀ (E : List (Evt ByteArray)) (c : Bool), run k c (E.filter fun e => decide (e.2.1 = k)) = run k c E
  | [], c => rfl
  | e :: r, c => by
    rw [List.filter_cons]
    by_cases h : e.2.1 = k
    · rw [if_pos (by simpa using h), run, run, if_pos h, if_pos h, run_filter k r]
    · rw [if_neg (by simpa using h), run, if_neg h, run_filter k r]
/-- Spans that stand behind each other. -/
def Row1 (l : List Sp) : Prop := (∀ x ∈ l, 1 ≤ x.1 ∧ (x.2 = 0 ∨ x.1 < x.2)) ∧ l.Pairwise fun x y => x.2 ≠ 0 ∧ x.2 ≤ y.1
theorem Row1.of {hi : Int} {l : List Sp} (h : Ok hi l) : Row1 l := ⟨fun x hx => by obtain ⟨h1, _, h3⟩ := h.1 x hx; exact ⟨h1, h3.imp id (·.1)⟩, h.2⟩
theorem Row1.tail {x : Sp} {l : List Sp} (h : Row1 (x :: l)) : Row1 l := ⟨fun y hy => h.1 y (List.mem_cons_of_mem _ hy), (List.pairwise_cons.1 h.2).2⟩
def evK (k : ByteArray) (a b : Int) (l : List Sp) : List (Evt ByteArray) := l.flatMap fun x => evs a b (k, x)
theorem evK_cons (k : ByteArray) (a b : Int) (x : Sp) (l : List Sp) : evK k a b (x :: l) = (if a < x.1 ∧ x.1 ≤ b then [(x.1, k, true)] else []) ++ (if max a 0 < x.2 ∧ x.2 ≤ b then [(x.2, k, false)] else []) ++ evK k a b l := rfl
theorem evK_none (k : ByteArray) {a b : Int} : ∀ (l : List Sp), Row1 l → (∀ x ∈ l, b < x.1) → evK k a b l = []
  | [], _, _ => rfl
  | x :: l, h, hb => by
    have h1 := hb x List.mem_cons_self
    have h2 := h.1 x List.mem_cons_self
    rw [evK_cons, if_neg (by omega), if_neg (by omega), evK_none k l h.tail (fun y hy => hb y (List.mem_cons_of_mem _ hy))]
    rfl
theorem run_later (k : ByteArray) {a b : Int} (ha : 0 ≤ a) (hab : a ≤ b) : ∀ (l : List Sp), Row1 l → (∀ x ∈ l, a < x.1) → run k false (evK k a b l) = some (l.any (holds b))
  | [], _, _ => rfl
  | x :: l, h, hl => by
    have h1 := hl x List.mem_cons_self
    have h2 := h.1 x List.mem_cons_self
    have h3 := (List.pairwise_cons.1 h.2).1
    have hl' : ∀ y ∈ l, a < y.1 := fun y hy => hl y (List.mem_cons_of_mem _ hy)
    have ih := run_later k ha hab l h.tail hl'
    rw [evK_cons, List.any_cons]
    by_cases c1 : x.1 ≤ b
    · rw [if_pos ⟨h1, c1⟩]
      by_cases c2 : x.2 = 0
      · have hn : l = [] := by
          cases l with
          | nil => rfl
          | cons y l => exact absurd c2 (h3 y List.mem_cons_self).1
        subst hn
        rw [if_neg (by omega)]
        have : holds b x = true := by unfold holds; rw [decide_eq_true c1, decide_eq_true c2]; rfl
        rw [this]
        simp [run, evK]
      · by_cases c3 : x.2 ≤ b
        · rw [if_pos (by omega)]
          have hh : holds b x = false := by unfold holds; rw [decide_eq_true c1, decide_eq_false c2, decide_eq_false (by omega)]; rfl
          rw [hh, Bool.false_or, ← ih]
          simp [run]
        · rw [if_neg (by omega), evK_none k l h.tail (fun y hy => by have := h3 y hy; omega)]
          have hh : holds b x = true := by unfold holds; rw [decide_eq_true c1, decide_eq_false c2, decide_eq_true (by omega)]; rfl
          rw [hh]
          simp [run]
    · rw [if_neg (by omega), if_neg (by omega)]
      have hh : holds b x = false := by unfold holds; rw [decide_eq_false c1]; rfl
      rw [hh, Bool.false_or, ← ih]
      rfl
theorem run_row (k : ByteArray) {a b : Int} (ha : 0 ≤ a) (hab : a ≤ b) : ∀ (l : List Sp), Row1 l → run k (l.any (holds a)) (evK k a b l) = some (l.any (holds b))
  | [], _ => rfl
  | x :: l, h => by
    have h2 := h.1 x List.mem_cons_self
    have h3 := (List.pairwise_cons.1 h.2).1
    by_cases c0 : a < x.1
    · have hl : ∀ y ∈ x :: l, a < y.1 := fun y hy => by
        rcases List.mem_cons.1 hy with rfl | hy
        · exact c0
        · have := h3 y hy; omega
      have hf : (x :: l).any (holds a) = false := by
        rw [List.any_eq_false]
        intro y hy
        have := hl y hy
        unfold holds
        rw [decide_eq_false (by omega)]; simp
      rw [hf]
      exact run_later k ha hab (x :: l) h hl
    · by_cases c1 : x.2 ≠ 0 ∧ x.2 ≤ a
      · have ih := run_row k ha hab l h.tail
        rw [evK_cons, if_neg (by omega), if_neg (by omega), List.any_cons, List.any_cons]
        have hA : holds a x = false := by unfold holds; rw [decide_eq_false c1.1, decide_eq_false (show ¬ a < x.2 by omega)]; simp
        have hB : holds b x = false := by unfold holds; rw [decide_eq_false c1.1, decide_eq_false (show ¬ b < x.2 by omega)]; simp
        rw [hA, hB, Bool.false_or, Bool.false_or, ← ih]
        rfl
      · have hA : holds a x = true := by
          unfold holds
          rw [decide_eq_true (show x.1 ≤ a by omega)]
          by_cases c2 : x.2 = 0
          · rw [decide_eq_true c2]; rfl
          · rw [decide_eq_true (show a < x.2 by omega)]; simp
        rw [evK_cons, if_neg (by omega), List.any_cons, List.any_cons, hA, Bool.true_or, List.nil_append]
        by_cases c2 : x.2 = 0
        · have hn : l = [] := by
            cases l with
            | nil => rfl
            | cons y l => exact absurd c2 (h3 y List.mem_cons_self).1
          subst hn
          rw [if_neg (by omega)]
          have hB : holds b x = true := by unfold holds; rw [decide_eq_true (show x.1 ≤ b by omega), decide_eq_true c2]; rfl
          rw [hB]; rfl
        · by_cases c3 : x.2 ≤ b
          · rw [if_pos (by omega)]
            have hB : holds b x = false := by unfold holds; rw [decide_eq_false c2, decide_eq_false (show ¬ b < x.2 by omega)]; simp
            have := run_later k ha hab l h.tail (fun y hy => by have := h3 y hy; omega)
            rw [hB, Bool.false_or, ← this]
            simp [run]
          · rw [if_neg (by omega), evK_none k l h.tail (fun y hy => by have := h3 y hy; omega)]
            have hB : holds b x = true := by unfold holds; rw [decide_eq_true (show x.1 ≤ b by omega), decide_eq_true (show b < x.2 by omega)]; simp
            rw [hB]; rfl
theorem evK_ge (k : ByteArray) {a b : Int} : ∀ (l : List Sp) (c : Int), (∀ x ∈ l, c ≤ x.1) → Row1 l → ∀ e ∈ evK k a b l, c ≤ e.1 ∧ e.2.1 = k ∧ (e.1 = c → e.2.2 = true)
  | [], _, _, _, e, he => absurd he (by simp [evK])
  | x :: l, c, hc, h, e, he => by
    have h0 := hc x List.mem_cons_self
    have h2 := h.1 x List.mem_cons_self
    rw [evK_cons] at he
    rcases List.mem_append.1 he with he | he
    · rcases List.mem_append.1 he with he | he
      · split at he
        · obtain rfl : e = _ := by simpa using he
          exact ⟨h0, rfl, fun _ => rfl⟩
        · simp at he
      · split at he
        · rename_i hq
          obtain rfl : e = _ := by simpa using he
          exact ⟨by show c ≤ x.2; omega, rfl, fun h => by have : x.2 = c := h; omega⟩
        · simp at he
    · exact evK_ge k l c (fun y hy => hc y (List.mem_cons_of_mem _ hy)) h.tail e he
theorem evK_wk (k : ByteArray) {a b : Int} : ∀ (l : List Sp), Row1 l → Wk (elt blt) (evK k a b l)
  | [], _ => List.Pairwise.nil
  | x :: l, h => by
    have ih := evK_wk k (a := a) (b := b) l h.tail
    have h2 := h.1 x List.mem_cons_self
    have h3 := (List.pairwise_cons.1 h.2).1
    have hno : ∀ (u v : Evt ByteArray), u.1 ≤ v.1 → u.2.1 = v.2.1 → (u.1 = v.1 → v.2.2 = true) → elt blt v u = false := fun u v q1 q2 q3 => by
      rw [Bool.eq_false_iff]
      intro hh
      rcases (elt_iff _ _).1 hh with hh | ⟨hh, hh2 | ⟨_, hh3, _⟩⟩
      · omega
      · rw [q2, blt_TO.irr] at hh2; exact absurd hh2 (by decide)
      · rw [q3 hh.symm] at hh3; exact absurd hh3 (by decide)
    rw [evK_cons]
    refine List.pairwise_append.2 ⟨List.pairwise_append.2 ⟨?_, ?_, ?_⟩, ih, ?_⟩
    · split <;> simp
    · split <;> simp
    · intro u hu v hv
      split at hu <;> split at hv
      · rename_i q1 q2
        obtain rfl : u = _ := by simpa using hu
        obtain rfl : v = _ := by simpa using hv
        refine hno _ _ (by show x.1 ≤ x.2; omega) rfl (fun e => ?_)
        have : x.1 = x.2 := e
        omega
      all_goals simp_all
    · intro u hu v hv
      rcases List.mem_append.1 hu with hu | hu
      · split at hu
        · obtain rfl : u = _ := by simpa using hu
          obtain ⟨g1, g2, g3⟩ := evK_ge k l x.1 (fun y hy => by have := h3 y hy; omega) h.tail v hv
          exact hno _ _ g1 g2.symm (fun e => g3 e.symm)
        · simp at hu
      · split at hu
        · rename_i hq
          obtain rfl : u = _ := by simpa using hu
          obtain ⟨g1, g2, g3⟩ := evK_ge k l x.2 (fun y hy => (h3 y hy).2) h.tail v hv
          exact hno _ _ g1 g2.symm (fun e => g3 e.symm)
        · simp at hu
theorem ev_filter (k : ByteArray) (a b : Int) : ∀ L : List (ByteArray × Sp), (L.flatMap (evs a b)).filter (fun e => decide (e.2.1 = k)) = (fk L k).flatMap (evs a b)
  | [] => rfl
  | p :: L => by
    have ih := ev_filter k a b L
    rw [List.flatMap_cons, List.filter_append, ih]
    unfold fk
    rw [List.filter_cons]
    by_cases h : p.1 = k
    · rw [if_pos (by simpa using h), List.flatMap_cons]
      congr 1
      refine List.filter_eq_self.2 (fun e he => ?_)
      unfold evs at he
      rcases List.mem_append.1 he with he | he <;> split at he <;> simp at he <;> subst he <;> simpa using h
    · rw [if_neg (by simpa using h)]
      have : ((evs a b p).filter fun e => decide (e.2.1 = k)) = [] := by
        refine List.filter_eq_nil_iff.2 (fun e he => ?_)
        unfold evs at he
        rcases List.mem_append.1 he with he | he <;> split at he <;> simp at he <;> subst he <;> simpa using h
      rw [this]; rfl
/-- From what was, over what became of it, to what is. -/
theorem run_events {s : St ByteArray} (hi : Sq.Inv blt s) (k : ByteArray) {a b : Int} (ha : 0 ≤ a) (hab : a ≤ b) : run k (hasS s k a) (eventsS blt s a b) = some (hasS s k b) := by
  have T := elt_TO blt_TO
  have hr : Row1 (Sq.get s.g k) := Row1.of (ok_get blt_TO hi k)
  have hE : ((eventsS blt s a b).filter fun e => decide (e.2.1 = k)) = evK k a b (Sq.get s.g k) := by
    refine wk_ext T ((wk_sort T _).filter _) (evK_wk k _ hr) ?_
    refine ((List.mergeSort_perm _ _).filter _).trans (List.Perm.of_eq ?_)
    rw [ev_filter]
    have h1 := fk_pairs (flat s.g) k
    have h2 : (fk (flat s.g) k).map (·.2) = Sq.get s.g k := flat_rel hi k
    rw [h2] at h1
    rw [h1, List.flatMap_map]
    rfl
  rw [← run_filter, hE]
  exact run_row k ha hab _ hr
theorem one_holds (r : Int) : ∀ (l : List Sp), Row1 l → l.countP (holds r) = if l.any (holds r) = true then 1 else 0
  | [], _ => rfl
  | x :: l, h => by
    have ih := one_holds r l h.tail
    have h3 := (List.pairwise_cons.1 h.2).1
    rw [List.countP_cons, List.any_cons]
    by_cases hx : holds r x = true
    · have : l.any (holds r) = false := by
        rw [List.any_eq_false]
        intro y hy
        have q := h3 y hy
        have q2 := h.1 x List.mem_cons_self
        unfold holds at hx ⊢
        simp only [Bool.and_eq_true, Bool.or_eq_true, decide_eq_true_eq] at hx ⊢
        omega
      rw [ih, hx, this]; rfl
    · rw [ih, if_neg hx, Bool.eq_false_iff.2 hx]; rfl
theorem count_any (r : Int) : ∀ (g : List (ByteArray × List Sp)), (∀ p ∈ g, Row1 p.2) → (flat g).countP (fun p => holds r p.2) = g.countP fun p => p.2.any (holds r)
  | [], _ => rfl
  | (a, l) :: g, h => by
    have ih := count_any r g (fun p hp => h p (List.mem_cons_of_mem _ hp))
    have h1 := one_holds r l (h (a, l) List.mem_cons_self)
    rw [flat_cons, List.countP_append, ih, List.countP_cons, List.countP_map]
    have h2 : (l.countP ((fun p : ByteArray × Sp => holds r p.2) ∘ fun x => (a, x))) = l.countP (holds r) := rfl
    rw [h2, h1]
    show _ = _ + if l.any (holds r) = true then 1 else 0
    omega
/-- As many as are counted. -/
theorem keys_count {s : St ByteArray} (hi : Sq.Inv blt s) (r : Int) : (keysOf s r).length = countS s r := by
  unfold countS
  rw [count_any r s.g (fun p hp => Row1.of (hi.ok p hp))]
  unfold keysOf keysG
  rw [List.filter_map, List.length_map, ← List.countP_eq_length_filter]
  refine List.countP_congr (fun p hp => ?_)
  have : Sq.get s.g p.1 = p.2 := get_mem hi.srt blt_TO (by exact hp)
  show hasS s p.1 r = true ↔ _
  unfold hasS
  rw [this]
end Go.Proofs.Ythpcplpannbipaa.Sa
