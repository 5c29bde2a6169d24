/- Sets as rising rows, and what changes of them come to: plain Lean, no program walked; no condition. -/
import Derived.Lib.JoinLaws
set_option linter.unusedVariables false
set_option linter.unusedSimpArgs false
namespace Go.Proofs.Ythpcplpannbipaa.Mp

structure TO {α : Type} (lt : α → α → Bool) : Prop where
  irr : ∀ x, lt x x = false
  tr : ∀ {x y z}, lt x y = true → lt y z = true → lt x z = true
  tri : ∀ {x y}, lt x y = false → lt y x = false → x = y
section
variable {α : Type} {lt : α → α → Bool}
theorem TO.asym (T : TO lt) {x y : α} (h : lt x y = true) : lt y x = false := by
  cases h2 : lt y x with
  | false => rfl
  | true => have := T.tr h h2; rw [T.irr] at this; exact absurd this (by decide)
theorem TO.ne (T : TO lt) {x y : α} (h : lt x y = true) : x ≠ y := by
  rintro rfl; rw [T.irr] at h; exact absurd h (by decide)
/-- Rising. -/
def Srt (lt : α → α → Bool) (s : List α) : Prop := s.Pairwise (fun x y => lt x y = true)
theorem srt_ext (T : TO lt) : ∀ {s t : List α}, Srt lt s → Srt lt t → (∀ k, k ∈ s ↔ k ∈ t) → s = t
  | [], [], _, _, _ => rfl
  | [], y :: t, _, _, h => absurd ((h y).2 (by simp)) (by simp)
  | x :: s, [], _, _, h => absurd ((h x).1 (by simp)) (by simp)
  | x :: s, y :: t, hs, ht, h => by
    have hs' := List.pairwise_cons.1 hs
    have ht' := List.pairwise_cons.1 ht
    have e : x = y := by
      rcases List.mem_cons.1 ((h x).1 (by simp)) with e | hx
      · exact e
      · rcases List.mem_cons.1 ((h y).2 (by simp)) with e | hy
        · exact e.symm
        · have h1 := ht'.1 x hx
          have h2 := hs'.1 y hy
          rw [T.asym h1] at h2
          exact absurd h2 (by decide)
    subst e
    have : s = t := srt_ext T hs'.2 ht'.2 (fun k => by
      constructor
      · intro hk
        rcases List.mem_cons.1 ((h k).1 (by simp [hk])) with rfl | h2
        · exact absurd rfl (T.ne (hs'.1 k hk))
        · exact h2
      · intro hk
        rcases List.mem_cons.1 ((h k).2 (by simp [hk])) with rfl | h2
        · exact absurd rfl (T.ne (ht'.1 k hk))
        · exact h2)
    rw [this]
/-- How many stand ahead of a key. -/
def pos (lt : α → α → Bool) : List α → α → Nat
  | [], _ => 0
  | x :: r, k => if lt x k = true then pos lt r k + 1 else 0
theorem pos_le : ∀ (s : List α) (k : α), pos lt s k ≤ s.length
  | [], _ => Nat.le_refl _
  | x :: r, k => by rw [pos]; split <;> simp [pos_le r k]
/-- A key put in where it belongs. -/
def ins (lt : α → α → Bool) (s : List α) (k : α) : List α := s.take (pos lt s k) ++ k :: s.drop (pos lt s k)
theorem ins_cons (x : α) (r : List α) (k : α) : ins lt (x :: r) k = if lt x k = true then x :: ins lt r k else k :: x :: r := by
  unfold ins
  rw [pos]
  split <;> simp
theorem mem_ins {s : List α} {k j : α} : j ∈ ins lt s k ↔ j = k ∨ j ∈ s := by
  unfold ins
  rw [List.mem_append, List.mem_cons]
  conv => rhs; rw [← List.take_append_drop (pos lt s k) s, List.mem_append]
  constructor
  · rintro (h | h | h)
    · exact .inr (.inl h)
    · exact .inl h
    · exact .inr (.inr h)
  · rintro (h | h | h)
    · exact .inr (.inl h)
    · exact .inl h
    · exact .inr (.inr h)
theorem srt_ins (T : TO lt) : ∀ {s : List α} {k : α}, Srt lt s → k ∉ s → Srt lt (ins lt s k)
  | [], k, _, _ => by simp [ins, pos, Srt]
  | x :: r, k, hs, hk => by
    have hs' := List.pairwise_cons.1 hs
    rw [ins_cons]
    cases hx : lt x k with
    | true =>
      rw [if_pos rfl]
      refine List.pairwise_cons.2 ⟨fun j hj => ?_, srt_ins T hs'.2 (fun h => hk (by simp [h]))⟩
      rcases mem_ins.1 hj with rfl | hj
      · exact hx
      · exact hs'.1 j hj
    | false =>
      rw [if_neg (by decide)]
      have hkx : lt k x = true := by
        cases h2 : lt k x with
        | true => rfl
        | false => exact absurd (T.tri hx h2) (fun e => hk (by simp [e]))
      refine List.pairwise_cons.2 ⟨fun j hj => ?_, hs⟩
      rcases List.mem_cons.1 hj with rfl | hj
      · exact hkx
      · exact T.tr hkx (hs'.1 j hj)
theorem ins_len (s : List α) (k : α) : (ins lt s k).length = s.length + 1 := by
  unfold ins
  have := pos_le (lt := lt) s k
  simp only [List.length_append, List.length_take, List.length_cons, List.length_drop]
  omega
/-- A rising row's key lies where so many stand ahead. -/
theorem pos_mem (T : TO lt) : ∀ {s : List α} {k : α}, Srt lt s → k ∈ s → ∃ h : pos lt s k < s.length, s[pos lt s k] = k
  | [], k, _, hk => absurd hk (by simp)
  | x :: r, k, hs, hk => by
    have hs' := List.pairwise_cons.1 hs
    rcases List.mem_cons.1 hk with rfl | hk
    · have : pos lt (k :: r) k = 0 := by rw [pos, T.irr, if_neg (by decide)]
      exact ⟨by rw [this]; simp, by simp [this]⟩
    · have : pos lt (x :: r) k = pos lt r k + 1 := by rw [pos, if_pos (hs'.1 k hk)]
      obtain ⟨h1, h2⟩ := pos_mem T hs'.2 hk
      exact ⟨by rw [this]; simp [h1], by simp [this, h2]⟩
theorem pos_pre (T : TO lt) : ∀ (p s : List α) (k : α), (∀ x ∈ p, lt x k = true) → (∀ x ∈ s, lt x k = false) → pos lt (p ++ s) k = p.length
  | [], [], k, _, _ => rfl
  | [], x :: s, k, _, h => by rw [List.nil_append, pos, h x (by simp), if_neg (by decide)]; rfl
  | x :: p, s, k, h, h2 => by rw [List.cons_append, pos, if_pos (h x (by simp)), pos_pre T p s k (fun y hy => h y (by simp [hy])) h2]; rfl
theorem ins_pre (T : TO lt) (p s : List α) (k : α) (h : ∀ x ∈ p, lt x k = true) (h2 : ∀ x ∈ s, lt k x = true) : ins lt (p ++ s) k = p ++ [k] ++ s := by
  unfold ins
  rw [pos_pre T p s k h (fun x hx => T.asym (h2 x hx))]
  simp
def diffF (lt : α → α → Bool) : Nat → List α → List α → List (α × Bool)
  | 0, _, _ => []
  | _ + 1, [], [] => []
  | n + 1, x :: s, [] => (x, false) :: diffF lt n s []
  | n + 1, [], y :: t => (y, true) :: diffF lt n [] t
  | n + 1, x :: s, y :: t => if lt x y = true then (x, false) :: diffF lt n s (y :: t) else if lt y x = true then (y, true) :: diffF lt n (x :: s) t else diffF lt n s t
def diff (lt : α → α → Bool) (s t : List α) : List (α × Bool) := diffF lt (s.length + t.length) s t
theorem diffF_mem : ∀ (n : Nat) (s t : List α) (c : α × Bool), c ∈ diffF lt n s t → c.1 ∈ s ∨ c.1 ∈ t
  | 0, _, _, c, h => absurd h (by simp [diffF])
  | n + 1, [], [], c, h => absurd h (by simp [diffF])
  | n + 1, x :: s, [], c, h => by
    rw [diffF] at h
    rcases List.mem_cons.1 h with rfl | h
    · simp
    · rcases diffF_mem n s [] c h with h | h <;> simp_all
  | n + 1, [], y :: t, c, h => by
    rw [diffF] at h
    rcases List.mem_cons.1 h with rfl | h
    · simp
    · rcases diffF_mem n [] t c h with h | h <;> simp_all
  | n + 1, x :: s, y :: t, c, h => by
    rw [diffF] at h
    split at h
    · rcases List.mem_cons.1 h with rfl | h
      · simp
      · rcases diffF_mem n s (y :: t) c h with h | h <;> simp_all
    · split at h
      · rcases List.mem_cons.1 h with rfl | h
        · simp
        · rcases diffF_mem n (x :: s) t c h with h | h <;> simp_all
      · rcases diffF_mem n s t c h with h | h <;> simp_all
theorem diffF_rises (T : TO lt) : ∀ (n : Nat) (s t : List α), Srt lt s → Srt lt t → (diffF lt n s t).Pairwise (fun a b => lt a.1 b.1 = true)
  | 0, _, _, _, _ => by simp [diffF]
  | n + 1, [], [], _, _ => by simp [diffF]
  | n + 1, x :: s, [], hs, ht => by
    have h2 := List.pairwise_cons.1 hs
    rw [diffF]
    refine List.pairwise_cons.2 ⟨fun c hc => ?_, diffF_rises T n s [] h2.2 ht⟩
    rcases diffF_mem n s [] c hc with h | h
    · exact h2.1 _ h
    · exact absurd h (by simp)
  | n + 1, [], y :: t, hs, ht => by
    have h2 := List.pairwise_cons.1 ht
    rw [diffF]
    refine List.pairwise_cons.2 ⟨fun c hc => ?_, diffF_rises T n [] t hs h2.2⟩
    rcases diffF_mem n [] t c hc with h | h
    · exact absurd h (by simp)
    · exact h2.1 _ h
  | n + 1, x :: s, y :: t, hs, ht => by
    have h2 := List.pairwise_cons.1 hs
    have g2 := List.pairwise_cons.1 ht
    rw [diffF]
    cases hxy : lt x y with
    | true =>
      rw [if_pos rfl]
      refine List.pairwise_cons.2 ⟨fun c hc => ?_, diffF_rises T n s (y :: t) h2.2 ht⟩
      rcases diffF_mem n s (y :: t) c hc with h | h
      · exact h2.1 _ h
      · rcases List.mem_cons.1 h with h | h
        · rw [h]; exact hxy
        · exact T.tr hxy (g2.1 _ h)
    | false =>
      rw [if_neg (by decide)]
      cases hyx : lt y x with
      | true =>
        rw [if_pos rfl]
        refine List.pairwise_cons.2 ⟨fun c hc => ?_, diffF_rises T n (x :: s) t hs g2.2⟩
        rcases diffF_mem n (x :: s) t c hc with h | h
        · rcases List.mem_cons.1 h with h | h
          · rw [h]; exact hyx
          · exact T.tr hyx (h2.1 _ h)
        · exact g2.1 _ h
      | false =>
        rw [if_neg (by decide)]
        exact diffF_rises T n s t h2.2 g2.2
end
section
variable {α : Type} [DecidableEq α] {lt : α → α → Bool}
/-- A key taken out. -/
def del (s : List α) (k : α) : List α := s.filter fun x => !decide (x = k)
theorem mem_del {s : List α} {k j : α} : j ∈ del s k ↔ j ∈ s ∧ j ≠ k := by simp [del]
theorem srt_del {s : List α} (k : α) (h : Srt lt s) : Srt lt (del s k) := List.Pairwise.sublist (List.filter_sublist) h
theorem del_none {s : List α} {k : α} (h : k ∉ s) : del s k = s := by
  unfold del
  rw [List.filter_eq_self]
  intro x hx
  have : x ≠ k := fun e => h (e ▸ hx)
  simp [this]
theorem del_pos (T : TO lt) : ∀ {s : List α} {k : α}, Srt lt s → k ∈ s → del s k = s.take (pos lt s k) ++ s.drop (pos lt s k + 1)
  | [], k, _, hk => absurd hk (by simp)
  | x :: r, k, hs, hk => by
    have hs' := List.pairwise_cons.1 hs
    by_cases e : x = k
    · subst e
      have h0 : pos lt (x :: r) x = 0 := by rw [pos, T.irr, if_neg (by decide)]
      rw [h0]
      have hn : x ∉ r := fun h => absurd rfl (T.ne (hs'.1 x h))
      have := del_none hn
      unfold del at this ⊢
      rw [List.filter_cons, if_neg (by simp), this]
      simp
    · have hk' : k ∈ r := by rcases List.mem_cons.1 hk with h | h; exact absurd h.symm e; exact h
      have h0 : pos lt (x :: r) k = pos lt r k + 1 := by rw [pos, if_pos (hs'.1 k hk')]
      have := del_pos T hs'.2 hk'
      rw [h0]
      unfold del at this ⊢
      rw [List.filter_cons, if_pos (by simp [e]), this]
      simp
/-! ### Changes -/
/-- What changes of a set come to; or whether it was there, and which change that is. -/
def apC (lt : α → α → Bool) : List α → List (α × Bool) → Nat → Except (Bool × Nat) (List α)
  | s, [], _ => .ok s
  | s, (k, add) :: cs, i => if decide (k ∈ s) = add then .error (add, i) else apC lt (if add then ins lt s k else del s k) cs (i + 1)
theorem apC_srt (T : TO lt) : ∀ (cs : List (α × Bool)) (s t : List α) (i : Nat), Srt lt s → apC lt s cs i = .ok t → Srt lt t
  | [], s, t, i, hs, h => by rw [apC] at h; injection h with h; exact h ▸ hs
  | (k, add) :: cs, s, t, i, hs, h => by
    rw [apC] at h
    split at h
    · cases h
    · rename_i hn
      refine apC_srt T cs _ t (i + 1) ?_ h
      cases add with
      | true => exact srt_ins T hs (by simpa using hn)
      | false => exact srt_del k hs
theorem apC_shift (lt : α → α → Bool) : ∀ (cs : List (α × Bool)) (s : List α) (i : Nat), apC lt s cs i = (apC lt s cs 0).mapError (fun p => (p.1, p.2 + i))
  | [], s, i => by rw [apC, apC]; rfl
  | (k, add) :: cs, s, i => by
    rw [apC, apC]
    split
    · simp [Except.mapError]
    · rw [apC_shift lt cs _ (i + 1), apC_shift lt cs _ (0 + 1)]
      cases apC lt (if add then ins lt s k else del s k) cs 0 with
      | ok t => rfl
      | error p => simp [Except.mapError]; omega
theorem apC_app (lt : α → α → Bool) : ∀ (a b : List (α × Bool)) (s : List α) (i : Nat), apC lt s (a ++ b) i = match apC lt s a i with | .ok t => apC lt t b (i + a.length) | .error p => .error p
  | [], b, s, i => by rw [apC]; rfl
  | (k, add) :: a, b, s, i => by
    rw [List.cons_append, apC, apC]
    split
    · rfl
    · rw [apC_app lt a b _ (i + 1), List.length_cons, show i + 1 + a.length = i + (a.length + 1) by omega]
/-- Where changes fail: those ahead are done, and the key is there, or isn't. -/
theorem apC_error (lt : α → α → Bool) : ∀ (cs : List (α × Bool)) (s : List α) (i : Nat) (p : Bool × Nat), apC lt s cs i = .error p → ∃ j, p.2 = i + j ∧ ∃ h : j < cs.length, p.1 = (cs[j]).2 ∧ ∃ t, apC lt s (cs.take j) i = .ok t ∧ decide ((cs[j]).1 ∈ t) = (cs[j]).2
  | [], s, i, p, h => by rw [apC] at h; cases h
  | (k, add) :: cs, s, i, p, h => by
    rw [apC] at h
    split at h
    · rename_i hn
      injection h with h
      subst h
      exact ⟨0, rfl, by simp, rfl, s, rfl, hn⟩
    · rename_i hn
      obtain ⟨j, h1, h2, h3, t, h4, h5⟩ := apC_error lt cs _ (i + 1) p h
      refine ⟨j + 1, by omega, by simp [h2], by simpa using h3, t, ?_, by simpa using h5⟩
      rw [List.take_succ_cons, apC, if_neg hn]
      exact h4
/-- Done the other way round. -/
def back (cs : List (α × Bool)) : List (α × Bool) := (cs.map fun c => (c.1, !c.2)).reverse
theorem ins_del (T : TO lt) {s : List α} {k : α} (hs : Srt lt s) (hk : k ∉ s) : del (ins lt s k) k = s :=
  srt_ext T (srt_del k (srt_ins T hs hk)) hs (fun j => by
    rw [mem_del, mem_ins]
    constructor
    · rintro ⟨h | h, hn⟩
      · exact absurd h hn
      · exact h
    · exact fun h => ⟨.inr h, fun e => hk (e ▸ h)⟩)
theorem del_ins (T : TO lt) {s : List α} {k : α} (hs : Srt lt s) (hk : k ∈ s) : ins lt (del s k) k = s :=
  srt_ext T (srt_ins T (srt_del k hs) (fun h => (mem_del.1 h).2 rfl)) hs (fun j => by
    rw [mem_ins, mem_del]
    constructor
    · rintro (rfl | ⟨h, _⟩)
      · exact hk
      · exact h
    · intro h
      by_cases e : j = k
      · exact .inl e
      · exact .inr ⟨h, e⟩)
theorem apC_back (T : TO lt) : ∀ (cs : List (α × Bool)) (s t : List α) (i j : Nat), Srt lt s → apC lt s cs i = .ok t → apC lt t (back cs) j = .ok s
  | [], s, t, i, j, hs, h => by rw [apC] at h; injection h with h; subst h; rfl
  | (k, add) :: cs, s, t, i, j, hs, h => by
    have h0 := h
    rw [apC] at h
    split at h
    · cases h
    · rename_i hn
      have hs2 : Srt lt (if add then ins lt s k else del s k) := by
        cases add with
        | true => exact srt_ins T hs (by simpa using hn)
        | false => exact srt_del k hs
      have ih := apC_back T cs _ t (i + 1) j hs2 h
      unfold back at ih ⊢
      rw [List.map_cons, List.reverse_cons, apC_app, ih]
      simp only [apC]
      cases add with
      | true =>
        have hk : k ∉ s := by simpa using hn
        rw [if_neg (by simp [mem_ins])]
        simp only [Bool.not_true, Bool.false_eq_true, if_false, if_true]
        rw [ins_del T hs hk]
      | false =>
        have hk : k ∈ s := by simpa using hn
        rw [if_neg (by simp [mem_del])]
        simp only [Bool.not_false, Bool.false_eq_true, if_false, if_true]
        rw [del_ins T hs hk]
/-! ### Differences -/
theorem del_pre (T : TO lt) (p s : List α) (k : α) (h : ∀ x ∈ p, lt x k = true) (h2 : ∀ x ∈ s, lt k x = true) : del (p ++ k :: s) k = p ++ s := by
  have h3 : del p k = p := del_none (fun hm => absurd rfl (T.ne (h k hm)))
  have h4 : del s k = s := del_none (fun hm => absurd rfl (T.ne (h2 k hm)))
  unfold del at *
  rw [List.filter_append, List.filter_cons, if_neg (by simp), h3, h4]
/-- The differences lead from one set to the other; p: what they share ahead. -/
theorem diffF_leads (T : TO lt) : ∀ (n : Nat) (p s t : List α) (i : Nat), s.length + t.length ≤ n → Srt lt (p ++ s) → Srt lt (p ++ t) → apC lt (p ++ s) (diffF lt n s t) i = .ok (p ++ t)
  | 0, p, s, t, i, hn, _, _ => by
    have h1 : s = [] := List.length_eq_zero_iff.1 (by omega)
    have h2 : t = [] := List.length_eq_zero_iff.1 (by omega)
    subst h1; subst h2; rfl
  | n + 1, p, [], [], i, _, _, _ => rfl
  | n + 1, p, x :: s, [], i, hn, hs, ht => by
    have h1 := List.pairwise_append.1 hs
    have h2 := List.pairwise_cons.1 h1.2.1
    rw [diffF, apC, if_neg (by simp)]
    simp only [Bool.false_eq_true, if_false]
    rw [del_pre T p s x (fun a ha => h1.2.2 a ha x (by simp)) h2.1]
    exact diffF_leads T n p s [] (i + 1) (by simp at hn ⊢; omega) (List.pairwise_append.2 ⟨h1.1, h2.2, fun a ha b hb => h1.2.2 a ha b (by simp [hb])⟩) ht
  | n + 1, p, [], y :: t, i, hn, hs, ht => by
    have h1 := List.pairwise_append.1 ht
    have h2 := List.pairwise_cons.1 h1.2.1
    have hy : y ∉ p ++ ([] : List α) := fun h => by rw [List.append_nil] at h; exact absurd rfl (T.ne (h1.2.2 y h y (by simp)))
    rw [diffF, apC, if_neg (by simp [hy] at hy ⊢; exact hy)]
    simp only [if_true]
    rw [ins_pre T p [] y (fun a ha => h1.2.2 a ha y (by simp)) (by simp)]
    have := diffF_leads T n (p ++ [y]) [] t (i + 1) (by simp at hn ⊢; omega) (by
      rw [List.append_nil]
      exact List.pairwise_append.2 ⟨h1.1, by simp, fun a ha b hb => by obtain rfl := List.mem_singleton.1 hb; exact h1.2.2 a ha b (by simp)⟩) (by rw [List.append_assoc]; exact ht)
    rw [List.append_assoc] at this ⊢
    rw [List.append_assoc] at this
    exact this
  | n + 1, p, x :: s, y :: t, i, hn, hs, ht => by
    have h1 := List.pairwise_append.1 hs
    have h2 := List.pairwise_cons.1 h1.2.1
    have g1 := List.pairwise_append.1 ht
    have g2 := List.pairwise_cons.1 g1.2.1
    rw [diffF]
    cases hxy : lt x y with
    | true =>
      rw [if_pos rfl, apC, if_neg (by simp)]
      simp only [Bool.false_eq_true, if_false]
      rw [del_pre T p s x (fun a ha => h1.2.2 a ha x (by simp)) h2.1]
      exact diffF_leads T n p s (y :: t) (i + 1) (by simp at hn ⊢; omega) (List.pairwise_append.2 ⟨h1.1, h2.2, fun a ha b hb => h1.2.2 a ha b (by simp [hb])⟩) ht
    | false =>
      rw [if_neg (by decide)]
      cases hyx : lt y x with
      | true =>
        have hall : ∀ a ∈ x :: s, lt y a = true := fun a ha => by
          rcases List.mem_cons.1 ha with rfl | ha
          · exact hyx
          · exact T.tr hyx (h2.1 a ha)
        have hy : y ∉ p ++ x :: s := fun h => by
          rcases List.mem_append.1 h with h | h
          · exact absurd rfl (T.ne (g1.2.2 y h y (by simp)))
          · exact absurd rfl (T.ne (hall y h))
        rw [if_pos rfl, apC, if_neg (by rw [decide_eq_false hy]; decide)]
        simp only [if_true]
        rw [ins_pre T p (x :: s) y (fun a ha => g1.2.2 a ha y (by simp)) hall]
        have := diffF_leads T n (p ++ [y]) (x :: s) t (i + 1) (by simp at hn ⊢; omega) (List.pairwise_append.2 ⟨List.pairwise_append.2 ⟨h1.1, by simp, fun a ha b hb => by obtain rfl := List.mem_singleton.1 hb; exact g1.2.2 a ha b (by simp)⟩, h1.2.1, fun a ha b hb => by
          rcases List.mem_append.1 ha with ha | ha
          · exact h1.2.2 a ha b hb
          · obtain rfl := List.mem_singleton.1 ha; exact hall b hb⟩) (by rw [List.append_assoc]; exact ht)
        rw [this, List.append_assoc]; rfl
      | false =>
        obtain rfl := T.tri hxy hyx
        rw [if_neg (by decide)]
        have := diffF_leads T n (p ++ [x]) s t i (by simp at hn ⊢; omega) (by rw [List.append_assoc]; exact hs) (by rw [List.append_assoc]; exact ht)
        rw [List.append_assoc, List.append_assoc] at this
        exact this
theorem diff_leads (T : TO lt) {s t : List α} (hs : Srt lt s) (ht : Srt lt t) (i : Nat) : apC lt s (diff lt s t) i = .ok t := diffF_leads T _ [] s t i (Nat.le_refl _) hs ht
/-- How many of a row are not in another one. -/
def miss (s t : List α) : Nat := s.countP (fun x => !decide (x ∈ t))
theorem miss_skip {s t : List α} {y : α} (h : ∀ x ∈ s, x ≠ y) : miss s (y :: t) = miss s t := by
  unfold miss
  refine List.countP_congr fun x hx => ?_
  simp [h x hx]
theorem miss_nil (t : List α) : miss ([] : List α) t = 0 := rfl
theorem miss_cons (x : α) (s t : List α) : miss (x :: s) t = miss s t + if x ∈ t then 0 else 1 := by
  unfold miss
  rw [List.countP_cons]
  by_cases h : x ∈ t <;> simp [h]
theorem diffF_len (T : TO lt) : ∀ (n : Nat) (s t : List α), s.length + t.length ≤ n → Srt lt s → Srt lt t → (diffF lt n s t).length = miss s t + miss t s
  | 0, s, t, hn, _, _ => by
    have h1 : s = [] := List.length_eq_zero_iff.1 (by omega)
    have h2 : t = [] := List.length_eq_zero_iff.1 (by omega)
    subst h1; subst h2; rfl
  | n + 1, [], [], _, _, _ => rfl
  | n + 1, x :: s, [], hn, hs, ht => by
    have h2 := List.pairwise_cons.1 hs
    rw [diffF, List.length_cons, diffF_len T n s [] (by simp at hn ⊢; omega) h2.2 ht, miss_cons, miss_nil, miss_nil]
    simp
  | n + 1, [], y :: t, hn, hs, ht => by
    have h2 := List.pairwise_cons.1 ht
    rw [diffF, List.length_cons, diffF_len T n [] t (by simp at hn ⊢; omega) hs h2.2, miss_cons, miss_nil, miss_nil]
    simp
  | n + 1, x :: s, y :: t, hn, hs, ht => by
    have h2 := List.pairwise_cons.1 hs
    have g2 := List.pairwise_cons.1 ht
    rw [diffF]
    cases hxy : lt x y with
    | true =>
      have hne : ∀ z ∈ y :: t, z ≠ x := fun z hz e => by
        subst e
        rcases List.mem_cons.1 hz with h | h
        · exact T.ne hxy h
        · exact T.ne (T.tr hxy (g2.1 _ h)) rfl
      rw [if_pos rfl, List.length_cons, diffF_len T n s (y :: t) (by simp at hn ⊢; omega) h2.2 ht, miss_cons x, miss_skip hne, if_neg (fun h => hne x h rfl)]
      omega
    | false =>
      rw [if_neg (by decide)]
      cases hyx : lt y x with
      | true =>
        have hne : ∀ z ∈ x :: s, z ≠ y := fun z hz e => by
          subst e
          rcases List.mem_cons.1 hz with h | h
          · exact T.ne hyx h
          · exact T.ne (T.tr hyx (h2.1 _ h)) rfl
        rw [if_pos rfl, List.length_cons, diffF_len T n (x :: s) t (by simp at hn ⊢; omega) hs g2.2, miss_cons y, miss_skip hne, if_neg (fun h => hne y h rfl)]
        omega
      | false =>
        obtain rfl := T.tri hxy hyx
        rw [if_neg (by decide), diffF_len T n s t (by simp at hn ⊢; omega) h2.2 g2.2, miss_cons, miss_cons, if_pos (by simp), if_pos (by simp), miss_skip (fun z hz e => T.ne (h2.1 z hz) e.symm), miss_skip (fun z hz e => T.ne (g2.1 z hz) e.symm)]
        omega
/-! ### What is told of keys, and asked -/
/-- The first of what is asked that isn't so. -/
def preF (s : List α) : List (α × Bool) → Nat → Option Nat
  | [], _ => none
  | (k, is) :: r, i => if decide (k ∈ s) = is then preF s r (i + 1) else some i
end
end Go.Proofs.Ythpcplpannbipaa.Mp
