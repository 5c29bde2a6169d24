/- Keys of many revisions (package spans) in plain Lean, and the document's row of them; no program walked; no condition. -/
import Derived.Test.YthpcplpannbipaaMp
set_option linter.unusedVariables false
set_option linter.unusedSimpArgs false
set_option linter.unusedSectionVars false
namespace Go.Proofs.Ythpcplpannbipaa.Sq
open Go.Proofs.Ythpcplpannbipaa.Mp

abbrev Sp := Int × Int
section
variable {α : Type} [DecidableEq α] {lt : α → α → Bool}
/-- A key's spans. -/
def get : List (α × List Sp) → α → List Sp
  | [], _ => []
  | (a, l) :: r, k => if a = k then l else get r k
def upd (lt : α → α → Bool) : List (α × List Sp) → α → List Sp → List (α × List Sp)
  | [], k, l => [(k, l)]
  | (a, m) :: r, k, l => if a = k then (a, l) :: r else if lt a k = true then (a, m) :: upd lt r k l else (k, l) :: (a, m) :: r
def opn (l : List Sp) : Bool := match l.getLast? with
  | some x => decide (x.2 = 0)
  | none => false
def lastFrom (l : List Sp) : Int := match l.getLast? with
  | some x => x.1
  | none => 0
def shut (l : List Sp) (rev : Int) : List Sp := l.dropLast ++ [(lastFrom l, rev)]
def holds (rev : Int) (x : Sp) : Bool := decide (x.1 ≤ rev) && (decide (x.2 = 0) || decide (rev < x.2))
def gone (rev : Int) (x : Sp) : Bool := decide (x.2 ≠ 0) && decide (x.2 ≤ rev)
structure St (α : Type) where
  g : List (α × List Sp)
  last : Int
def putS (lt : α → α → Bool) (s : St α) (k : α) (rev : Int) : St α × Bool :=
  if rev < 1 ∨ rev < s.last ∨ opn (get s.g k) = true then (s, false) else (⟨upd lt s.g k (get s.g k ++ [(rev, 0)]), rev⟩, true)
def dropS (lt : α → α → Bool) (s : St α) (k : α) (rev : Int) : St α × Bool :=
  if rev < s.last ∨ opn (get s.g k) = false ∨ rev ≤ lastFrom (get s.g k) then (s, false) else (⟨upd lt s.g k (shut (get s.g k) rev), rev⟩, true)
def hasS (s : St α) (k : α) (rev : Int) : Bool := (get s.g k).any (holds rev)
def flat (g : List (α × List Sp)) : List (α × Sp) := g.flatMap fun p => p.2.map fun x => (p.1, x)
def countS (s : St α) (rev : Int) : Nat := (flat s.g).countP fun p => holds rev p.2
def evs (f t : Int) (p : α × Sp) : List (Int × α × Bool) :=
  (if f < p.2.1 ∧ p.2.1 ≤ t then [(p.2.1, p.1, true)] else []) ++ (if max f 0 < p.2.2 ∧ p.2.2 ≤ t then [(p.2.2, p.1, false)] else [])
def elt (lt : α → α → Bool) (a b : Int × α × Bool) : Bool :=
  decide (a.1 < b.1) || (decide (a.1 = b.1) && (lt a.2.1 b.2.1 || (decide (a.2.1 = b.2.1) && (!a.2.2 && b.2.2))))
def eventsS (lt : α → α → Bool) (s : St α) (f t : Int) : List (Int × α × Bool) := ((flat s.g).flatMap (evs f t)).mergeSort fun x y => !elt lt y x
def trimG (rev : Int) (g : List (α × List Sp)) : List (α × List Sp) := (g.map fun p => (p.1, p.2.filter fun x => !gone rev x)).filter fun p => !p.2.isEmpty
def trimS (s : St α) (rev : Int) : St α × Nat := (⟨trimG rev s.g, s.last⟩, (flat s.g).countP fun p => gone rev p.2)
def nextL (lt : α → α → Bool) (rev : Int) (to : Option α) : List (α × List Sp) → Option α
  | [] => none
  | (a, l) :: r => if (to.any fun t => !lt a t) = true then none else if l.any (holds rev) = true then some a else nextL lt rev to r
def keysG (g : List (α × List Sp)) : List α := g.map (·.1)
def nextS (lt : α → α → Bool) (s : St α) (rev : Int) (f : α) (to : Option α) : Option α := nextL lt rev to (s.g.drop (pos lt (keysG s.g) f))

/-! ### groups -/
theorem get_not : ∀ {g : List (α × List Sp)} {k : α}, k ∉ keysG g → get g k = []
  | [], _, _ => rfl
  | (a, l) :: r, k, h => by
    have h1 : a ≠ k := fun e => h (by simp [keysG, e])
    rw [get, if_neg h1]
    exact get_not (fun hk => h (by simp only [keysG, List.map_cons, List.mem_cons]; exact .inr hk))
theorem get_mem : ∀ {g : List (α × List Sp)} {k : α} {l : List Sp}, Srt lt (keysG g) → TO lt → (k, l) ∈ g → get g k = l
  | (a, m) :: r, k, l, hs, T, h => by
    rw [get]
    have hs' := List.pairwise_cons.1 (show ((a :: keysG r).Pairwise _) from hs)
    rcases List.mem_cons.1 h with e | h
    · injection e with e1 e2; subst e1; subst e2; rw [if_pos rfl]
    · have hk : k ∈ keysG r := List.mem_map.2 ⟨_, h, rfl⟩
      rw [if_neg (T.ne (hs'.1 k hk))]
      exact get_mem hs'.2 T h
theorem upd_same (T : TO lt) : ∀ (g : List (α × List Sp)) (k : α) (l : List Sp), get (upd lt g k l) k = l
  | [], k, l => by rw [upd, get, if_pos rfl]
  | (a, m) :: r, k, l => by
    rw [upd]
    split
    · rename_i h; rw [get, if_pos h]
    · rename_i h
      split
      · rw [get, if_neg h]; exact upd_same T r k l
      · rw [get, if_pos rfl]
theorem upd_other : ∀ (g : List (α × List Sp)) (k : α) (l : List Sp) {j : α}, j ≠ k → get (upd lt g k l) j = get g j
  | [], k, l, j, hj => by
    show (if k = j then l else get [] j) = get [] j
    rw [if_neg (Ne.symm hj)]
  | (a, m) :: r, k, l, j, hj => by
    rw [upd]
    split
    · rename_i h; rw [get, get, if_neg (by rw [h]; exact Ne.symm hj), if_neg (by rw [h]; exact Ne.symm hj)]
    · split
      · rw [get, get, upd_other r k l hj]
      · rw [get, if_neg (Ne.symm hj)]
theorem upd_get (T : TO lt) (g : List (α × List Sp)) (k j : α) (l : List Sp) : get (upd lt g k l) j = if j = k then l else get g j := by
  split
  · rename_i h; rw [h]; exact upd_same T g k l
  · rename_i h; exact upd_other g k l h
theorem keys_upd (T : TO lt) : ∀ (g : List (α × List Sp)) (k : α) (l : List Sp), Srt lt (keysG g) → keysG (upd lt g k l) = if k ∈ keysG g then keysG g else ins lt (keysG g) k
  | [], k, l, _ => rfl
  | (a, m) :: r, k, l, hs => by
    have hs' := List.pairwise_cons.1 (show ((a :: keysG r).Pairwise _) from hs)
    rw [upd]
    split
    · rename_i h; rw [if_pos (by simp [keysG, h])]; rfl
    · rename_i h
      have hm : k ∈ keysG ((a, m) :: r) ↔ k ∈ keysG r := by
        show k ∈ a :: keysG r ↔ _
        rw [List.mem_cons]
        exact ⟨fun h1 => h1.resolve_left (fun e => h e.symm), .inr⟩
      split
      · rename_i h2
        show a :: keysG (upd lt r k l) = _
        rw [keys_upd T r k l hs'.2]
        by_cases hk : k ∈ keysG r
        · rw [if_pos hk, if_pos (hm.2 hk)]; rfl
        · rw [if_neg hk, if_neg (fun h3 => hk (hm.1 h3))]
          show _ = ins lt (a :: keysG r) k
          rw [ins_cons, if_pos h2]
      · rename_i h2
        have hk : k ∉ keysG r := fun h3 => h2 (by
          have h4 := hs'.1 k h3
          exact h4)
        rw [if_neg (fun h3 => hk (hm.1 h3))]
        show k :: a :: keysG r = ins lt (a :: keysG r) k
        rw [ins_cons, if_neg h2]
theorem srt_upd (T : TO lt) (g : List (α × List Sp)) (k : α) (l : List Sp) (hs : Srt lt (keysG g)) : Srt lt (keysG (upd lt g k l)) := by
  rw [keys_upd T g k l hs]
  split
  · exact hs
  · rename_i h; exact srt_ins T hs h
theorem keysG_map (g : List (α × List Sp)) : ∀ p ∈ g, p.1 ∈ keysG g := fun p hp => List.mem_map.2 ⟨p, hp, rfl⟩
theorem mem_keys {g : List (α × List Sp)} {k : α} (h : k ∈ keysG g) : ∃ l, (k, l) ∈ g := by
  obtain ⟨p, hp, rfl⟩ := List.mem_map.1 h
  exact ⟨p.2, hp⟩
/-- Groups are not empty. -/
def Full (g : List (α × List Sp)) : Prop := ∀ p ∈ g, p.2 ≠ []
theorem full_get (T : TO lt) {g : List (α × List Sp)} (hs : Srt lt (keysG g)) (hf : Full g) (k : α) : k ∈ keysG g ↔ get g k ≠ [] := by
  constructor
  · intro h
    obtain ⟨l, hl⟩ := mem_keys h
    rw [get_mem hs T hl]
    exact hf _ hl
  · intro h
    by_cases hk : k ∈ keysG g
    · exact hk
    · exact absurd (get_not hk) h
theorem mem_upd : ∀ {g : List (α × List Sp)} {k : α} {l : List Sp} {p : α × List Sp}, p ∈ upd lt g k l → p = (k, l) ∨ p ∈ g
  | [], k, l, p, h => .inl (by simpa [upd] using h)
  | (a, m) :: r, k, l, p, h => by
    rw [upd] at h
    split at h
    · rename_i e
      rcases List.mem_cons.1 h with h | h
      · exact .inl (by rw [h, e])
      · exact .inr (List.mem_cons_of_mem _ h)
    split at h
    · rcases List.mem_cons.1 h with h | h
      · exact .inr (by rw [h]; exact List.mem_cons_self)
      · rcases mem_upd h with h | h
        · exact .inl h
        · exact .inr (List.mem_cons_of_mem _ h)
    · rcases List.mem_cons.1 h with h | h
      · exact .inl h
      · exact .inr h
theorem full_upd {g : List (α × List Sp)} (hf : Full g) (k : α) {l : List Sp} (hl : l ≠ []) : Full (upd lt g k l) := fun p hp => by
  rcases mem_upd hp with rfl | h
  · exact hl
  · exact hf p h
/-! ### all spans in one row -/
theorem flat_cons (p : α × List Sp) (g : List (α × List Sp)) : flat (p :: g) = p.2.map (fun x => (p.1, x)) ++ flat g := rfl
theorem flat_get (T : TO lt) : ∀ {g : List (α × List Sp)}, Srt lt (keysG g) → ∀ k, ((flat g).filter fun p => decide (p.1 = k)).map (·.2) = get g k
  | [], _, _ => rfl
  | (a, l) :: r, hs, k => by
    have hs' := List.pairwise_cons.1 (show ((a :: keysG r).Pairwise _) from hs)
    rw [flat_cons, List.filter_append, List.map_append, flat_get T hs'.2 k, get]
    have hf : ((l.map fun x => (a, x)).filter fun p => decide (p.1 = k)) = if a = k then l.map fun x => (a, x) else [] := by
      split
      · rename_i e; rw [List.filter_eq_self]; rintro p hp; obtain ⟨x, _, rfl⟩ := List.mem_map.1 hp; exact decide_eq_true e
      · rename_i e; rw [List.filter_eq_nil_iff]; rintro p hp; obtain ⟨x, _, rfl⟩ := List.mem_map.1 hp; simpa using e
    rw [hf]
    split
    · rename_i e
      have hk : k ∉ keysG r := fun h => T.ne (hs'.1 k h) e
      rw [get_not hk, List.map_map]
      simp [Function.comp_def]
    · rfl
/-- Rows of keys with the same spans a key, in order, hold the same. -/
theorem perm_of_get {β : Type} : ∀ (n : Nat) (A B : List (α × β)), A.length ≤ n → (∀ k, (A.filter fun p => decide (p.1 = k)) = B.filter fun p => decide (p.1 = k)) → A.Perm B
  | 0, A, B, hn, h => by
    have hA : A = [] := List.length_eq_zero_iff.1 (by omega)
    subst hA
    cases B with
    | nil => exact .nil
    | cons b B => have := h b.1; simp at this
  | n + 1, [], B, hn, h => by
    cases B with
    | nil => exact .nil
    | cons b B => have := h b.1; simp at this
  | n + 1, a :: A, B, hn, h => by
    have h1 : ((a :: A).filter fun p => decide (p.1 = a.1)).length ≥ 1 := by simp
    have hp := (List.filter_append_perm (fun p : α × β => decide (p.1 = a.1)) (a :: A))
    have hq := (List.filter_append_perm (fun p : α × β => decide (p.1 = a.1)) B)
    have hr : ((a :: A).filter fun p => !decide (p.1 = a.1)).Perm (B.filter fun p => !decide (p.1 = a.1)) := by
      refine perm_of_get n _ _ ?_ (fun k => ?_)
      · have := hp.length_eq
        rw [List.length_append] at this
        omega
      · by_cases hk : k = a.1
        · subst hk
          rw [List.filter_filter, List.filter_filter]
          have e : ∀ l : List (α × β), (l.filter fun p => decide (p.1 = a.1) && !decide (p.1 = a.1)) = [] := fun l => by rw [List.filter_eq_nil_iff]; intro p _; simp
          rw [e, e]
        · rw [List.filter_filter, List.filter_filter]
          have e : ∀ l : List (α × β), (l.filter fun p => decide (p.1 = k) && !decide (p.1 = a.1)) = l.filter fun p => decide (p.1 = k) := fun l => by
            refine List.filter_congr (fun p _ => ?_)
            by_cases e : p.1 = k
            · rw [decide_eq_true e, decide_eq_false (by rw [e]; exact hk)]; rfl
            · rw [decide_eq_false e]; rfl
          rw [e, e]
          exact h k
    have := h a.1
    exact hp.symm.trans ((List.Perm.append (by rw [this]) hr).trans hq)
end
end Go.Proofs.Ythpcplpannbipaa.Sq
namespace Go.Proofs.Ythpcplpannbipaa.Sq
open Go.Proofs.Ythpcplpannbipaa.Mp
section
variable {α : Type} [DecidableEq α] {lt : α → α → Bool}
/-- A key's spans stand behind each other. -/
def Ok (hi : Int) (l : List Sp) : Prop := (∀ x ∈ l, 1 ≤ x.1 ∧ x.1 ≤ hi ∧ (x.2 = 0 ∨ x.1 < x.2 ∧ x.2 ≤ hi)) ∧ l.Pairwise fun x y => x.2 ≠ 0 ∧ x.2 ≤ y.1
structure Inv (lt : α → α → Bool) (s : St α) : Prop where
  srt : Srt lt (keysG s.g)
  full : Full s.g
  nn : 0 ≤ s.last
  ok : ∀ p ∈ s.g, Ok s.last p.2
theorem Ok.mono {a b : Int} {l : List Sp} (h : Ok a l) (hab : a ≤ b) : Ok b l :=
  ⟨fun x hx => by obtain ⟨h1, h2, h3⟩ := h.1 x hx; exact ⟨h1, by omega, h3.imp id (fun h => ⟨h.1, by omega⟩)⟩, h.2⟩
theorem ok_get (T : TO lt) {s : St α} (h : Inv lt s) (k : α) : Ok s.last (get s.g k) := by
  by_cases hk : k ∈ keysG s.g
  · obtain ⟨l, hl⟩ := mem_keys hk
    rw [get_mem h.srt T hl]
    exact h.ok _ hl
  · rw [get_not hk]; exact ⟨fun x hx => absurd hx (by simp), .nil⟩
theorem opn_snoc (l : List Sp) (x : Sp) : opn (l ++ [x]) = decide (x.2 = 0) := by
  unfold opn; rw [List.getLast?_concat]
theorem last_snoc (l : List Sp) (x : Sp) : lastFrom (l ++ [x]) = x.1 := by
  unfold lastFrom; rw [List.getLast?_concat]
theorem shut_snoc (l : List Sp) (x : Sp) (rev : Int) : shut (l ++ [x]) rev = l ++ [(x.1, rev)] := by
  unfold shut; rw [List.dropLast_concat, last_snoc]
/-- Is it open, so by its last span alone. -/
theorem opn_some {l : List Sp} (h : opn l = true) : ∃ a x, l = a ++ [x] ∧ x.2 = 0 := by
  rcases List.eq_nil_or_concat l with rfl | ⟨a, x, rfl⟩
  · simp [opn] at h
  · simp only [List.concat_eq_append] at h ⊢
    rw [opn_snoc] at h
    exact ⟨a, x, rfl, of_decide_eq_true h⟩
theorem opn_none {hi : Int} {l : List Sp} (ho : Ok hi l) (h : opn l = false) : ∀ x ∈ l, x.2 ≠ 0 := by
  rcases List.eq_nil_or_concat l with rfl | ⟨a, x, rfl⟩
  · intro x hx; exact absurd hx (by simp)
  · simp only [List.concat_eq_append] at h ho ⊢
    rw [opn_snoc] at h
    intro y hy
    rcases List.mem_append.1 hy with hy | hy
    · exact ((List.pairwise_append.1 ho.2).2.2 y hy x (by simp)).1
    · rw [List.mem_singleton] at hy; rw [hy]; exact of_decide_eq_false h
theorem ok_put {hi rev : Int} {l : List Sp} (ho : Ok hi l) (h1 : 1 ≤ rev) (h2 : hi ≤ rev) (h : opn l = false) : Ok rev (l ++ [(rev, 0)]) := by
  have hn := opn_none ho h
  refine ⟨fun x hx => ?_, List.pairwise_append.2 ⟨ho.2, List.pairwise_singleton _ _, fun x hx y hy => ?_⟩⟩
  · rcases List.mem_append.1 hx with hx | hx
    · exact (ho.mono h2).1 x hx
    · rw [List.mem_singleton] at hx; subst hx; exact ⟨h1, Int.le_refl _, .inl rfl⟩
  · rw [List.mem_singleton] at hy; subst hy
    refine ⟨hn x hx, ?_⟩
    obtain ⟨_, _, h3⟩ := ho.1 x hx
    rcases h3 with h3 | h3
    · exact absurd h3 (hn x hx)
    · show x.2 ≤ rev; omega
theorem ok_shut {hi rev : Int} {l : List Sp} (ho : Ok hi l) (h2 : hi ≤ rev) (h : opn l = true) (h3 : ¬ rev ≤ lastFrom l) : Ok rev (shut l rev) := by
  obtain ⟨a, x, rfl, hx⟩ := opn_some h
  rw [shut_snoc]
  rw [last_snoc] at h3
  have hp := List.pairwise_append.1 ho.2
  refine ⟨fun y hy => ?_, List.pairwise_append.2 ⟨hp.1, List.pairwise_singleton _ _, fun y hy z hz => ?_⟩⟩
  · rcases List.mem_append.1 hy with hy | hy
    · exact (ho.mono h2).1 y (List.mem_append_left _ hy)
    · rw [List.mem_singleton] at hy; subst hy
      obtain ⟨g1, g2, _⟩ := ho.1 x (by simp)
      exact ⟨g1, by show x.1 ≤ rev; omega, .inr ⟨by show x.1 < rev; omega, Int.le_refl _⟩⟩
  · rw [List.mem_singleton] at hz; subst hz
    exact hp.2.2 y hy x (by simp)
theorem inv_upd (T : TO lt) {s : St α} (h : Inv lt s) (k : α) {l : List Sp} {rev : Int} (hl : l ≠ []) (ho : Ok rev l) (hr : s.last ≤ rev) : Inv lt ⟨upd lt s.g k l, rev⟩ :=
  ⟨srt_upd T _ _ _ h.srt, full_upd h.full k hl, by have := h.nn; show 0 ≤ rev; omega, fun p hp => by
    rcases mem_upd hp with rfl | hp
    · exact ho
    · exact (h.ok p hp).mono hr⟩
theorem inv_put (T : TO lt) {s : St α} (h : Inv lt s) (k : α) (rev : Int) : Inv lt (putS lt s k rev).1 := by
  unfold putS
  split
  · exact h
  · rename_i hc
    simp only [not_or, Bool.not_eq_true] at hc
    exact inv_upd T h k (by simp) (ok_put (ok_get T h k) (by omega) (by omega) hc.2.2) (by omega)
theorem inv_drop (T : TO lt) {s : St α} (h : Inv lt s) (k : α) (rev : Int) : Inv lt (dropS lt s k rev).1 := by
  unfold dropS
  split
  · exact h
  · rename_i hc
    simp only [not_or, Bool.not_eq_false] at hc
    exact inv_upd T h k (by unfold shut; simp) (ok_shut (ok_get T h k) (by omega) hc.2.1 hc.2.2) (by omega)
theorem keys_trim (rev : Int) (g : List (α × List Sp)) : (keysG (trimG rev g)).Sublist (keysG g) := by
  unfold trimG keysG
  refine (List.Sublist.map _ (List.filter_sublist)).trans ?_
  rw [List.map_map]
  exact List.Sublist.refl _
theorem inv_trim {s : St α} (h : Inv lt s) (rev : Int) : Inv lt (trimS s rev).1 :=
  ⟨h.srt.sublist (keys_trim rev s.g), fun p hp => by
    have := (List.mem_filter.1 hp).2
    intro e; rw [e] at this; exact absurd this (by simp), h.nn, fun p hp => by
    obtain ⟨q, hq, rfl⟩ := List.mem_map.1 (List.mem_filter.1 hp).1
    have ho := h.ok q hq
    exact ⟨fun x hx => ho.1 x (List.mem_filter.1 hx).1, ho.2.filter _⟩⟩
theorem inv_new : Inv lt (⟨[], 0⟩ : St α) := ⟨.nil, fun p hp => absurd hp (by simp), Int.le_refl _, fun p hp => absurd hp (by simp)⟩
theorem get_trim (T : TO lt) : ∀ {g : List (α × List Sp)}, Srt lt (keysG g) → ∀ (rev : Int) (k : α), get (trimG rev g) k = (get g k).filter fun x => !gone rev x
  | [], _, _, _ => rfl
  | (a, l) :: r, hs, rev, k => by
    have hs' := List.pairwise_cons.1 (show ((a :: keysG r).Pairwise _) from hs)
    have ih := get_trim T hs'.2 rev k
    have e : trimG rev ((a, l) :: r) = if (l.filter fun x => !gone rev x).isEmpty = true then trimG rev r else (a, l.filter fun x => !gone rev x) :: trimG rev r := by
      unfold trimG
      rw [List.map_cons, List.filter_cons]
      cases (l.filter fun x => !gone rev x).isEmpty <;> rfl
    rw [e, get]
    split
    · rename_i h1
      split
      · rename_i h2
        have h3 : (l.filter fun x => !gone rev x) = [] := List.isEmpty_iff.1 h1
        rw [h3]
        have hk : k ∉ keysG (trimG rev r) := fun h4 => T.ne (hs'.1 k ((keys_trim rev r).subset h4)) h2
        exact get_not hk
      · exact ih
    · rw [get]
      split
      · rfl
      · exact ih
/-! ### the document's row -/
abbrev Row (α : Type) := List (α × Sp)
def fk (L : Row α) (k : α) : Row α := L.filter fun p => decide (p.1 = k)
def isOpen (k : α) (p : α × Sp) : Bool := decide (p.1 = k) && decide (p.2.2 = 0)
def putR (L : Row α) (last : Int) (k : α) (rev : Int) : (Row α × Int) × Bool :=
  if rev < 1 ∨ rev < last ∨ L.any (isOpen k) = true then ((L, last), false) else ((L ++ [(k, (rev, 0))], rev), true)
def dropR (L : Row α) (last : Int) (k : α) (rev : Int) : (Row α × Int) × Bool :=
  match L.findIdx? (isOpen k) with
  | none => ((L, last), false)
  | some i => match L[i]? with
    | none => ((L, last), false)
    | some x => if rev < last ∨ rev ≤ x.2.1 then ((L, last), false) else ((L.set i (x.1, (x.2.1, rev)), rev), true)
def trimR (L : Row α) (rev : Int) : Row α := L.filter fun p => !gone rev p.2
/-- The row says what the groups say. -/
def Rel (s : St α) (L : Row α) : Prop := ∀ k, (fk L k).map (·.2) = get s.g k
theorem fk_pairs (L : Row α) (k : α) : fk L k = ((fk L k).map (·.2)).map fun x => (k, x) := by
  rw [List.map_map]
  conv => lhs; rw [← List.map_id (fk L k)]
  refine List.map_congr_left (fun p hp => ?_)
  have := of_decide_eq_true (List.mem_filter.1 hp).2
  show p = (k, p.2)
  rw [← this]
theorem rel_perm (T : TO lt) {s : St α} (h : Inv lt s) {L : Row α} (hr : Rel s L) : L.Perm (flat s.g) :=
  perm_of_get _ _ _ (Nat.le_refl _) (fun k => by
    have h1 := fk_pairs L k
    have h2 := fk_pairs (flat s.g) k
    rw [hr k] at h1
    unfold fk at h1 h2
    rw [flat_get T h.srt k] at h2
    rw [h1, h2])
theorem any_fk (L : Row α) (k : α) (f : Sp → Bool) : (L.any fun p => decide (p.1 = k) && f p.2) = ((fk L k).map (·.2)).any f := by
  unfold fk
  rw [List.any_map, List.any_filter]
  rfl
theorem open_rel {s : St α} {L : Row α} (T : TO lt) (h : Inv lt s) (hr : Rel s L) (k : α) : L.any (isOpen k) = opn (get s.g k) := by
  show (L.any fun p => decide (p.1 = k) && decide (p.2.2 = 0)) = _
  rw [any_fk L k (fun x => decide (x.2 = 0)), hr k]
  cases ho : opn (get s.g k) with
  | true =>
    obtain ⟨a, x, e, hx⟩ := opn_some ho
    rw [e, List.any_append]
    simp [hx]
  | false =>
    have := opn_none (ok_get T h k) ho
    rw [List.any_eq_false]
    intro x hx
    simpa using this x hx
theorem has_rel {s : St α} {L : Row α} (hr : Rel s L) (k : α) (rev : Int) : (L.any fun p => holds rev p.2 && decide (p.1 = k)) = hasS s k rev := by
  have e : (fun p : α × Sp => holds rev p.2 && decide (p.1 = k)) = fun p => decide (p.1 = k) && holds rev p.2 := by funext p; exact Bool.and_comm _ _
  rw [e, any_fk L k (holds rev), hr k]; rfl
theorem count_rel (T : TO lt) {s : St α} (h : Inv lt s) {L : Row α} (hr : Rel s L) (rev : Int) : (L.countP fun p => holds rev p.2) = countS s rev := (rel_perm T h hr).countP_eq _
theorem fk_append (A B : Row α) (k : α) : fk (A ++ B) k = fk A k ++ fk B k := List.filter_append _ _
theorem put_rel (T : TO lt) {s : St α} (h : Inv lt s) {L : Row α} (hr : Rel s L) (k : α) (rev : Int) :
    (putR L s.last k rev).2 = (putS lt s k rev).2 ∧ (putR L s.last k rev).1.2 = (putS lt s k rev).1.last ∧ Rel (putS lt s k rev).1 (putR L s.last k rev).1.1 := by
  unfold putR putS
  rw [open_rel T h hr k]
  split
  · exact ⟨rfl, rfl, hr⟩
  · refine ⟨rfl, rfl, fun j => ?_⟩
    show (fk (L ++ [(k, (rev, 0))]) j).map (·.2) = get (upd lt s.g k _) j
    rw [fk_append, List.map_append, hr j, upd_get T]
    split
    · rename_i e; subst e; simp [fk]
    · rename_i e; simp [fk, Ne.symm e]
theorem trim_rel (T : TO lt) {s : St α} (h : Inv lt s) {L : Row α} (hr : Rel s L) (rev : Int) : Rel (trimS s rev).1 (trimR L rev) ∧ L.length - (trimR L rev).length = (trimS s rev).2 := by
  constructor
  · intro k
    show ((L.filter _).filter _).map _ = get (trimG rev s.g) k
    rw [get_trim T h.srt, ← hr k, fk, List.filter_map, List.filter_filter, List.filter_filter]
    congr 1
    refine List.filter_congr (fun p _ => ?_)
    exact Bool.and_comm _ _
  · have hp := (rel_perm T h hr).countP_eq (fun p => gone rev p.2)
    show _ = (flat s.g).countP _
    rw [← hp]
    have h2 : (trimR L rev).length = L.countP fun p => !gone rev p.2 := by rw [List.countP_eq_length_filter]; rfl
    have h3 := List.length_eq_countP_add_countP (fun p : α × Sp => gone rev p.2) (l := L)
    have h4 : (L.countP fun p : α × Sp => !gone rev p.2) = L.countP fun a => decide ¬(gone rev a.2 = true) := by
      congr 1; funext a; cases gone rev a.2 <;> rfl
    omega
theorem drop_rel (T : TO lt) {s : St α} (h : Inv lt s) {L : Row α} (hr : Rel s L) (k : α) (rev : Int) :
    (dropR L s.last k rev).2 = (dropS lt s k rev).2 ∧ (dropR L s.last k rev).1.2 = (dropS lt s k rev).1.last ∧ Rel (dropS lt s k rev).1 (dropR L s.last k rev).1.1 := by
  have ho := open_rel T h hr k
  unfold dropR dropS
  cases hi : L.findIdx? (isOpen k) with
  | none =>
    have h1 : L.any (isOpen k) = false := by
      rw [List.findIdx?_eq_none_iff] at hi
      rw [List.any_eq_false]
      intro x hx
      rw [hi x hx]; decide
    rw [h1] at ho
    rw [if_pos (.inr (.inl ho.symm))]
    exact ⟨rfl, rfl, hr⟩
  | some i =>
    obtain ⟨hlt, hop, _⟩ := List.findIdx?_eq_some_iff_getElem.1 hi
    have h1 : L.any (isOpen k) = true := List.any_eq_true.2 ⟨L[i], List.getElem_mem _, hop⟩
    rw [h1] at ho
    have hop' : (decide (L[i].1 = k) && decide (L[i].2.2 = 0)) = true := hop
    rw [Bool.and_eq_true, decide_eq_true_eq, decide_eq_true_eq] at hop'
    obtain ⟨hk, hz⟩ := hop'
    have hL : L = L.take i ++ L[i] :: L.drop (i + 1) := by rw [← List.drop_eq_getElem_cons hlt, List.take_append_drop]
    have hg : get s.g k = (fk (L.take i) k).map (·.2) ++ L[i].2 :: (fk (L.drop (i + 1)) k).map (·.2) := by
      rw [← hr k]
      conv => lhs; rw [hL]
      rw [fk_append, List.map_append]
      congr 1
      unfold fk
      rw [List.filter_cons, if_pos (decide_eq_true hk)]; rfl
    have hB : (fk (L.drop (i + 1)) k).map (·.2) = [] := by
      have hp := (ok_get T h k).2
      rw [hg] at hp
      have hp2 := (List.pairwise_append.1 hp).2.1
      cases hq : (fk (L.drop (i + 1)) k).map (·.2) with
      | nil => rfl
      | cons y r =>
        rw [hq] at hp2
        exact absurd hz ((List.pairwise_cons.1 hp2).1 y (by simp)).1
    rw [hB] at hg
    have hlf : lastFrom (get s.g k) = L[i].2.1 := by rw [hg, last_snoc]
    dsimp only
    rw [List.getElem?_eq_getElem hlt]
    dsimp only
    rw [hlf]
    by_cases hc : rev < s.last ∨ rev ≤ L[i].2.1
    · rw [if_pos hc, if_pos (by rcases hc with h | h; exact .inl h; exact .inr (.inr h))]
      exact ⟨rfl, rfl, hr⟩
    · rw [if_neg hc, if_neg (by rintro (h | h | h); exact hc (.inl h); rw [← ho] at h; exact absurd h (by decide); exact hc (.inr h))]
      refine ⟨rfl, rfl, fun j => ?_⟩
      show (fk (L.set i (L[i].1, (L[i].2.1, rev))) j).map (·.2) = get (upd lt s.g k _) j
      rw [List.set_eq_take_append_cons_drop, if_pos hlt, fk_append, List.map_append, upd_get T]
      split
      · rename_i e
        subst e
        rw [hg, shut_snoc]
        congr 1
        unfold fk at hB ⊢
        rw [List.filter_cons, if_pos (decide_eq_true hk), List.map_cons, hB]
      · rename_i e
        rw [← hr j]
        conv => rhs; rw [hL]
        rw [fk_append, List.map_append]
        congr 1
        unfold fk
        rw [List.filter_cons, List.filter_cons, if_neg (by simp [hk, Ne.symm e]), if_neg (by simp [hk, Ne.symm e])]
end
end Go.Proofs.Ythpcplpannbipaa.Sq
namespace Go.Proofs.Ythpcplpannbipaa.Sq
open Go.Proofs.Ythpcplpannbipaa.Mp
section
variable {α : Type} [DecidableEq α] {lt : α → α → Bool}
abbrev Evt (α : Type) := Int × α × Bool
theorem elt_iff (a b : Evt α) : elt lt a b = true ↔ a.1 < b.1 ∨ (a.1 = b.1 ∧ (lt a.2.1 b.2.1 = true ∨ (a.2.1 = b.2.1 ∧ a.2.2 = false ∧ b.2.2 = true))) := by
  unfold elt
  simp only [Bool.or_eq_true, Bool.and_eq_true, decide_eq_true_eq, Bool.not_eq_true']
theorem elt_TO (T : TO lt) : TO (elt lt) where
  irr a := by
    rw [← Bool.not_eq_true, elt_iff]
    rintro (h | ⟨_, h | ⟨_, h1, h2⟩⟩)
    · omega
    · rw [T.irr] at h; exact absurd h (by decide)
    · rw [h1] at h2; exact absurd h2 (by decide)
  tr {a b c} h1 h2 := by
    rw [elt_iff] at h1 h2 ⊢
    rcases h1 with h1 | ⟨e1, h1⟩
    · rcases h2 with h2 | ⟨e2, h2⟩
      · exact .inl (by omega)
      · exact .inl (by omega)
    · rcases h2 with h2 | ⟨e2, h2⟩
      · exact .inl (by omega)
      · refine .inr ⟨by omega, ?_⟩
        rcases h1 with h1 | ⟨k1, p1, q1⟩
        · rcases h2 with h2 | ⟨k2, p2, q2⟩
          · exact .inl (T.tr h1 h2)
          · exact .inl (by rw [← k2]; exact h1)
        · rcases h2 with h2 | ⟨k2, p2, q2⟩
          · exact .inl (by rw [k1]; exact h2)
          · rw [q1] at p2; exact absurd p2 (by decide)
  tri {a b} h1 h2 := by
    rw [← Bool.not_eq_true, elt_iff] at h1 h2
    have e1 : a.1 = b.1 := by
      by_cases h : a.1 < b.1
      · exact absurd (.inl h) h1
      · by_cases h' : b.1 < a.1
        · exact absurd (.inl h') h2
        · omega
    have e2 : a.2.1 = b.2.1 := T.tri (by cases h : lt a.2.1 b.2.1 with | false => rfl | true => exact absurd (.inr ⟨e1, .inl h⟩) h1) (by cases h : lt b.2.1 a.2.1 with | false => rfl | true => exact absurd (.inr ⟨e1.symm, .inl h⟩) h2)
    have e3 : a.2.2 = b.2.2 := by
      cases ha : a.2.2 <;> cases hb : b.2.2
      · rfl
      · exact absurd (.inr ⟨e1, .inr ⟨e2, ha, hb⟩⟩) h1
      · exact absurd (.inr ⟨e1.symm, .inr ⟨e2.symm, hb, ha⟩⟩) h2
      · rfl
    exact Prod.ext e1 (Prod.ext e2 e3)
/-- A total order's weak side. -/
theorem le_tr {β : Type} {l : β → β → Bool} (T : TO l) {a b c : β} (h1 : l b a = false) (h2 : l c b = false) : l c a = false := by
  cases h : l c a with
  | false => rfl
  | true =>
    cases hab : l a b with
    | true => have := T.tr h hab; rw [h2] at this; exact absurd this (by decide)
    | false => rw [T.tri h1 hab] at h2; rw [h2] at h; exact absurd h (by decide)
def Wk {β : Type} (l : β → β → Bool) (s : List β) : Prop := s.Pairwise fun x y => l y x = false
theorem wk_ext {β : Type} {l : β → β → Bool} (T : TO l) {s t : List β} (hs : Wk l s) (ht : Wk l t) (hp : s.Perm t) : s = t :=
  List.Perm.eq_of_pairwise (fun a b _ _ h1 h2 => T.tri h2 h1) hs ht hp
theorem wk_sort {β : Type} {l : β → β → Bool} (T : TO l) (s : List β) : Wk l (s.mergeSort fun x y => !l y x) := by
  have := List.pairwise_mergeSort (le := fun x y => !l y x) (fun a b c h1 h2 => by
    simp only [Bool.not_eq_true'] at h1 h2 ⊢
    exact le_tr T h1 h2) (fun a b => by
    cases h : l b a with
    | false => rfl
    | true => rw [T.asym h]; rfl) s
  exact this.imp (fun h => by simpa using h)
/-- An event where it belongs. -/
def insE (lt : α → α → Bool) (l : List (Evt α)) (x : Evt α) : List (Evt α) := (l.takeWhile fun y => elt lt y x) ++ x :: l.dropWhile fun y => elt lt y x
theorem insE_perm (l : List (Evt α)) (x : Evt α) : (insE lt l x).Perm (x :: l) := by
  unfold insE
  refine List.perm_middle.trans ?_
  rw [List.takeWhile_append_dropWhile]
theorem dropWhile_wk {β : Type} {l : β → β → Bool} (T : TO l) {x : β} : ∀ {s : List β}, Wk l s → ∀ y ∈ s.dropWhile (fun y => l y x), l y x = false
  | [], _, y, hy => absurd hy (by simp)
  | a :: s, hs, y, hy => by
    have hs' := List.pairwise_cons.1 hs
    rw [List.dropWhile_cons] at hy
    split at hy
    · exact dropWhile_wk T hs'.2 y hy
    · rename_i h
      have h' : l a x = false := by simpa using h
      rcases List.mem_cons.1 hy with rfl | hy
      · exact h'
      · exact le_tr T h' (hs'.1 y hy)
theorem insE_wk (T : TO lt) {l : List (Evt α)} (h : Wk (elt lt) l) (x : Evt α) : Wk (elt lt) (insE lt l x) := by
  have TE := elt_TO T
  unfold insE
  have h1 : Wk (elt lt) (l.takeWhile fun y => elt lt y x) := h.sublist (List.takeWhile_sublist _)
  have h2 : Wk (elt lt) (l.dropWhile fun y => elt lt y x) := h.sublist (List.dropWhile_sublist _)
  have h3 : ∀ y ∈ l.takeWhile (fun y => elt lt y x), elt lt y x = true := fun y hy => by
    have := List.all_takeWhile (p := fun y => elt lt y x) (l := l)
    exact List.all_eq_true.1 this y hy
  have h4 := dropWhile_wk TE (x := x) h
  refine List.pairwise_append.2 ⟨h1, List.pairwise_cons.2 ⟨fun y hy => h4 y hy, h2⟩, fun y hy z hz => ?_⟩
  rcases List.mem_cons.1 hz with rfl | hz
  · exact TE.asym (h3 y hy)
  · exact le_tr TE (TE.asym (h3 y hy)) (h4 z hz)
def evStep (lt : α → α → Bool) (f t : Int) (out : List (Evt α)) (p : α × Sp) : List (Evt α) :=
  let o := if f < p.2.1 ∧ p.2.1 ≤ t then insE lt out (p.2.1, p.1, true) else out
  if 0 < p.2.2 ∧ f < p.2.2 ∧ p.2.2 ≤ t then insE lt o (p.2.2, p.1, false) else o
def eventsR (lt : α → α → Bool) (L : Row α) (f t : Int) : List (Evt α) := L.foldl (evStep lt f t) []
theorem evStep_ok (T : TO lt) (f t : Int) (out : List (Evt α)) (p : α × Sp) (h : Wk (elt lt) out) : Wk (elt lt) (evStep lt f t out p) ∧ (evStep lt f t out p).Perm (out ++ evs f t p) := by
  unfold evStep evs
  have e : (max f 0 < p.2.2 ∧ p.2.2 ≤ t) ↔ (0 < p.2.2 ∧ f < p.2.2 ∧ p.2.2 ≤ t) := by
    constructor
    · rintro ⟨h1, h2⟩; exact ⟨by omega, by omega, h2⟩
    · rintro ⟨h1, h2, h3⟩; exact ⟨by omega, h3⟩
  have hcomm : ∀ (l : List (Evt α)) (x : Evt α), (x :: l).Perm (l ++ [x]) := fun l x => (List.perm_append_singleton x l).symm
  by_cases c1 : f < p.2.1 ∧ p.2.1 ≤ t
  · by_cases c2 : 0 < p.2.2 ∧ f < p.2.2 ∧ p.2.2 ≤ t
    · simp only [if_pos c1, if_pos c2, if_pos (e.2 c2)]
      refine ⟨insE_wk T (insE_wk T h _) _, ?_⟩
      refine (insE_perm _ _).trans (((insE_perm out _).cons _).trans ?_)
      refine (hcomm _ _).trans ?_
      rw [← List.append_assoc]
      exact (hcomm out _).append (List.Perm.refl _)
    · simp only [if_pos c1, if_neg c2, if_neg (fun h => c2 (e.1 h)), List.append_nil]
      exact ⟨insE_wk T h _, (insE_perm _ _).trans (hcomm _ _)⟩
  · by_cases c2 : 0 < p.2.2 ∧ f < p.2.2 ∧ p.2.2 ≤ t
    · simp only [if_neg c1, if_pos c2, if_pos (e.2 c2), List.nil_append]
      exact ⟨insE_wk T h _, (insE_perm _ _).trans (hcomm _ _)⟩
    · simp only [if_neg c1, if_neg c2, if_neg (fun h => c2 (e.1 h)), List.append_nil]
      exact ⟨h, List.Perm.refl _⟩
theorem eventsR_ok (T : TO lt) (f t : Int) : ∀ (L : Row α) (out : List (Evt α)), Wk (elt lt) out → Wk (elt lt) (L.foldl (evStep lt f t) out) ∧ (L.foldl (evStep lt f t) out).Perm (out ++ L.flatMap (evs f t))
  | [], out, h => ⟨h, by simp⟩
  | p :: L, out, h => by
    obtain ⟨h1, h2⟩ := evStep_ok T f t out p h
    obtain ⟨h3, h4⟩ := eventsR_ok T f t L _ h1
    refine ⟨h3, h4.trans ?_⟩
    rw [List.flatMap_cons, ← List.append_assoc]
    exact h2.append (List.Perm.refl _)
theorem events_rel (T : TO lt) {s : St α} (h : Inv lt s) {L : Row α} (hr : Rel s L) (f t : Int) : eventsR lt L f t = eventsS lt s f t := by
  obtain ⟨h1, h2⟩ := eventsR_ok T f t L [] .nil
  refine wk_ext (elt_TO T) h1 (wk_sort (elt_TO T) _) ?_
  refine h2.trans ?_
  rw [List.nil_append]
  exact ((rel_perm T h hr).flatMap_right _).trans (List.mergeSort_perm _ _).symm
/-! ### the next key -/
def fits (lt : α → α → Bool) (s : St α) (rev : Int) (f : α) (to : Option α) (k : α) : Prop := hasS s k rev = true ∧ lt k f = false ∧ ∀ t, to = some t → lt k t = true
def nextR (lt : α → α → Bool) (rev : Int) (f : α) (to : Option α) (best : Option α) (p : α × Sp) : Option α :=
  if (holds rev p.2 && !lt p.1 f && to.all (fun t => lt p.1 t) && best.all (fun b => lt p.1 b)) = true then some p.1 else best
theorem nextL_spec (T : TO lt) (rev : Int) (to : Option α) : ∀ {g : List (α × List Sp)}, Srt lt (keysG g) →
    (∀ k, nextL lt rev to g = some k → (∃ l, (k, l) ∈ g ∧ l.any (holds rev) = true) ∧ (∀ t, to = some t → lt k t = true) ∧ ∀ j l, (j, l) ∈ g → l.any (holds rev) = true → lt j k = false) ∧
    (nextL lt rev to g = none → ∀ j l, (j, l) ∈ g → l.any (holds rev) = true → ¬ ∀ t, to = some t → lt j t = true)
  | [], _ => ⟨fun k h => absurd h (by simp [nextL]), fun _ j l h => absurd h (by simp)⟩
  | (a, l) :: r, hs => by
    have hs' := List.pairwise_cons.1 (show ((a :: keysG r).Pairwise _) from hs)
    obtain ⟨ih1, ih2⟩ := nextL_spec T rev to hs'.2
    rw [nextL]
    split
    · rename_i h
      refine ⟨fun k h2 => absurd h2 (by simp), fun _ j m hj hm hall => ?_⟩
      cases to with
      | none => simp at h
      | some t =>
        have h1 : lt a t = false := by simpa using h
        have h2 := hall t rfl
        rcases List.mem_cons.1 hj with e | hj
        · injection e with e1 e2; rw [e1, h1] at h2; exact absurd h2 (by decide)
        · have := T.tr (hs'.1 j (List.mem_map.2 ⟨_, hj, rfl⟩)) h2
          rw [h1] at this; exact absurd this (by decide)
    · rename_i h
      split
      · rename_i h3
        refine ⟨fun k hk => ?_, fun hk => absurd hk (by simp)⟩
        obtain rfl := Option.some.inj hk
        refine ⟨⟨l, by simp, h3⟩, fun t ht => ?_, fun j m hj _ => ?_⟩
        · subst ht
          simpa using h
        · rcases List.mem_cons.1 hj with e | hj
          · injection e with e1 e2; rw [e1]; exact T.irr a
          · exact T.asym (hs'.1 j (List.mem_map.2 ⟨_, hj, rfl⟩))
      · rename_i h3
        refine ⟨fun k hk => ?_, fun hk j m hj hm => ?_⟩
        · obtain ⟨⟨m, h4, h5⟩, h6, h7⟩ := ih1 k hk
          refine ⟨⟨m, List.mem_cons_of_mem _ h4, h5⟩, h6, fun j m' hj hm => ?_⟩
          rcases List.mem_cons.1 hj with e | hj
          · injection e with e1 e2; rw [e2] at hm; exact absurd hm h3
          · exact h7 j m' hj hm
        · rcases List.mem_cons.1 hj with e | hj
          · injection e with e1 e2; rw [e2] at hm; exact absurd hm h3
          · exact ih2 hk j m hj hm
theorem has_mem (T : TO lt) {s : St α} (h : Inv lt s) (k : α) (rev : Int) : hasS s k rev = true ↔ ∃ l, (k, l) ∈ s.g ∧ l.any (holds rev) = true := by
  unfold hasS
  constructor
  · intro h1
    have hk : k ∈ keysG s.g := by
      by_cases hk : k ∈ keysG s.g
      · exact hk
      · rw [get_not hk] at h1; exact absurd h1 (by simp)
    obtain ⟨l, hl⟩ := mem_keys hk
    rw [get_mem h.srt T hl] at h1
    exact ⟨l, hl, h1⟩
  · rintro ⟨l, hl, h1⟩
    rw [get_mem h.srt T hl]; exact h1
theorem pos_drop (T : TO lt) : ∀ {g : List (α × List Sp)} {f : α}, Srt lt (keysG g) → ∀ j l, (j, l) ∈ g.drop (pos lt (keysG g) f) ↔ (j, l) ∈ g ∧ lt j f = false
  | [], f, _, j, l => by simp
  | (a, m) :: r, f, hs, j, l => by
    have hs' := List.pairwise_cons.1 (show ((a :: keysG r).Pairwise _) from hs)
    show (j, l) ∈ ((a, m) :: r).drop (pos lt (a :: keysG r) f) ↔ _
    rw [pos]
    split
    · rename_i h
      rw [List.drop_succ_cons, pos_drop T hs'.2 j l, List.mem_cons]
      constructor
      · rintro ⟨h1, h2⟩; exact ⟨.inr h1, h2⟩
      · rintro ⟨h1 | h1, h2⟩
        · injection h1 with e1 e2; rw [e1, h] at h2; exact absurd h2 (by decide)
        · exact ⟨h1, h2⟩
    · rename_i h
      rw [List.drop_zero]
      constructor
      · intro h1
        refine ⟨h1, ?_⟩
        have h' : lt a f = false := by simpa using h
        rcases List.mem_cons.1 h1 with e | h1
        · injection e with e1 e2; rw [e1]; exact h'
        · exact le_tr T h' (T.asym (hs'.1 j (List.mem_map.2 ⟨_, h1, rfl⟩)))
      · exact fun h1 => h1.1
theorem next_spec (T : TO lt) {s : St α} (h : Inv lt s) (rev : Int) (f : α) (to : Option α) :
    (∀ k, nextS lt s rev f to = some k → fits lt s rev f to k ∧ ∀ j, fits lt s rev f to j → lt j k = false) ∧ (nextS lt s rev f to = none → ∀ j, ¬ fits lt s rev f to j) := by
  have hs : Srt lt (keysG (s.g.drop (pos lt (keysG s.g) f))) := by
    unfold keysG
    rw [List.map_drop]
    exact h.srt.sublist (List.drop_sublist _ _)
  obtain ⟨h1, h2⟩ := nextL_spec T rev to hs
  refine ⟨fun k hk => ?_, fun hk j hj => ?_⟩
  · obtain ⟨⟨l, h3, h4⟩, h5, h6⟩ := h1 k hk
    have h7 := (pos_drop T h.srt k l).1 h3
    refine ⟨⟨(has_mem T h k rev).2 ⟨l, h7.1, h4⟩, h7.2, h5⟩, fun j hj => ?_⟩
    obtain ⟨m, hm, hm2⟩ := (has_mem T h j rev).1 hj.1
    exact h6 j m ((pos_drop T h.srt j m).2 ⟨hm, hj.2.1⟩) hm2
  · obtain ⟨m, hm, hm2⟩ := (has_mem T h j rev).1 hj.1
    exact h2 hk j m ((pos_drop T h.srt j m).2 ⟨hm, hj.2.1⟩) hm2 hj.2.2
/-- A key of a row that fits. -/
def fitP (lt : α → α → Bool) (rev : Int) (f : α) (to : Option α) (p : α × Sp) : Bool := holds rev p.2 && !lt p.1 f && to.all (fun t => lt p.1 t)
theorem nextR_spec (T : TO lt) (rev : Int) (f : α) (to : Option α) : ∀ (L : Row α) (b : Option α),
    (∀ k, L.foldl (nextR lt rev f to) b = some k → (b = some k ∨ ∃ p ∈ L, fitP lt rev f to p = true ∧ p.1 = k) ∧ (∀ b', b = some b' → lt b' k = false) ∧ ∀ p ∈ L, fitP lt rev f to p = true → lt p.1 k = false) ∧
    (L.foldl (nextR lt rev f to) b = none → b = none ∧ ∀ p ∈ L, fitP lt rev f to p = false)
  | [], b => ⟨fun k h => ⟨.inl h, fun b' hb => by
      have h' : b = some k := h
      rw [hb] at h'; obtain rfl := Option.some.inj h'; exact T.irr _, fun p hp => absurd hp (by simp)⟩, fun h => ⟨h, fun p hp => absurd hp (by simp)⟩⟩
  | p :: L, b => by
    obtain ⟨ih1, ih2⟩ := nextR_spec T rev f to L (nextR lt rev f to b p)
    rw [List.foldl_cons]
    have hd : nextR lt rev f to b p = if (fitP lt rev f to p && b.all fun x => lt p.1 x) = true then some p.1 else b := rfl
    refine ⟨fun k hk => ?_, fun hk => ?_⟩
    · obtain ⟨h1, h2, h3⟩ := ih1 k hk
      rw [hd] at h1 h2
      by_cases hc : (fitP lt rev f to p && b.all fun x => lt p.1 x) = true
      · rw [if_pos hc] at h1 h2
        rw [Bool.and_eq_true] at hc
        have h4 := h2 p.1 rfl
        refine ⟨?_, fun b' hb => ?_, fun q hq hf => ?_⟩
        · rcases h1 with h1 | ⟨q, hq, h5, h6⟩
          · exact .inr ⟨p, by simp, hc.1, Option.some.inj h1⟩
          · exact .inr ⟨q, List.mem_cons_of_mem _ hq, h5, h6⟩
        · subst hb
          have h5 : lt p.1 b' = true := by simpa using hc.2
          exact le_tr T h4 (T.asym h5)
        · rcases List.mem_cons.1 hq with rfl | hq
          · exact h4
          · exact h3 q hq hf
      · rw [if_neg hc] at h1 h2
        refine ⟨?_, h2, fun q hq hf => ?_⟩
        · rcases h1 with h1 | ⟨q, hq, h5, h6⟩
          · exact .inl h1
          · exact .inr ⟨q, List.mem_cons_of_mem _ hq, h5, h6⟩
        · rcases List.mem_cons.1 hq with rfl | hq
          · rw [hf, Bool.true_and] at hc
            cases b with
            | none => simp at hc
            | some x =>
              have h5 : lt q.1 x = false := by simpa using hc
              exact le_tr T (h2 x rfl) h5
          · exact h3 q hq hf
    · obtain ⟨h1, h2⟩ := ih2 hk
      rw [hd] at h1
      by_cases hc : (fitP lt rev f to p && b.all fun x => lt p.1 x) = true
      · rw [if_pos hc] at h1; exact absurd h1 (by simp)
      · rw [if_neg hc] at h1
        subst h1
        refine ⟨rfl, fun q hq => ?_⟩
        rcases List.mem_cons.1 hq with rfl | hq
        · simpa using hc
        · exact h2 q hq
theorem fit_rel {s : St α} {L : Row α} (hr : Rel s L) (rev : Int) (f : α) (to : Option α) (k : α) : fits lt s rev f to k ↔ ∃ p ∈ L, fitP lt rev f to p = true ∧ p.1 = k := by
  unfold fits
  rw [← has_rel hr k rev]
  constructor
  · rintro ⟨h1, h2, h3⟩
    obtain ⟨p, hp, h4⟩ := List.any_eq_true.1 h1
    rw [Bool.and_eq_true, decide_eq_true_eq] at h4
    refine ⟨p, hp, ?_, h4.2⟩
    unfold fitP
    rw [h4.1, h4.2, h2]
    cases to with
    | none => rfl
    | some t => simpa using h3 t rfl
  · rintro ⟨p, hp, h4, rfl⟩
    unfold fitP at h4
    rw [Bool.and_eq_true, Bool.and_eq_true] at h4
    refine ⟨List.any_eq_true.2 ⟨p, hp, by rw [h4.1.1]; simp⟩, by simpa using h4.1.2, fun t ht => ?_⟩
    subst ht
    simpa using h4.2
theorem next_rel (T : TO lt) {s : St α} (h : Inv lt s) {L : Row α} (hr : Rel s L) (rev : Int) (f : α) (to : Option α) : L.foldl (nextR lt rev f to) none = nextS lt s rev f to := by
  obtain ⟨a1, a2⟩ := nextR_spec T rev f to L none
  obtain ⟨b1, b2⟩ := next_spec T h rev f to
  cases hx : L.foldl (nextR lt rev f to) none with
  | none =>
    cases hy : nextS lt s rev f to with
    | none => rfl
    | some k =>
      obtain ⟨p, hp, h1, _⟩ := (fit_rel hr rev f to k).1 (b1 k hy).1
      rw [(a2 hx).2 p hp] at h1; exact absurd h1 (by decide)
  | some k =>
    obtain ⟨h1, _, h3⟩ := a1 k hx
    have hf : fits lt s rev f to k := (fit_rel hr rev f to k).2 (h1.resolve_left (by simp))
    cases hy : nextS lt s rev f to with
    | none => exact absurd hf (b2 hy k)
    | some j =>
      obtain ⟨h4, h5⟩ := b1 j hy
      obtain ⟨p, hp, h6, rfl⟩ := (fit_rel hr rev f to j).1 h4
      rw [T.tri (h5 k hf) (h3 p hp h6)]
end
end Go.Proofs.Ythpcplpannbipaa.Sq
