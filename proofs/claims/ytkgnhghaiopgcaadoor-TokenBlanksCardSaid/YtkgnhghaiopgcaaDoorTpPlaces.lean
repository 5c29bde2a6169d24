/- Where a text's tokens stand, and what is between; plain Lean, no program walked; no condition. -/
import Derived.Test.YtkgnhghaiopgcaaDoorTpLaws
set_option linter.unusedVariables false
set_option linter.unusedSimpArgs false
namespace Go.Proofs.YtkgnhghaiopgcaaDoor.Tp
open Go.Proofs.YtkgnhghaiopgcaaDoor.Gl Go.Proofs.YtkgnhghaiopgcaaDoor.X Go.Proofs.YtkgnhghaiopgcaaDoor.Tk Go.Proofs.YtkgnhghaiopgcaaDoor.TkFn Go.Proofs.YtkgnhghaiopgcaaDoor.Pure

def nt (n : Bool) (c : UInt8) : Bool := (n && decide (c ≠ 10)) || decide (c = 47)
/-- Are these blanks and notes? -/
def gap : List UInt8 → Bool → Bool
  | [], _ => true
  | c :: r, n => (nt n c || blk c) && gap r (nt n c)
theorem gap_blank (c : UInt8) (r : List UInt8) (h : blk c = true) (h7 : c ≠ 47) : gap (c :: r) false = gap r false := by
  have e : nt false c = false := by unfold nt; simp [h7]
  rw [gap, e, h]; rfl
theorem gap_in (T r : List UInt8) (h : (10 : UInt8) ∉ T) : gap (T ++ r) true = gap r true := by
  induction T with
  | nil => rfl
  | cons c T ih =>
    simp only [List.mem_cons, not_or] at h
    have e : nt true c = true := by unfold nt; simp [Ne.symm h.1]
    rw [List.cons_append, gap, e, Bool.true_or, Bool.true_and]; exact ih h.2
theorem gap_note (T r : List UInt8) (h : (10 : UInt8) ∉ T) (h2 : T.take 2 = [47, 47]) : gap (T ++ r) false = gap r true := by
  match T, h2 with
  | [], h2 => simp at h2
  | a :: T, h2 =>
    have ha : a = 47 := by cases T <;> simp at h2; exact h2.1
    subst ha
    have : gap (47 :: T ++ r) false = gap (T ++ r) true := by rw [List.cons_append, gap, show nt false 47 = true by decide]; rfl
    rw [this]
    exact gap_in T r (fun x => h (by simp [x]))
theorem gap_true (r : List UInt8) (h : r = [] ∨ r.getD 0 0 = 10) : gap r true = gap r false := by
  cases r with
  | nil => rfl
  | cons c r =>
    rcases h with h | h
    · exact absurd h (by simp)
    · have : c = 10 := h
      subst this; rfl

theorem note_head (l : List UInt8) : l.drop (noteLen l) = [] ∨ (l.drop (noteLen l)).getD 0 0 = 10 := by
  induction l with
  | nil => exact .inl rfl
  | cons c l ih =>
    rw [noteLen]
    by_cases h : c = 10
    · rw [if_pos h]; exact .inr h
    · rw [if_neg h]; exact ih
theorem note_none (l : List UInt8) : (10 : UInt8) ∉ l.take (noteLen l) := by
  induction l with
  | nil => simp
  | cons c l ih =>
    rw [noteLen]
    by_cases h : c = 10
    · rw [if_pos h]; simp
    · rw [if_neg h, List.take_succ_cons]
      simp only [List.mem_cons, not_or]; exact ⟨Ne.symm h, ih⟩

def placed (S : List UInt8) : List Tok → Nat → Prop
  | [], _ => False
  | t :: ts, p => p ≤ t.at_ ∧ gap ((S.take t.at_).drop p) false = true ∧ (S.drop t.at_).take t.text.length = t.text ∧ t.at_ + t.text.length ≤ S.length ∧
      ((ts = [] ∧ t.kind = 3 ∧ t.text = [] ∧ t.at_ = S.length) ∨ (ts ≠ [] ∧ good t ∧ placed S ts (t.at_ + t.text.length)))

theorem drop_at {S : List UInt8} {p : Nat} (h : p < S.length) : S.drop p = S.getD p 0 :: S.drop (p + 1) := by
  rw [List.drop_eq_getElem_cons h, List.getD_eq_getElem?_getD, List.getElem?_eq_getElem h]; rfl
theorem drop_getD (S : List UInt8) (p : Nat) : (S.drop p).getD 0 0 = S.getD p 0 := by simp [List.getD_eq_getElem?_getD]
theorem good_ne {t : Tok} (h : good t) : t.text ≠ [] := by
  rcases h with ⟨_, h2⟩ | ⟨_, c, h2, _⟩
  · exact (name_mays h2).2.1
  · rw [h2]; simp
theorem good_head {t : Tok} (h : good t) : blk (t.text.getD 0 0) = false := by
  rcases h with ⟨_, h2⟩ | ⟨_, c, h2, h3⟩
  · obtain ⟨hm, hne, _⟩ := name_mays h2
    have := (may_not (mays_head hm hne).1).1
    simpa using this
  · rw [h2]
    have := (sign_not h3).1
    simpa using this

theorem placed_blank {S : List UInt8} {ts : List Tok} {p : Nat} (hp : p < S.length) (hb : blk (S.getD p 0) = true) (h : placed S ts (p + 1)) : placed S ts p := by
  cases ts with
  | nil => exact h
  | cons t ts =>
    obtain ⟨h1, h2, h3, h4, h5⟩ := h
    refine ⟨by omega, ?_, h3, h4, h5⟩
    have h7 : S.getD p 0 ≠ 47 := fun e => blk_slash (l := [S.getD p 0]) e hb
    have hl : p < (S.take t.at_).length := by rw [List.length_take]; omega
    rw [drop_at hl, show (S.take t.at_).getD p 0 = S.getD p 0 by rw [getD_take, if_pos (by omega)], gap_blank _ _ hb h7]
    exact h2

theorem placed_note {S : List UInt8} {ts : List Tok} {p : Nat} (hp : p ≤ S.length) (hn : (S.drop p).take 2 = [47, 47]) (h : placed S ts (p + noteLen (S.drop p))) : placed S ts p := by
  cases ts with
  | nil => exact h
  | cons t ts =>
    obtain ⟨h1, h2, h3, h4, h5⟩ := h
    have hle := noteLen_le (S.drop p)
    have h22 := noteLen_two hn
    refine ⟨by omega, ?_, h3, h4, h5⟩
    generalize hm : noteLen (S.drop p) = n at *
    rw [List.length_drop] at hle
    have e1 : (S.take t.at_).drop p = (S.drop p).take n ++ (S.take t.at_).drop (p + n) := by
      rw [List.drop_take, List.drop_take, ← List.drop_drop]
      have : (S.drop p).take (t.at_ - p) = ((S.drop p).take n ++ (S.drop p).drop n).take (t.at_ - p) := by rw [List.take_append_drop]
      rw [this, List.take_append, List.take_take, List.length_take, List.length_drop]
      rw [show min (t.at_ - p) n = n by omega, show t.at_ - p - min n (S.length - p) = t.at_ - (p + n) by omega]
    have h47 : ((S.drop p).take n).take 2 = [47, 47] := by rw [List.take_take, show min 2 n = 2 by omega]; exact hn
    have hno := note_none (S.drop p)
    rw [hm] at hno
    rw [e1, gap_note _ _ hno h47, gap_true]
    · exact h2
    have hh := note_head (S.drop p)
    rw [hm, List.drop_drop] at hh
    rcases hh with hh | hh
    · left
      have := List.drop_eq_nil_iff.1 hh
      rw [List.drop_eq_nil_iff, List.length_take]; omega
    · rw [drop_getD] at hh
      by_cases hz : t.at_ = p + n
      · left; rw [List.drop_eq_nil_iff, List.length_take]; omega
      · right; rw [drop_getD, getD_take, if_pos (by omega)]; exact hh

theorem tk_placed (S : List UInt8) (l : List UInt8) : ∀ p ts, l = S.drop p → p ≤ S.length → tk l p = .ok ts → placed S ts p := by
  have hcons : ∀ (t : Tok) (r : R) (ts : List Tok), cons t r = .ok ts → ∃ us, r = .ok us ∧ ts = t :: us := by
    intro t r ts h
    cases r with
    | error e => simp [cons] at h
    | ok us => simp only [cons, Except.ok.injEq] at h; exact ⟨us, rfl, h.symm⟩
  have hnil : ∀ p, (S.take p).drop p = [] := by intro p; rw [List.drop_eq_nil_iff, List.length_take]; omega
  induction l using tk_ind with
  | h0 =>
    intro p ts e hp h
    rw [tk_nil] at h; injection h with h; subst h
    have : S.length ≤ p := List.drop_eq_nil_iff.1 e.symm
    obtain rfl : p = S.length := by omega
    exact ⟨Nat.le_refl _, by rw [hnil]; rfl, by simp, by simp, .inl ⟨rfl, rfl, rfl, rfl⟩⟩
  | hb l h hb ih =>
    intro p ts e hp ht
    have hl : 0 < l.length := List.length_pos_iff.mpr h
    rw [e, List.length_drop] at hl
    rw [tk_blank h hb] at ht
    refine placed_blank (by omega) (by rw [← drop_getD, ← e]; exact hb) (ih _ _ (by rw [e, List.drop_drop]) (by omega) ht)
  | hn l h ih =>
    intro p ts e hp ht
    rw [tk_note h] at ht
    have hle := noteLen_le l
    rw [e, List.length_drop] at hle
    have hn := ih (p + noteLen l) ts (by rw [← List.drop_drop, ← e]) (by rw [e]; omega) ht
    rw [e] at hn h
    exact placed_note hp h hn
  | hsl l h h2 => intro p ts e hp ht; rw [tk_slash h h2] at ht; injection ht
  | hs l h hs ih =>
    intro p ts e hp ht
    have hl : 0 < l.length := List.length_pos_iff.mpr h
    rw [e, List.length_drop] at hl
    rw [tk_sign h hs] at ht
    obtain ⟨us, h1, rfl⟩ := hcons _ _ _ ht
    have h1l : (l.take 1).length = 1 := by rw [List.length_take, e, List.length_drop]; omega
    refine ⟨Nat.le_refl _, by rw [hnil]; rfl, ?_, ?_, .inr ⟨tk_ne _ _ _ h1, .inr ⟨rfl, l.getD 0 0, ?_, hs⟩, ?_⟩⟩
    · show (S.drop p).take (l.take 1).length = l.take 1
      rw [h1l, ← e]
    · show p + (l.take 1).length ≤ S.length
      omega
    · cases l with
      | nil => exact absurd rfl h
      | cons c r => rfl
    · show placed S us (p + (l.take 1).length)
      rw [h1l]
      exact ih _ _ (by rw [e, List.drop_drop]) (by omega) h1
  | hw l h hc2 ih =>
    intro p ts e hp ht
    have hle := wlen_le l
    have hlen : l.length = S.length - p := by rw [e, List.length_drop]
    rw [tk_word h hc2] at ht
    obtain ⟨us, h1, rfl⟩ := hcons _ _ _ ht
    have h1l : (l.take (wlen l)).length = wlen l := by rw [List.length_take]; omega
    refine ⟨Nat.le_refl _, by rw [hnil]; rfl, ?_, ?_, .inr ⟨tk_ne _ _ _ h1, .inl ⟨rfl, by rw [name_word h]; exact decide_eq_true hc2⟩, ?_⟩⟩
    · show (S.drop p).take (l.take (wlen l)).length = l.take (wlen l)
      rw [h1l, ← e]
    · show p + (l.take (wlen l)).length ≤ S.length
      omega
    · show placed S us (p + (l.take (wlen l)).length)
      rw [h1l]
      exact ih _ _ (by rw [← List.drop_drop, ← e]) (by omega) h1
  | hlg l h hc2 => intro p ts e hp ht; rw [tk_long h hc2] at ht; injection ht
  | ho l h h1 h2 h3 h4 => intro p ts e hp ht; rw [tk_other h h1 h2 h3 h4] at ht; injection ht

/-- Where the token ahead of place i ends. -/
def prevEnd (ts : List Tok) (p : Nat) : Nat → Nat
  | 0 => p
  | i + 1 => match ts[i]? with
    | some t => t.at_ + t.text.length
    | none => 0
theorem placed_at (S : List UInt8) : ∀ (ts : List Tok) (p : Nat), placed S ts p → ∀ (i : Nat) (t : Tok), ts[i]? = some t →
    prevEnd ts p i ≤ t.at_ ∧ gap ((S.take t.at_).drop (prevEnd ts p i)) false = true ∧ (S.drop t.at_).take t.text.length = t.text ∧ t.at_ + t.text.length ≤ S.length ∧
      ((i + 1 = ts.length ∧ t.kind = 3 ∧ t.text = [] ∧ t.at_ = S.length) ∨ (i + 1 < ts.length ∧ good t)) := by
  intro ts
  induction ts with
  | nil => intro p h i t ht; simp at ht
  | cons x ts ih =>
    intro p h i t ht
    obtain ⟨h1, h2, h3, h4, h5⟩ := h
    cases i with
    | zero =>
      simp only [List.getElem?_cons_zero, Option.some.injEq] at ht
      subst ht
      refine ⟨h1, h2, h3, h4, ?_⟩
      rcases h5 with ⟨rfl, h6, h7, h8⟩ | ⟨h6, h7, h8⟩
      · exact .inl ⟨rfl, h6, h7, h8⟩
      · have : 0 < ts.length := List.length_pos_iff.mpr h6
        exact .inr ⟨by simp only [List.length_cons]; omega, h7⟩
    | succ i =>
      rw [List.getElem?_cons_succ] at ht
      rcases h5 with ⟨rfl, h6, h7, h8⟩ | ⟨h6, h7, h8⟩
      · simp at ht
      · have := ih _ h8 i t ht
        have e : prevEnd (x :: ts) p (i + 1) = prevEnd ts (x.at_ + x.text.length) i := by
          cases i with
          | zero => rfl
          | succ i => simp only [prevEnd, List.getElem?_cons_succ]
        rw [e]
        simpa only [List.length_cons, Nat.add_lt_add_iff_right, Nat.add_right_cancel_iff] using this
theorem all_placed {S : List UInt8} {ts : List Tok} (h : all S = .ok ts) : placed S ts 0 := tk_placed S S 0 ts rfl (Nat.zero_le _) (all_len h).2.2.2
theorem prevEnd_last {S : List UInt8} {ts : List Tok} (h : all S = .ok ts) : prevEnd ts 0 ts.length = S.length ∧ 0 < ts.length := by
  have hp := all_placed h
  have hne : ts ≠ [] := tk_ne _ _ _ (all_len h).2.2.2
  obtain ⟨us, rfl, _⟩ := all_last h
  refine ⟨?_, by simp⟩
  rw [List.length_append]
  show (match (us ++ [_])[us.length]? with | some t => _ | none => 0) = _
  rw [List.getElem?_concat_length]; rfl
theorem gap_step {S : List UInt8} {a k : Nat} {n : Bool} (ha : a ≤ S.length) (hk : k < a) (h : gap ((S.take a).drop k) n = true) :
    (nt n (S.getD k 0) = true ∨ blk (S.getD k 0) = true) ∧ gap ((S.take a).drop (k + 1)) (nt n (S.getD k 0)) = true := by
  have hl : k < (S.take a).length := by rw [List.length_take]; omega
  rw [drop_at hl, show (S.take a).getD k 0 = S.getD k 0 by rw [getD_take, if_pos hk], gap, Bool.and_eq_true, Bool.or_eq_true] at h
  exact h

end Go.Proofs.YtkgnhghaiopgcaaDoor.Tp
