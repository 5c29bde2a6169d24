/- What a row of tokens says as a schema: the parser in plain Lean; no program walked; no condition. -/
import Derived.Test.YtkgnhghaiopgcaaDoorKd
import Derived.Test.YtkgnhghaiopgcaaDoorTk
set_option linter.unusedVariables false
set_option linter.unusedSimpArgs false
namespace Go.Proofs.YtkgnhghaiopgcaaDoor.Ps
open Go.Proofs.YtkgnhghaiopgcaaDoor.Gl Go.Proofs.YtkgnhghaiopgcaaDoor.X Go.Proofs.YtkgnhghaiopgcaaDoor.Kx Go.Proofs.YtkgnhghaiopgcaaDoor.Tk

abbrev SO := S59
abbrev SS := S62
abbrev SR := S57
abbrev ST := S53
abbrev Er := Int × Nat
def B (l : List UInt8) : ByteArray := ⟨l.toArray⟩
def atT : List Tok → Nat
  | [] => 0
  | t :: _ => t.at_
def isT (s : List UInt8) : List Tok → Bool
  | [] => false
  | t :: _ => decide (t.text = s) && (decide (t.kind = 2) || TkKey.key s)
/-- The tokens behind one that is passed, if it is there. -/
def goT (s : List UInt8) (ts : List Tok) : List Tok := if isT s ts = true then ts.tail else ts
def needT (s : List UInt8) (ts : List Tok) : Except Er (List Tok) := if isT s ts = true then .ok ts.tail else .error (30, atT ts)
def nameT : List Tok → Except Er (ByteArray × List Tok)
  | [] => .error (30, 0)
  | t :: r => if t.kind = 1 ∧ TkKey.key t.text = false then .ok (B t.text, r) else .error (30, t.at_)
def signT (ts : List Tok) : Int := if isT [124] ts = true then 4 else if isT [38] ts = true then 5 else if isT [45] ts = true then 6 else 0
def bnd {α β : Type} (x : Option (Except Er α)) (f : α → Option (Except Er β)) : Option (Except Er β) :=
  match x with
  | none => none
  | some (.error e) => some (.error e)
  | some (.ok a) => f a
def sThis : List UInt8 := [116, 104, 105, 115]
def sIs : List UInt8 := [105, 115]
def sRel : List UInt8 := [114, 101, 108]
def sType : List UInt8 := [116, 121, 112, 101]
def op1 (k : Int) : SO := ⟨k, ⟨#[]⟩, ⟨#[]⟩⟩

mutual
def partT : Nat → Nat → List Tok → Option (Except Er (List SO × List Tok))
  | 0, _, _ => none
  | k + 1, d, ts =>
    if isT sThis ts = true then some (.ok ([op1 1], ts.tail))
    else if isT [40] ts = true then
      if d = 8 then some (.error (13, atT ts))
      else bnd (rewT k (d + 1) ts.tail) fun x => bnd (some (needT [41] x.2)) fun r => some (.ok (x.1, r))
    else bnd (some (nameT ts)) fun x =>
      if isT [46] x.2 = true then bnd (some (nameT x.2.tail)) fun y => some (.ok ([⟨3, x.1, y.1⟩], y.2))
      else some (.ok ([⟨2, x.1, ⟨#[]⟩⟩], x.2))
def rewT : Nat → Nat → List Tok → Option (Except Er (List SO × List Tok))
  | 0, _, _ => none
  | k + 1, d, ts => bnd (partT k d ts) fun x => rewL k d x.1 x.2
def rewL : Nat → Nat → List SO → List Tok → Option (Except Er (List SO × List Tok))
  | 0, _, _, _ => none
  | k + 1, d, acc, ts =>
    if signT ts = 0 then some (.ok (acc, ts))
    else bnd (partT k d ts.tail) fun x => rewL k d (acc ++ x.1 ++ [op1 (signT ts)]) x.2
end
def subT (ts : List Tok) : Except Er (SS × List Tok) :=
  match nameT ts with
  | .error e => .error e
  | .ok x => if isT [35] x.2 = true then (match nameT x.2.tail with | .error e => .error e | .ok y => .ok (⟨x.1, y.1⟩, y.2)) else .ok (⟨x.1, ⟨#[]⟩⟩, x.2)
def subsL : Nat → List SS → List Tok → Option (Except Er (List SS × List Tok))
  | 0, _, _ => none
  | k + 1, acc, ts => bnd (some (subT ts)) fun x => if isT [44] x.2 = true then subsL k (acc ++ [x.1]) x.2.tail else some (.ok (acc ++ [x.1], x.2))
def relT (k : Nat) (ts : List Tok) : Option (Except Er (SR × List Tok)) :=
  bnd (some (nameT ts)) fun a => bnd (some (needT [40] a.2)) fun t2 => bnd (some (nameT t2)) fun b => bnd (some (needT [44] b.2)) fun t4 => bnd (some (nameT t4)) fun c =>
  bnd (some (needT [44] c.2)) fun t6 => bnd (some (nameT t6)) fun d => bnd (some (needT [41] d.2)) fun t8 => bnd (some (needT [58] t8)) fun t9 =>
  bnd (if isT sIs t9 = false ∧ isT [59] t9 = false then subsL k [] t9 else some (.ok ([], t9))) fun su =>
  bnd (if isT sIs su.2 = true then rewT k 0 su.2.tail else some (.ok ([op1 1], su.2))) fun ops =>
  bnd (some (needT [59] ops.2)) fun t12 => some (.ok (⟨a.1, b.1, c.1, d.1, su.1, ops.1⟩, t12))
def relsL : Nat → List SR → List Tok → Option (Except Er (List SR × List Tok))
  | 0, _, _ => none
  | k + 1, acc, ts => if isT sRel ts = true then bnd (relT k ts.tail) fun x => relsL k (acc ++ [x.1]) x.2 else some (.ok (acc, ts))
def typeT (k : Nat) (ts : List Tok) : Option (Except Er (ST × List Tok)) :=
  bnd (some (nameT ts)) fun a => bnd (some (needT [123] a.2)) fun t2 => bnd (relsL k [] t2) fun l => bnd (some (needT [125] l.2)) fun t4 => some (.ok (⟨a.1, l.1⟩, t4))
def typesL : Nat → List ST → List Tok → Option (Except Er (List ST × List Tok))
  | 0, _, _ => none
  | k + 1, acc, ts => if isT sType ts = true then bnd (typeT k ts.tail) fun x => typesL k (acc ++ [x.1]) x.2 else some (.ok (acc, ts))
def schemaT (k : Nat) (ts : List Tok) : Option (Except Er (List ST)) :=
  bnd (typesL k [] ts) fun x => match x.2 with
    | [] => some (.error (30, 0))
    | t :: _ => if t.kind = 3 then some (.ok x.1) else some (.error (30, t.at_))
def parse (l : List UInt8) : Option (Except Er (List ST)) :=
  match all l with
  | .error e => some (.error e)
  | .ok ts => schemaT (3 * ts.length + 9) ts

/-! ### The row always ends with an end -/
def EndsT : List Tok → Prop
  | [] => False
  | [e] => e.kind = 3 ∧ e.text = []
  | _ :: t :: r => EndsT (t :: r)
theorem EndsT.ne {ts : List Tok} (h : EndsT ts) : ts ≠ [] := by intro e; rw [e] at h; exact h
theorem EndsT.tail {t : Tok} {r : List Tok} (h : EndsT (t :: r)) (hk : t.kind ≠ 3 ∨ t.text ≠ []) : EndsT r := by
  cases r with
  | nil => rcases hk with hk | hk
           · exact absurd h.1 hk
           · exact absurd h.2 hk
  | cons u r => exact h
theorem isT_tail {s : List UInt8} (hs : s ≠ []) {ts : List Tok} (h : isT s ts = true) (he : EndsT ts) : EndsT ts.tail := by
  cases ts with
  | nil => exact absurd h (by simp [isT])
  | cons t r =>
    simp only [isT, Bool.and_eq_true, decide_eq_true_eq] at h
    exact EndsT.tail he (.inr (by rw [h.1]; exact hs))
theorem goT_ends {s : List UInt8} (hs : s ≠ []) {ts : List Tok} (he : EndsT ts) : EndsT (goT s ts) := by
  unfold goT; split
  · exact isT_tail hs (by assumption) he
  · exact he
theorem needT_ok {s : List UInt8} {ts r : List Tok} (h : needT s ts = .ok r) : isT s ts = true ∧ r = ts.tail := by
  unfold needT at h
  split at h
  · injection h with h; exact ⟨by assumption, h.symm⟩
  · injection h
theorem nameT_ok {ts r : List Tok} {n : ByteArray} (h : nameT ts = .ok (n, r)) : ∃ t, ts = t :: r ∧ n = B t.text ∧ t.kind = 1 ∧ TkKey.key t.text = false := by
  cases ts with
  | nil => simp [nameT] at h
  | cons t u =>
    simp only [nameT] at h
    split at h
    · rename_i hc
      injection h with h; injection h with h1 h2
      exact ⟨t, by rw [h2], h1.symm, hc.1, hc.2⟩
    · injection h
theorem nameT_ends {ts r : List Tok} {n : ByteArray} (h : nameT ts = .ok (n, r)) (he : EndsT ts) : EndsT r := by
  obtain ⟨t, rfl, _, h1, _⟩ := nameT_ok h
  exact EndsT.tail he (.inl (by rw [h1]; decide))
theorem ends_all {l : List UInt8} {p : Nat} : ∀ {us : List Tok}, EndsT (us ++ [⟨3, [], p⟩]) := by
  intro us
  induction us with
  | nil => exact ⟨rfl, rfl⟩
  | cons u us ih =>
    cases us with
    | nil => exact ih
    | cons v us => exact ih

theorem bnd_ok {α β : Type} {x : Option (Except Er α)} {f : α → Option (Except Er β)} {res : β} (h : bnd x f = some (.ok res)) : ∃ a, x = some (.ok a) ∧ f a = some (.ok res) := by
  cases x with
  | none => exact absurd h (by simp [bnd])
  | some y =>
    cases y with
    | error e => exact absurd h (by simp [bnd])
    | ok a => exact ⟨a, rfl, h⟩
theorem needT_len {s : List UInt8} {ts r : List Tok} (h : needT s ts = .ok r) : r.length + 1 ≤ ts.length := by
  obtain ⟨h1, rfl⟩ := needT_ok h
  cases ts with
  | nil => simp [isT] at h1
  | cons t r => simp
theorem isT_len {s : List UInt8} {ts : List Tok} (h : isT s ts = true) : ts.tail.length + 1 ≤ ts.length := by
  cases ts with
  | nil => simp [isT] at h
  | cons t r => simp
theorem nameT_len {ts r : List Tok} {n : ByteArray} (h : nameT ts = .ok (n, r)) : r.length + 1 ≤ ts.length := by
  obtain ⟨t, rfl, _⟩ := nameT_ok h; simp
theorem signT_len {ts : List Tok} (h : signT ts ≠ 0) : ts.tail.length + 1 ≤ ts.length := by
  unfold signT at h
  by_cases h1 : isT [124] ts = true
  · exact isT_len h1
  by_cases h2 : isT [38] ts = true
  · exact isT_len h2
  by_cases h3 : isT [45] ts = true
  · exact isT_len h3
  · rw [if_neg h1, if_neg h2, if_neg h3] at h; exact absurd rfl h
theorem sizes (k : Nat) : (∀ d ts ops r, partT k d ts = some (.ok (ops, r)) → ops.length + r.length ≤ ts.length) ∧
    (∀ d ts ops r, rewT k d ts = some (.ok (ops, r)) → ops.length + r.length ≤ ts.length) ∧
    (∀ d acc ts ops r, rewL k d acc ts = some (.ok (ops, r)) → ops.length + r.length ≤ acc.length + ts.length) := by
  induction k with
  | zero => exact ⟨fun _ _ _ _ h => by simp [partT] at h, fun _ _ _ _ h => by simp [rewT] at h, fun _ _ _ _ _ h => by simp [rewL] at h⟩
  | succ k ih =>
    obtain ⟨i1, i2, i3⟩ := ih
    refine ⟨?_, ?_, ?_⟩
    · intro d ts ops r h
      rw [partT] at h
      by_cases c1 : isT sThis ts = true
      · rw [if_pos c1] at h
        simp only [Option.some.injEq, Except.ok.injEq, Prod.mk.injEq] at h
        obtain ⟨rfl, rfl⟩ := h
        have := isT_len c1
        simp only [List.length_cons, List.length_nil]; omega
      rw [if_neg c1] at h
      by_cases c2 : isT [40] ts = true
      · rw [if_pos c2] at h
        by_cases c3 : d = 8
        · rw [if_pos c3] at h; simp at h
        rw [if_neg c3] at h
        obtain ⟨x, h1, h2⟩ := bnd_ok h
        obtain ⟨y, h3, h4⟩ := bnd_ok h2
        injection h3 with h3
        simp only [Option.some.injEq, Except.ok.injEq, Prod.mk.injEq] at h4
        obtain ⟨rfl, rfl⟩ := h4
        have := isT_len c2
        have := i2 _ _ _ _ h1
        have := needT_len h3
        omega
      rw [if_neg c2] at h
      obtain ⟨x, h1, h2⟩ := bnd_ok h
      injection h1 with h1
      have := nameT_len h1
      split at h2
      · rename_i c3
        obtain ⟨y, h3, h4⟩ := bnd_ok h2
        injection h3 with h3
        simp only [Option.some.injEq, Except.ok.injEq, Prod.mk.injEq] at h4
        obtain ⟨rfl, rfl⟩ := h4
        have := isT_len c3
        have := nameT_len h3
        simp only [List.length_cons, List.length_nil]; omega
      · simp only [Option.some.injEq, Except.ok.injEq, Prod.mk.injEq] at h2
        obtain ⟨rfl, rfl⟩ := h2
        simp only [List.length_cons, List.length_nil]; omega
    · intro d ts ops r h
      rw [rewT] at h
      obtain ⟨x, h1, h2⟩ := bnd_ok h
      have := i1 _ _ _ _ h1
      have := i3 _ _ _ _ _ h2
      omega
    · intro d acc ts ops r h
      rw [rewL] at h
      by_cases c1 : signT ts = 0
      · rw [if_pos c1] at h
        simp only [Option.some.injEq, Except.ok.injEq, Prod.mk.injEq] at h
        obtain ⟨rfl, rfl⟩ := h
        exact Nat.le_refl _
      · rw [if_neg c1] at h
        obtain ⟨x, h1, h2⟩ := bnd_ok h
        have := i1 _ _ _ _ h1
        have h3 := i3 _ _ _ _ _ h2
        have := signT_len c1
        simp only [List.length_append, List.length_cons, List.length_nil] at h3
        omega

end Go.Proofs.YtkgnhghaiopgcaaDoor.Ps
namespace Go.Proofs.YtkgnhghaiopgcaaDoor.Ps
open Go.Proofs.YtkgnhghaiopgcaaDoor.Gl Go.Proofs.YtkgnhghaiopgcaaDoor.X Go.Proofs.YtkgnhghaiopgcaaDoor.Tk Go.Proofs.YtkgnhghaiopgcaaDoor.TkFn Go.Proofs.YtkgnhghaiopgcaaDoor.Tp Go.Proofs.YtkgnhghaiopgcaaDoor.TkKey
theorem tk_last (l : List UInt8) : ∀ p ts, tk l p = .ok ts → ∃ us, ts = us ++ [⟨3, [], p + l.length⟩] ∧ ∀ u ∈ us, (u.kind = 1 ∨ u.kind = 2) ∧ u.text ≠ [] := by
  have hc : ∀ (t : Tok) (r : R) (ts : List Tok) (q : Nat), cons t r = .ok ts → ((t.kind = 1 ∨ t.kind = 2) ∧ t.text ≠ []) → (∀ us, r = .ok us → ∃ vs, us = vs ++ [⟨3, [], q⟩] ∧ ∀ u ∈ vs, (u.kind = 1 ∨ u.kind = 2) ∧ u.text ≠ []) →
      ∃ us, ts = us ++ [⟨3, [], q⟩] ∧ ∀ u ∈ us, (u.kind = 1 ∨ u.kind = 2) ∧ u.text ≠ [] := by
    intro t r ts q h ht hr
    cases r with
    | error e => simp [cons] at h
    | ok us =>
      simp only [cons, Except.ok.injEq] at h
      obtain ⟨vs, rfl, hv⟩ := hr us rfl
      refine ⟨t :: vs, by rw [← h]; rfl, ?_⟩
      intro u hu
      rcases List.mem_cons.1 hu with rfl | hu
      · exact ht
      · exact hv u hu
  induction l using tk_ind with
  | h0 => intro p ts h; rw [tk_nil] at h; injection h with h; exact ⟨[], by rw [← h]; rfl, by simp⟩
  | hb l h hb ih =>
    intro p ts ht; rw [tk_blank h hb] at ht
    have hl : 0 < l.length := List.length_pos_iff.mpr h
    have := ih _ _ ht
    rw [List.length_drop, show p + 1 + (l.length - 1) = p + l.length by omega] at this; exact this
  | hn l h ih =>
    intro p ts ht; rw [tk_note h] at ht
    have hle := noteLen_le l
    have := ih _ _ ht
    rw [List.length_drop, show p + noteLen l + (l.length - noteLen l) = p + l.length by omega] at this; exact this
  | hsl l h h2 => intro p ts ht; rw [tk_slash h h2] at ht; injection ht
  | hs l h hs ih =>
    intro p ts ht; rw [tk_sign h hs] at ht
    have hl : 0 < l.length := List.length_pos_iff.mpr h
    refine hc _ _ _ _ ht ⟨.inr rfl, take_ne_nil h (Nat.le_refl _)⟩ (fun us hu => ?_)
    have := ih _ _ hu
    rw [List.length_drop, show p + 1 + (l.length - 1) = p + l.length by omega] at this; exact this
  | hw l h hc2 ih =>
    intro p ts ht; rw [tk_word h hc2] at ht
    have hle := wlen_le l
    refine hc _ _ _ _ ht ⟨.inl rfl, take_ne_nil (may_ne h) (wlen_pos h)⟩ (fun us hu => ?_)
    have := ih _ _ hu
    rw [List.length_drop, show p + wlen l + (l.length - wlen l) = p + l.length by omega] at this; exact this
  | hlg l h hc2 => intro p ts ht; rw [tk_long h hc2] at ht; injection ht
  | ho l h h1 h2 h3 h4 => intro p ts ht; rw [tk_other h h1 h2 h3 h4] at ht; injection ht

theorem all_last {l : List UInt8} {ts : List Tok} (h : all l = .ok ts) : ∃ us, ts = us ++ [⟨3, [], l.length⟩] ∧ ∀ u ∈ us, (u.kind = 1 ∨ u.kind = 2) ∧ u.text ≠ [] := by
  have := tk_last l 0 ts (all_len h).2.2.2
  rwa [Nat.zero_add] at this


theorem all_ends {l : List UInt8} {ts : List Tok} (h : all l = .ok ts) : EndsT ts := by
  obtain ⟨us, rfl, _⟩ := all_last h
  exact ends_all (l := l)
end Go.Proofs.YtkgnhghaiopgcaaDoor.Ps
