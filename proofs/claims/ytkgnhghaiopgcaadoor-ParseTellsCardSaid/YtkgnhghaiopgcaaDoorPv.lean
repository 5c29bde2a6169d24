/- The parser in plain Lean: fuel enough, operations that can be done, places of errors, and what it tells of any text; no program walked; no condition. -/
import Derived.Test.YtkgnhghaiopgcaaDoorPs
set_option linter.unusedVariables false
set_option linter.unusedSimpArgs false
namespace Go.Proofs.YtkgnhghaiopgcaaDoor.Pv
open Go.Proofs.YtkgnhghaiopgcaaDoor.Gl Go.Proofs.YtkgnhghaiopgcaaDoor.X Go.Proofs.YtkgnhghaiopgcaaDoor.Kx Go.Proofs.YtkgnhghaiopgcaaDoor.Tk Go.Proofs.YtkgnhghaiopgcaaDoor.Ps

theorem bnd_ex {α β : Type} {x : Option (Except Er α)} {f : α → Option (Except Er β)} (h : ∃ r, x = some r) (g : ∀ a, x = some (.ok a) → ∃ r, f a = some r) : ∃ r, bnd x f = some r := by
  obtain ⟨r, rfl⟩ := h
  cases r with
  | error e => exact ⟨_, rfl⟩
  | ok a => exact g a rfl
theorem part_len : ∀ (k d : Nat) (ts : List Tok) (x : List SO × List Tok), partT k d ts = some (.ok x) → x.2.length + 1 ≤ ts.length
  | 0, _, _, _, h => absurd h (by simp [partT])
  | k + 1, d, ts, x, h => by
    rw [partT] at h
    by_cases c1 : isT sThis ts = true
    · rw [if_pos c1] at h
      obtain rfl := Except.ok.inj (Option.some.inj h)
      exact isT_len c1
    rw [if_neg c1] at h
    by_cases c2 : isT [40] ts = true
    · rw [if_pos c2] at h
      by_cases c3 : d = 8
      · rw [if_pos c3] at h; exact absurd h (by simp)
      rw [if_neg c3] at h
      obtain ⟨y, h1, h⟩ := bnd_ok h
      obtain ⟨z, h2, h⟩ := bnd_ok h
      obtain rfl := Except.ok.inj (Option.some.inj h)
      have l1 := (sizes k).2.1 _ _ _ _ h1
      have l2 := needT_len (Option.some.inj h2)
      have l3 := isT_len c2
      show z.length + 1 ≤ _
      omega
    rw [if_neg c2] at h
    obtain ⟨y, h1, h⟩ := bnd_ok h
    have l1 := nameT_len (Option.some.inj h1)
    by_cases c4 : isT [46] y.2 = true
    · rw [if_pos c4] at h
      obtain ⟨z, h2, h⟩ := bnd_ok h
      obtain rfl := Except.ok.inj (Option.some.inj h)
      have l2 := nameT_len (Option.some.inj h2)
      have l3 := isT_len c4
      show z.2.length + 1 ≤ _
      omega
    · rw [if_neg c4] at h
      obtain rfl := Except.ok.inj (Option.some.inj h)
      exact l1
theorem fuel (k : Nat) : (∀ d ts, 2 * ts.length + 1 ≤ k → ∃ r, partT k d ts = some r) ∧ (∀ d ts, 2 * ts.length + 2 ≤ k → ∃ r, rewT k d ts = some r) ∧ (∀ d acc ts, 2 * ts.length + 1 ≤ k → ∃ r, rewL k d acc ts = some r) := by
  induction k with
  | zero => exact ⟨fun _ _ h => by omega, fun _ _ h => by omega, fun _ _ _ h => by omega⟩
  | succ k ih =>
    obtain ⟨i1, i2, i3⟩ := ih
    refine ⟨?_, ?_, ?_⟩
    · intro d ts h
      rw [partT]
      split
      · exact ⟨_, rfl⟩
      split
      · rename_i c2
        have l3 := isT_len c2
        split
        · exact ⟨_, rfl⟩
        exact bnd_ex (i2 _ _ (by omega)) (fun x _ => bnd_ex ⟨_, rfl⟩ (fun _ _ => ⟨_, rfl⟩))
      · refine bnd_ex ⟨_, rfl⟩ (fun x _ => ?_)
        split
        · exact bnd_ex ⟨_, rfl⟩ (fun _ _ => ⟨_, rfl⟩)
        · exact ⟨_, rfl⟩
    · intro d ts h
      rw [rewT]
      refine bnd_ex (i1 _ _ (by omega)) (fun x hx => ?_)
      have := part_len _ _ _ _ hx
      exact i3 _ _ _ (by omega)
    · intro d acc ts h
      rw [rewL]
      split
      · exact ⟨_, rfl⟩
      · rename_i c
        have l := signT_len c
        refine bnd_ex (i1 _ _ (by omega)) (fun x hx => ?_)
        have := part_len _ _ _ _ hx
        exact i3 _ _ _ (by omega)
theorem subs_len : ∀ (k : Nat) (acc : List SS) (ts : List Tok) (x : List SS × List Tok), subsL k acc ts = some (.ok x) → x.2.length ≤ ts.length
  | 0, _, _, _, h => absurd h (by simp [subsL])
  | k + 1, acc, ts, x, h => by
    rw [subsL] at h
    obtain ⟨y, h1, h2⟩ := bnd_ok h
    have h3 : y.2.length ≤ ts.length := by
      have h1 := Option.some.inj h1
      unfold subT at h1
      cases hn : nameT ts with
      | error e => rw [hn] at h1; exact absurd h1 (by simp)
      | ok a =>
        obtain ⟨n, r⟩ := a
        have l1 := nameT_len hn
        rw [hn] at h1
        dsimp only at h1
        split at h1
        · rename_i hh
          have l2 := isT_len hh
          cases hn2 : nameT r.tail with
          | error e => rw [hn2] at h1; exact absurd h1 (by simp)
          | ok a2 =>
            obtain ⟨n2, r2⟩ := a2
            have l3 := nameT_len hn2
            rw [hn2] at h1
            simp only [Except.ok.injEq] at h1
            subst h1
            show r2.length ≤ _
            omega
        · simp only [Except.ok.injEq] at h1
          subst h1
          show r.length ≤ _
          omega
    split at h2
    · rename_i hh
      have := subs_len k _ _ _ h2
      have := isT_len hh
      omega
    · obtain rfl := Except.ok.inj (Option.some.inj h2)
      exact h3
theorem sub_len {ts : List Tok} {y : SS × List Tok} (h1 : subT ts = .ok y) : y.2.length ≤ ts.length := by
  have := subs_len 1 [] ts
  unfold subT at h1
  cases hn : nameT ts with
  | error e => rw [hn] at h1; exact absurd h1 (by simp)
  | ok a =>
    obtain ⟨n, r⟩ := a
    have l1 := nameT_len hn
    rw [hn] at h1
    dsimp only at h1
    split at h1
    · rename_i hh
      have l2 := isT_len hh
      cases hn2 : nameT r.tail with
      | error e => rw [hn2] at h1; exact absurd h1 (by simp)
      | ok a2 =>
        obtain ⟨n2, r2⟩ := a2
        have l3 := nameT_len hn2
        rw [hn2] at h1
        simp only [Except.ok.injEq] at h1
        subst h1
        show r2.length ≤ _
        omega
    · simp only [Except.ok.injEq] at h1
      subst h1
      show r.length ≤ _
      omega
theorem subs_fuel : ∀ (k : Nat) (acc : List SS) (ts : List Tok), ts.length + 1 ≤ k → ∃ r, subsL k acc ts = some r
  | 0, _, _, h => by omega
  | k + 1, acc, ts, h => by
    rw [subsL]
    refine bnd_ex ⟨_, rfl⟩ (fun x hx => ?_)
    have l := sub_len (Option.some.inj hx)
    split
    · rename_i hh
      have := isT_len hh
      exact subs_fuel k _ _ (by omega)
    · exact ⟨_, rfl⟩
theorem rel_fuel {k : Nat} {ts : List Tok} (h : 2 * ts.length + 2 ≤ k) : ∃ r, relT k ts = some r := by
  unfold relT
  refine bnd_ex ⟨_, rfl⟩ (fun a h1 => ?_)
  refine bnd_ex ⟨_, rfl⟩ (fun t2 h2 => ?_)
  refine bnd_ex ⟨_, rfl⟩ (fun b h3 => ?_)
  refine bnd_ex ⟨_, rfl⟩ (fun t4 h4 => ?_)
  refine bnd_ex ⟨_, rfl⟩ (fun c h5 => ?_)
  refine bnd_ex ⟨_, rfl⟩ (fun t6 h6 => ?_)
  refine bnd_ex ⟨_, rfl⟩ (fun d h7 => ?_)
  refine bnd_ex ⟨_, rfl⟩ (fun t8 h8 => ?_)
  refine bnd_ex ⟨_, rfl⟩ (fun t9 h9 => ?_)
  have l1 := nameT_len (Option.some.inj h1)
  have l2 := needT_len (Option.some.inj h2)
  have l3 := nameT_len (Option.some.inj h3)
  have l4 := needT_len (Option.some.inj h4)
  have l5 := nameT_len (Option.some.inj h5)
  have l6 := needT_len (Option.some.inj h6)
  have l7 := nameT_len (Option.some.inj h7)
  have l8 := needT_len (Option.some.inj h8)
  have l9 := needT_len (Option.some.inj h9)
  refine bnd_ex ?_ (fun su h10 => ?_)
  · split
    · exact subs_fuel k _ _ (by omega)
    · exact ⟨_, rfl⟩
  have l10 : su.2.length ≤ t9.length := by
    split at h10
    · exact subs_len _ _ _ _ h10
    · obtain rfl := Except.ok.inj (Option.some.inj h10)
      exact Nat.le_refl _
  refine bnd_ex ?_ (fun ops h11 => bnd_ex ⟨_, rfl⟩ (fun _ _ => ⟨_, rfl⟩))
  split
  · rename_i hh
    have := isT_len hh
    exact (fuel k).2.1 _ _ (by omega)
  · exact ⟨_, rfl⟩
theorem rel_len {k : Nat} {ts : List Tok} {x : SR × List Tok} (h : relT k ts = some (.ok x)) : x.2.length + 1 ≤ ts.length := by
  unfold relT at h
  obtain ⟨a, h1, h⟩ := bnd_ok h
  obtain ⟨t2, h2, h⟩ := bnd_ok h
  obtain ⟨b, h3, h⟩ := bnd_ok h
  obtain ⟨t4, h4, h⟩ := bnd_ok h
  obtain ⟨c, h5, h⟩ := bnd_ok h
  obtain ⟨t6, h6, h⟩ := bnd_ok h
  obtain ⟨d, h7, h⟩ := bnd_ok h
  obtain ⟨t8, h8, h⟩ := bnd_ok h
  obtain ⟨t9, h9, h⟩ := bnd_ok h
  obtain ⟨su, h10, h⟩ := bnd_ok h
  obtain ⟨ops, h11, h⟩ := bnd_ok h
  obtain ⟨t12, h12, h⟩ := bnd_ok h
  obtain rfl := Except.ok.inj (Option.some.inj h)
  have l1 := nameT_len (Option.some.inj h1)
  have l2 := needT_len (Option.some.inj h2)
  have l3 := nameT_len (Option.some.inj h3)
  have l4 := needT_len (Option.some.inj h4)
  have l5 := nameT_len (Option.some.inj h5)
  have l6 := needT_len (Option.some.inj h6)
  have l7 := nameT_len (Option.some.inj h7)
  have l8 := needT_len (Option.some.inj h8)
  have l9 := needT_len (Option.some.inj h9)
  have l12 := needT_len (Option.some.inj h12)
  have l10 : su.2.length ≤ t9.length := by
    split at h10
    · exact subs_len _ _ _ _ h10
    · obtain rfl := Except.ok.inj (Option.some.inj h10)
      exact Nat.le_refl _
  have l11 : ops.2.length ≤ su.2.length := by
    split at h11
    · rename_i hh
      have l := (sizes k).2.1 _ _ _ _ h11
      have := isT_len hh
      omega
    · obtain rfl := Except.ok.inj (Option.some.inj h11)
      exact Nat.le_refl _
  show t12.length + 1 ≤ _
  omega
theorem rels_fuel : ∀ (k : Nat) (acc : List SR) (ts : List Tok), 2 * ts.length + 1 ≤ k → ∃ r, relsL k acc ts = some r
  | 0, _, _, h => by omega
  | k + 1, acc, ts, h => by
    rw [relsL]
    split
    · rename_i hh
      have := isT_len hh
      refine bnd_ex (rel_fuel (by omega)) (fun x hx => ?_)
      have := rel_len hx
      exact rels_fuel k _ _ (by omega)
    · exact ⟨_, rfl⟩
theorem rels_len : ∀ (k : Nat) (acc : List SR) (ts : List Tok) (x : List SR × List Tok), relsL k acc ts = some (.ok x) → x.2.length ≤ ts.length
  | 0, _, _, _, h => absurd h (by simp [relsL])
  | k + 1, acc, ts, x, h => by
    rw [relsL] at h
    split at h
    · rename_i hh
      have := isT_len hh
      obtain ⟨y, h1, h2⟩ := bnd_ok h
      have := rel_len h1
      have := rels_len k _ _ _ h2
      omega
    · obtain rfl := Except.ok.inj (Option.some.inj h)
      exact Nat.le_refl _
theorem type_fuel {k : Nat} {ts : List Tok} (h : 2 * ts.length + 1 ≤ k) : ∃ r, typeT k ts = some r := by
  unfold typeT
  refine bnd_ex ⟨_, rfl⟩ (fun a h1 => ?_)
  refine bnd_ex ⟨_, rfl⟩ (fun t2 h2 => ?_)
  have l1 := nameT_len (Option.some.inj h1)
  have l2 := needT_len (Option.some.inj h2)
  exact bnd_ex (rels_fuel k _ _ (by omega)) (fun l _ => bnd_ex ⟨_, rfl⟩ (fun _ _ => ⟨_, rfl⟩))
theorem type_len {k : Nat} {ts : List Tok} {x : ST × List Tok} (h : typeT k ts = some (.ok x)) : x.2.length + 1 ≤ ts.length := by
  unfold typeT at h
  obtain ⟨a, h1, h⟩ := bnd_ok h
  obtain ⟨t2, h2, h⟩ := bnd_ok h
  obtain ⟨l, h3, h⟩ := bnd_ok h
  obtain ⟨t4, h4, h⟩ := bnd_ok h
  obtain rfl := Except.ok.inj (Option.some.inj h)
  have l1 := nameT_len (Option.some.inj h1)
  have l2 := needT_len (Option.some.inj h2)
  have l3 := rels_len _ _ _ _ h3
  have l4 := needT_len (Option.some.inj h4)
  show t4.length + 1 ≤ _
  omega
theorem types_fuel : ∀ (k : Nat) (acc : List ST) (ts : List Tok), 2 * ts.length + 1 ≤ k → ∃ r, typesL k acc ts = some r
  | 0, _, _, h => by omega
  | k + 1, acc, ts, h => by
    rw [typesL]
    split
    · rename_i hh
      have := isT_len hh
      refine bnd_ex (type_fuel (by omega)) (fun x hx => ?_)
      have := type_len hx
      exact types_fuel k _ _ (by omega)
    · exact ⟨_, rfl⟩
theorem schema_fuel {k : Nat} {ts : List Tok} (h : 2 * ts.length + 1 ≤ k) : ∃ r, schemaT k ts = some r := by
  unfold schemaT
  refine bnd_ex (types_fuel k _ _ h) (fun x _ => ?_)
  split
  · exact ⟨_, rfl⟩
  · split
    · exact ⟨_, rfl⟩
    · exact ⟨_, rfl⟩
theorem parse_some (l : List UInt8) : ∃ r, parse l = some r := by
  unfold parse
  split
  · exact ⟨_, rfl⟩
  · exact schema_fuel (by omega)
end Go.Proofs.YtkgnhghaiopgcaaDoor.Pv
namespace Go.Proofs.YtkgnhghaiopgcaaDoor.Px
open Go.Proofs.YtkgnhghaiopgcaaDoor.Gl Go.Proofs.YtkgnhghaiopgcaaDoor.X Go.Proofs.YtkgnhghaiopgcaaDoor.Kx Go.Proofs.YtkgnhghaiopgcaaDoor.Tk Go.Proofs.YtkgnhghaiopgcaaDoor.Ps Go.Proofs.YtkgnhghaiopgcaaDoor.Pv

def Named (ts : List Tok) : Prop := ∀ t ∈ ts, t.kind = 1 → t.text ≠ []
theorem named_tail {ts : List Tok} (h : Named ts) : Named ts.tail := fun t ht => h t (List.mem_of_mem_tail ht)
theorem B_ne {l : List UInt8} (h : l ≠ []) : B l ≠ ⟨#[]⟩ := by
  intro e
  unfold B at e
  injection e with e
  exact h (by simpa using congrArg Array.toList e)
theorem name_named {ts r : List Tok} {n : ByteArray} (h : nameT ts = .ok (n, r)) (hn : Named ts) : Named r ∧ n ≠ ⟨#[]⟩ := by
  obtain ⟨t, rfl, rfl, h1, _⟩ := nameT_ok h
  exact ⟨named_tail hn, B_ne (hn t (List.mem_cons_self ..) h1)⟩
theorem need_named {s : List UInt8} {ts r : List Tok} (h : needT s ts = .ok r) (hn : Named ts) : Named r := by
  obtain ⟨_, rfl⟩ := needT_ok h
  exact named_tail hn
def goodO (o : SO) : Prop := 1 ≤ o.f0 ∧ o.f0 ≤ 6 ∧ (o.f1 ≠ ⟨#[]⟩ ↔ o.f0 = 2 ∨ o.f0 = 3) ∧ (o.f2 ≠ ⟨#[]⟩ ↔ o.f0 = 3)
def stack : Nat → List SO → Option Nat
  | n, [] => some n
  | n, o :: os => if 4 ≤ o.f0 then (if n < 2 then none else stack (n - 1) os) else stack (n + 1) os
theorem stack_append : ∀ (a b : List SO) (n : Nat), stack n (a ++ b) = (stack n a).bind (fun m => stack m b)
  | [], _, _ => rfl
  | o :: os, b, n => by
    rw [List.cons_append, stack, stack]
    split
    · split
      · rfl
      · exact stack_append os b _
    · exact stack_append os b _
def OK (x : List SO) : Prop := (∀ o ∈ x, goodO o) ∧ ∀ m, stack m x = some (m + 1)
theorem ok_one {o : SO} (h : goodO o) (h4 : o.f0 < 4) : OK [o] := by
  refine ⟨fun x hx => by rw [List.mem_singleton] at hx; rw [hx]; exact h, fun m => ?_⟩
  rw [stack, if_neg (by omega)]
  rfl
theorem good_op1 (k : Int) (h1 : k = 1 ∨ 4 ≤ k) (h2 : k ≤ 6) : goodO (op1 k) := by
  have h5 : k ≠ 2 ∧ k ≠ 3 := by omega
  refine ⟨?_, h2, ?_, ?_⟩
  · show 1 ≤ k; omega
  · exact ⟨fun h => absurd rfl h, fun h => by rcases h with h | h; exact absurd h h5.1; exact absurd h h5.2⟩
  · exact ⟨fun h => absurd rfl h, fun h => absurd h h5.2⟩
theorem good_via {a b : ByteArray} (ha : a ≠ ⟨#[]⟩) (hb : b ≠ ⟨#[]⟩) : goodO ⟨3, a, b⟩ :=
  ⟨(by decide : (1 : Int) ≤ 3), (by decide : (3 : Int) ≤ 6), ⟨fun _ => .inr rfl, fun _ => ha⟩, ⟨fun _ => rfl, fun _ => hb⟩⟩
theorem good_same {a : ByteArray} (ha : a ≠ ⟨#[]⟩) : goodO ⟨2, a, ⟨#[]⟩⟩ :=
  ⟨(by decide : (1 : Int) ≤ 2), (by decide : (2 : Int) ≤ 6), ⟨fun _ => .inl rfl, fun _ => ha⟩, ⟨fun h => absurd rfl h, fun h => absurd h (by decide : ¬ (2 : Int) = 3)⟩⟩
theorem ok_join {a b : List SO} {k : Int} (ha : OK a) (hb : OK b) (h4 : 4 ≤ k) (h6 : k ≤ 6) : OK (a ++ b ++ [op1 k]) := by
  refine ⟨fun x hx => ?_, fun m => ?_⟩
  · rw [List.mem_append, List.mem_append, List.mem_singleton] at hx
    rcases hx with (h | h) | h
    · exact ha.1 x h
    · exact hb.1 x h
    · rw [h]; exact good_op1 k (.inr h4) h6
  · rw [stack_append, stack_append, ha.2 m]
    show ((stack (m + 1) b).bind fun n => stack n [op1 k]) = _
    rw [hb.2]
    show stack (m + 1 + 1) [op1 k] = _
    rw [stack, if_pos (show 4 ≤ (op1 k).f0 from h4), if_neg (by omega)]
    rfl
theorem sign_range {ts : List Tok} (h : signT ts ≠ 0) : 4 ≤ signT ts ∧ signT ts ≤ 6 := by
  unfold signT at h ⊢
  split
  · exact ⟨by decide, by decide⟩
  · split
    · exact ⟨by decide, by decide⟩
    · split
      · exact ⟨by decide, by decide⟩
      · rename_i a b c; rw [if_neg a, if_neg b, if_neg c] at h; exact absurd rfl h
theorem ops_ok (k : Nat) : (∀ d ts x, partT k d ts = some (.ok x) → Named ts → Named x.2 ∧ OK x.1) ∧ (∀ d ts x, rewT k d ts = some (.ok x) → Named ts → Named x.2 ∧ OK x.1) ∧
    (∀ d acc ts x, rewL k d acc ts = some (.ok x) → Named ts → OK acc → Named x.2 ∧ OK x.1) := by
  induction k with
  | zero => exact ⟨fun _ _ _ h => by simp [partT] at h, fun _ _ _ h => by simp [rewT] at h, fun _ _ _ _ h => by simp [rewL] at h⟩
  | succ k ih =>
    obtain ⟨i1, i2, i3⟩ := ih
    refine ⟨?_, ?_, ?_⟩
    · intro d ts x h hn
      rw [partT] at h
      by_cases c1 : isT sThis ts = true
      · rw [if_pos c1] at h
        obtain rfl := Except.ok.inj (Option.some.inj h)
        exact ⟨named_tail hn, ok_one (good_op1 1 (.inl rfl) (by decide)) (by decide)⟩
      rw [if_neg c1] at h
      by_cases c2 : isT [40] ts = true
      · rw [if_pos c2] at h
        by_cases c3 : d = 8
        · rw [if_pos c3] at h; exact absurd h (by simp)
        rw [if_neg c3] at h
        obtain ⟨y, h1, h⟩ := bnd_ok h
        obtain ⟨z, h2, h⟩ := bnd_ok h
        obtain rfl := Except.ok.inj (Option.some.inj h)
        obtain ⟨n1, o1⟩ := i2 _ _ _ h1 (named_tail hn)
        exact ⟨need_named (Option.some.inj h2) n1, o1⟩
      rw [if_neg c2] at h
      obtain ⟨y, h1, h⟩ := bnd_ok h
      obtain ⟨n1, e1⟩ := name_named (Option.some.inj h1) hn
      by_cases c4 : isT [46] y.2 = true
      · rw [if_pos c4] at h
        obtain ⟨z, h2, h⟩ := bnd_ok h
        obtain rfl := Except.ok.inj (Option.some.inj h)
        obtain ⟨n2, e2⟩ := name_named (Option.some.inj h2) (named_tail n1)
        exact ⟨n2, ok_one (good_via e1 e2) (by decide : (3 : Int) < 4)⟩
      · rw [if_neg c4] at h
        obtain rfl := Except.ok.inj (Option.some.inj h)
        exact ⟨n1, ok_one (good_same e1) (by decide : (2 : Int) < 4)⟩
    · intro d ts x h hn
      rw [rewT] at h
      obtain ⟨y, h1, h⟩ := bnd_ok h
      obtain ⟨n1, o1⟩ := i1 _ _ _ h1 hn
      exact i3 _ _ _ _ h n1 o1
    · intro d acc ts x h hn ha
      rw [rewL] at h
      by_cases c : signT ts = 0
      · rw [if_pos c] at h
        obtain rfl := Except.ok.inj (Option.some.inj h)
        exact ⟨hn, ha⟩
      · rw [if_neg c] at h
        obtain ⟨y, h1, h⟩ := bnd_ok h
        obtain ⟨n1, o1⟩ := i1 _ _ _ h1 (named_tail hn)
        exact i3 _ _ _ _ h n1 (ok_join ha o1 (sign_range c).1 (sign_range c).2)
theorem sub_named {ts : List Tok} {y : SS × List Tok} (h1 : subT ts = .ok y) (hn : Named ts) : Named y.2 := by
  unfold subT at h1
  cases hk : nameT ts with
  | error e => rw [hk] at h1; exact absurd h1 (by simp)
  | ok a =>
    obtain ⟨n, r⟩ := a
    obtain ⟨n1, _⟩ := name_named hk hn
    rw [hk] at h1
    dsimp only at h1
    split at h1
    · cases hk2 : nameT r.tail with
      | error e => rw [hk2] at h1; exact absurd h1 (by simp)
      | ok a2 =>
        obtain ⟨n2, r2⟩ := a2
        obtain ⟨n3, _⟩ := name_named hk2 (named_tail n1)
        rw [hk2] at h1
        simp only [Except.ok.injEq] at h1
        subst h1
        exact n3
    · simp only [Except.ok.injEq] at h1
      subst h1
      exact n1
theorem subs_named : ∀ (k : Nat) (acc : List SS) (ts : List Tok) (x : List SS × List Tok), subsL k acc ts = some (.ok x) → Named ts → Named x.2
  | 0, _, _, _, h, _ => absurd h (by simp [subsL])
  | k + 1, acc, ts, x, h, hn => by
    rw [subsL] at h
    obtain ⟨y, h1, h2⟩ := bnd_ok h
    have n1 := sub_named (Option.some.inj h1) hn
    split at h2
    · exact subs_named k _ _ _ h2 (named_tail n1)
    · obtain rfl := Except.ok.inj (Option.some.inj h2)
      exact n1
def RelOK (x : SR) : Prop := x.f0 ≠ ⟨#[]⟩ ∧ x.f1 ≠ ⟨#[]⟩ ∧ x.f2 ≠ ⟨#[]⟩ ∧ x.f3 ≠ ⟨#[]⟩ ∧ OK x.f5
theorem rel_ok {k : Nat} {ts : List Tok} {x : SR × List Tok} (h : relT k ts = some (.ok x)) (hn : Named ts) : Named x.2 ∧ RelOK x.1 := by
  unfold relT at h
  obtain ⟨a, h1, h⟩ := bnd_ok h
  obtain ⟨t2, h2, h⟩ := bnd_ok h
  obtain ⟨b, h3, h⟩ := bnd_ok h
  obtain ⟨t4, h4, h⟩ := bnd_ok h
  obtain ⟨c, h5, h⟩ := bnd_ok h
  obtain ⟨t6, h6, h⟩ := bnd_ok h
  obtain ⟨d, h7, h⟩ := bnd_ok h
  obtain ⟨t8, h8, h⟩ := bnd_ok h
  obtain ⟨t9, h9, h⟩ := bnd_ok h
  obtain ⟨su, h10, h⟩ := bnd_ok h
  obtain ⟨ops, h11, h⟩ := bnd_ok h
  obtain ⟨t12, h12, h⟩ := bnd_ok h
  obtain rfl := Except.ok.inj (Option.some.inj h)
  obtain ⟨n1, e1⟩ := name_named (Option.some.inj h1) hn
  have n2 := need_named (Option.some.inj h2) n1
  obtain ⟨n3, e3⟩ := name_named (Option.some.inj h3) n2
  have n4 := need_named (Option.some.inj h4) n3
  obtain ⟨n5, e5⟩ := name_named (Option.some.inj h5) n4
  have n6 := need_named (Option.some.inj h6) n5
  obtain ⟨n7, e7⟩ := name_named (Option.some.inj h7) n6
  have n8 := need_named (Option.some.inj h8) n7
  have n9 := need_named (Option.some.inj h9) n8
  have n10 : Named su.2 := by
    split at h10
    · exact subs_named _ _ _ _ h10 n9
    · obtain rfl := Except.ok.inj (Option.some.inj h10)
      exact n9
  have n11 : Named ops.2 ∧ OK ops.1 := by
    split at h11
    · exact (ops_ok k).2.1 _ _ _ h11 (named_tail n10)
    · obtain rfl := Except.ok.inj (Option.some.inj h11)
      exact ⟨n10, ok_one (good_op1 1 (.inl rfl) (by decide)) (by decide)⟩
  exact ⟨need_named (Option.some.inj h12) n11.1, e1, e3, e5, e7, n11.2⟩
theorem rels_ok : ∀ (k : Nat) (acc : List SR) (ts : List Tok) (x : List SR × List Tok), relsL k acc ts = some (.ok x) → Named ts → (∀ r ∈ acc, RelOK r) → Named x.2 ∧ ∀ r ∈ x.1, RelOK r
  | 0, _, _, _, h, _, _ => absurd h (by simp [relsL])
  | k + 1, acc, ts, x, h, hn, ha => by
    rw [relsL] at h
    split at h
    · obtain ⟨y, h1, h2⟩ := bnd_ok h
      obtain ⟨n1, o1⟩ := rel_ok h1 (named_tail hn)
      refine rels_ok k _ _ _ h2 n1 (fun r hr => ?_)
      rw [List.mem_append, List.mem_singleton] at hr
      rcases hr with hr | hr
      · exact ha r hr
      · rw [hr]; exact o1
    · obtain rfl := Except.ok.inj (Option.some.inj h)
      exact ⟨hn, ha⟩
theorem type_ok {k : Nat} {ts : List Tok} {x : ST × List Tok} (h : typeT k ts = some (.ok x)) (hn : Named ts) : Named x.2 ∧ ∀ r ∈ x.1.f1, RelOK r := by
  unfold typeT at h
  obtain ⟨a, h1, h⟩ := bnd_ok h
  obtain ⟨t2, h2, h⟩ := bnd_ok h
  obtain ⟨l, h3, h⟩ := bnd_ok h
  obtain ⟨t4, h4, h⟩ := bnd_ok h
  obtain rfl := Except.ok.inj (Option.some.inj h)
  have n1 := (name_named (Option.some.inj h1) hn).1
  have n2 := need_named (Option.some.inj h2) n1
  obtain ⟨n3, o3⟩ := rels_ok _ _ _ _ h3 n2 (fun _ hr => absurd hr (by simp))
  exact ⟨need_named (Option.some.inj h4) n3, o3⟩
theorem types_ok : ∀ (k : Nat) (acc : List ST) (ts : List Tok) (x : List ST × List Tok), typesL k acc ts = some (.ok x) → Named ts → (∀ t ∈ acc, ∀ r ∈ t.f1, RelOK r) → ∀ t ∈ x.1, ∀ r ∈ t.f1, RelOK r
  | 0, _, _, _, h, _, _ => absurd h (by simp [typesL])
  | k + 1, acc, ts, x, h, hn, ha => by
    rw [typesL] at h
    split at h
    · obtain ⟨y, h1, h2⟩ := bnd_ok h
      obtain ⟨n1, o1⟩ := type_ok h1 (named_tail hn)
      refine types_ok k _ _ _ h2 n1 (fun t ht => ?_)
      rw [List.mem_append, List.mem_singleton] at ht
      rcases ht with ht | ht
      · exact ha t ht
      · rw [ht]; exact o1
    · obtain rfl := Except.ok.inj (Option.some.inj h)
      exact ha
theorem schema_ok {k : Nat} {ts : List Tok} {X : List ST} (h : schemaT k ts = some (.ok X)) (hn : Named ts) : ∀ t ∈ X, ∀ r ∈ t.f1, RelOK r := by
  unfold schemaT at h
  obtain ⟨x, h1, h2⟩ := bnd_ok h
  split at h2
  · exact absurd h2 (by simp)
  · split at h2
    · obtain rfl := Except.ok.inj (Option.some.inj h2)
      exact types_ok _ _ _ _ h1 hn (fun _ ht => absurd ht (by simp))
    · exact absurd h2 (by simp)
end Go.Proofs.YtkgnhghaiopgcaaDoor.Px
namespace Go.Proofs.YtkgnhghaiopgcaaDoor.Py
open Go.Proofs.YtkgnhghaiopgcaaDoor.Gl Go.Proofs.YtkgnhghaiopgcaaDoor.X Go.Proofs.YtkgnhghaiopgcaaDoor.Kx Go.Proofs.YtkgnhghaiopgcaaDoor.Tk Go.Proofs.YtkgnhghaiopgcaaDoor.Ps Go.Proofs.YtkgnhghaiopgcaaDoor.Pv

variable {Q : List Tok → Prop}
/-- An error is none of api's OK, and is where some row of tokens with Q begins. -/
def Er1 (Q : List Tok → Prop) (e : Er) : Prop := (e.1 = 30 ∨ e.1 = 13) ∧ ∃ ts, Q ts ∧ e.2 = atT ts
def W {β : Type} (Q : List Tok → Prop) (g : β → List Tok) (y : Option (Except Er β)) : Prop := (∀ e, y = some (.error e) → Er1 Q e) ∧ ∀ b, y = some (.ok b) → Q (g b)
theorem W_bnd {α β : Type} {x : Option (Except Er α)} {f : α → Option (Except Er β)} {g : α → List Tok} {g' : β → List Tok} (h : W Q g x) (k : ∀ a, Q (g a) → W Q g' (f a)) : W Q g' (bnd x f) := by
  cases x with
  | none => exact ⟨fun _ e => absurd e (by simp [bnd]), fun _ e => absurd e (by simp [bnd])⟩
  | some y =>
    cases y with
    | error e => exact ⟨fun e' he => by obtain rfl := Except.error.inj (Option.some.inj he); exact h.1 _ rfl, fun _ e => absurd e (by simp [bnd])⟩
    | ok a => exact k a (h.2 a rfl)
theorem W_ok {β : Type} {g : β → List Tok} {b : β} (h : Q (g b)) : W Q g (some (.ok b)) :=
  ⟨fun _ e => absurd e (by simp), fun _ e => by obtain rfl := Except.ok.inj (Option.some.inj e); exact h⟩
theorem W_none {β : Type} {g : β → List Tok} : W Q g none := ⟨fun _ e => absurd e (by simp), fun _ e => absurd e (by simp)⟩
theorem W_err {β : Type} {g : β → List Tok} {n : Int} {ts : List Tok} (hn : n = 30 ∨ n = 13) (h : Q ts) : W Q g (some (.error (n, atT ts)) : Option (Except Er β)) :=
  ⟨fun _ e => by obtain rfl := Except.error.inj (Option.some.inj e); exact ⟨hn, ts, h, rfl⟩, fun _ e => absurd e (by simp)⟩
theorem nameW (hQ : ∀ ts, Q ts → Q ts.tail) {ts : List Tok} (h : Q ts) : W Q (fun x => x.2) (some (nameT ts)) := by
  cases ts with
  | nil => exact W_err (ts := []) (.inl rfl) h
  | cons t r =>
    show W Q _ (some (if t.kind = 1 ∧ TkKey.key t.text = false then .ok (B t.text, r) else .error (30, t.at_)))
    split
    · exact W_ok (hQ _ h)
    · exact W_err (ts := t :: r) (.inl rfl) h
theorem needW (hQ : ∀ ts, Q ts → Q ts.tail) {s : List UInt8} {ts : List Tok} (h : Q ts) : W Q (fun x => x) (some (needT s ts)) := by
  unfold needT
  split
  · exact W_ok (hQ _ h)
  · exact W_err (.inl rfl) h
theorem opsW (hQ : ∀ ts, Q ts → Q ts.tail) (k : Nat) : (∀ d ts, Q ts → W Q (fun x => x.2) (partT k d ts)) ∧ (∀ d ts, Q ts → W Q (fun x => x.2) (rewT k d ts)) ∧ (∀ d acc ts, Q ts → W Q (fun x => x.2) (rewL k d acc ts)) := by
  induction k with
  | zero => exact ⟨fun _ _ _ => by rw [partT]; exact W_none, fun _ _ _ => by rw [rewT]; exact W_none, fun _ _ _ _ => by rw [rewL]; exact W_none⟩
  | succ k ih =>
    obtain ⟨i1, i2, i3⟩ := ih
    refine ⟨?_, ?_, ?_⟩
    · intro d ts h
      rw [partT]
      split
      · exact W_ok (hQ _ h)
      split
      · split
        · exact W_err (.inr rfl) h
        · exact W_bnd (i2 _ _ (hQ _ h)) (fun x hx => W_bnd (needW hQ hx) (fun r hr => W_ok hr))
      · refine W_bnd (nameW hQ h) (fun x hx => ?_)
        split
        · exact W_bnd (nameW hQ (hQ _ hx)) (fun y hy => W_ok hy)
        · exact W_ok hx
    · intro d ts h
      rw [rewT]
      exact W_bnd (i1 _ _ h) (fun x hx => i3 _ _ _ hx)
    · intro d acc ts h
      rw [rewL]
      split
      · exact W_ok h
      · exact W_bnd (i1 _ _ (hQ _ h)) (fun x hx => i3 _ _ _ hx)
theorem subW (hQ : ∀ ts, Q ts → Q ts.tail) {ts : List Tok} (h : Q ts) : W Q (fun x => x.2) (some (subT ts)) := by
  unfold subT
  have h1 := nameW hQ h
  cases hn : nameT ts with
  | error e => rw [hn] at h1; exact ⟨fun e' he => by obtain rfl := Except.error.inj (Option.some.inj he); exact h1.1 _ rfl, fun _ e => absurd e (by simp)⟩
  | ok a =>
    rw [hn] at h1
    have hq := h1.2 _ rfl
    dsimp only
    split
    · have h2 := nameW hQ (hQ _ hq)
      cases hn2 : nameT a.2.tail with
      | error e => rw [hn2] at h2; exact ⟨fun e' he => by obtain rfl := Except.error.inj (Option.some.inj he); exact h2.1 _ rfl, fun _ e => absurd e (by simp)⟩
      | ok b => rw [hn2] at h2; exact W_ok (h2.2 _ rfl)
    · exact W_ok hq
theorem subsW (hQ : ∀ ts, Q ts → Q ts.tail) : ∀ (k : Nat) (acc : List SS) (ts : List Tok), Q ts → W Q (fun x => x.2) (subsL k acc ts)
  | 0, _, _, _ => by rw [subsL]; exact W_none
  | k + 1, acc, ts, h => by
    rw [subsL]
    refine W_bnd (subW hQ h) (fun x hx => ?_)
    split
    · exact subsW hQ k _ _ (hQ _ hx)
    · exact W_ok hx
theorem relW (hQ : ∀ ts, Q ts → Q ts.tail) {k : Nat} {ts : List Tok} (h : Q ts) : W Q (fun x => x.2) (relT k ts) := by
  unfold relT
  refine W_bnd (nameW hQ h) (fun a h => W_bnd (needW hQ h) (fun t2 h => W_bnd (nameW hQ h) (fun b h => W_bnd (needW hQ h) (fun t4 h => W_bnd (nameW hQ h) (fun c h => W_bnd (needW hQ h) (fun t6 h => W_bnd (nameW hQ h) (fun d h => W_bnd (needW hQ h) (fun t8 h => W_bnd (needW hQ h) (fun t9 h => W_bnd (g := fun x => x.2) ?_ (fun su h => W_bnd (g := fun x => x.2) ?_ (fun ops h => W_bnd (needW hQ h) (fun t12 h => W_ok h))))))))))))
  · split
    · exact subsW hQ k _ _ h
    · exact W_ok h
  · split
    · exact (opsW hQ k).2.1 _ _ (hQ _ h)
    · exact W_ok h
theorem relsW (hQ : ∀ ts, Q ts → Q ts.tail) : ∀ (k : Nat) (acc : List SR) (ts : List Tok), Q ts → W Q (fun x => x.2) (relsL k acc ts)
  | 0, _, _, _ => by rw [relsL]; exact W_none
  | k + 1, acc, ts, h => by
    rw [relsL]
    split
    · exact W_bnd (relW hQ (hQ _ h)) (fun x hx => relsW hQ k _ _ hx)
    · exact W_ok h
theorem typeW (hQ : ∀ ts, Q ts → Q ts.tail) {k : Nat} {ts : List Tok} (h : Q ts) : W Q (fun x => x.2) (typeT k ts) := by
  unfold typeT
  exact W_bnd (nameW hQ h) (fun a h => W_bnd (needW hQ h) (fun t2 h => W_bnd (relsW hQ k _ _ h) (fun l h => W_bnd (needW hQ h) (fun t4 h => W_ok h))))
theorem typesW (hQ : ∀ ts, Q ts → Q ts.tail) : ∀ (k : Nat) (acc : List ST) (ts : List Tok), Q ts → W Q (fun x => x.2) (typesL k acc ts)
  | 0, _, _, _ => by rw [typesL]; exact W_none
  | k + 1, acc, ts, h => by
    rw [typesL]
    split
    · exact W_bnd (typeW hQ (hQ _ h)) (fun x hx => typesW hQ k _ _ hx)
    · exact W_ok h
theorem schemaW (hQ : ∀ ts, Q ts → Q ts.tail) {k : Nat} {ts : List Tok} (h : Q ts) {e : Er} (he : schemaT k ts = some (.error e)) : Er1 Q e := by
  have : W Q (fun _ => ts) (schemaT k ts) := by
    unfold schemaT
    refine W_bnd (typesW hQ k _ _ h) (fun x hx => ?_)
    split
    · rename_i h0
      exact W_err (ts := []) (.inl rfl) (h0 ▸ hx)
    · rename_i t r h0
      split
      · exact W_ok h
      · exact W_err (ts := t :: r) (.inl rfl) (h0 ▸ hx)
  exact this.1 e he
theorem tk_at (l : List UInt8) : ∀ p ts, tk l p = .ok ts → ∀ t ∈ ts, t.at_ ≤ p + l.length := by
  have hc : ∀ (t : Tok) (r : R) (ts : List Tok) (m : Nat), cons t r = .ok ts → t.at_ ≤ m → (∀ us, r = .ok us → ∀ u ∈ us, u.at_ ≤ m) → ∀ u ∈ ts, u.at_ ≤ m := by
    intro t r ts m h ht hu
    cases r with
    | error e => simp [cons] at h
    | ok us =>
      simp only [cons, Except.ok.injEq] at h
      rw [← h]
      intro u hm
      rcases List.mem_cons.1 hm with rfl | hm
      · exact ht
      · exact hu us rfl u hm
  induction l using tk_ind with
  | h0 => intro p ts h; rw [tk_nil] at h; injection h with h; rw [← h]; intro t ht; rw [List.mem_singleton] at ht; rw [ht]; exact Nat.le_refl _
  | hb l h hb ih =>
    intro p ts ht; rw [tk_blank h hb] at ht
    intro t hm
    have := ih _ _ ht t hm; have := len_ne h
    simp only [List.length_drop] at *; omega
  | hn l h ih =>
    intro p ts ht; rw [tk_note h] at ht
    intro t hm
    have := ih _ _ ht t hm
    have := noteLen_le l
    simp only [List.length_drop] at *; omega
  | hsl l h h2 => intro p ts ht; rw [tk_slash h h2] at ht; injection ht
  | hs l h hs ih =>
    intro p ts ht; rw [tk_sign h hs] at ht
    refine hc _ _ _ _ ht (Nat.le_add_right _ _) (fun us hus u hu => ?_)
    have := ih _ _ hus u hu; have := len_ne h
    simp only [List.length_drop] at *; omega
  | hw l h hc2 ih =>
    intro p ts ht; rw [tk_word h hc2] at ht
    refine hc _ _ _ _ ht (Nat.le_add_right _ _) (fun us hus u hu => ?_)
    have := ih _ _ hus u hu
    have := wlen_le l
    simp only [List.length_drop] at *; omega
  | hlg l h hc2 => intro p ts ht; rw [tk_long h hc2] at ht; injection ht
  | ho l h h1 h2 h3 h4 => intro p ts ht; rw [tk_other h h1 h2 h3 h4] at ht; injection ht
end Go.Proofs.YtkgnhghaiopgcaaDoor.Py
namespace Go.Proofs.YtkgnhghaiopgcaaDoor.Pz
open Go.Proofs.YtkgnhghaiopgcaaDoor.Gl Go.Proofs.YtkgnhghaiopgcaaDoor.X Go.Proofs.YtkgnhghaiopgcaaDoor.Kx Go.Proofs.YtkgnhghaiopgcaaDoor.Tk Go.Proofs.YtkgnhghaiopgcaaDoor.Ps Go.Proofs.YtkgnhghaiopgcaaDoor.Pv Go.Proofs.YtkgnhghaiopgcaaDoor.Px Go.Proofs.YtkgnhghaiopgcaaDoor.Py

theorem all_named {l : List UInt8} {ts : List Tok} (h : all l = .ok ts) : Named ts := by
  obtain ⟨us, rfl, hu⟩ := Ps.all_last h
  intro t ht hk
  rcases List.mem_append.1 ht with ht | ht
  · exact (hu t ht).2
  · rw [List.mem_singleton] at ht
    rw [ht] at hk
    exact absurd hk (by decide : ¬ (3 : Int) = 1)
theorem parse_ok {l : List UInt8} {X : List ST} (h : parse l = some (.ok X)) : ∀ t ∈ X, ∀ r ∈ t.f1, RelOK r := by
  unfold parse at h
  split at h
  · exact absurd h (by simp)
  · rename_i ts ha
    exact schema_ok h (all_named ha)
theorem parse_err {l : List UInt8} {e : Er} (h : parse l = some (.error e)) (hl : l.length ≤ 2048) : e.1 ≠ 0 ∧ e.2 ≤ l.length := by
  unfold parse at h
  split at h
  · rename_i e' ha
    obtain rfl := Except.error.inj (Option.some.inj h)
    obtain ⟨en, p⟩ := e'
    rcases TkKey.all_err_ne ha with ⟨rfl, h2⟩ | ⟨rfl, _, h2⟩ | ⟨h1, _, h2⟩
    · omega
    · exact ⟨(by decide : (11 : Int) ≠ 0), Nat.le_of_lt h2⟩
    · refine ⟨?_, Nat.le_of_lt h2⟩
      show en ≠ 0
      omega
  · rename_i ts ha
    have hat : ∀ t ∈ ts, t.at_ ≤ l.length := by
      intro t ht
      have := tk_at l 0 ts (TkKey.all_len ha).2.2.2 t ht
      omega
    obtain ⟨h1, us, h2, h3⟩ := schemaW (Q := fun us => ∀ t ∈ us, t.at_ ≤ l.length) (fun us hu t ht => hu t (List.mem_of_mem_tail ht)) hat h
    refine ⟨by omega, ?_⟩
    rw [h3]
    cases us with
    | nil => exact Nat.zero_le _
    | cons t r => exact h2 t (List.mem_cons_self ..)
end Go.Proofs.YtkgnhghaiopgcaaDoor.Pz
