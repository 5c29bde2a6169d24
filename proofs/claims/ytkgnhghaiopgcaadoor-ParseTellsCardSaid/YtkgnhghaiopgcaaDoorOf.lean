/- Schemas as the references have them, and that what a text says is small: plain Lean, no program walked; no condition. -/
import Derived.Test.YtkgnhghaiopgcaaDoorPv
set_option linter.unusedVariables false
set_option linter.unusedSimpArgs false
namespace Go.Proofs.YtkgnhghaiopgcaaDoor.Of
open Go.Proofs.YtkgnhghaiopgcaaDoor.Gl Go.Proofs.YtkgnhghaiopgcaaDoor.X Go.Proofs.YtkgnhghaiopgcaaDoor.Kx Go.Proofs.YtkgnhghaiopgcaaDoor.Tk Go.Proofs.YtkgnhghaiopgcaaDoor.Ps Go.Proofs.YtkgnhghaiopgcaaDoor.Pv

abbrev RS := S113
abbrev RO := S114
abbrev RR := S78
abbrev RT := S74
def toS (x : SS) : RS := ⟨x.f0, x.f1⟩
def toO (x : SO) : RO := ⟨x.f0, x.f1, x.f2⟩
def toR (x : SR) : RR := ⟨x.f0, x.f1, x.f2, x.f3, x.f4.map toS, x.f5.map toO⟩
def toT (x : ST) : RT := ⟨x.f0, x.f1.map toR⟩
def TinyR (r : SR) : Prop := r.f4.length ≤ 4096 ∧ r.f5.length ≤ 4096
def TinyT (t : ST) : Prop := t.f1.length ≤ 4096 ∧ ∀ r ∈ t.f1, TinyR r
def Tiny (X : List ST) : Prop := X.length ≤ 4096 ∧ ∀ t ∈ X, TinyT t
/-- Rows within the reach: what a schema that is read can bear at most. -/
def SmallR (r : SR) : Prop := r.f4.length * 32 ≤ 140737488351232 ∧ r.f5.length * 40 ≤ 140737488351232
def SmallT (t : ST) : Prop := t.f1.length * 112 ≤ 140737488351232 ∧ ∀ r ∈ t.f1, SmallR r
def Small (X : List ST) : Prop := X.length * 40 ≤ 140737488351232 ∧ ∀ t ∈ X, SmallT t
theorem Tiny.small {X : List ST} (h : Tiny X) : Small X :=
  ⟨by have := h.1; omega, fun t ht => ⟨by have := (h.2 t ht).1; omega, fun r hr => by have := (h.2 t ht).2 r hr; unfold TinyR at this; unfold SmallR; omega⟩⟩

theorem sub_len1 {ts : List Tok} {y : SS × List Tok} (h1 : subT ts = .ok y) : y.2.length + 1 ≤ ts.length := by
  unfold subT at h1
  cases hn : nameT ts with
  | error e => rw [hn] at h1; exact absurd h1 (by simp)
  | ok a =>
    obtain ⟨n, r⟩ := a
    have l1 := nameT_len hn
    rw [hn] at h1
    dsimp only at h1
    split at h1
    · rename_i hh
      have l2 := isT_len hh
      cases hn2 : nameT r.tail with
      | error e => rw [hn2] at h1; exact absurd h1 (by simp)
      | ok a2 =>
        obtain ⟨n2, r2⟩ := a2
        have l3 := nameT_len hn2
        rw [hn2] at h1
        simp only [Except.ok.injEq] at h1
        subst h1
        show r2.length + 1 ≤ _
        omega
    · simp only [Except.ok.injEq] at h1
      subst h1
      show r.length + 1 ≤ _
      omega
theorem subs_size : ∀ (k : Nat) (acc : List SS) (ts : List Tok) (x : List SS × List Tok), subsL k acc ts = some (.ok x) → x.1.length + x.2.length ≤ acc.length + ts.length
  | 0, _, _, _, h => absurd h (by simp [subsL])
  | k + 1, acc, ts, x, h => by
    rw [subsL] at h
    obtain ⟨y, h1, h2⟩ := bnd_ok h
    have h3 := sub_len1 (Option.some.inj h1)
    split at h2
    · rename_i hh
      have := subs_size k _ _ _ h2
      have := isT_len hh
      simp only [List.length_append, List.length_cons, List.length_nil] at *
      omega
    · obtain rfl := Except.ok.inj (Option.some.inj h2)
      simp only [List.length_append, List.length_cons, List.length_nil]
      omega
theorem rel_small {k : Nat} {ts : List Tok} {x : SR × List Tok} (h : relT k ts = some (.ok x)) : x.2.length + 1 ≤ ts.length ∧ x.1.f4.length ≤ ts.length ∧ x.1.f5.length ≤ ts.length := by
  have hl := rel_len h
  unfold relT at h
  obtain ⟨a, h1, h⟩ := bnd_ok h
  obtain ⟨t2, h2, h⟩ := bnd_ok h
  obtain ⟨b, h3, h⟩ := bnd_ok h
  obtain ⟨t4, h4, h⟩ := bnd_ok h
  obtain ⟨c, h5, h⟩ := bnd_ok h
  obtain ⟨t6, h6, h⟩ := bnd_ok h
  obtain ⟨d, h7, h⟩ := bnd_ok h
  obtain ⟨t8, h8, h⟩ := bnd_ok h
  obtain ⟨t9, h9, h⟩ := bnd_ok h
  obtain ⟨su, h10, h⟩ := bnd_ok h
  obtain ⟨ops, h11, h⟩ := bnd_ok h
  obtain ⟨t12, h12, h⟩ := bnd_ok h
  obtain rfl := Except.ok.inj (Option.some.inj h)
  have l1 := nameT_len (Option.some.inj h1)
  have l2 := needT_len (Option.some.inj h2)
  have l3 := nameT_len (Option.some.inj h3)
  have l4 := needT_len (Option.some.inj h4)
  have l5 := nameT_len (Option.some.inj h5)
  have l6 := needT_len (Option.some.inj h6)
  have l7 := nameT_len (Option.some.inj h7)
  have l8 := needT_len (Option.some.inj h8)
  have l9 := needT_len (Option.some.inj h9)
  have l10 : su.1.length + su.2.length ≤ t9.length := by
    split at h10
    · have := subs_size _ _ _ _ h10
      simpa using this
    · obtain rfl := Except.ok.inj (Option.some.inj h10)
      simp
  have l11 : ops.1.length ≤ su.2.length + 1 := by
    split at h11
    · rename_i hh
      have l := (sizes k).2.1 _ _ _ _ h11
      have := isT_len hh
      omega
    · obtain rfl := Except.ok.inj (Option.some.inj h11)
      simp
  refine ⟨hl, ?_, ?_⟩
  · show su.1.length ≤ _
    omega
  · show ops.1.length ≤ _
    omega
theorem rels_small (N : Nat) (hN : N ≤ 4096) : ∀ (k : Nat) (acc : List SR) (ts : List Tok) (x : List SR × List Tok), relsL k acc ts = some (.ok x) → ts.length ≤ N → (∀ r ∈ acc, TinyR r) → x.1.length + x.2.length ≤ acc.length + ts.length ∧ ∀ r ∈ x.1, TinyR r
  | 0, _, _, _, h, _, _ => absurd h (by simp [relsL])
  | k + 1, acc, ts, x, h, hl, ha => by
    rw [relsL] at h
    split at h
    · rename_i hh
      obtain ⟨y, h1, h2⟩ := bnd_ok h
      obtain ⟨a1, a2, a3⟩ := rel_small h1
      have := isT_len hh
      obtain ⟨b1, b2⟩ := rels_small N hN k _ _ _ h2 (by omega) (fun r hr => by
        rcases List.mem_append.1 hr with hr | hr
        · exact ha r hr
        · rw [List.mem_singleton] at hr; rw [hr]; exact ⟨by omega, by omega⟩)
      refine ⟨?_, b2⟩
      rw [List.length_append, List.length_singleton] at b1
      omega
    · obtain rfl := Except.ok.inj (Option.some.inj h)
      exact ⟨Nat.le_refl _, ha⟩
theorem type_small {k : Nat} {ts : List Tok} {x : ST × List Tok} (h : typeT k ts = some (.ok x)) (hl : ts.length ≤ 4096) : x.2.length + 1 ≤ ts.length ∧ TinyT x.1 := by
  have hl2 := type_len h
  unfold typeT at h
  obtain ⟨a, h1, h⟩ := bnd_ok h
  obtain ⟨t2, h2, h⟩ := bnd_ok h
  obtain ⟨l, h3, h⟩ := bnd_ok h
  obtain ⟨t4, h4, h⟩ := bnd_ok h
  obtain rfl := Except.ok.inj (Option.some.inj h)
  have l1 := nameT_len (Option.some.inj h1)
  have l2 := needT_len (Option.some.inj h2)
  obtain ⟨b1, b2⟩ := rels_small 4096 (Nat.le_refl _) _ _ _ _ h3 (by omega) (fun _ hr => absurd hr (by simp))
  exact ⟨hl2, by show l.1.length ≤ 4096; simp only [List.length_nil] at b1; omega, b2⟩
theorem types_small : ∀ (k : Nat) (acc : List ST) (ts : List Tok) (x : List ST × List Tok), typesL k acc ts = some (.ok x) → ts.length ≤ 4096 → (∀ t ∈ acc, TinyT t) → x.1.length + x.2.length ≤ acc.length + ts.length ∧ ∀ t ∈ x.1, TinyT t
  | 0, _, _, _, h, _, _ => absurd h (by simp [typesL])
  | k + 1, acc, ts, x, h, hl, ha => by
    rw [typesL] at h
    split at h
    · rename_i hh
      obtain ⟨y, h1, h2⟩ := bnd_ok h
      have := isT_len hh
      obtain ⟨a1, a2⟩ := type_small h1 (by omega)
      obtain ⟨b1, b2⟩ := types_small k _ _ _ h2 (by omega) (fun r hr => by
        rcases List.mem_append.1 hr with hr | hr
        · exact ha r hr
        · rw [List.mem_singleton] at hr; rw [hr]; exact a2)
      refine ⟨?_, b2⟩
      rw [List.length_append, List.length_singleton] at b1
      omega
    · obtain rfl := Except.ok.inj (Option.some.inj h)
      exact ⟨Nat.le_refl _, ha⟩
theorem parse_tiny {l : List UInt8} {X : List ST} (h : parse l = some (.ok X)) : Tiny X := by
  unfold parse at h
  split at h
  · exact absurd h (by simp)
  · rename_i ts ha
    have hl := (TkKey.all_len ha).1
    unfold schemaT at h
    obtain ⟨x, h1, h2⟩ := bnd_ok h
    obtain ⟨b1, b2⟩ := types_small _ _ _ _ h1 (by omega) (fun _ ht => absurd ht (by simp))
    simp only [List.length_nil] at b1
    split at h2
    · exact absurd h2 (by simp)
    · split at h2
      · obtain rfl := Except.ok.inj (Option.some.inj h2)
        exact ⟨by omega, b2⟩
      · exact absurd h2 (by simp)
theorem parse_small {l : List UInt8} {X : List ST} (h : parse l = some (.ok X)) : Small X := (parse_tiny h).small
end Go.Proofs.YtkgnhghaiopgcaaDoor.Of
