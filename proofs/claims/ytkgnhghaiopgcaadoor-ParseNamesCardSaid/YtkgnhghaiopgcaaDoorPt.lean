/- What texts say that are told, or that stand behind each other: plain Lean, no program walked; no condition. -/
import Derived.Test.YtkgnhghaiopgcaaDoorPs
import Derived.Test.YtkgnhghaiopgcaaDoorPk
import Derived.Test.YtkgnhghaiopgcaaDoorPv
import Derived.Test.YtkgnhghaiopgcaaDoorTk
set_option linter.unusedVariables false
set_option linter.unusedSimpArgs false
namespace Go.Proofs.YtkgnhghaiopgcaaDoor.Pt
open Go.Proofs.YtkgnhghaiopgcaaDoor.Gl Go.Proofs.YtkgnhghaiopgcaaDoor.X Go.Proofs.YtkgnhghaiopgcaaDoor.Kx Go.Proofs.YtkgnhghaiopgcaaDoor.Tk Go.Proofs.YtkgnhghaiopgcaaDoor.Tp Go.Proofs.YtkgnhghaiopgcaaDoor.Ps
def awakeT : List UInt8 := [116, 121, 112, 101, 32, 100, 111, 99, 32, 123, 32, 114, 101, 108, 32, 114, 32, 40, 118, 44, 32, 101, 44, 32, 99, 41, 58, 32, 117, 115, 101, 114, 44, 32, 103, 114, 111, 117, 112, 35, 109, 32, 105, 115, 32, 116, 104, 105, 115, 32, 124, 32, 97, 46, 98, 32, 45, 32, 99, 59, 32, 125]
theorem awake1 : parse awakeT = some (.ok [⟨⟨#[100, 111, 99]⟩, [⟨b1 114, b1 118, b1 101, b1 99, [⟨⟨#[117, 115, 101, 114]⟩, ⟨#[]⟩⟩, ⟨⟨#[103, 114, 111, 117, 112]⟩, b1 109⟩], [op1 1, ⟨3, b1 97, b1 98⟩, op1 4, ⟨2, b1 99, ⟨#[]⟩⟩, op1 6]⟩]⟩]) := by
  exact parse_lex (k := 100) (ts := (lexA 100 awakeT 0).getD []) (by decide +kernel) (by decide) (by kernel_rfl)
theorem awake2 : parse [116, 121, 112, 101, 32, 100, 111, 99, 32, 123, 32, 114, 101, 108] = some (.error (30, 14)) := by
  exact parse_lex (k := 100) (ts := (lexA 100 [116, 121, 112, 101, 32, 100, 111, 99, 32, 123, 32, 114, 101, 108] 0).getD []) (by decide +kernel) (by decide) (by kernel_rfl)
end Go.Proofs.YtkgnhghaiopgcaaDoor.Pt
namespace Go.Proofs.YtkgnhghaiopgcaaDoor.Pl
open Go.Proofs.YtkgnhghaiopgcaaDoor.Gl Go.Proofs.YtkgnhghaiopgcaaDoor.X Go.Proofs.YtkgnhghaiopgcaaDoor.Kx Go.Proofs.YtkgnhghaiopgcaaDoor.Tk Go.Proofs.YtkgnhghaiopgcaaDoor.Tp Go.Proofs.YtkgnhghaiopgcaaDoor.Ps Go.Proofs.YtkgnhghaiopgcaaDoor.Pv

/-- Rows alike but for places, and for what stands in the place of the end. -/
def Rz (E : Tok) (Z ts ts' : List Tok) : Prop := ∃ us us', ts = us ++ [E] ∧ ts' = us' ++ Z ∧ us.map (fun t => (t.kind, t.text)) = us'.map (fun t => (t.kind, t.text)) ∧ ∀ u ∈ us, u.kind ≠ 3
structure EZ (E : Tok) (Z : List Tok) : Prop where
  k : E.kind = 3
  t : E.text = []
  z : ∃ z r, Z = z :: r ∧ (z.text = [] ∨ z.text = sType)
variable {E : Tok} {Z : List Tok}
theorem Rz_cases {ts ts' : List Tok} (h : Rz E Z ts ts') : (ts = [E] ∧ ts' = Z) ∨ ∃ t t' r r', ts = t :: r ∧ ts' = t' :: r' ∧ t.kind = t'.kind ∧ t.text = t'.text ∧ Rz E Z r r' := by
  obtain ⟨us, us', rfl, rfl, h, h3⟩ := h
  cases us with
  | nil =>
    cases us' with
    | nil => exact .inl ⟨rfl, rfl⟩
    | cons _ _ => simp at h
  | cons u us =>
    cases us' with
    | nil => simp at h
    | cons u' us' =>
      simp only [List.map_cons, List.cons.injEq, Prod.mk.injEq] at h
      exact .inr ⟨u, u', _, _, rfl, rfl, h.1.1, h.1.2, us, us', rfl, rfl, h.2, fun v hv => h3 v (List.mem_cons_of_mem _ hv)⟩
theorem isT_end (hz : EZ E Z) {s : List UInt8} (h1 : s ≠ []) : isT s [E] = false := by
  simp only [isT, hz.t, Bool.and_eq_false_iff]
  exact .inl (decide_eq_false fun e => h1 e.symm)
theorem isT_Z (hz : EZ E Z) {s : List UInt8} (h1 : s ≠ []) (h2 : s ≠ sType) : isT s Z = false := by
  obtain ⟨z, r, rfl, hz'⟩ := hz.z
  simp only [isT, Bool.and_eq_false_iff]
  refine .inl (decide_eq_false fun e => ?_)
  rcases hz' with h | h
  · exact h1 (e.symm.trans h)
  · exact h2 (e.symm.trans h)
theorem isT_R (hz : EZ E Z) {s : List UInt8} (h1 : s ≠ []) (h2 : s ≠ sType) {ts ts' : List Tok} (h : Rz E Z ts ts') : isT s ts' = isT s ts ∧ (isT s ts = true → Rz E Z ts.tail ts'.tail) := by
  rcases Rz_cases h with ⟨rfl, rfl⟩ | ⟨t, t', r, r', rfl, rfl, k, x, hr⟩
  · have a := isT_end hz h1
    exact ⟨by rw [a, isT_Z hz h1 h2], fun e => by rw [a] at e; exact absurd e (by decide)⟩
  · exact ⟨by simp [isT, k, x], fun _ => hr⟩
def MM {β : Type} (Q : β → β → Prop) (y y' : Option (Except Er β)) : Prop := ∀ b, y = some (.ok b) → ∃ b', y' = some (.ok b') ∧ Q b b'
theorem MM_bnd {α β : Type} {Q : α → α → Prop} {Q' : β → β → Prop} {x x' : Option (Except Er α)} {f f' : α → Option (Except Er β)} (h : MM Q x x') (k : ∀ a a', Q a a' → MM Q' (f a) (f' a')) : MM Q' (bnd x f) (bnd x' f') := by
  intro b hb
  obtain ⟨a, ha, hf⟩ := bnd_ok hb
  obtain ⟨a', ha', hq⟩ := h a ha
  rw [ha']
  exact k a a' hq b hf
theorem MM_ok {β : Type} {Q : β → β → Prop} {b b' : β} (h : Q b b') : MM Q (some (.ok b)) (some (.ok b')) := fun c hc => by
  obtain rfl := Except.ok.inj (Option.some.inj hc); exact ⟨_, rfl, h⟩
theorem MM_err {β : Type} {Q : β → β → Prop} {e : Er} {y' : Option (Except Er β)} : MM Q (some (.error e)) y' := fun c hc => absurd hc (by simp)
theorem MM_none {β : Type} {Q : β → β → Prop} {y' : Option (Except Er β)} : MM Q none y' := fun c hc => absurd hc (by simp)
def Qp {α : Type} (E : Tok) (Z : List Tok) (b b' : α × List Tok) : Prop := b.1 = b'.1 ∧ Rz E Z b.2 b'.2
theorem nameM (hz : EZ E Z) {ts ts' : List Tok} (h : Rz E Z ts ts') : MM (Qp E Z) (some (nameT ts)) (some (nameT ts')) := by
  rcases Rz_cases h with ⟨rfl, rfl⟩ | ⟨t, t', r, r', rfl, rfl, k, x, hr⟩
  · have : nameT [E] = .error (30, E.at_) := by simp [nameT, hz.k]
    rw [this]; exact MM_err
  · simp only [nameT, k, x]
    split
    · exact MM_ok ⟨rfl, hr⟩
    · exact MM_err
theorem needM (hz : EZ E Z) {s : List UInt8} (h1 : s ≠ []) (h2 : s ≠ sType) {ts ts' : List Tok} (h : Rz E Z ts ts') : MM (Rz E Z) (some (needT s ts)) (some (needT s ts')) := by
  obtain ⟨a, b⟩ := isT_R hz h1 h2 h
  unfold needT
  rw [a]
  split
  · rename_i hc; exact MM_ok (b hc)
  · exact MM_err
theorem sign_R (hz : EZ E Z) {ts ts' : List Tok} (h : Rz E Z ts ts') : signT ts' = signT ts ∧ (signT ts ≠ 0 → Rz E Z ts.tail ts'.tail) := by
  obtain ⟨a1, b1⟩ := isT_R hz (s := [124]) (by decide) (by decide) h
  obtain ⟨a2, b2⟩ := isT_R hz (s := [38]) (by decide) (by decide) h
  obtain ⟨a3, b3⟩ := isT_R hz (s := [45]) (by decide) (by decide) h
  refine ⟨by unfold signT; rw [a1, a2, a3], fun hs => ?_⟩
  unfold signT at hs
  by_cases c1 : isT [124] ts = true
  · exact b1 c1
  by_cases c2 : isT [38] ts = true
  · exact b2 c2
  by_cases c3 : isT [45] ts = true
  · exact b3 c3
  rw [if_neg c1, if_neg c2, if_neg c3] at hs
  exact absurd rfl hs
theorem opsM (hz : EZ E Z) (k : Nat) : (∀ k' d ts ts', k ≤ k' → Rz E Z ts ts' → MM (Qp E Z) (partT k d ts) (partT k' d ts')) ∧ (∀ k' d ts ts', k ≤ k' → Rz E Z ts ts' → MM (Qp E Z) (rewT k d ts) (rewT k' d ts')) ∧
    (∀ k' d acc ts ts', k ≤ k' → Rz E Z ts ts' → MM (Qp E Z) (rewL k d acc ts) (rewL k' d acc ts')) := by
  induction k with
  | zero => exact ⟨fun _ _ _ _ _ _ => by rw [partT]; exact MM_none, fun _ _ _ _ _ _ => by rw [rewT]; exact MM_none, fun _ _ _ _ _ _ _ => by rw [rewL]; exact MM_none⟩
  | succ k ih =>
    obtain ⟨i1, i2, i3⟩ := ih
    refine ⟨?_, ?_, ?_⟩
    · intro k' d ts ts' hk h
      obtain ⟨k', rfl⟩ : ∃ j, k' = j + 1 := ⟨k' - 1, by omega⟩
      obtain ⟨a1, b1⟩ := isT_R hz (s := sThis) (by decide) (by decide) h
      obtain ⟨a2, b2⟩ := isT_R hz (s := [40]) (by decide) (by decide) h
      rw [partT, partT, a1, a2]
      split
      · rename_i hc; exact MM_ok ⟨rfl, b1 hc⟩
      split
      · rename_i _ hc
        split
        · exact MM_err
        · refine MM_bnd (i2 _ _ _ _ (by omega) (b2 hc)) (fun x x' hx => ?_)
          refine MM_bnd (needM hz (by decide) (by decide) hx.2) (fun r r' hr => ?_)
          rw [hx.1]
          exact MM_ok ⟨rfl, hr⟩
      · refine MM_bnd (nameM hz h) (fun x x' hx => ?_)
        obtain ⟨a3, b3⟩ := isT_R hz (s := [46]) (by decide) (by decide) hx.2
        rw [a3, hx.1]
        split
        · rename_i hc
          refine MM_bnd (nameM hz (b3 hc)) (fun y y' hy => ?_)
          rw [hy.1]
          exact MM_ok ⟨rfl, hy.2⟩
        · exact MM_ok ⟨rfl, hx.2⟩
    · intro k' d ts ts' hk h
      obtain ⟨k', rfl⟩ : ∃ j, k' = j + 1 := ⟨k' - 1, by omega⟩
      rw [rewT, rewT]
      refine MM_bnd (i1 _ _ _ _ (by omega) h) (fun x x' hx => ?_)
      rw [hx.1]
      exact i3 _ _ _ _ _ (by omega) hx.2
    · intro k' d acc ts ts' hk h
      obtain ⟨k', rfl⟩ : ∃ j, k' = j + 1 := ⟨k' - 1, by omega⟩
      obtain ⟨a1, b1⟩ := sign_R hz h
      rw [rewL, rewL, a1]
      split
      · exact MM_ok ⟨rfl, h⟩
      · rename_i hc
        refine MM_bnd (i1 _ _ _ _ (by omega) (b1 hc)) (fun x x' hx => ?_)
        rw [hx.1]
        exact i3 _ _ _ _ _ (by omega) hx.2
theorem subM (hz : EZ E Z) {ts ts' : List Tok} (h : Rz E Z ts ts') : MM (Qp E Z) (some (subT ts)) (some (subT ts')) := by
  have e : ∀ ts, some (subT ts) = bnd (some (nameT ts)) fun x => if isT [35] x.2 = true then bnd (some (nameT x.2.tail)) fun y => some (.ok ((⟨x.1, y.1⟩ : SS), y.2)) else some (.ok ((⟨x.1, ⟨#[]⟩⟩ : SS), x.2)) := by
    intro ts
    unfold subT
    cases nameT ts with
    | error e => rfl
    | ok x =>
      show some (if isT [35] x.2 = true then _ else _) = if isT [35] x.2 = true then _ else _
      split
      · cases nameT x.2.tail <;> rfl
      · rfl
  rw [e, e]
  refine MM_bnd (nameM hz h) (fun x x' hx => ?_)
  obtain ⟨a3, b3⟩ := isT_R hz (s := [35]) (by decide) (by decide) hx.2
  rw [a3, hx.1]
  split
  · rename_i hc
    refine MM_bnd (nameM hz (b3 hc)) (fun y y' hy => ?_)
    rw [hy.1]
    exact MM_ok ⟨rfl, hy.2⟩
  · exact MM_ok ⟨rfl, hx.2⟩
theorem subsM (hz : EZ E Z) : ∀ (k k' : Nat) (acc : List SS) (ts ts' : List Tok), k ≤ k' → Rz E Z ts ts' → MM (Qp E Z) (subsL k acc ts) (subsL k' acc ts')
  | 0, _, _, _, _, _, _ => by rw [subsL]; exact MM_none
  | k + 1, k', acc, ts, ts', hk, h => by
    obtain ⟨k', rfl⟩ : ∃ j, k' = j + 1 := ⟨k' - 1, by omega⟩
    rw [subsL, subsL]
    refine MM_bnd (subM hz h) (fun x x' hx => ?_)
    obtain ⟨a3, b3⟩ := isT_R hz (s := [44]) (by decide) (by decide) hx.2
    rw [a3, hx.1]
    split
    · rename_i hc
      exact subsM hz k k' _ _ _ (by omega) (b3 hc)
    · exact MM_ok ⟨rfl, hx.2⟩
theorem relM (hz : EZ E Z) {k k' : Nat} {ts ts' : List Tok} (hk : k ≤ k') (h : Rz E Z ts ts') : MM (Qp E Z) (relT k ts) (relT k' ts') := by
  unfold relT
  refine MM_bnd (nameM hz h) (fun a a' ha => ?_)
  refine MM_bnd (needM hz (by decide) (by decide) ha.2) (fun t2 t2' h2 => ?_)
  refine MM_bnd (nameM hz h2) (fun b b' hb => ?_)
  refine MM_bnd (needM hz (by decide) (by decide) hb.2) (fun t4 t4' h4 => ?_)
  refine MM_bnd (nameM hz h4) (fun c c' hc => ?_)
  refine MM_bnd (needM hz (by decide) (by decide) hc.2) (fun t6 t6' h6 => ?_)
  refine MM_bnd (nameM hz h6) (fun d d' hd => ?_)
  refine MM_bnd (needM hz (by decide) (by decide) hd.2) (fun t8 t8' h8 => ?_)
  refine MM_bnd (needM hz (by decide) (by decide) h8) (fun t9 t9' h9 => ?_)
  obtain ⟨a1, b1⟩ := isT_R hz (s := sIs) (by decide) (by decide) h9
  obtain ⟨a2, b2⟩ := isT_R hz (s := [59]) (by decide) (by decide) h9
  rw [a1, a2]
  refine MM_bnd (Q := Qp E Z) ?_ (fun su su' hsu => ?_)
  · split
    · exact subsM hz _ _ _ _ _ hk h9
    · exact MM_ok ⟨rfl, h9⟩
  obtain ⟨a3, b3⟩ := isT_R hz (s := sIs) (by decide) (by decide) hsu.2
  rw [a3]
  refine MM_bnd (Q := Qp E Z) ?_ (fun op op' hop => ?_)
  · split
    · rename_i hc; exact (opsM hz k).2.1 _ _ _ _ hk (b3 hc)
    · exact MM_ok ⟨rfl, hsu.2⟩
  refine MM_bnd (needM hz (by decide) (by decide) hop.2) (fun t12 t12' h12 => ?_)
  rw [ha.1, hb.1, hc.1, hd.1, hsu.1, hop.1]
  exact MM_ok ⟨rfl, h12⟩
theorem relsM (hz : EZ E Z) : ∀ (k k' : Nat) (acc : List SR) (ts ts' : List Tok), k ≤ k' → Rz E Z ts ts' → MM (Qp E Z) (relsL k acc ts) (relsL k' acc ts')
  | 0, _, _, _, _, _, _ => by rw [relsL]; exact MM_none
  | k + 1, k', acc, ts, ts', hk, h => by
    obtain ⟨k', rfl⟩ : ∃ j, k' = j + 1 := ⟨k' - 1, by omega⟩
    obtain ⟨a3, b3⟩ := isT_R hz (s := sRel) (by decide) (by decide) h
    rw [relsL, relsL, a3]
    split
    · rename_i hc
      refine MM_bnd (relM hz (by omega) (b3 hc)) (fun x x' hx => ?_)
      rw [hx.1]
      exact relsM hz k k' _ _ _ (by omega) hx.2
    · exact MM_ok ⟨rfl, h⟩
theorem typeM (hz : EZ E Z) {k k' : Nat} {ts ts' : List Tok} (hk : k ≤ k') (h : Rz E Z ts ts') : MM (Qp E Z) (typeT k ts) (typeT k' ts') := by
  unfold typeT
  refine MM_bnd (nameM hz h) (fun a a' ha => ?_)
  refine MM_bnd (needM hz (by decide) (by decide) ha.2) (fun t2 t2' h2 => ?_)
  refine MM_bnd (relsM hz _ _ _ _ _ hk h2) (fun l l' hl => ?_)
  refine MM_bnd (needM hz (by decide) (by decide) hl.2) (fun t4 t4' h4 => ?_)
  rw [ha.1, hl.1]
  exact MM_ok ⟨rfl, h4⟩
/-- All types of the first row, and then those behind. -/
theorem types_go (hz : EZ E Z) : ∀ (k k' : Nat) (acc X : List ST) (ts ts' : List Tok), k ≤ k' → Rz E Z ts ts' → typesL k acc ts = some (.ok (X, [E])) →
    ∃ n, acc.length + n = X.length ∧ n + 1 ≤ ts.length ∧ typesL k' acc ts' = typesL (k' - n) X Z
  | 0, _, _, _, _, _, _, _, h => absurd h (by simp [typesL])
  | k + 1, k', acc, X, ts, ts', hk, h, he => by
    obtain ⟨k', rfl⟩ : ∃ j, k' = j + 1 := ⟨k' - 1, by omega⟩
    rw [typesL] at he
    rcases Rz_cases h with ⟨rfl, rfl⟩ | ⟨t, t', r, r', rfl, rfl, kk, x, hr⟩
    · rw [if_neg (by rw [isT_end hz (by decide)]; decide)] at he
      simp only [Option.some.injEq, Except.ok.injEq, Prod.mk.injEq] at he
      obtain ⟨rfl, _⟩ := he
      exact ⟨0, rfl, by simp, rfl⟩
    · have hi : isT sType (t' :: r') = isT sType (t :: r) := by simp [isT, kk, x]
      by_cases hc : isT sType (t :: r) = true
      · rw [if_pos hc] at he
        obtain ⟨y, h1, h2⟩ := bnd_ok he
        have l1 := type_len h1
        obtain ⟨y', h1', hq⟩ := typeM hz (k := k) (k' := k') (by omega) hr y h1
        obtain ⟨n, n1, n2, n3⟩ := types_go hz k k' _ X _ _ (by omega) hq.2 h2
        rw [List.length_append, List.length_singleton] at n1
        refine ⟨n + 1, by omega, ?_, ?_⟩
        · simp only [List.tail_cons] at l1
          simp only [List.length_cons]; omega
        · rw [typesL, hi, if_pos hc]
          show bnd (typeT k' r') _ = _
          rw [h1']
          show typesL k' (acc ++ [y'.1]) y'.2 = _
          rw [← hq.1, n3]
          congr 1
          omega
      · rw [if_neg hc] at he
        simp only [Option.some.injEq, Except.ok.injEq, Prod.mk.injEq] at he
        obtain ⟨_, e2⟩ := he
        obtain ⟨us, us', e3, e4, _⟩ := hr
        rw [e3] at e2
        simp at e2
theorem types_acc : ∀ (k : Nat) (A acc X : List ST) (ts r : List Tok), typesL k acc ts = some (.ok (X, r)) → typesL k (A ++ acc) ts = some (.ok (A ++ X, r))
  | 0, _, _, _, _, _, h => absurd h (by simp [typesL])
  | k + 1, A, acc, X, ts, r, h => by
    rw [typesL] at h ⊢
    split at h
    · rename_i hc
      obtain ⟨y, h1, h2⟩ := bnd_ok h
      rw [if_pos hc, h1]
      show typesL k (A ++ acc ++ [y.1]) y.2 = _
      rw [List.append_assoc]
      exact types_acc k A _ X _ r h2
    · rename_i hc
      rw [if_neg hc]
      simp only [Option.some.injEq, Except.ok.injEq, Prod.mk.injEq] at h ⊢
      exact ⟨by rw [h.1], h.2⟩
theorem types_rest (hz : EZ E Z) : ∀ (k : Nat) (acc : List ST) (ts ts' : List Tok) (x : List ST × List Tok), Rz E Z ts ts' → typesL k acc ts = some (.ok x) → ∃ vs, x.2 = vs ++ [E] ∧ ∀ v ∈ vs, v.kind ≠ 3
  | 0, _, _, _, _, _, h => absurd h (by simp [typesL])
  | k + 1, acc, ts, ts', x, hr, h => by
    rw [typesL] at h
    split at h
    · rename_i hc
      obtain ⟨y, h1, h2⟩ := bnd_ok h
      rcases Rz_cases hr with ⟨rfl, rfl⟩ | ⟨t, t', r, r', rfl, rfl, kk, xx, hr'⟩
      · rw [isT_end hz (by decide)] at hc; exact absurd hc (by decide)
      · obtain ⟨y', h1', hq⟩ := typeM hz (k := k) (k' := k) (Nat.le_refl _) hr' y h1
        exact types_rest hz k _ _ _ x hq.2 h2
    · obtain rfl := Except.ok.inj (Option.some.inj h)
      obtain ⟨us, us', e1, e2, _, e4⟩ := hr
      exact ⟨us, e1, e4⟩
theorem schema_row {k : Nat} {us : List Tok} {E : Tok} {X : List ST} (hE : E.kind = 3) (hz : E.text = []) (hu : ∀ u ∈ us, u.kind ≠ 3) (h : schemaT k (us ++ [E]) = some (.ok X)) : typesL k [] (us ++ [E]) = some (.ok (X, [E])) := by
  unfold schemaT at h
  obtain ⟨x, h1, h2⟩ := bnd_ok h
  obtain ⟨X', r⟩ := x
  have hzz : EZ E [E] := ⟨hE, hz, E, [], rfl, .inl hz⟩
  obtain ⟨vs, h3, h4⟩ := types_rest hzz _ _ _ _ _ ⟨us, us, rfl, rfl, rfl, hu⟩ h1
  dsimp only at h3 h2
  subst h3
  cases vs with
  | nil =>
    rw [List.nil_append] at h2 h1
    dsimp only at h2
    rw [if_pos hE] at h2
    obtain rfl := Except.ok.inj (Option.some.inj h2)
    exact h1
  | cons v vs =>
    rw [List.cons_append] at h2
    dsimp only at h2
    rw [if_neg (h4 v (List.mem_cons_self ..))] at h2
    exact absurd h2 (by simp)
theorem row_schema {k : Nat} {us : List Tok} {E : Tok} {X : List ST} (hE : E.kind = 3) (h : typesL k [] us = some (.ok (X, [E]))) : schemaT k us = some (.ok X) := by
  unfold schemaT
  rw [h]
  show (if E.kind = 3 then _ else _) = _
  rw [if_pos hE]
theorem all_of {l : List UInt8} (h1 : l.length ≤ 2048) (h2 : vld l = true) {ts : List Tok} (h3 : tk l 0 = .ok ts) : all l = .ok ts := by
  unfold all; rw [if_neg (by omega), if_pos h2, h3]
/-- ParseTwo's plain half. -/
theorem two {a b : List UInt8} {X Y : List ST} (ha : parse a = some (.ok X)) (hb : parse b = some (.ok Y)) (hl : a.length + b.length + 1 ≤ 2048) : parse (a ++ 10 :: b) = some (.ok (X ++ Y)) := by
  unfold parse at ha hb
  split at ha
  · exact absurd ha (by simp)
  rename_i ta hta
  split at hb
  · exact absurd hb (by simp)
  rename_i tb htb
  obtain ⟨ua, rfl, hua⟩ := Ps.all_last hta
  obtain ⟨ub, rfl, hub⟩ := Ps.all_last htb
  have hka : ∀ u ∈ ua, u.kind ≠ 3 := fun u hu e => by rcases (hua u hu).1 with h | h <;> (rw [e] at h; exact absurd h (by decide))
  have hkb : ∀ u ∈ ub, u.kind ≠ 3 := fun u hu e => by rcases (hub u hu).1 with h | h <;> (rw [e] at h; exact absurd h (by decide))
  have la := (TkKey.all_len hta)
  have lb := (TkKey.all_len htb)
  have ra := schema_row rfl rfl hka ha
  have rb := schema_row rfl rfl hkb hb
  obtain ⟨f, hf⟩ : ∃ f : Tok → Tok, f = fun t => ⟨t.kind, t.text, t.at_ + (a.length + 1)⟩ := ⟨_, rfl⟩
  have fk : ∀ t, (f t).kind = t.kind ∧ (f t).text = t.text := fun t => by rw [hf]; exact ⟨rfl, rfl⟩
  have hsh : tk b (0 + a.length + 1) = .ok (ub.map f ++ [f ⟨3, [], b.length⟩]) := by
    rw [show 0 + a.length + 1 = 0 + (a.length + 1) by omega, tk_shift, lb.2.2.2, hf]
    show Except.ok _ = _
    rw [List.map_append]; rfl
  have hall : all (a ++ 10 :: b) = .ok (ua ++ (ub.map f ++ [f ⟨3, [], b.length⟩])) := by
    refine all_of ?_ ?_ ?_
    · simp only [List.length_append, List.length_cons]; omega
    · rw [vld_asc _ _ _ (by decide), la.2.2.1, lb.2.2.1]; rfl
    · rw [tk_nl, la.2.2.2, hsh]
      show Except.ok ((ua ++ [_]).dropLast ++ _) = _
      rw [List.dropLast_concat]
  obtain ⟨Eb, hEb⟩ : ∃ Eb, f ⟨3, [], b.length⟩ = Eb := ⟨_, rfl⟩
  have hk3 : Eb.kind = 3 := by rw [← hEb]; exact (fk _).1
  have ht3 : Eb.text = [] := by rw [← hEb]; exact (fk _).2
  rw [hEb] at hall
  unfold parse
  rw [hall]
  refine row_schema hk3 ?_
  -- the first text's end gives way to the second one's tokens
  have hZ : EZ ⟨3, [], a.length⟩ (ub.map f ++ [Eb]) := by
    refine ⟨rfl, rfl, ?_⟩
    cases ub with
    | nil => exact ⟨Eb, [], rfl, .inl ht3⟩
    | cons u ub =>
      refine ⟨f u, _, rfl, .inr ?_⟩
      rw [(fk u).2]
      have hz0 : 3 * ((u :: ub) ++ [(⟨3, [], b.length⟩ : Tok)]).length + 9 = 3 * ((u :: ub) ++ [(⟨3, [], b.length⟩ : Tok)]).length + 8 + 1 := rfl
      rw [hz0, typesL] at rb
      split at rb
      · rename_i hc
        rw [List.cons_append] at hc
        simp only [isT, Bool.and_eq_true, decide_eq_true_eq] at hc
        exact hc.1
      · simp at rb
  have hlen : ∀ (x : List Tok) (y : Tok), (x ++ [y]).length = x.length + 1 := fun x y => by simp
  rw [hlen] at ra rb
  have hRa : Rz (⟨3, [], a.length⟩ : Tok) (ub.map f ++ [Eb]) (ua ++ [⟨3, [], a.length⟩]) (ua ++ (ub.map f ++ [Eb])) := ⟨ua, ua, rfl, rfl, rfl, hka⟩
  have hlen2 : (ua ++ (ub.map f ++ [Eb])).length = ua.length + ub.length + 1 := by simp; omega
  rw [hlen2]
  obtain ⟨n, n1, n2, n3⟩ := types_go hZ (3 * (ua.length + 1) + 9) (3 * (ua.length + ub.length + 1) + 9) [] X _ _ (by omega) hRa ra
  rw [hlen] at n2
  rw [n3]
  have hzb : EZ (⟨3, [], b.length⟩ : Tok) [Eb] := ⟨rfl, rfl, Eb, [], rfl, .inl ht3⟩
  have hRb : Rz (⟨3, [], b.length⟩ : Tok) [Eb] (ub ++ [⟨3, [], b.length⟩]) (ub.map f ++ [Eb]) := ⟨ub, ub.map f, rfl, rfl, by
    rw [List.map_map]
    refine List.map_congr_left fun u _ => ?_
    simp [fk], hkb⟩
  have rb2 := types_acc _ X [] Y _ _ rb
  rw [List.append_nil] at rb2
  obtain ⟨m, m1, m2, m3⟩ := types_go hzb _ (3 * (ua.length + ub.length + 1) + 9 - n) X (X ++ Y) _ _ (by omega) hRb rb2
  rw [m3]
  rw [hlen] at m2
  obtain ⟨j, hj⟩ : ∃ j, 3 * (ua.length + ub.length + 1) + 9 - n - m = j + 1 := ⟨3 * (ua.length + ub.length + 1) + 9 - n - m - 1, by omega⟩
  rw [hj, typesL, if_neg]
  simp only [isT, ht3, Bool.and_eq_true, not_and]
  intro h; exact absurd h (by decide)
end Go.Proofs.YtkgnhghaiopgcaaDoor.Pl
namespace Go.Proofs.YtkgnhghaiopgcaaDoor.Pm
open Go.Proofs.YtkgnhghaiopgcaaDoor.Gl Go.Proofs.YtkgnhghaiopgcaaDoor.X Go.Proofs.YtkgnhghaiopgcaaDoor.Kx Go.Proofs.YtkgnhghaiopgcaaDoor.Tk Go.Proofs.YtkgnhghaiopgcaaDoor.TkFn Go.Proofs.YtkgnhghaiopgcaaDoor.Tp Go.Proofs.YtkgnhghaiopgcaaDoor.Ps Go.Proofs.YtkgnhghaiopgcaaDoor.Pv Go.Proofs.YtkgnhghaiopgcaaDoor.Pl

theorem getD_mem {l : List UInt8} (h : l ≠ []) : l.getD 0 0 ∈ l := by
  cases l with
  | nil => exact absurd rfl h
  | cons c r => exact List.mem_cons_self ..
theorem take2_mem {l : List UInt8} (h : l.take 2 = [47, 47]) : (47 : UInt8) ∈ l := List.mem_of_mem_take (i := 2) (by rw [h]; exact List.mem_cons_self ..)
/-- Ahead of a byte that no word goes on with, in a text without notes, the tokens are those of the part. -/
theorem tk_cut {c : UInt8} (hc : c.toNat < 128) (hm : ∀ r, may (c :: r) = false) (h47 : c ≠ 47) (a : List UInt8) : (47 : UInt8) ∉ a → ∀ p r, tk (a ++ c :: r) p = join (tk a p) (tk (c :: r) (p + a.length)) := by
  induction a using tk_ind with
  | h0 => intro _ p r; rw [tk_nil, join_end]; rfl
  | hb a h hb ih =>
    intro hn p r
    have hd : (a ++ c :: r).drop 1 = a.drop 1 ++ c :: r := List.drop_append_of_le_length (List.length_pos_iff.mpr h)
    have hl : 0 < a.length := List.length_pos_iff.mpr h
    rw [tk_blank (by simp) (by rw [getD_app _ _ h]; exact hb), hd, ih (fun e => hn (List.mem_of_mem_drop e)), tk_blank h hb, List.length_drop, show p + 1 + (a.length - 1) = p + a.length by omega]
  | hn a h ih => intro hn; exact absurd (take2_mem h) hn
  | hsl a h h2 =>
    intro hn
    have hne : a ≠ [] := by intro e; rw [e] at h; exact absurd h (by decide)
    exact absurd (h ▸ getD_mem hne) hn
  | hs a h hs ih =>
    intro hn p r
    have hl : 0 < a.length := List.length_pos_iff.mpr h
    have hd : (a ++ c :: r).drop 1 = a.drop 1 ++ c :: r := List.drop_append_of_le_length hl
    have ht : (a ++ c :: r).take 1 = a.take 1 := List.take_append_of_le_length hl
    rw [tk_sign (by simp) (by rw [getD_app _ _ h]; exact hs), hd, ht, ih (fun e => hn (List.mem_of_mem_drop e)), tk_sign h hs, join_cons _ _ _ (tk_ne _ _), List.length_drop, show p + 1 + (a.length - 1) = p + a.length by omega]
  | hw a h hcc ih =>
    intro hn p r
    have hne := may_ne h
    have hle := wlen_le a
    have hw : wlen (a ++ c :: r) = wlen a := wlen_asc a c r hc (hm r)
    have ht : (a ++ c :: r).take (wlen a) = a.take (wlen a) := List.take_append_of_le_length hle
    rw [tk_word (by rw [may_asc a c r hne hc]; exact h) (by rw [hw, ht]; exact hcc), hw, ht, List.drop_append_of_le_length hle, ih (fun e => hn (List.mem_of_mem_drop e)), tk_word h hcc, join_cons _ _ _ (tk_ne _ _), List.length_drop, show p + wlen a + (a.length - wlen a) = p + a.length by omega]
  | hlg a h hcc =>
    intro hn p r
    have hne := may_ne h
    have hle := wlen_le a
    have hw : wlen (a ++ c :: r) = wlen a := wlen_asc a c r hc (hm r)
    have ht : (a ++ c :: r).take (wlen a) = a.take (wlen a) := List.take_append_of_le_length hle
    rw [tk_long (by rw [may_asc a c r hne hc]; exact h) (by rw [hw, ht]; exact hcc), tk_long h hcc]; rfl
  | ho a h h1 h2 h3 h4 =>
    intro hn p r
    rw [tk_other (by simp) (by rw [getD_app _ _ h]; exact h1) (by rw [getD_app _ _ h]; exact h2) (by rw [getD_app _ _ h]; exact h3) (by rw [may_asc a c r h hc]; exact h4), tk_other h h1 h2 h3 h4]; rfl
theorem may32 (r : List UInt8) : may (32 :: r) = false := by rw [may_byte _ _ (by decide)]; decide
theorem may59 (r : List UInt8) : may (59 :: r) = false := by rw [may_byte _ _ (by decide)]; decide
theorem cons_ok {t : Tok} {r : R} {ts : List Tok} (h : cons t r = .ok ts) : ∃ us, r = .ok us ∧ ts = t :: us := by
  cases r with
  | error e => simp [cons] at h
  | ok us => simp only [cons, Except.ok.injEq] at h; exact ⟨us, rfl, h.symm⟩
/-- What holds of each token of a text that has some. -/
theorem tk_all {P : Tok → Prop} (hs : ∀ (c : UInt8) p, isSign c.toNat = true → P ⟨2, [c], p⟩) (hw : ∀ w p, name w = true → P ⟨1, w, p⟩) (he : ∀ p, P ⟨3, [], p⟩) (l : List UInt8) : ∀ p ts, tk l p = .ok ts → ∀ t ∈ ts, P t := by
  have hc : ∀ (t : Tok) (r : R) (ts : List Tok), cons t r = .ok ts → P t → (∀ us, r = .ok us → ∀ u ∈ us, P u) → ∀ u ∈ ts, P u := by
    intro t r ts h ht hr
    obtain ⟨us, h1, rfl⟩ := cons_ok h
    intro u hu
    rcases List.mem_cons.1 hu with rfl | hu
    · exact ht
    · exact hr us h1 u hu
  induction l using tk_ind with
  | h0 => intro p ts h; rw [tk_nil] at h; injection h with h; intro t ht; rw [← h, List.mem_singleton] at ht; rw [ht]; exact he p
  | hb l h hb ih => intro p ts ht; rw [tk_blank h hb] at ht; exact ih _ _ ht
  | hn l h ih => intro p ts ht; rw [tk_note h] at ht; exact ih _ _ ht
  | hsl l h h2 => intro p ts ht; rw [tk_slash h h2] at ht; injection ht
  | hs l h hs2 ih =>
    intro p ts ht; rw [tk_sign h hs2] at ht
    refine hc _ _ _ ht ?_ (fun us hu => ih _ _ hu)
    have : l.take 1 = [l.getD 0 0] := by
      cases l with
      | nil => exact absurd rfl h
      | cons c r => rfl
    rw [this]; exact hs _ _ hs2
  | hw l h hc2 ih =>
    intro p ts ht; rw [tk_word h hc2] at ht
    refine hc _ _ _ ht (hw _ _ (by rw [name_word h]; exact decide_eq_true hc2)) (fun us hu => ih _ _ hu)
  | hlg l h hc2 => intro p ts ht; rw [tk_long h hc2] at ht; injection ht
  | ho l h h1 h2 h3 h4 => intro p ts ht; rw [tk_other h h1 h2 h3 h4] at ht; injection ht
theorem tk_words {l : List UInt8} {p : Nat} {ts : List Tok} (h : tk l p = .ok ts) : ∀ t ∈ ts, t.kind = 1 → name t.text = true :=
  tk_all (P := fun t => t.kind = 1 → name t.text = true) (fun _ _ _ e => absurd (show (2 : Int) = 1 from e) (by decide)) (fun w _ hw _ => hw) (fun _ e => absurd (show (3 : Int) = 1 from e) (by decide)) l p ts h
theorem tk_mem (l : List UInt8) : ∀ p ts, tk l p = .ok ts → ∀ t ∈ ts, ∀ c ∈ t.text, c ∈ l := by
  have hc : ∀ (t : Tok) (r : R) (ts : List Tok) (l : List UInt8), cons t r = .ok ts → (∀ c ∈ t.text, c ∈ l) → (∀ us, r = .ok us → ∀ u ∈ us, ∀ c ∈ u.text, c ∈ l) → ∀ u ∈ ts, ∀ c ∈ u.text, c ∈ l := by
    intro t r ts l h ht hr
    obtain ⟨us, h1, rfl⟩ := cons_ok h
    intro u hu
    rcases List.mem_cons.1 hu with rfl | hu
    · exact ht
    · exact hr us h1 u hu
  induction l using tk_ind with
  | h0 => intro p ts h; rw [tk_nil] at h; injection h with h; intro t ht c hcc; rw [← h, List.mem_singleton] at ht; rw [ht] at hcc; exact hcc
  | hb l h hb ih => intro p ts ht; rw [tk_blank h hb] at ht; exact fun t h1 c h2 => List.mem_of_mem_drop (ih _ _ ht t h1 c h2)
  | hn l h ih => intro p ts ht; rw [tk_note h] at ht; exact fun t h1 c h2 => List.mem_of_mem_drop (ih _ _ ht t h1 c h2)
  | hsl l h h2 => intro p ts ht; rw [tk_slash h h2] at ht; injection ht
  | hs l h hs2 ih => intro p ts ht; rw [tk_sign h hs2] at ht; exact hc _ _ _ _ ht (fun c h2 => List.mem_of_mem_take h2) (fun us hu t h1 c h2 => List.mem_of_mem_drop (ih _ _ hu t h1 c h2))
  | hw l h hc2 ih => intro p ts ht; rw [tk_word h hc2] at ht; exact hc _ _ _ _ ht (fun c h2 => List.mem_of_mem_take h2) (fun us hu t h1 c h2 => List.mem_of_mem_drop (ih _ _ hu t h1 c h2))
  | hlg l h hc2 => intro p ts ht; rw [tk_long h hc2] at ht; injection ht
  | ho l h h1 h2 h3 h4 => intro p ts ht; rw [tk_other h h1 h2 h3 h4] at ht; injection ht
/-- Without blanks and notes the tokens' texts are the text. -/
theorem tk_flat (l : List UInt8) : (∀ c ∈ l, c ≠ 32 ∧ c ≠ 9 ∧ c ≠ 10 ∧ c ≠ 47) → ∀ p ts, tk l p = .ok ts → (ts.map (·.text)).flatten = l := by
  have hd : ∀ (l : List UInt8) n, (∀ c ∈ l, c ≠ 32 ∧ c ≠ 9 ∧ c ≠ 10 ∧ c ≠ 47) → (∀ c ∈ l.drop n, c ≠ 32 ∧ c ≠ 9 ∧ c ≠ 10 ∧ c ≠ 47) := fun l n h c hc => h c (List.mem_of_mem_drop hc)
  induction l using tk_ind with
  | h0 => intro _ p ts h; rw [tk_nil] at h; injection h with h; rw [← h]; rfl
  | hb l h hb ih =>
    intro hn
    have := hn _ (getD_mem h)
    unfold blk at hb
    simp only [decide_eq_true_eq] at hb
    exfalso
    rcases hb with e | e | e
    · exact this.1 (UInt8.toNat_inj.1 e)
    · exact this.2.1 (UInt8.toNat_inj.1 e)
    · exact this.2.2.1 (UInt8.toNat_inj.1 e)
  | hn l h ih => intro hn; exact absurd rfl (hn _ (take2_mem h)).2.2.2
  | hsl l h h2 => intro _ p ts ht; rw [tk_slash h h2] at ht; injection ht
  | hs l h hs2 ih =>
    intro hn p ts ht; rw [tk_sign h hs2] at ht
    obtain ⟨us, h1, rfl⟩ := cons_ok ht
    rw [List.map_cons, List.flatten_cons, ih (hd _ _ hn) _ _ h1, List.take_append_drop]
  | hw l h hc2 ih =>
    intro hn p ts ht; rw [tk_word h hc2] at ht
    obtain ⟨us, h1, rfl⟩ := cons_ok ht
    rw [List.map_cons, List.flatten_cons, ih (hd _ _ hn) _ _ h1, List.take_append_drop]
  | hlg l h hc2 => intro _ p ts ht; rw [tk_long h hc2] at ht; injection ht
  | ho l h h1 h2 h3 h4 => intro _ p ts ht; rw [tk_other h h1 h2 h3 h4] at ht; injection ht

/-! ### The parser on tokens that are told -/
abbrev wd (w : List UInt8) (p : Nat) : Tok := ⟨1, w, p⟩
abbrev sg (c : UInt8) (p : Nat) : Tok := ⟨2, [c], p⟩
section
variable {w s : List UInt8} {c d : UInt8} {p : Nat} {r : List Tok}
theorem key_ne (hk : TkKey.key w = false) (hs : TkKey.key s = true) : w ≠ s := fun e => by rw [e, hs] at hk; exact absurd hk (by decide)
theorem isT_wd (hk : TkKey.key w = false) : isT s (⟨1, w, p⟩ :: r) = false := by
  unfold isT
  by_cases e : w = s
  · subst e; simp [hk]
  · simp [e]
theorem isT_sg : isT [d] (⟨2, [c], p⟩ :: r) = decide (c = d) := by simp [isT]
theorem isT_sg2 (h : 2 ≤ s.length) : isT s (⟨2, [c], p⟩ :: r) = false := by
  unfold isT
  have : ([c] : List UInt8) ≠ s := fun e => by rw [← e] at h; simp at h
  simp [this]
theorem isT_kw (hk : TkKey.key s = true) : isT s (⟨1, s, p⟩ :: r) = true := by simp [isT, hk]
theorem isT_kw1 : isT [d] (⟨1, w, p⟩ :: r) = false ∨ w = [d] := by
  by_cases e : w = [d]
  · exact .inr e
  · exact .inl (by simp [isT, e])
theorem nameT_wd (hk : TkKey.key w = false) : nameT (⟨1, w, p⟩ :: r) = .ok (B w, r) := by simp [nameT, hk]
theorem nameT_kw (hk : TkKey.key w = true) : nameT (⟨1, w, p⟩ :: r) = .error (30, p) := by simp [nameT, hk]
theorem needT_sg : needT [c] (⟨2, [c], p⟩ :: r) = .ok r := by simp [needT, isT_sg]
end
end Go.Proofs.YtkgnhghaiopgcaaDoor.Pm
namespace Go.Proofs.YtkgnhghaiopgcaaDoor.Pn
open Go.Proofs.YtkgnhghaiopgcaaDoor.Gl Go.Proofs.YtkgnhghaiopgcaaDoor.X Go.Proofs.YtkgnhghaiopgcaaDoor.Kx Go.Proofs.YtkgnhghaiopgcaaDoor.Tk Go.Proofs.YtkgnhghaiopgcaaDoor.TkFn Go.Proofs.YtkgnhghaiopgcaaDoor.Tp Go.Proofs.YtkgnhghaiopgcaaDoor.Ps Go.Proofs.YtkgnhghaiopgcaaDoor.Pv Go.Proofs.YtkgnhghaiopgcaaDoor.Pl Go.Proofs.YtkgnhghaiopgcaaDoor.Pm Go.Proofs.YtkgnhghaiopgcaaDoor.Pt

theorem bnd_some {α β : Type} (a : α) (f : α → Option (Except Er β)) : bnd (some (.ok a)) f = f a := rfl
theorem bnd_err {α β : Type} (e : Er) (f : α → Option (Except Er β)) : bnd (some (.error e)) f = some (.error e) := rfl
theorem rel_head {n v e c : List UInt8} (hn : TkKey.key n = false) (hv : TkKey.key v = false) (he : TkKey.key e = false) (hc : TkKey.key c = false) {p1 p2 p3 p4 p5 p6 p7 p8 p9 : Nat} {T : List Tok} {k : Nat} :
    relT k (⟨1, n, p1⟩ :: ⟨2, [40], p2⟩ :: ⟨1, v, p3⟩ :: ⟨2, [44], p4⟩ :: ⟨1, e, p5⟩ :: ⟨2, [44], p6⟩ :: ⟨1, c, p7⟩ :: ⟨2, [41], p8⟩ :: ⟨2, [58], p9⟩ :: T) =
    bnd (if isT sIs T = false ∧ isT [59] T = false then subsL k [] T else some (.ok ([], T))) fun su =>
    bnd (if isT sIs su.2 = true then rewT k 0 su.2.tail else some (.ok ([op1 1], su.2))) fun ops =>
    bnd (some (needT [59] ops.2)) fun t12 => some (.ok (⟨B n, B v, B e, B c, su.1, ops.1⟩, t12)) := by
  unfold relT
  simp only [nameT_wd hn, nameT_wd hv, nameT_wd he, nameT_wd hc, needT_sg, bnd_some]

/-! ### Left -/
def sgn (g : Nat) : UInt8 := if g % 3 = 0 then 124 else if g % 3 = 1 then 38 else 45
def lpiece (g : Nat) : List UInt8 := [32, sgn g, 32, 116, 104, 105, 115]
def ltoks : List Nat → Nat → List Tok
  | [], _ => []
  | g :: gs, p => ⟨2, [sgn g], p + 1⟩ :: ⟨1, sThis, p + 3⟩ :: ltoks gs (p + 7)
def lops (gs : List Nat) : List SO := (gs.map fun g => [op1 1, op1 (4 + ((g % 3 : Nat) : Int))]).flatten
theorem sgn_cases (g : Nat) : (g % 3 = 0 ∧ sgn g = 124) ∨ (g % 3 = 1 ∧ sgn g = 38) ∨ (g % 3 = 2 ∧ sgn g = 45) := by
  unfold sgn
  by_cases h : g % 3 = 0
  · exact .inl ⟨h, if_pos h⟩
  by_cases h1 : g % 3 = 1
  · exact .inr (.inl ⟨h1, by rw [if_neg h, if_pos h1]⟩)
  · exact .inr (.inr ⟨by omega, by rw [if_neg h, if_neg h1]⟩)
theorem sgn_signT (g p : Nat) (r : List Tok) : signT (⟨2, [sgn g], p⟩ :: r) = 4 + ((g % 3 : Nat) : Int) := by
  rcases sgn_cases g with ⟨h1, h2⟩ | ⟨h1, h2⟩ | ⟨h1, h2⟩ <;> (rw [h1, h2]; simp [signT, isT])
theorem part_this (k d p : Nat) (r : List Tok) : partT (k + 1) d (⟨1, sThis, p⟩ :: r) = some (.ok ([op1 1], r)) := by
  rw [partT, if_pos (isT_kw (by decide))]; rfl
theorem sign_none {p : Nat} {r : List Tok} : signT (⟨2, [59], p⟩ :: r) = 0 := by simp [signT, isT]
theorem left_L : ∀ (gs : List Nat) (k p q : Nat) (acc : List SO) (T : List Tok), gs.length + 2 ≤ k →
    rewL k 0 acc (ltoks gs p ++ ⟨2, [59], q⟩ :: T) = some (.ok (acc ++ lops gs, ⟨2, [59], q⟩ :: T))
  | [], k, p, q, acc, T, hk => by
    obtain ⟨k, rfl⟩ : ∃ j, k = j + 1 := ⟨k - 1, by omega⟩
    show rewL (k + 1) 0 acc (⟨2, [59], q⟩ :: T) = _
    rw [rewL, if_pos sign_none]
    simp [lops]
  | g :: gs, k, p, q, acc, T, hk => by
    simp only [List.length_cons] at hk
    obtain ⟨k, rfl⟩ : ∃ j, k = j + 2 := ⟨k - 2, by omega⟩
    show rewL (k + 1 + 1) 0 acc (⟨2, [sgn g], p + 1⟩ :: ⟨1, sThis, p + 3⟩ :: (ltoks gs (p + 7) ++ ⟨2, [59], q⟩ :: T)) = _
    rw [rewL, sgn_signT, if_neg (by omega), List.tail_cons, part_this, bnd_some]
    rw [left_L gs (k + 1) _ _ _ _ (by omega)]
    simp [lops]
def lhead : List UInt8 := [116, 121, 112, 101, 32, 116, 32, 123, 32, 114, 101, 108, 32, 114, 32, 40, 114, 44, 32, 114, 44, 32, 114, 41, 58, 32, 116, 32, 105, 115, 32, 112, 48]
def ltail : List UInt8 := [59, 32, 125]
def ltext (gs : List Nat) : List UInt8 := (gs.map lpiece).flatten ++ ltail
theorem ltext_cons (g : Nat) (gs : List Nat) : ltext (g :: gs) = [32, sgn g, 32, 116, 104, 105, 115] ++ ltext gs := by simp [ltext, lpiece]
theorem ltext_head (gs : List Nat) : (∃ r, ltext gs = 32 :: r) ∨ (∃ r, ltext gs = 59 :: r) := by
  cases gs with
  | nil => exact .inr ⟨[32, 125], rfl⟩
  | cons g gs => exact .inl ⟨_, by rw [ltext_cons]; rfl⟩
theorem ltext_may (gs : List Nat) : may (ltext gs) = false := by
  rcases ltext_head gs with ⟨r, h⟩ | ⟨r, h⟩ <;> rw [h]
  · exact may32 r
  · exact may59 r
theorem name_this : name [116, 104, 105, 115] = true := letters_name (by decide) (by decide) (by decide)
theorem ltail_tk (p : Nat) : tk ltail p = .ok [⟨2, [59], p⟩, ⟨2, [125], p + 2⟩, ⟨3, [], p + 3⟩] ∧ vld ltail = true := by
  constructor
  · unfold ltail
    rw [tk_sign (by simp) (by decide)]
    show cons _ (tk [32, 125] (p + 1)) = _
    rw [tk_blank (by simp) (by decide)]
    show cons _ (tk [125] (p + 1 + 1)) = _
    rw [tk_sign (by simp) (by decide)]
    show cons _ (cons _ (tk [] (p + 1 + 1 + 1))) = _
    rw [tk_nil]; rfl
  · unfold ltail; rw [vld_cons _ _ (by decide), vld_cons _ _ (by decide), vld_cons _ _ (by decide), vld_nil]
theorem ltext_tk : ∀ (gs : List Nat) (p : Nat), tk (ltext gs) p = .ok (ltoks gs p ++ [⟨2, [59], p + 7 * gs.length⟩, ⟨2, [125], p + 7 * gs.length + 2⟩, ⟨3, [], p + 7 * gs.length + 3⟩]) ∧ vld (ltext gs) = true
  | [], p => by
    have := ltail_tk p
    exact ⟨this.1, this.2⟩
  | g :: gs, p => by
    obtain ⟨i1, i2⟩ := ltext_tk gs (p + 7)
    have hs : isSign (sgn g).toNat = true := by rcases sgn_cases g with ⟨_, h⟩ | ⟨_, h⟩ | ⟨_, h⟩ <;> (rw [h]; decide)
    have ha : (sgn g).toNat < 128 := by rcases sgn_cases g with ⟨_, h⟩ | ⟨_, h⟩ | ⟨_, h⟩ <;> (rw [h]; decide)
    refine ⟨?_, ?_⟩
    · rw [ltext_cons]
      show tk (32 :: sgn g :: 32 :: ([116, 104, 105, 115] ++ ltext gs)) p = _
      rw [tk_blank (l := 32 :: sgn g :: 32 :: ([116, 104, 105, 115] ++ ltext gs)) (by simp) (by rfl)]
      show tk (sgn g :: 32 :: ([116, 104, 105, 115] ++ ltext gs)) (p + 1) = _
      rw [tk_sign (l := sgn g :: 32 :: ([116, 104, 105, 115] ++ ltext gs)) (by simp) hs]
      show cons ⟨2, [sgn g], p + 1⟩ (tk (32 :: ([116, 104, 105, 115] ++ ltext gs)) (p + 1 + 1)) = _
      rw [tk_blank (l := 32 :: ([116, 104, 105, 115] ++ ltext gs)) (by simp) (by rfl)]
      show cons ⟨2, [sgn g], p + 1⟩ (tk ([116, 104, 105, 115] ++ ltext gs) (p + 1 + 1 + 1)) = _
      rw [tk_name name_this (ltext_may gs), show p + 1 + 1 + 1 + [116, 104, 105, (115 : UInt8)].length = p + 7 from rfl, i1, show p + 7 + 7 * gs.length = p + 7 * (g :: gs).length by simp only [List.length_cons]; omega]
      rfl
    · rw [ltext_cons]
      show vld (32 :: sgn g :: 32 :: 116 :: 104 :: 105 :: 115 :: ltext gs) = true
      rw [vld_cons _ _ (by decide), vld_cons _ _ ha, vld_cons _ _ (by decide), vld_cons _ _ (by decide), vld_cons _ _ (by decide), vld_cons _ _ (by decide), vld_cons _ _ (by decide), i2]
def b1' (c : UInt8) : ByteArray := ⟨#[c]⟩
theorem lhead_tk : lexA 100 lhead 0 = some [⟨1, sType, 0⟩, ⟨1, [116], 5⟩, ⟨2, [123], 7⟩, ⟨1, sRel, 9⟩, ⟨1, [114], 13⟩, ⟨2, [40], 15⟩, ⟨1, [114], 16⟩, ⟨2, [44], 17⟩, ⟨1, [114], 19⟩, ⟨2, [44], 20⟩, ⟨1, [114], 22⟩, ⟨2, [41], 23⟩, ⟨2, [58], 24⟩, ⟨1, [116], 26⟩, ⟨1, sIs, 28⟩, ⟨1, [112, 48], 31⟩, ⟨3, [], 33⟩] := by decide +kernel
theorem left_all (gs : List Nat) (h : gs.length ≤ 14) : all (lhead ++ ltext gs) = .ok ([⟨1, sType, 0⟩, ⟨1, [116], 5⟩, ⟨2, [123], 7⟩, ⟨1, sRel, 9⟩, ⟨1, [114], 13⟩, ⟨2, [40], 15⟩, ⟨1, [114], 16⟩, ⟨2, [44], 17⟩, ⟨1, [114], 19⟩, ⟨2, [44], 20⟩, ⟨1, [114], 22⟩, ⟨2, [41], 23⟩, ⟨2, [58], 24⟩, ⟨1, [116], 26⟩, ⟨1, sIs, 28⟩, ⟨1, [112, 48], 31⟩] ++
    (ltoks gs 33 ++ [⟨2, [59], 33 + 7 * gs.length⟩, ⟨2, [125], 33 + 7 * gs.length + 2⟩, ⟨3, [], 33 + 7 * gs.length + 3⟩])) := by
  obtain ⟨a1, a2, _⟩ := lexA_tk _ _ _ _ lhead_tk
  obtain ⟨b1, b2⟩ := ltext_tk gs 33
  have hlen : (ltext gs).length = 7 * gs.length + 3 := by
    clear b1 b2 h
    induction gs with
    | nil => rfl
    | cons g gs ih => rw [ltext_cons, List.length_append, ih]; simp only [List.length_cons, List.length_nil]; omega
  have hcut : ∀ c r, ltext gs = c :: r → c.toNat < 128 → (∀ r, may (c :: r) = false) → c ≠ 47 → all (lhead ++ ltext gs) = .ok ([⟨1, sType, 0⟩, ⟨1, [116], 5⟩, ⟨2, [123], 7⟩, ⟨1, sRel, 9⟩, ⟨1, [114], 13⟩, ⟨2, [40], 15⟩, ⟨1, [114], 16⟩, ⟨2, [44], 17⟩, ⟨1, [114], 19⟩, ⟨2, [44], 20⟩, ⟨1, [114], 22⟩, ⟨2, [41], 23⟩, ⟨2, [58], 24⟩, ⟨1, [116], 26⟩, ⟨1, sIs, 28⟩, ⟨1, [112, 48], 31⟩] ++
    (ltoks gs 33 ++ [⟨2, [59], 33 + 7 * gs.length⟩, ⟨2, [125], 33 + 7 * gs.length + 2⟩, ⟨3, [], 33 + 7 * gs.length + 3⟩])) := by
    intro c r e hc hm h47
    refine all_of ?_ ?_ ?_
    · rw [List.length_append, hlen]; simp only [lhead, List.length_cons, List.length_nil]; omega
    · rw [e, vld_asc _ _ _ hc, a2, ← vld_cons c r hc, ← e, b2]; rfl
    · rw [e, tk_cut hc hm h47 _ (by decide), a1, ← e]
      show join _ (tk (ltext gs) 33) = _
      rw [b1]; rfl
  rcases ltext_head gs with ⟨r, e⟩ | ⟨r, e⟩
  · exact hcut _ _ e (by decide) may32 (by decide)
  · exact hcut _ _ e (by decide) may59 (by decide)
theorem left_parse (gs : List Nat) (h : gs.length ≤ 14) : parse (lhead ++ ltext gs) = some (.ok [⟨B [116], [⟨B [114], B [114], B [114], B [114], [⟨B [116], ⟨#[]⟩⟩], ⟨2, B [112, 48], ⟨#[]⟩⟩ :: lops gs⟩]⟩]) := by
  unfold parse
  rw [left_all gs h]
  dsimp only
  generalize hk : 3 * _ + 9 = k
  simp only [List.length_append, List.length_cons, List.length_nil] at hk
  obtain ⟨k, rfl⟩ : ∃ j, k = j + 20 + gs.length := ⟨k - 20 - gs.length, by omega⟩
  clear hk
  show schemaT (k + 20 + gs.length) (⟨1, sType, 0⟩ :: ⟨1, [116], 5⟩ :: ⟨2, [123], 7⟩ :: ⟨1, sRel, 9⟩ :: ⟨1, [114], 13⟩ :: ⟨2, [40], 15⟩ :: ⟨1, [114], 16⟩ :: ⟨2, [44], 17⟩ :: ⟨1, [114], 19⟩ :: ⟨2, [44], 20⟩ :: ⟨1, [114], 22⟩ :: ⟨2, [41], 23⟩ :: ⟨2, [58], 24⟩ :: ⟨1, [116], 26⟩ :: ⟨1, sIs, 28⟩ :: ⟨1, [112, 48], 31⟩ ::
    (ltoks gs 33 ++ ⟨2, [59], 33 + 7 * gs.length⟩ :: [⟨2, [125], 33 + 7 * gs.length + 2⟩, ⟨3, [], 33 + 7 * gs.length + 3⟩])) = _
  generalize 33 + 7 * gs.length = q
  obtain ⟨T, hT⟩ : ∃ T, ltoks gs 33 ++ ⟨2, [59], q⟩ :: [⟨2, [125], q + 2⟩, ⟨3, [], q + 3⟩] = T := ⟨_, rfl⟩
  have hd : isT [46] T = false := by
    rw [← hT]
    cases gs with
    | nil => rfl
    | cons g gs =>
      show isT [46] (⟨2, [sgn g], _⟩ :: _) = false
      rw [isT_sg]
      rcases sgn_cases g with ⟨_, h⟩ | ⟨_, h⟩ | ⟨_, h⟩ <;> (rw [h]; decide)
  have hL : ∀ j, rewL (j + 2 + gs.length) 0 [⟨2, B [112, 48], ⟨#[]⟩⟩] T = some (.ok (⟨2, B [112, 48], ⟨#[]⟩⟩ :: lops gs, [⟨2, [59], q⟩, ⟨2, [125], q + 2⟩, ⟨3, [], q + 3⟩])) := by
    intro j
    rw [← hT, left_L gs _ _ _ _ _ (by omega)]; rfl
  rw [hT]
  clear hT
  have e1 : k + 20 + gs.length = (k + 19 + gs.length) + 1 := by omega
  have e2 : k + 19 + gs.length = (k + 18 + gs.length) + 1 := by omega
  have e3 : k + 18 + gs.length = (k + 17 + gs.length) + 1 := by omega
  have e4 : k + 17 + gs.length = (k + 16 + gs.length) + 1 := by omega
  have k1 : TkKey.key [116] = false := by decide
  have k2 : TkKey.key [114] = false := by decide
  have k3 : TkKey.key [112, 48] = false := by decide
  have s1 : subsL (k + 18 + gs.length) [] (⟨1, [116], 26⟩ :: ⟨1, sIs, 28⟩ :: ⟨1, [112, 48], 31⟩ :: T) = some (.ok ([⟨B [116], ⟨#[]⟩⟩], ⟨1, sIs, 28⟩ :: ⟨1, [112, 48], 31⟩ :: T)) := by
    rw [e3, subsL]; rfl
  have s2 : rewT (k + 18 + gs.length) 0 (⟨1, [112, 48], 31⟩ :: T) = some (.ok (⟨2, B [112, 48], ⟨#[]⟩⟩ :: lops gs, [⟨2, [59], q⟩, ⟨2, [125], q + 2⟩, ⟨3, [], q + 3⟩])) := by
    rw [e3, rewT, e4, partT, isT_wd k3, if_neg (by decide), isT_wd k3, if_neg (by decide), nameT_wd k3, bnd_some, hd, if_neg (by decide), bnd_some, ← e4, show k + 17 + gs.length = k + 15 + 2 + gs.length by omega, hL]
  have s3 : relT (k + 18 + gs.length) (⟨1, [114], 13⟩ :: ⟨2, [40], 15⟩ :: ⟨1, [114], 16⟩ :: ⟨2, [44], 17⟩ :: ⟨1, [114], 19⟩ :: ⟨2, [44], 20⟩ :: ⟨1, [114], 22⟩ :: ⟨2, [41], 23⟩ :: ⟨2, [58], 24⟩ :: ⟨1, [116], 26⟩ :: ⟨1, sIs, 28⟩ :: ⟨1, [112, 48], 31⟩ :: T) =
      some (.ok (⟨B [114], B [114], B [114], B [114], [⟨B [116], ⟨#[]⟩⟩], ⟨2, B [112, 48], ⟨#[]⟩⟩ :: lops gs⟩, [⟨2, [125], q + 2⟩, ⟨3, [], q + 3⟩])) := by
    rw [rel_head k2 k2 k2 k2, if_pos ⟨isT_wd k1, isT_wd k1⟩, s1, bnd_some, if_pos (isT_kw (by decide)), List.tail_cons, s2, bnd_some, needT_sg]
    rfl
  have s4 : typeT (k + 19 + gs.length) (⟨1, [116], 5⟩ :: ⟨2, [123], 7⟩ :: ⟨1, sRel, 9⟩ :: ⟨1, [114], 13⟩ :: ⟨2, [40], 15⟩ :: ⟨1, [114], 16⟩ :: ⟨2, [44], 17⟩ :: ⟨1, [114], 19⟩ :: ⟨2, [44], 20⟩ :: ⟨1, [114], 22⟩ :: ⟨2, [41], 23⟩ :: ⟨2, [58], 24⟩ :: ⟨1, [116], 26⟩ :: ⟨1, sIs, 28⟩ :: ⟨1, [112, 48], 31⟩ :: T) =
      some (.ok (⟨B [116], [⟨B [114], B [114], B [114], B [114], [⟨B [116], ⟨#[]⟩⟩], ⟨2, B [112, 48], ⟨#[]⟩⟩ :: lops gs⟩]⟩, [⟨3, [], q + 3⟩])) := by
    unfold typeT
    rw [nameT_wd k1, bnd_some, needT_sg, bnd_some, e2, relsL, if_pos (isT_kw (by decide)), List.tail_cons, s3, bnd_some, e3, relsL, if_neg (by rw [isT_sg2 (by decide)]; decide), bnd_some, needT_sg]
    rfl
  unfold schemaT
  rw [e1, typesL, if_pos (isT_kw (by decide)), List.tail_cons, s4, bnd_some, e2, typesL, if_neg (by simp [isT, sType]), bnd_some]
  rfl

/-! ### Deep -/
def dhead : List UInt8 := [116, 121, 112, 101, 32, 116, 32, 123, 32, 114, 101, 108, 32, 114, 32, 40, 114, 44, 32, 114, 44, 32, 114, 41, 58, 32, 116, 32, 105, 115, 32]
def dtail : List UInt8 := [59, 32, 125]
def da : Bool → Nat → List UInt8
  | _, 0 => []
  | true, k + 1 => da true k ++ [40, 97, 124]
  | false, k + 1 => da false k ++ [40]
def db : Nat → List UInt8
  | 0 => []
  | k + 1 => db k ++ [41]
def dtext (right : Bool) (k : Nat) : List UInt8 := dhead ++ da right k ++ [97] ++ db k ++ dtail
def dops : Bool → Nat → List SO
  | false, _ => [⟨2, B [97], ⟨#[]⟩⟩]
  | true, k => List.replicate (k + 1) ⟨2, B [97], ⟨#[]⟩⟩ ++ List.replicate k (op1 4)
def dres (right : Bool) (k : Nat) : Except Er (List ST) :=
  if 8 < k then .error (13, 31 + 8 * (if right then 3 else 1)) else .ok [⟨B [116], [⟨B [114], B [114], B [114], B [114], [⟨B [116], ⟨#[]⟩⟩], dops right k⟩]⟩]
set_option maxRecDepth 100000 in
theorem deep_parse : ∀ (right : Bool) (k : Nat), k < 14 → parse (dtext right k) = some (dres right k) := by
  have h : ∀ right k, k < 14 → (∃ ts, lexA 200 (dtext right k) 0 = some ts ∧ schemaT (3 * ts.length + 9) ts = some (dres right k)) ∧ (dtext right k).length ≤ 2048 := by
    intro right k hk
    refine ⟨⟨(lexA 200 (dtext right k) 0).getD [], ?_, ?_⟩, ?_⟩
    all_goals
      have : k = 0 ∨ k = 1 ∨ k = 2 ∨ k = 3 ∨ k = 4 ∨ k = 5 ∨ k = 6 ∨ k = 7 ∨ k = 8 ∨ k = 9 ∨ k = 10 ∨ k = 11 ∨ k = 12 ∨ k = 13 := by omega
      clear hk
      cases right <;> rcases this with rfl | rfl | rfl | rfl | rfl | rfl | rfl | rfl | rfl | rfl | rfl | rfl | rfl | rfl <;>
        first | decide +kernel | (show _ = _; kernel_rfl)
  intro right k hk
  obtain ⟨⟨ts, h1, h2⟩, h3⟩ := h right k hk
  exact parse_lex h1 h3 h2
end Go.Proofs.YtkgnhghaiopgcaaDoor.Pn
namespace Go.Proofs.YtkgnhghaiopgcaaDoor.Po
open Go.Proofs.YtkgnhghaiopgcaaDoor.Gl Go.Proofs.YtkgnhghaiopgcaaDoor.X Go.Proofs.YtkgnhghaiopgcaaDoor.Kx Go.Proofs.YtkgnhghaiopgcaaDoor.Tk Go.Proofs.YtkgnhghaiopgcaaDoor.TkFn Go.Proofs.YtkgnhghaiopgcaaDoor.Tp Go.Proofs.YtkgnhghaiopgcaaDoor.Ps Go.Proofs.YtkgnhghaiopgcaaDoor.Pv Go.Proofs.YtkgnhghaiopgcaaDoor.Pl Go.Proofs.YtkgnhghaiopgcaaDoor.Pm Go.Proofs.YtkgnhghaiopgcaaDoor.Pt Go.Proofs.YtkgnhghaiopgcaaDoor.Pn

/-! ### Words and signs with a space between -/
abbrev El := Bool × List UInt8
def goodE (e : El) : Prop := (e.1 = true ∧ name e.2 = true) ∨ (e.1 = false ∧ ∃ c : UInt8, e.2 = [c] ∧ isSign c.toNat = true)
def tokE (e : El) (p : Nat) : Tok := ⟨if e.1 = true then 1 else 2, e.2, p⟩
def spaced : List El → List UInt8
  | [] => []
  | [e] => e.2
  | e :: es => e.2 ++ 32 :: spaced es
def stoks : List El → Nat → List Tok
  | [], p => [⟨3, [], p⟩]
  | [e], p => [tokE e p, ⟨3, [], p + e.2.length⟩]
  | e :: es, p => tokE e p :: stoks es (p + e.2.length + 1)
def spos : List El → Nat → Nat
  | _, 0 => 0
  | [], _ => 0
  | e :: es, i + 1 => e.2.length + 1 + spos es i
theorem good_tk {e : El} (h : goodE e) {r : List UInt8} (hr : may r = false) (p : Nat) : tk (e.2 ++ r) p = cons (tokE e p) (tk r (p + e.2.length)) ∧ vld (e.2 ++ r) = vld r := by
  rcases h with ⟨h1, h2⟩ | ⟨h1, c, h2, h3⟩
  · refine ⟨?_, ?_⟩
    · rw [tk_name h2 hr]; unfold tokE; rw [if_pos h1]
    · exact vld_append _ _ (mays_vld (name_mays h2).1)
  · have hc := (sign_may h3).1
    refine ⟨?_, ?_⟩
    · unfold tokE
      rw [h2, h1, if_neg (by decide), List.cons_append, List.nil_append, tk_sign (l := c :: r) (by simp) h3]
      rfl
    · rw [h2, List.cons_append, List.nil_append, vld_cons _ _ hc]
theorem spaced_tk : ∀ (es : List El) (p : Nat), (∀ e ∈ es, goodE e) → tk (spaced es) p = .ok (stoks es p) ∧ vld (spaced es) = true
  | [], p, _ => ⟨by rw [spaced, tk_nil]; rfl, vld_nil⟩
  | [e], p, h => by
    obtain ⟨a, b⟩ := good_tk (h e (List.mem_cons_self ..)) may_nil p
    rw [List.append_nil] at a b
    exact ⟨by rw [spaced, a, tk_nil]; rfl, by rw [spaced, b, vld_nil]⟩
  | e :: f :: es, p, h => by
    obtain ⟨i1, i2⟩ := spaced_tk (f :: es) (p + e.2.length + 1) (fun x hx => h x (List.mem_cons_of_mem _ hx))
    obtain ⟨a, b⟩ := good_tk (h e (List.mem_cons_self ..)) (may32 (spaced (f :: es))) p
    refine ⟨?_, ?_⟩
    · rw [spaced, a, tk_blank (l := 32 :: spaced (f :: es)) (by simp) (by rfl)]
      · show cons _ (tk (spaced (f :: es)) (p + e.2.length + 1)) = _
        rw [i1]; rfl
      · simp
    · rw [spaced, b, vld_cons _ _ (by decide), i2]
      simp
theorem spaced_drop : ∀ (es : List El) (i : Nat), i < es.length → (spaced es).drop (spos es i) = spaced (es.drop i)
  | _, 0, _ => by rw [spos]; rfl
  | [], _ + 1, h => by simp at h
  | [e], i + 1, h => by simp at h
  | e :: f :: es, i + 1, h => by
    rw [spaced, spos]
    · rw [List.drop_succ_cons, ← spaced_drop (f :: es) i (by simpa using h), show e.2 ++ 32 :: spaced (f :: es) = (e.2 ++ [32]) ++ spaced (f :: es) by simp]
      rw [← List.drop_drop, show e.2.length + 1 = (e.2 ++ [32]).length by simp, List.drop_left]
    · simp
theorem spaced_head (e : El) (es : List El) : ∃ r, spaced (e :: es) = e.2 ++ r := by
  cases es with
  | nil => exact ⟨[], by simp [spaced]⟩
  | cons f es => exact ⟨_, by rw [spaced]; simp⟩
theorem all_spaced {es : List El} (h : ∀ e ∈ es, goodE e) (hl : (spaced es).length ≤ 2048) : all (spaced es) = .ok (stoks es 0) := by
  obtain ⟨a, b⟩ := spaced_tk es 0 h
  exact all_of hl b a

/-! ### The schema of eight names -/
def nm (l0 l1 l2 l3 l4 l5 l6 l7 : List UInt8) : List El :=
  [(true, sType), (true, l0), (false, [123]), (true, sRel), (true, l1), (false, [40]), (true, l2), (false, [44]), (true, l3), (false, [44]), (true, l4), (false, [41]), (false, [58]), (true, l5), (false, [35]), (true, l6), (true, sIs), (true, l7), (false, [59]), (false, [125])]
section
variable {l0 l1 l2 l3 l4 l5 l6 l7 : List UInt8} {p0 p1 p2 p3 p4 p5 p6 p7 p8 p9 p10 p11 p12 p13 p14 p15 p16 p17 p18 p19 p20 : Nat} {k : Nat}
theorem subs_ok (k5 : TkKey.key l5 = false) (k6 : TkKey.key l6 = false) {T : List Tok} : subsL (k + 1) [] (⟨1, l5, p13⟩ :: ⟨2, [35], p14⟩ :: ⟨1, l6, p15⟩ :: ⟨1, sIs, p16⟩ :: T) = some (.ok ([⟨B l5, B l6⟩], ⟨1, sIs, p16⟩ :: T)) := by
  have e : subT (⟨1, l5, p13⟩ :: ⟨2, [35], p14⟩ :: ⟨1, l6, p15⟩ :: ⟨1, sIs, p16⟩ :: T) = .ok (⟨B l5, B l6⟩, ⟨1, sIs, p16⟩ :: T) := by
    unfold subT
    rw [nameT_wd k5]
    dsimp only
    rw [if_pos (by rw [isT_sg]; decide), List.tail_cons, nameT_wd k6]
  rw [subsL, e, bnd_some, if_neg (by dsimp only; simp [isT, sIs]), List.nil_append]
theorem rew_ok (k7 : TkKey.key l7 = false) {T : List Tok} : rewT (k + 3) 0 (⟨1, l7, p17⟩ :: ⟨2, [59], p18⟩ :: T) = some (.ok ([⟨2, B l7, ⟨#[]⟩⟩], ⟨2, [59], p18⟩ :: T)) := by
  rw [rewT, partT, isT_wd k7, if_neg (by decide), isT_wd k7, if_neg (by decide), nameT_wd k7, bnd_some, if_neg (by dsimp only; rw [isT_sg]; decide), bnd_some, rewL, if_pos sign_none]
theorem rel_ok (k1 : TkKey.key l1 = false) (k2 : TkKey.key l2 = false) (k3 : TkKey.key l3 = false) (k4 : TkKey.key l4 = false) (k5 : TkKey.key l5 = false) (k6 : TkKey.key l6 = false) (k7 : TkKey.key l7 = false) {T : List Tok} :
    relT (k + 3) (⟨1, l1, p4⟩ :: ⟨2, [40], p5⟩ :: ⟨1, l2, p6⟩ :: ⟨2, [44], p7⟩ :: ⟨1, l3, p8⟩ :: ⟨2, [44], p9⟩ :: ⟨1, l4, p10⟩ :: ⟨2, [41], p11⟩ :: ⟨2, [58], p12⟩ :: ⟨1, l5, p13⟩ :: ⟨2, [35], p14⟩ :: ⟨1, l6, p15⟩ :: ⟨1, sIs, p16⟩ :: ⟨1, l7, p17⟩ :: ⟨2, [59], p18⟩ :: T) =
      some (.ok (⟨B l1, B l2, B l3, B l4, [⟨B l5, B l6⟩], [⟨2, B l7, ⟨#[]⟩⟩]⟩, T)) := by
  rw [rel_head k1 k2 k3 k4, if_pos ⟨isT_wd k5, isT_wd k5⟩, subs_ok k5 k6, bnd_some, if_pos (isT_kw (by decide)), List.tail_cons, rew_ok k7, bnd_some, needT_sg]
  rfl
theorem schema_of_type {e : Er} {T : List Tok} (h : typeT k T = some (.error e)) : schemaT (k + 1) (⟨1, sType, p0⟩ :: T) = some (.error e) := by
  unfold schemaT
  rw [typesL, if_pos (isT_kw (by decide)), List.tail_cons, h]; rfl
theorem type_of_rel (k0 : TkKey.key l0 = false) {e : Er} {T : List Tok} (h : relT k T = some (.error e)) : typeT (k + 1) (⟨1, l0, p1⟩ :: ⟨2, [123], p2⟩ :: ⟨1, sRel, p3⟩ :: T) = some (.error e) := by
  unfold typeT
  rw [nameT_wd k0, bnd_some, needT_sg, bnd_some, relsL, if_pos (isT_kw (by decide)), List.tail_cons, h]; rfl
theorem names_schema (k0 : TkKey.key l0 = false) (k1 : TkKey.key l1 = false) (k2 : TkKey.key l2 = false) (k3 : TkKey.key l3 = false) (k4 : TkKey.key l4 = false) (k5 : TkKey.key l5 = false) (k6 : TkKey.key l6 = false) (k7 : TkKey.key l7 = false) :
    schemaT (k + 5) [⟨1, sType, p0⟩, ⟨1, l0, p1⟩, ⟨2, [123], p2⟩, ⟨1, sRel, p3⟩, ⟨1, l1, p4⟩, ⟨2, [40], p5⟩, ⟨1, l2, p6⟩, ⟨2, [44], p7⟩, ⟨1, l3, p8⟩, ⟨2, [44], p9⟩, ⟨1, l4, p10⟩, ⟨2, [41], p11⟩, ⟨2, [58], p12⟩, ⟨1, l5, p13⟩, ⟨2, [35], p14⟩, ⟨1, l6, p15⟩, ⟨1, sIs, p16⟩, ⟨1, l7, p17⟩, ⟨2, [59], p18⟩, ⟨2, [125], p19⟩, ⟨3, [], p20⟩] =
      some (.ok [⟨B l0, [⟨B l1, B l2, B l3, B l4, [⟨B l5, B l6⟩], [⟨2, B l7, ⟨#[]⟩⟩]⟩]⟩]) := by
  unfold schemaT
  rw [typesL, if_pos (isT_kw (by decide)), List.tail_cons]
  have e : typeT (k + 4) [⟨1, l0, p1⟩, ⟨2, [123], p2⟩, ⟨1, sRel, p3⟩, ⟨1, l1, p4⟩, ⟨2, [40], p5⟩, ⟨1, l2, p6⟩, ⟨2, [44], p7⟩, ⟨1, l3, p8⟩, ⟨2, [44], p9⟩, ⟨1, l4, p10⟩, ⟨2, [41], p11⟩, ⟨2, [58], p12⟩, ⟨1, l5, p13⟩, ⟨2, [35], p14⟩, ⟨1, l6, p15⟩, ⟨1, sIs, p16⟩, ⟨1, l7, p17⟩, ⟨2, [59], p18⟩, ⟨2, [125], p19⟩, ⟨3, [], p20⟩] =
      some (.ok (⟨B l0, [⟨B l1, B l2, B l3, B l4, [⟨B l5, B l6⟩], [⟨2, B l7, ⟨#[]⟩⟩]⟩]⟩, [⟨3, [], p20⟩])) := by
    unfold typeT
    rw [nameT_wd k0, bnd_some, needT_sg, bnd_some, relsL, if_pos (isT_kw (by decide)), List.tail_cons, rel_ok k1 k2 k3 k4 k5 k6 k7, bnd_some, relsL, if_neg (by rw [isT_sg2 (by decide)]; decide), bnd_some, needT_sg]
    rfl
  rw [e, bnd_some, typesL, if_neg (by simp [isT, sType]), bnd_some]
  rfl
end
theorem nm_err {l0 l1 l2 l3 l4 l5 l6 l7 : List UInt8} {p0 p1 p2 p3 p4 p5 p6 p7 p8 p9 p10 p11 p12 p13 p14 p15 p16 p17 : Nat} {T : List Tok} {k : Nat} (w : Nat) (hw : w < 8)
    (k0 : if w = 0 then l0 = sType else TkKey.key l0 = false) (k1 : if w = 1 then l1 = sType else TkKey.key l1 = false) (k2 : if w = 2 then l2 = sType else TkKey.key l2 = false) (k3 : if w = 3 then l3 = sType else TkKey.key l3 = false)
    (k4 : if w = 4 then l4 = sType else TkKey.key l4 = false) (k5 : if w = 5 then l5 = sType else TkKey.key l5 = false) (k6 : if w = 6 then l6 = sType else TkKey.key l6 = false) (k7 : if w = 7 then l7 = sType else TkKey.key l7 = false) :
    schemaT (k + 5) (⟨1, sType, p0⟩ :: ⟨1, l0, p1⟩ :: ⟨2, [123], p2⟩ :: ⟨1, sRel, p3⟩ :: ⟨1, l1, p4⟩ :: ⟨2, [40], p5⟩ :: ⟨1, l2, p6⟩ :: ⟨2, [44], p7⟩ :: ⟨1, l3, p8⟩ :: ⟨2, [44], p9⟩ :: ⟨1, l4, p10⟩ :: ⟨2, [41], p11⟩ :: ⟨2, [58], p12⟩ :: ⟨1, l5, p13⟩ :: ⟨2, [35], p14⟩ :: ⟨1, l6, p15⟩ :: ⟨1, sIs, p16⟩ :: ⟨1, l7, p17⟩ :: T) =
      some (.error (30, [p1, p4, p6, p8, p10, p13, p15, p17].getD w 0)) := by
  have ht : TkKey.key sType = true := by decide
  have : w = 0 ∨ w = 1 ∨ w = 2 ∨ w = 3 ∨ w = 4 ∨ w = 5 ∨ w = 6 ∨ w = 7 := by omega
  rcases this with rfl | rfl | rfl | rfl | rfl | rfl | rfl | rfl <;> simp at k0 k1 k2 k3 k4 k5 k6 k7
  · subst k0
    refine schema_of_type ?_
    unfold typeT
    rw [nameT_kw ht]; rfl
  · subst k1
    refine schema_of_type (type_of_rel k0 ?_)
    unfold relT
    rw [nameT_kw ht]; rfl
  · subst k2
    refine schema_of_type (type_of_rel k0 ?_)
    unfold relT
    rw [nameT_wd k1, bnd_some, needT_sg, bnd_some, nameT_kw ht]; rfl
  · subst k3
    refine schema_of_type (type_of_rel k0 ?_)
    unfold relT
    rw [nameT_wd k1, bnd_some, needT_sg, bnd_some, nameT_wd k2, bnd_some, needT_sg, bnd_some, nameT_kw ht]; rfl
  · subst k4
    refine schema_of_type (type_of_rel k0 ?_)
    unfold relT
    rw [nameT_wd k1, bnd_some, needT_sg, bnd_some, nameT_wd k2, bnd_some, needT_sg, bnd_some, nameT_wd k3, bnd_some, needT_sg, bnd_some, nameT_kw ht]; rfl
  · subst k5
    refine schema_of_type (type_of_rel k0 ?_)
    rw [rel_head k1 k2 k3 k4, if_pos ⟨by simp [isT, sType, sIs], by simp [isT, sType]⟩, subsL]
    unfold subT
    rw [nameT_kw ht]; rfl
  · subst k6
    refine schema_of_type (type_of_rel k0 ?_)
    rw [rel_head k1 k2 k3 k4, if_pos ⟨isT_wd k5, isT_wd k5⟩, subsL]
    unfold subT
    rw [nameT_wd k5]
    dsimp only
    rw [if_pos (by rw [isT_sg]; decide), List.tail_cons, nameT_kw ht]; rfl
  · subst k7
    refine schema_of_type (type_of_rel k0 ?_)
    rw [rel_head k1 k2 k3 k4, if_pos ⟨isT_wd k5, isT_wd k5⟩, subs_ok k5 k6, bnd_some, if_pos (isT_kw (by decide)), List.tail_cons, rewT, partT, if_neg (by simp [isT, sType, sThis]), if_neg (by simp [isT, sType]), nameT_kw ht]; rfl
end Go.Proofs.YtkgnhghaiopgcaaDoor.Po
