/- A schema that grows stays right in what it names: plain Lean, no program walked; no condition. -/
import Derived.Test.YtkgnhghaiopgcaaDoorCn
set_option linter.unusedVariables false
set_option linter.unusedSimpArgs false
namespace Go.Proofs.YtkgnhghaiopgcaaDoor.Cl
open Go.Proofs.YtkgnhghaiopgcaaDoor.X Go.Proofs.YtkgnhghaiopgcaaDoor.Kx Go.Proofs.YtkgnhghaiopgcaaDoor.Ps Go.Proofs.YtkgnhghaiopgcaaDoor.Ck

/-- Each type that is found is found with its relations, and maybe more behind them. -/
def Ext (X Y : List ST) : Prop := ∀ n t, kindT X n = some t → ∃ t', kindT Y n = some t' ∧ t.f1 <+: t'.f1
theorem has_pre {rs rs' : List SR} (h : rs <+: rs') {n : ByteArray} (hn : hasR rs n = true) : hasR rs' n = true := by
  obtain ⟨z, rfl⟩ := h
  unfold hasR at hn ⊢
  rw [List.any_append, hn]; rfl
theorem find_pre {rs rs' : List SR} (h : rs <+: rs') {p : SR → Bool} {r : SR} (hr : rs.find? p = some r) : rs'.find? p = some r := by
  obtain ⟨z, rfl⟩ := h
  rw [List.find?_append, hr]; rfl
theorem kindV_some {X : List ST} {n : ByteArray} {t : ST} (h : kindT X n = some t) : kindV X n = t := by unfold kindV; rw [h]; rfl
theorem kindV_none {X : List ST} {n : ByteArray} (h : kindT X n = none) : kindV X n = zT := by unfold kindV; rw [h]; rfl
theorem Ext.has {X Y : List ST} (h : Ext X Y) {n m : ByteArray} (hn : hasR (kindV X n).f1 m = true) : hasR (kindV Y n).f1 m = true := by
  cases hk : kindT X n with
  | none => rw [kindV_none hk] at hn; exact absurd hn (by simp [hasR, zT])
  | some t =>
    obtain ⟨t', h1, h2⟩ := h n t hk
    rw [kindV_some hk] at hn
    rw [kindV_some h1]
    exact has_pre h2 hn
theorem Ext.subNo {X Y : List ST} (h : Ext X Y) {x : SS} (hx : subNo X x = false) : subNo Y x = false := by
  unfold Ck.subNo at hx ⊢
  rw [Bool.or_eq_false_iff] at hx ⊢
  cases hk : kindT X x.f0 with
  | none => rw [hk] at hx; exact absurd hx.1 (by decide)
  | some t =>
    obtain ⟨t', h1, h2⟩ := h _ _ hk
    refine ⟨by rw [h1]; rfl, ?_⟩
    cases hb : (x.f1.toList == ([] : List UInt8)) with
    | true => rfl
    | false =>
      rw [hb] at hx
      have h3 : hasR (kindV X x.f0).f1 x.f1 = true := by simpa using hx.2
      rw [h.has h3]; rfl
theorem Ext.subs {X Y : List ST} (h : Ext X Y) (l : List SS) : ∀ (r : List SS) (i : Nat), subsF X l r i = 0 → subsF Y l r i = 0
  | [], _, _ => rfl
  | x :: xs, i, h0 => by
    rw [subsF] at h0 ⊢
    split at h0
    · exact absurd h0 (by decide : ¬ (31 : Int) = 0)
    · rename_i h1
      split at h0
      · exact absurd h0 (by decide : ¬ (32 : Int) = 0)
      · rename_i h2
        rw [if_neg (by rw [h.subNo (by simpa using h1)]; decide), if_neg h2]
        exact h.subs l xs (i + 1) h0
theorem Ext.leads {X Y : List ST} (h : Ext X Y) {subs : List SS} {next : ByteArray} (hl : leadsX X subs next = true) : leadsX Y subs next = true := by
  unfold leadsX at hl ⊢
  obtain ⟨x, hx, hp⟩ := List.any_eq_true.1 hl
  rw [Bool.and_eq_true] at hp
  exact List.any_eq_true.2 ⟨x, hx, by rw [Bool.and_eq_true]; exact ⟨hp.1, h.has hp.2⟩⟩
theorem Ext.find {X Y : List ST} (h : Ext X Y) {n m : ByteArray} {r : SR} (hr : findR X n m = some r) : findR Y n m = some r := by
  unfold findR at hr ⊢
  cases hk : kindT X n with
  | none => rw [kindV_none hk] at hr; exact absurd hr (by simp [zT])
  | some t =>
    obtain ⟨t', h1, h2⟩ := h _ _ hk
    rw [kindV_some hk] at hr
    rw [kindV_some h1]
    exact find_pre h2 hr
theorem Ext.op {X Y : List ST} (h : Ext X Y) {t t' : ST} (hn : t'.f0 = t.f0) (hp : t.f1 <+: t'.f1) {o : SO} (ho : opX X t o = true) : opX Y t' o = true := by
  unfold opX at ho ⊢
  by_cases h2 : o.f0 = 2
  · rw [if_pos h2] at ho ⊢; exact has_pre hp ho
  · rw [if_neg h2] at ho ⊢
    by_cases h3 : o.f0 = 3
    · rw [if_pos h3, Bool.and_eq_true] at ho ⊢
      cases hf : findR X t.f0 o.f1 with
      | none => rw [hf] at ho; exact absurd ho.1 (by decide)
      | some r =>
        have hg : findR Y t'.f0 o.f1 = some r := by rw [hn]; exact h.find hf
        unfold findV at ho ⊢
        rw [hf] at ho
        rw [hg]
        exact ⟨rfl, h.leads ho.2⟩
    · rw [if_neg h3]
theorem Ext.relN {X Y : List ST} (h : Ext X Y) {t t' : ST} (hn : t'.f0 = t.f0) (hp : t.f1 <+: t'.f1) : ∀ (l : List SR), Ck.relN X t l = none → Ck.relN Y t' l = none
  | [], _ => rfl
  | r :: rs, h0 => by
    have hm := relN_none X t (r :: rs) h0 r (by simp)
    have hs : subsX Y r.f4 = 0 := h.subs r.f4 r.f4 0 hm.2.1
    have ht : Ck.relN X t rs = none := by
      rw [Ck.relN] at h0
      split at h0
      · exact absurd h0 (by simp)
      · split at h0
        · exact absurd h0 (by simp)
        · split at h0
          · exact absurd h0 (by simp)
          · exact h0
    rw [Ck.relN, if_neg (by rw [has_pre hp hm.1.1, has_pre hp hm.1.2.1, has_pre hp hm.1.2.2]; decide), if_neg (fun e => e hs), if_neg (by
      intro e
      obtain ⟨o, ho, hb⟩ := List.any_eq_true.1 e
      rw [h.op hn hp (hm.2.2 o ho)] at hb
      exact absurd hb (by decide))]
    exact h.relN hn hp rs ht
theorem countF_skip {X Z : List ST} (hX : ∀ j, ∀ hj : j < X.length, (kindT (X.take j) (X[j]).f0).isSome = false ∧ (X[j]).f1.length ≤ 12 ∧ relF X[j] (X[j]).f1 0 = none) :
    ∀ (n i : Nat), n + i = X.length → countF (X ++ Z) ((X ++ Z).drop i) i = countF (X ++ Z) Z X.length
  | 0, i, hn => by
    obtain rfl : i = X.length := by omega
    rw [List.drop_left]
  | n + 1, i, hn => by
    have hi : i < X.length := by omega
    have hi2 : i < (X ++ Z).length := by rw [List.length_append]; omega
    obtain ⟨a, b, c⟩ := hX i hi
    have e : (X ++ Z)[i] = X[i] := List.getElem_append_left hi
    rw [List.drop_eq_getElem_cons hi2, countF, e, List.take_append_of_le_length (by omega), if_neg (by rw [a]; decide), if_neg (by omega), c]
    exact countF_skip hX n (i + 1) (by omega)
theorem typeN_zero {Y : List ST} : ∀ (l : List ST), (∀ t ∈ l, Ck.relN Y t t.f1 = none) → typeN Y l = (0, ⟨#[]⟩)
  | [], _ => rfl
  | t :: ts, h => by
    rw [typeN, h t (by simp)]
    exact typeN_zero ts (fun x hx => h x (by simp [hx]))
theorem long {Y : List ST} (h : 8 < Y.length) : checkX Y = (13, ⟨#[]⟩) := by
  have hc : countX Y = (13, ⟨#[]⟩) := by unfold countX; rw [if_pos h]
  unfold checkX
  rw [if_pos (by rw [hc]; exact (by decide : (13 : Int) ≠ 0)), hc]
theorem Right.twice {X : List ST} (h : Right X) {t : ST} (ht : t ∈ X) (hl : X.length + 1 ≤ 8) : checkX (X ++ [t]) = (32, t.f0) := by
  have hk : (kindT ((X ++ [t]).take X.length) t.f0).isSome = true := by
    rw [List.take_left]
    obtain ⟨j, hj, rfl⟩ := List.getElem_of_mem ht
    rw [h.kind hj]; rfl
  have hc : countX (X ++ [t]) = (32, t.f0) := by
    unfold countX
    rw [if_neg (by rw [List.length_append]; simp only [List.length_cons, List.length_nil]; omega)]
    have := countF_skip (Z := [t]) h.types X.length 0 rfl
    rw [List.drop_zero] at this
    rw [this, countF, if_pos hk]
  unfold checkX
  rw [if_pos (by rw [hc]; exact (by decide : (32 : Int) ≠ 0)), hc]
theorem ext_append (X Z : List ST) : Ext X (X ++ Z) := fun n t hk => ⟨t, by unfold kindT at hk ⊢; rw [List.find?_append, hk]; rfl, List.prefix_refl _⟩
theorem Right.more {X : List ST} (h : Right X) (n : ByteArray) (hno : kindT X n = none) (hl : X.length + 1 ≤ 8) : checkX (X ++ [⟨n, []⟩]) = (0, ⟨#[]⟩) := by
  have hc : countX (X ++ [⟨n, []⟩]) = (0, ⟨#[]⟩) := by
    unfold countX
    rw [if_neg (by rw [List.length_append]; simp only [List.length_cons, List.length_nil]; omega)]
    have := countF_skip (Z := [⟨n, []⟩]) h.types X.length 0 rfl
    rw [List.drop_zero] at this
    rw [this, countF, if_neg (by rw [List.take_left, hno]; decide), if_neg (by simp)]
    rfl
  unfold checkX
  rw [if_neg (by rw [hc]; exact fun e => e rfl)]
  refine typeN_zero _ fun t ht => ?_
  rcases List.mem_append.1 ht with ht | ht
  · exact (ext_append X _).relN rfl (List.prefix_refl _) t.f1 (typeN_none X X h.names t ht)
  · obtain rfl := List.mem_singleton.1 ht
    rfl
end Go.Proofs.YtkgnhghaiopgcaaDoor.Cl
