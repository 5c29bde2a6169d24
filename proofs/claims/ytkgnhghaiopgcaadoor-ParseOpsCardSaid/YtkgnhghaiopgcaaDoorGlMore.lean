/- More on the document's runes of a list of bytes: joined texts, first runes, names; plain Lean, no program; no condition. -/
import Derived.Test.YtkgnhghaiopgcaaDoorGl
namespace Go.Proofs.YtkgnhghaiopgcaaDoor.Gl

theorem vld_nil : vld [] = true := by rw [vld]; rfl
theorem cnt_nil : cnt [] = 0 := by rw [cnt]; rfl
theorem mays_nil : mays [] = true := by rw [mays]; rfl
theorem vld_step (l : List UInt8) (h : l ≠ []) : vld l = if rlen l = 0 then false else vld (l.drop (stp l)) := by
  rw [vld, if_neg (by simpa using h)]
theorem cnt_step (l : List UInt8) (h : l ≠ []) : cnt l = 1 + cnt (l.drop (stp l)) := by
  rw [cnt, if_neg (by simpa using h)]
theorem mays_step (l : List UInt8) (h : l ≠ []) : mays l = (may l && mays (l.drop (stp l))) := by
  rw [mays, if_neg (by simpa using h)]
theorem whr_step (l : List UInt8) (h : l ≠ []) (at_ : Int) (p : Nat) (line col : Int) : whr l at_ p line col = if at_ ≤ p then (line, col)
  else if l.getD 0 0 = 10 then whr (l.drop (stp l)) at_ (p + stp l) (line + 1) 1
  else whr (l.drop (stp l)) at_ (p + stp l) line (col + 1) := by
  rw [whr, if_neg (by simpa using h)]
theorem whr_nil (at_ : Int) (p : Nat) (line col : Int) : whr [] at_ p line col = (line, col) := by rw [whr]; simp
theorem plc_zero (l : List UInt8) : plc l 0 = 0 := by cases l <;> rfl
theorem plc_nil (n : Nat) : plc [] n = 0 := by cases n <;> simp [plc]
theorem plc_succ (l : List UInt8) (h : l ≠ []) (n : Nat) : plc l (n + 1) = stp l + plc (l.drop (stp l)) n := by
  rw [plc, if_neg (by simpa using h)]

/-- Induction along the runes. -/
theorem runes_ind {P : List UInt8 → Prop} (h0 : P []) (h1 : ∀ l, l ≠ [] → P (l.drop (stp l)) → P l) : ∀ l, P l := by
  have : ∀ (n : Nat) (l : List UInt8), l.length = n → P l := by
    intro n
    induction n using Nat.strongRecOn with
    | _ n ih =>
      intro l hl
      by_cases h : l = []
      · subst h; exact h0
      · have hp := stp_pos l
        have : l.length ≠ 0 := by simpa using h
        exact h1 l h (ih (l.drop (stp l)).length (by simp only [List.length_drop]; omega) _ rfl)
  exact fun l => this _ l rfl

theorem cnt_le (l : List UInt8) : cnt l ≤ l.length := by
  induction l using runes_ind with
  | h0 => simp [cnt_nil]
  | h1 l h ih =>
    rw [cnt_step l h]
    have := stp_le l h; have := stp_pos l
    simp only [List.length_drop] at ih; omega

theorem plc_le (n : Nat) : ∀ l, plc l n ≤ l.length := by
  induction n with
  | zero => intro l; simp [plc_zero]
  | succ n ih =>
    intro l
    by_cases h : l = []
    · subst h; simp [plc_nil]
    · rw [plc_succ l h]
      have h1 := ih (l.drop (stp l)); have h2 := stp_le l h
      simp only [List.length_drop] at h1; omega

theorem stp_append (a b : List UInt8) (h : rlen a ≠ 0) : stp (a ++ b) = stp a := by
  unfold stp; rw [rlen_append a b h]

theorem drop_stp_append (a b : List UInt8) (h : a ≠ []) (hr : rlen a ≠ 0) : (a ++ b).drop (stp (a ++ b)) = a.drop (stp a) ++ b := by
  rw [stp_append a b hr, List.drop_append_of_le_length (stp_le a h)]

theorem vld_head {l : List UInt8} (hv : vld l = true) (h : l ≠ []) : rlen l ≠ 0 ∧ vld (l.drop (stp l)) = true := by
  rw [vld_step l h] at hv
  split at hv
  · exact absurd hv (by simp)
  · exact ⟨by assumption, hv⟩

theorem vld_append (a b : List UInt8) (hv : vld a = true) : vld (a ++ b) = vld b := by
  induction a using runes_ind with
  | h0 => rfl
  | h1 a h ih =>
    obtain ⟨hr, hv'⟩ := vld_head hv h
    rw [vld_step (a ++ b) (by simp [h]), rlen_append a b hr, if_neg hr, drop_stp_append a b h hr]
    exact ih hv'

theorem cnt_append (a b : List UInt8) (hv : vld a = true) : cnt (a ++ b) = cnt a + cnt b := by
  induction a using runes_ind with
  | h0 => simp [cnt_nil]
  | h1 a h ih =>
    obtain ⟨hr, hv'⟩ := vld_head hv h
    rw [cnt_step (a ++ b) (by simp [h]), cnt_step a h, drop_stp_append a b h hr, ih hv']
    omega

theorem plc_append (a b : List UInt8) (hv : vld a = true) : plc (a ++ b) (cnt a) = a.length := by
  induction a using runes_ind with
  | h0 => simp [cnt_nil, plc_zero]
  | h1 a h ih =>
    obtain ⟨hr, hv'⟩ := vld_head hv h
    rw [cnt_step a h, show 1 + cnt (a.drop (stp a)) = cnt (a.drop (stp a)) + 1 by omega, plc_succ (a ++ b) (by simp [h]), drop_stp_append a b h hr, ih hv', stp_append a b hr]
    have := stp_le a h
    simp only [List.length_drop]; omega

theorem mays_vld {l : List UInt8} (hm : mays l = true) : vld l = true := by
  induction l using runes_ind with
  | h0 => exact vld_nil
  | h1 l h ih =>
    rw [mays_step l h, Bool.and_eq_true] at hm
    rw [vld_step l h]
    by_cases hr : rlen l = 0
    · have := hm.1; simp [may, hr] at this
    · rw [if_neg hr]; exact ih hm.2

theorem may_append (a b : List UInt8) (h : rlen a ≠ 0) : may (a ++ b) = may a := by
  have hl := rlen_le a
  have e0 : (a ++ b).getD 0 0 = a.getD 0 0 := getD_append_left a b 0 (by omega)
  unfold may
  rw [rlen_append a b h, if_neg h, if_neg h, e0]
  by_cases h1 : rlen a = 1
  · rw [if_pos h1, if_pos h1]
  · rw [if_neg h1, if_neg h1, getD_append_left a b 1 (by omega)]

theorem mays_append (a b : List UInt8) (hv : vld a = true) : mays (a ++ b) = (mays a && mays b) := by
  induction a using runes_ind with
  | h0 => simp [mays_nil]
  | h1 a h ih =>
    obtain ⟨hr, hv'⟩ := vld_head hv h
    rw [mays_step (a ++ b) (by simp [h]), mays_step a h, drop_stp_append a b h hr, ih hv', may_append a b hr, Bool.and_assoc]

theorem plc_add (a b : Nat) : ∀ l, plc l (a + b) = plc l a + plc (l.drop (plc l a)) b := by
  induction a with
  | zero => intro l; simp [plc_zero]
  | succ a ih =>
    intro l
    by_cases h : l = []
    · subst h; simp [plc_nil]
    · rw [show a + 1 + b = (a + b) + 1 by omega, plc_succ l h, plc_succ l h, ih, ← List.drop_drop]
      omega

theorem take_ne_nil {l : List UInt8} (h : l ≠ []) {m : Nat} (hm : 1 ≤ m) : l.take m ≠ [] := by
  have : l.length ≠ 0 := by simpa using h
  intro e
  have := congrArg List.length e
  simp only [List.length_take, List.length_nil] at this; omega

theorem cnt_take (n : Nat) : ∀ l, cnt (l.take (plc l n)) = min n (cnt l) := by
  induction n with
  | zero => intro l; simp [plc_zero, cnt_nil]
  | succ n ih =>
    intro l
    by_cases h : l = []
    · subst h; simp [plc_nil, cnt_nil]
    · have hs := stp_pos l
      rw [plc_succ l h, cnt_step l h, cnt_step (l.take _) (take_ne_nil h (by omega)), stp_take l _ (by omega), List.drop_take]
      rw [show stp l + plc (l.drop (stp l)) n - stp l = plc (l.drop (stp l)) n by omega, ih]
      omega

theorem cnt_drop (n : Nat) : ∀ l, min n (cnt l) + cnt (l.drop (plc l n)) = cnt l := by
  induction n with
  | zero => intro l; simp [plc_zero]
  | succ n ih =>
    intro l
    by_cases h : l = []
    · subst h; simp [plc_nil, cnt_nil]
    · have := ih (l.drop (stp l))
      rw [plc_succ l h, cnt_step l h, ← List.drop_drop]
      omega

/-- A place that is no rune's begin has no rune. -/
theorem cont_broken (l : List UInt8) (hc : 128 ≤ (l.getD 0 0).toNat ∧ (l.getD 0 0).toNat ≤ 191) : rlen l = 0 := by
  rcases rlen_cases l with e | ⟨e, h1⟩ | ⟨e, h1⟩ | ⟨e, h1⟩ | ⟨e, h1⟩ <;> omega

theorem inside_broken (l : List UInt8) (k : Nat) (h0 : 0 < k) (hk : k < rlen l) : rlen (l.drop k) = 0 := by
  have hl := rlen_le l
  apply cont_broken
  · have e : (l.drop k).getD 0 0 = l.getD k 0 := by simp [List.getD_eq_getElem?_getD, List.getElem?_drop]
    rw [e]
    rcases rlen_cases l with e | ⟨e, h1⟩ | ⟨e, h1⟩ | ⟨e, h1⟩ | ⟨e, h1⟩
    · omega
    · omega
    · have : k = 1 := by omega
      subst this; omega
    · have : k = 1 ∨ k = 2 := by omega
      rcases this with rfl | rfl <;> omega
    · have : k = 1 ∨ k = 2 ∨ k = 3 := by omega
      rcases this with rfl | rfl | rfl <;> omega

end Go.Proofs.YtkgnhghaiopgcaaDoor.Gl
