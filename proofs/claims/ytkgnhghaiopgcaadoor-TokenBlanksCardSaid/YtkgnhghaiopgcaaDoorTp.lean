/- Texts behind each other: what becomes of their tokens; plain Lean, no program walked; no condition. -/
import Derived.Test.YtkgnhghaiopgcaaDoorTkFn
set_option linter.unusedVariables false
set_option linter.unusedSimpArgs false
namespace Go.Proofs.YtkgnhghaiopgcaaDoor.Tp
open Go.Proofs.YtkgnhghaiopgcaaDoor.Gl Go.Proofs.YtkgnhghaiopgcaaDoor.X Go.Proofs.YtkgnhghaiopgcaaDoor.Tk Go.Proofs.YtkgnhghaiopgcaaDoor.TkFn

/-! ### Places moved on -/
def sh (d : Nat) : R → R
  | .ok ts => .ok (ts.map fun t => ⟨t.kind, t.text, t.at_ + d⟩)
  | .error (e, p) => .error (e, p + d)
theorem sh_cons (d : Nat) (t : Tok) (r : R) : sh d (cons t r) = cons ⟨t.kind, t.text, t.at_ + d⟩ (sh d r) := by
  cases r <;> simp [sh, cons]
theorem tk_shift (d : Nat) (l : List UInt8) : ∀ p, tk l (p + d) = sh d (tk l p) := by
  induction l using tk_ind with
  | h0 => intro p; rw [tk_nil, tk_nil]; rfl
  | hb l h hb ih => intro p; rw [tk_blank h hb, tk_blank h hb, show p + d + 1 = p + 1 + d by omega]; exact ih _
  | hn l h ih => intro p; rw [tk_note h, tk_note h, show p + d + noteLen l = p + noteLen l + d by omega]; exact ih _
  | hsl l h h2 => intro p; rw [tk_slash h h2, tk_slash h h2]; rfl
  | hs l h hs ih => intro p; rw [tk_sign h hs, tk_sign h hs, sh_cons, show p + d + 1 = p + 1 + d by omega, ih]
  | hw l h hc ih => intro p; rw [tk_word h hc, tk_word h hc, sh_cons, show p + d + wlen l = p + wlen l + d by omega, ih]
  | hlg l h hc => intro p; rw [tk_long h hc, tk_long h hc]; rfl
  | ho l h h1 h2 h3 h4 => intro p; rw [tk_other h h1 h2 h3 h4, tk_other h h1 h2 h3 h4]; rfl

/-! ### An ASCII byte behind -/
theorem inside_cont (l : List UInt8) (k : Nat) (h0 : 0 < k) (hk : k < rlen l) : 128 ≤ (l.getD k 0).toNat := by
  rcases rlen_cases l with e | ⟨e, h1⟩ | ⟨e, h1⟩ | ⟨e, h1⟩ | ⟨e, h1⟩
  · omega
  · omega
  · have : k = 1 := by omega
    subst this; omega
  · have : k = 1 ∨ k = 2 := by omega
    rcases this with rfl | rfl <;> omega
  · have : k = 1 ∨ k = 2 ∨ k = 3 := by omega
    rcases this with rfl | rfl | rfl <;> omega

theorem rlen_asc (a : List UInt8) (c : UInt8) (r : List UInt8) (ha : a ≠ []) (hc : c.toNat < 128) : rlen (a ++ c :: r) = rlen a := by
  by_cases h : rlen a = 0
  · rw [h]
    have h1 := rlen_take (a ++ c :: r) a.length
    rw [List.take_left, h] at h1
    split at h1
    · exact h1.symm
    · have hp : 0 < a.length := List.length_pos_iff.mpr ha
      have h2 := inside_cont (a ++ c :: r) a.length hp (by omega)
      have e : (a ++ c :: r).getD a.length 0 = c := by simp [List.getD_eq_getElem?_getD]
      rw [e] at h2; omega
  · exact rlen_append a _ h
theorem stp_asc (a : List UInt8) (c : UInt8) (r : List UInt8) (ha : a ≠ []) (hc : c.toNat < 128) : stp (a ++ c :: r) = stp a := by
  unfold stp; rw [rlen_asc a c r ha hc]
theorem drop_asc (a : List UInt8) (c : UInt8) (r : List UInt8) (ha : a ≠ []) (hc : c.toNat < 128) : (a ++ c :: r).drop (stp (a ++ c :: r)) = a.drop (stp a) ++ c :: r := by
  rw [stp_asc a c r ha hc, List.drop_append_of_le_length (stp_le a ha)]
theorem may_asc (a : List UInt8) (c : UInt8) (r : List UInt8) (ha : a ≠ []) (hc : c.toNat < 128) : may (a ++ c :: r) = may a := by
  by_cases h : rlen a = 0
  · unfold may; rw [rlen_asc a c r ha hc, if_pos h, if_pos h]
  · exact may_append a _ h
theorem rlen_one (c : UInt8) (r : List UInt8) (hc : c.toNat < 128) : rlen (c :: r) = 1 := by
  unfold rlen; rw [if_neg (by simp), if_pos (by simpa using hc)]
theorem stp_one (c : UInt8) (r : List UInt8) (hc : c.toNat < 128) : stp (c :: r) = 1 := by
  unfold stp; rw [rlen_one c r hc]; rfl
theorem vld_cons (c : UInt8) (r : List UInt8) (hc : c.toNat < 128) : vld (c :: r) = vld r := by
  rw [vld_step _ (by simp), rlen_one c r hc, stp_one c r hc]; rfl
theorem vld_asc (a : List UInt8) (c : UInt8) (r : List UInt8) (hc : c.toNat < 128) : vld (a ++ c :: r) = (vld a && vld r) := by
  induction a using runes_ind with
  | h0 => rw [List.nil_append, vld_cons c r hc, vld_nil]; rfl
  | h1 a h ih =>
    rw [vld_step (a ++ c :: r) (by simp), vld_step a h, rlen_asc a c r h hc, drop_asc a c r h hc]
    by_cases hr : rlen a = 0
    · rw [if_pos hr, if_pos hr]; rfl
    · rw [if_neg hr, if_neg hr, ih]
theorem brk_asc (a : List UInt8) (c : UInt8) (r : List UInt8) (hc : c.toNat < 128) (hv : vld a = false) : brk (a ++ c :: r) = brk a := by
  induction a using runes_ind with
  | h0 => rw [vld_nil] at hv; exact absurd hv (by decide)
  | h1 a h ih =>
    by_cases hr : rlen a = 0
    · rw [brk_zero hr, brk_zero (by rw [rlen_asc a c r h hc]; exact hr)]
    · rw [vld_step a h, if_neg hr] at hv
      rw [brk_step (l := a ++ c :: r) (by simp) (by rw [rlen_asc a c r h hc]; exact hr), brk_step h hr, drop_asc a c r h hc, stp_asc a c r h hc, ih hv]
theorem brk_append (a b : List UInt8) (hv : vld a = true) : brk (a ++ b) = a.length + brk b := by
  induction a using runes_ind with
  | h0 => simp
  | h1 a h ih =>
    obtain ⟨hr, hv'⟩ := vld_head hv h
    have := stp_le a h
    rw [brk_step (l := a ++ b) (by simp [h]) (by rw [rlen_append a b hr]; exact hr), drop_stp_append a b h hr, stp_append a b hr, ih hv', List.length_drop]
    omega
theorem brk_lt (a : List UInt8) (hv : vld a = false) : brk a < a.length := by
  induction a using runes_ind with
  | h0 => rw [vld_nil] at hv; exact absurd hv (by decide)
  | h1 a h ih =>
    have hp : 0 < a.length := List.length_pos_iff.mpr h
    by_cases hr : rlen a = 0
    · rw [brk_zero hr]; exact hp
    · rw [vld_step a h, if_neg hr] at hv
      have := ih hv
      have := stp_le a h
      rw [brk_step h hr]
      simp only [List.length_drop] at *; omega

/-! ### A byte that is nowhere in a valid text -/
theorem big_broken (l : List UInt8) (h : (255 : UInt8) ∈ l) : vld l = false := by
  induction l using runes_ind with
  | h0 => simp at h
  | h1 l hne ih =>
    rw [vld_step l hne]
    by_cases hr : rlen l = 0
    · rw [if_pos hr]
    · rw [if_neg hr]
      apply ih
      rw [← List.take_append_drop (stp l) l, List.mem_append] at h
      rcases h with h | h
      · exfalso
        obtain ⟨i, hi, he⟩ := List.mem_iff_getElem.1 h
        simp only [List.length_take] at hi
        rw [List.getElem_take] at he
        have hg : (l.getD i 0).toNat = 255 := by rw [List.getD_eq_getElem?_getD, List.getElem?_eq_getElem (by omega)]; simp [he]
        have hs : stp l = rlen l := by unfold stp; rw [if_neg hr]
        rcases rlen_cases l with e | ⟨e, h1⟩ | ⟨e, h1⟩ | ⟨e, h1⟩ | ⟨e, h1⟩
        · exact hr e
        · have : i = 0 := by omega
          subst this; omega
        · have : i = 0 ∨ i = 1 := by omega
          rcases this with rfl | rfl <;> omega
        · have : i = 0 ∨ i = 1 ∨ i = 2 := by omega
          rcases this with rfl | rfl | rfl <;> omega
        · have : i = 0 ∨ i = 1 ∨ i = 2 ∨ i = 3 := by omega
          rcases this with rfl | rfl | rfl | rfl <;> omega
      · exact h

/-! ### Words -/
theorem mays_head {w : List UInt8} (hm : mays w = true) (h : w ≠ []) : may w = true ∧ mays (w.drop (stp w)) = true := by
  rw [mays_step w h, Bool.and_eq_true] at hm; exact hm
theorem wlen_append (w r : List UInt8) (hm : mays w = true) : wlen (w ++ r) = w.length + wlen r := by
  induction w using runes_ind with
  | h0 => simp
  | h1 w h ih =>
    obtain ⟨h1, h2⟩ := mays_head hm h
    have hr := may_rlen h1
    have hs := stp_le w h
    rw [wlen_step _ (by simp [h]), may_append w r hr, if_pos h1, drop_stp_append w r h hr, stp_append w r hr, ih h2, List.length_drop]
    omega
theorem name_mays {w : List UInt8} (h : name w = true) : mays w = true ∧ w ≠ [] ∧ cnt w ≤ 24 := by
  simp only [name, Bool.and_eq_true, decide_eq_true_eq] at h
  refine ⟨h.1, ?_, h.2.2⟩
  intro e; rw [e, cnt_nil] at h; omega
theorem may_word {w r : List UInt8} (hm : mays w = true) (h : w ≠ []) : may (w ++ r) = true := by
  have h1 := (mays_head hm h).1
  rw [may_append w r (may_rlen h1)]; exact h1
theorem tk_name {w r : List UInt8} (h : name w = true) (hr : may r = false) (p : Nat) : tk (w ++ r) p = cons ⟨1, w, p⟩ (tk r (p + w.length)) := by
  obtain ⟨hm, hne, hc⟩ := name_mays h
  have hw : wlen (w ++ r) = w.length := by rw [wlen_append w r hm, wlen_zero (by rw [hr]; decide)]; rfl
  have ht : (w ++ r).take (wlen (w ++ r)) = w := by rw [hw, List.take_left]
  rw [tk_word (may_word hm hne) (by rw [ht]; exact hc), ht, hw, List.drop_left]
theorem may_byte (c : UInt8) (r : List UInt8) (hc : c.toNat < 128) : may (c :: r) = decide (c.toNat = 95 ∨ (97 ≤ c.toNat ∧ c.toNat ≤ 122) ∨ (65 ≤ c.toNat ∧ c.toNat ≤ 90) ∨ (48 ≤ c.toNat ∧ c.toNat ≤ 57)) := by
  unfold may; rw [rlen_one c r hc, if_neg (by decide), if_pos rfl]; rfl

/-! ### A newline between -/
theorem tk_ne (l : List UInt8) : ∀ p ts, tk l p = .ok ts → ts ≠ [] := by
  have hc : ∀ (t : Tok) (r : R) (ts : List Tok), cons t r = .ok ts → ts ≠ [] := by
    intro t r ts h
    cases r with
    | error e => simp [cons] at h
    | ok us => simp only [cons, Except.ok.injEq] at h; rw [← h]; simp
  induction l using tk_ind with
  | h0 => intro p ts h; rw [tk_nil] at h; injection h with h; rw [← h]; simp
  | hb l h hb ih => intro p ts ht; rw [tk_blank h hb] at ht; exact ih _ _ ht
  | hn l h ih => intro p ts ht; rw [tk_note h] at ht; exact ih _ _ ht
  | hsl l h h2 => intro p ts ht; rw [tk_slash h h2] at ht; injection ht
  | hs l h hs ih => intro p ts ht; rw [tk_sign h hs] at ht; exact hc _ _ _ ht
  | hw l h hc2 ih => intro p ts ht; rw [tk_word h hc2] at ht; exact hc _ _ _ ht
  | hlg l h hc2 => intro p ts ht; rw [tk_long h hc2] at ht; injection ht
  | ho l h h1 h2 h3 h4 => intro p ts ht; rw [tk_other h h1 h2 h3 h4] at ht; injection ht

def join : R → R → R
  | .ok ts, .ok us => .ok (ts.dropLast ++ us)
  | .ok _, .error e => .error e
  | .error e, _ => .error e
theorem join_cons (t : Tok) (x y : R) (h : ∀ ts, x = .ok ts → ts ≠ []) : join (cons t x) y = cons t (join x y) := by
  cases x with
  | error e => rfl
  | ok ts =>
    have := h ts rfl
    cases y with
    | error e => rfl
    | ok us =>
      show (Except.ok ((t :: ts).dropLast ++ us) : R) = .ok (t :: (ts.dropLast ++ us))
      rw [List.dropLast_cons_of_ne_nil this]; rfl
theorem join_end (p : Nat) (y : R) : join (.ok [⟨3, [], p⟩]) y = y := by
  cases y <;> rfl
theorem getD_app (a b : List UInt8) (h : a ≠ []) : (a ++ b).getD 0 0 = a.getD 0 0 := getD_append_left a b 0 (List.length_pos_iff.mpr h)
theorem noteLen_app (a r : List UInt8) : noteLen (a ++ 10 :: r) = noteLen a := by
  induction a with
  | nil => simp [noteLen]
  | cons c a ih =>
    rw [List.cons_append, noteLen, noteLen]
    split <;> simp [ih]
theorem noteLen_none (a : List UInt8) (h : (10 : UInt8) ∉ a) : noteLen a = a.length := by
  induction a with
  | nil => rfl
  | cons c a ih =>
    simp only [List.mem_cons, not_or] at h
    rw [noteLen, if_neg (fun e => h.1 e.symm), ih h.2]; rfl
theorem wlen_asc (a : List UInt8) (c : UInt8) (r : List UInt8) (hc : c.toNat < 128) (hm : may (c :: r) = false) : wlen (a ++ c :: r) = wlen a := by
  induction a using runes_ind with
  | h0 => rw [List.nil_append, wlen_nil, wlen_zero (by rw [hm]; decide)]
  | h1 a h ih => rw [wlen_step _ (by simp), wlen_step a h, may_asc a c r h hc, drop_asc a c r h hc, stp_asc a c r h hc, ih]
theorem take_two (a r : List UInt8) (c : UInt8) (hc : c ≠ 47) : (a ++ c :: r).take 2 = [47, 47] ↔ a.take 2 = [47, 47] := by
  match a with
  | [] => simp [hc]
  | [x] => simp [hc]
  | x :: y :: z => simp
/-- Behind a newline all begins anew. -/
theorem tk_nl (a : List UInt8) : ∀ p r, tk (a ++ 10 :: r) p = join (tk a p) (tk r (p + a.length + 1)) := by
  induction a using tk_ind with
  | h0 =>
    intro p r
    rw [tk_nil, join_end, List.nil_append, tk_blank (l := 10 :: r) (by simp) rfl]; rfl
  | hb a h hb ih =>
    intro p r
    have hd : (a ++ 10 :: r).drop 1 = a.drop 1 ++ 10 :: r := List.drop_append_of_le_length (List.length_pos_iff.mpr h)
    have hl : 0 < a.length := List.length_pos_iff.mpr h
    rw [tk_blank (by simp) (by rw [getD_app _ _ h]; exact hb), hd, ih, tk_blank h hb, List.length_drop, show p + 1 + (a.length - 1) + 1 = p + a.length + 1 by omega]
  | hn a h ih =>
    intro p r
    have hle := noteLen_le a
    rw [tk_note ((take_two a r 10 (by decide)).mpr h), tk_note h, noteLen_app, List.drop_append_of_le_length hle, ih, List.length_drop, show p + noteLen a + (a.length - noteLen a) + 1 = p + a.length + 1 by omega]
  | hsl a h h2 =>
    intro p r
    have hne : a ≠ [] := by intro e; rw [e] at h; exact absurd h (by decide)
    rw [tk_slash (by rw [getD_app _ _ hne]; exact h) (fun e => h2 ((take_two a r 10 (by decide)).mp e)), tk_slash h h2]; rfl
  | hs a h hs ih =>
    intro p r
    have hl : 0 < a.length := List.length_pos_iff.mpr h
    have hd : (a ++ 10 :: r).drop 1 = a.drop 1 ++ 10 :: r := List.drop_append_of_le_length hl
    have ht : (a ++ 10 :: r).take 1 = a.take 1 := List.take_append_of_le_length hl
    rw [tk_sign (by simp) (by rw [getD_app _ _ h]; exact hs), hd, ht, ih, tk_sign h hs, join_cons _ _ _ (tk_ne _ _), List.length_drop, show p + 1 + (a.length - 1) + 1 = p + a.length + 1 by omega]
  | hw a h hc ih =>
    intro p r
    have hne := may_ne h
    have hle := wlen_le a
    have hw : wlen (a ++ 10 :: r) = wlen a := wlen_asc a 10 r (by decide) (by rw [may_byte _ _ (by decide)]; decide)
    have ht : (a ++ 10 :: r).take (wlen a) = a.take (wlen a) := List.take_append_of_le_length hle
    rw [tk_word (by rw [may_asc a 10 r hne (by decide)]; exact h) (by rw [hw, ht]; exact hc), hw, ht, List.drop_append_of_le_length hle, ih, tk_word h hc, join_cons _ _ _ (tk_ne _ _), List.length_drop, show p + wlen a + (a.length - wlen a) + 1 = p + a.length + 1 by omega]
  | hlg a h hc =>
    intro p r
    have hne := may_ne h
    have hle := wlen_le a
    have hw : wlen (a ++ 10 :: r) = wlen a := wlen_asc a 10 r (by decide) (by rw [may_byte _ _ (by decide)]; decide)
    have ht : (a ++ 10 :: r).take (wlen a) = a.take (wlen a) := List.take_append_of_le_length hle
    rw [tk_long (by rw [may_asc a 10 r hne (by decide)]; exact h) (by rw [hw, ht]; exact hc), tk_long h hc]; rfl
  | ho a h h1 h2 h3 h4 =>
    intro p r
    rw [tk_other (by simp) (by rw [getD_app _ _ h]; exact h1) (by rw [getD_app _ _ h]; exact h2) (by rw [getD_app _ _ h]; exact h3) (by rw [may_asc a 10 r h (by decide)]; exact h4), tk_other h h1 h2 h3 h4]; rfl

/-! ### Errors' places, and numbers -/
theorem tk_err (l : List UInt8) (hv : vld l = true) : ∀ p e q, tk l p = .error (e, q) → (e = 30 ∨ e = 31) ∧ p ≤ q ∧ q < p + l.length := by
  have hc : ∀ (t : Tok) (r : R) (e : Int) (q : Nat), cons t r = .error (e, q) → r = .error (e, q) := by
    intro t r e q h
    cases r with
    | error x => exact h
    | ok us => simp [cons] at h
  induction l using tk_ind with
  | h0 => intro p e q h; rw [tk_nil] at h; injection h
  | hb l h hb ih =>
    intro p e q ht
    have hl : 0 < l.length := List.length_pos_iff.mpr h
    have h7 : (l.getD 0 0).toNat < 128 := by have := of_decide_eq_true hb; omega
    rw [tk_blank h hb] at ht
    have := ih (vld_one hv h h7) _ _ _ ht
    simp only [List.length_drop] at this; omega
  | hn l h ih =>
    intro p e q ht; rw [tk_note h] at ht
    have hle := noteLen_le l
    have := ih (vld_note hv) _ _ _ ht
    simp only [List.length_drop] at this; omega
  | hsl l h h2 =>
    intro p e q ht; rw [tk_slash h h2] at ht
    have hne : l ≠ [] := by intro x; rw [x] at h; exact absurd h (by decide)
    have hl : 0 < l.length := List.length_pos_iff.mpr hne
    injection ht with ht; injection ht with h1 h2; subst h1; subst h2; omega
  | hs l h hs ih =>
    intro p e q ht
    have hl : 0 < l.length := List.length_pos_iff.mpr h
    have hlt : (l.getD 0 0).toNat < 128 := by
      simp only [isSign, Bool.or_eq_true, decide_eq_true_eq] at hs; omega
    rw [tk_sign h hs] at ht
    have := ih (vld_one hv h hlt) _ _ _ (hc _ _ _ _ ht)
    simp only [List.length_drop] at this; omega
  | hw l h hc2 ih =>
    intro p e q ht; rw [tk_word h hc2] at ht
    have hle := wlen_le l
    have := ih (vld_wlen hv) _ _ _ (hc _ _ _ _ ht)
    simp only [List.length_drop] at this; omega
  | hlg l h hc2 =>
    intro p e q ht; rw [tk_long h hc2] at ht
    have hl : 0 < l.length := List.length_pos_iff.mpr (may_ne h)
    injection ht with ht; injection ht with h1 h2; subst h1; subst h2; omega
  | ho l h h1 h2 h3 h4 =>
    intro p e q ht; rw [tk_other h h1 h2 h3 h4] at ht
    have hl : 0 < l.length := List.length_pos_iff.mpr h
    injection ht with ht; injection ht with h1 h2; subst h1; subst h2; omega

end Go.Proofs.YtkgnhghaiopgcaaDoor.Tp
