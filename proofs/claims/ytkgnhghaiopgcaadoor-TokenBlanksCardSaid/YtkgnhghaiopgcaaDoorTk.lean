/- The document's tokens of a list of bytes, and what follows from their definition; plain Lean, no program walked; no condition. -/
import Derived.Test.YtkgnhghaiopgcaaDoorGlMore
import Derived.Test.YtkgnhghaiopgcaaDoorX5
import Derived.Stop.FmtQuoteTie
set_option linter.unusedVariables false
set_option linter.unusedSimpArgs false
namespace Go.Proofs.YtkgnhghaiopgcaaDoor.Tk
open Go.Proofs.YtkgnhghaiopgcaaDoor.Gl Go.Proofs.YtkgnhghaiopgcaaDoor.X Go.Extern.FmtText

/-- How many bytes the word ahead has. -/
def wlen (l : List UInt8) : Nat :=
  if l.length = 0 then 0 else if may l = true then stp l + wlen (l.drop (stp l)) else 0
termination_by l.length
decreasing_by simp only [List.length_drop]; have := stp_pos l; omega

theorem wlen_nil : wlen [] = 0 := by rw [wlen]; rfl
theorem wlen_step (l : List UInt8) (h : l ≠ []) : wlen l = if may l = true then stp l + wlen (l.drop (stp l)) else 0 := by
  rw [wlen, if_neg (by simpa using h)]
theorem may_nil : may [] = false := by decide
theorem may_ne {l : List UInt8} (h : may l = true) : l ≠ [] := by
  intro e; rw [e, may_nil] at h; exact absurd h (by decide)
theorem may_rlen {l : List UInt8} (h : may l = true) : rlen l ≠ 0 := by
  intro e; unfold may at h; rw [if_pos e] at h; exact absurd h (by decide)
theorem wlen_le (l : List UInt8) : wlen l ≤ l.length := by
  induction l using runes_ind with
  | h0 => simp [wlen_nil]
  | h1 l h ih =>
    rw [wlen_step l h]
    have := stp_le l h
    simp only [List.length_drop] at ih
    split <;> omega
theorem wlen_pos {l : List UInt8} (h : may l = true) : 1 ≤ wlen l := by
  rw [wlen_step l (may_ne h), if_pos h]; have := stp_pos l; omega
theorem wlen_zero {l : List UInt8} (h : ¬ may l = true) : wlen l = 0 := by
  by_cases e : l = []
  · rw [e, wlen_nil]
  · rw [wlen_step l e, if_neg h]
/-- Behind the word ahead none goes on. -/
theorem wlen_ends (l : List UInt8) : may (l.drop (wlen l)) = false := by
  induction l using runes_ind with
  | h0 => rw [List.drop_nil]; exact may_nil
  | h1 l h ih =>
    rw [wlen_step l h]
    by_cases hm : may l = true
    · rw [if_pos hm, ← List.drop_drop]; exact ih
    · rw [if_neg hm]; simpa using hm
theorem stp_take_le {l : List UInt8} (h : l ≠ []) {m : Nat} (hm : stp l ≤ m) : l.take m ≠ [] := take_ne_nil h (Nat.le_trans (stp_pos l) hm)
theorem drop_stp_take (l : List UInt8) (m : Nat) (h : stp l ≤ m) : (l.take m).drop (stp (l.take m)) = (l.drop (stp l)).take (m - stp l) := by
  rw [stp_take l m h, List.drop_take]
theorem may_take {l : List UInt8} {m : Nat} (h : may l = true) (hm : stp l ≤ m) : may (l.take m) = true := by
  have hr := may_rlen h
  have hs : stp l = rlen l := by unfold stp; rw [if_neg hr]
  have h1 : rlen (l.take m) = rlen l := by rw [rlen_take, if_pos (by omega)]
  have : may (l.take m ++ l.drop m) = may (l.take m) := may_append _ _ (by rw [h1]; exact hr)
  rw [List.take_append_drop] at this
  rw [← this]; exact h
theorem mays_wlen (l : List UInt8) : mays (l.take (wlen l)) = true := by
  induction l using runes_ind with
  | h0 => simp [mays_nil]
  | h1 l h ih =>
    rw [wlen_step l h]
    by_cases hm : may l = true
    · rw [if_pos hm]
      have hne := stp_take_le h (m := stp l + wlen (l.drop (stp l))) (by omega)
      rw [mays_step _ hne, drop_stp_take _ _ (by omega), may_take hm (by omega)]
      rw [show stp l + wlen (l.drop (stp l)) - stp l = wlen (l.drop (stp l)) by omega, ih]; rfl
    · rw [if_neg hm]; simp [mays_nil]
theorem vld_wlen {l : List UInt8} (hv : vld l = true) : vld (l.drop (wlen l)) = true := by
  induction l using runes_ind with
  | h0 => simpa [wlen_nil] using hv
  | h1 l h ih =>
    rw [wlen_step l h]
    by_cases hm : may l = true
    · rw [if_pos hm, ← List.drop_drop]; exact ih (vld_head hv h).2
    · rw [if_neg hm]; simpa using hv

/-- How many bytes stand ahead of a newline, or of the end. -/
theorem noteLen_le (l : List UInt8) : noteLen l ≤ l.length := by rw [noteLen_upto]; exact uptoByte_le _ _
theorem noteLen_skip : ∀ (n : Nat) (l : List UInt8), n ≤ l.length → (∀ i, i < n → l.getD i 0 ≠ 10) → noteLen l = n + noteLen (l.drop n) := by
  intro n
  induction n with
  | zero => intro l _ _; simp
  | succ n ih =>
    intro l hl h
    cases l with
    | nil => simp at hl
    | cons c r =>
      have hc : c ≠ 10 := h 0 (by omega)
      rw [noteLen, if_neg hc, ih r (by simpa using hl) (fun i hi => h (i + 1) (by omega))]
      simp; omega
theorem getD_ne_ten {l : List UInt8} {i : Nat} (h : (l.getD i 0).toNat ≠ 10) : l.getD i 0 ≠ 10 := fun e => h (by rw [e]; rfl)
theorem noteLen_stp {l : List UInt8} (hr : rlen l ≠ 0) (h10 : l.getD 0 0 ≠ 10) : noteLen l = stp l + noteLen (l.drop (stp l)) := by
  have hs : stp l = rlen l := by unfold stp; rw [if_neg hr]
  have hle := rlen_le l
  have hc := rlen_cases l
  rw [hs]
  apply noteLen_skip _ _ hle
  intro i hi
  by_cases hi0 : i = 0
  · subst hi0; exact h10
  apply getD_ne_ten
  rcases hc with e | ⟨e, _⟩ | ⟨e, h1⟩ | ⟨e, h1⟩ | ⟨e, h1⟩
  · exact absurd e hr
  · omega
  · have : i = 1 := by omega
    subst this; omega
  · have : i = 1 ∨ i = 2 := by omega
    rcases this with rfl | rfl <;> omega
  · have : i = 1 ∨ i = 2 ∨ i = 3 := by omega
    rcases this with rfl | rfl | rfl <;> omega
theorem noteLen_ten {l : List UInt8} (h : l.getD 0 0 = 10) : noteLen l = 0 := by
  cases l with
  | nil => rfl
  | cons c r => rw [noteLen, if_pos (by simpa using h)]
theorem vld_note {l : List UInt8} (hv : vld l = true) : vld (l.drop (noteLen l)) = true := by
  induction l using runes_ind with
  | h0 => simpa [noteLen] using hv
  | h1 l h ih =>
    obtain ⟨hr, hv'⟩ := vld_head hv h
    by_cases h10 : l.getD 0 0 = 10
    · rw [noteLen_ten h10]; simpa using hv
    · rw [noteLen_stp hr h10, ← List.drop_drop]; exact ih hv'
theorem noteLen_two {l : List UInt8} (h : l.take 2 = [47, 47]) : 2 ≤ noteLen l := by
  match l, h with
  | [], h => simp at h
  | [a], h => simp at h
  | a :: b :: r, h =>
    simp at h; obtain ⟨rfl, rfl⟩ := h
    simp [noteLen]

structure Tok where
  kind : Int
  text : List UInt8
  at_ : Nat
deriving DecidableEq

def blk (c : UInt8) : Bool := decide (c.toNat = 32 ∨ c.toNat = 9 ∨ c.toNat = 10)

abbrev R := Except (Int × Nat) (List Tok)
def cons (t : Tok) : R → R
  | .ok l => .ok (t :: l)
  | .error e => .error e

/-- The tokens of a text without broken bytes, behind place p. -/
def tk (l : List UInt8) (p : Nat) : R :=
  if _h0 : l.length = 0 then .ok [⟨3, [], p⟩]
  else if blk (l.getD 0 0) = true then tk (l.drop 1) (p + 1)
  else if l.getD 0 0 = 47 then (if _h1 : l.take 2 = [47, 47] then tk (l.drop (noteLen l)) (p + noteLen l) else .error (30, p))
  else if isSign (l.getD 0 0).toNat = true then cons ⟨2, l.take 1, p⟩ (tk (l.drop 1) (p + 1))
  else if _h2 : may l = true then (if cnt (l.take (wlen l)) ≤ 24 then cons ⟨1, l.take (wlen l), p⟩ (tk (l.drop (wlen l)) (p + wlen l)) else .error (31, p))
  else .error (30, p)
termination_by l.length
decreasing_by
  · simp only [List.length_drop]; omega
  · simp only [List.length_drop]; have := noteLen_two _h1; omega
  · simp only [List.length_drop]; omega
  · simp only [List.length_drop]; have := wlen_pos _h2; omega

theorem tk_nil (p : Nat) : tk [] p = .ok [⟨3, [], p⟩] := by rw [tk]; simp
theorem len_ne {l : List UInt8} (h : l ≠ []) : ¬ l.length = 0 := by simpa using h
theorem tk_blank {l : List UInt8} (h : l ≠ []) (hb : blk (l.getD 0 0) = true) (p : Nat) : tk l p = tk (l.drop 1) (p + 1) := by
  rw [tk, dif_neg (len_ne h), if_pos hb]
theorem blk_slash {l : List UInt8} (h : l.getD 0 0 = 47) : ¬ blk (l.getD 0 0) = true := by rw [h]; decide
theorem tk_note {l : List UInt8} (h : l.take 2 = [47, 47]) (p : Nat) : tk l p = tk (l.drop (noteLen l)) (p + noteLen l) := by
  have hl : l ≠ [] := by intro e; rw [e] at h; simp at h
  have h0 : l.getD 0 0 = 47 := by
    match l, h with
    | [], h => simp at h
    | a :: r, h => cases r <;> simp at h <;> simp [h.1]
  rw [tk, dif_neg (len_ne hl), if_neg (blk_slash h0), if_pos h0, dif_pos h]
theorem tk_slash {l : List UInt8} (h0 : l.getD 0 0 = 47) (h : ¬ l.take 2 = [47, 47]) (p : Nat) : tk l p = .error (30, p) := by
  have hl : l ≠ [] := by intro e; rw [e] at h0; exact absurd h0 (by decide)
  rw [tk, dif_neg (len_ne hl), if_neg (blk_slash h0), if_pos h0, dif_neg h]
theorem sign_not {c : UInt8} (h : isSign c.toNat = true) : ¬ blk c = true ∧ c ≠ 47 := by
  have hn : c.toNat ≠ 32 ∧ c.toNat ≠ 9 ∧ c.toNat ≠ 10 ∧ c.toNat ≠ 47 := by
    simp only [isSign, Bool.or_eq_true, decide_eq_true_eq] at h; omega
  refine ⟨?_, fun e => hn.2.2.2 (by rw [e]; rfl)⟩
  simp only [blk, decide_eq_true_eq]; omega
theorem tk_sign {l : List UInt8} (h : l ≠ []) (hs : isSign (l.getD 0 0).toNat = true) (p : Nat) : tk l p = cons ⟨2, l.take 1, p⟩ (tk (l.drop 1) (p + 1)) := by
  rw [tk, dif_neg (len_ne h), if_neg (sign_not hs).1, if_neg (sign_not hs).2, if_pos hs]
theorem may_not {l : List UInt8} (h : may l = true) : ¬ blk (l.getD 0 0) = true ∧ l.getD 0 0 ≠ 47 ∧ ¬ isSign (l.getD 0 0).toNat = true := by
  have hn : (l.getD 0 0).toNat = 95 ∨ (97 ≤ (l.getD 0 0).toNat ∧ (l.getD 0 0).toNat ≤ 122) ∨ (65 ≤ (l.getD 0 0).toNat ∧ (l.getD 0 0).toNat ≤ 90) ∨ (48 ≤ (l.getD 0 0).toNat ∧ (l.getD 0 0).toNat ≤ 57) ∨ 128 ≤ (l.getD 0 0).toNat := by
    unfold may at h
    have hc := rlen_cases l
    split at h
    · exact absurd h (by decide)
    split at h
    · have := of_decide_eq_true h; omega
    · omega
  refine ⟨?_, fun e => by rw [e] at hn; exact absurd hn (by decide), ?_⟩
  · simp only [blk, decide_eq_true_eq]; omega
  · simp only [isSign, Bool.or_eq_true, decide_eq_true_eq]; omega
theorem tk_word {l : List UInt8} (h : may l = true) (hc : cnt (l.take (wlen l)) ≤ 24) (p : Nat) : tk l p = cons ⟨1, l.take (wlen l), p⟩ (tk (l.drop (wlen l)) (p + wlen l)) := by
  obtain ⟨h1, h2, h3⟩ := may_not h
  rw [tk, dif_neg (len_ne (may_ne h)), if_neg h1, if_neg h2, if_neg h3, dif_pos h, if_pos hc]
theorem tk_long {l : List UInt8} (h : may l = true) (hc : ¬ cnt (l.take (wlen l)) ≤ 24) (p : Nat) : tk l p = .error (31, p) := by
  obtain ⟨h1, h2, h3⟩ := may_not h
  rw [tk, dif_neg (len_ne (may_ne h)), if_neg h1, if_neg h2, if_neg h3, dif_pos h, if_neg hc]
theorem tk_other {l : List UInt8} (h : l ≠ []) (h1 : ¬ blk (l.getD 0 0) = true) (h2 : l.getD 0 0 ≠ 47) (h3 : ¬ isSign (l.getD 0 0).toNat = true) (h4 : ¬ may l = true) (p : Nat) : tk l p = .error (30, p) := by
  rw [tk, dif_neg (len_ne h), if_neg h1, if_neg h2, if_neg h3, dif_neg h4]

/-- Induction along the tokens. -/
theorem tk_ind {P : List UInt8 → Prop} (h0 : P []) (hb : ∀ l, l ≠ [] → blk (l.getD 0 0) = true → P (l.drop 1) → P l)
    (hn : ∀ l, l.take 2 = [47, 47] → P (l.drop (noteLen l)) → P l) (hsl : ∀ l, l.getD 0 0 = 47 → ¬ l.take 2 = [47, 47] → P l)
    (hs : ∀ l, l ≠ [] → isSign (l.getD 0 0).toNat = true → P (l.drop 1) → P l)
    (hw : ∀ l, may l = true → cnt (l.take (wlen l)) ≤ 24 → P (l.drop (wlen l)) → P l) (hlg : ∀ l, may l = true → ¬ cnt (l.take (wlen l)) ≤ 24 → P l)
    (ho : ∀ l, l ≠ [] → ¬ blk (l.getD 0 0) = true → l.getD 0 0 ≠ 47 → ¬ isSign (l.getD 0 0).toNat = true → ¬ may l = true → P l) : ∀ l, P l := by
  have : ∀ (n : Nat) (l : List UInt8), l.length = n → P l := by
    intro n
    induction n using Nat.strongRecOn with
    | _ n ih =>
      intro l hl
      by_cases e : l = []
      · subst e; exact h0
      have hpos : l.length ≠ 0 := by simpa using e
      by_cases h1 : blk (l.getD 0 0) = true
      · exact hb l e h1 (ih (l.drop 1).length (by simp only [List.length_drop]; omega) _ rfl)
      by_cases h2 : l.getD 0 0 = 47
      · by_cases h2' : l.take 2 = [47, 47]
        · have := noteLen_two h2'
          exact hn l h2' (ih (l.drop (noteLen l)).length (by simp only [List.length_drop]; omega) _ rfl)
        · exact hsl l h2 h2'
      by_cases h3 : isSign (l.getD 0 0).toNat = true
      · exact hs l e h3 (ih (l.drop 1).length (by simp only [List.length_drop]; omega) _ rfl)
      by_cases h4 : may l = true
      · by_cases h5 : cnt (l.take (wlen l)) ≤ 24
        · have := wlen_pos h4
          exact hw l h4 h5 (ih (l.drop (wlen l)).length (by simp only [List.length_drop]; omega) _ rfl)
        · exact hlg l h4 h5
      · exact ho l e h1 h2 h3 h4
  exact fun l => this _ l rfl

/-- The first broken byte's place. -/
def brk (l : List UInt8) : Nat :=
  if l.length = 0 then 0 else if rlen l = 0 then 0 else stp l + brk (l.drop (stp l))
termination_by l.length
decreasing_by simp only [List.length_drop]; have := stp_pos l; omega
theorem brk_step {l : List UInt8} (h : l ≠ []) (hr : rlen l ≠ 0) : brk l = stp l + brk (l.drop (stp l)) := by rw [brk, if_neg (len_ne h), if_neg hr]
theorem brk_zero {l : List UInt8} (h : rlen l = 0) : brk l = 0 := by
  rw [brk]; simp [h]

/-- The document's answer. -/
def all (l : List UInt8) : R := if l.length > 2048 then .error (13, 0) else if vld l = true then tk l 0 else .error (11, brk l)

/-- A rune of a valid text, written again, is its bytes. -/
theorem encode_val {l : List UInt8} (hr : rlen l ≠ 0) : (Utf8.encode (val l : Int)).data.toList = l.take (stp l) := by
  have b0 := (l.getD 0 0).toNat_lt; have b1 := (l.getD 1 0).toNat_lt; have b2 := (l.getD 2 0).toNat_lt; have b3 := (l.getD 3 0).toNat_lt
  have hc := rlen_cases l
  have hs : stp l = rlen l := by unfold stp; rw [if_neg hr]
  have of : ∀ (i n : Nat), n = (l.getD i 0).toNat → UInt8.ofNat n = l.getD i 0 := fun i n h => by rw [h]; exact UInt8.ofNat_toNat
  have tk1 : ∀ i, i < l.length → l[i]? = some (l.getD i 0) := fun i hi => by rw [List.getElem?_eq_getElem hi, List.getD_eq_getElem?_getD, List.getElem?_eq_getElem hi]; rfl
  rcases hc with e | ⟨e, h1⟩ | ⟨e, h1⟩ | ⟨e, h1⟩ | ⟨e, h1⟩
  · exact absurd e hr
  · have hv : val l = (l.getD 0 0).toNat := by unfold val; rw [if_neg hr, if_pos e]
    rw [hv, enc1 _ (by omega), of 0 _ rfl, hs, e]
    apply List.ext_getElem?
    intro i
    rw [List.getElem?_take]
    match i with
    | 0 => rw [if_pos (by omega), tk1 0 (by omega)]; rfl
    | i + 1 => rw [if_neg (by omega)]; rfl
  · have hv : val l = ((l.getD 0 0).toNat % 32) * 64 + (l.getD 1 0).toNat % 64 := by unfold val; rw [if_neg hr, if_neg (by omega), if_pos e]
    rw [hv, enc2 _ (by omega) (by omega), of 0 _ (by omega), of 1 _ (by omega), hs, e]
    apply List.ext_getElem?
    intro i
    rw [List.getElem?_take]
    match i with
    | 0 => rw [if_pos (by omega), tk1 0 (by omega)]; rfl
    | 1 => rw [if_pos (by omega), tk1 1 (by omega)]; rfl
    | i + 2 => rw [if_neg (by omega)]; rfl
  · have hv : val l = ((l.getD 0 0).toNat % 16) * 4096 + ((l.getD 1 0).toNat % 64) * 64 + (l.getD 2 0).toNat % 64 := by unfold val; rw [if_neg hr, if_neg (by omega), if_neg (by omega), if_pos e]
    rw [hv, enc3 _ (by omega) (by omega) (by omega), of 0 _ (by omega), of 1 _ (by omega), of 2 _ (by omega), hs, e]
    apply List.ext_getElem?
    intro i
    rw [List.getElem?_take]
    match i with
    | 0 => rw [if_pos (by omega), tk1 0 (by omega)]; rfl
    | 1 => rw [if_pos (by omega), tk1 1 (by omega)]; rfl
    | 2 => rw [if_pos (by omega), tk1 2 (by omega)]; rfl
    | i + 3 => rw [if_neg (by omega)]; rfl
  · have hv : val l = ((l.getD 0 0).toNat % 8) * 262144 + ((l.getD 1 0).toNat % 64) * 4096 + ((l.getD 2 0).toNat % 64) * 64 + (l.getD 3 0).toNat % 64 := by unfold val; rw [if_neg hr, if_neg (by omega), if_neg (by omega), if_neg (by omega)]
    rw [hv, enc4 _ (by omega) (by omega), of 0 _ (by omega), of 1 _ (by omega), of 2 _ (by omega), of 3 _ (by omega), hs, e]
    apply List.ext_getElem?
    intro i
    rw [List.getElem?_take]
    match i with
    | 0 => rw [if_pos (by omega), tk1 0 (by omega)]; rfl
    | 1 => rw [if_pos (by omega), tk1 1 (by omega)]; rfl
    | 2 => rw [if_pos (by omega), tk1 2 (by omega)]; rfl
    | 3 => rw [if_pos (by omega), tk1 3 (by omega)]; rfl
    | i + 4 => rw [if_neg (by omega)]; rfl

end Go.Proofs.YtkgnhghaiopgcaaDoor.Tk
