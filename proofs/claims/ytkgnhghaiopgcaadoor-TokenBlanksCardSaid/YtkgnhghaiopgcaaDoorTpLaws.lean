/- What becomes of the tokens in the laws of package token; plain Lean, no program walked; no condition. -/
import Derived.Test.YtkgnhghaiopgcaaDoorTp
import Derived.Test.YtkgnhghaiopgcaaDoorPureTokenTells
set_option linter.unusedVariables false
set_option linter.unusedSimpArgs false
namespace Go.Proofs.YtkgnhghaiopgcaaDoor.Tp
open Go.Proofs.YtkgnhghaiopgcaaDoor.Gl Go.Proofs.YtkgnhghaiopgcaaDoor.X Go.Proofs.YtkgnhghaiopgcaaDoor.Tk Go.Proofs.YtkgnhghaiopgcaaDoor.TkFn Go.Proofs.YtkgnhghaiopgcaaDoor.Pure

theorem all_mk {l : List UInt8} {ts : List Tok} (h1 : l.length ≤ 2048) (h2 : vld l = true) (h3 : tk l 0 = .ok ts) : all l = .ok ts := by
  unfold all; rw [if_neg (by omega), if_pos h2, h3]
theorem all_short {l : List UInt8} (h1 : l.length ≤ 2048) : all l = if vld l = true then tk l 0 else .error (11, brk l) := by
  unfold all; rw [if_neg (by omega)]

/-- The last token is an end, and no other one. -/
theorem tk_last (l : List UInt8) : ∀ p ts, tk l p = .ok ts → ∃ us, ts = us ++ [⟨3, [], p + l.length⟩] ∧ ∀ u ∈ us, (u.kind = 1 ∨ u.kind = 2) ∧ u.text ≠ [] := by
  have hc : ∀ (t : Tok) (r : R) (ts : List Tok) (q : Nat), cons t r = .ok ts → ((t.kind = 1 ∨ t.kind = 2) ∧ t.text ≠ []) → (∀ us, r = .ok us → ∃ vs, us = vs ++ [⟨3, [], q⟩] ∧ ∀ u ∈ vs, (u.kind = 1 ∨ u.kind = 2) ∧ u.text ≠ []) →
      ∃ us, ts = us ++ [⟨3, [], q⟩] ∧ ∀ u ∈ us, (u.kind = 1 ∨ u.kind = 2) ∧ u.text ≠ [] := by
    intro t r ts q h ht hr
    cases r with
    | error e => simp [cons] at h
    | ok us =>
      simp only [cons, Except.ok.injEq] at h
      obtain ⟨vs, rfl, hv⟩ := hr us rfl
      refine ⟨t :: vs, by rw [← h]; rfl, ?_⟩
      intro u hu
      rcases List.mem_cons.1 hu with rfl | hu
      · exact ht
      · exact hv u hu
  induction l using tk_ind with
  | h0 => intro p ts h; rw [tk_nil] at h; injection h with h; exact ⟨[], by rw [← h]; rfl, by simp⟩
  | hb l h hb ih =>
    intro p ts ht; rw [tk_blank h hb] at ht
    have hl : 0 < l.length := List.length_pos_iff.mpr h
    have := ih _ _ ht
    rw [List.length_drop, show p + 1 + (l.length - 1) = p + l.length by omega] at this; exact this
  | hn l h ih =>
    intro p ts ht; rw [tk_note h] at ht
    have hle := noteLen_le l
    have := ih _ _ ht
    rw [List.length_drop, show p + noteLen l + (l.length - noteLen l) = p + l.length by omega] at this; exact this
  | hsl l h h2 => intro p ts ht; rw [tk_slash h h2] at ht; injection ht
  | hs l h hs ih =>
    intro p ts ht; rw [tk_sign h hs] at ht
    have hl : 0 < l.length := List.length_pos_iff.mpr h
    refine hc _ _ _ _ ht ⟨.inr rfl, take_ne_nil h (Nat.le_refl _)⟩ (fun us hu => ?_)
    have := ih _ _ hu
    rw [List.length_drop, show p + 1 + (l.length - 1) = p + l.length by omega] at this; exact this
  | hw l h hc2 ih =>
    intro p ts ht; rw [tk_word h hc2] at ht
    have hle := wlen_le l
    refine hc _ _ _ _ ht ⟨.inl rfl, take_ne_nil (may_ne h) (wlen_pos h)⟩ (fun us hu => ?_)
    have := ih _ _ hu
    rw [List.length_drop, show p + wlen l + (l.length - wlen l) = p + l.length by omega] at this; exact this
  | hlg l h hc2 => intro p ts ht; rw [tk_long h hc2] at ht; injection ht
  | ho l h h1 h2 h3 h4 => intro p ts ht; rw [tk_other h h1 h2 h3 h4] at ht; injection ht

theorem all_last {l : List UInt8} {ts : List Tok} (h : all l = .ok ts) : ∃ us, ts = us ++ [⟨3, [], l.length⟩] ∧ ∀ u ∈ us, (u.kind = 1 ∨ u.kind = 2) ∧ u.text ≠ [] := by
  have := tk_last l 0 ts (all_len h).2.2.2
  rwa [Nat.zero_add] at this

/-! ### Notes -/
theorem tk_notes (T : List UInt8) (hT : (10 : UInt8) ∉ T) (p : Nat) : tk (47 :: 47 :: T) p = .ok [⟨3, [], p + (T.length + 2)⟩] := by
  have hn : noteLen (47 :: 47 :: T) = (47 :: 47 :: T : List UInt8).length := noteLen_none _ (by simp [hT])
  rw [tk_note rfl, hn, List.drop_length, tk_nil]; rfl
theorem nl_split (S T : List UInt8) : S ++ ([10] ++ T) = S ++ 10 :: T := rfl

/-- A note behind. -/
theorem notes_behind (S T : List UInt8) (h : S.length ≤ 300) (h' : T.length ≤ 60) (hv : vld T = true) (hT : (10 : UInt8) ∉ T) :
    (∀ us, all S = .ok (us ++ [⟨3, [], S.length⟩]) → all (S ++ [10, 47, 47] ++ T) = .ok (us ++ [⟨3, [], S.length + T.length + 3⟩])) ∧
    (∀ e p, all S = .error (e, p) → all (S ++ [10, 47, 47] ++ T) = .error (e, p)) := by
  have hs : S ++ [10, 47, 47] ++ T = S ++ 10 :: 47 :: 47 :: T := by simp
  have hvv : vld (47 :: 47 :: T) = true := by rw [vld_cons _ _ (by decide), vld_cons _ _ (by decide), hv]
  have hlen : (S ++ 10 :: 47 :: 47 :: T).length ≤ 2048 := by simp; omega
  have hq : all S = if vld S = true then tk S 0 else .error (11, brk S) := all_short (by omega)
  rw [hs, all_short hlen, vld_asc S 10 _ (by decide), hvv, Bool.and_true, tk_nl, tk_notes T hT, hq]
  cases hv : vld S with
  | true =>
    rw [if_pos rfl, if_pos rfl]
    constructor
    · intro us hu; rw [hu]
      show (Except.ok ((us ++ [_]).dropLast ++ _) : R) = _
      rw [List.dropLast_concat, show 0 + S.length + 1 + (T.length + 2) = S.length + T.length + 3 by omega]
    · intro e p he; rw [he]; rfl
  | false =>
    rw [if_neg (by decide), if_neg (by decide), brk_asc S 10 _ (by decide) hv]
    exact ⟨fun us hu => by injection hu, fun e p he => he⟩

/-- A note ahead. -/
theorem notes_ahead (S T : List UInt8) (h : S.length ≤ 300) (h' : T.length ≤ 60) (hv : vld T = true) (hT : (10 : UInt8) ∉ T) :
    all ([47, 47] ++ T ++ [10] ++ S) = sh (T.length + 3) (all S) := by
  have hs : [47, 47] ++ T ++ [10] ++ S = (47 :: 47 :: T) ++ 10 :: S := by simp
  have hvv : vld (47 :: 47 :: T) = true := by rw [vld_cons _ _ (by decide), vld_cons _ _ (by decide), hv]
  have hlen : ((47 :: 47 :: T) ++ 10 :: S).length ≤ 2048 := by simp; omega
  rw [hs, all_short hlen, all_short (show S.length ≤ 2048 by omega), vld_asc _ 10 _ (by decide), hvv, Bool.true_and, tk_nl, tk_notes T hT, join_end, brk_append _ _ hvv]
  have e1 : (47 :: 47 :: T : List UInt8).length = T.length + 2 := rfl
  cases hv : vld S with
  | true => rw [if_pos rfl, if_pos rfl, e1, ← tk_shift, show 0 + (T.length + 2) + 1 = 0 + (T.length + 3) by omega]
  | false =>
    have hr : rlen ((10 : UInt8) :: S) = 1 := rlen_one 10 S (by decide)
    rw [if_neg (by decide), if_neg (by decide), e1, brk_step (by simp) (by omega), stp_one 10 S (by decide)]
    show (Except.error (11, T.length + 2 + (1 + brk S)) : R) = .error (11, brk S + (T.length + 3))
    rw [show T.length + 2 + (1 + brk S) = brk S + (T.length + 3) by omega]

/-- A single slash. -/
theorem notes_single (S T : List UInt8) (h : S.length ≤ 300) (h' : T.length ≤ 60) (hv : vld T = true) (us : List Tok) (hu : all S = .ok us) :
    all (S ++ [10, 47, 32] ++ T) = .error (30, S.length + 1) := by
  have hs : S ++ [10, 47, 32] ++ T = S ++ 10 :: 47 :: 32 :: T := by simp
  have hvv : vld (47 :: 32 :: T) = true := by rw [vld_cons _ _ (by decide), vld_cons _ _ (by decide), hv]
  have hlen : (S ++ 10 :: 47 :: 32 :: T).length ≤ 2048 := by simp; omega
  obtain ⟨h1, h2, h3, h4⟩ := all_len hu
  rw [hs, all_short hlen, vld_asc S 10 _ (by decide), hvv, h3, if_pos (by rfl), tk_nl, h4, tk_slash rfl (by simp), Nat.zero_add]; rfl

/-! ### Errors -/
theorem errs_big (A B : List UInt8) (h : A.length + B.length ≤ 300) : ∃ p, all (A ++ [255] ++ B) = .error (11, p) ∧ (vld A = true → p = A.length) := by
  refine ⟨brk (A ++ [255] ++ B), ?_, ?_⟩
  · rw [all_short (by simp; omega), big_broken _ (by simp)]; rfl
  · intro hv
    rw [List.append_assoc, brk_append A _ hv, brk_zero (show rlen ([255] ++ B) = 0 by unfold rlen; simp)]; rfl

def eacute : Nat → List UInt8
  | 0 => []
  | n + 1 => [195, 169] ++ eacute n
theorem eacute_length (n : Nat) : (eacute n).length = 2 * n := by
  induction n with
  | zero => rfl
  | succ n ih => simp only [eacute, List.length_append, ih]; simp; omega
theorem eacute_snoc (n : Nat) : eacute n ++ [195, 169] = eacute (n + 1) := by
  induction n with
  | zero => rfl
  | succ n ih =>
    show [195, 169] ++ eacute n ++ [195, 169] = [195, 169] ++ eacute (n + 1)
    rw [List.append_assoc, ih]
theorem e_rlen (r : List UInt8) : rlen (195 :: 169 :: r) = 2 := by
  unfold rlen
  rw [if_neg (by simp), if_neg (by simp), if_pos (by simp), if_pos (by rw [isC_iff]; simp)]
theorem e_stp (r : List UInt8) : stp (195 :: 169 :: r) = 2 := by unfold stp; rw [e_rlen]; rfl
theorem eacute_mays (n : Nat) : mays (eacute n) = true ∧ cnt (eacute n) = n := by
  induction n with
  | zero => exact ⟨mays_nil, cnt_nil⟩
  | succ n ih =>
    show mays (195 :: 169 :: eacute n) = true ∧ cnt (195 :: 169 :: eacute n) = n + 1
    have hm : may (195 :: 169 :: eacute n) = true := by unfold may; rw [e_rlen]; simp
    rw [mays_step _ (by simp), cnt_step _ (by simp), e_stp, hm]
    show (true && mays (eacute n)) = true ∧ 1 + cnt (eacute n) = n + 1
    rw [ih.1, ih.2]; exact ⟨rfl, by omega⟩

theorem errs_word (S : List UInt8) (m : Nat) (h : S.length ≤ 300) (hm : m < 40) (us : List Tok) (hu : all S = .ok us) :
    (m ≤ 24 → ∃ ts, all (S ++ (10 :: eacute m)) = .ok ts) ∧ (24 < m → all (S ++ (10 :: eacute m)) = .error (31, S.length + 1)) := by
  have hlen : (S ++ 10 :: eacute m).length ≤ 2048 := by simp [eacute_length]; omega
  obtain ⟨h1, h2, h3, h4⟩ := all_len hu
  obtain ⟨e1, e2⟩ := eacute_mays m
  rw [all_short hlen, vld_asc S 10 _ (by decide), h3, mays_vld e1, if_pos (by rfl), tk_nl, h4, Nat.zero_add]
  by_cases h0 : m = 0
  · subst h0
    exact ⟨fun _ => ⟨_, by rw [show eacute 0 = [] from rfl, tk_nil]; rfl⟩, fun hh => by omega⟩
  have hne : eacute m ≠ [] := by intro e; have := eacute_length m; rw [e] at this; simp at this; omega
  have hw : wlen (eacute m) = (eacute m).length := by
    have := wlen_append (eacute m) [] e1
    rwa [List.append_nil, wlen_nil] at this
  have hmay : may (eacute m) = true := (mays_head e1 hne).1
  have ht : (eacute m).take (wlen (eacute m)) = eacute m := by rw [hw, List.take_length]
  constructor
  · intro hle
    rw [tk_word hmay (by rw [ht, e2]; exact hle), hw, List.drop_length, tk_nil]
    exact ⟨_, rfl⟩
  · intro hgt
    rw [tk_long hmay (by rw [ht, e2]; omega)]; rfl

theorem errs_sign (S : List UInt8) (c : UInt8) (h : S.length ≤ 300) (us : List Tok) (hu : all S = .ok us) (h1 : c.toNat < 128) (h2 : 32 < c.toNat) (h3 : name [c] = false) (h4 : isSign c.toNat = false) :
    all (S ++ [10] ++ [c]) = .error (30, S.length + 1) := by
  have hlen : (S ++ 10 :: [c]).length ≤ 2048 := by simp; omega
  obtain ⟨_, _, hv, ht⟩ := all_len hu
  have hvc : vld [c] = true := by rw [vld_cons _ _ h1]; exact vld_nil
  have hm : may [c] = false := by
    cases hm : may [c] with
    | false => rfl
    | true =>
      exfalso
      have e1 : mays [c] = true := by rw [mays_step _ (by simp), hm, stp_one c [] h1]; exact mays_nil
      have e2 : cnt [c] = 1 := by rw [cnt_step _ (by simp), stp_one c [] h1]; show 1 + cnt [] = 1; rw [cnt_nil]
      simp only [name, e1, e2] at h3; exact absurd h3 (by decide)
  rw [List.append_assoc, nl_split, all_short hlen, vld_asc S 10 _ (by decide), hv, hvc, if_pos (by rfl), tk_nl, ht, Nat.zero_add]
  have hb : ¬ blk (([c] : List UInt8).getD 0 0) = true := by
    show ¬ decide (c.toNat = 32 ∨ c.toNat = 9 ∨ c.toNat = 10) = true
    rw [decide_eq_true_eq]; omega
  by_cases h47 : c = 47
  · rw [tk_slash (l := [c]) h47 (by simp)]; rfl
  · rw [tk_other (l := [c]) (by simp) hb h47 (by rw [show ([c] : List UInt8).getD 0 0 = c from rfl, h4]; decide) (by rw [hm]; decide)]; rfl

/-! ### Words with signs between -/
def words (c : UInt8) : List (List UInt8) → List UInt8
  | [] => []
  | w :: ws => w ++ c :: words c ws
def wtoks (c : UInt8) : List (List UInt8) → Nat → List Tok
  | [], p => [⟨3, [], p⟩]
  | w :: ws, p => ⟨1, w, p⟩ :: ⟨2, [c], p + w.length⟩ :: wtoks c ws (p + w.length + 1)
theorem sign_asc {c : UInt8} (h : isSign c.toNat = true) : c.toNat < 128 ∧ ∀ r, may (c :: r) = false := by
  have hn : c.toNat < 128 ∧ c.toNat ≠ 95 ∧ ¬ (97 ≤ c.toNat ∧ c.toNat ≤ 122) ∧ ¬ (65 ≤ c.toNat ∧ c.toNat ≤ 90) ∧ ¬ (48 ≤ c.toNat ∧ c.toNat ≤ 57) := by
    simp only [isSign, Bool.or_eq_true, decide_eq_true_eq] at h; omega
  refine ⟨hn.1, fun r => ?_⟩
  rw [may_byte c r hn.1, decide_eq_false_iff_not]; omega
theorem words_tk (c : UInt8) (hc : isSign c.toNat = true) : ∀ (ws : List (List UInt8)) (p : Nat), (∀ w ∈ ws, name w = true) → tk (words c ws) p = .ok (wtoks c ws p) ∧ vld (words c ws) = true := by
  obtain ⟨h1, h2⟩ := sign_asc hc
  intro ws
  induction ws with
  | nil => intro p _; exact ⟨tk_nil p, vld_nil⟩
  | cons w ws ih =>
    intro p h
    have hw := h w (by simp)
    obtain ⟨hm, hne, hcn⟩ := name_mays hw
    obtain ⟨i1, i2⟩ := ih (p + w.length + 1) (fun x hx => h x (by simp [hx]))
    constructor
    · rw [words, tk_name hw (h2 _), tk_sign (by simp) (by simpa using hc)]
      show cons _ (cons ⟨2, [c], p + w.length⟩ (tk (words c ws) (p + w.length + 1))) = _
      rw [i1]; rfl
    · rw [words, vld_asc _ _ _ h1, mays_vld hm, i2]; rfl
theorem name_size {w : List UInt8} (h : name w = true) : w.length ≤ 96 := by
  obtain ⟨hm, hne, hc⟩ := name_mays h
  have : ∀ l : List UInt8, l.length ≤ 4 * cnt l := by
    intro l
    induction l using runes_ind with
    | h0 => simp
    | h1 l h ih =>
      rw [cnt_step l h]
      have h4 : stp l ≤ 4 := by have := rlen_le4 l; unfold stp; split <;> omega
      simp only [List.length_drop] at ih; omega
  have := this w; omega
theorem words_length (c : UInt8) (ws : List (List UInt8)) (h : ∀ w ∈ ws, name w = true) : (words c ws).length ≤ 97 * ws.length := by
  induction ws with
  | nil => simp [words]
  | cons w ws ih =>
    have h1 := name_size (h w (by simp))
    have h2 := ih (fun x hx => h x (by simp [hx]))
    simp only [words, List.length_append, List.length_cons]; omega
theorem words_all (c : UInt8) (hc : isSign c.toNat = true) (ws : List (List UInt8)) (h : ∀ w ∈ ws, name w = true) (hl : ws.length ≤ 20) : all (words c ws) = .ok (wtoks c ws 0) := by
  have h1 := words_tk c hc ws 0 h
  have h2 := words_length c ws h
  exact all_mk (by omega) h1.2 h1.1
theorem words_snoc (c : UInt8) (ws : List (List UInt8)) (w : List UInt8) : words c (ws ++ [w]) = words c ws ++ (w ++ [c]) := by
  induction ws with
  | nil => simp [words]
  | cons x ws ih => rw [List.cons_append, words, ih, words]; simp
theorem wtoks_length (c : UInt8) : ∀ (ws : List (List UInt8)) p, (wtoks c ws p).length = 2 * ws.length + 1 := by
  intro ws
  induction ws with
  | nil => intro p; rfl
  | cons w ws ih => intro p; simp only [wtoks, List.length_cons, ih]; omega
theorem wtoks_at (c : UInt8) : ∀ (ws : List (List UInt8)) (p i : Nat) (w : List UInt8), ws[i]? = some w →
    (∃ q, (wtoks c ws p)[2 * i]? = some ⟨1, w, q⟩) ∧ (∃ q, (wtoks c ws p)[2 * i + 1]? = some ⟨2, [c], q⟩) := by
  intro ws
  induction ws with
  | nil => intro p i w h; simp at h
  | cons x ws ih =>
    intro p i w h
    cases i with
    | zero =>
      simp only [List.getElem?_cons_zero, Option.some.injEq] at h
      subst h
      exact ⟨⟨_, rfl⟩, ⟨_, rfl⟩⟩
    | succ i =>
      rw [List.getElem?_cons_succ] at h
      have := ih (p + x.length + 1) i w h
      rw [show 2 * (i + 1) = 2 * i + 1 + 1 by omega, wtoks]
      simpa only [List.getElem?_cons_succ] using this

/-! ### Tokens' texts with blanks between -/
def piece (note : List UInt8) (i : Nat) (t : Tok) : List UInt8 := 9 :: t.text ++ (if i % 5 = 4 then 32 :: 47 :: 47 :: note ++ [10] else [32])
def pieces (note : List UInt8) : List Tok → Nat → List UInt8
  | [], _ => []
  | t :: ts, i => piece note i t ++ pieces note ts (i + 1)
/-- A token as it can stand by itself. -/
def good (t : Tok) : Prop := (t.kind = 1 ∧ name t.text = true) ∨ (t.kind = 2 ∧ ∃ c : UInt8, t.text = [c] ∧ isSign c.toNat = true)
def alike (ts us : List Tok) : Prop := ts.map (fun t => (t.kind, t.text)) = us.map (fun t => (t.kind, t.text))
theorem tk_tab (r : List UInt8) (p : Nat) : tk (9 :: r) p = tk r (p + 1) := by rw [tk_blank (l := 9 :: r) (by simp) rfl]; rfl
theorem tk_spc (r : List UInt8) (p : Nat) : tk (32 :: r) p = tk r (p + 1) := by rw [tk_blank (l := 32 :: r) (by simp) rfl]; rfl
theorem tk_lf (r : List UInt8) (p : Nat) : tk (10 :: r) p = tk r (p + 1) := by rw [tk_blank (l := 10 :: r) (by simp) rfl]; rfl
theorem tk_notel (T r : List UInt8) (hT : (10 : UInt8) ∉ T) (p : Nat) : tk (47 :: 47 :: T ++ 10 :: r) p = tk r (p + T.length + 3) := by
  rw [tk_nl, tk_notes T hT, join_end]; congr 1
theorem tk_good {t : Tok} (h : good t) (r : List UInt8) (p : Nat) : tk (t.text ++ 32 :: r) p = cons ⟨t.kind, t.text, p⟩ (tk (32 :: r) (p + t.text.length)) := by
  rcases h with ⟨h1, h2⟩ | ⟨h1, c, h2, h3⟩
  · rw [h1, tk_name h2 (by rw [may_byte _ _ (by decide)]; decide)]
  · rw [h1, h2]
    show tk (c :: 32 :: r) p = _
    rw [tk_sign (by simp) (by simpa using h3)]; rfl
theorem vld_good {t : Tok} (h : good t) (r : List UInt8) : vld (t.text ++ r) = vld r := by
  rcases h with ⟨h1, h2⟩ | ⟨h1, c, h2, h3⟩
  · exact vld_append _ _ (mays_vld (name_mays h2).1)
  · rw [h2]; exact vld_cons c r (sign_asc h3).1
theorem alike_cons {t u : Tok} {ts us : List Tok} (h : t.kind = u.kind ∧ t.text = u.text) (h' : alike ts us) : alike (t :: ts) (u :: us) := by
  unfold alike at *
  rw [List.map_cons, List.map_cons, h', h.1, h.2]

theorem pieces_tk (note : List UInt8) (hv : vld note = true) (hn : (10 : UInt8) ∉ note) (e : Tok) (he : e.kind = 3 ∧ e.text = []) : ∀ (us : List Tok) (i p : Nat), (∀ u ∈ us, good u) →
    (∃ ts, tk (pieces note (us ++ [e]) i) p = .ok ts ∧ alike ts (us ++ [e])) ∧ vld (pieces note (us ++ [e]) i) = true := by
  have hq : ∀ (i : Nat) (r : List UInt8), (if i % 5 = 4 then 32 :: 47 :: 47 :: note ++ [10] else [32]) ++ r = 32 :: (if i % 5 = 4 then 47 :: 47 :: note ++ 10 :: r else r) := by
    intro i r; split <;> simp
  have hr : ∀ (i : Nat) (r : List UInt8) (p : Nat), ∃ q, tk (if i % 5 = 4 then 47 :: 47 :: note ++ 10 :: r else r) p = tk r q := by
    intro i r p; split
    · exact ⟨_, tk_notel note r hn p⟩
    · exact ⟨p, rfl⟩
  have hvr : ∀ (i : Nat) (r : List UInt8), vld (if i % 5 = 4 then 47 :: 47 :: note ++ 10 :: r else r) = vld r := by
    intro i r; split
    · show vld ((47 :: 47 :: note) ++ 10 :: r) = vld r
      rw [vld_asc _ 10 _ (by decide), vld_cons _ _ (by decide), vld_cons _ _ (by decide), hv]; rfl
    · rfl
  intro us
  induction us with
  | nil =>
    intro i p _
    show (∃ ts, tk (piece note i e ++ []) p = .ok ts ∧ _) ∧ vld (piece note i e ++ []) = true
    have e1 : piece note i e ++ [] = 9 :: 32 :: (if i % 5 = 4 then 47 :: 47 :: note ++ 10 :: [] else []) := by
      unfold piece; rw [he.2, List.append_assoc]
      show 9 :: ([] ++ ((if i % 5 = 4 then 32 :: 47 :: 47 :: note ++ [10] else [32]) ++ [])) = _
      rw [List.nil_append, hq]
    rw [e1, tk_tab, tk_spc, vld_cons _ _ (by decide), vld_cons _ _ (by decide), hvr, vld_nil]
    obtain ⟨q, hq'⟩ := hr i [] (p + 1 + 1)
    refine ⟨⟨_, hq'.trans (tk_nil q), ?_⟩, rfl⟩
    show alike [_] [e]
    unfold alike; simp [he.1, he.2]
  | cons u us ih =>
    intro i p h
    have hu := h u (by simp)
    have e1 : pieces note (u :: us ++ [e]) i = 9 :: (u.text ++ 32 :: (if i % 5 = 4 then 47 :: 47 :: note ++ 10 :: pieces note (us ++ [e]) (i + 1) else pieces note (us ++ [e]) (i + 1))) := by
      show piece note i u ++ pieces note (us ++ [e]) (i + 1) = _
      unfold piece
      rw [List.cons_append, List.cons_append, List.append_assoc, hq]
    obtain ⟨q, hq'⟩ := hr i (pieces note (us ++ [e]) (i + 1)) (p + 1 + u.text.length + 1)
    obtain ⟨⟨ts, i1, i2⟩, i3⟩ := ih (i + 1) q (fun x hx => h x (by simp [hx]))
    rw [e1, tk_tab, tk_good hu, tk_spc, hq', i1, vld_cons _ _ (by decide), vld_good hu, vld_cons _ _ (by decide), hvr]
    exact ⟨⟨_, rfl, alike_cons ⟨rfl, rfl⟩ i2⟩, i3⟩

theorem tk_goods (l : List UInt8) : ∀ p ts, tk l p = .ok ts → ∃ us, ts = us ++ [⟨3, [], p + l.length⟩] ∧ ∀ u ∈ us, good u := by
  have hc : ∀ (t : Tok) (r : R) (ts : List Tok) (q : Nat), cons t r = .ok ts → good t → (∀ us, r = .ok us → ∃ vs, us = vs ++ [⟨3, [], q⟩] ∧ ∀ u ∈ vs, good u) →
      ∃ us, ts = us ++ [⟨3, [], q⟩] ∧ ∀ u ∈ us, good u := by
    intro t r ts q h ht hr
    cases r with
    | error e => simp [cons] at h
    | ok us =>
      simp only [cons, Except.ok.injEq] at h
      obtain ⟨vs, rfl, hv⟩ := hr us rfl
      refine ⟨t :: vs, by rw [← h]; rfl, ?_⟩
      intro u hu
      rcases List.mem_cons.1 hu with rfl | hu
      · exact ht
      · exact hv u hu
  induction l using tk_ind with
  | h0 => intro p ts h; rw [tk_nil] at h; injection h with h; exact ⟨[], by rw [← h]; rfl, by simp⟩
  | hb l h hb ih =>
    intro p ts ht; rw [tk_blank h hb] at ht
    have hl : 0 < l.length := List.length_pos_iff.mpr h
    have := ih _ _ ht
    rw [List.length_drop, show p + 1 + (l.length - 1) = p + l.length by omega] at this; exact this
  | hn l h ih =>
    intro p ts ht; rw [tk_note h] at ht
    have hle := noteLen_le l
    have := ih _ _ ht
    rw [List.length_drop, show p + noteLen l + (l.length - noteLen l) = p + l.length by omega] at this; exact this
  | hsl l h h2 => intro p ts ht; rw [tk_slash h h2] at ht; injection ht
  | hs l h hs ih =>
    intro p ts ht; rw [tk_sign h hs] at ht
    have hl : 0 < l.length := List.length_pos_iff.mpr h
    refine hc _ _ _ _ ht (.inr ⟨rfl, l.getD 0 0, ?_, hs⟩) (fun us hu => ?_)
    · cases l with
      | nil => exact absurd rfl h
      | cons c r => rfl
    have := ih _ _ hu
    rw [List.length_drop, show p + 1 + (l.length - 1) = p + l.length by omega] at this; exact this
  | hw l h hc2 ih =>
    intro p ts ht; rw [tk_word h hc2] at ht
    have hle := wlen_le l
    refine hc _ _ _ _ ht (.inl ⟨rfl, by rw [name_word h]; exact decide_eq_true hc2⟩) (fun us hu => ?_)
    have := ih _ _ hu
    rw [List.length_drop, show p + wlen l + (l.length - wlen l) = p + l.length by omega] at this; exact this
  | hlg l h hc2 => intro p ts ht; rw [tk_long h hc2] at ht; injection ht
  | ho l h h1 h2 h3 h4 => intro p ts ht; rw [tk_other h h1 h2 h3 h4] at ht; injection ht

theorem blanks_all (note S : List UInt8) (ts : List Tok) (hv : vld note = true) (hn : (10 : UInt8) ∉ note) (h : all S = .ok ts) (hl : (pieces note ts 0).length ≤ 2048) :
    ∃ us, all (pieces note ts 0) = .ok us ∧ alike us ts := by
  obtain ⟨us, rfl, hg⟩ := tk_goods S 0 ts (all_len h).2.2.2
  obtain ⟨⟨vs, h1, h2⟩, h3⟩ := pieces_tk note hv hn ⟨3, [], 0 + S.length⟩ ⟨rfl, rfl⟩ us 0 0 hg
  exact ⟨vs, all_mk hl h3 h1, h2⟩
theorem pieces_snoc (note : List UInt8) : ∀ (ts : List Tok) (t : Tok) (i : Nat), pieces note (ts ++ [t]) i = pieces note ts i ++ piece note (i + ts.length) t := by
  intro ts
  induction ts with
  | nil => intro t i; simp [pieces]
  | cons x ts ih =>
    intro t i
    rw [List.cons_append, pieces, ih, pieces, List.append_assoc, List.length_cons, show i + 1 + ts.length = i + (ts.length + 1) by omega]
theorem alike_at {ts us : List Tok} (h : alike ts us) : ts.length = us.length ∧ ∀ (i : Nat) (h1 : i < ts.length) (h2 : i < us.length), (ts[i]'h1).kind = (us[i]'h2).kind ∧ (ts[i]'h1).text = (us[i]'h2).text := by
  have hl : ts.length = us.length := by have := congrArg List.length h; simpa using this
  refine ⟨hl, fun i h1 h2 => ?_⟩
  have := congrArg (fun l => l[i]?) h
  simp only [List.getElem?_map, List.getElem?_eq_getElem h1, List.getElem?_eq_getElem h2, Option.map_some, Option.some.injEq, Prod.mk.injEq] at this
  exact this

end Go.Proofs.YtkgnhghaiopgcaaDoor.Tp
