/- An evaluator of the lexer on texts of letters, spaces and signs: plain Lean, no program walked; no condition. -/
import Derived.Test.YtkgnhghaiopgcaaDoorPs
import Derived.Test.YtkgnhghaiopgcaaDoorTk
set_option linter.unusedVariables false
set_option linter.unusedSimpArgs false
namespace Go.Proofs.YtkgnhghaiopgcaaDoor.Pt
open Go.Proofs.YtkgnhghaiopgcaaDoor.Gl Go.Proofs.YtkgnhghaiopgcaaDoor.X Go.Proofs.YtkgnhghaiopgcaaDoor.Kx Go.Proofs.YtkgnhghaiopgcaaDoor.Tk Go.Proofs.YtkgnhghaiopgcaaDoor.Tp Go.Proofs.YtkgnhghaiopgcaaDoor.Ps

def letter (c : UInt8) : Bool := decide (c.toNat = 95 ∨ (97 ≤ c.toNat ∧ c.toNat ≤ 122) ∨ (65 ≤ c.toNat ∧ c.toNat ≤ 90) ∨ (48 ≤ c.toNat ∧ c.toNat ≤ 57))
theorem letter_asc {c : UInt8} (h : letter c = true) : c.toNat < 128 := by
  simp only [letter, decide_eq_true_eq] at h; omega
theorem letters {w : List UInt8} (h : w.all letter = true) : mays w = true ∧ cnt w = w.length ∧ ∀ r, vld (w ++ r) = vld r := by
  induction w with
  | nil => exact ⟨mays_nil, cnt_nil, fun _ => rfl⟩
  | cons c w ih =>
    rw [List.all_cons, Bool.and_eq_true] at h
    have ha := letter_asc h.1
    obtain ⟨i1, i2, i3⟩ := ih h.2
    refine ⟨?_, ?_, fun r => ?_⟩
    · rw [mays_step _ (by simp), stp_one c w ha, may_byte c w ha]
      have hl : letter c = true := h.1
      unfold letter at hl
      rw [hl]
      exact i1
    · rw [cnt_step _ (by simp), stp_one c w ha]
      show 1 + cnt w = w.length + 1
      omega
    · show vld (c :: (w ++ r)) = _
      rw [vld_cons c _ ha, i3]
theorem letters_name {w : List UInt8} (h : w.all letter = true) (hne : w ≠ []) (hl : w.length ≤ 24) : name w = true := by
  obtain ⟨i1, i2, _⟩ := letters h
  have := List.length_pos_iff.mpr hne
  unfold name
  rw [i1, i2]
  simp
  omega
/-- The tokens of a text of letters, spaces and signs, with fuel. -/
def lexA : Nat → List UInt8 → Nat → Option (List Tok)
  | 0, _, _ => none
  | _ + 1, [], p => some [⟨3, [], p⟩]
  | k + 1, c :: r, p =>
    if c = 32 then lexA k r (p + 1)
    else if isSign c.toNat = true then (lexA k r (p + 1)).map (⟨2, [c], p⟩ :: ·)
    else if letter c = true ∧ ((c :: r).takeWhile letter).length ≤ 24 then
      (lexA k ((c :: r).dropWhile letter) (p + ((c :: r).takeWhile letter).length)).map (⟨1, (c :: r).takeWhile letter, p⟩ :: ·)
    else none
theorem sign_may {c : UInt8} (h : isSign c.toNat = true) : c.toNat < 128 ∧ ∀ r, may (c :: r) = false := by
  have hn : c.toNat < 128 ∧ c.toNat ≠ 95 ∧ ¬ (97 ≤ c.toNat ∧ c.toNat ≤ 122) ∧ ¬ (65 ≤ c.toNat ∧ c.toNat ≤ 90) ∧ ¬ (48 ≤ c.toNat ∧ c.toNat ≤ 57) := by
    simp only [isSign, Bool.or_eq_true, decide_eq_true_eq] at h; omega
  refine ⟨hn.1, fun r => ?_⟩
  rw [may_byte c r hn.1, decide_eq_false_iff_not]; omega
theorem drop_drop : ∀ (l : List UInt8), (l.dropWhile letter).dropWhile letter = l.dropWhile letter
  | [] => rfl
  | c :: r => by
    by_cases h : letter c = true
    · rw [List.dropWhile_cons, if_pos h]; exact drop_drop r
    · rw [List.dropWhile_cons, if_neg h, List.dropWhile_cons, if_neg h]
theorem lexA_tk : ∀ (k : Nat) (l : List UInt8) (p : Nat) (ts : List Tok), lexA k l p = some ts → tk l p = .ok ts ∧ vld l = true ∧ (l.dropWhile letter = l → may l = false)
  | 0, _, _, _, h => absurd h (by simp [lexA])
  | k + 1, [], p, ts, h => by
    rw [lexA] at h
    obtain rfl := Option.some.inj h
    exact ⟨tk_nil p, vld_nil, fun _ => may_nil⟩
  | k + 1, c :: r, p, ts, h => by
    rw [lexA] at h
    by_cases h1 : c = 32
    · rw [if_pos h1] at h
      subst h1
      obtain ⟨a, b, _⟩ := lexA_tk k r _ _ h
      refine ⟨?_, by rw [vld_cons _ _ (by decide)]; exact b, fun _ => by rw [may_byte _ _ (by decide)]; decide⟩
      rw [tk_blank (l := 32 :: r) (by simp) rfl]
      exact a
    rw [if_neg h1] at h
    by_cases h2 : isSign c.toNat = true
    · rw [if_pos h2] at h
      obtain ⟨us, hu, rfl⟩ := Option.map_eq_some_iff.1 h
      obtain ⟨a, b, _⟩ := lexA_tk k r _ _ hu
      obtain ⟨s1, s2⟩ := sign_may h2
      refine ⟨?_, by rw [vld_cons _ _ s1]; exact b, fun _ => s2 r⟩
      rw [tk_sign (l := c :: r) (by simp) h2]
      show cons ⟨2, [c], p⟩ (tk r (p + 1)) = _
      rw [a]
      rfl
    rw [if_neg h2] at h
    by_cases h3 : letter c = true ∧ ((c :: r).takeWhile letter).length ≤ 24
    · rw [if_pos h3] at h
      obtain ⟨us, hu, rfl⟩ := Option.map_eq_some_iff.1 h
      obtain ⟨a, b, hm⟩ := lexA_tk k _ _ _ hu
      have hw : ((c :: r).takeWhile letter).all letter = true := List.all_takeWhile
      have hne : (c :: r).takeWhile letter ≠ [] := by rw [List.takeWhile_cons, if_pos h3.1]; simp
      have hmay : may ((c :: r).dropWhile letter) = false := hm (drop_drop (c :: r))
      have hsplit := (List.takeWhile_append_dropWhile (p := letter) (l := c :: r)).symm
      refine ⟨?_, ?_, fun hd => ?_⟩
      · rw [hsplit, tk_name (letters_name hw hne h3.2) hmay, a, ← hsplit]
        rfl
      · rw [hsplit, (letters hw).2.2]
        exact b
      · rw [List.dropWhile_cons, if_pos h3.1] at hd
        have := congrArg List.length hd
        have h4 := (List.dropWhile_sublist letter (l := r)).length_le
        simp only [List.length_cons] at this
        omega
    · rw [if_neg h3] at h
      exact absurd h (by simp)
theorem lexA_all {k : Nat} {l : List UInt8} {ts : List Tok} (h : lexA k l 0 = some ts) (hl : l.length ≤ 2048) : all l = .ok ts := by
  obtain ⟨a, b, _⟩ := lexA_tk k l 0 ts h
  unfold all
  rw [if_neg (by omega), if_pos b, a]
def b1 (c : UInt8) : ByteArray := ⟨#[c]⟩
theorem parse_lex {k : Nat} {l : List UInt8} {ts : List Tok} {res : Except Er (List ST)} (h : lexA k l 0 = some ts) (hl : l.length ≤ 2048) (hs : schemaT (3 * ts.length + 9) ts = some res) : parse l = some res := by
  unfold parse
  rw [lexA_all h hl]
  exact hs
end Go.Proofs.YtkgnhghaiopgcaaDoor.Pt
