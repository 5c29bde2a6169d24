/- The document's runes of a list of bytes, and what follows from their definition; plain Lean, no program; no condition. -/
import GoSem.Core.Utf8
import Derived.Laws.RangeAny
namespace Go.Proofs.YtkgnhghaiopgcaaDoor.Gl

/-- Does a byte in bounds stand at place k? -/
def isC (l : List UInt8) (k lo hi : Nat) : Bool := decide (k < l.length) && (decide (lo ≤ (l.getD k 0).toNat) && decide ((l.getD k 0).toNat ≤ hi))

/-- How many bytes the rune at a list's head has; 0: a broken byte stands there, or nothing. -/
def rlen (l : List UInt8) : Nat :=
  if l.length = 0 then 0
  else if (l.getD 0 0).toNat < 128 then 1
  else if 194 ≤ (l.getD 0 0).toNat ∧ (l.getD 0 0).toNat ≤ 223 then (if isC l 1 128 191 = true then 2 else 0)
  else if 224 ≤ (l.getD 0 0).toNat ∧ (l.getD 0 0).toNat ≤ 239 then
    (if isC l 1 (if (l.getD 0 0).toNat = 224 then 160 else 128) (if (l.getD 0 0).toNat = 237 then 159 else 191) = true ∧ isC l 2 128 191 = true then 3 else 0)
  else if 240 ≤ (l.getD 0 0).toNat ∧ (l.getD 0 0).toNat ≤ 244 then
    (if isC l 1 (if (l.getD 0 0).toNat = 240 then 144 else 128) (if (l.getD 0 0).toNat = 244 then 143 else 191) = true ∧ isC l 2 128 191 = true ∧ isC l 3 128 191 = true then 4 else 0)
  else 0

def stp (l : List UInt8) : Nat := if rlen l = 0 then 1 else rlen l

theorem isC_iff (l : List UInt8) (k lo hi : Nat) : isC l k lo hi = true ↔ k < l.length ∧ lo ≤ (l.getD k 0).toNat ∧ (l.getD k 0).toNat ≤ hi := by
  unfold isC; simp

theorem getD_take (l : List UInt8) (m k : Nat) : (l.take m).getD k 0 = if k < m then l.getD k 0 else 0 := by
  simp only [List.getD_eq_getElem?_getD, List.getElem?_take]
  split <;> rfl

theorem getD_append_left (l r : List UInt8) (k : Nat) (h : k < l.length) : (l ++ r).getD k 0 = l.getD k 0 := by
  simp only [List.getD_eq_getElem?_getD, List.getElem?_append_left h]

theorem isC_take (l : List UInt8) (m k lo hi : Nat) : isC (l.take m) k lo hi = true ↔ k < m ∧ isC l k lo hi = true := by
  rw [isC_iff, isC_iff, getD_take, List.length_take]
  by_cases h : k < m
  · rw [if_pos h]; omega
  · rw [if_neg h]; omega

theorem rlen_le (l : List UInt8) : rlen l ≤ l.length := by
  unfold rlen
  repeat' split
  all_goals first
    | omega
    | (simp only [isC_iff] at *; omega)

theorem rlen_le4 (l : List UInt8) : rlen l ≤ 4 := by
  unfold rlen
  repeat' split
  all_goals omega

theorem rlen_take (l : List UInt8) (m : Nat) : rlen (l.take m) = if rlen l ≤ m then rlen l else 0 := by
  by_cases hm : m = 0
  · subst hm
    have : rlen (l.take 0) = 0 := by simp [rlen]
    rw [this]; split <;> omega
  · by_cases hl : l.length = 0
    · have : l = [] := List.eq_nil_of_length_eq_zero hl
      subst this; simp [rlen]
    · unfold rlen
      have hz : (l.take m).length ≠ 0 := by rw [List.length_take]; omega
      have hg : (l.take m).getD 0 0 = l.getD 0 0 := by rw [getD_take, if_pos (by omega)]
      rw [if_neg hz, if_neg hl, hg]
      simp only [isC_take]
      generalize (l.getD 0 0).toNat = c
      by_cases h1 : c < 128
      · simp only [if_pos h1]; rw [if_pos (by omega)]
      · simp only [if_neg h1]
        by_cases h2 : 194 ≤ c ∧ c ≤ 223
        · simp only [if_pos h2]
          by_cases h : isC l 1 128 191 = true
          · simp only [h, and_true, if_true]; split <;> split <;> omega
          · simp [h]
        · simp only [if_neg h2]
          by_cases h3 : 224 ≤ c ∧ c ≤ 239
          · simp only [if_pos h3]
            generalize isC l 1 (if c = 224 then 160 else 128) (if c = 237 then 159 else 191) = a
            generalize isC l 2 128 191 = b
            cases a <;> cases b <;> simp <;> (try omega)
            split <;> split <;> omega
          · simp only [if_neg h3]
            by_cases h4 : 240 ≤ c ∧ c ≤ 244
            · simp only [if_pos h4]
              generalize isC l 1 (if c = 240 then 144 else 128) (if c = 244 then 143 else 191) = a
              generalize isC l 2 128 191 = b
              generalize isC l 3 128 191 = d
              cases a <;> cases b <;> cases d <;> simp <;> (try omega)
              split <;> split <;> omega
            · simp only [if_neg h4]; simp

/-- A rune is told by its own bytes. -/
theorem rlen_append (l r : List UInt8) (h : rlen l ≠ 0) : rlen (l ++ r) = rlen l := by
  have h1 := rlen_take (l ++ r) l.length
  rw [List.take_left] at h1
  split at h1 <;> omega

theorem stp_pos (l : List UInt8) : 1 ≤ stp l := by unfold stp; split <;> omega
theorem stp_le (l : List UInt8) (h : l ≠ []) : stp l ≤ l.length := by
  unfold stp; have := rlen_le l
  have : l.length ≠ 0 := by simpa using h
  split <;> omega
theorem stp_take (l : List UInt8) (m : Nat) (h : stp l ≤ m) : stp (l.take m) = stp l := by
  unfold stp at *
  rw [rlen_take]
  split at h <;> rename_i h0
  · rw [h0]; simp
  · rw [if_pos h, if_neg h0]

/-- No byte is broken. -/
def vld (l : List UInt8) : Bool :=
  if l.length = 0 then true else if rlen l = 0 then false else vld (l.drop (stp l))
termination_by l.length
decreasing_by simp only [List.length_drop]; have := stp_pos l; omega

/-- How many runes. -/
def cnt (l : List UInt8) : Nat :=
  if l.length = 0 then 0 else 1 + cnt (l.drop (stp l))
termination_by l.length
decreasing_by simp only [List.length_drop]; have := stp_pos l; omega

/-- How many bytes the first n runes have. -/
def plc : List UInt8 → Nat → Nat
  | _, 0 => 0
  | l, n + 1 => if l.length = 0 then 0 else stp l + plc (l.drop (stp l)) n

/-- The line and the column. -/
def whr (l : List UInt8) (at_ : Int) (p : Nat) (line col : Int) : Int × Int :=
  if l.length = 0 then (line, col)
  else if at_ ≤ p then (line, col)
  else if l.getD 0 0 = 10 then whr (l.drop (stp l)) at_ (p + stp l) (line + 1) 1
  else whr (l.drop (stp l)) at_ (p + stp l) line (col + 1)
termination_by l.length
decreasing_by all_goals (simp only [List.length_drop]; have := stp_pos l; omega)

/-- May the rune at the head stand in a name? -/
def may (l : List UInt8) : Bool :=
  if rlen l = 0 then false
  else if rlen l = 1 then decide ((l.getD 0 0).toNat = 95 ∨ (97 ≤ (l.getD 0 0).toNat ∧ (l.getD 0 0).toNat ≤ 122) ∨ (65 ≤ (l.getD 0 0).toNat ∧ (l.getD 0 0).toNat ≤ 90) ∨ (48 ≤ (l.getD 0 0).toNat ∧ (l.getD 0 0).toNat ≤ 57))
  else decide ((l.getD 0 0).toNat ≠ 194 ∨ 160 < (l.getD 1 0).toNat)

/-- All runes may stand in a name. -/
def mays (l : List UInt8) : Bool :=
  if l.length = 0 then true else may l && mays (l.drop (stp l))
termination_by l.length
decreasing_by simp only [List.length_drop]; have := stp_pos l; omega

def name (l : List UInt8) : Bool := mays l && (decide (0 < cnt l) && decide (cnt l ≤ 24))

/-! ### Utf8.decode, in these words -/
theorem get!_drop (s : ByteArray) (p k : Nat) : s.get! (p + k) = (s.data.toList.drop p).getD k 0 := by
  simp only [ByteArray.get!, List.getD_eq_getElem?_getD, List.getElem?_drop, Array.getElem?_toList]
  rw [getElem!_def]
  cases s.data[p + k]? <;> rfl

theorem size_drop (s : ByteArray) (p : Nat) : (s.data.toList.drop p).length = s.size - p := by
  rw [List.length_drop, Array.length_toList]; rfl

/-- The value of the rune at the head, as Utf8.decode has it. -/
def val (l : List UInt8) : Nat :=
  if rlen l = 0 then 65533
  else if rlen l = 1 then (l.getD 0 0).toNat
  else if rlen l = 2 then ((l.getD 0 0).toNat % 32) * 64 + (l.getD 1 0).toNat % 64
  else if rlen l = 3 then ((l.getD 0 0).toNat % 16) * 4096 + ((l.getD 1 0).toNat % 64) * 64 + (l.getD 2 0).toNat % 64
  else ((l.getD 0 0).toNat % 8) * 262144 + ((l.getD 1 0).toNat % 64) * 4096 + ((l.getD 2 0).toNat % 64) * 64 + (l.getD 3 0).toNat % 64

theorem valid_nat (c : Nat) : Utf8.valid (c : Int) = decide (c < 55296 ∨ (57344 ≤ c ∧ c ≤ 1114111)) := by
  unfold Utf8.valid
  rw [Bool.eq_iff_iff]; simp; omega

theorem decode_eq (s : ByteArray) (p : Nat) (h : p < s.size) : Utf8.decode s p = (val (s.data.toList.drop p), stp (s.data.toList.drop p)) := by
  have hl : (s.data.toList.drop p).length = s.size - p := size_drop s p
  simp only [Utf8.decode, get!_drop]
  generalize s.data.toList.drop p = l at *
  have e1 : ∀ k, decide (p + k < s.size) = decide (k < l.length) := fun k => by rw [hl]; congr 1; rw [eq_iff_iff]; omega
  simp only [e1, valid_nat]
  have b0 := (l.getD 0 0).toNat_lt; have b1 := (l.getD 1 0).toNat_lt; have b2 := (l.getD 2 0).toNat_lt; have b3 := (l.getD 3 0).toNat_lt
  have hr : rlen l = rlen l := rfl
  unfold val stp
  rw [show (if rlen l = 0 then 1 else rlen l) = max 1 (rlen l) by split <;> omega]
  generalize hR : rlen l = R
  unfold rlen at hR
  simp only [isC_iff] at hR
  have hn : ¬ l.length = 0 := by omega
  rw [if_neg hn] at hR
  generalize (l.getD 0 0).toNat = c0 at *
  generalize (l.getD 1 0).toNat = c1 at *
  generalize (l.getD 2 0).toNat = c2 at *
  generalize (l.getD 3 0).toNat = c3 at *
  generalize l.length = n at *
  by_cases h1 : c0 < 128
  · rw [if_pos h1] at hR ⊢; subst hR; simp
  · rw [if_neg h1] at hR ⊢
    have q2 : ((c0 / 32 == 6 && (decide (1 < n) && c1 / 64 == 2)) = true) ↔ (192 ≤ c0 ∧ c0 ≤ 223 ∧ 1 < n ∧ 128 ≤ c1 ∧ c1 ≤ 191) := by simp; omega
    have q3 : ((c0 / 16 == 14 && (decide (1 < n) && c1 / 64 == 2) && (decide (2 < n) && c2 / 64 == 2)) = true) ↔ (224 ≤ c0 ∧ c0 ≤ 239 ∧ 1 < n ∧ 128 ≤ c1 ∧ c1 ≤ 191 ∧ 2 < n ∧ 128 ≤ c2 ∧ c2 ≤ 191) := by simp; omega
    have q4 : ((c0 / 8 == 30 && (decide (1 < n) && c1 / 64 == 2) && (decide (2 < n) && c2 / 64 == 2) && (decide (3 < n) && c3 / 64 == 2)) = true) ↔ (240 ≤ c0 ∧ c0 ≤ 247 ∧ 1 < n ∧ 128 ≤ c1 ∧ c1 ≤ 191 ∧ 2 < n ∧ 128 ≤ c2 ∧ c2 ≤ 191 ∧ 3 < n ∧ 128 ≤ c3 ∧ c3 ≤ 191) := by simp; omega
    simp only [q2, q3, q4, Bool.and_eq_true, decide_eq_true_eq, Utf8.runeError, ge_iff_le]
    by_cases g2 : 192 ≤ c0 ∧ c0 ≤ 223 ∧ 1 < n ∧ 128 ≤ c1 ∧ c1 ≤ 191
    · rw [if_pos g2]
      by_cases g : 194 ≤ c0
      · rw [if_pos (by omega), if_pos (by omega)] at hR
        subst hR
        rw [if_pos (by omega)]; simp
      · rw [if_neg (by omega), if_neg (by omega), if_neg (by omega)] at hR
        subst hR
        rw [if_neg (by omega)]; simp
    · rw [if_neg g2]
      by_cases g3 : 224 ≤ c0 ∧ c0 ≤ 239 ∧ 1 < n ∧ 128 ≤ c1 ∧ c1 ≤ 191 ∧ 2 < n ∧ 128 ≤ c2 ∧ c2 ≤ 191
      · rw [if_pos g3]
        rw [if_neg (by omega), if_pos (by omega)] at hR
        by_cases g : 2048 ≤ c0 % 16 * 4096 + c1 % 64 * 64 + c2 % 64 ∧ (c0 % 16 * 4096 + c1 % 64 * 64 + c2 % 64 < 55296 ∨ 57344 ≤ c0 % 16 * 4096 + c1 % 64 * 64 + c2 % 64 ∧ c0 % 16 * 4096 + c1 % 64 * 64 + c2 % 64 ≤ 1114111)
        · rw [if_pos g]
          rw [if_pos (by split <;> split <;> omega)] at hR
          subst hR; simp
        · rw [if_neg g]
          rw [if_neg (by split <;> split <;> omega)] at hR
          subst hR; simp
      · rw [if_neg g3]
        by_cases g4 : 240 ≤ c0 ∧ c0 ≤ 247 ∧ 1 < n ∧ 128 ≤ c1 ∧ c1 ≤ 191 ∧ 2 < n ∧ 128 ≤ c2 ∧ c2 ≤ 191 ∧ 3 < n ∧ 128 ≤ c3 ∧ c3 ≤ 191
        · rw [if_pos g4]
          rw [if_neg (by omega), if_neg (by omega)] at hR
          by_cases g : 65536 ≤ c0 % 8 * 262144 + c1 % 64 * 4096 + c2 % 64 * 64 + c3 % 64 ∧ (c0 % 8 * 262144 + c1 % 64 * 4096 + c2 % 64 * 64 + c3 % 64 < 55296 ∨ 57344 ≤ c0 % 8 * 262144 + c1 % 64 * 4096 + c2 % 64 * 64 + c3 % 64 ∧ c0 % 8 * 262144 + c1 % 64 * 4096 + c2 % 64 * 64 + c3 % 64 ≤ 1114111)
          · rw [if_pos g]
            rw [if_pos (by omega), if_pos (by split <;> split <;> omega)] at hR
            subst hR; simp
          · rw [if_neg g]
            have : R = 0 := by
              rw [← hR]; split
              · rw [if_neg (by split <;> split <;> omega)]
              · rfl
            rw [this]; simp
        · rw [if_neg g4]
          have : R = 0 := by
            rw [← hR]
            repeat' split
            all_goals first | rfl | omega
          rw [this]; simp

/-- The five ways of a rune at the head. -/
theorem rlen_cases (l : List UInt8) :
    rlen l = 0 ∨ (rlen l = 1 ∧ (l.getD 0 0).toNat < 128 ∧ 1 ≤ l.length)
    ∨ (rlen l = 2 ∧ 194 ≤ (l.getD 0 0).toNat ∧ (l.getD 0 0).toNat ≤ 223 ∧ 2 ≤ l.length ∧ 128 ≤ (l.getD 1 0).toNat ∧ (l.getD 1 0).toNat ≤ 191)
    ∨ (rlen l = 3 ∧ 224 ≤ (l.getD 0 0).toNat ∧ (l.getD 0 0).toNat ≤ 239 ∧ 3 ≤ l.length ∧ 128 ≤ (l.getD 1 0).toNat ∧ (l.getD 1 0).toNat ≤ 191 ∧ ((l.getD 0 0).toNat = 224 → 160 ≤ (l.getD 1 0).toNat) ∧ ((l.getD 0 0).toNat = 237 → (l.getD 1 0).toNat ≤ 159) ∧ 128 ≤ (l.getD 2 0).toNat ∧ (l.getD 2 0).toNat ≤ 191)
    ∨ (rlen l = 4 ∧ 240 ≤ (l.getD 0 0).toNat ∧ (l.getD 0 0).toNat ≤ 244 ∧ 4 ≤ l.length ∧ 128 ≤ (l.getD 1 0).toNat ∧ (l.getD 1 0).toNat ≤ 191 ∧ ((l.getD 0 0).toNat = 240 → 144 ≤ (l.getD 1 0).toNat) ∧ ((l.getD 0 0).toNat = 244 → (l.getD 1 0).toNat ≤ 143) ∧ 128 ≤ (l.getD 2 0).toNat ∧ (l.getD 2 0).toNat ≤ 191 ∧ 128 ≤ (l.getD 3 0).toNat ∧ (l.getD 3 0).toNat ≤ 191) := by
  generalize hR : rlen l = R
  unfold rlen at hR
  simp only [isC_iff] at hR
  generalize (l.getD 0 0).toNat = c0 at *
  generalize (l.getD 1 0).toNat = c1 at *
  generalize (l.getD 2 0).toNat = c2 at *
  generalize (l.getD 3 0).toNat = c3 at *
  generalize l.length = n at *
  by_cases h0 : n = 0
  · rw [if_pos h0] at hR; omega
  rw [if_neg h0] at hR
  by_cases h1 : c0 < 128
  · rw [if_pos h1] at hR; omega
  rw [if_neg h1] at hR
  by_cases h2 : 194 ≤ c0 ∧ c0 ≤ 223
  · rw [if_pos h2] at hR; split at hR <;> omega
  rw [if_neg h2] at hR
  by_cases h3 : 224 ≤ c0 ∧ c0 ≤ 239
  · rw [if_pos h3] at hR
    by_cases a : c0 = 224
    · simp only [a, if_true, show ¬ (224 = 237) by decide, if_false] at hR; split at hR <;> omega
    · by_cases b : c0 = 237
      · simp only [b, if_true, show ¬ (237 = 224) by decide, if_false] at hR; split at hR <;> omega
      · simp only [if_neg a, if_neg b] at hR; split at hR <;> omega
  rw [if_neg h3] at hR
  by_cases h4 : 240 ≤ c0 ∧ c0 ≤ 244
  · rw [if_pos h4] at hR
    by_cases a : c0 = 240
    · simp only [a, if_true, show ¬ (240 = 244) by decide, if_false] at hR; split at hR <;> omega
    · by_cases b : c0 = 244
      · simp only [b, if_true, show ¬ (244 = 240) by decide, if_false] at hR; split at hR <;> omega
      · simp only [if_neg a, if_neg b] at hR; split at hR <;> omega
  rw [if_neg h4] at hR; omega

theorem val_high (l : List UInt8) (h : rlen l ≠ 1) : 128 ≤ val l := by
  have b0 := (l.getD 0 0).toNat_lt; have b1 := (l.getD 1 0).toNat_lt; have b2 := (l.getD 2 0).toNat_lt; have b3 := (l.getD 3 0).toNat_lt
  have hc := rlen_cases l
  unfold val
  generalize (l.getD 0 0).toNat = c0 at *
  generalize (l.getD 1 0).toNat = c1 at *
  generalize (l.getD 2 0).toNat = c2 at *
  generalize (l.getD 3 0).toNat = c3 at *
  rcases hc with e | ⟨e, _⟩ | ⟨e, h1⟩ | ⟨e, h1⟩ | ⟨e, h1⟩
  all_goals (rw [e]; simp <;> omega)

/-- The program's test for a broken byte. -/
theorem broken_iff (l : List UInt8) (hl : l ≠ []) : rlen l = 0 ↔ (val l = 65533 ∧ ¬ l.take 3 = [239, 191, 189]) := by
  have b0 := (l.getD 0 0).toNat_lt; have b1 := (l.getD 1 0).toNat_lt; have b2 := (l.getD 2 0).toNat_lt; have b3 := (l.getD 3 0).toNat_lt
  have h4 := rlen_le4 l
  have hle := rlen_le l
  constructor
  · intro h
    refine ⟨by simp [val, h], ?_⟩
    intro ht
    have h1 := rlen_take l 3
    rw [ht, h] at h1
    exact absurd h1 (by decide)
  · intro ⟨hv, ht⟩
    false_or_by_contra
    rename_i h
    apply ht
    have hr := hle
    have : rlen l = 3 ∧ (l.getD 0 0).toNat = 239 ∧ (l.getD 1 0).toNat = 191 ∧ (l.getD 2 0).toNat = 189 := by
      have hc := rlen_cases l
      unfold val at hv
      generalize (l.getD 0 0).toNat = c0 at *
      generalize (l.getD 1 0).toNat = c1 at *
      generalize (l.getD 2 0).toNat = c2 at *
      generalize (l.getD 3 0).toNat = c3 at *
      rcases hc with e | ⟨e, h1⟩ | ⟨e, h1⟩ | ⟨e, h1⟩ | ⟨e, h1⟩
      all_goals (rw [e] at hv; simp at hv; try omega)
    obtain ⟨h3, e0, e1, e2⟩ := this
    match l, h3, e0, e1, e2, hle with
    | a :: b :: c :: r, h3, e0, e1, e2, _ =>
      simp only [List.getD_cons_zero, List.getD_cons_succ] at e0 e1 e2
      have x0 : a = 239 := UInt8.toNat_inj.mp e0
      have x1 : b = 191 := UInt8.toNat_inj.mp e1
      have x2 : c = 189 := UInt8.toNat_inj.mp e2
      simp [x0, x1, x2]
    | [], h3, _, _, _, hle => simp at hle; omega
    | [_], h3, _, _, _, hle => simp at hle; omega
    | [_, _], h3, _, _, _, hle => simp at hle; omega

end Go.Proofs.YtkgnhghaiopgcaaDoor.Gl
