/- What the printed functions of package glyph and token tell, in the document's words; the document's tokens of a list of bytes, and what follows from their definition; no condition. -/
import Derived.Test.YtkgnhghaiopgcaaDoorGl
import Derived.Test.YtkgnhghaiopgcaaDoorX2
import Derived.Test.YtkgnhghaiopgcaaDoorX2
import Derived.Test.YtkgnhghaiopgcaaDoorX2
import Derived.Lib.Strings
import Derived.Test.YtkgnhghaiopgcaaDoorX5
import Derived.Stop.FmtQuoteTie
import Derived.Test.YtkgnhghaiopgcaaDoorX5
import Derived.Test.YtkgnhghaiopgcaaDoorMap
set_option linter.unusedVariables false
set_option linter.unusedSimpArgs false
namespace Go.Proofs.YtkgnhghaiopgcaaDoor.Gl

theorem vld_nil : vld [] = true := by rw [vld]; rfl
theorem cnt_nil : cnt [] = 0 := by rw [cnt]; rfl
theorem mays_nil : mays [] = true := by rw [mays]; rfl
theorem vld_step (l : List UInt8) (h : l ≠ []) : vld l = if rlen l = 0 then false else vld (l.drop (stp l)) := by
  rw [vld, if_neg (by simpa using h)]
theorem cnt_step (l : List UInt8) (h : l ≠ []) : cnt l = 1 + cnt (l.drop (stp l)) := by
  rw [cnt, if_neg (by simpa using h)]
theorem mays_step (l : List UInt8) (h : l ≠ []) : mays l = (may l && mays (l.drop (stp l))) := by
  rw [mays, if_neg (by simpa using h)]
theorem whr_step (l : List UInt8) (h : l ≠ []) (at_ : Int) (p : Nat) (line col : Int) : whr l at_ p line col = if at_ ≤ p then (line, col)
  else if l.getD 0 0 = 10 then whr (l.drop (stp l)) at_ (p + stp l) (line + 1) 1
  else whr (l.drop (stp l)) at_ (p + stp l) line (col + 1) := by
  rw [whr, if_neg (by simpa using h)]
theorem whr_nil (at_ : Int) (p : Nat) (line col : Int) : whr [] at_ p line col = (line, col) := by rw [whr]; simp
theorem plc_zero (l : List UInt8) : plc l 0 = 0 := by cases l <;> rfl
theorem plc_nil (n : Nat) : plc [] n = 0 := by cases n <;> simp [plc]
theorem plc_succ (l : List UInt8) (h : l ≠ []) (n : Nat) : plc l (n + 1) = stp l + plc (l.drop (stp l)) n := by
  rw [plc, if_neg (by simpa using h)]

/-- Induction along the runes. -/
theorem runes_ind {P : List UInt8 → Prop} (h0 : P []) (h1 : ∀ l, l ≠ [] → P (l.drop (stp l)) → P l) : ∀ l, P l := by
  have : ∀ (n : Nat) (l : List UInt8), l.length = n → P l := by
    intro n
    induction n using Nat.strongRecOn with
    | _ n ih =>
      intro l hl
      by_cases h : l = []
      · subst h; exact h0
      · have hp := stp_pos l
        have : l.length ≠ 0 := by simpa using h
        exact h1 l h (ih (l.drop (stp l)).length (by simp only [List.length_drop]; omega) _ rfl)
  exact fun l => this _ l rfl

theorem cnt_le (l : List UInt8) : cnt l ≤ l.length := by
  induction l using runes_ind with
  | h0 => simp [cnt_nil]
  | h1 l h ih =>
    rw [cnt_step l h]
    have := stp_le l h; have := stp_pos l
    simp only [List.length_drop] at ih; omega

theorem plc_le (n : Nat) : ∀ l, plc l n ≤ l.length := by
  induction n with
  | zero => intro l; simp [plc_zero]
  | succ n ih =>
    intro l
    by_cases h : l = []
    · subst h; simp [plc_nil]
    · rw [plc_succ l h]
      have h1 := ih (l.drop (stp l)); have h2 := stp_le l h
      simp only [List.length_drop] at h1; omega

theorem stp_append (a b : List UInt8) (h : rlen a ≠ 0) : stp (a ++ b) = stp a := by
  unfold stp; rw [rlen_append a b h]

theorem drop_stp_append (a b : List UInt8) (h : a ≠ []) (hr : rlen a ≠ 0) : (a ++ b).drop (stp (a ++ b)) = a.drop (stp a) ++ b := by
  rw [stp_append a b hr, List.drop_append_of_le_length (stp_le a h)]

theorem vld_head {l : List UInt8} (hv : vld l = true) (h : l ≠ []) : rlen l ≠ 0 ∧ vld (l.drop (stp l)) = true := by
  rw [vld_step l h] at hv
  split at hv
  · exact absurd hv (by simp)
  · exact ⟨by assumption, hv⟩

theorem vld_append (a b : List UInt8) (hv : vld a = true) : vld (a ++ b) = vld b := by
  induction a using runes_ind with
  | h0 => rfl
  | h1 a h ih =>
    obtain ⟨hr, hv'⟩ := vld_head hv h
    rw [vld_step (a ++ b) (by simp [h]), rlen_append a b hr, if_neg hr, drop_stp_append a b h hr]
    exact ih hv'

theorem cnt_append (a b : List UInt8) (hv : vld a = true) : cnt (a ++ b) = cnt a + cnt b := by
  induction a using runes_ind with
  | h0 => simp [cnt_nil]
  | h1 a h ih =>
    obtain ⟨hr, hv'⟩ := vld_head hv h
    rw [cnt_step (a ++ b) (by simp [h]), cnt_step a h, drop_stp_append a b h hr, ih hv']
    omega

theorem plc_append (a b : List UInt8) (hv : vld a = true) : plc (a ++ b) (cnt a) = a.length := by
  induction a using runes_ind with
  | h0 => simp [cnt_nil, plc_zero]
  | h1 a h ih =>
    obtain ⟨hr, hv'⟩ := vld_head hv h
    rw [cnt_step a h, show 1 + cnt (a.drop (stp a)) = cnt (a.drop (stp a)) + 1 by omega, plc_succ (a ++ b) (by simp [h]), drop_stp_append a b h hr, ih hv', stp_append a b hr]
    have := stp_le a h
    simp only [List.length_drop]; omega

theorem mays_vld {l : List UInt8} (hm : mays l = true) : vld l = true := by
  induction l using runes_ind with
  | h0 => exact vld_nil
  | h1 l h ih =>
    rw [mays_step l h, Bool.and_eq_true] at hm
    rw [vld_step l h]
    by_cases hr : rlen l = 0
    · have := hm.1; simp [may, hr] at this
    · rw [if_neg hr]; exact ih hm.2

theorem may_append (a b : List UInt8) (h : rlen a ≠ 0) : may (a ++ b) = may a := by
  have hl := rlen_le a
  have e0 : (a ++ b).getD 0 0 = a.getD 0 0 := getD_append_left a b 0 (by omega)
  unfold may
  rw [rlen_append a b h, if_neg h, if_neg h, e0]
  by_cases h1 : rlen a = 1
  · rw [if_pos h1, if_pos h1]
  · rw [if_neg h1, if_neg h1, getD_append_left a b 1 (by omega)]

theorem mays_append (a b : List UInt8) (hv : vld a = true) : mays (a ++ b) = (mays a && mays b) := by
  induction a using runes_ind with
  | h0 => simp [mays_nil]
  | h1 a h ih =>
    obtain ⟨hr, hv'⟩ := vld_head hv h
    rw [mays_step (a ++ b) (by simp [h]), mays_step a h, drop_stp_append a b h hr, ih hv', may_append a b hr, Bool.and_assoc]

theorem plc_add (a b : Nat) : ∀ l, plc l (a + b) = plc l a + plc (l.drop (plc l a)) b := by
  induction a with
  | zero => intro l; simp [plc_zero]
  | succ a ih =>
    intro l
    by_cases h : l = []
    · subst h; simp [plc_nil]
    · rw [show a + 1 + b = (a + b) + 1 by omega, plc_succ l h, plc_succ l h, ih, ← List.drop_drop]
      omega

theorem take_ne_nil {l : List UInt8} (h : l ≠ []) {m : Nat} (hm : 1 ≤ m) : l.take m ≠ [] := by
  have : l.length ≠ 0 := by simpa using h
  intro e
  have := congrArg List.length e
  simp only [List.length_take, List.length_nil] at this; omega

theorem cnt_take (n : Nat) : ∀ l, cnt (l.take (plc l n)) = min n (cnt l) := by
  induction n with
  | zero => intro l; simp [plc_zero, cnt_nil]
  | succ n ih =>
    intro l
    by_cases h : l = []
    · subst h; simp [plc_nil, cnt_nil]
    · have hs := stp_pos l
      rw [plc_succ l h, cnt_step l h, cnt_step (l.take _) (take_ne_nil h (by omega)), stp_take l _ (by omega), List.drop_take]
      rw [show stp l + plc (l.drop (stp l)) n - stp l = plc (l.drop (stp l)) n by omega, ih]
      omega

theorem cnt_drop (n : Nat) : ∀ l, min n (cnt l) + cnt (l.drop (plc l n)) = cnt l := by
  induction n with
  | zero => intro l; simp [plc_zero]
  | succ n ih =>
    intro l
    by_cases h : l = []
    · subst h; simp [plc_nil, cnt_nil]
    · have := ih (l.drop (stp l))
      rw [plc_succ l h, cnt_step l h, ← List.drop_drop]
      omega

/-- A place that is no rune's begin has no rune. -/
theorem cont_broken (l : List UInt8) (hc : 128 ≤ (l.getD 0 0).toNat ∧ (l.getD 0 0).toNat ≤ 191) : rlen l = 0 := by
  rcases rlen_cases l with e | ⟨e, h1⟩ | ⟨e, h1⟩ | ⟨e, h1⟩ | ⟨e, h1⟩ <;> omega

theorem inside_broken (l : List UInt8) (k : Nat) (h0 : 0 < k) (hk : k < rlen l) : rlen (l.drop k) = 0 := by
  have hl := rlen_le l
  apply cont_broken
  · have e : (l.drop k).getD 0 0 = l.getD k 0 := by simp [List.getD_eq_getElem?_getD, List.getElem?_drop]
    rw [e]
    rcases rlen_cases l with e | ⟨e, h1⟩ | ⟨e, h1⟩ | ⟨e, h1⟩ | ⟨e, h1⟩
    · omega
    · omega
    · have : k = 1 := by omega
      subst this; omega
    · have : k = 1 ∨ k = 2 := by omega
      rcases this with rfl | rfl <;> omega
    · have : k = 1 ∨ k = 2 ∨ k = 3 := by omega
      rcases this with rfl | rfl | rfl <;> omega

end Go.Proofs.YtkgnhghaiopgcaaDoor.Gl
namespace Go.Proofs.YtkgnhghaiopgcaaDoor.GlFn
open Go.RowKit Go.Proofs.YtkgnhghaiopgcaaDoorW.PrintWords Go.Proofs.YtkgnhghaiopgcaaDoor.X Go.Proofs.YtkgnhghaiopgcaaDoor.Gl

/-- Not told by 'rfl': so that the kernel isn't asked to unfold what stands behind. -/
theorem ob {α β : Type} (a : α) (f : α → Option β) : (some a).bind f = f a := by
  cases h : f a <;> simp [h]

abbrev L (s : ByteArray) : List UInt8 := s.data.toList
theorem L_length (s : ByteArray) : (L s).length = s.size := by simp only [L, Array.length_toList]; rfl
theorem toL (s : ByteArray) : s.toList = L s := ByteArray.toList_eq s
theorem L_extract (s : ByteArray) (a b : Nat) : L (s.extract a b) = ((L s).drop a).take (b - a) := Lib.extract_data s a b
theorem L_append (a b : ByteArray) : L (a ++ b) = L a ++ L b := by
  cases a; cases b; simp [L, ByteArray.data_append]
theorem L_inj {a b : ByteArray} (h : L a = L b) : a = b := by
  cases a; cases b; simpa [L, Array.toList_inj] using h

theorem drop_ne {s : ByteArray} {p : Nat} (h : p < s.size) : (L s).drop p ≠ [] := by
  intro e
  have := congrArg List.length e
  simp only [List.length_drop, L_length, List.length_nil] at this; omega
theorem drop_nil {s : ByteArray} {p : Nat} (h : ¬ p < s.size) : (L s).drop p = [] := by
  apply List.drop_eq_nil_of_le; rw [L_length]; omega

theorem w64 {i : Int} (h0 : -9223372036854775808 ≤ i) (h : i ≤ 9223372036854775807) : wrap64 i = i := by
  unfold wrap64; omega

theorem prefix_tells (t : ByteArray) : strings_HasPrefix.f t ⟨#[239, 191, 189]⟩ = some (decide ((L t).take 3 = [239, 191, 189])) := by
  unfold strings_HasPrefix.f stringslite_HasPrefix.f
  have e3 : ((⟨#[239, 191, 189]⟩ : ByteArray).size : Int) = 3 := rfl
  have el : (⟨#[239, 191, 189]⟩ : ByteArray).toList = [239, 191, 189] := by rw [ByteArray.toList_eq]
  rw [e3, el]
  by_cases h : (t.size : Int) ≥ 3
  · rw [if_pos h, if_pos (by omega), if_pos (by omega), toL, L_extract]
    simp only [Option.bind_some, List.drop_zero, Option.some.injEq]
    rw [Bool.eq_iff_iff]; simp
  · rw [if_neg h]
    simp only [Option.bind_some, Option.some.injEq]
    rw [eq_comm, decide_eq_false_iff_not]
    intro e
    have := congrArg List.length e
    simp only [List.length_take, L_length, List.length_cons, List.length_nil] at this; omega

theorem valid_l0 (s : ByteArray) : ∀ (k p : Nat), s.size - p < k → glyph_Valid.l0 s k p = some (vld ((L s).drop p)) := by
  intro k
  induction k with
  | zero => intro p h; omega
  | succ k ih =>
    intro p h
    simp only [glyph_Valid.l0]
    by_cases hp : p < s.size
    · have hne := drop_ne hp
      have hs := stp_pos ((L s).drop p)
      rw [if_pos hp, decode_eq s p hp, vld_step _ hne, List.drop_drop]
      have ih' := ih (p + stp ((L s).drop p)) (by omega)
      have hb := broken_iff _ hne
      have ex : L (s.extract p s.size) = (L s).drop p := by
        rw [L_extract]; exact List.take_of_length_le (by rw [List.length_drop, L_length]; omega)
      rw [prefix_tells, ex]
      simp only [Option.bind_some, decide_eq_true_eq]
      show (if val ((L s).drop p) = 65533 then if List.take 3 ((L s).drop p) = [239, 191, 189] then glyph_Valid.l0 s k (p + stp ((L s).drop p)) else some false else glyph_Valid.l0 s k (p + stp ((L s).drop p))) = _
      rw [ih']
      by_cases hv : val ((L s).drop p) = 65533
      · rw [if_pos hv]
        by_cases ht : List.take 3 ((L s).drop p) = [239, 191, 189]
        · rw [if_pos ht, if_neg (by rw [hb]; simp [ht])]
        · rw [if_neg ht, if_pos (hb.mpr ⟨hv, ht⟩)]
      · rw [if_neg hv, if_neg (by rw [hb]; simp [hv])]
    · rw [if_neg hp, drop_nil hp, vld_nil]

theorem Valid_f (s : ByteArray) : glyph_Valid.f s = some (vld (L s)) := by
  unfold glyph_Valid.f; rw [valid_l0 s _ 0 (by omega)]; rfl

theorem count_l0 (s : ByteArray) (hs : s.size ≤ 140737488351232) : ∀ (k p : Nat) (n : Int), s.size - p < k → 0 ≤ n → n ≤ p → p ≤ s.size →
    glyph_Count.l0 s k p n = some (n + cnt ((L s).drop p)) := by
  intro k
  induction k with
  | zero => intro p n h; omega
  | succ k ih =>
    intro p n h h0 hn hp'
    simp only [glyph_Count.l0]
    by_cases hp : p < s.size
    · have hne := drop_ne hp
      have h1 := stp_pos ((L s).drop p)
      have h2 := stp_le _ hne
      simp only [List.length_drop, L_length] at h2
      rw [if_pos hp, decode_eq s p hp, cnt_step _ hne, List.drop_drop]
      show glyph_Count.l0 s k (p + stp ((L s).drop p)) (wrap64 (n + 1)) = _
      rw [w64 (by omega) (by omega), ih (p + stp ((L s).drop p)) (n + 1) (by omega) (by omega) (by omega) (by omega)]
      congr 1; omega
    · rw [if_neg hp, drop_nil hp, cnt_nil]; simp

theorem Count_f (s : ByteArray) (hs : s.size ≤ 140737488351232) : glyph_Count.f s = some (cnt (L s) : Int) := by
  unfold glyph_Count.f; rw [count_l0 s hs _ 0 0 (by omega) (by omega) (by omega) (by omega)]; simp

theorem cut_l0 (s : ByteArray) (n : Int) (hs : s.size ≤ 140737488351232) : ∀ (k p : Nat) (j : Int), s.size - p < k → 0 ≤ j → j ≤ p → p ≤ s.size →
    ∃ x y, glyph_Cut.l0 s n k p j = some (x, y) ∧ L x = (L s).take (p + plc ((L s).drop p) (n - j).toNat) ∧ L y = (L s).drop (p + plc ((L s).drop p) (n - j).toNat) := by
  intro k
  induction k with
  | zero => intro p n h; omega
  | succ k ih =>
    intro p j h h0 hn hp'
    simp only [glyph_Cut.l0]
    by_cases hp : p < s.size
    · have hne := drop_ne hp
      have h1 := stp_pos ((L s).drop p)
      have h2 := stp_le _ hne
      simp only [List.length_drop, L_length] at h2
      rw [if_pos hp]
      by_cases hj : n ≤ j
      · rw [if_pos hj]
        refine ⟨_, _, rfl, ?_, ?_⟩
        · rw [L_extract, show (n - j).toNat = 0 by omega, plc_zero]; simp
        · rw [L_extract, show (n - j).toNat = 0 by omega, plc_zero]
          exact List.take_of_length_le (by rw [List.length_drop, L_length]; omega)
      · rw [if_neg hj, decode_eq s p hp]
        show ∃ x y, glyph_Cut.l0 s n k (p + stp ((L s).drop p)) (wrap64 (j + 1)) = _ ∧ _
        rw [w64 (by omega) (by omega)]
        obtain ⟨x, y, e, ex, ey⟩ := ih (p + stp ((L s).drop p)) (j + 1) (by omega) (by omega) (by omega) (by omega)
        refine ⟨x, y, e, ?_, ?_⟩
        · rw [ex, show (n - j).toNat = (n - (j + 1)).toNat + 1 by omega, plc_succ _ hne, List.drop_drop, Nat.add_assoc]
        · rw [ey, show (n - j).toNat = (n - (j + 1)).toNat + 1 by omega, plc_succ _ hne, List.drop_drop, Nat.add_assoc]
    · rw [if_neg hp]
      have e : p = s.size := by omega
      refine ⟨_, _, rfl, ?_, ?_⟩
      · rw [drop_nil hp, plc_nil, List.take_of_length_le (by rw [L_length]; omega)]
      · rw [drop_nil hp, plc_nil, Nat.add_zero, drop_nil hp]

theorem Cut_f (s : ByteArray) (n : Int) (hs : s.size ≤ 140737488351232) :
    ∃ x y, glyph_Cut.f s n = some (x, y) ∧ L x = (L s).take (plc (L s) n.toNat) ∧ L y = (L s).drop (plc (L s) n.toNat) := by
  obtain ⟨x, y, e, ex, ey⟩ := cut_l0 s n hs (s.size + 1) 0 0 (by omega) (by omega) (by omega) (by omega)
  refine ⟨x, y, e, ?_, ?_⟩
  · rw [ex]; simp
  · rw [ey]; simp

theorem val_ten (l : List UInt8) (h : l ≠ []) : val l = 10 ↔ l.getD 0 0 = 10 := by
  have e : l.getD 0 0 = 10 ↔ (l.getD 0 0).toNat = 10 := ⟨fun h => by rw [h]; rfl, fun h => UInt8.toNat_inj.mp h⟩
  rw [e]
  constructor
  · intro hv
    have : rlen l = 1 := by
      false_or_by_contra
      rename_i h1
      have := val_high l h1; omega
    unfold val at hv; rw [if_neg (by omega), if_pos this] at hv; exact hv
  · intro hc
    have : rlen l = 1 := by
      unfold rlen; rw [if_neg (by simpa using h), if_pos (by omega)]
    unfold val; rw [if_neg (by omega), if_pos this]; exact hc

theorem isLetter_iff (c : Nat) : isLetter (c : Int) = decide (c = 95 ∨ (97 ≤ c ∧ c ≤ 122) ∨ (65 ≤ c ∧ c ≤ 90) ∨ (48 ≤ c ∧ c ≤ 57)) := by
  unfold isLetter; rw [Bool.eq_iff_iff]; simp; omega

/-- The program's test of a rune of a valid text. -/
theorem may_val (l : List UInt8) (h : rlen l ≠ 0) : may l = (if val l < 161 then isLetter (val l : Int) else true) := by
  rw [isLetter_iff]
  have b0 := (l.getD 0 0).toNat_lt; have b1 := (l.getD 1 0).toNat_lt; have b2 := (l.getD 2 0).toNat_lt; have b3 := (l.getD 3 0).toNat_lt
  have hc := rlen_cases l
  unfold may val
  generalize (l.getD 0 0).toNat = c0 at *
  generalize (l.getD 1 0).toNat = c1 at *
  generalize (l.getD 2 0).toNat = c2 at *
  generalize (l.getD 3 0).toNat = c3 at *
  rcases hc with e | ⟨e, h1⟩ | ⟨e, h1⟩ | ⟨e, h1⟩ | ⟨e, h1⟩
  · exact absurd e h
  · rw [e]; simp; intro; omega
  all_goals (rw [e]; simp; rw [Bool.eq_iff_iff]; simp; omega)

theorem name_l0 (s : ByteArray) : ∀ (k p : Nat), s.size - p < k → vld ((L s).drop p) = true → glyph_Name.l0 s k p = some (mays ((L s).drop p)) := by
  intro k
  induction k with
  | zero => intro p h; omega
  | succ k ih =>
    intro p h hv
    simp only [glyph_Name.l0]
    by_cases hp : p < s.size
    · have hne := drop_ne hp
      have h1 := stp_pos ((L s).drop p)
      obtain ⟨hr, hv'⟩ := vld_head hv hne
      rw [List.drop_drop] at hv'
      rw [if_pos hp, decode_eq s p hp, mays_step _ hne, List.drop_drop, may_val _ hr]
      show (if val ((L s).drop p) < 161 then if isLetter (val ((L s).drop p) : Int) = true then glyph_Name.l0 s k (p + stp ((L s).drop p)) else some false else glyph_Name.l0 s k (p + stp ((L s).drop p))) = _
      rw [ih _ (by omega) hv']
      by_cases h161 : val ((L s).drop p) < 161
      · rw [if_pos h161, if_pos h161]
        cases isLetter (val ((L s).drop p) : Int) <;> simp
      · rw [if_neg h161, if_neg h161]; simp
    · rw [if_neg hp, drop_nil hp, mays_nil]

theorem Name_f (s : ByteArray) (hs : s.size ≤ 140737488351232) : glyph_Name.f s = some (name (L s)) := by
  unfold glyph_Name.f name
  rw [Valid_f]
  simp only [Option.bind_some]
  cases hv : vld (L s) with
  | false =>
    have : mays (L s) = false := by
      cases hm : mays (L s) with
      | false => rfl
      | true => rw [mays_vld hm] at hv; exact absurd hv (by simp)
    simp [this]
  | true =>
    rw [if_pos rfl, toL]
    by_cases he : L s = []
    · rw [he]; simp [cnt_nil]
    · rw [if_neg (by simpa using he), Count_f s hs]
      have hc : 0 < cnt (L s) := by rw [cnt_step _ he]; omega
      simp only [Option.bind_some]
      by_cases h24 : (cnt (L s) : Int) > 24
      · rw [if_pos h24]; simp; intro; omega
      · rw [if_neg h24, name_l0 s _ 0 (by omega) (by simpa using hv)]
        simp; intro; omega

end Go.Proofs.YtkgnhghaiopgcaaDoor.GlFn
namespace Go.Proofs.YtkgnhghaiopgcaaDoor.Tk
open Go.Proofs.YtkgnhghaiopgcaaDoor.Gl Go.Proofs.YtkgnhghaiopgcaaDoor.X Go.Extern.FmtText

/-- How many bytes the word ahead has. -/
def wlen (l : List UInt8) : Nat :=
  if l.length = 0 then 0 else if may l = true then stp l + wlen (l.drop (stp l)) else 0
termination_by l.length
decreasing_by simp only [List.length_drop]; have := stp_pos l; omega

theorem wlen_nil : wlen [] = 0 := by rw [wlen]; rfl
theorem wlen_step (l : List UInt8) (h : l ≠ []) : wlen l = if may l = true then stp l + wlen (l.drop (stp l)) else 0 := by
  rw [wlen, if_neg (by simpa using h)]
theorem may_nil : may [] = false := by decide
theorem may_ne {l : List UInt8} (h : may l = true) : l ≠ [] := by
  intro e; rw [e, may_nil] at h; exact absurd h (by decide)
theorem may_rlen {l : List UInt8} (h : may l = true) : rlen l ≠ 0 := by
  intro e; unfold may at h; rw [if_pos e] at h; exact absurd h (by decide)
theorem wlen_le (l : List UInt8) : wlen l ≤ l.length := by
  induction l using runes_ind with
  | h0 => simp [wlen_nil]
  | h1 l h ih =>
    rw [wlen_step l h]
    have := stp_le l h
    simp only [List.length_drop] at ih
    split <;> omega
theorem wlen_pos {l : List UInt8} (h : may l = true) : 1 ≤ wlen l := by
  rw [wlen_step l (may_ne h), if_pos h]; have := stp_pos l; omega
theorem wlen_zero {l : List UInt8} (h : ¬ may l = true) : wlen l = 0 := by
  by_cases e : l = []
  · rw [e, wlen_nil]
  · rw [wlen_step l e, if_neg h]
/-- Behind the word ahead none goes on. -/
theorem wlen_ends (l : List UInt8) : may (l.drop (wlen l)) = false := by
  induction l using runes_ind with
  | h0 => rw [List.drop_nil]; exact may_nil
  | h1 l h ih =>
    rw [wlen_step l h]
    by_cases hm : may l = true
    · rw [if_pos hm, ← List.drop_drop]; exact ih
    · rw [if_neg hm]; simpa using hm
theorem stp_take_le {l : List UInt8} (h : l ≠ []) {m : Nat} (hm : stp l ≤ m) : l.take m ≠ [] := take_ne_nil h (Nat.le_trans (stp_pos l) hm)
theorem drop_stp_take (l : List UInt8) (m : Nat) (h : stp l ≤ m) : (l.take m).drop (stp (l.take m)) = (l.drop (stp l)).take (m - stp l) := by
  rw [stp_take l m h, List.drop_take]
theorem may_take {l : List UInt8} {m : Nat} (h : may l = true) (hm : stp l ≤ m) : may (l.take m) = true := by
  have hr := may_rlen h
  have hs : stp l = rlen l := by unfold stp; rw [if_neg hr]
  have h1 : rlen (l.take m) = rlen l := by rw [rlen_take, if_pos (by omega)]
  have : may (l.take m ++ l.drop m) = may (l.take m) := may_append _ _ (by rw [h1]; exact hr)
  rw [List.take_append_drop] at this
  rw [← this]; exact h
theorem mays_wlen (l : List UInt8) : mays (l.take (wlen l)) = true := by
  induction l using runes_ind with
  | h0 => simp [mays_nil]
  | h1 l h ih =>
    rw [wlen_step l h]
    by_cases hm : may l = true
    · rw [if_pos hm]
      have hne := stp_take_le h (m := stp l + wlen (l.drop (stp l))) (by omega)
      rw [mays_step _ hne, drop_stp_take _ _ (by omega), may_take hm (by omega)]
      rw [show stp l + wlen (l.drop (stp l)) - stp l = wlen (l.drop (stp l)) by omega, ih]; rfl
    · rw [if_neg hm]; simp [mays_nil]
theorem vld_wlen {l : List UInt8} (hv : vld l = true) : vld (l.drop (wlen l)) = true := by
  induction l using runes_ind with
  | h0 => simpa [wlen_nil] using hv
  | h1 l h ih =>
    rw [wlen_step l h]
    by_cases hm : may l = true
    · rw [if_pos hm, ← List.drop_drop]; exact ih (vld_head hv h).2
    · rw [if_neg hm]; simpa using hv

/-- How many bytes stand ahead of a newline, or of the end. -/
theorem noteLen_le (l : List UInt8) : noteLen l ≤ l.length := by rw [noteLen_upto]; exact uptoByte_le _ _
theorem noteLen_skip : ∀ (n : Nat) (l : List UInt8), n ≤ l.length → (∀ i, i < n → l.getD i 0 ≠ 10) → noteLen l = n + noteLen (l.drop n) := by
  intro n
  induction n with
  | zero => intro l _ _; simp
  | succ n ih =>
    intro l hl h
    cases l with
    | nil => simp at hl
    | cons c r =>
      have hc : c ≠ 10 := h 0 (by omega)
      rw [noteLen, if_neg hc, ih r (by simpa using hl) (fun i hi => h (i + 1) (by omega))]
      simp; omega
theorem getD_ne_ten {l : List UInt8} {i : Nat} (h : (l.getD i 0).toNat ≠ 10) : l.getD i 0 ≠ 10 := fun e => h (by rw [e]; rfl)
theorem noteLen_stp {l : List UInt8} (hr : rlen l ≠ 0) (h10 : l.getD 0 0 ≠ 10) : noteLen l = stp l + noteLen (l.drop (stp l)) := by
  have hs : stp l = rlen l := by unfold stp; rw [if_neg hr]
  have hle := rlen_le l
  have hc := rlen_cases l
  rw [hs]
  apply noteLen_skip _ _ hle
  intro i hi
  by_cases hi0 : i = 0
  · subst hi0; exact h10
  apply getD_ne_ten
  rcases hc with e | ⟨e, _⟩ | ⟨e, h1⟩ | ⟨e, h1⟩ | ⟨e, h1⟩
  · exact absurd e hr
  · omega
  · have : i = 1 := by omega
    subst this; omega
  · have : i = 1 ∨ i = 2 := by omega
    rcases this with rfl | rfl <;> omega
  · have : i = 1 ∨ i = 2 ∨ i = 3 := by omega
    rcases this with rfl | rfl | rfl <;> omega
theorem noteLen_ten {l : List UInt8} (h : l.getD 0 0 = 10) : noteLen l = 0 := by
  cases l with
  | nil => rfl
  | cons c r => rw [noteLen, if_pos (by simpa using h)]
theorem vld_note {l : List UInt8} (hv : vld l = true) : vld (l.drop (noteLen l)) = true := by
  induction l using runes_ind with
  | h0 => simpa [noteLen] using hv
  | h1 l h ih =>
    obtain ⟨hr, hv'⟩ := vld_head hv h
    by_cases h10 : l.getD 0 0 = 10
    · rw [noteLen_ten h10]; simpa using hv
    · rw [noteLen_stp hr h10, ← List.drop_drop]; exact ih hv'
theorem noteLen_two {l : List UInt8} (h : l.take 2 = [47, 47]) : 2 ≤ noteLen l := by
  match l, h with
  | [], h => simp at h
  | [a], h => simp at h
  | a :: b :: r, h =>
    simp at h; obtain ⟨rfl, rfl⟩ := h
    simp [noteLen]

structure Tok where
  kind : Int
  text : List UInt8
  at_ : Nat
deriving DecidableEq

def blk (c : UInt8) : Bool := decide (c.toNat = 32 ∨ c.toNat = 9 ∨ c.toNat = 10)

abbrev R := Except (Int × Nat) (List Tok)
def cons (t : Tok) : R → R
  | .ok l => .ok (t :: l)
  | .error e => .error e

/-- The tokens of a text without broken bytes, behind place p. -/
def tk (l : List UInt8) (p : Nat) : R :=
  if _h0 : l.length = 0 then .ok [⟨3, [], p⟩]
  else if blk (l.getD 0 0) = true then tk (l.drop 1) (p + 1)
  else if l.getD 0 0 = 47 then (if _h1 : l.take 2 = [47, 47] then tk (l.drop (noteLen l)) (p + noteLen l) else .error (30, p))
  else if isSign (l.getD 0 0).toNat = true then cons ⟨2, l.take 1, p⟩ (tk (l.drop 1) (p + 1))
  else if _h2 : may l = true then (if cnt (l.take (wlen l)) ≤ 24 then cons ⟨1, l.take (wlen l), p⟩ (tk (l.drop (wlen l)) (p + wlen l)) else .error (31, p))
  else .error (30, p)
termination_by l.length
decreasing_by
  · simp only [List.length_drop]; omega
  · simp only [List.length_drop]; have := noteLen_two _h1; omega
  · simp only [List.length_drop]; omega
  · simp only [List.length_drop]; have := wlen_pos _h2; omega

theorem tk_nil (p : Nat) : tk [] p = .ok [⟨3, [], p⟩] := by rw [tk]; simp
theorem len_ne {l : List UInt8} (h : l ≠ []) : ¬ l.length = 0 := by simpa using h
theorem tk_blank {l : List UInt8} (h : l ≠ []) (hb : blk (l.getD 0 0) = true) (p : Nat) : tk l p = tk (l.drop 1) (p + 1) := by
  rw [tk, dif_neg (len_ne h), if_pos hb]
theorem blk_slash {l : List UInt8} (h : l.getD 0 0 = 47) : ¬ blk (l.getD 0 0) = true := by rw [h]; decide
theorem tk_note {l : List UInt8} (h : l.take 2 = [47, 47]) (p : Nat) : tk l p = tk (l.drop (noteLen l)) (p + noteLen l) := by
  have hl : l ≠ [] := by intro e; rw [e] at h; simp at h
  have h0 : l.getD 0 0 = 47 := by
    match l, h with
    | [], h => simp at h
    | a :: r, h => cases r <;> simp at h <;> simp [h.1]
  rw [tk, dif_neg (len_ne hl), if_neg (blk_slash h0), if_pos h0, dif_pos h]
theorem tk_slash {l : List UInt8} (h0 : l.getD 0 0 = 47) (h : ¬ l.take 2 = [47, 47]) (p : Nat) : tk l p = .error (30, p) := by
  have hl : l ≠ [] := by intro e; rw [e] at h0; exact absurd h0 (by decide)
  rw [tk, dif_neg (len_ne hl), if_neg (blk_slash h0), if_pos h0, dif_neg h]
theorem sign_not {c : UInt8} (h : isSign c.toNat = true) : ¬ blk c = true ∧ c ≠ 47 := by
  have hn : c.toNat ≠ 32 ∧ c.toNat ≠ 9 ∧ c.toNat ≠ 10 ∧ c.toNat ≠ 47 := by
    simp only [isSign, Bool.or_eq_true, decide_eq_true_eq] at h; omega
  refine ⟨?_, fun e => hn.2.2.2 (by rw [e]; rfl)⟩
  simp only [blk, decide_eq_true_eq]; omega
theorem tk_sign {l : List UInt8} (h : l ≠ []) (hs : isSign (l.getD 0 0).toNat = true) (p : Nat) : tk l p = cons ⟨2, l.take 1, p⟩ (tk (l.drop 1) (p + 1)) := by
  rw [tk, dif_neg (len_ne h), if_neg (sign_not hs).1, if_neg (sign_not hs).2, if_pos hs]
theorem may_not {l : List UInt8} (h : may l = true) : ¬ blk (l.getD 0 0) = true ∧ l.getD 0 0 ≠ 47 ∧ ¬ isSign (l.getD 0 0).toNat = true := by
  have hn : (l.getD 0 0).toNat = 95 ∨ (97 ≤ (l.getD 0 0).toNat ∧ (l.getD 0 0).toNat ≤ 122) ∨ (65 ≤ (l.getD 0 0).toNat ∧ (l.getD 0 0).toNat ≤ 90) ∨ (48 ≤ (l.getD 0 0).toNat ∧ (l.getD 0 0).toNat ≤ 57) ∨ 128 ≤ (l.getD 0 0).toNat := by
    unfold may at h
    have hc := rlen_cases l
    split at h
    · exact absurd h (by decide)
    split at h
    · have := of_decide_eq_true h; omega
    · omega
  refine ⟨?_, fun e => by rw [e] at hn; exact absurd hn (by decide), ?_⟩
  · simp only [blk, decide_eq_true_eq]; omega
  · simp only [isSign, Bool.or_eq_true, decide_eq_true_eq]; omega
theorem tk_word {l : List UInt8} (h : may l = true) (hc : cnt (l.take (wlen l)) ≤ 24) (p : Nat) : tk l p = cons ⟨1, l.take (wlen l), p⟩ (tk (l.drop (wlen l)) (p + wlen l)) := by
  obtain ⟨h1, h2, h3⟩ := may_not h
  rw [tk, dif_neg (len_ne (may_ne h)), if_neg h1, if_neg h2, if_neg h3, dif_pos h, if_pos hc]
theorem tk_long {l : List UInt8} (h : may l = true) (hc : ¬ cnt (l.take (wlen l)) ≤ 24) (p : Nat) : tk l p = .error (31, p) := by
  obtain ⟨h1, h2, h3⟩ := may_not h
  rw [tk, dif_neg (len_ne (may_ne h)), if_neg h1, if_neg h2, if_neg h3, dif_pos h, if_neg hc]
theorem tk_other {l : List UInt8} (h : l ≠ []) (h1 : ¬ blk (l.getD 0 0) = true) (h2 : l.getD 0 0 ≠ 47) (h3 : ¬ isSign (l.getD 0 0).toNat = true) (h4 : ¬ may l = true) (p : Nat) : tk l p = .error (30, p) := by
  rw [tk, dif_neg (len_ne h), if_neg h1, if_neg h2, if_neg h3, dif_neg h4]

/-- Induction along the tokens. -/
theorem tk_ind {P : List UInt8 → Prop} (h0 : P []) (hb : ∀ l, l ≠ [] → blk (l.getD 0 0) = true → P (l.drop 1) → P l)
    (hn : ∀ l, l.take 2 = [47, 47] → P (l.drop (noteLen l)) → P l) (hsl : ∀ l, l.getD 0 0 = 47 → ¬ l.take 2 = [47, 47] → P l)
    (hs : ∀ l, l ≠ [] → isSign (l.getD 0 0).toNat = true → P (l.drop 1) → P l)
    (hw : ∀ l, may l = true → cnt (l.take (wlen l)) ≤ 24 → P (l.drop (wlen l)) → P l) (hlg : ∀ l, may l = true → ¬ cnt (l.take (wlen l)) ≤ 24 → P l)
    (ho : ∀ l, l ≠ [] → ¬ blk (l.getD 0 0) = true → l.getD 0 0 ≠ 47 → ¬ isSign (l.getD 0 0).toNat = true → ¬ may l = true → P l) : ∀ l, P l := by
  have : ∀ (n : Nat) (l : List UInt8), l.length = n → P l := by
    intro n
    induction n using Nat.strongRecOn with
    | _ n ih =>
      intro l hl
      by_cases e : l = []
      · subst e; exact h0
      have hpos : l.length ≠ 0 := by simpa using e
      by_cases h1 : blk (l.getD 0 0) = true
      · exact hb l e h1 (ih (l.drop 1).length (by simp only [List.length_drop]; omega) _ rfl)
      by_cases h2 : l.getD 0 0 = 47
      · by_cases h2' : l.take 2 = [47, 47]
        · have := noteLen_two h2'
          exact hn l h2' (ih (l.drop (noteLen l)).length (by simp only [List.length_drop]; omega) _ rfl)
        · exact hsl l h2 h2'
      by_cases h3 : isSign (l.getD 0 0).toNat = true
      · exact hs l e h3 (ih (l.drop 1).length (by simp only [List.length_drop]; omega) _ rfl)
      by_cases h4 : may l = true
      · by_cases h5 : cnt (l.take (wlen l)) ≤ 24
        · have := wlen_pos h4
          exact hw l h4 h5 (ih (l.drop (wlen l)).length (by simp only [List.length_drop]; omega) _ rfl)
        · exact hlg l h4 h5
      · exact ho l e h1 h2 h3 h4
  exact fun l => this _ l rfl

/-- The first broken byte's place. -/
def brk (l : List UInt8) : Nat :=
  if l.length = 0 then 0 else if rlen l = 0 then 0 else stp l + brk (l.drop (stp l))
termination_by l.length
decreasing_by simp only [List.length_drop]; have := stp_pos l; omega
theorem brk_step {l : List UInt8} (h : l ≠ []) (hr : rlen l ≠ 0) : brk l = stp l + brk (l.drop (stp l)) := by rw [brk, if_neg (len_ne h), if_neg hr]
theorem brk_zero {l : List UInt8} (h : rlen l = 0) : brk l = 0 := by
  rw [brk]; simp [h]

/-- The document's answer. -/
def all (l : List UInt8) : R := if l.length > 2048 then .error (13, 0) else if vld l = true then tk l 0 else .error (11, brk l)

/-- A rune of a valid text, written again, is its bytes. -/
theorem encode_val {l : List UInt8} (hr : rlen l ≠ 0) : (Utf8.encode (val l : Int)).data.toList = l.take (stp l) := by
  have b0 := (l.getD 0 0).toNat_lt; have b1 := (l.getD 1 0).toNat_lt; have b2 := (l.getD 2 0).toNat_lt; have b3 := (l.getD 3 0).toNat_lt
  have hc := rlen_cases l
  have hs : stp l = rlen l := by unfold stp; rw [if_neg hr]
  have of : ∀ (i n : Nat), n = (l.getD i 0).toNat → UInt8.ofNat n = l.getD i 0 := fun i n h => by rw [h]; exact UInt8.ofNat_toNat
  have tk1 : ∀ i, i < l.length → l[i]? = some (l.getD i 0) := fun i hi => by rw [List.getElem?_eq_getElem hi, List.getD_eq_getElem?_getD, List.getElem?_eq_getElem hi]; rfl
  rcases hc with e | ⟨e, h1⟩ | ⟨e, h1⟩ | ⟨e, h1⟩ | ⟨e, h1⟩
  · exact absurd e hr
  · have hv : val l = (l.getD 0 0).toNat := by unfold val; rw [if_neg hr, if_pos e]
    rw [hv, enc1 _ (by omega), of 0 _ rfl, hs, e]
    apply List.ext_getElem?
    intro i
    rw [List.getElem?_take]
    match i with
    | 0 => rw [if_pos (by omega), tk1 0 (by omega)]; rfl
    | i + 1 => rw [if_neg (by omega)]; rfl
  · have hv : val l = ((l.getD 0 0).toNat % 32) * 64 + (l.getD 1 0).toNat % 64 := by unfold val; rw [if_neg hr, if_neg (by omega), if_pos e]
    rw [hv, enc2 _ (by omega) (by omega), of 0 _ (by omega), of 1 _ (by omega), hs, e]
    apply List.ext_getElem?
    intro i
    rw [List.getElem?_take]
    match i with
    | 0 => rw [if_pos (by omega), tk1 0 (by omega)]; rfl
    | 1 => rw [if_pos (by omega), tk1 1 (by omega)]; rfl
    | i + 2 => rw [if_neg (by omega)]; rfl
  · have hv : val l = ((l.getD 0 0).toNat % 16) * 4096 + ((l.getD 1 0).toNat % 64) * 64 + (l.getD 2 0).toNat % 64 := by unfold val; rw [if_neg hr, if_neg (by omega), if_neg (by omega), if_pos e]
    rw [hv, enc3 _ (by omega) (by omega) (by omega), of 0 _ (by omega), of 1 _ (by omega), of 2 _ (by omega), hs, e]
    apply List.ext_getElem?
    intro i
    rw [List.getElem?_take]
    match i with
    | 0 => rw [if_pos (by omega), tk1 0 (by omega)]; rfl
    | 1 => rw [if_pos (by omega), tk1 1 (by omega)]; rfl
    | 2 => rw [if_pos (by omega), tk1 2 (by omega)]; rfl
    | i + 3 => rw [if_neg (by omega)]; rfl
  · have hv : val l = ((l.getD 0 0).toNat % 8) * 262144 + ((l.getD 1 0).toNat % 64) * 4096 + ((l.getD 2 0).toNat % 64) * 64 + (l.getD 3 0).toNat % 64 := by unfold val; rw [if_neg hr, if_neg (by omega), if_neg (by omega), if_neg (by omega)]
    rw [hv, enc4 _ (by omega) (by omega), of 0 _ (by omega), of 1 _ (by omega), of 2 _ (by omega), of 3 _ (by omega), hs, e]
    apply List.ext_getElem?
    intro i
    rw [List.getElem?_take]
    match i with
    | 0 => rw [if_pos (by omega), tk1 0 (by omega)]; rfl
    | 1 => rw [if_pos (by omega), tk1 1 (by omega)]; rfl
    | 2 => rw [if_pos (by omega), tk1 2 (by omega)]; rfl
    | 3 => rw [if_pos (by omega), tk1 3 (by omega)]; rfl
    | i + 4 => rw [if_neg (by omega)]; rfl

end Go.Proofs.YtkgnhghaiopgcaaDoor.Tk
namespace Go.Proofs.YtkgnhghaiopgcaaDoor.TkFn
open Go.RowKit Go.Proofs.YtkgnhghaiopgcaaDoorW.PrintWords Go.Proofs.YtkgnhghaiopgcaaDoor.X Go.Proofs.YtkgnhghaiopgcaaDoor.Gl Go.Proofs.YtkgnhghaiopgcaaDoor.GlFn Go.Proofs.YtkgnhghaiopgcaaDoor.Tk

theorem L_mk (l : List UInt8) : L ⟨l.toArray⟩ = l := rfl
theorem eq_mk {s : ByteArray} {l : List UInt8} (h : L s = l) : s = ⟨l.toArray⟩ := L_inj (by rw [h])
theorem L_tail (s : ByteArray) (p : Nat) : L (s.extract p s.size) = (L s).drop p := by
  rw [L_extract]
  exact List.take_of_length_le (by rw [List.length_drop, L_length]; exact Nat.le_refl _)
theorem plc_one {l : List UInt8} (h : l ≠ []) : plc l 1 = stp l := by rw [plc_succ l h, plc_zero]; rfl

theorem vld_take_stp {l : List UInt8} (h : l ≠ []) : vld (l.take (stp l)) = decide (rlen l ≠ 0) := by
  rw [vld_step _ (take_ne_nil h (stp_pos l))]
  by_cases hr : rlen l = 0
  · have hs : stp l = 1 := by unfold stp; rw [if_pos hr]
    rw [rlen_take, hr, hs]; simp
  · have hs : stp l = rlen l := by unfold stp; rw [if_neg hr]
    have e : rlen (l.take (stp l)) = rlen l := by rw [rlen_take, if_pos (by omega)]
    rw [e, if_neg hr, stp_take l _ (Nat.le_refl _), List.drop_take, Nat.sub_self]
    simp [vld_nil, hr]

theorem broken_l0 (s : ByteArray) (hs : s.size ≤ 4096) : ∀ (k p : Nat), s.size - p < k → p ≤ s.size →
    token_broken.l0 s k p = some (if vld ((L s).drop p) = true then -1 else ((p + brk ((L s).drop p) : Nat) : Int)) := by
  intro k
  induction k with
  | zero => intro p h; omega
  | succ k ih =>
    intro p h hp'
    simp only [token_broken.l0]
    by_cases hp : p < s.size
    · have hne := drop_ne hp
      have h1 := stp_pos ((L s).drop p)
      have h2 := stp_le _ hne
      simp only [List.length_drop, L_length] at h2
      obtain ⟨x, y, e, ex, ey⟩ := Cut_f (s.extract p s.size) 1 (by rw [ByteArray.size_extract]; omega)
      rw [L_tail, show (1 : Int).toNat = 1 from rfl, plc_one hne] at ey
      have hy : y.size = s.size - p - stp ((L s).drop p) := by
        have := congrArg List.length ey
        simp only [List.length_drop, L_length] at this; omega
      have hcut : L (s.extract p (s.size - y.size)) = ((L s).drop p).take (stp ((L s).drop p)) := by
        rw [L_extract, show s.size - y.size - p = stp ((L s).drop p) by omega]
      rw [if_pos hp, e, ob]
      show (if p + y.size ≤ s.size then _ else _) = _
      rw [if_pos (by omega), Valid_f, ob, hcut, vld_take_stp hne, vld_step _ hne]
      by_cases hr : rlen ((L s).drop p) = 0
      · rw [if_pos hr, brk_zero hr]; simp [hr]
      · rw [if_neg hr, brk_step hne hr, decode_eq s p hp]
        show (if _ then token_broken.l0 s k (p + stp ((L s).drop p)) else _) = _
        rw [if_pos (by simpa using hr), ih _ (by omega) (by omega), List.drop_drop, Nat.add_assoc]
    · rw [if_neg hp, drop_nil hp, vld_nil]; rfl

theorem broken_f (s : ByteArray) (hs : s.size ≤ 4096) : token_broken.f s = some (if vld (L s) = true then -1 else (brk (L s) : Int)) := by
  unfold token_broken.f
  rw [broken_l0 s hs _ 0 (by omega) (by omega)]; simp

theorem may_stp {l : List UInt8} (hr : rlen l ≠ 0) {m : Nat} (hm : stp l ≤ m) : may (l.take m) = may l := by
  have hs : stp l = rlen l := by unfold stp; rw [if_neg hr]
  have h1 : rlen (l.take m) = rlen l := by rw [rlen_take, if_pos (by omega)]
  have : may (l.take m ++ l.drop m) = may (l.take m) := may_append _ _ (by rw [h1]; exact hr)
  rw [List.take_append_drop] at this
  exact this.symm
theorem cnt_pos {l : List UInt8} (h : l ≠ []) : 1 ≤ cnt l := by rw [cnt_step l h]; omega
theorem name_rune {l : List UInt8} (h : l ≠ []) (hr : rlen l ≠ 0) : name (l.take (stp l)) = may l := by
  have hc : cnt (l.take (stp l)) = 1 := by
    have := cnt_take 1 l
    rw [plc_one h] at this
    have := cnt_pos h; omega
  unfold name
  rw [hc, mays_step _ (take_ne_nil h (stp_pos l)), may_stp hr (Nat.le_refl _), drop_stp_take l _ (Nat.le_refl _), Nat.sub_self, List.take_zero, mays_nil]
  simp
theorem size_eq {s : ByteArray} {l : List UInt8} (h : L s = l) : s.size = l.length := by rw [← h, L_length]

theorem of_toList {s : ByteArray} {l : List UInt8} (h : s.data.toList = l) : L s = l := h
theorem enc_size {l : List UInt8} (h : l ≠ []) (hr : rlen l ≠ 0) : (Utf8.encode (val l : Int)).size = stp l := by
  have h2 := stp_le l h
  have hen : L (Utf8.encode (val l : Int)) = l.take (stp l) := of_toList (encode_val hr)
  rw [size_eq hen, List.length_take]
  exact Nat.min_eq_left h2
theorem enc_name {l : List UInt8} (h : l ≠ []) (hr : rlen l ≠ 0) : glyph_Name.f (Utf8.encode (val l : Int)) = some (may l) := by
  have hs : stp l ≤ 4 := by
    have := rlen_le4 l
    unfold stp; split <;> omega
  have hen : L (Utf8.encode (val l : Int)) = l.take (stp l) := of_toList (encode_val hr)
  have hz := enc_size h hr
  have hb : (Utf8.encode (val l : Int)).size ≤ 140737488351232 := by rw [hz]; omega
  rw [Name_f _ hb, hen, name_rune h hr]

theorem word_l0 (t : ByteArray) (ht : t.size ≤ 4096) : ∀ (k p : Nat) (n : Int), t.size - p < k → vld ((L t).drop p) = true →
    token_word.l0 t k p n = some (n + (wlen ((L t).drop p) : Nat)) := by
  intro k
  induction k with
  | zero => intro p n h; omega
  | succ k ih =>
    intro p n h hv
    simp only [token_word.l0]
    by_cases hp : p < t.size
    · have hne := drop_ne hp
      have h1 := stp_pos ((L t).drop p)
      have h2 := stp_le _ hne
      simp only [List.length_drop, L_length] at h2
      obtain ⟨hr, hv'⟩ := vld_head hv hne
      have hd1 : (Utf8.decode t p).1 = val ((L t).drop p) := by rw [decode_eq t p hp]
      have hd2 : (Utf8.decode t p).2 = stp ((L t).drop p) := by rw [decode_eq t p hp]
      rw [if_pos hp, hd1, hd2, wlen_step _ hne, enc_name hne hr, ob, enc_size hne hr]
      cases hm : may ((L t).drop p) with
      | true =>
        rw [if_pos rfl, if_pos rfl, ih _ _ (by omega) (by rw [← List.drop_drop]; exact hv'), List.drop_drop, Int.natCast_add, Int.add_assoc]
      | false => rw [if_neg (by decide), if_neg (by decide)]; simp
    · rw [if_neg hp, drop_nil hp, wlen_nil]; simp

def toS (t : Tok) : S32 := ⟨t.kind, ⟨t.text.toArray⟩, t.at_⟩
def enc (acc : List S32) : R → List S32 × Int × Int
  | .ok ts => (acc ++ ts.map toS, 0, 0)
  | .error (e, p) => ([], e, (p : Int))
theorem enc_cons (acc : List S32) (t : Tok) (r : R) : enc acc (cons t r) = enc (acc ++ [toS t]) r := by
  cases r <;> simp [enc, cons]

theorem head_at {s : ByteArray} {p : Nat} (h : p < s.size) : (s[p]'h) = ((L s).drop p).getD 0 0 := by
  have e : (L s)[p]? = some (s[p]'h) := by
    rw [Array.getElem?_toList]
    exact Array.getElem?_eq_getElem (show p < s.data.size from h)
  rw [List.getD_eq_getElem?_getD, List.getElem?_drop, Nat.add_zero, e]; rfl

theorem name_word {l : List UInt8} (h : may l = true) : name (l.take (wlen l)) = decide (cnt (l.take (wlen l)) ≤ 24) := by
  unfold name
  have := cnt_pos (take_ne_nil (may_ne h) (wlen_pos h))
  rw [mays_wlen]; simp; omega

theorem vld_one {l : List UInt8} (hv : vld l = true) (h : l ≠ []) (hc : (l.getD 0 0).toNat < 128) : vld (l.drop 1) = true := by
  have hl : 1 ≤ l.length := by have := len_ne h; omega
  have hr : rlen l = 1 := by unfold rlen; rw [if_neg (by omega), if_pos hc]
  have hs : stp l = 1 := by unfold stp; rw [if_neg (by omega)]; exact hr
  have := (vld_head hv h).2
  rwa [hs] at this

theorem all_l0 (s : ByteArray) (hs : s.size ≤ 4096) : ∀ (k p : Nat) (acc : List S32), s.size - p < k → p ≤ s.size → vld ((L s).drop p) = true →
    token_All.l0 s k p acc = some (enc acc (tk ((L s).drop p) p)) := by
  intro k
  induction k with
  | zero => intro p acc h; omega
  | succ k ih =>
    intro p acc h hp' hv
    simp only [token_All.l0]
    by_cases hp : p < s.size
    · have hne := drop_ne hp
      have hlen : ((L s).drop p).length = s.size - p := by rw [List.length_drop, L_length]
      rw [dif_pos hp]
      simp only [head_at hp]
      have hdd : ∀ n, (L s).drop (p + n) = ((L s).drop p).drop n := fun n => by rw [List.drop_drop]
      have htl : s.data.toList.drop p = (L s).drop p := rfl
      by_cases hb : blk (((L s).drop p).getD 0 0) = true
      · have hb' := of_decide_eq_true hb
        rw [if_pos hb', tk_blank hne hb, ih _ _ (by omega) (by omega) (by rw [hdd]; exact vld_one hv hne (by omega)), hdd]
      have hb' : ¬ ((((L s).drop p).getD 0 0).toNat = 32 ∨ (((L s).drop p).getD 0 0).toNat = 9 ∨ (((L s).drop p).getD 0 0).toNat = 10) := fun h => hb (decide_eq_true h)
      rw [if_neg hb']
      by_cases h47 : ((L s).drop p).getD 0 0 = 47
      · rw [if_pos (by rw [h47]; rfl), htl]
        by_cases hn : ((L s).drop p).take 2 = [47, 47]
        · have hle := noteLen_le ((L s).drop p)
          have h2 := noteLen_two hn
          rw [if_pos hn, tk_note hn, ih _ _ (by omega) (by omega) (by rw [hdd]; exact vld_note hv), hdd]
        · rw [if_neg hn, tk_slash h47 hn]; rfl
      have h47' : ¬ (((L s).drop p).getD 0 0).toNat = 47 := fun e => h47 (UInt8.toNat_inj.mp e)
      rw [if_neg h47']
      by_cases hsg : isSign (((L s).drop p).getD 0 0).toNat = true
      · have hlt : (((L s).drop p).getD 0 0).toNat < 128 := by
          simp only [isSign, Bool.or_eq_true, decide_eq_true_eq] at hsg; omega
        have htx : s.extract p (p + 1) = ⟨(((L s).drop p).take 1).toArray⟩ := eq_mk (by rw [L_extract, show p + 1 - p = 1 by omega])
        rw [if_pos hsg, tk_sign hne hsg, ih _ _ (by omega) (by omega) (by rw [hdd]; exact vld_one hv hne hlt), hdd, enc_cons, htx]
        rfl
      rw [if_neg hsg]
      have hvt : vld ((L (s.extract p s.size)).drop 0) = true := by rw [L_tail]; exact hv
      rw [word_l0 (s.extract p s.size) (by rw [ByteArray.size_extract]; omega) (s.size + 1) 0 0 (by rw [ByteArray.size_extract]; omega) hvt, ob, L_tail, List.drop_zero, Int.zero_add]
      by_cases hm : may ((L s).drop p) = true
      · have hw1 := wlen_pos hm
        have hw2 := wlen_le ((L s).drop p)
        have htx : s.extract p (p + ((wlen ((L s).drop p) : Nat) : Int).toNat) = ⟨(((L s).drop p).take (wlen ((L s).drop p))).toArray⟩ := eq_mk (by rw [L_extract]; congr 1; omega)
        have hcast : p + ((wlen ((L s).drop p) : Nat) : Int).toNat = p + wlen ((L s).drop p) := by omega
        rw [if_neg (by omega), if_pos (by omega), htx, Name_f _ (by rw [size_eq (L_mk _), List.length_take]; omega), ob, L_mk, name_word hm]
        by_cases hc : cnt (((L s).drop p).take (wlen ((L s).drop p))) ≤ 24
        · rw [if_pos (decide_eq_true hc), tk_word hm hc, hcast, ih _ _ (by omega) (by omega) (by rw [hdd]; exact vld_wlen hv), hdd, enc_cons]
          rfl
        · rw [if_neg (by simpa using hc), tk_long hm hc]; rfl
      · rw [wlen_zero hm, if_pos (by rfl), tk_other hne hb h47 hsg hm]; rfl
    · have e : p = s.size := by omega
      have hx : s.extract p p = ⟨#[]⟩ := eq_mk (by rw [L_extract]; simp)
      rw [dif_neg hp, drop_nil hp, tk_nil, hx]; rfl

theorem All_f (s : ByteArray) : token_All.f s = some (enc [] (all (L s))) := by
  unfold token_All.f all
  rw [L_length]
  by_cases h : s.size > 2048
  · rw [if_pos (by omega), if_pos h]; rfl
  · rw [if_neg (by omega), if_neg h, broken_f s (by omega), ob]
    cases hv : vld (L s) with
    | true =>
      have e1 : (if true = true then (-1 : Int) else (brk (L s) : Int)) = -1 := rfl
      rw [e1, if_neg (by decide), if_pos rfl, all_l0 s (by omega) _ 0 [] (by omega) (by omega) (by simpa using hv)]; simp
    | false =>
      have e1 : (if false = true then (-1 : Int) else (brk (L s) : Int)) = (brk (L s) : Int) := rfl
      rw [e1, if_pos (by omega)]; rfl

end Go.Proofs.YtkgnhghaiopgcaaDoor.TkFn
namespace Go.Proofs.YtkgnhghaiopgcaaDoor.Tp
open Go.Proofs.YtkgnhghaiopgcaaDoor.Gl Go.Proofs.YtkgnhghaiopgcaaDoor.X Go.Proofs.YtkgnhghaiopgcaaDoor.Tk Go.Proofs.YtkgnhghaiopgcaaDoor.TkFn

/-! ### Places moved on -/
def sh (d : Nat) : R → R
  | .ok ts => .ok (ts.map fun t => ⟨t.kind, t.text, t.at_ + d⟩)
  | .error (e, p) => .error (e, p + d)
theorem sh_cons (d : Nat) (t : Tok) (r : R) : sh d (cons t r) = cons ⟨t.kind, t.text, t.at_ + d⟩ (sh d r) := by
  cases r <;> simp [sh, cons]
theorem tk_shift (d : Nat) (l : List UInt8) : ∀ p, tk l (p + d) = sh d (tk l p) := by
  induction l using tk_ind with
  | h0 => intro p; rw [tk_nil, tk_nil]; rfl
  | hb l h hb ih => intro p; rw [tk_blank h hb, tk_blank h hb, show p + d + 1 = p + 1 + d by omega]; exact ih _
  | hn l h ih => intro p; rw [tk_note h, tk_note h, show p + d + noteLen l = p + noteLen l + d by omega]; exact ih _
  | hsl l h h2 => intro p; rw [tk_slash h h2, tk_slash h h2]; rfl
  | hs l h hs ih => intro p; rw [tk_sign h hs, tk_sign h hs, sh_cons, show p + d + 1 = p + 1 + d by omega, ih]
  | hw l h hc ih => intro p; rw [tk_word h hc, tk_word h hc, sh_cons, show p + d + wlen l = p + wlen l + d by omega, ih]
  | hlg l h hc => intro p; rw [tk_long h hc, tk_long h hc]; rfl
  | ho l h h1 h2 h3 h4 => intro p; rw [tk_other h h1 h2 h3 h4, tk_other h h1 h2 h3 h4]; rfl

/-! ### An ASCII byte behind -/
theorem inside_cont (l : List UInt8) (k : Nat) (h0 : 0 < k) (hk : k < rlen l) : 128 ≤ (l.getD k 0).toNat := by
  rcases rlen_cases l with e | ⟨e, h1⟩ | ⟨e, h1⟩ | ⟨e, h1⟩ | ⟨e, h1⟩
  · omega
  · omega
  · have : k = 1 := by omega
    subst this; omega
  · have : k = 1 ∨ k = 2 := by omega
    rcases this with rfl | rfl <;> omega
  · have : k = 1 ∨ k = 2 ∨ k = 3 := by omega
    rcases this with rfl | rfl | rfl <;> omega

theorem rlen_asc (a : List UInt8) (c : UInt8) (r : List UInt8) (ha : a ≠ []) (hc : c.toNat < 128) : rlen (a ++ c :: r) = rlen a := by
  by_cases h : rlen a = 0
  · rw [h]
    have h1 := rlen_take (a ++ c :: r) a.length
    rw [List.take_left, h] at h1
    split at h1
    · exact h1.symm
    · have hp : 0 < a.length := List.length_pos_iff.mpr ha
      have h2 := inside_cont (a ++ c :: r) a.length hp (by omega)
      have e : (a ++ c :: r).getD a.length 0 = c := by simp [List.getD_eq_getElem?_getD]
      rw [e] at h2; omega
  · exact rlen_append a _ h
theorem stp_asc (a : List UInt8) (c : UInt8) (r : List UInt8) (ha : a ≠ []) (hc : c.toNat < 128) : stp (a ++ c :: r) = stp a := by
  unfold stp; rw [rlen_asc a c r ha hc]
theorem drop_asc (a : List UInt8) (c : UInt8) (r : List UInt8) (ha : a ≠ []) (hc : c.toNat < 128) : (a ++ c :: r).drop (stp (a ++ c :: r)) = a.drop (stp a) ++ c :: r := by
  rw [stp_asc a c r ha hc, List.drop_append_of_le_length (stp_le a ha)]
theorem may_asc (a : List UInt8) (c : UInt8) (r : List UInt8) (ha : a ≠ []) (hc : c.toNat < 128) : may (a ++ c :: r) = may a := by
  by_cases h : rlen a = 0
  · unfold may; rw [rlen_asc a c r ha hc, if_pos h, if_pos h]
  · exact may_append a _ h
theorem rlen_one (c : UInt8) (r : List UInt8) (hc : c.toNat < 128) : rlen (c :: r) = 1 := by
  unfold rlen; rw [if_neg (by simp), if_pos (by simpa using hc)]
theorem stp_one (c : UInt8) (r : List UInt8) (hc : c.toNat < 128) : stp (c :: r) = 1 := by
  unfold stp; rw [rlen_one c r hc]; rfl
theorem vld_cons (c : UInt8) (r : List UInt8) (hc : c.toNat < 128) : vld (c :: r) = vld r := by
  rw [vld_step _ (by simp), rlen_one c r hc, stp_one c r hc]; rfl
theorem vld_asc (a : List UInt8) (c : UInt8) (r : List UInt8) (hc : c.toNat < 128) : vld (a ++ c :: r) = (vld a && vld r) := by
  induction a using runes_ind with
  | h0 => rw [List.nil_append, vld_cons c r hc, vld_nil]; rfl
  | h1 a h ih =>
    rw [vld_step (a ++ c :: r) (by simp), vld_step a h, rlen_asc a c r h hc, drop_asc a c r h hc]
    by_cases hr : rlen a = 0
    · rw [if_pos hr, if_pos hr]; rfl
    · rw [if_neg hr, if_neg hr, ih]
theorem brk_asc (a : List UInt8) (c : UInt8) (r : List UInt8) (hc : c.toNat < 128) (hv : vld a = false) : brk (a ++ c :: r) = brk a := by
  induction a using runes_ind with
  | h0 => rw [vld_nil] at hv; exact absurd hv (by decide)
  | h1 a h ih =>
    by_cases hr : rlen a = 0
    · rw [brk_zero hr, brk_zero (by rw [rlen_asc a c r h hc]; exact hr)]
    · rw [vld_step a h, if_neg hr] at hv
      rw [brk_step (l := a ++ c :: r) (by simp) (by rw [rlen_asc a c r h hc]; exact hr), brk_step h hr, drop_asc a c r h hc, stp_asc a c r h hc, ih hv]
theorem brk_append (a b : List UInt8) (hv : vld a = true) : brk (a ++ b) = a.length + brk b := by
  induction a using runes_ind with
  | h0 => simp
  | h1 a h ih =>
    obtain ⟨hr, hv'⟩ := vld_head hv h
    have := stp_le a h
    rw [brk_step (l := a ++ b) (by simp [h]) (by rw [rlen_append a b hr]; exact hr), drop_stp_append a b h hr, stp_append a b hr, ih hv', List.length_drop]
    omega
theorem brk_lt (a : List UInt8) (hv : vld a = false) : brk a < a.length := by
  induction a using runes_ind with
  | h0 => rw [vld_nil] at hv; exact absurd hv (by decide)
  | h1 a h ih =>
    have hp : 0 < a.length := List.length_pos_iff.mpr h
    by_cases hr : rlen a = 0
    · rw [brk_zero hr]; exact hp
    · rw [vld_step a h, if_neg hr] at hv
      have := ih hv
      have := stp_le a h
      rw [brk_step h hr]
      simp only [List.length_drop] at *; omega

/-! ### A byte that is nowhere in a valid text -/
theorem big_broken (l : List UInt8) (h : (255 : UInt8) ∈ l) : vld l = false := by
  induction l using runes_ind with
  | h0 => simp at h
  | h1 l hne ih =>
    rw [vld_step l hne]
    by_cases hr : rlen l = 0
    · rw [if_pos hr]
    · rw [if_neg hr]
      apply ih
      rw [← List.take_append_drop (stp l) l, List.mem_append] at h
      rcases h with h | h
      · exfalso
        obtain ⟨i, hi, he⟩ := List.mem_iff_getElem.1 h
        simp only [List.length_take] at hi
        rw [List.getElem_take] at he
        have hg : (l.getD i 0).toNat = 255 := by rw [List.getD_eq_getElem?_getD, List.getElem?_eq_getElem (by omega)]; simp [he]
        have hs : stp l = rlen l := by unfold stp; rw [if_neg hr]
        rcases rlen_cases l with e | ⟨e, h1⟩ | ⟨e, h1⟩ | ⟨e, h1⟩ | ⟨e, h1⟩
        · exact hr e
        · have : i = 0 := by omega
          subst this; omega
        · have : i = 0 ∨ i = 1 := by omega
          rcases this with rfl | rfl <;> omega
        · have : i = 0 ∨ i = 1 ∨ i = 2 := by omega
          rcases this with rfl | rfl | rfl <;> omega
        · have : i = 0 ∨ i = 1 ∨ i = 2 ∨ i = 3 := by omega
          rcases this with rfl | rfl | rfl | rfl <;> omega
      · exact h

/-! ### Words -/
theorem mays_head {w : List UInt8} (hm : mays w = true) (h : w ≠ []) : may w = true ∧ mays (w.drop (stp w)) = true := by
  rw [mays_step w h, Bool.and_eq_true] at hm; exact hm
theorem wlen_append (w r : List UInt8) (hm : mays w = true) : wlen (w ++ r) = w.length + wlen r := by
  induction w using runes_ind with
  | h0 => simp
  | h1 w h ih =>
    obtain ⟨h1, h2⟩ := mays_head hm h
    have hr := may_rlen h1
    have hs := stp_le w h
    rw [wlen_step _ (by simp [h]), may_append w r hr, if_pos h1, drop_stp_append w r h hr, stp_append w r hr, ih h2, List.length_drop]
    omega
theorem name_mays {w : List UInt8} (h : name w = true) : mays w = true ∧ w ≠ [] ∧ cnt w ≤ 24 := by
  simp only [name, Bool.and_eq_true, decide_eq_true_eq] at h
  refine ⟨h.1, ?_, h.2.2⟩
  intro e; rw [e, cnt_nil] at h; omega
theorem may_word {w r : List UInt8} (hm : mays w = true) (h : w ≠ []) : may (w ++ r) = true := by
  have h1 := (mays_head hm h).1
  rw [may_append w r (may_rlen h1)]; exact h1
theorem tk_name {w r : List UInt8} (h : name w = true) (hr : may r = false) (p : Nat) : tk (w ++ r) p = cons ⟨1, w, p⟩ (tk r (p + w.length)) := by
  obtain ⟨hm, hne, hc⟩ := name_mays h
  have hw : wlen (w ++ r) = w.length := by rw [wlen_append w r hm, wlen_zero (by rw [hr]; decide)]; rfl
  have ht : (w ++ r).take (wlen (w ++ r)) = w := by rw [hw, List.take_left]
  rw [tk_word (may_word hm hne) (by rw [ht]; exact hc), ht, hw, List.drop_left]
theorem may_byte (c : UInt8) (r : List UInt8) (hc : c.toNat < 128) : may (c :: r) = decide (c.toNat = 95 ∨ (97 ≤ c.toNat ∧ c.toNat ≤ 122) ∨ (65 ≤ c.toNat ∧ c.toNat ≤ 90) ∨ (48 ≤ c.toNat ∧ c.toNat ≤ 57)) := by
  unfold may; rw [rlen_one c r hc, if_neg (by decide), if_pos rfl]; rfl

/-! ### A newline between -/
theorem tk_ne (l : List UInt8) : ∀ p ts, tk l p = .ok ts → ts ≠ [] := by
  have hc : ∀ (t : Tok) (r : R) (ts : List Tok), cons t r = .ok ts → ts ≠ [] := by
    intro t r ts h
    cases r with
    | error e => simp [cons] at h
    | ok us => simp only [cons, Except.ok.injEq] at h; rw [← h]; simp
  induction l using tk_ind with
  | h0 => intro p ts h; rw [tk_nil] at h; injection h with h; rw [← h]; simp
  | hb l h hb ih => intro p ts ht; rw [tk_blank h hb] at ht; exact ih _ _ ht
  | hn l h ih => intro p ts ht; rw [tk_note h] at ht; exact ih _ _ ht
  | hsl l h h2 => intro p ts ht; rw [tk_slash h h2] at ht; injection ht
  | hs l h hs ih => intro p ts ht; rw [tk_sign h hs] at ht; exact hc _ _ _ ht
  | hw l h hc2 ih => intro p ts ht; rw [tk_word h hc2] at ht; exact hc _ _ _ ht
  | hlg l h hc2 => intro p ts ht; rw [tk_long h hc2] at ht; injection ht
  | ho l h h1 h2 h3 h4 => intro p ts ht; rw [tk_other h h1 h2 h3 h4] at ht; injection ht

def join : R → R → R
  | .ok ts, .ok us => .ok (ts.dropLast ++ us)
  | .ok _, .error e => .error e
  | .error e, _ => .error e
theorem join_cons (t : Tok) (x y : R) (h : ∀ ts, x = .ok ts → ts ≠ []) : join (cons t x) y = cons t (join x y) := by
  cases x with
  | error e => rfl
  | ok ts =>
    have := h ts rfl
    cases y with
    | error e => rfl
    | ok us =>
      show (Except.ok ((t :: ts).dropLast ++ us) : R) = .ok (t :: (ts.dropLast ++ us))
      rw [List.dropLast_cons_of_ne_nil this]; rfl
theorem join_end (p : Nat) (y : R) : join (.ok [⟨3, [], p⟩]) y = y := by
  cases y <;> rfl
theorem getD_app (a b : List UInt8) (h : a ≠ []) : (a ++ b).getD 0 0 = a.getD 0 0 := getD_append_left a b 0 (List.length_pos_iff.mpr h)
theorem noteLen_app (a r : List UInt8) : noteLen (a ++ 10 :: r) = noteLen a := by
  induction a with
  | nil => simp [noteLen]
  | cons c a ih =>
    rw [List.cons_append, noteLen, noteLen]
    split <;> simp [ih]
theorem noteLen_none (a : List UInt8) (h : (10 : UInt8) ∉ a) : noteLen a = a.length := by
  induction a with
  | nil => rfl
  | cons c a ih =>
    simp only [List.mem_cons, not_or] at h
    rw [noteLen, if_neg (fun e => h.1 e.symm), ih h.2]; rfl
theorem wlen_asc (a : List UInt8) (c : UInt8) (r : List UInt8) (hc : c.toNat < 128) (hm : may (c :: r) = false) : wlen (a ++ c :: r) = wlen a := by
  induction a using runes_ind with
  | h0 => rw [List.nil_append, wlen_nil, wlen_zero (by rw [hm]; decide)]
  | h1 a h ih => rw [wlen_step _ (by simp), wlen_step a h, may_asc a c r h hc, drop_asc a c r h hc, stp_asc a c r h hc, ih]
theorem take_two (a r : List UInt8) (c : UInt8) (hc : c ≠ 47) : (a ++ c :: r).take 2 = [47, 47] ↔ a.take 2 = [47, 47] := by
  match a with
  | [] => simp [hc]
  | [x] => simp [hc]
  | x :: y :: z => simp
/-- Behind a newline all begins anew. -/
theorem tk_nl (a : List UInt8) : ∀ p r, tk (a ++ 10 :: r) p = join (tk a p) (tk r (p + a.length + 1)) := by
  induction a using tk_ind with
  | h0 =>
    intro p r
    rw [tk_nil, join_end, List.nil_append, tk_blank (l := 10 :: r) (by simp) rfl]; rfl
  | hb a h hb ih =>
    intro p r
    have hd : (a ++ 10 :: r).drop 1 = a.drop 1 ++ 10 :: r := List.drop_append_of_le_length (List.length_pos_iff.mpr h)
    have hl : 0 < a.length := List.length_pos_iff.mpr h
    rw [tk_blank (by simp) (by rw [getD_app _ _ h]; exact hb), hd, ih, tk_blank h hb, List.length_drop, show p + 1 + (a.length - 1) + 1 = p + a.length + 1 by omega]
  | hn a h ih =>
    intro p r
    have hle := noteLen_le a
    rw [tk_note ((take_two a r 10 (by decide)).mpr h), tk_note h, noteLen_app, List.drop_append_of_le_length hle, ih, List.length_drop, show p + noteLen a + (a.length - noteLen a) + 1 = p + a.length + 1 by omega]
  | hsl a h h2 =>
    intro p r
    have hne : a ≠ [] := by intro e; rw [e] at h; exact absurd h (by decide)
    rw [tk_slash (by rw [getD_app _ _ hne]; exact h) (fun e => h2 ((take_two a r 10 (by decide)).mp e)), tk_slash h h2]; rfl
  | hs a h hs ih =>
    intro p r
    have hl : 0 < a.length := List.length_pos_iff.mpr h
    have hd : (a ++ 10 :: r).drop 1 = a.drop 1 ++ 10 :: r := List.drop_append_of_le_length hl
    have ht : (a ++ 10 :: r).take 1 = a.take 1 := List.take_append_of_le_length hl
    rw [tk_sign (by simp) (by rw [getD_app _ _ h]; exact hs), hd, ht, ih, tk_sign h hs, join_cons _ _ _ (tk_ne _ _), List.length_drop, show p + 1 + (a.length - 1) + 1 = p + a.length + 1 by omega]
  | hw a h hc ih =>
    intro p r
    have hne := may_ne h
    have hle := wlen_le a
    have hw : wlen (a ++ 10 :: r) = wlen a := wlen_asc a 10 r (by decide) (by rw [may_byte _ _ (by decide)]; decide)
    have ht : (a ++ 10 :: r).take (wlen a) = a.take (wlen a) := List.take_append_of_le_length hle
    rw [tk_word (by rw [may_asc a 10 r hne (by decide)]; exact h) (by rw [hw, ht]; exact hc), hw, ht, List.drop_append_of_le_length hle, ih, tk_word h hc, join_cons _ _ _ (tk_ne _ _), List.length_drop, show p + wlen a + (a.length - wlen a) + 1 = p + a.length + 1 by omega]
  | hlg a h hc =>
    intro p r
    have hne := may_ne h
    have hle := wlen_le a
    have hw : wlen (a ++ 10 :: r) = wlen a := wlen_asc a 10 r (by decide) (by rw [may_byte _ _ (by decide)]; decide)
    have ht : (a ++ 10 :: r).take (wlen a) = a.take (wlen a) := List.take_append_of_le_length hle
    rw [tk_long (by rw [may_asc a 10 r hne (by decide)]; exact h) (by rw [hw, ht]; exact hc), tk_long h hc]; rfl
  | ho a h h1 h2 h3 h4 =>
    intro p r
    rw [tk_other (by simp) (by rw [getD_app _ _ h]; exact h1) (by rw [getD_app _ _ h]; exact h2) (by rw [getD_app _ _ h]; exact h3) (by rw [may_asc a 10 r h (by decide)]; exact h4), tk_other h h1 h2 h3 h4]; rfl

/-! ### Errors' places, and numbers -/
theorem tk_err (l : List UInt8) (hv : vld l = true) : ∀ p e q, tk l p = .error (e, q) → (e = 30 ∨ e = 31) ∧ p ≤ q ∧ q < p + l.length := by
  have hc : ∀ (t : Tok) (r : R) (e : Int) (q : Nat), cons t r = .error (e, q) → r = .error (e, q) := by
    intro t r e q h
    cases r with
    | error x => exact h
    | ok us => simp [cons] at h
  induction l using tk_ind with
  | h0 => intro p e q h; rw [tk_nil] at h; injection h
  | hb l h hb ih =>
    intro p e q ht
    have hl : 0 < l.length := List.length_pos_iff.mpr h
    have h7 : (l.getD 0 0).toNat < 128 := by have := of_decide_eq_true hb; omega
    rw [tk_blank h hb] at ht
    have := ih (vld_one hv h h7) _ _ _ ht
    simp only [List.length_drop] at this; omega
  | hn l h ih =>
    intro p e q ht; rw [tk_note h] at ht
    have hle := noteLen_le l
    have := ih (vld_note hv) _ _ _ ht
    simp only [List.length_drop] at this; omega
  | hsl l h h2 =>
    intro p e q ht; rw [tk_slash h h2] at ht
    have hne : l ≠ [] := by intro x; rw [x] at h; exact absurd h (by decide)
    have hl : 0 < l.length := List.length_pos_iff.mpr hne
    injection ht with ht; injection ht with h1 h2; subst h1; subst h2; omega
  | hs l h hs ih =>
    intro p e q ht
    have hl : 0 < l.length := List.length_pos_iff.mpr h
    have hlt : (l.getD 0 0).toNat < 128 := by
      simp only [isSign, Bool.or_eq_true, decide_eq_true_eq] at hs; omega
    rw [tk_sign h hs] at ht
    have := ih (vld_one hv h hlt) _ _ _ (hc _ _ _ _ ht)
    simp only [List.length_drop] at this; omega
  | hw l h hc2 ih =>
    intro p e q ht; rw [tk_word h hc2] at ht
    have hle := wlen_le l
    have := ih (vld_wlen hv) _ _ _ (hc _ _ _ _ ht)
    simp only [List.length_drop] at this; omega
  | hlg l h hc2 =>
    intro p e q ht; rw [tk_long h hc2] at ht
    have hl : 0 < l.length := List.length_pos_iff.mpr (may_ne h)
    injection ht with ht; injection ht with h1 h2; subst h1; subst h2; omega
  | ho l h h1 h2 h3 h4 =>
    intro p e q ht; rw [tk_other h h1 h2 h3 h4] at ht
    have hl : 0 < l.length := List.length_pos_iff.mpr h
    injection ht with ht; injection ht with h1 h2; subst h1; subst h2; omega

end Go.Proofs.YtkgnhghaiopgcaaDoor.Tp
namespace Go.Proofs.YtkgnhghaiopgcaaDoor.TkKey
open Go.RowKit Go.Proofs.YtkgnhghaiopgcaaDoorW.PrintWords Go.Proofs.YtkgnhghaiopgcaaDoorW.PrintLast Go.Proofs.YtkgnhghaiopgcaaDoor.X Go.Proofs.YtkgnhghaiopgcaaDoor.Aid Go.Proofs.YtkgnhghaiopgcaaDoor.Gl Go.Proofs.YtkgnhghaiopgcaaDoor.GlFn Go.Proofs.YtkgnhghaiopgcaaDoor.Tk Go.Proofs.YtkgnhghaiopgcaaDoor.TkFn Go.Proofs.YtkgnhghaiopgcaaDoor.Tp

/-- Is it a key? -/
def key (l : List UInt8) : Bool := decide (l = [116, 121, 112, 101] ∨ l = [114, 101, 108] ∨ l = [105, 115] ∨ l = [116, 104, 105, 115])

theorem Key_f (s : ByteArray) : token_Key.f s = some (key (L s)) := by
  unfold token_Key.f slices_Contains_string_string.f slices_Index_string_string.f keysL key
  have w1 : wrap64 ((0 : Int) + 1) = 1 := w64 (by decide) (by decide)
  have w2 : wrap64 ((1 : Int) + 1) = 2 := w64 (by decide) (by decide)
  have w3 : wrap64 ((2 : Int) + 1) = 3 := w64 (by decide) (by decide)
  have w4 : wrap64 ((3 : Int) + 1) = 4 := w64 (by decide) (by decide)
  simp only [slices_Index_string_string.l0, toL, List.length_cons, List.length_nil, w1, w2, w3, w4]
  have k0 : L (rdOf ByteArray.empty [⟨#[116, 121, 112, 101]⟩, ⟨#[114, 101, 108]⟩, ⟨#[105, 115]⟩, ⟨#[116, 104, 105, 115]⟩] 0) = [116, 121, 112, 101] := rfl
  have k1 : L (rdOf ByteArray.empty [⟨#[116, 121, 112, 101]⟩, ⟨#[114, 101, 108]⟩, ⟨#[105, 115]⟩, ⟨#[116, 104, 105, 115]⟩] 1) = [114, 101, 108] := rfl
  have k2 : L (rdOf ByteArray.empty [⟨#[116, 121, 112, 101]⟩, ⟨#[114, 101, 108]⟩, ⟨#[105, 115]⟩, ⟨#[116, 104, 105, 115]⟩] 2) = [105, 115] := rfl
  have k3 : L (rdOf ByteArray.empty [⟨#[116, 121, 112, 101]⟩, ⟨#[114, 101, 108]⟩, ⟨#[105, 115]⟩, ⟨#[116, 104, 105, 115]⟩] 3) = [116, 104, 105, 115] := rfl
  rw [k0, k1, k2, k3]
  by_cases h0 : L s = [116, 121, 112, 101]
  · rw [h0]; decide
  by_cases h1 : L s = [114, 101, 108]
  · rw [h1]; decide
  by_cases h2 : L s = [105, 115]
  · rw [h2]; decide
  by_cases h3 : L s = [116, 104, 105, 115]
  · rw [h3]; decide
  simp [h0, h1, h2, h3]

theorem rd_S (ts : List Tok) (i : Nat) (h : i < ts.length) : rd_T32 (ts.map toS) (i : Int) = toS (ts[i]'h) := by
  unfold rd_T32
  rw [Int.toNat_natCast, List.getD_eq_getElem?_getD, List.getElem?_map, List.getElem?_eq_getElem h]; rfl

theorem tk_len (l : List UInt8) : ∀ p ts, tk l p = .ok ts → ts.length ≤ l.length + 1 := by
  have hc : ∀ (t : Tok) (r : R) (ts : List Tok) (n : Nat), cons t r = .ok ts → (∀ us, r = .ok us → us.length ≤ n) → ts.length ≤ n + 1 := by
    intro t r ts n h hu
    cases r with
    | error e => simp [cons] at h
    | ok us =>
      simp only [cons, Except.ok.injEq] at h
      have := hu us rfl
      rw [← h]; simp; omega
  induction l using tk_ind with
  | h0 => intro p ts h; rw [tk_nil] at h; injection h with h; rw [← h]; simp
  | hb l h hb ih =>
    intro p ts ht; rw [tk_blank h hb] at ht
    have := ih _ _ ht; have := len_ne h
    simp only [List.length_drop] at *; omega
  | hn l h ih =>
    intro p ts ht; rw [tk_note h] at ht
    have := ih _ _ ht
    simp only [List.length_drop] at *; omega
  | hsl l h h2 => intro p ts ht; rw [tk_slash h h2] at ht; injection ht
  | hs l h hs ih =>
    intro p ts ht; rw [tk_sign h hs] at ht
    have := hc _ _ _ (l.drop 1).length.succ ht (fun us hus => ih _ _ hus)
    have := len_ne h
    simp only [List.length_drop] at *; omega
  | hw l h hc2 ih =>
    intro p ts ht; rw [tk_word h hc2] at ht
    have := hc _ _ _ (l.drop (wlen l)).length.succ ht (fun us hus => ih _ _ hus)
    have := wlen_pos h; have := len_ne (may_ne h)
    simp only [List.length_drop] at *; omega
  | hlg l h hc2 => intro p ts ht; rw [tk_long h hc2] at ht; injection ht
  | ho l h h1 h2 h3 h4 => intro p ts ht; rw [tk_other h h1 h2 h3 h4] at ht; injection ht


theorem all_len {l : List UInt8} {ts : List Tok} (h : all l = .ok ts) : ts.length ≤ 2049 ∧ l.length ≤ 2048 ∧ vld l = true ∧ tk l 0 = .ok ts := by
  unfold all at h
  by_cases hl : l.length > 2048
  · rw [if_pos hl] at h; injection h
  rw [if_neg hl] at h
  by_cases hv : vld l = true
  · rw [if_pos hv] at h
    have := tk_len l 0 ts h
    exact ⟨by omega, by omega, hv, h⟩
  · rw [if_neg hv] at h; injection h


theorem All_ok (a0 : ByteArray) (ts : List Tok) (h : all (L a0) = .ok ts) (w : World) :
    Calls Tryd.prog 25 #[.string a0] w fun e w' => ∃ A c, e = .returned (.tuple #[.slice A (ts.map toS).length c, .int .i64 0, .int .i64 0]) ∧ Kd.R k32 32 w' w.heap.size (fun _ => True) (.slice A (ts.map toS).length c) (ts.map toS) ∧ Below w.heap.size w w' := by
  have e : token_All.f a0 = some (ts.map toS, 0, 0) := by rw [All_f, h]; rfl
  refine (token_All.calls a0 _ _ _ w e).mono ?_
  rintro e w' ⟨v, rfl, hR, hb⟩
  obtain ⟨A, c, rfl⟩ := Kd.R_slice hR
  exact ⟨A, c, rfl, hR, hb⟩
theorem All_okX (a0 : ByteArray) (ts : List Tok) (X : List S32) (h : all (L a0) = .ok ts) (hX : ts.map toS = X) (w : World) :
    Calls Tryd.prog 25 #[.string a0] w fun e w' => ∃ A c, e = .returned (.tuple #[.slice A X.length c, .int .i64 0, .int .i64 0]) ∧ Kd.R k32 32 w' w.heap.size (fun _ => True) (.slice A X.length c) X ∧ Below w.heap.size w w' := by
  subst hX; exact All_ok a0 ts h w
theorem All_err (a0 : ByteArray) (en : Int) (p : Nat) (h : all (L a0) = .error (en, p)) (w : World) :
    Calls Tryd.prog 25 #[.string a0] w fun e w' => ∃ A c, e = .returned (.tuple #[.slice A 0 c, .int .i64 en, .int .i64 p]) ∧ Below w.heap.size w w' := by
  have e : token_All.f a0 = some ([], en, (p : Int)) := by rw [All_f, h]; rfl
  refine (token_All.calls a0 _ _ _ w e).mono ?_
  rintro e w' ⟨v, rfl, hR, hb⟩
  obtain ⟨A, c, rfl⟩ := Kd.R_slice hR
  exact ⟨A, c, rfl, hb⟩
theorem all_err_ne {l : List UInt8} {en : Int} {p : Nat} (h : all l = .error (en, p)) : (en = 13 ∧ 2048 < l.length) ∨ (en = 11 ∧ vld l = false ∧ p < l.length) ∨ ((en = 30 ∨ en = 31) ∧ vld l = true ∧ p < l.length) := by
  unfold all at h
  by_cases hl : l.length > 2048
  · rw [if_pos hl] at h; injection h with h; injection h with h1 h2; exact .inl ⟨h1.symm, hl⟩
  rw [if_neg hl] at h
  cases hv : vld l with
  | true =>
    rw [hv, if_pos rfl] at h
    obtain ⟨h1, h2, h3⟩ := tk_err l hv _ _ _ h
    exact .inr (.inr ⟨h1, rfl, by omega⟩)
  | false =>
    rw [hv, if_neg (by decide)] at h
    injection h with h; injection h with h1 h2
    exact .inr (.inl ⟨h1.symm, rfl, by rw [← h2]; exact brk_lt l hv⟩)
theorem below2 {w w1 w2 : World} (h : Below w.heap.size w w1) (k : Below w1.heap.size w1 w2) : Below w.heap.size w w2 := h.trans (k.mono h.size)


end Go.Proofs.YtkgnhghaiopgcaaDoor.TkKey
