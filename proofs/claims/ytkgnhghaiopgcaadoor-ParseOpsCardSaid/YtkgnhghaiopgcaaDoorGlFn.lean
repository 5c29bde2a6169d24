/- The program's functions of package glyph are the document's runes; the plain side of their walks. Each text of at most 2^47 bytes. -/
import Derived.Test.YtkgnhghaiopgcaaDoorGlMore
import Derived.Test.YtkgnhghaiopgcaaDoorX2
import Derived.Test.YtkgnhghaiopgcaaDoorX2
import Derived.Test.YtkgnhghaiopgcaaDoorX2
import Derived.Lib.Strings
namespace Go.Proofs.YtkgnhghaiopgcaaDoor.GlFn
open Go.RowKit Go.Proofs.YtkgnhghaiopgcaaDoorW.PrintWords Go.Proofs.YtkgnhghaiopgcaaDoor.X Go.Proofs.YtkgnhghaiopgcaaDoor.Gl

/-- Not told by 'rfl': so that the kernel isn't asked to unfold what stands behind. -/
theorem ob {α β : Type} (a : α) (f : α → Option β) : (some a).bind f = f a := by
  cases h : f a <;> simp [h]

abbrev L (s : ByteArray) : List UInt8 := s.data.toList
theorem L_length (s : ByteArray) : (L s).length = s.size := by simp only [L, Array.length_toList]; rfl
theorem toL (s : ByteArray) : s.toList = L s := ByteArray.toList_eq s
theorem L_extract (s : ByteArray) (a b : Nat) : L (s.extract a b) = ((L s).drop a).take (b - a) := Lib.extract_data s a b
theorem L_append (a b : ByteArray) : L (a ++ b) = L a ++ L b := by
  cases a; cases b; simp [L, ByteArray.data_append]
theorem L_inj {a b : ByteArray} (h : L a = L b) : a = b := by
  cases a; cases b; simpa [L, Array.toList_inj] using h

theorem drop_ne {s : ByteArray} {p : Nat} (h : p < s.size) : (L s).drop p ≠ [] := by
  intro e
  have := congrArg List.length e
  simp only [List.length_drop, L_length, List.length_nil] at this; omega
theorem drop_nil {s : ByteArray} {p : Nat} (h : ¬ p < s.size) : (L s).drop p = [] := by
  apply List.drop_eq_nil_of_le; rw [L_length]; omega

theorem w64 {i : Int} (h0 : -9223372036854775808 ≤ i) (h : i ≤ 9223372036854775807) : wrap64 i = i := by
  unfold wrap64; omega

theorem prefix_tells (t : ByteArray) : strings_HasPrefix.f t ⟨#[239, 191, 189]⟩ = some (decide ((L t).take 3 = [239, 191, 189])) := by
  unfold strings_HasPrefix.f stringslite_HasPrefix.f
  have e3 : ((⟨#[239, 191, 189]⟩ : ByteArray).size : Int) = 3 := rfl
  have el : (⟨#[239, 191, 189]⟩ : ByteArray).toList = [239, 191, 189] := by rw [ByteArray.toList_eq]
  rw [e3, el]
  by_cases h : (t.size : Int) ≥ 3
  · rw [if_pos h, if_pos (by omega), if_pos (by omega), toL, L_extract]
    simp only [Option.bind_some, List.drop_zero, Option.some.injEq]
    rw [Bool.eq_iff_iff]; simp
  · rw [if_neg h]
    simp only [Option.bind_some, Option.some.injEq]
    rw [eq_comm, decide_eq_false_iff_not]
    intro e
    have := congrArg List.length e
    simp only [List.length_take, L_length, List.length_cons, List.length_nil] at this; omega

theorem valid_l0 (s : ByteArray) : ∀ (k p : Nat), s.size - p < k → glyph_Valid.l0 s k p = some (vld ((L s).drop p)) := by
  intro k
  induction k with
  | zero => intro p h; omega
  | succ k ih =>
    intro p h
    simp only [glyph_Valid.l0]
    by_cases hp : p < s.size
    · have hne := drop_ne hp
      have hs := stp_pos ((L s).drop p)
      rw [if_pos hp, decode_eq s p hp, vld_step _ hne, List.drop_drop]
      have ih' := ih (p + stp ((L s).drop p)) (by omega)
      have hb := broken_iff _ hne
      have ex : L (s.extract p s.size) = (L s).drop p := by
        rw [L_extract]; exact List.take_of_length_le (by rw [List.length_drop, L_length]; omega)
      rw [prefix_tells, ex]
      simp only [Option.bind_some, decide_eq_true_eq]
      show (if val ((L s).drop p) = 65533 then if List.take 3 ((L s).drop p) = [239, 191, 189] then glyph_Valid.l0 s k (p + stp ((L s).drop p)) else some false else glyph_Valid.l0 s k (p + stp ((L s).drop p))) = _
      rw [ih']
      by_cases hv : val ((L s).drop p) = 65533
      · rw [if_pos hv]
        by_cases ht : List.take 3 ((L s).drop p) = [239, 191, 189]
        · rw [if_pos ht, if_neg (by rw [hb]; simp [ht])]
        · rw [if_neg ht, if_pos (hb.mpr ⟨hv, ht⟩)]
      · rw [if_neg hv, if_neg (by rw [hb]; simp [hv])]
    · rw [if_neg hp, drop_nil hp, vld_nil]

theorem Valid_f (s : ByteArray) : glyph_Valid.f s = some (vld (L s)) := by
  unfold glyph_Valid.f; rw [valid_l0 s _ 0 (by omega)]; rfl

theorem count_l0 (s : ByteArray) (hs : s.size ≤ 140737488351232) : ∀ (k p : Nat) (n : Int), s.size - p < k → 0 ≤ n → n ≤ p → p ≤ s.size →
    glyph_Count.l0 s k p n = some (n + cnt ((L s).drop p)) := by
  intro k
  induction k with
  | zero => intro p n h; omega
  | succ k ih =>
    intro p n h h0 hn hp'
    simp only [glyph_Count.l0]
    by_cases hp : p < s.size
    · have hne := drop_ne hp
      have h1 := stp_pos ((L s).drop p)
      have h2 := stp_le _ hne
      simp only [List.length_drop, L_length] at h2
      rw [if_pos hp, decode_eq s p hp, cnt_step _ hne, List.drop_drop]
      show glyph_Count.l0 s k (p + stp ((L s).drop p)) (wrap64 (n + 1)) = _
      rw [w64 (by omega) (by omega), ih (p + stp ((L s).drop p)) (n + 1) (by omega) (by omega) (by omega) (by omega)]
      congr 1; omega
    · rw [if_neg hp, drop_nil hp, cnt_nil]; simp

theorem Count_f (s : ByteArray) (hs : s.size ≤ 140737488351232) : glyph_Count.f s = some (cnt (L s) : Int) := by
  unfold glyph_Count.f; rw [count_l0 s hs _ 0 0 (by omega) (by omega) (by omega) (by omega)]; simp

theorem cut_l0 (s : ByteArray) (n : Int) (hs : s.size ≤ 140737488351232) : ∀ (k p : Nat) (j : Int), s.size - p < k → 0 ≤ j → j ≤ p → p ≤ s.size →
    ∃ x y, glyph_Cut.l0 s n k p j = some (x, y) ∧ L x = (L s).take (p + plc ((L s).drop p) (n - j).toNat) ∧ L y = (L s).drop (p + plc ((L s).drop p) (n - j).toNat) := by
  intro k
  induction k with
  | zero => intro p n h; omega
  | succ k ih =>
    intro p j h h0 hn hp'
    simp only [glyph_Cut.l0]
    by_cases hp : p < s.size
    · have hne := drop_ne hp
      have h1 := stp_pos ((L s).drop p)
      have h2 := stp_le _ hne
      simp only [List.length_drop, L_length] at h2
      rw [if_pos hp]
      by_cases hj : n ≤ j
      · rw [if_pos hj]
        refine ⟨_, _, rfl, ?_, ?_⟩
        · rw [L_extract, show (n - j).toNat = 0 by omega, plc_zero]; simp
        · rw [L_extract, show (n - j).toNat = 0 by omega, plc_zero]
          exact List.take_of_length_le (by rw [List.length_drop, L_length]; omega)
      · rw [if_neg hj, decode_eq s p hp]
        show ∃ x y, glyph_Cut.l0 s n k (p + stp ((L s).drop p)) (wrap64 (j + 1)) = _ ∧ _
        rw [w64 (by omega) (by omega)]
        obtain ⟨x, y, e, ex, ey⟩ := ih (p + stp ((L s).drop p)) (j + 1) (by omega) (by omega) (by omega) (by omega)
        refine ⟨x, y, e, ?_, ?_⟩
        · rw [ex, show (n - j).toNat = (n - (j + 1)).toNat + 1 by omega, plc_succ _ hne, List.drop_drop, Nat.add_assoc]
        · rw [ey, show (n - j).toNat = (n - (j + 1)).toNat + 1 by omega, plc_succ _ hne, List.drop_drop, Nat.add_assoc]
    · rw [if_neg hp]
      have e : p = s.size := by omega
      refine ⟨_, _, rfl, ?_, ?_⟩
      · rw [drop_nil hp, plc_nil, List.take_of_length_le (by rw [L_length]; omega)]
      · rw [drop_nil hp, plc_nil, Nat.add_zero, drop_nil hp]

theorem Cut_f (s : ByteArray) (n : Int) (hs : s.size ≤ 140737488351232) :
    ∃ x y, glyph_Cut.f s n = some (x, y) ∧ L x = (L s).take (plc (L s) n.toNat) ∧ L y = (L s).drop (plc (L s) n.toNat) := by
  obtain ⟨x, y, e, ex, ey⟩ := cut_l0 s n hs (s.size + 1) 0 0 (by omega) (by omega) (by omega) (by omega)
  refine ⟨x, y, e, ?_, ?_⟩
  · rw [ex]; simp
  · rw [ey]; simp

theorem val_ten (l : List UInt8) (h : l ≠ []) : val l = 10 ↔ l.getD 0 0 = 10 := by
  have e : l.getD 0 0 = 10 ↔ (l.getD 0 0).toNat = 10 := ⟨fun h => by rw [h]; rfl, fun h => UInt8.toNat_inj.mp h⟩
  rw [e]
  constructor
  · intro hv
    have : rlen l = 1 := by
      false_or_by_contra
      rename_i h1
      have := val_high l h1; omega
    unfold val at hv; rw [if_neg (by omega), if_pos this] at hv; exact hv
  · intro hc
    have : rlen l = 1 := by
      unfold rlen; rw [if_neg (by simpa using h), if_pos (by omega)]
    unfold val; rw [if_neg (by omega), if_pos this]; exact hc

theorem isLetter_iff (c : Nat) : isLetter (c : Int) = decide (c = 95 ∨ (97 ≤ c ∧ c ≤ 122) ∨ (65 ≤ c ∧ c ≤ 90) ∨ (48 ≤ c ∧ c ≤ 57)) := by
  unfold isLetter; rw [Bool.eq_iff_iff]; simp; omega

/-- The program's test of a rune of a valid text. -/
theorem may_val (l : List UInt8) (h : rlen l ≠ 0) : may l = (if val l < 161 then isLetter (val l : Int) else true) := by
  rw [isLetter_iff]
  have b0 := (l.getD 0 0).toNat_lt; have b1 := (l.getD 1 0).toNat_lt; have b2 := (l.getD 2 0).toNat_lt; have b3 := (l.getD 3 0).toNat_lt
  have hc := rlen_cases l
  unfold may val
  generalize (l.getD 0 0).toNat = c0 at *
  generalize (l.getD 1 0).toNat = c1 at *
  generalize (l.getD 2 0).toNat = c2 at *
  generalize (l.getD 3 0).toNat = c3 at *
  rcases hc with e | ⟨e, h1⟩ | ⟨e, h1⟩ | ⟨e, h1⟩ | ⟨e, h1⟩
  · exact absurd e h
  · rw [e]; simp; intro; omega
  all_goals (rw [e]; simp; rw [Bool.eq_iff_iff]; simp; omega)

theorem name_l0 (s : ByteArray) : ∀ (k p : Nat), s.size - p < k → vld ((L s).drop p) = true → glyph_Name.l0 s k p = some (mays ((L s).drop p)) := by
  intro k
  induction k with
  | zero => intro p h; omega
  | succ k ih =>
    intro p h hv
    simp only [glyph_Name.l0]
    by_cases hp : p < s.size
    · have hne := drop_ne hp
      have h1 := stp_pos ((L s).drop p)
      obtain ⟨hr, hv'⟩ := vld_head hv hne
      rw [List.drop_drop] at hv'
      rw [if_pos hp, decode_eq s p hp, mays_step _ hne, List.drop_drop, may_val _ hr]
      show (if val ((L s).drop p) < 161 then if isLetter (val ((L s).drop p) : Int) = true then glyph_Name.l0 s k (p + stp ((L s).drop p)) else some false else glyph_Name.l0 s k (p + stp ((L s).drop p))) = _
      rw [ih _ (by omega) hv']
      by_cases h161 : val ((L s).drop p) < 161
      · rw [if_pos h161, if_pos h161]
        cases isLetter (val ((L s).drop p) : Int) <;> simp
      · rw [if_neg h161, if_neg h161]; simp
    · rw [if_neg hp, drop_nil hp, mays_nil]

theorem Name_f (s : ByteArray) (hs : s.size ≤ 140737488351232) : glyph_Name.f s = some (name (L s)) := by
  unfold glyph_Name.f name
  rw [Valid_f]
  simp only [Option.bind_some]
  cases hv : vld (L s) with
  | false =>
    have : mays (L s) = false := by
      cases hm : mays (L s) with
      | false => rfl
      | true => rw [mays_vld hm] at hv; exact absurd hv (by simp)
    simp [this]
  | true =>
    rw [if_pos rfl, toL]
    by_cases he : L s = []
    · rw [he]; simp [cnt_nil]
    · rw [if_neg (by simpa using he), Count_f s hs]
      have hc : 0 < cnt (L s) := by rw [cnt_step _ he]; omega
      simp only [Option.bind_some]
      by_cases h24 : (cnt (L s) : Int) > 24
      · rw [if_pos h24]; simp; intro; omega
      · rw [if_neg h24, name_l0 s _ 0 (by omega) (by simpa using hv)]
        simp; intro; omega

end Go.Proofs.YtkgnhghaiopgcaaDoor.GlFn
