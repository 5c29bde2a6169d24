/- The reference's functions of layer 2 (in, Long, Step, May) are the document's runes; the plain side of their walks. Each text of at most 2^47 bytes. -/
import Derived.Test.YtkgnhghaiopgcaaDoorGlFn
import Derived.Test.YtkgnhghaiopgcaaDoorX6
import Derived.Test.YtkgnhghaiopgcaaDoorX7
import Derived.Test.YtkgnhghaiopgcaaDoorX7
import Derived.Test.YtkgnhghaiopgcaaDoorX8
set_option linter.unusedSimpArgs false
namespace Go.Proofs.YtkgnhghaiopgcaaDoor.GlRef
open Go.RowKit Go.Proofs.YtkgnhghaiopgcaaDoorW.PrintWords Go.Proofs.YtkgnhghaiopgcaaDoor.X Go.Proofs.YtkgnhghaiopgcaaDoor.Gl Go.Proofs.YtkgnhghaiopgcaaDoor.GlFn

theorem bt_L (s : ByteArray) (p k : Nat) : bt s ((p + k : Nat) : Int) = (((L s).drop p).getD k 0).toNat := by
  unfold bt
  rw [← get!_drop]
  simp only [Int.toNat_natCast, ByteArray.get!]
  split
  · rename_i h
    have h' : p + k < s.data.size := h
    rw [getElem!_pos s.data (p + k) h']
    rfl
  · rename_i h
    have h' : ¬ p + k < s.data.size := h
    rw [getElem!_neg s.data (p + k) h']
    rfl

theorem bt_0 (s : ByteArray) (p : Nat) : bt s (p : Int) = (((L s).drop p).getD 0 0).toNat := bt_L s p 0

theorem in_f (s : ByteArray) (p k lo hi : Nat) : doormanref02_in.f s ((p + k : Nat) : Int) (lo : Int) (hi : Int) = some (isC ((L s).drop p) k lo hi) := by
  unfold doormanref02_in.f isC
  rw [bt_L, List.length_drop, L_length]
  generalize (((L s).drop p).getD k 0).toNat = c
  by_cases h : ((p + k : Nat) : Int) < s.size
  · rw [if_pos h, if_pos (by omega)]
    have : (decide (k < s.size - p)) = true := by simp; omega
    rw [this]
    by_cases h2 : (c : Int) ≥ lo
    · rw [if_pos h2]; simp; omega
    · rw [if_neg h2]; simp; omega
  · rw [if_neg h]
    have : (decide (k < s.size - p)) = false := by simp; omega
    rw [this]; rfl

theorem Long_f (s : ByteArray) (p k : Nat) (hs : s.size ≤ 140737488351232) (hp : p < s.size) (hk : 6 ≤ k) : doormanref02_Long.f k s (p : Int) = some (rlen ((L s).drop p) : Int) := by
  obtain ⟨k, rfl⟩ : ∃ m, k = m + 6 := ⟨k - 6, by omega⟩
  unfold doormanref02_Long.f
  have w1 : wrap64 ((p : Int) + 1) = ((p + 1 : Nat) : Int) := by rw [w64 (by omega) (by omega)]; omega
  have w2 : wrap64 ((p : Int) + 2) = ((p + 2 : Nat) : Int) := by rw [w64 (by omega) (by omega)]; omega
  have w3 : wrap64 ((p : Int) + 3) = ((p + 3 : Nat) : Int) := by rw [w64 (by omega) (by omega)]; omega
  have i1 := fun lo hi => in_f s p 1 lo hi
  have i2 := fun lo hi => in_f s p 2 lo hi
  have i3 := fun lo hi => in_f s p 3 lo hi
  rw [w1, w2, w3, bt_0]
  have e1 : doormanref02_in.f s ((p + 1 : Nat) : Int) 128 191 = _ := i1 128 191
  have e2 : doormanref02_in.f s ((p + 2 : Nat) : Int) 128 191 = _ := i2 128 191
  have e3 : doormanref02_in.f s ((p + 3 : Nat) : Int) 128 191 = _ := i3 128 191
  have f1 : doormanref02_in.f s ((p + 1 : Nat) : Int) 160 191 = _ := i1 160 191
  have f2 : doormanref02_in.f s ((p + 1 : Nat) : Int) 128 159 = _ := i1 128 159
  have f3 : doormanref02_in.f s ((p + 1 : Nat) : Int) 144 191 = _ := i1 144 191
  have f4 : doormanref02_in.f s ((p + 1 : Nat) : Int) 128 143 = _ := i1 128 143
  rw [if_pos (by omega), if_pos (by omega), e1, e2, e3]
  simp only [Option.bind_some]
  have hne := drop_ne hp
  have hn : ¬ ((L s).drop p).length = 0 := fun e => hne (List.eq_nil_of_length_eq_zero e)
  generalize (L s).drop p = l at *
  unfold rlen
  rw [if_neg hn]
  have b0 := (l.getD 0 0).toNat_lt
  generalize (l.getD 0 0).toNat = c at *
  by_cases h1 : c < 128
  · rw [if_pos h1, if_pos (by omega)]; rfl
  rw [if_neg h1, if_neg (by omega)]
  have j0 : ∀ b : Bool, b = decide (194 ≤ c ∧ c ≤ 223) → doormanref02_Long.j0 (k + 6) s p c (isC l 1 128 191) (isC l 2 128 191) (isC l 3 128 191) b = some (((if 194 ≤ c ∧ c ≤ 223 then (if isC l 1 128 191 = true then 2 else 0)
      else if 224 ≤ c ∧ c ≤ 239 then
        (if isC l 1 (if c = 224 then 160 else 128) (if c = 237 then 159 else 191) = true ∧ isC l 2 128 191 = true then 3 else 0)
      else if 240 ≤ c ∧ c ≤ 244 then
        (if isC l 1 (if c = 240 then 144 else 128) (if c = 244 then 143 else 191) = true ∧ isC l 2 128 191 = true ∧ isC l 3 128 191 = true then 4 else 0)
      else 0) : Nat) : Int) := by
    intro b hb
    simp only [doormanref02_Long.j0]
    by_cases h2 : 194 ≤ c ∧ c ≤ 223
    · rw [hb, decide_eq_true h2, if_pos rfl, if_pos h2]
      cases isC l 1 128 191 <;> rfl
    · rw [hb, decide_eq_false h2, if_neg (by simp), if_neg h2]
      have j1 : ∀ b : Bool, b = decide (224 ≤ c ∧ c ≤ 239) → doormanref02_Long.j1 (k + 5) s p c (isC l 1 128 191) (isC l 2 128 191) (isC l 3 128 191) b = some (((if 224 ≤ c ∧ c ≤ 239 then
        (if isC l 1 (if c = 224 then 160 else 128) (if c = 237 then 159 else 191) = true ∧ isC l 2 128 191 = true then 3 else 0)
        else if 240 ≤ c ∧ c ≤ 244 then
        (if isC l 1 (if c = 240 then 144 else 128) (if c = 244 then 143 else 191) = true ∧ isC l 2 128 191 = true ∧ isC l 3 128 191 = true then 4 else 0)
        else 0) : Nat) : Int) := by
        intro b hb
        simp only [doormanref02_Long.j1]
        by_cases h3 : 224 ≤ c ∧ c ≤ 239
        · rw [hb, decide_eq_true h3, if_pos rfl, if_pos h3]
          by_cases a : c = 224
          · subst a
            rw [if_pos rfl, w1, f1]
            simp only [Option.bind_some, doormanref02_Long.j2]
            rw [if_neg (show ¬ ((224 : Nat) : Int) = 237 by decide)]
            simp only [if_true, show ¬ (224 = 237) by decide, if_false]
            cases isC l 1 160 191 <;> cases isC l 2 128 191 <;> rfl
          · rw [if_neg (by omega), if_neg a]
            simp only [doormanref02_Long.j2]
            by_cases b : c = 237
            · subst b
              rw [if_pos rfl, w1, f2]
              simp only [Option.bind_some, if_true]
              cases isC l 1 128 159 <;> cases isC l 2 128 191 <;> rfl
            · rw [if_neg (by omega), if_neg b]
              cases isC l 1 128 191 <;> cases isC l 2 128 191 <;> rfl
        · rw [hb, decide_eq_false h3, if_neg (by simp), if_neg h3]
          have j3 : ∀ b : Bool, b = decide (240 ≤ c ∧ c ≤ 244) → doormanref02_Long.j3 (k + 4) s p c (isC l 1 128 191) (isC l 2 128 191) (isC l 3 128 191) b = some (((if 240 ≤ c ∧ c ≤ 244 then
            (if isC l 1 (if c = 240 then 144 else 128) (if c = 244 then 143 else 191) = true ∧ isC l 2 128 191 = true ∧ isC l 3 128 191 = true then 4 else 0)
            else 0) : Nat) : Int) := by
            intro b hb
            simp only [doormanref02_Long.j3]
            by_cases h4 : 240 ≤ c ∧ c ≤ 244
            · rw [hb, decide_eq_true h4, if_pos rfl, if_pos h4]
              by_cases a : c = 240
              · subst a
                rw [if_pos rfl, w1, f3]
                simp only [Option.bind_some, doormanref02_Long.j4]
                rw [if_neg (show ¬ ((240 : Nat) : Int) = 244 by decide)]
                simp only [if_true, show ¬ (240 = 244) by decide, if_false]
                cases isC l 1 144 191 <;> cases isC l 2 128 191 <;> cases isC l 3 128 191 <;> rfl
              · rw [if_neg (by omega), if_neg a]
                simp only [doormanref02_Long.j4]
                by_cases b : c = 244
                · subst b
                  rw [if_pos rfl, w1, f4]
                  simp only [Option.bind_some, if_true]
                  cases isC l 1 128 143 <;> cases isC l 2 128 191 <;> cases isC l 3 128 191 <;> rfl
                · rw [if_neg (by omega), if_neg b]
                  cases isC l 1 128 191 <;> cases isC l 2 128 191 <;> cases isC l 3 128 191 <;> rfl
            · rw [hb, decide_eq_false h4, if_neg (by simp), if_neg h4]; rfl
          by_cases h4 : (c : Int) ≥ 240
          · rw [if_pos h4]
            exact j3 _ (by rw [Bool.eq_iff_iff]; simp; omega)
          · rw [if_neg h4]
            exact j3 _ (by simp; omega)
      by_cases h3 : (c : Int) ≥ 224
      · rw [if_pos h3]
        exact j1 _ (by rw [Bool.eq_iff_iff]; simp; omega)
      · rw [if_neg h3]
        exact j1 _ (by simp; omega)
  by_cases h2 : (c : Int) ≥ 194
  · rw [if_pos h2]
    exact j0 _ (by rw [Bool.eq_iff_iff]; simp; omega)
  · rw [if_neg h2]
    exact j0 _ (by simp; omega)

theorem Step_f (s : ByteArray) (p k : Nat) (hs : s.size ≤ 140737488351232) (hp : p < s.size) (hk : 6 ≤ k) : doormanref02_Step.f k s (p : Int) = some ((p + stp ((L s).drop p) : Nat) : Int) := by
  unfold doormanref02_Step.f
  rw [Long_f s p k hs hp hk]
  simp only [Option.bind_some]
  have := rlen_le4 ((L s).drop p)
  unfold stp
  by_cases h : rlen ((L s).drop p) = 0
  · rw [if_pos h, if_pos (by omega), w64 (by omega) (by omega)]; rfl
  · rw [if_neg h, if_neg (by omega), w64 (by omega) (by omega)]; rfl

theorem May_f (s : ByteArray) (p k : Nat) (hs : s.size ≤ 140737488351232) (hp : p < s.size) (hk : 6 ≤ k) : doormanref02_May.f k s (p : Int) = some (may ((L s).drop p)) := by
  unfold doormanref02_May.f
  rw [if_pos (by omega), if_pos (by omega), Long_f s p k hs hp hk, bt_0]
  have w1 : wrap64 ((p : Int) + 1) = ((p + 1 : Nat) : Int) := by rw [w64 (by omega) (by omega)]; omega
  rw [w1, bt_L]
  simp only [Option.bind_some]
  have hl := rlen_le ((L s).drop p)
  rw [List.length_drop, L_length] at hl
  unfold may
  generalize rlen ((L s).drop p) = r at *
  generalize (((L s).drop p).getD 0 0).toNat = c
  generalize (((L s).drop p).getD 1 0).toNat = d
  by_cases h0 : r = 0
  · subst h0; simp
  rw [if_neg h0]
  by_cases h1 : r = 1
  · subst h1
    rw [if_pos (show ((1 : Nat) : Int) = 1 by rfl), if_pos rfl]
    repeat' split
    all_goals first | (rw [decide_eq_true (by omega)]; done) | (rw [decide_eq_false (by omega)]; done) | (rw [Option.some.injEq, Bool.eq_iff_iff, decide_eq_true_eq, decide_eq_true_eq]; omega)
  · rw [if_neg (by omega), if_neg h1, if_pos (by omega)]
    by_cases h2 : c = 194
    · subst h2
      rw [if_pos (by rfl), if_pos (by omega), if_pos (by omega), Option.some.injEq, Bool.eq_iff_iff, decide_eq_true_eq, decide_eq_true_eq]
      omega
    · rw [if_neg (by omega)]; simp [h2]

end Go.Proofs.YtkgnhghaiopgcaaDoor.GlRef
