/- The reference's runes and tokens are the document's, over the walks of the family Nq. -/
import Derived.Test.YtkgnhghaiopgcaaDoorTk
import Derived.Test.YtkgnhghaiopgcaaDoorNq1
import Derived.Test.YtkgnhghaiopgcaaDoorNq2
import Derived.Test.YtkgnhghaiopgcaaDoorNq3
import Derived.Test.YtkgnhghaiopgcaaDoorNq4
set_option linter.unusedSimpArgs false
namespace Go.Proofs.YtkgnhghaiopgcaaDoor.GlRef
open Go.RowKit Go.Proofs.YtkgnhghaiopgcaaDoorW.PrintWords Go.Proofs.YtkgnhghaiopgcaaDoor.X Go.Proofs.YtkgnhghaiopgcaaDoor.Gl Go.Proofs.YtkgnhghaiopgcaaDoor.GlFn Go.Proofs.YtkgnhghaiopgcaaDoor.Nq

theorem bt_L (s : ByteArray) (p k : Nat) : bt s ((p + k : Nat) : Int) = (((L s).drop p).getD k 0).toNat := by
  unfold bt
  rw [← get!_drop]
  simp only [Int.toNat_natCast, ByteArray.get!]
  split
  · rename_i h
    have h' : p + k < s.data.size := h
    rw [getElem!_pos s.data (p + k) h']
    rfl
  · rename_i h
    have h' : ¬ p + k < s.data.size := h
    rw [getElem!_neg s.data (p + k) h']
    rfl

theorem bt_0 (s : ByteArray) (p : Nat) : bt s (p : Int) = (((L s).drop p).getD 0 0).toNat := bt_L s p 0

theorem in_f (s : ByteArray) (p k lo hi : Nat) : doormanref02_in.f s ((p + k : Nat) : Int) (lo : Int) (hi : Int) = some (isC ((L s).drop p) k lo hi) := by
  unfold doormanref02_in.f isC
  rw [bt_L, List.length_drop, L_length]
  generalize (((L s).drop p).getD k 0).toNat = c
  by_cases h : ((p + k : Nat) : Int) < s.size
  · rw [if_pos h, if_pos (by omega)]
    have : (decide (k < s.size - p)) = true := by simp; omega
    rw [this]
    by_cases h2 : (c : Int) ≥ lo
    · rw [if_pos h2]; simp; omega
    · rw [if_neg h2]; simp; omega
  · rw [if_neg h]
    have : (decide (k < s.size - p)) = false := by simp; omega
    rw [this]; rfl

theorem Long_f (s : ByteArray) (p k : Nat) (hs : s.size ≤ 140737488351232) (hp : p < s.size) (hk : 6 ≤ k) : doormanref02_Long.f k s (p : Int) = some (rlen ((L s).drop p) : Int) := by
  obtain ⟨k, rfl⟩ : ∃ m, k = m + 6 := ⟨k - 6, by omega⟩
  unfold doormanref02_Long.f
  have w1 : wrap64 ((p : Int) + 1) = ((p + 1 : Nat) : Int) := by rw [w64 (by omega) (by omega)]; omega
  have w2 : wrap64 ((p : Int) + 2) = ((p + 2 : Nat) : Int) := by rw [w64 (by omega) (by omega)]; omega
  have w3 : wrap64 ((p : Int) + 3) = ((p + 3 : Nat) : Int) := by rw [w64 (by omega) (by omega)]; omega
  have i1 := fun lo hi => in_f s p 1 lo hi
  have i2 := fun lo hi => in_f s p 2 lo hi
  have i3 := fun lo hi => in_f s p 3 lo hi
  rw [w1, w2, w3, bt_0]
  have e1 : doormanref02_in.f s ((p + 1 : Nat) : Int) 128 191 = _ := i1 128 191
  have e2 : doormanref02_in.f s ((p + 2 : Nat) : Int) 128 191 = _ := i2 128 191
  have e3 : doormanref02_in.f s ((p + 3 : Nat) : Int) 128 191 = _ := i3 128 191
  have f1 : doormanref02_in.f s ((p + 1 : Nat) : Int) 160 191 = _ := i1 160 191
  have f2 : doormanref02_in.f s ((p + 1 : Nat) : Int) 128 159 = _ := i1 128 159
  have f3 : doormanref02_in.f s ((p + 1 : Nat) : Int) 144 191 = _ := i1 144 191
  have f4 : doormanref02_in.f s ((p + 1 : Nat) : Int) 128 143 = _ := i1 128 143
  rw [if_pos (by omega), if_pos (by omega), e1, e2, e3]
  simp only [Option.bind_some]
  have hne := drop_ne hp
  have hn : ¬ ((L s).drop p).length = 0 := fun e => hne (List.eq_nil_of_length_eq_zero e)
  generalize (L s).drop p = l at *
  unfold rlen
  rw [if_neg hn]
  have b0 := (l.getD 0 0).toNat_lt
  generalize (l.getD 0 0).toNat = c at *
  by_cases h1 : c < 128
  · rw [if_pos h1, if_pos (by omega)]; rfl
  rw [if_neg h1, if_neg (by omega)]
  have j0 : ∀ b : Bool, b = decide (194 ≤ c ∧ c ≤ 223) → doormanref02_Long.j0 (k + 6) s p c (isC l 1 128 191) (isC l 2 128 191) (isC l 3 128 191) b = some (((if 194 ≤ c ∧ c ≤ 223 then (if isC l 1 128 191 = true then 2 else 0)
      else if 224 ≤ c ∧ c ≤ 239 then
        (if isC l 1 (if c = 224 then 160 else 128) (if c = 237 then 159 else 191) = true ∧ isC l 2 128 191 = true then 3 else 0)
      else if 240 ≤ c ∧ c ≤ 244 then
        (if isC l 1 (if c = 240 then 144 else 128) (if c = 244 then 143 else 191) = true ∧ isC l 2 128 191 = true ∧ isC l 3 128 191 = true then 4 else 0)
      else 0) : Nat) : Int) := by
    intro b hb
    simp only [doormanref02_Long.j0]
    by_cases h2 : 194 ≤ c ∧ c ≤ 223
    · rw [hb, decide_eq_true h2, if_pos rfl, if_pos h2]
      cases isC l 1 128 191 <;> rfl
    · rw [hb, decide_eq_false h2, if_neg (by simp), if_neg h2]
      have j1 : ∀ b : Bool, b = decide (224 ≤ c ∧ c ≤ 239) → doormanref02_Long.j1 (k + 5) s p c (isC l 1 128 191) (isC l 2 128 191) (isC l 3 128 191) b = some (((if 224 ≤ c ∧ c ≤ 239 then
        (if isC l 1 (if c = 224 then 160 else 128) (if c = 237 then 159 else 191) = true ∧ isC l 2 128 191 = true then 3 else 0)
        else if 240 ≤ c ∧ c ≤ 244 then
        (if isC l 1 (if c = 240 then 144 else 128) (if c = 244 then 143 else 191) = true ∧ isC l 2 128 191 = true ∧ isC l 3 128 191 = true then 4 else 0)
        else 0) : Nat) : Int) := by
        intro b hb
        simp only [doormanref02_Long.j1]
        by_cases h3 : 224 ≤ c ∧ c ≤ 239
        · rw [hb, decide_eq_true h3, if_pos rfl, if_pos h3]
          by_cases a : c = 224
          · subst a
            rw [if_pos rfl, w1, f1]
            simp only [Option.bind_some, doormanref02_Long.j2]
            rw [if_neg (show ¬ ((224 : Nat) : Int) = 237 by decide)]
            simp only [if_true, show ¬ (224 = 237) by decide, if_false]
            cases isC l 1 160 191 <;> cases isC l 2 128 191 <;> rfl
          · rw [if_neg (by omega), if_neg a]
            simp only [doormanref02_Long.j2]
            by_cases b : c = 237
            · subst b
              rw [if_pos rfl, w1, f2]
              simp only [Option.bind_some, if_true]
              cases isC l 1 128 159 <;> cases isC l 2 128 191 <;> rfl
            · rw [if_neg (by omega), if_neg b]
              cases isC l 1 128 191 <;> cases isC l 2 128 191 <;> rfl
        · rw [hb, decide_eq_false h3, if_neg (by simp), if_neg h3]
          have j3 : ∀ b : Bool, b = decide (240 ≤ c ∧ c ≤ 244) → doormanref02_Long.j3 (k + 4) s p c (isC l 1 128 191) (isC l 2 128 191) (isC l 3 128 191) b = some (((if 240 ≤ c ∧ c ≤ 244 then
            (if isC l 1 (if c = 240 then 144 else 128) (if c = 244 then 143 else 191) = true ∧ isC l 2 128 191 = true ∧ isC l 3 128 191 = true then 4 else 0)
            else 0) : Nat) : Int) := by
            intro b hb
            simp only [doormanref02_Long.j3]
            by_cases h4 : 240 ≤ c ∧ c ≤ 244
            · rw [hb, decide_eq_true h4, if_pos rfl, if_pos h4]
              by_cases a : c = 240
              · subst a
                rw [if_pos rfl, w1, f3]
                simp only [Option.bind_some, doormanref02_Long.j4]
                rw [if_neg (show ¬ ((240 : Nat) : Int) = 244 by decide)]
                simp only [if_true, show ¬ (240 = 244) by decide, if_false]
                cases isC l 1 144 191 <;> cases isC l 2 128 191 <;> cases isC l 3 128 191 <;> rfl
              · rw [if_neg (by omega), if_neg a]
                simp only [doormanref02_Long.j4]
                by_cases b : c = 244
                · subst b
                  rw [if_pos rfl, w1, f4]
                  simp only [Option.bind_some, if_true]
                  cases isC l 1 128 143 <;> cases isC l 2 128 191 <;> cases isC l 3 128 191 <;> rfl
                · rw [if_neg (by omega), if_neg b]
                  cases isC l 1 128 191 <;> cases isC l 2 128 191 <;> cases isC l 3 128 191 <;> rfl
            · rw [hb, decide_eq_false h4, if_neg (by simp), if_neg h4]; rfl
          by_cases h4 : (c : Int) ≥ 240
          · rw [if_pos h4]
            exact j3 _ (by rw [Bool.eq_iff_iff]; simp; omega)
          · rw [if_neg h4]
            exact j3 _ (by simp; omega)
      by_cases h3 : (c : Int) ≥ 224
      · rw [if_pos h3]
        exact j1 _ (by rw [Bool.eq_iff_iff]; simp; omega)
      · rw [if_neg h3]
        exact j1 _ (by simp; omega)
  by_cases h2 : (c : Int) ≥ 194
  · rw [if_pos h2]
    exact j0 _ (by rw [Bool.eq_iff_iff]; simp; omega)
  · rw [if_neg h2]
    exact j0 _ (by simp; omega)

theorem Step_f (s : ByteArray) (p k : Nat) (hs : s.size ≤ 140737488351232) (hp : p < s.size) (hk : 6 ≤ k) : doormanref02_Step.f k s (p : Int) = some ((p + stp ((L s).drop p) : Nat) : Int) := by
  unfold doormanref02_Step.f
  rw [Long_f s p k hs hp hk]
  simp only [Option.bind_some]
  have := rlen_le4 ((L s).drop p)
  unfold stp
  by_cases h : rlen ((L s).drop p) = 0
  · rw [if_pos h, if_pos (by omega), w64 (by omega) (by omega)]; rfl
  · rw [if_neg h, if_neg (by omega), w64 (by omega) (by omega)]; rfl

theorem May_f (s : ByteArray) (p k : Nat) (hs : s.size ≤ 140737488351232) (hp : p < s.size) (hk : 6 ≤ k) : doormanref02_May.f k s (p : Int) = some (may ((L s).drop p)) := by
  unfold doormanref02_May.f
  rw [if_pos (by omega), if_pos (by omega), Long_f s p k hs hp hk, bt_0]
  have w1 : wrap64 ((p : Int) + 1) = ((p + 1 : Nat) : Int) := by rw [w64 (by omega) (by omega)]; omega
  rw [w1, bt_L]
  simp only [Option.bind_some]
  have hl := rlen_le ((L s).drop p)
  rw [List.length_drop, L_length] at hl
  unfold may
  generalize rlen ((L s).drop p) = r at *
  generalize (((L s).drop p).getD 0 0).toNat = c
  generalize (((L s).drop p).getD 1 0).toNat = d
  by_cases h0 : r = 0
  · subst h0; simp
  rw [if_neg h0]
  by_cases h1 : r = 1
  · subst h1
    rw [if_pos (show ((1 : Nat) : Int) = 1 by rfl), if_pos rfl]
    repeat' split
    all_goals first | (rw [decide_eq_true (by omega)]; done) | (rw [decide_eq_false (by omega)]; done) | (rw [Option.some.injEq, Bool.eq_iff_iff, decide_eq_true_eq, decide_eq_true_eq]; omega)
  · rw [if_neg (by omega), if_neg h1, if_pos (by omega)]
    by_cases h2 : c = 194
    · subst h2
      rw [if_pos (by rfl), if_pos (by omega), if_pos (by omega), Option.some.injEq, Bool.eq_iff_iff, decide_eq_true_eq, decide_eq_true_eq]
      omega
    · rw [if_neg (by omega)]; simp [h2]

end Go.Proofs.YtkgnhghaiopgcaaDoor.GlRef
set_option linter.unusedSimpArgs false
set_option linter.unusedVariables false
set_option linter.unusedSimpArgs false
namespace Go.Proofs.YtkgnhghaiopgcaaDoor.TkRef
open Go.RowKit Go.Proofs.YtkgnhghaiopgcaaDoorW.PrintWords Go.Proofs.YtkgnhghaiopgcaaDoor.X Go.Proofs.YtkgnhghaiopgcaaDoor.Gl Go.Proofs.YtkgnhghaiopgcaaDoor.GlFn Go.Proofs.YtkgnhghaiopgcaaDoor.GlRef Go.Proofs.YtkgnhghaiopgcaaDoor.Tk Go.Proofs.YtkgnhghaiopgcaaDoor.TkFn Go.Proofs.YtkgnhghaiopgcaaDoor.Nq

abbrev S12 : ByteArray := ⟨#[123, 125, 40, 41, 58, 44, 59, 124, 38, 45, 46, 35]⟩
theorem sign_l0 (c : Int) : ∀ (k p : Nat), 12 - p < k → p ≤ 12 → doormanref06_Sign.l0 k c S12 (p : Int) = some (((L S12).drop p).any fun b => decide ((b.toNat : Int) = c)) := by
  intro k
  induction k with
  | zero => intro p h; omega
  | succ k ih =>
    intro p h hp'
    have hsz : S12.size = 12 := rfl
    simp only [doormanref06_Sign.l0]
    by_cases hp : p < 12
    · have hlt : p < (L S12).length := hp
      rw [if_pos (by rw [hsz]; omega), if_pos (by omega), bt_0, List.drop_eq_getElem_cons hlt]
      have hg : ((L S12)[p]'hlt :: (L S12).drop (p + 1)).getD 0 0 = (L S12)[p]'hlt := rfl
      rw [hg, List.any_cons]
      by_cases hc : (((L S12)[p]'hlt).toNat : Int) = c
      · rw [if_pos hc, decide_eq_true hc]; rfl
      · rw [if_neg hc, decide_eq_false hc, Bool.false_or, w64 (by omega) (by omega)]
        exact ih (p + 1) (by omega) (by omega)
    · rw [if_neg (by rw [hsz]; omega), List.drop_eq_nil_of_le (show (L S12).length ≤ p from by show 12 ≤ p; omega)]; rfl

theorem Sign_f (c k : Nat) (hk : 13 ≤ k) : doormanref06_Sign.f k (c : Int) = some (isSign c) := by
  unfold doormanref06_Sign.f
  rw [show ((0 : Int)) = ((0 : Nat) : Int) from rfl, sign_l0 c k 0 (by omega) (by omega)]
  have e : ((L S12).drop 0) = [123, 125, 40, 41, 58, 44, 59, 124, 38, 45, 46, 35] := rfl
  rw [e]
  congr 1
  rw [Bool.eq_iff_iff]
  simp [isSign, List.any_cons]
  omega

def wcnt (l : List UInt8) : Nat := cnt (l.take (wlen l))
theorem wcnt_step {l : List UInt8} (h : may l = true) : wcnt l = 1 + wcnt (l.drop (stp l)) := by
  unfold wcnt
  have hne := may_ne h
  rw [wlen_step l hne, if_pos h, cnt_step _ (stp_take_le hne (by omega)), drop_stp_take l _ (by omega)]
  congr 3; omega
theorem wcnt_zero {l : List UInt8} (h : ¬ may l = true) : wcnt l = 0 := by unfold wcnt; rw [wlen_zero h]; simp [cnt_nil]
theorem wcnt_le (l : List UInt8) : wcnt l ≤ wlen l := by
  unfold wcnt
  have := cnt_le (l.take (wlen l))
  rw [List.length_take] at this; omega

def toR (t : Tok) : S33 := ⟨t.kind, ⟨t.text.toArray⟩, t.at_⟩
def encR (acc : List S33) : R → List S33 × Int × Int
  | .ok ts => (acc ++ ts.map toR, 0, 0)
  | .error (e, p) => ([], e, (p : Int))
theorem encR_cons (acc : List S33) (t : Tok) (r : R) : encR acc (cons t r) = encR (acc ++ [toR t]) r := by
  cases r <;> simp [encR, cons]

theorem u10 {c : UInt8} (h : (c.toNat : Int) = 10) : c = 10 := UInt8.toNat_inj.mp (by have h : c.toNat = 10 := by omega
                                                                                      rw [h]; rfl)
theorem u47 {c : UInt8} (h : (c.toNat : Int) = 47) : c = 47 := UInt8.toNat_inj.mp (by have h : c.toNat = 47 := by omega
                                                                                      rw [h]; rfl)

theorem note_ref (s : ByteArray) (hs : s.size ≤ 4096) (acc : List S33) : ∀ (n p k : Nat), s.size - p ≤ n → p ≤ s.size →
    doormanref06_All.l2 (k + noteLen ((L s).drop p) + 1) s acc (p : Int) = doormanref06_All.l1 k s acc ((p + noteLen ((L s).drop p) : Nat) : Int) := by
  intro n
  induction n with
  | zero =>
    intro p k h hp'
    simp only [doormanref06_All.l2]
    have hp : ¬ p < s.size := by omega
    rw [if_neg (by omega), drop_nil hp]; rfl
  | succ n ih =>
    intro p k h hp'
    simp only [doormanref06_All.l2]
    by_cases hp : p < s.size
    · have hne := drop_ne hp
      rw [if_pos (by omega), if_pos (by omega), bt_0]
      by_cases hc : ((L s).drop p).getD 0 0 = 10
      · rw [if_pos (by rw [hc]; rfl), noteLen_ten hc]; rfl
      · have hc' : ¬ ((((L s).drop p).getD 0 0).toNat : Int) = 10 := fun e => hc (u10 e)
        have hk : noteLen ((L s).drop p) = 1 + noteLen ((L s).drop (p + 1)) := by
          rw [noteLen_skip 1 _ (by have := len_ne hne; omega) (fun i hi => by
            have : i = 0 := by omega
            subst this; exact hc), List.drop_drop]
        rw [if_neg hc', hk, w64 (by omega) (by omega)]
        have := ih (p + 1) k (by omega) (by omega)
        rw [show k + (1 + noteLen ((L s).drop (p + 1))) = k + noteLen ((L s).drop (p + 1)) + 1 by omega,
          show ((p : Int) + 1) = ((p + 1 : Nat) : Int) by push_cast; rfl, this]
        congr 2; omega
    · rw [if_neg (by omega), drop_nil hp]; rfl

theorem word_ref (s : ByteArray) (hs : s.size ≤ 4096) (acc : List S33) (hacc : acc.length < 4398046511104) (p0 k : Nat) (hk : 6 ≤ k) : ∀ (m q n : Nat), s.size - q ≤ m → q ≤ s.size → p0 ≤ q → n ≤ q →
    doormanref06_All.l3 (k + wcnt ((L s).drop q) + 1) s acc (p0 : Int) (q : Int) (n : Int) =
      if n + wcnt ((L s).drop q) > 24 then some ([], 31, (p0 : Int)) else
        doormanref06_All.l1 k s (acc ++ [⟨1, s.extract p0 (q + wlen ((L s).drop q)), (p0 : Int)⟩]) ((q + wlen ((L s).drop q) : Nat) : Int) := by
  have hend : ∀ (q n K : Nat), p0 ≤ q → q ≤ s.size → (if (n : Int) > 24 then (some (([] : List S33), (31 : Int), (p0 : Int))) else (if (0 : Int) ≤ (p0 : Int) then (if (p0 : Int) ≤ (q : Int) then (if (q : Int) ≤ (s.size : Int) then (if acc.length < 4398046511104 then (doormanref06_All.l1 K s (acc ++ [(⟨1, s.extract (p0 : Int).toNat (q : Int).toNat, (p0 : Int)⟩ : S33)]) (q : Int)) else none) else none) else none) else none)) =
      if n > 24 then some ([], 31, (p0 : Int)) else doormanref06_All.l1 K s (acc ++ [⟨1, s.extract p0 q, (p0 : Int)⟩]) (q : Int) := by
    intro q n K h1 h2
    by_cases hn : n > 24
    · rw [if_pos hn, if_pos (by omega)]
    · rw [if_neg hn, if_neg (by omega), if_pos (by omega), if_pos (by omega), if_pos (by omega), if_pos hacc]
      simp only [Int.toNat_natCast]
  intro m
  induction m with
  | zero =>
    intro q n h hq h0 hn
    simp only [doormanref06_All.l3]
    have hp : ¬ q < s.size := by omega
    rw [if_neg (by omega), hend q n _ h0 hq, drop_nil hp, wcnt_zero (by rw [may_nil]; decide), wlen_nil]
    simp
  | succ m ih =>
    intro q n h hq h0 hn
    simp only [doormanref06_All.l3]
    by_cases hp : q < s.size
    · have hne := drop_ne hp
      have h1 := stp_pos ((L s).drop q)
      have h2 := stp_le _ hne
      simp only [List.length_drop, L_length] at h2
      rw [if_pos (by omega), May_f s q _ (by omega) hp (by omega), ob]
      by_cases hm : may ((L s).drop q) = true
      · rw [if_pos hm, Step_f s q _ (by omega) hp (by omega), ob, w64 (by omega) (by omega), wcnt_step hm, wlen_step _ hne, if_pos hm, List.drop_drop]
        have := ih (q + stp ((L s).drop q)) (n + 1) (by omega) (by omega) (by omega) (by omega)
        rw [show k + (1 + wcnt ((L s).drop (q + stp ((L s).drop q)))) = k + wcnt ((L s).drop (q + stp ((L s).drop q))) + 1 by omega,
          show ((n : Int) + 1) = ((n + 1 : Nat) : Int) by push_cast; rfl, this, Nat.add_assoc n 1, Nat.add_assoc q]
      · rw [if_neg hm, hend q n _ h0 hq, wcnt_zero hm, wlen_zero hm]
        simp
    · rw [if_neg (by omega), hend q n _ h0 hq, drop_nil hp, wcnt_zero (by rw [may_nil]; decide), wlen_nil]
      simp

theorem l1_ref (s : ByteArray) (hs : s.size ≤ 4096) : ∀ (n p k : Nat) (acc : List S33), s.size - p ≤ n → p ≤ s.size → vld ((L s).drop p) = true → acc.length ≤ p → 5 * (s.size - p) + 20 ≤ k →
    doormanref06_All.l1 k s acc (p : Int) = some (encR acc (tk ((L s).drop p) p)) := by
  intro n
  induction n with
  | zero =>
    intro p k acc h hp' hv ha hk
    obtain ⟨k, rfl⟩ : ∃ j, k = j + 1 := ⟨k - 1, by omega⟩
    simp only [doormanref06_All.l1]
    have hp : ¬ p < s.size := by omega
    have e : p = s.size := by omega
    rw [if_neg (by omega), if_pos (by omega), drop_nil hp, tk_nil, ← e]; rfl
  | succ n ih =>
    intro p k acc h hp' hv ha hk
    by_cases hp : p < s.size
    · have hne := drop_ne hp
      have hlen : ((L s).drop p).length = s.size - p := by rw [List.length_drop, L_length]
      have hdd : ∀ n, (L s).drop (p + n) = ((L s).drop p).drop n := fun n => by rw [List.drop_drop]
      obtain ⟨k, rfl⟩ : ∃ j, k = j + 4 := ⟨k - 4, by omega⟩
      have hj : doormanref06_All.l1 (k + 4) s acc (p : Int) = doormanref06_All.j2 (k + 3) s acc (p : Int) ((((L s).drop p).getD 0 0).toNat : Int) (isSign (((L s).drop p).getD 0 0).toNat) (may ((L s).drop p)) (blk (((L s).drop p).getD 0 0)) := by
        simp only [doormanref06_All.l1]
        rw [if_pos (by omega), if_pos (by omega), bt_0, Sign_f _ _ (by omega), ob, May_f s p _ (by omega) hp (by omega), ob]
        by_cases h32 : ((((L s).drop p).getD 0 0).toNat : Int) = 32
        · rw [if_pos h32, show blk (((L s).drop p).getD 0 0) = true from decide_eq_true (by omega)]
        · rw [if_neg h32]
          by_cases h9 : ((((L s).drop p).getD 0 0).toNat : Int) = 9
          · rw [if_pos h9, show blk (((L s).drop p).getD 0 0) = true from decide_eq_true (by omega)]
          · rw [if_neg h9]
            congr 1
            unfold blk
            generalize (((L s).drop p).getD 0 0).toNat = c at h32 h9 ⊢
            rw [Bool.eq_iff_iff]; simp; omega
      rw [hj]
      simp only [doormanref06_All.j2]
      have hw1 : wrap64 ((p : Int) + 1) = ((p + 1 : Nat) : Int) := by rw [w64 (by omega) (by omega)]; push_cast; rfl
      by_cases hb : blk (((L s).drop p).getD 0 0) = true
      · have hb' := of_decide_eq_true hb
        rw [if_pos hb, hw1, tk_blank hne hb, ih _ _ _ (by omega) (by omega) (by rw [hdd]; exact vld_one hv hne (by omega)) (by omega) (by omega), hdd]
      rw [if_neg hb]
      by_cases hsg : isSign (((L s).drop p).getD 0 0).toNat = true
      · have hlt : (((L s).drop p).getD 0 0).toNat < 128 := by
          simp only [isSign, Bool.or_eq_true, decide_eq_true_eq] at hsg; omega
        have htx : s.extract p (p + 1) = ⟨(((L s).drop p).take 1).toArray⟩ := eq_mk (by rw [L_extract, show p + 1 - p = 1 by omega])
        rw [if_pos hsg, hw1, if_pos (by omega), if_pos (by omega), if_pos (by omega), if_pos (by omega)]
        simp only [Int.toNat_natCast]
        rw [tk_sign hne hsg, ih _ _ _ (by omega) (by omega) (by rw [hdd]; exact vld_one hv hne hlt) (by simp; omega) (by omega), hdd, encR_cons, htx]
        rfl
      rw [if_neg hsg]
      have hj3 : ∀ (x : Bool), doormanref06_All.j3 (k + 2) s acc (p : Int) (may ((L s).drop p)) x = if x = true then doormanref06_All.l2 (k + 1) s acc (p : Int) else if may ((L s).drop p) = true then doormanref06_All.l3 (k + 1) s acc (p : Int) (p : Int) 0 else some ([], 30, (p : Int)) := by
        intro x; simp only [doormanref06_All.j3]
      by_cases h47 : ((L s).drop p).getD 0 0 = 47
      · have hmf : may ((L s).drop p) = false := by
          cases hm : may ((L s).drop p) with
          | false => rfl
          | true => exact absurd h47 (may_not hm).2.1
        rw [if_pos (by rw [h47]; rfl)]
        by_cases hn : ((L s).drop p).take 2 = [47, 47]
        · have hle := noteLen_le ((L s).drop p)
          have h2 := noteLen_two hn
          have h11 : ((L s).drop p).getD 1 0 = 47 := by
            have := congrArg (fun l => l.getD 1 0) hn
            simpa [List.getD_eq_getElem?_getD, List.getElem?_take] using this
          have hb1 : (bt s ((p + 1 : Nat) : Int) == 47) = true := by rw [bt_L, h11]; rfl
          rw [hw1, if_pos (by omega), if_pos (by omega), hb1, hj3, if_pos rfl, tk_note hn]
          have := note_ref s hs acc _ p (k - noteLen ((L s).drop p)) (Nat.le_refl _) (by omega)
          rw [show k - noteLen ((L s).drop p) + noteLen ((L s).drop p) + 1 = k + 1 by omega] at this
          rw [this, ih _ _ _ (by omega) (by omega) (by rw [hdd]; exact vld_note hv) (by omega) (by omega), hdd]
        · rw [tk_slash h47 hn, hw1]
          by_cases hp1 : p + 1 < s.size
          · have hb1 : (bt s ((p + 1 : Nat) : Int) == 47) = false := by
              rw [bt_L, beq_eq_false_iff_ne]
              intro e
              apply hn
              have e1 : ((L s).drop p).getD 1 0 = 47 := u47 e
              match hl : (L s).drop p, h47, e1 with
              | a :: b :: r, h0, h1 => simp at h0 h1; simp [h0, h1]
              | [a], h0, h1 => rw [hl] at hlen; simp at hlen; omega
              | [], h0, h1 => exact absurd hl hne
            rw [if_pos (by omega), if_pos (by omega), hj3, hmf, hb1]; rfl
          · rw [if_neg (by omega), hj3, hmf]; rfl
      have h47' : ¬ ((((L s).drop p).getD 0 0).toNat : Int) = 47 := fun e => h47 (u47 e)
      rw [if_neg h47', hj3, if_neg (by decide)]
      by_cases hm : may ((L s).drop p) = true
      · have hw1 := wlen_pos hm
        have hw2 := wlen_le ((L s).drop p)
        have hwc := wcnt_le ((L s).drop p)
        have hwr := word_ref s hs acc (by omega) p (k - wcnt ((L s).drop p)) (by omega) _ p 0 (Nat.le_refl _) (by omega) (Nat.le_refl _) (by omega)
        rw [show k - wcnt ((L s).drop p) + wcnt ((L s).drop p) + 1 = k + 1 by omega] at hwr
        have htx : s.extract p (p + wlen ((L s).drop p)) = ⟨(((L s).drop p).take (wlen ((L s).drop p))).toArray⟩ := eq_mk (by rw [L_extract]; congr 1; omega)
        rw [if_pos hm, show (0 : Int) = ((0 : Nat) : Int) from rfl, hwr, Nat.zero_add, htx]
        by_cases hc : cnt (((L s).drop p).take (wlen ((L s).drop p))) ≤ 24
        · have hc' : ¬ wcnt ((L s).drop p) > 24 := by unfold wcnt; omega
          rw [if_neg hc', tk_word hm hc, ih _ _ _ (by omega) (by omega) (by rw [hdd]; exact vld_wlen hv) (by simp; omega) (by omega), hdd, encR_cons]
          rfl
        · have hc' : wcnt ((L s).drop p) > 24 := by unfold wcnt; omega
          rw [if_pos hc', tk_long hm hc]; rfl
      · rw [if_neg hm, tk_other hne hb h47 hsg hm]; rfl
    · obtain ⟨k, rfl⟩ : ∃ j, k = j + 1 := ⟨k - 1, by omega⟩
      simp only [doormanref06_All.l1]
      have e : p = s.size := by omega
      rw [if_neg (by omega), if_pos (by omega), drop_nil hp, tk_nil, ← e]; rfl

theorem l0_ref (s : ByteArray) (hs : s.size ≤ 4096) : ∀ (n p k : Nat), s.size - p ≤ n → p ≤ s.size → 6 * (s.size - p) + 5 * s.size + 30 ≤ k →
    (vld ((L s).drop p) = true → vld (L s) = true) →
    doormanref06_All.l0 k s (p : Int) = some (if vld ((L s).drop p) = true then encR [] (tk (L s) 0) else ([], 11, ((p + brk ((L s).drop p) : Nat) : Int))) := by
  intro n
  induction n with
  | zero =>
    intro p k h hp' hk hv
    obtain ⟨k, rfl⟩ : ∃ j, k = j + 1 := ⟨k - 1, by omega⟩
    simp only [doormanref06_All.l0]
    have hp : ¬ p < s.size := by omega
    have hv0 : vld ((L s).drop p) = true := by rw [drop_nil hp, vld_nil]
    have := l1_ref s hs _ 0 k [] (Nat.le_refl _) (by omega) (by simpa using hv hv0) (by simp) (by omega)
    rw [if_neg (by omega), if_pos hv0]
    simpa using this
  | succ n ih =>
    intro p k h hp' hk hv
    obtain ⟨k, rfl⟩ : ∃ j, k = j + 1 := ⟨k - 1, by omega⟩
    simp only [doormanref06_All.l0]
    by_cases hp : p < s.size
    · have hne := drop_ne hp
      have h1 := stp_pos ((L s).drop p)
      have h2 := stp_le _ hne
      simp only [List.length_drop, L_length] at h2
      rw [if_pos (by omega), Long_f s p _ (by omega) hp (by omega), ob]
      by_cases hr : rlen ((L s).drop p) = 0
      · have hvf : ¬ vld ((L s).drop p) = true := by rw [vld_step _ hne, if_pos hr]; decide
        rw [if_pos (by rw [hr]; rfl), if_neg hvf, brk_zero hr]; rfl
      · rw [if_neg (by omega), Step_f s p _ (by omega) hp (by omega), ob,
          ih _ _ (by omega) (by omega) (by omega) (fun h => hv (by rw [vld_step _ hne, if_neg hr, List.drop_drop]; exact h)), vld_step _ hne, if_neg hr, List.drop_drop, brk_step hne hr, List.drop_drop, Nat.add_assoc]
    · have hv0 : vld ((L s).drop p) = true := by rw [drop_nil hp, vld_nil]
      have := l1_ref s hs _ 0 k [] (Nat.le_refl _) (by omega) (by simpa using hv hv0) (by simp) (by omega)
      rw [if_neg (by omega), if_pos hv0]
      simpa using this

theorem RAll_f (s : ByteArray) (k : Nat) (hk : 11 * s.size + 30 ≤ k ∨ 11 * 4096 + 30 ≤ k) : doormanref06_All.f k s = some (encR [] (all (L s))) := by
  unfold doormanref06_All.f all
  rw [L_length]
  by_cases h : s.size > 2048
  · rw [if_pos (by omega), if_pos h]; rfl
  · rw [if_neg (by omega), if_neg h]
    have := l0_ref s (by omega) _ 0 k (Nat.le_refl _) (by omega) (by omega) (fun h => by simpa using h)
    rw [show (0 : Int) = ((0 : Nat) : Int) from rfl, this]
    simp only [List.drop_zero, Nat.zero_add]
    cases vld (L s) <;> rfl

end Go.Proofs.YtkgnhghaiopgcaaDoor.TkRef
