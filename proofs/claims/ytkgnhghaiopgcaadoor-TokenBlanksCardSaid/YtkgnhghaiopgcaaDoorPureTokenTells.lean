/- For every input TokenTells returns true: the tokens of any text, or the error, and its place, are the document's. No condition. -/
import Derived.Test.YtkgnhghaiopgcaaDoorTkAwake
import Derived.Test.YtkgnhghaiopgcaaDoorTkRef
import Derived.Test.YtkgnhghaiopgcaaDoorX10
set_option linter.unusedSimpArgs false
set_option linter.unusedVariables false
set_option linter.unusedSimpArgs false
namespace Go.Proofs.YtkgnhghaiopgcaaDoor.Pure
open Go.RowKit Go.Proofs.YtkgnhghaiopgcaaDoor.X Go.Proofs.YtkgnhghaiopgcaaDoorW.PrintWords Go.Proofs.YtkgnhghaiopgcaaDoorW.PrintLast Go.Proofs.YtkgnhghaiopgcaaDoor.Gl Go.Proofs.YtkgnhghaiopgcaaDoor.GlFn Go.Proofs.YtkgnhghaiopgcaaDoor.Tk Go.Proofs.YtkgnhghaiopgcaaDoor.TkFn Go.Proofs.YtkgnhghaiopgcaaDoor.TkRef

theorem RKey_f (s : ByteArray) : doormanref06_Key.f s = some (TkAwake.key (L s)) := by
  unfold doormanref06_Key.f TkAwake.key
  rw [toL]
  by_cases h0 : L s = [116, 121, 112, 101]
  · rw [if_pos h0]; simp [h0]
  rw [if_neg h0]
  by_cases h1 : L s = [114, 101, 108]
  · rw [if_pos h1]; simp [h1]
  rw [if_neg h1]
  by_cases h2 : L s = [105, 115]
  · rw [if_pos h2]; simp [h2]
  rw [if_neg h2]
  congr 1
  rw [Bool.eq_iff_iff]; simp [h0, h1, h2]

theorem rd_S (ts : List Tok) (i : Nat) (h : i < ts.length) : rd_T32 (ts.map toS) (i : Int) = toS (ts[i]'h) := by
  unfold rd_T32
  rw [Int.toNat_natCast, List.getD_eq_getElem?_getD, List.getElem?_map, List.getElem?_eq_getElem h]; rfl
theorem rd_R (ts : List Tok) (i : Nat) (h : i < ts.length) : rd_T33 (ts.map toR) (i : Int) = toR (ts[i]'h) := by
  unfold rd_T33
  rw [Int.toNat_natCast, List.getD_eq_getElem?_getD, List.getElem?_map, List.getElem?_eq_getElem h]; rfl

theorem tells_l0 (ts : List Tok) (hts : ts.length < 4096) : ∀ (n p k : Nat), ts.length - p ≤ n → p ≤ ts.length → n < k →
    doormanlaw06_TokenTells.l0 k (ts.map toS) (ts.map toR) (p : Int) = some true := by
  intro n
  induction n with
  | zero =>
    intro p k h hp hk
    obtain ⟨k, rfl⟩ : ∃ j, k = j + 1 := ⟨k - 1, by omega⟩
    simp only [doormanlaw06_TokenTells.l0]
    rw [if_neg (by rw [List.length_map]; omega)]
  | succ n ih =>
    intro p k h hp hk
    obtain ⟨k, rfl⟩ : ∃ j, k = j + 1 := ⟨k - 1, by omega⟩
    simp only [doormanlaw06_TokenTells.l0]
    by_cases hlt : p < ts.length
    · rw [if_pos (by rw [List.length_map]; omega), if_pos (by omega), if_pos (by rw [List.length_map]; omega), rd_S ts p hlt, rd_R ts p hlt, if_pos (show (toS (ts[p]'hlt)).f0 = (toR (ts[p]'hlt)).f0 from rfl), if_pos (show (toS (ts[p]'hlt)).f1.toList = (toR (ts[p]'hlt)).f1.toList from rfl), if_pos (show (toS (ts[p]'hlt)).f2 = (toR (ts[p]'hlt)).f2 from rfl), w64 (by omega) (by omega)]
      exact ih (p + 1) k (by omega) (by omega) (by omega)
    · rw [if_neg (by rw [List.length_map]; omega)]

theorem tk_len (l : List UInt8) : ∀ p ts, tk l p = .ok ts → ts.length ≤ l.length + 1 := by
  have hc : ∀ (t : Tok) (r : R) (ts : List Tok) (n : Nat), cons t r = .ok ts → (∀ us, r = .ok us → us.length ≤ n) → ts.length ≤ n + 1 := by
    intro t r ts n h hu
    cases r with
    | error e => simp [cons] at h
    | ok us =>
      simp only [cons, Except.ok.injEq] at h
      have := hu us rfl
      rw [← h]; simp; omega
  induction l using tk_ind with
  | h0 => intro p ts h; rw [tk_nil] at h; injection h with h; rw [← h]; simp
  | hb l h hb ih =>
    intro p ts ht; rw [tk_blank h hb] at ht
    have := ih _ _ ht; have := len_ne h
    simp only [List.length_drop] at *; omega
  | hn l h ih =>
    intro p ts ht; rw [tk_note h] at ht
    have := ih _ _ ht
    simp only [List.length_drop] at *; omega
  | hsl l h h2 => intro p ts ht; rw [tk_slash h h2] at ht; injection ht
  | hs l h hs ih =>
    intro p ts ht; rw [tk_sign h hs] at ht
    have := hc _ _ _ (l.drop 1).length.succ ht (fun us hus => ih _ _ hus)
    have := len_ne h
    simp only [List.length_drop] at *; omega
  | hw l h hc2 ih =>
    intro p ts ht; rw [tk_word h hc2] at ht
    have := hc _ _ _ (l.drop (wlen l)).length.succ ht (fun us hus => ih _ _ hus)
    have := wlen_pos h; have := len_ne (may_ne h)
    simp only [List.length_drop] at *; omega
  | hlg l h hc2 => intro p ts ht; rw [tk_long h hc2] at ht; injection ht
  | ho l h h1 h2 h3 h4 => intro p ts ht; rw [tk_other h h1 h2 h3 h4] at ht; injection ht

theorem all_len {l : List UInt8} {ts : List Tok} (h : all l = .ok ts) : ts.length ≤ 2049 ∧ l.length ≤ 2048 ∧ vld l = true ∧ tk l 0 = .ok ts := by
  unfold all at h
  by_cases hl : l.length > 2048
  · rw [if_pos hl] at h; injection h
  rw [if_neg hl] at h
  by_cases hv : vld l = true
  · rw [if_pos hv] at h
    have := tk_len l 0 ts h
    exact ⟨by omega, by omega, hv, h⟩
  · rw [if_neg hv] at h; injection h

theorem tokenTells (s : ByteArray) (k : Nat) : doormanlaw06_TokenTells.f (k + (11 * 4096 + 30)) s = some true := by
  unfold doormanlaw06_TokenTells.f
  rw [TkAwake.awake, ob, if_pos rfl]
  by_cases h : (s.size : Int) > 2100
  · rw [if_pos h]
  rw [if_neg h, All_f, ob, RAll_f s _ (Or.inr (by omega)), ob, TkAwake.Key_f, RKey_f]
  have hj : ∀ (k : Nat) (x y) , doormanlaw06_TokenTells.j0 (k + 1) x y false = doormanlaw06_TokenTells.l0 k x y 0 := by
    intro k x y; simp only [doormanlaw06_TokenTells.j0]; rw [if_neg (by decide)]
  cases ha : all (L s) with
  | error e =>
    obtain ⟨e, p⟩ := e
    show (if e = e then if (p : Int) = p then if (0 : Int) = 0 then _ else _ else _ else _) = _
    rw [if_pos rfl, if_pos rfl, if_pos rfl, ob, ob, show ∀ b : Bool, (b != b) = false from by decide, show k + (11 * 4096 + 30) = (k + (11 * 4096 + 29)) + 1 by omega, hj]
    exact tells_l0 [] (by simp) 0 0 _ (by simp) (by simp) (by omega)
  | ok ts =>
    have hl := (all_len ha).1
    show (if (0 : Int) = 0 then if (0 : Int) = 0 then if ((([] ++ ts.map toS).length : Nat) : Int) = (([] ++ ts.map toR).length : Nat) then _ else _ else _ else _) = _
    rw [if_pos rfl, if_pos rfl, if_pos (by simp), ob, ob, show ∀ b : Bool, (b != b) = false from by decide, show k + (11 * 4096 + 30) = (k + (11 * 4096 + 29)) + 1 by omega, hj]
    simp only [enc, encR, List.nil_append]
    exact tells_l0 ts (by omega) 2049 0 _ (by omega) (by omega) (by omega)

theorem TokenTells : doormanlaw06_TokenTells.Pure := by
  unfold doormanlaw06_TokenTells.Pure
  intro s _
  exact ⟨_, tokenTells s 0⟩

end Go.Proofs.YtkgnhghaiopgcaaDoor.Pure
