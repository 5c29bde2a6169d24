/- Keys, and the contract of the tokens in the document's words, for the packages above; no condition. -/
import Derived.Test.YtkgnhghaiopgcaaDoorTk
import Derived.Test.YtkgnhghaiopgcaaDoorX5
import Derived.Test.YtkgnhghaiopgcaaDoorMap
set_option linter.unusedSimpArgs false
set_option linter.unusedVariables false
namespace Go.Proofs.YtkgnhghaiopgcaaDoor.TkKey
open Go.RowKit Go.Proofs.YtkgnhghaiopgcaaDoorW.PrintWords Go.Proofs.YtkgnhghaiopgcaaDoorW.PrintLast Go.Proofs.YtkgnhghaiopgcaaDoor.X Go.Proofs.YtkgnhghaiopgcaaDoor.Aid Go.Proofs.YtkgnhghaiopgcaaDoor.Gl Go.Proofs.YtkgnhghaiopgcaaDoor.GlFn Go.Proofs.YtkgnhghaiopgcaaDoor.Tk Go.Proofs.YtkgnhghaiopgcaaDoor.TkFn Go.Proofs.YtkgnhghaiopgcaaDoor.Tp

/-- Is it a key? -/
def key (l : List UInt8) : Bool := decide (l = [116, 121, 112, 101] ∨ l = [114, 101, 108] ∨ l = [105, 115] ∨ l = [116, 104, 105, 115])

theorem Key_f (s : ByteArray) : token_Key.f s = some (key (L s)) := by
  unfold token_Key.f slices_Contains_string_string.f slices_Index_string_string.f keysL key
  have w1 : wrap64 ((0 : Int) + 1) = 1 := w64 (by decide) (by decide)
  have w2 : wrap64 ((1 : Int) + 1) = 2 := w64 (by decide) (by decide)
  have w3 : wrap64 ((2 : Int) + 1) = 3 := w64 (by decide) (by decide)
  have w4 : wrap64 ((3 : Int) + 1) = 4 := w64 (by decide) (by decide)
  simp only [slices_Index_string_string.l0, toL, List.length_cons, List.length_nil, w1, w2, w3, w4]
  have k0 : L (rdOf ByteArray.empty [⟨#[116, 121, 112, 101]⟩, ⟨#[114, 101, 108]⟩, ⟨#[105, 115]⟩, ⟨#[116, 104, 105, 115]⟩] 0) = [116, 121, 112, 101] := rfl
  have k1 : L (rdOf ByteArray.empty [⟨#[116, 121, 112, 101]⟩, ⟨#[114, 101, 108]⟩, ⟨#[105, 115]⟩, ⟨#[116, 104, 105, 115]⟩] 1) = [114, 101, 108] := rfl
  have k2 : L (rdOf ByteArray.empty [⟨#[116, 121, 112, 101]⟩, ⟨#[114, 101, 108]⟩, ⟨#[105, 115]⟩, ⟨#[116, 104, 105, 115]⟩] 2) = [105, 115] := rfl
  have k3 : L (rdOf ByteArray.empty [⟨#[116, 121, 112, 101]⟩, ⟨#[114, 101, 108]⟩, ⟨#[105, 115]⟩, ⟨#[116, 104, 105, 115]⟩] 3) = [116, 104, 105, 115] := rfl
  rw [k0, k1, k2, k3]
  by_cases h0 : L s = [116, 121, 112, 101]
  · rw [h0]; decide
  by_cases h1 : L s = [114, 101, 108]
  · rw [h1]; decide
  by_cases h2 : L s = [105, 115]
  · rw [h2]; decide
  by_cases h3 : L s = [116, 104, 105, 115]
  · rw [h3]; decide
  simp [h0, h1, h2, h3]

theorem rd_S (ts : List Tok) (i : Nat) (h : i < ts.length) : rd_T32 (ts.map toS) (i : Int) = toS (ts[i]'h) := by
  unfold rd_T32
  rw [Int.toNat_natCast, List.getD_eq_getElem?_getD, List.getElem?_map, List.getElem?_eq_getElem h]; rfl

theorem tk_len (l : List UInt8) : ∀ p ts, tk l p = .ok ts → ts.length ≤ l.length + 1 := by
  have hc : ∀ (t : Tok) (r : R) (ts : List Tok) (n : Nat), cons t r = .ok ts → (∀ us, r = .ok us → us.length ≤ n) → ts.length ≤ n + 1 := by
    intro t r ts n h hu
    cases r with
    | error e => simp [cons] at h
    | ok us =>
      simp only [cons, Except.ok.injEq] at h
      have := hu us rfl
      rw [← h]; simp; omega
  induction l using tk_ind with
  | h0 => intro p ts h; rw [tk_nil] at h; injection h with h; rw [← h]; simp
  | hb l h hb ih =>
    intro p ts ht; rw [tk_blank h hb] at ht
    have := ih _ _ ht; have := len_ne h
    simp only [List.length_drop] at *; omega
  | hn l h ih =>
    intro p ts ht; rw [tk_note h] at ht
    have := ih _ _ ht
    simp only [List.length_drop] at *; omega
  | hsl l h h2 => intro p ts ht; rw [tk_slash h h2] at ht; injection ht
  | hs l h hs ih =>
    intro p ts ht; rw [tk_sign h hs] at ht
    have := hc _ _ _ (l.drop 1).length.succ ht (fun us hus => ih _ _ hus)
    have := len_ne h
    simp only [List.length_drop] at *; omega
  | hw l h hc2 ih =>
    intro p ts ht; rw [tk_word h hc2] at ht
    have := hc _ _ _ (l.drop (wlen l)).length.succ ht (fun us hus => ih _ _ hus)
    have := wlen_pos h; have := len_ne (may_ne h)
    simp only [List.length_drop] at *; omega
  | hlg l h hc2 => intro p ts ht; rw [tk_long h hc2] at ht; injection ht
  | ho l h h1 h2 h3 h4 => intro p ts ht; rw [tk_other h h1 h2 h3 h4] at ht; injection ht


theorem all_len {l : List UInt8} {ts : List Tok} (h : all l = .ok ts) : ts.length ≤ 2049 ∧ l.length ≤ 2048 ∧ vld l = true ∧ tk l 0 = .ok ts := by
  unfold all at h
  by_cases hl : l.length > 2048
  · rw [if_pos hl] at h; injection h
  rw [if_neg hl] at h
  by_cases hv : vld l = true
  · rw [if_pos hv] at h
    have := tk_len l 0 ts h
    exact ⟨by omega, by omega, hv, h⟩
  · rw [if_neg hv] at h; injection h


theorem All_ok (a0 : ByteArray) (ts : List Tok) (h : all (L a0) = .ok ts) (w : World) :
    Calls Tryd.prog 25 #[.string a0] w fun e w' => ∃ A c, e = .returned (.tuple #[.slice A (ts.map toS).length c, .int .i64 0, .int .i64 0]) ∧ Kd.R k32 32 w' w.heap.size (fun _ => True) (.slice A (ts.map toS).length c) (ts.map toS) ∧ Below w.heap.size w w' := by
  have e : token_All.f a0 = some (ts.map toS, 0, 0) := by rw [All_f, h]; rfl
  refine (token_All.calls a0 _ _ _ w e).mono ?_
  rintro e w' ⟨v, rfl, hR, hb⟩
  obtain ⟨A, c, rfl⟩ := Kd.R_slice hR
  exact ⟨A, c, rfl, hR, hb⟩
theorem All_okX (a0 : ByteArray) (ts : List Tok) (X : List S32) (h : all (L a0) = .ok ts) (hX : ts.map toS = X) (w : World) :
    Calls Tryd.prog 25 #[.string a0] w fun e w' => ∃ A c, e = .returned (.tuple #[.slice A X.length c, .int .i64 0, .int .i64 0]) ∧ Kd.R k32 32 w' w.heap.size (fun _ => True) (.slice A X.length c) X ∧ Below w.heap.size w w' := by
  subst hX; exact All_ok a0 ts h w
theorem All_err (a0 : ByteArray) (en : Int) (p : Nat) (h : all (L a0) = .error (en, p)) (w : World) :
    Calls Tryd.prog 25 #[.string a0] w fun e w' => ∃ A c, e = .returned (.tuple #[.slice A 0 c, .int .i64 en, .int .i64 p]) ∧ Below w.heap.size w w' := by
  have e : token_All.f a0 = some ([], en, (p : Int)) := by rw [All_f, h]; rfl
  refine (token_All.calls a0 _ _ _ w e).mono ?_
  rintro e w' ⟨v, rfl, hR, hb⟩
  obtain ⟨A, c, rfl⟩ := Kd.R_slice hR
  exact ⟨A, c, rfl, hb⟩
theorem all_err_ne {l : List UInt8} {en : Int} {p : Nat} (h : all l = .error (en, p)) : (en = 13 ∧ 2048 < l.length) ∨ (en = 11 ∧ vld l = false ∧ p < l.length) ∨ ((en = 30 ∨ en = 31) ∧ vld l = true ∧ p < l.length) := by
  unfold all at h
  by_cases hl : l.length > 2048
  · rw [if_pos hl] at h; injection h with h; injection h with h1 h2; exact .inl ⟨h1.symm, hl⟩
  rw [if_neg hl] at h
  cases hv : vld l with
  | true =>
    rw [hv, if_pos rfl] at h
    obtain ⟨h1, h2, h3⟩ := tk_err l hv _ _ _ h
    exact .inr (.inr ⟨h1, rfl, by omega⟩)
  | false =>
    rw [hv, if_neg (by decide)] at h
    injection h with h; injection h with h1 h2
    exact .inr (.inl ⟨h1.symm, rfl, by rw [← h2]; exact brk_lt l hv⟩)
theorem below2 {w w1 w2 : World} (h : Below w.heap.size w w1) (k : Below w1.heap.size w1 w2) : Below w.heap.size w w2 := h.trans (k.mono h.size)


end Go.Proofs.YtkgnhghaiopgcaaDoor.TkKey
