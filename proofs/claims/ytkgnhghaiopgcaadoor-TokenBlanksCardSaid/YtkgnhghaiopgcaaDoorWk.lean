/- What the laws' walks of package token share: the callees' contracts in the document's words; no condition. -/
import Derived.Test.YtkgnhghaiopgcaaDoorTpLaws
import Derived.Test.YtkgnhghaiopgcaaDoorTkAwake
import Derived.Test.YtkgnhghaiopgcaaDoorMap
set_option linter.unusedVariables false
set_option linter.unusedSimpArgs false
namespace Go.Proofs.YtkgnhghaiopgcaaDoor.Wk
open Go.RowKit Go.Proofs.YtkgnhghaiopgcaaDoorW.PrintWords Go.Proofs.YtkgnhghaiopgcaaDoorW.PrintLast Go.Proofs.YtkgnhghaiopgcaaDoor.X Go.Proofs.YtkgnhghaiopgcaaDoor.Gl Go.Proofs.YtkgnhghaiopgcaaDoor.GlFn Go.Proofs.YtkgnhghaiopgcaaDoor.Tk Go.Proofs.YtkgnhghaiopgcaaDoor.TkFn Go.Proofs.YtkgnhghaiopgcaaDoor.Pure Go.Proofs.YtkgnhghaiopgcaaDoor.Tp

theorem awake_calls (w : World) (hK : Aside0 (Aid.KeysIn w)) :
    Calls Tryd.prog 24 #[] w fun e w' => e = .returned (.bool true) ∧ Below w.heap.size w w' :=
  doormanlaw06_awake.calls true w hK TkAwake.awake

theorem All_ok (a0 : ByteArray) (ts : List Tok) (h : all (L a0) = .ok ts) (w : World) :
    Calls Tryd.prog 25 #[.string a0] w fun e w' => ∃ A c, e = .returned (.tuple #[.slice A (ts.map toS).length c, .int .i64 0, .int .i64 0]) ∧ Kd.R k32 32 w' w.heap.size (fun _ => True) (.slice A (ts.map toS).length c) (ts.map toS) ∧ Below w.heap.size w w' := by
  have e : token_All.f a0 = some (ts.map toS, 0, 0) := by rw [All_f, h]; rfl
  refine (token_All.calls a0 _ _ _ w e).mono ?_
  rintro e w' ⟨v, rfl, hR, hb⟩
  obtain ⟨A, c, rfl⟩ := Kd.R_slice hR
  exact ⟨A, c, rfl, hR, hb⟩
theorem All_okX (a0 : ByteArray) (ts : List Tok) (X : List S32) (h : all (L a0) = .ok ts) (hX : ts.map toS = X) (w : World) :
    Calls Tryd.prog 25 #[.string a0] w fun e w' => ∃ A c, e = .returned (.tuple #[.slice A X.length c, .int .i64 0, .int .i64 0]) ∧ Kd.R k32 32 w' w.heap.size (fun _ => True) (.slice A X.length c) X ∧ Below w.heap.size w w' := by
  subst hX; exact All_ok a0 ts h w
theorem All_err (a0 : ByteArray) (en : Int) (p : Nat) (h : all (L a0) = .error (en, p)) (w : World) :
    Calls Tryd.prog 25 #[.string a0] w fun e w' => ∃ A c, e = .returned (.tuple #[.slice A 0 c, .int .i64 en, .int .i64 p]) ∧ Below w.heap.size w w' := by
  have e : token_All.f a0 = some ([], en, (p : Int)) := by rw [All_f, h]; rfl
  refine (token_All.calls a0 _ _ _ w e).mono ?_
  rintro e w' ⟨v, rfl, hR, hb⟩
  obtain ⟨A, c, rfl⟩ := Kd.R_slice hR
  exact ⟨A, c, rfl, hb⟩
theorem all_err_ne {l : List UInt8} {en : Int} {p : Nat} (h : all l = .error (en, p)) : (en = 13 ∧ 2048 < l.length) ∨ (en = 11 ∧ vld l = false ∧ p < l.length) ∨ ((en = 30 ∨ en = 31) ∧ vld l = true ∧ p < l.length) := by
  unfold all at h
  by_cases hl : l.length > 2048
  · rw [if_pos hl] at h; injection h with h; injection h with h1 h2; exact .inl ⟨h1.symm, hl⟩
  rw [if_neg hl] at h
  cases hv : vld l with
  | true =>
    rw [hv, if_pos rfl] at h
    obtain ⟨h1, h2, h3⟩ := tk_err l hv _ _ _ h
    exact .inr (.inr ⟨h1, rfl, by omega⟩)
  | false =>
    rw [hv, if_neg (by decide)] at h
    injection h with h; injection h with h1 h2
    exact .inr (.inl ⟨h1.symm, rfl, by rw [← h2]; exact brk_lt l hv⟩)
theorem All_any (a0 : ByteArray) (w : World) :
    Calls Tryd.prog 25 #[.string a0] w fun e w' => ∃ (A : Option Addr) (n c : Nat) (en p : Int), e = .returned (.tuple #[.slice A n c, .int .i64 en, .int .i64 p]) ∧ Below w.heap.size w w' := by
  cases h : all (L a0) with
  | error e =>
    refine (All_err a0 e.1 e.2 h w).mono ?_
    rintro e w' ⟨A, c, rfl, hb⟩
    exact ⟨_, _, _, _, _, rfl, hb⟩
  | ok ts =>
    refine (All_ok a0 ts h w).mono ?_
    rintro e w' ⟨A, c, rfl, _, hb⟩
    exact ⟨_, _, _, _, _, rfl, hb⟩
theorem Valid_calls (a0 : ByteArray) (r : Bool) (h : vld (L a0) = r) (w : World) :
    Calls Tryd.prog 29 #[.string a0] w fun e w' => e = .returned (.bool r) ∧ Below w.heap.size w w' :=
  glyph_Valid.calls a0 r w (by rw [Valid_f, h])
theorem Name_calls (a0 : ByteArray) (r : Bool) (hs : a0.size ≤ 140737488351232) (h : name (L a0) = r) (w : World) :
    Calls Tryd.prog 30 #[.string a0] w fun e w' => e = .returned (.bool r) ∧ Below w.heap.size w w' :=
  glyph_Name.calls a0 r w (by rw [Name_f _ hs, h])
theorem below2 {w w1 w2 : World} (h : Below w.heap.size w w1) (k : Below w1.heap.size w1 w2) : Below w.heap.size w w2 := h.trans (k.mono h.size)

end Go.Proofs.YtkgnhghaiopgcaaDoor.Wk
