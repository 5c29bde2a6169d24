/- For every input GlyphWhere returns true: places move on by one column a rune, and by a line behind a newline; all places ahead of a text are its first one, all behind it its end. No condition. -/
import Derived.Test.YtlipjbdigpoacaaGlAwake
import Derived.OpenShut
import Derived.Test.YtlipjbdigpoacaaX14
set_option linter.unusedSimpArgs false
namespace Go.Proofs.Ytlipjbdigpoacaa.Pure
open Go.RowKit Go.Proofs.Ytlipjbdigpoacaa.X Go.Proofs.YtlipjbdigpoacaaW.PrintWords Go.Proofs.YtlipjbdigpoacaaW.PrintLast Go.Proofs.YtlipjbdigpoacaaW.PrintMore Go.Proofs.Ytlipjbdigpoacaa.Gl Go.Proofs.Ytlipjbdigpoacaa.GlFn

theorem whr_bd (l : List UInt8) : ∀ (a : Int) (p : Nat) (x y : Int), 1 ≤ x → 1 ≤ y → 1 ≤ (whr l a p x y).1 ∧ (whr l a p x y).1 ≤ x + l.length ∧ 1 ≤ (whr l a p x y).2 ∧ (whr l a p x y).2 ≤ y + l.length := by
  induction l using runes_ind with
  | h0 => intro a p x y hx hy; rw [whr_nil]; simp only [List.length_nil]; omega
  | h1 l h ih =>
    intro a p x y hx hy
    have h1 := stp_pos l; have h2 := stp_le l h
    rw [whr_step l h]
    have i1 := ih a (p + stp l) (x + 1) 1 (by omega) (by omega)
    have i2 := ih a (p + stp l) x (y + 1) (by omega) (by omega)
    simp only [List.length_drop] at i1 i2
    split
    · simp only; omega
    · split <;> omega

theorem whr_far (l : List UInt8) : ∀ (a b : Int) (p : Nat) (x y : Int), (p : Int) + l.length ≤ a → (p : Int) + l.length ≤ b → whr l a p x y = whr l b p x y := by
  induction l using runes_ind with
  | h0 => intro a b p x y _ _; rw [whr_nil, whr_nil]
  | h1 l h ih =>
    intro a b p x y ha hb
    have h1 := stp_pos l; have h2 := stp_le l h
    have : l.length ≠ 0 := by simpa using h
    rw [whr_step l h a, whr_step l h b, if_neg (show ¬ a ≤ (p : Int) by omega), if_neg (show ¬ b ≤ (p : Int) by omega)]
    have hl : ((l.drop (stp l)).length : Int) = l.length - stp l := by simp only [List.length_drop]; omega
    rw [ih a b (p + stp l) (x + 1) 1 (by omega) (by omega), ih a b (p + stp l) x (y + 1) (by omega) (by omega)]

theorem whr_at (l : List UInt8) (p : Nat) (x y : Int) : whr l p p x y = (x, y) := by
  by_cases h : l = []
  · subst h; exact whr_nil _ _ _ _
  · rw [whr_step l h, if_pos (by omega)]

theorem whr_next (l : List UInt8) : ∀ (k p : Nat) (x y : Int), vld l = true → k < l.length → vld (l.drop k) = true →
    whr l ((p + k + stp (l.drop k) : Nat) : Int) p x y = if (l.drop k).getD 0 0 = 10 then ((whr l ((p + k : Nat) : Int) p x y).1 + 1, 1) else ((whr l ((p + k : Nat) : Int) p x y).1, (whr l ((p + k : Nat) : Int) p x y).2 + 1) := by
  induction l using runes_ind with
  | h0 => intro k p x y _ hk; simp at hk
  | h1 l h ih =>
    intro k p x y hv hk hvk
    have h1 := stp_pos l; have h2 := stp_le l h
    obtain ⟨hr, hv'⟩ := vld_head hv h
    by_cases h0 : k = 0
    · subst h0
      rw [Nat.add_zero, whr_at, List.drop_zero, whr_step l h, if_neg (by omega)]
      split <;> exact whr_at _ _ _ _
    · have hs : stp l = rlen l := by unfold stp; rw [if_neg hr]
      have hge : stp l ≤ k := by
        false_or_by_contra
        have := inside_broken l k (by omega) (by omega)
        have hne : l.drop k ≠ [] := by
          intro e; have := congrArg List.length e; simp only [List.length_drop, List.length_nil] at this; omega
        exact (vld_head hvk hne).1 this
      obtain ⟨j, rfl⟩ : ∃ j, k = stp l + j := ⟨k - stp l, by omega⟩
      have hd : l.drop (stp l + j) = (l.drop (stp l)).drop j := by rw [List.drop_drop]
      rw [hd] at hvk ⊢
      have ih1 := ih j (p + stp l) (x + 1) 1 hv' (by simp only [List.length_drop]; omega) hvk
      have ih2 := ih j (p + stp l) x (y + 1) hv' (by simp only [List.length_drop]; omega) hvk
      rw [show p + stp l + j = p + (stp l + j) by omega] at ih1 ih2
      rw [whr_step l h ((p + (stp l + j) + stp ((l.drop (stp l)).drop j) : Nat) : Int), whr_step l h ((p + (stp l + j) : Nat) : Int), if_neg (show ¬ ((p + (stp l + j) + stp ((l.drop (stp l)).drop j) : Nat) : Int) ≤ (p : Int) by omega), if_neg (show ¬ ((p + (stp l + j) : Nat) : Int) ≤ (p : Int) by omega)]
      by_cases hc : l.getD 0 0 = 10
      · simp only [if_pos hc]; exact ih1
      · simp only [if_neg hc]; exact ih2

theorem GlyphWhere : doormanlaw02_GlyphWhere.Pure := by
  intro s n hs hn
  have hn' : 0 ≤ n ∧ n ≤ 255 := bounds_u8 hn
  suffices h : ∀ k, doormanlaw02_GlyphWhere.f (k + 2) s n = some true from ⟨_, h 0⟩
  intro k
  unfold doormanlaw02_GlyphWhere.f
  rw [GlAwake.awake]
  simp only [ob, if_true]
  by_cases h1 : (s.size : Int) > 200
  · rw [if_pos h1]
  rw [if_neg h1]
  rw [w64 (i := (s.size : Int) + 1) (by omega) (by omega), w64 (i := n) (by omega) (by omega), if_neg (by omega), Where_f s _ hs]
  obtain ⟨j, hj⟩ : ∃ j : Nat, Int.tmod n ((s.size : Int) + 1) = j := by
    obtain ⟨m, rfl⟩ := Int.eq_ofNat_of_zero_le hn'.1
    refine ⟨m % (s.size + 1), ?_⟩
    rw [Int.tmod_eq_emod_of_nonneg (by omega)]; norm_cast
  have hjs : j ≤ s.size := by
    have := Int.tmod_lt_of_pos n (show 0 < (s.size : Int) + 1 by omega)
    omega
  rw [hj]
  simp only [ob]
  have hL : (L s).length = s.size := L_length s
  have szd : (s.extract j s.size).size = s.size - j := by
    rw [← L_length, L_extract, List.length_take, List.length_drop, hL]; omega
  have exd : L (s.extract j s.size) = (L s).drop j := by
    rw [L_extract]; exact List.take_of_length_le (by rw [List.length_drop, hL]; omega)
  rw [if_pos (by omega), if_pos (by omega), Int.toNat_natCast]
  obtain ⟨a, b, e1, ea, eb⟩ := Cut_f (s.extract j s.size) 1 (by omega)
  rw [exd] at ea eb
  rw [e1]
  simp only [ob]
  have hp1 : (1 : Int).toNat = 1 := rfl
  rw [hp1] at ea eb
  have hple := plc_le 1 ((L s).drop j)
  rw [List.length_drop, hL] at hple
  have sza : a.size = plc ((L s).drop j) 1 := by
    rw [← L_length, ea, List.length_take, List.length_drop, hL]; omega
  have szb : b.size = s.size - j - plc ((L s).drop j) 1 := by
    rw [← L_length, eb, List.length_drop, List.length_drop, hL]
  rw [w64 (i := (j : Int) + (a.size : Int)) (by omega) (by omega), Where_f s _ hs]
  simp only [ob]
  rw [Where_f s _ hs]
  simp only [ob]
  rw [w64 (i := (s.size : Int) + 9) (by omega) (by omega), Where_f s _ hs]
  simp only [ob]
  rw [Where_f s _ hs]
  simp only [ob]
  have w0 : whr (L s) (-3) 0 1 1 = (1, 1) := by
    by_cases h : L s = []
    · rw [h, whr_nil]
    · rw [whr_step _ h, if_pos (by omega)]
  have w9 : whr (L s) ((s.size : Int) + 9) 0 1 1 = whr (L s) (s.size : Int) 0 1 1 := whr_far _ _ _ _ _ _ (by rw [hL]; omega) (by rw [hL]; omega)
  rw [w0, w9]
  simp only [if_true]
  have hb : (wrap64 ((a.size : Int) + (b.size : Int)) != wrap64 ((s.size : Int) - (j : Int))) = false := by
    rw [w64 (by omega) (by omega), w64 (by omega) (by omega), bne_eq_false_iff_eq]; omega
  rw [hb]
  simp only [doormanlaw02_GlyphWhere.j0]
  rw [if_neg (by simp), toL]
  by_cases ha : L a = []
  · rw [if_pos ha]; simp only [doormanlaw02_GlyphWhere.j1, if_true]
  rw [if_neg ha, Valid_f]
  simp only [ob]
  cases hv : vld (L s) with
  | false => rw [if_neg (by simp)]; simp only [doormanlaw02_GlyphWhere.j1, if_true]
  | true =>
    rw [if_pos rfl, if_pos (by omega), if_pos (by omega), Int.toNat_natCast, Valid_f, exd]
    simp only [ob]
    cases hv2 : vld ((L s).drop j) with
    | false => simp only [Bool.not_false, doormanlaw02_GlyphWhere.j1, if_true]
    | true =>
      simp only [Bool.not_true, doormanlaw02_GlyphWhere.j1]
      rw [if_neg (by simp)]
      have hjl : j < s.size := by
        false_or_by_contra
        apply ha
        have : (L s).drop j = [] := List.drop_eq_nil_of_le (by rw [hL]; omega)
        rw [ea, this]; rfl
      have hne : (L s).drop j ≠ [] := drop_ne hjl
      have hpl : plc ((L s).drop j) 1 = stp ((L s).drop j) := by rw [plc_succ _ hne, plc_zero]; rfl
      have nx := whr_next (L s) j 0 1 1 hv (by rw [hL]; exact hjl) hv2
      rw [Nat.zero_add] at nx
      have bd := whr_bd (L s) (j : Int) 0 1 1 (by omega) (by omega)
      rw [hL] at bd
      rw [sza, hpl, show ((j : Int) + ((stp ((L s).drop j) : Nat) : Int)) = ((j + stp ((L s).drop j) : Nat) : Int) by omega, nx, toL, ea, hpl]
      have hten : (((L s).drop j).take (stp ((L s).drop j)) = [10]) ↔ ((L s).drop j).getD 0 0 = 10 := by
        have hs1 := stp_pos ((L s).drop j)
        obtain ⟨c, r, hcr⟩ := List.exists_cons_of_ne_nil hne
        constructor
        · intro h
          rw [hcr] at h ⊢
          obtain ⟨m, hm⟩ : ∃ m, stp (c :: r) = m + 1 := ⟨stp (c :: r) - 1, by rw [hcr] at hs1; omega⟩
          rw [hm, List.take_succ_cons] at h
          exact (List.cons.inj h).1
        · intro h
          have h1 : rlen ((L s).drop j) = 1 := by
            unfold rlen
            rw [if_neg (fun e => hne (List.eq_nil_of_length_eq_zero e)), h, if_pos (by decide)]
          have h2 : stp ((L s).drop j) = 1 := by unfold stp; rw [h1]; rfl
          rw [h2]; rw [hcr] at h ⊢
          have : c = 10 := h
          rw [this]; rfl
      by_cases ht : ((L s).drop j).getD 0 0 = 10
      · rw [if_pos (hten.mpr ht), if_pos ht, w64 (by omega) (by omega), if_pos rfl]; rfl
      · rw [if_neg (fun h => ht (hten.mp h)), if_neg ht, if_pos rfl, w64 (by omega) (by omega)]
        simp

end Go.Proofs.Ytlipjbdigpoacaa.Pure
