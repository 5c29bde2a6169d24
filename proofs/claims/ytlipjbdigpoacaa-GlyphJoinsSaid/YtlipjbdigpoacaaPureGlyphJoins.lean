/- For every input GlyphJoins returns true: the runes of two texts, one behind the other, are as many as theirs, if the first one has no broken byte; what is cut off, and the rest, are the whole. No condition. -/
import Derived.Test.YtlipjbdigpoacaaGlAwake
import Derived.OpenShut
import Derived.Test.YtlipjbdigpoacaaX11
namespace Go.Proofs.Ytlipjbdigpoacaa.Pure
open Go.RowKit Go.Proofs.Ytlipjbdigpoacaa.X Go.Proofs.YtlipjbdigpoacaaW.PrintWords Go.Proofs.YtlipjbdigpoacaaW.PrintLast Go.Proofs.YtlipjbdigpoacaaW.PrintMore Go.Proofs.Ytlipjbdigpoacaa.Gl Go.Proofs.Ytlipjbdigpoacaa.GlFn

theorem GlyphJoins : doormanlaw02_GlyphJoins.Pure := by
  intro a b n ha hb hn
  have hn' : 0 ≤ n ∧ n ≤ 255 := bounds_u8 hn
  suffices h : ∀ k, doormanlaw02_GlyphJoins.f (k + 2) a b n = some true from ⟨_, h 0⟩
  intro k
  unfold doormanlaw02_GlyphJoins.f
  rw [GlAwake.awake]
  simp only [ob, if_true]
  by_cases h1 : (a.size : Int) > 200
  · rw [if_pos h1]; simp only [doormanlaw02_GlyphJoins.j0, if_true]
  rw [if_neg h1]
  by_cases h2 : (b.size : Int) > 200
  · rw [decide_eq_true h2]; simp only [doormanlaw02_GlyphJoins.j0, if_true]
  rw [decide_eq_false h2]
  have hS : (a ++ b).size = a.size + b.size := by rw [← L_length, L_append, List.length_append, L_length, L_length]
  obtain ⟨x, y, e1, ex, ey⟩ := Cut_f (a ++ b) n (by omega)
  have hxy : x ++ y = a ++ b := L_inj (by rw [L_append, ex, ey, List.take_append_drop])
  have hxs : x.size ≤ 400 ∧ y.size ≤ 400 := by
    have := congrArg List.length ex; have := congrArg List.length ey
    simp only [List.length_take, List.length_drop, L_length] at *; omega
  have cx : cnt (L x) = min n.toNat (cnt (L (a ++ b))) := by rw [ex]; exact cnt_take _ _
  have cy := cnt_drop n.toNat (L (a ++ b))
  rw [← ey] at cy
  have cle := cnt_le (L (a ++ b))
  rw [L_length, hS] at cle
  have j1 : doormanlaw02_GlyphJoins.j1 (k + 1) a b (cnt (L (a ++ b)) : Int) false = some true := by
    simp only [doormanlaw02_GlyphJoins.j1]
    rw [if_neg (by simp), Valid_f]
    simp only [ob]
    cases hv : vld (L a) with
    | false => simp
    | true =>
      have ca := cnt_le (L a); have cb := cnt_le (L b)
      rw [L_length] at ca cb
      obtain ⟨p, q, e2, ep, eq⟩ := Cut_f (a ++ b) (cnt (L a) : Int) (by omega)
      rw [L_append, Int.toNat_natCast, plc_append _ _ hv, List.take_left] at ep
      rw [L_append, Int.toNat_natCast, plc_append _ _ hv, List.drop_left] at eq
      obtain rfl := L_inj ep
      obtain rfl := L_inj eq
      rw [if_pos rfl, if_pos (by omega), Count_f _ ha]
      simp only [ob]
      rw [e2]
      simp only [ob]
      rw [Count_f _ hb]
      simp only [ob]
      rw [w64 (by omega) (by omega), if_pos (by rw [L_append, cnt_append _ _ hv]; omega)]
      simp only [if_true]
      rw [Valid_f, Valid_f]
      simp only [ob]
      rw [L_append, vld_append _ _ hv]
      simp
  simp only [doormanlaw02_GlyphJoins.j0]
  rw [if_neg (by simp), if_pos (by omega), w64 (by omega) (by omega), e1, Count_f _ (by omega)]
  simp only [ob]
  rw [if_pos (by omega), hxy, if_pos rfl, Count_f x (by omega)]
  simp only [ob]
  rw [if_pos (by rw [cx]; unfold mn; split <;> omega), Count_f y (by omega)]
  simp only [ob]
  rw [show (wrap64 ((cnt (L x) : Int) + (cnt (L y) : Int)) != (cnt (L (a ++ b)) : Int)) = false by
    rw [w64 (by omega) (by omega), bne_eq_false_iff_eq]; omega]
  exact j1

end Go.Proofs.Ytlipjbdigpoacaa.Pure
