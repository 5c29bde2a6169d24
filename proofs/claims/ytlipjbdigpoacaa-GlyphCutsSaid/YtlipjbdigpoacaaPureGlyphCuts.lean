/- For every input GlyphCuts returns true: cut after some runes, and the rest after some more, is cut after both; each rune that is cut off counts as one. No condition. -/
import Derived.Test.YtlipjbdigpoacaaGlAwake
import Derived.OpenShut
import Derived.Test.YtlipjbdigpoacaaX14
set_option linter.unusedSimpArgs false
namespace Go.Proofs.Ytlipjbdigpoacaa.Pure
open Go.RowKit Go.Proofs.Ytlipjbdigpoacaa.X Go.Proofs.YtlipjbdigpoacaaW.PrintWords Go.Proofs.YtlipjbdigpoacaaW.PrintLast Go.Proofs.YtlipjbdigpoacaaW.PrintMore Go.Proofs.Ytlipjbdigpoacaa.Gl Go.Proofs.Ytlipjbdigpoacaa.GlFn

theorem one_rune {l : List UInt8} (h : l ≠ []) : plc l 1 = stp l ∧ cnt (l.take (stp l)) = 1 := by
  have e : plc l 1 = stp l := by rw [plc_succ _ h, plc_zero]; rfl
  refine ⟨e, ?_⟩
  have := cnt_take 1 l
  rw [e, cnt_step l h] at this
  omega

theorem cuts_l0 (s : ByteArray) (hs : s.size ≤ 200) : ∀ (d k : Nat) (i : Int) (t : ByteArray), t.size = d → t.size < k → t.size ≤ 200 → 0 ≤ i → i + cnt (L t) = cnt (L s) → i + d ≤ 200 →
    doormanlaw02_GlyphCuts.l0 k s i t = some true := by
  intro d
  induction d using Nat.strongRecOn with
  | _ d ih =>
    intro k i t hd hk ht hi hc hid
    obtain ⟨k, rfl⟩ : ∃ m, k = m + 1 := ⟨k - 1, by omega⟩
    simp only [doormanlaw02_GlyphCuts.l0]
    rw [toL]
    by_cases h : L t = []
    · rw [if_pos h, Count_f s (by omega)]
      simp only [ob]
      rw [h, cnt_nil] at hc
      simp only [Option.some.injEq, beq_iff_eq]; omega
    · rw [if_neg h]
      obtain ⟨x, y, e, ex, ey⟩ := Cut_f t 1 (by omega)
      obtain ⟨e1, e2⟩ := one_rune h
      rw [show (1 : Int).toNat = 1 from rfl, e1] at ex ey
      have hs1 := stp_pos (L t); have hs2 := stp_le (L t) h
      rw [L_length] at hs2
      rw [e]
      simp only [ob]
      have szx : x.size = stp (L t) := by rw [← L_length, ex, List.length_take, L_length]; omega
      have szy : y.size = t.size - stp (L t) := by rw [← L_length, ey, List.length_drop, L_length]
      rw [toL, if_neg (by intro e; have := congrArg List.length e; rw [L_length, List.length_nil] at this; omega), Count_f x (by omega), ex, e2]
      simp only [ob]
      rw [if_pos (by rfl), w64 (by omega) (by omega)]
      have hcs := cnt_step (L t) h
      rw [← ey] at hcs
      exact ih y.size (by omega) k (i + 1) y rfl (by omega) (by omega) (by omega) (by omega) (by omega)

theorem GlyphCuts : doormanlaw02_GlyphCuts.Pure := by
  intro s a b hs ha hb
  have ha' : 0 ≤ a ∧ a ≤ 255 := bounds_u8 ha
  have hb' : 0 ≤ b ∧ b ≤ 255 := bounds_u8 hb
  refine ⟨s.size + 2, ?_⟩
  unfold doormanlaw02_GlyphCuts.f
  rw [GlAwake.awake]
  simp only [ob, if_true]
  by_cases h1 : (s.size : Int) > 200
  · rw [if_pos h1]
  rw [if_neg h1, w64 (i := a) (by omega) (by omega), w64 (i := b) (by omega) (by omega), w64 (i := a + b) (by omega) (by omega)]
  obtain ⟨x, y, e1, ex, ey⟩ := Cut_f s a hs
  have hL : (L s).length = s.size := L_length s
  have szx : x.size ≤ 200 := by rw [← L_length, ex, List.length_take, hL]; omega
  have szy : y.size ≤ 200 := by rw [← L_length, ey, List.length_drop, hL]; omega
  obtain ⟨p, q, e2, ep, eq⟩ := Cut_f y b (by omega)
  have szp : p.size ≤ 200 := by rw [← L_length, ep, List.length_take, L_length]; omega
  obtain ⟨m, n, e3, em, en⟩ := Cut_f s (a + b) hs
  obtain ⟨u, v, e4, eu, ev⟩ := Cut_f s (-1) hs
  rw [e1]; simp only [ob]
  rw [e2]; simp only [ob]
  rw [e3]; simp only [ob]
  rw [e4]; simp only [ob]
  have hab : (a + b).toNat = a.toNat + b.toNat := by omega
  have padd := plc_add a.toNat b.toNat (L s)
  have exp : x ++ p = m := L_inj (by
    rw [L_append, ex, ep, ey, em, hab, padd, ← List.take_add])
  have eqn : q = n := L_inj (by rw [eq, ey, en, hab, padd, List.drop_drop])
  have eu' : L u = [] := by rw [eu]; simp [plc_zero]
  have ev' : L v = L s := by rw [ev]; simp [plc_zero]
  rw [if_pos (by omega), exp, if_pos rfl, eqn, if_pos rfl, toL, eu', if_pos rfl, toL, toL, ev', bne_self_eq_false]
  simp only [doormanlaw02_GlyphCuts.j0]
  rw [if_neg (by simp)]
  exact cuts_l0 s (by omega) s.size _ 0 s rfl (by omega) (by omega) (by omega) (by omega) (by omega)

end Go.Proofs.Ytlipjbdigpoacaa.Pure
