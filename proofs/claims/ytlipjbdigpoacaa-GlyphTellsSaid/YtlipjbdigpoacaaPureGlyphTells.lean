/- For every input GlyphTells returns true: whether any text has no broken byte, how many runes it has, whether it is a name, its first runes, and the line and column of any place, are the document's. No condition. -/
import Derived.Test.YtlipjbdigpoacaaGlAwake
import Derived.Test.YtlipjbdigpoacaaGlRef
import Derived.Test.YtlipjbdigpoacaaX11
namespace Go.Proofs.Ytlipjbdigpoacaa.Pure
open Go.RowKit Go.Proofs.Ytlipjbdigpoacaa.X Go.Proofs.YtlipjbdigpoacaaW.PrintWords Go.Proofs.YtlipjbdigpoacaaW.PrintLast Go.Proofs.Ytlipjbdigpoacaa.Gl Go.Proofs.Ytlipjbdigpoacaa.GlFn Go.Proofs.Ytlipjbdigpoacaa.GlRef

theorem GlyphTells : doormanlaw02_GlyphTells.Pure := by
  intro s n a hs _ _
  refine ⟨2 * s.size + 20, ?_⟩
  unfold doormanlaw02_GlyphTells.f
  rw [GlAwake.awake]
  simp only [ob, if_true]
  by_cases h : (s.size : Int) > 400
  · rw [if_pos h]
  rw [if_neg h]
  obtain ⟨x, y, e1, ex, ey⟩ := Cut_f s n hs
  obtain ⟨u, v, e2, eu, ev⟩ := RCut_f s n (2 * s.size + 20) hs (by omega)
  rw [e1, e2, Where_f s a hs, RWhere_f s a _ hs (by omega), Valid_f, RValid_f s _ hs (by omega), Count_f s hs, RCount_f s _ hs (by omega), Name_f s hs, RName_f s _ hs (by omega)]
  obtain rfl : x = u := L_inj (ex.trans eu.symm)
  obtain rfl : y = v := L_inj (ey.trans ev.symm)
  simp

end Go.Proofs.Ytlipjbdigpoacaa.Pure
