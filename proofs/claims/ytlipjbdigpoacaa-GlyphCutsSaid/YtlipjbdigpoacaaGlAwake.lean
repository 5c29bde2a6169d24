/- The law package's examples of layer 2 hold; plain Lean; no condition. -/
import Derived.Test.YtlipjbdigpoacaaGlFn
import Derived.Test.YtlipjbdigpoacaaX8
namespace Go.Proofs.Ytlipjbdigpoacaa.GlAwake
open Go.RowKit Go.Proofs.YtlipjbdigpoacaaW.PrintWords Go.Proofs.Ytlipjbdigpoacaa.X Go.Proofs.Ytlipjbdigpoacaa.Gl Go.Proofs.Ytlipjbdigpoacaa.GlFn

theorem vld_go {l m : List UInt8} (n : Nat) (h : l ≠ []) (hr : rlen l = n + 1) (hm : l.drop (n + 1) = m) : vld l = vld m := by
  rw [vld_step l h, if_neg (by omega), show stp l = n + 1 by (unfold stp; rw [hr]; rfl), hm]
theorem cnt_go {l m : List UInt8} (n : Nat) (h : l ≠ []) (hr : stp l = n) (hm : l.drop n = m) : cnt l = 1 + cnt m := by
  rw [cnt_step l h, hr, hm]
theorem mays_go {l m : List UInt8} (n : Nat) (h : l ≠ []) (hr : stp l = n) (hm : l.drop n = m) : mays l = (may l && mays m) := by
  rw [mays_step l h, hr, hm]

theorem awake : doormanlaw02_awake.f = some true := by
  unfold doormanlaw02_awake.f
  have hw : whr (L ⟨#[97, 10, 195, 169, 98]⟩) 4 0 1 1 = (2, 2) := by
    show whr [97, 10, 195, 169, 98] 4 0 1 1 = (2, 2)
    rw [whr_step _ (by simp), if_neg (by decide), if_neg (by decide)]
    show whr [10, 195, 169, 98] 4 1 1 2 = (2, 2)
    rw [whr_step _ (by simp), if_neg (by decide), if_pos (by decide)]
    show whr [195, 169, 98] 4 2 2 1 = (2, 2)
    rw [whr_step _ (by simp), if_neg (by decide), if_neg (by decide)]
    show whr [98] 4 4 2 2 = (2, 2)
    rw [whr_step _ (by simp), if_pos (by decide)]
  have hp : plc (L ⟨#[195, 169, 98, 99]⟩) (2 : Int).toNat = 3 := by decide
  obtain ⟨x, y, e, ex, ey⟩ := Cut_f ⟨#[195, 169, 98, 99]⟩ 2 (by decide)
  have ex' : x.toList = [195, 169, 98] := by rw [toL, ex, hp]; rfl
  have ey' : y.toList = [99] := by rw [toL, ey, hp]; rfl
  have v1 : vld (L ⟨#[97, 195, 169]⟩) = true := by
    show vld [97, 195, 169] = true
    rw [vld_go (m := [195, 169]) 0 (by simp) (by decide) rfl, vld_go (m := []) 1 (by simp) (by decide) rfl, vld_nil]
  have v2 : vld (L ⟨#[97, 195]⟩) = false := by
    show vld [97, 195] = false
    rw [vld_go (m := [195]) 0 (by simp) (by decide) rfl, vld_step _ (by simp), if_pos (by decide)]
  have c1 : cnt (L ⟨#[97, 195, 169]⟩) = 2 := by
    show cnt [97, 195, 169] = 2
    rw [cnt_go (m := [195, 169]) 1 (by simp) (by decide) rfl, cnt_go (m := []) 2 (by simp) (by decide) rfl, cnt_nil]
  have n1 : name (L ⟨#[97, 195, 169]⟩) = true := by
    unfold name; rw [c1]
    show (mays [97, 195, 169] && _) = true
    rw [mays_go (m := [195, 169]) 1 (by simp) (by decide) rfl, mays_go (m := []) 2 (by simp) (by decide) rfl, mays_nil]; decide
  have n2 : name (L ⟨#[97, 45, 98]⟩) = false := by
    unfold name
    show (mays [97, 45, 98] && _) = false
    rw [mays_go (m := [45, 98]) 1 (by simp) (by decide) rfl, mays_go (m := [98]) 1 (by simp) (by decide) rfl]
    rw [show may [45, 98] = false by decide]; simp
  have n3 : name (L ⟨#[]⟩) = false := by
    unfold name
    show (_ && (decide (0 < cnt []) && _)) = false
    rw [cnt_nil]; simp
  rw [Where_f _ _ (by decide), hw, e, Valid_f, Valid_f, v1, v2, Count_f _ (by decide), c1, Name_f _ (by decide), Name_f _ (by decide), Name_f _ (by decide), n1, n2, n3]
  simp [ex', ey']

end Go.Proofs.Ytlipjbdigpoacaa.GlAwake
