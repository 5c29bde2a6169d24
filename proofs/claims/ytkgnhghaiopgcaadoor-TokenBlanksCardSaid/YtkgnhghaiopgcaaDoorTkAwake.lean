/- The law package's examples of layer 6 hold; keys; plain Lean; no condition. -/
import Derived.Test.YtkgnhghaiopgcaaDoorTkFn
import Derived.Test.YtkgnhghaiopgcaaDoorX6
import Derived.Test.YtkgnhghaiopgcaaDoorX5
set_option linter.unusedSimpArgs false
set_option linter.unusedVariables false
set_option linter.unusedSimpArgs false
namespace Go.Proofs.YtkgnhghaiopgcaaDoor.TkAwake
open Go.RowKit Go.Proofs.YtkgnhghaiopgcaaDoorW.PrintWords Go.Proofs.YtkgnhghaiopgcaaDoor.X Go.Proofs.YtkgnhghaiopgcaaDoor.Aid Go.Proofs.YtkgnhghaiopgcaaDoor.Gl Go.Proofs.YtkgnhghaiopgcaaDoor.GlFn Go.Proofs.YtkgnhghaiopgcaaDoor.Tk Go.Proofs.YtkgnhghaiopgcaaDoor.TkFn

/-- Is it a key? -/
def key (l : List UInt8) : Bool := decide (l = [116, 121, 112, 101] ∨ l = [114, 101, 108] ∨ l = [105, 115] ∨ l = [116, 104, 105, 115])

theorem Key_f (s : ByteArray) : token_Key.f s = some (key (L s)) := by
  unfold token_Key.f slices_Contains_string_string.f slices_Index_string_string.f keysL key
  have w1 : wrap64 ((0 : Int) + 1) = 1 := w64 (by decide) (by decide)
  have w2 : wrap64 ((1 : Int) + 1) = 2 := w64 (by decide) (by decide)
  have w3 : wrap64 ((2 : Int) + 1) = 3 := w64 (by decide) (by decide)
  have w4 : wrap64 ((3 : Int) + 1) = 4 := w64 (by decide) (by decide)
  simp only [slices_Index_string_string.l0, toL, List.length_cons, List.length_nil, w1, w2, w3, w4]
  have k0 : L (rdOf ByteArray.empty [⟨#[116, 121, 112, 101]⟩, ⟨#[114, 101, 108]⟩, ⟨#[105, 115]⟩, ⟨#[116, 104, 105, 115]⟩] 0) = [116, 121, 112, 101] := rfl
  have k1 : L (rdOf ByteArray.empty [⟨#[116, 121, 112, 101]⟩, ⟨#[114, 101, 108]⟩, ⟨#[105, 115]⟩, ⟨#[116, 104, 105, 115]⟩] 1) = [114, 101, 108] := rfl
  have k2 : L (rdOf ByteArray.empty [⟨#[116, 121, 112, 101]⟩, ⟨#[114, 101, 108]⟩, ⟨#[105, 115]⟩, ⟨#[116, 104, 105, 115]⟩] 2) = [105, 115] := rfl
  have k3 : L (rdOf ByteArray.empty [⟨#[116, 121, 112, 101]⟩, ⟨#[114, 101, 108]⟩, ⟨#[105, 115]⟩, ⟨#[116, 104, 105, 115]⟩] 3) = [116, 104, 105, 115] := rfl
  rw [k0, k1, k2, k3]
  by_cases h0 : L s = [116, 121, 112, 101]
  · rw [h0]; decide
  by_cases h1 : L s = [114, 101, 108]
  · rw [h1]; decide
  by_cases h2 : L s = [105, 115]
  · rw [h2]; decide
  by_cases h3 : L s = [116, 104, 105, 115]
  · rw [h3]; decide
  simp [h0, h1, h2, h3]

theorem vld_go {l m : List UInt8} (n : Nat) (h : l ≠ []) (hr : rlen l = n + 1) (hm : l.drop (n + 1) = m) : vld l = vld m := by
  rw [vld_step l h, if_neg (by omega), show stp l = n + 1 by (unfold stp; rw [hr]; rfl), hm]
theorem wlen_go {l m : List UInt8} (n : Nat) (hm : may l = true) (hr : stp l = n) (hd : l.drop n = m) : wlen l = n + wlen m := by
  rw [wlen_step l (may_ne hm), if_pos hm, hr, hd]
theorem cnt_go {l m : List UInt8} (n : Nat) (h : l ≠ []) (hr : stp l = n) (hm : l.drop n = m) : cnt l = 1 + cnt m := by
  rw [cnt_step l h, hr, hm]

theorem all1 : all [97, 58, 195, 169, 32, 47, 47, 32, 98] = .ok [⟨1, [97], 0⟩, ⟨2, [58], 1⟩, ⟨1, [195, 169], 2⟩, ⟨3, [], 9⟩] := by
  have v : vld [97, 58, 195, 169, 32, 47, 47, 32, 98] = true := by
    rw [vld_go (m := [58, 195, 169, 32, 47, 47, 32, 98]) 0 (by simp) (by decide) rfl, vld_go (m := [195, 169, 32, 47, 47, 32, 98]) 0 (by simp) (by decide) rfl,
      vld_go (m := [32, 47, 47, 32, 98]) 1 (by simp) (by decide) rfl, vld_go (m := [47, 47, 32, 98]) 0 (by simp) (by decide) rfl, vld_go (m := [47, 32, 98]) 0 (by simp) (by decide) rfl,
      vld_go (m := [32, 98]) 0 (by simp) (by decide) rfl, vld_go (m := [98]) 0 (by simp) (by decide) rfl, vld_go (m := []) 0 (by simp) (by decide) rfl, vld_nil]
  have w1 : wlen [97, 58, 195, 169, 32, 47, 47, 32, 98] = 1 := by
    rw [wlen_go (m := [58, 195, 169, 32, 47, 47, 32, 98]) 1 (by decide) (by decide) rfl, wlen_zero (by decide)]
  have w2 : wlen [195, 169, 32, 47, 47, 32, 98] = 2 := by
    rw [wlen_go (m := [32, 47, 47, 32, 98]) 2 (by decide) (by decide) rfl, wlen_zero (by decide)]
  have c1 : cnt [97] = 1 := by rw [cnt_go (m := []) 1 (by simp) (by decide) rfl, cnt_nil]
  have c2 : cnt [195, 169] = 1 := by rw [cnt_go (m := []) 2 (by simp) (by decide) rfl, cnt_nil]
  unfold all
  rw [if_neg (by decide), if_pos v, tk_word (by decide) (by rw [w1]; show cnt [97] ≤ 24; rw [c1]; decide), w1]
  show cons ⟨1, [97], 0⟩ (tk [58, 195, 169, 32, 47, 47, 32, 98] 1) = _
  rw [tk_sign (by simp) (by decide)]
  show cons ⟨1, [97], 0⟩ (cons ⟨2, [58], 1⟩ (tk [195, 169, 32, 47, 47, 32, 98] 2)) = _
  rw [tk_word (by decide) (by rw [w2]; show cnt [195, 169] ≤ 24; rw [c2]; decide), w2]
  show cons ⟨1, [97], 0⟩ (cons ⟨2, [58], 1⟩ (cons ⟨1, [195, 169], 2⟩ (tk [32, 47, 47, 32, 98] 4))) = _
  rw [tk_blank (by simp) (by decide)]
  show cons ⟨1, [97], 0⟩ (cons ⟨2, [58], 1⟩ (cons ⟨1, [195, 169], 2⟩ (tk [47, 47, 32, 98] 5))) = _
  rw [tk_note (by decide)]
  show cons ⟨1, [97], 0⟩ (cons ⟨2, [58], 1⟩ (cons ⟨1, [195, 169], 2⟩ (tk [] 9))) = _
  rw [tk_nil]; rfl

theorem all2 : all [97, 32, 36] = .error (30, 2) := by
  have v : vld [97, 32, 36] = true := by
    rw [vld_go (m := [32, 36]) 0 (by simp) (by decide) rfl, vld_go (m := [36]) 0 (by simp) (by decide) rfl, vld_go (m := []) 0 (by simp) (by decide) rfl, vld_nil]
  have w1 : wlen [97, 32, 36] = 1 := by
    rw [wlen_go (m := [32, 36]) 1 (by decide) (by decide) rfl, wlen_zero (by decide)]
  have c1 : cnt [97] = 1 := by rw [cnt_go (m := []) 1 (by simp) (by decide) rfl, cnt_nil]
  unfold all
  rw [if_neg (by decide), if_pos v, tk_word (by decide) (by rw [w1]; show cnt [97] ≤ 24; rw [c1]; decide), w1]
  show cons ⟨1, [97], 0⟩ (tk [32, 36] 1) = _
  rw [tk_blank (by simp) (by decide)]
  show cons ⟨1, [97], 0⟩ (tk [36] 2) = _
  rw [tk_other (by simp) (by decide) (by decide) (by decide) (by decide)]; rfl

theorem awake : doormanlaw06_awake.f = some true := by
  unfold doormanlaw06_awake.f
  rw [All_f, ob, All_f, ob, Key_f, Key_f]
  have e1 : all (L ⟨#[97, 58, 195, 169, 32, 47, 47, 32, 98]⟩) = .ok [⟨1, [97], 0⟩, ⟨2, [58], 1⟩, ⟨1, [195, 169], 2⟩, ⟨3, [], 9⟩] := all1
  have e2 : all (L ⟨#[97, 32, 36]⟩) = .error (30, 2) := all2
  have k1 : key (L ⟨#[116, 104, 105, 115]⟩) = true := by decide
  have k2 : key (L ⟨#[97]⟩) = false := by decide
  rw [e1, e2, k1, k2]
  simp [enc, toS, rd_T32, toL, L_mk]

end Go.Proofs.YtkgnhghaiopgcaaDoor.TkAwake
