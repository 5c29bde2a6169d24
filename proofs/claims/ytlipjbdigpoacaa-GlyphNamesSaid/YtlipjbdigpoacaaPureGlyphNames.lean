/- For every input GlyphNames returns true: a name stays one with runes of a name behind, up to 24; none has a blank, a sign, or a broken byte. No condition. -/
import Derived.Test.YtlipjbdigpoacaaGlAwake
import Derived.OpenShut
import Derived.Test.YtlipjbdigpoacaaX13
set_option linter.unusedSimpArgs false
namespace Go.Proofs.Ytlipjbdigpoacaa.Pure
open Go.RowKit Go.Proofs.Ytlipjbdigpoacaa.X Go.Proofs.YtlipjbdigpoacaaW.PrintWords Go.Proofs.YtlipjbdigpoacaaW.PrintLast Go.Proofs.YtlipjbdigpoacaaW.PrintMore Go.Proofs.Ytlipjbdigpoacaa.Gl Go.Proofs.Ytlipjbdigpoacaa.GlFn

theorem L_one (n : Int) : L (strOfNums [n]) = [n.toNat.toUInt8] := rfl

def letterB (n : Int) : Bool := decide (n = 95 ∨ (97 ≤ n ∧ n ≤ 122) ∨ (65 ≤ n ∧ n ≤ 90) ∨ (48 ≤ n ∧ n ≤ 57))

theorem one_facts (n : Int) (h0 : 0 ≤ n) (h1 : n ≤ 255) : mays [n.toNat.toUInt8] = letterB n ∧ cnt [n.toNat.toUInt8] = 1 := by
  have hb : (n.toNat.toUInt8).toNat = n.toNat := by
    rw [Nat.toUInt8, UInt8.toNat_ofNat', Nat.mod_eq_of_lt (by omega)]
  have hd : ([n.toNat.toUInt8] : List UInt8).getD 0 0 = n.toNat.toUInt8 := rfl
  have hr : rlen [n.toNat.toUInt8] = if n < 128 then 1 else 0 := by
    have := rlen_le [n.toNat.toUInt8]
    have hc := rlen_cases [n.toNat.toUInt8]
    rw [hd, hb] at hc
    simp only [List.length_cons, List.length_nil] at this hc
    split
    · unfold rlen; rw [if_neg (by simp), if_pos (by rw [hd, hb]; omega)]
    · omega
  have hs : stp [n.toNat.toUInt8] = 1 := by unfold stp; rw [hr]; repeat' split
                                            all_goals omega
  refine ⟨?_, by rw [cnt_step _ (by simp), hs]; show 1 + cnt [] = 1; rw [cnt_nil]⟩
  rw [mays_step _ (by simp), hs]
  show (may _ && mays []) = _
  rw [mays_nil, Bool.and_true]
  unfold may letterB
  rw [hr, hd, hb]
  by_cases h : n < 128
  · simp only [if_pos h]; rw [if_neg (by omega), if_pos trivial, Bool.eq_iff_iff, decide_eq_true_eq, decide_eq_true_eq]; omega
  · simp only [if_neg h]; rw [if_pos trivial, eq_comm, decide_eq_false_iff_not]; omega

theorem name_parts {l : List UInt8} (h : name l = true) : mays l = true ∧ 0 < cnt l ∧ cnt l ≤ 24 := by
  unfold name at h; simpa using h

theorem j2_any (k : Nat) (s m : ByteArray) (n : Int) (b : Bool) (hs : ¬ (s.size : Int) > 100) (hm : ¬ (m.size : Int) > 100) (h0 : 0 ≤ n) (h1 : n ≤ 255)
    (hb : b = true ∨ (name (L s) = true ∧ name (L m) = true)) : doormanlaw02_GlyphNames.j2 (k + 1) s m n (strOfNums [n]) (letterB n) b = some true := by
  simp only [doormanlaw02_GlyphNames.j2]
  cases b with
  | true => rw [if_pos rfl]
  | false =>
    obtain ⟨ns, nm⟩ := hb.resolve_left (by simp)
    obtain ⟨ms, cs0, cs1⟩ := name_parts ns
    obtain ⟨mm, cm0, cm1⟩ := name_parts nm
    have vs := mays_vld ms
    have sz1 : (strOfNums [n]).size = 1 := by rw [← L_length, L_one]; rfl
    have szA : (s ++ m).size = s.size + m.size := by rw [← L_length, L_append, List.length_append, L_length, L_length]
    have szB : (strOfNums [n] ++ s).size = 1 + s.size := by rw [← L_length, L_append, List.length_append, L_length, L_length, sz1]
    have szC : (s ++ strOfNums [n]).size = s.size + 1 := by rw [← L_length, L_append, List.length_append, L_length, L_length, sz1]
    obtain ⟨om, oc⟩ := one_facts n h0 h1
    rw [if_neg (by simp), Count_f _ (by omega)]
    simp only [ob]
    rw [Count_f _ (by omega)]
    simp only [ob]
    rw [if_pos (by omega), Name_f _ (by omega)]
    simp only [ob]
    have e1 : name (L (s ++ m)) = decide (wrap64 ((cnt (L s) : Int) + (cnt (L m) : Int)) ≤ 24) := by
      rw [w64 (by omega) (by omega)]
      unfold name
      rw [L_append, mays_append _ _ vs, cnt_append _ _ vs, ms, mm, Bool.eq_iff_iff]
      simp; omega
    rw [e1]
    simp only [beq_self_eq_true, if_true]
    rw [Valid_f]
    simp only [ob]
    rw [vs, if_pos rfl]
    by_cases h127 : n > 127
    · rw [if_pos h127]
    rw [if_neg h127]
    cases hl : letterB n with
    | true => rw [if_pos rfl]
    | false =>
      rw [if_neg (by simp), if_pos (by omega), Name_f _ (by omega)]
      simp only [ob]
      have hv1 : vld [n.toNat.toUInt8] = true := by
        rw [vld_step _ (by simp)]
        have hr : rlen [n.toNat.toUInt8] = 1 := by
          unfold rlen
          rw [if_neg (by simp), if_pos]
          show (n.toNat.toUInt8).toNat < 128
          rw [Nat.toUInt8, UInt8.toNat_ofNat', Nat.mod_eq_of_lt (by omega)]; omega
        rw [hr, if_neg (by omega), show stp [n.toNat.toUInt8] = 1 by unfold stp; rw [hr]; rfl]
        exact vld_nil
      have e2 : name (L (strOfNums [n] ++ s)) = false := by
        unfold name
        rw [L_append, L_one, mays_append _ _ hv1, om, hl]; rfl
      have e3 : name (L (s ++ strOfNums [n])) = false := by
        unfold name
        rw [L_append, L_one, mays_append _ _ vs, om, hl, Bool.and_false, Bool.false_and]
      rw [e2, if_neg (by simp), if_pos (by omega), Name_f _ (by omega)]
      simp only [ob]
      rw [e3]; rfl

theorem j1_any (k : Nat) (s m : ByteArray) (n : Int) (hs : ¬ (s.size : Int) > 100) (hm : ¬ (m.size : Int) > 100) (h0 : 0 ≤ n) (h1 : n ≤ 255) :
    doormanlaw02_GlyphNames.j1 (k + 2) s m n (strOfNums [n]) (letterB n) = some true := by
  simp only [doormanlaw02_GlyphNames.j1]
  have sz1 : (strOfNums [n]).size = 1 := by rw [← L_length, L_one]; rfl
  obtain ⟨om, oc⟩ := one_facts n h0 h1
  rw [Name_f _ (by omega)]
  simp only [ob]
  have e : name (L (strOfNums [n])) = letterB n := by
    unfold name; rw [L_one, om, oc]; simp
  rw [e]
  simp only [bne_self_eq_false, Bool.false_eq_true, if_false]
  rw [Name_f _ (by omega)]
  simp only [ob]
  cases hn : name (L s) with
  | false => rw [if_neg (by simp)]; exact j2_any k s m n true hs hm h0 h1 (.inl rfl)
  | true =>
    rw [if_pos rfl, Name_f _ (by omega)]
    simp only [ob]
    cases hn2 : name (L m) with
    | false => exact j2_any k s m n true hs hm h0 h1 (.inl rfl)
    | true => exact j2_any k s m n false hs hm h0 h1 (.inr ⟨hn, hn2⟩)

theorem GlyphNames : doormanlaw02_GlyphNames.Pure := by
  intro s m n hs hm hn
  have hn' : 0 ≤ n ∧ n ≤ 255 := bounds_u8 hn
  suffices h : ∀ k, doormanlaw02_GlyphNames.f (k + 3) s m n = some true from ⟨_, h 0⟩
  intro k
  unfold doormanlaw02_GlyphNames.f
  rw [GlAwake.awake]
  simp only [ob, if_true]
  by_cases h1 : (s.size : Int) > 100
  · rw [if_pos h1]; simp only [doormanlaw02_GlyphNames.j0, if_true]
  rw [if_neg h1]
  by_cases h2 : (m.size : Int) > 100
  · rw [decide_eq_true h2]; simp only [doormanlaw02_GlyphNames.j0, if_true]
  rw [decide_eq_false h2]
  simp only [doormanlaw02_GlyphNames.j0]
  rw [if_neg (by simp), ob]
  have key := j1_any k s m n h1 h2 hn'.1 hn'.2
  have go : ∀ b, b = letterB n → doormanlaw02_GlyphNames.j1 (k + 2) s m n (strOfNums [n]) b = some true := fun b hb => hb ▸ key
  unfold letterB at go
  repeat' split
  all_goals (apply go; first | (rw [decide_eq_true (by omega)]; done) | (rw [decide_eq_false (by omega)]; done) | (rw [Bool.eq_iff_iff, decide_eq_true_eq, decide_eq_true_eq]; omega))

end Go.Proofs.Ytlipjbdigpoacaa.Pure
