/- The program's functions of package token are the document's tokens; the plain side of their walks. -/
import Derived.Test.YtkgnhghaiopgcaaDoorTk
import Derived.Test.YtkgnhghaiopgcaaDoorGlFn
set_option linter.unusedVariables false
set_option linter.unusedSimpArgs false
namespace Go.Proofs.YtkgnhghaiopgcaaDoor.TkFn
open Go.RowKit Go.Proofs.YtkgnhghaiopgcaaDoorW.PrintWords Go.Proofs.YtkgnhghaiopgcaaDoor.X Go.Proofs.YtkgnhghaiopgcaaDoor.Gl Go.Proofs.YtkgnhghaiopgcaaDoor.GlFn Go.Proofs.YtkgnhghaiopgcaaDoor.Tk

theorem L_mk (l : List UInt8) : L ⟨l.toArray⟩ = l := rfl
theorem eq_mk {s : ByteArray} {l : List UInt8} (h : L s = l) : s = ⟨l.toArray⟩ := L_inj (by rw [h])
theorem L_tail (s : ByteArray) (p : Nat) : L (s.extract p s.size) = (L s).drop p := by
  rw [L_extract]
  exact List.take_of_length_le (by rw [List.length_drop, L_length]; exact Nat.le_refl _)
theorem plc_one {l : List UInt8} (h : l ≠ []) : plc l 1 = stp l := by rw [plc_succ l h, plc_zero]; rfl

theorem vld_take_stp {l : List UInt8} (h : l ≠ []) : vld (l.take (stp l)) = decide (rlen l ≠ 0) := by
  rw [vld_step _ (take_ne_nil h (stp_pos l))]
  by_cases hr : rlen l = 0
  · have hs : stp l = 1 := by unfold stp; rw [if_pos hr]
    rw [rlen_take, hr, hs]; simp
  · have hs : stp l = rlen l := by unfold stp; rw [if_neg hr]
    have e : rlen (l.take (stp l)) = rlen l := by rw [rlen_take, if_pos (by omega)]
    rw [e, if_neg hr, stp_take l _ (Nat.le_refl _), List.drop_take, Nat.sub_self]
    simp [vld_nil, hr]

theorem broken_l0 (s : ByteArray) (hs : s.size ≤ 4096) : ∀ (k p : Nat), s.size - p < k → p ≤ s.size →
    token_broken.l0 s k p = some (if vld ((L s).drop p) = true then -1 else ((p + brk ((L s).drop p) : Nat) : Int)) := by
  intro k
  induction k with
  | zero => intro p h; omega
  | succ k ih =>
    intro p h hp'
    simp only [token_broken.l0]
    by_cases hp : p < s.size
    · have hne := drop_ne hp
      have h1 := stp_pos ((L s).drop p)
      have h2 := stp_le _ hne
      simp only [List.length_drop, L_length] at h2
      obtain ⟨x, y, e, ex, ey⟩ := Cut_f (s.extract p s.size) 1 (by rw [ByteArray.size_extract]; omega)
      rw [L_tail, show (1 : Int).toNat = 1 from rfl, plc_one hne] at ey
      have hy : y.size = s.size - p - stp ((L s).drop p) := by
        have := congrArg List.length ey
        simp only [List.length_drop, L_length] at this; omega
      have hcut : L (s.extract p (s.size - y.size)) = ((L s).drop p).take (stp ((L s).drop p)) := by
        rw [L_extract, show s.size - y.size - p = stp ((L s).drop p) by omega]
      rw [if_pos hp, e, ob]
      show (if p + y.size ≤ s.size then _ else _) = _
      rw [if_pos (by omega), Valid_f, ob, hcut, vld_take_stp hne, vld_step _ hne]
      by_cases hr : rlen ((L s).drop p) = 0
      · rw [if_pos hr, brk_zero hr]; simp [hr]
      · rw [if_neg hr, brk_step hne hr, decode_eq s p hp]
        show (if _ then token_broken.l0 s k (p + stp ((L s).drop p)) else _) = _
        rw [if_pos (by simpa using hr), ih _ (by omega) (by omega), List.drop_drop, Nat.add_assoc]
    · rw [if_neg hp, drop_nil hp, vld_nil]; rfl

theorem broken_f (s : ByteArray) (hs : s.size ≤ 4096) : token_broken.f s = some (if vld (L s) = true then -1 else (brk (L s) : Int)) := by
  unfold token_broken.f
  rw [broken_l0 s hs _ 0 (by omega) (by omega)]; simp

theorem may_stp {l : List UInt8} (hr : rlen l ≠ 0) {m : Nat} (hm : stp l ≤ m) : may (l.take m) = may l := by
  have hs : stp l = rlen l := by unfold stp; rw [if_neg hr]
  have h1 : rlen (l.take m) = rlen l := by rw [rlen_take, if_pos (by omega)]
  have : may (l.take m ++ l.drop m) = may (l.take m) := may_append _ _ (by rw [h1]; exact hr)
  rw [List.take_append_drop] at this
  exact this.symm
theorem cnt_pos {l : List UInt8} (h : l ≠ []) : 1 ≤ cnt l := by rw [cnt_step l h]; omega
theorem name_rune {l : List UInt8} (h : l ≠ []) (hr : rlen l ≠ 0) : name (l.take (stp l)) = may l := by
  have hc : cnt (l.take (stp l)) = 1 := by
    have := cnt_take 1 l
    rw [plc_one h] at this
    have := cnt_pos h; omega
  unfold name
  rw [hc, mays_step _ (take_ne_nil h (stp_pos l)), may_stp hr (Nat.le_refl _), drop_stp_take l _ (Nat.le_refl _), Nat.sub_self, List.take_zero, mays_nil]
  simp
theorem size_eq {s : ByteArray} {l : List UInt8} (h : L s = l) : s.size = l.length := by rw [← h, L_length]

theorem of_toList {s : ByteArray} {l : List UInt8} (h : s.data.toList = l) : L s = l := h
theorem enc_size {l : List UInt8} (h : l ≠ []) (hr : rlen l ≠ 0) : (Utf8.encode (val l : Int)).size = stp l := by
  have h2 := stp_le l h
  have hen : L (Utf8.encode (val l : Int)) = l.take (stp l) := of_toList (encode_val hr)
  rw [size_eq hen, List.length_take]
  exact Nat.min_eq_left h2
theorem enc_name {l : List UInt8} (h : l ≠ []) (hr : rlen l ≠ 0) : glyph_Name.f (Utf8.encode (val l : Int)) = some (may l) := by
  have hs : stp l ≤ 4 := by
    have := rlen_le4 l
    unfold stp; split <;> omega
  have hen : L (Utf8.encode (val l : Int)) = l.take (stp l) := of_toList (encode_val hr)
  have hz := enc_size h hr
  have hb : (Utf8.encode (val l : Int)).size ≤ 140737488351232 := by rw [hz]; omega
  rw [Name_f _ hb, hen, name_rune h hr]

theorem word_l0 (t : ByteArray) (ht : t.size ≤ 4096) : ∀ (k p : Nat) (n : Int), t.size - p < k → vld ((L t).drop p) = true →
    token_word.l0 t k p n = some (n + (wlen ((L t).drop p) : Nat)) := by
  intro k
  induction k with
  | zero => intro p n h; omega
  | succ k ih =>
    intro p n h hv
    simp only [token_word.l0]
    by_cases hp : p < t.size
    · have hne := drop_ne hp
      have h1 := stp_pos ((L t).drop p)
      have h2 := stp_le _ hne
      simp only [List.length_drop, L_length] at h2
      obtain ⟨hr, hv'⟩ := vld_head hv hne
      have hd1 : (Utf8.decode t p).1 = val ((L t).drop p) := by rw [decode_eq t p hp]
      have hd2 : (Utf8.decode t p).2 = stp ((L t).drop p) := by rw [decode_eq t p hp]
      rw [if_pos hp, hd1, hd2, wlen_step _ hne, enc_name hne hr, ob, enc_size hne hr]
      cases hm : may ((L t).drop p) with
      | true =>
        rw [if_pos rfl, if_pos rfl, ih _ _ (by omega) (by rw [← List.drop_drop]; exact hv'), List.drop_drop, Int.natCast_add, Int.add_assoc]
      | false => rw [if_neg (by decide), if_neg (by decide)]; simp
    · rw [if_neg hp, drop_nil hp, wlen_nil]; simp

def toS (t : Tok) : S32 := ⟨t.kind, ⟨t.text.toArray⟩, t.at_⟩
def enc (acc : List S32) : R → List S32 × Int × Int
  | .ok ts => (acc ++ ts.map toS, 0, 0)
  | .error (e, p) => ([], e, (p : Int))
theorem enc_cons (acc : List S32) (t : Tok) (r : R) : enc acc (cons t r) = enc (acc ++ [toS t]) r := by
  cases r <;> simp [enc, cons]

theorem head_at {s : ByteArray} {p : Nat} (h : p < s.size) : (s[p]'h) = ((L s).drop p).getD 0 0 := by
  have e : (L s)[p]? = some (s[p]'h) := by
    rw [Array.getElem?_toList]
    exact Array.getElem?_eq_getElem (show p < s.data.size from h)
  rw [List.getD_eq_getElem?_getD, List.getElem?_drop, Nat.add_zero, e]; rfl

theorem name_word {l : List UInt8} (h : may l = true) : name (l.take (wlen l)) = decide (cnt (l.take (wlen l)) ≤ 24) := by
  unfold name
  have := cnt_pos (take_ne_nil (may_ne h) (wlen_pos h))
  rw [mays_wlen]; simp; omega

theorem vld_one {l : List UInt8} (hv : vld l = true) (h : l ≠ []) (hc : (l.getD 0 0).toNat < 128) : vld (l.drop 1) = true := by
  have hl : 1 ≤ l.length := by have := len_ne h; omega
  have hr : rlen l = 1 := by unfold rlen; rw [if_neg (by omega), if_pos hc]
  have hs : stp l = 1 := by unfold stp; rw [if_neg (by omega)]; exact hr
  have := (vld_head hv h).2
  rwa [hs] at this

theorem all_l0 (s : ByteArray) (hs : s.size ≤ 4096) : ∀ (k p : Nat) (acc : List S32), s.size - p < k → p ≤ s.size → vld ((L s).drop p) = true →
    token_All.l0 s k p acc = some (enc acc (tk ((L s).drop p) p)) := by
  intro k
  induction k with
  | zero => intro p acc h; omega
  | succ k ih =>
    intro p acc h hp' hv
    simp only [token_All.l0]
    by_cases hp : p < s.size
    · have hne := drop_ne hp
      have hlen : ((L s).drop p).length = s.size - p := by rw [List.length_drop, L_length]
      rw [dif_pos hp]
      simp only [head_at hp]
      have hdd : ∀ n, (L s).drop (p + n) = ((L s).drop p).drop n := fun n => by rw [List.drop_drop]
      have htl : s.data.toList.drop p = (L s).drop p := rfl
      by_cases hb : blk (((L s).drop p).getD 0 0) = true
      · have hb' := of_decide_eq_true hb
        rw [if_pos hb', tk_blank hne hb, ih _ _ (by omega) (by omega) (by rw [hdd]; exact vld_one hv hne (by omega)), hdd]
      have hb' : ¬ ((((L s).drop p).getD 0 0).toNat = 32 ∨ (((L s).drop p).getD 0 0).toNat = 9 ∨ (((L s).drop p).getD 0 0).toNat = 10) := fun h => hb (decide_eq_true h)
      rw [if_neg hb']
      by_cases h47 : ((L s).drop p).getD 0 0 = 47
      · rw [if_pos (by rw [h47]; rfl), htl]
        by_cases hn : ((L s).drop p).take 2 = [47, 47]
        · have hle := noteLen_le ((L s).drop p)
          have h2 := noteLen_two hn
          rw [if_pos hn, tk_note hn, ih _ _ (by omega) (by omega) (by rw [hdd]; exact vld_note hv), hdd]
        · rw [if_neg hn, tk_slash h47 hn]; rfl
      have h47' : ¬ (((L s).drop p).getD 0 0).toNat = 47 := fun e => h47 (UInt8.toNat_inj.mp e)
      rw [if_neg h47']
      by_cases hsg : isSign (((L s).drop p).getD 0 0).toNat = true
      · have hlt : (((L s).drop p).getD 0 0).toNat < 128 := by
          simp only [isSign, Bool.or_eq_true, decide_eq_true_eq] at hsg; omega
        have htx : s.extract p (p + 1) = ⟨(((L s).drop p).take 1).toArray⟩ := eq_mk (by rw [L_extract, show p + 1 - p = 1 by omega])
        rw [if_pos hsg, tk_sign hne hsg, ih _ _ (by omega) (by omega) (by rw [hdd]; exact vld_one hv hne hlt), hdd, enc_cons, htx]
        rfl
      rw [if_neg hsg]
      have hvt : vld ((L (s.extract p s.size)).drop 0) = true := by rw [L_tail]; exact hv
      rw [word_l0 (s.extract p s.size) (by rw [ByteArray.size_extract]; omega) (s.size + 1) 0 0 (by rw [ByteArray.size_extract]; omega) hvt, ob, L_tail, List.drop_zero, Int.zero_add]
      by_cases hm : may ((L s).drop p) = true
      · have hw1 := wlen_pos hm
        have hw2 := wlen_le ((L s).drop p)
        have htx : s.extract p (p + ((wlen ((L s).drop p) : Nat) : Int).toNat) = ⟨(((L s).drop p).take (wlen ((L s).drop p))).toArray⟩ := eq_mk (by rw [L_extract]; congr 1; omega)
        have hcast : p + ((wlen ((L s).drop p) : Nat) : Int).toNat = p + wlen ((L s).drop p) := by omega
        rw [if_neg (by omega), if_pos (by omega), htx, Name_f _ (by rw [size_eq (L_mk _), List.length_take]; omega), ob, L_mk, name_word hm]
        by_cases hc : cnt (((L s).drop p).take (wlen ((L s).drop p))) ≤ 24
        · rw [if_pos (decide_eq_true hc), tk_word hm hc, hcast, ih _ _ (by omega) (by omega) (by rw [hdd]; exact vld_wlen hv), hdd, enc_cons]
          rfl
        · rw [if_neg (by simpa using hc), tk_long hm hc]; rfl
      · rw [wlen_zero hm, if_pos (by rfl), tk_other hne hb h47 hsg hm]; rfl
    · have e : p = s.size := by omega
      have hx : s.extract p p = ⟨#[]⟩ := eq_mk (by rw [L_extract]; simp)
      rw [dif_neg hp, drop_nil hp, tk_nil, hx]; rfl

theorem All_f (s : ByteArray) : token_All.f s = some (enc [] (all (L s))) := by
  unfold token_All.f all
  rw [L_length]
  by_cases h : s.size > 2048
  · rw [if_pos (by omega), if_pos h]; rfl
  · rw [if_neg (by omega), if_neg h, broken_f s (by omega), ob]
    cases hv : vld (L s) with
    | true =>
      have e1 : (if true = true then (-1 : Int) else (brk (L s) : Int)) = -1 := rfl
      rw [e1, if_neg (by decide), if_pos rfl, all_l0 s (by omega) _ 0 [] (by omega) (by omega) (by simpa using hv)]; simp
    | false =>
      have e1 : (if false = true then (-1 : Int) else (brk (L s) : Int)) = (brk (L s) : Int) := rfl
      rw [e1, if_pos (by omega)]; rfl

end Go.Proofs.YtkgnhghaiopgcaaDoor.TkFn
