/- A text that law07.name takes for a name is a word of the document's letters and no key: plain Lean, no program walked; no condition. -/
import Derived.Test.YtkgnhghaiopgcaaDoorNm1
import Derived.Test.YtkgnhghaiopgcaaDoorPt
set_option linter.unusedVariables false
set_option linter.unusedSimpArgs false
namespace Go.Proofs.YtkgnhghaiopgcaaDoor.Pq
open Go.RowKit Go.Proofs.YtkgnhghaiopgcaaDoorW.PrintWords Go.Proofs.YtkgnhghaiopgcaaDoor.Gl Go.Proofs.YtkgnhghaiopgcaaDoor.GlFn Go.Proofs.YtkgnhghaiopgcaaDoor.X Go.Proofs.YtkgnhghaiopgcaaDoor.Kx Go.Proofs.YtkgnhghaiopgcaaDoor.Tk Go.Proofs.YtkgnhghaiopgcaaDoor.TkFn Go.Proofs.YtkgnhghaiopgcaaDoor.Tp Go.Proofs.YtkgnhghaiopgcaaDoor.Ps Go.Proofs.YtkgnhghaiopgcaaDoor.Pv Go.Proofs.YtkgnhghaiopgcaaDoor.Pz Go.Proofs.YtkgnhghaiopgcaaDoor.Pl Go.Proofs.YtkgnhghaiopgcaaDoor.Pm Go.Proofs.YtkgnhghaiopgcaaDoor.Pt Go.Proofs.YtkgnhghaiopgcaaDoor.Pn Go.Proofs.YtkgnhghaiopgcaaDoor.Po

/-- No byte that a name may not hold. -/
def free (c : UInt8) : Prop := c.toNat ≠ 47 ∧ c.toNat ≠ 32 ∧ c.toNat ≠ 9 ∧ c.toNat ≠ 10 ∧ c.toNat ≠ 123 ∧ c.toNat ≠ 125
theorem bt_get {s : ByteArray} {i : Nat} (h : i < s.size) : bt s (i : Int) = (((L s).getD i 0).toNat : Int) := by
  have e := head_at h
  unfold bt
  rw [dif_pos (by simpa using h)]
  simp only [Int.toNat_natCast]
  rw [e]
  simp only [List.getD_eq_getElem?_getD, List.getElem?_drop, Nat.add_zero]
theorem name_l0 (s : ByteArray) (e : Int) (hs : s.size ≤ 4096) : ∀ (k i : Nat), s.size < i + k → i ≤ s.size →
    ∃ b, Nm.doormanlaw07_name.l0 k s e (i : Int) = some b ∧ (b = true → e = 0 ∧ ∀ j, i ≤ j → j < s.size → free ((L s).getD j 0)) := by
  intro k
  induction k with
  | zero => intro i h h2; omega
  | succ k ih =>
    intro i h h2
    rw [Nm.doormanlaw07_name.l0]
    by_cases hi : i < s.size
    · rw [if_pos (by omega), if_pos (by omega), bt_get hi]
      obtain ⟨b, h3, h4⟩ := ih (i + 1) (by omega) (by omega)
      rw [w64 (by omega) (by omega), show ((i : Int) + 1) = ((i + 1 : Nat) : Int) by omega, h3]
      obtain ⟨c, hc⟩ : ∃ c, (L s).getD i 0 = c := ⟨_, rfl⟩
      rw [hc]
      by_cases q1 : (c.toNat : Int) = 47
      · rw [if_pos q1]; exact ⟨_, rfl, by simp⟩
      rw [if_neg q1]
      by_cases q2 : (c.toNat : Int) = 32
      · rw [if_pos q2]; exact ⟨_, rfl, by simp⟩
      rw [if_neg q2]
      by_cases q3 : (c.toNat : Int) = 9
      · rw [if_pos q3]; exact ⟨_, rfl, by simp⟩
      rw [if_neg q3]
      by_cases q4 : (c.toNat : Int) = 10
      · rw [if_pos q4]; exact ⟨_, rfl, by simp⟩
      rw [if_neg q4]
      by_cases q5 : (c.toNat : Int) = 123
      · rw [if_pos q5]; exact ⟨_, rfl, by simp⟩
      rw [if_neg q5]
      by_cases q6 : (c.toNat : Int) = 125
      · rw [if_pos q6]; exact ⟨_, rfl, by simp⟩
      rw [if_neg q6]
      refine ⟨b, rfl, fun hb => ⟨(h4 hb).1, fun j h5 h6 => ?_⟩⟩
      by_cases hj : j = i
      · subst hj; rw [hc]; refine ⟨?_, ?_, ?_, ?_, ?_, ?_⟩ <;> omega
      · exact (h4 hb).2 j (by omega) h6
    · rw [if_neg (by omega)]
      exact ⟨_, rfl, fun hb => ⟨by simpa using hb, fun j h3 h4 => by omega⟩⟩

theorem free_tk {l r : List UInt8} {p : Nat} {t : Tok} {ts : List Tok} (hl : l ≠ []) (hf : free (l.getD 0 0)) (h : tk (l ++ r) p = .ok (t :: ts)) :
    (isSign (l.getD 0 0).toNat = true ∧ t = ⟨2, [l.getD 0 0], p⟩) ∨ (may (l ++ r) = true ∧ cnt ((l ++ r).take (wlen (l ++ r))) ≤ 24 ∧ t = ⟨1, (l ++ r).take (wlen (l ++ r)), p⟩ ∧ tk ((l ++ r).drop (wlen (l ++ r))) (p + wlen (l ++ r)) = .ok ts) := by
  have hne : l ++ r ≠ [] := by simp [hl]
  have hg : (l ++ r).getD 0 0 = l.getD 0 0 := getD_app l r hl
  by_cases hs : isSign (l.getD 0 0).toNat = true
  · refine .inl ⟨hs, ?_⟩
    rw [tk_sign hne (by rw [hg]; exact hs)] at h
    obtain ⟨us, _, h2⟩ := cons_ok h
    rw [(List.cons.inj h2).1]
    cases l with
    | nil => exact absurd rfl hl
    | cons x l => rfl
  · obtain ⟨f1, f2, f3, f4, f5, f6⟩ := hf
    have hb : ¬ blk ((l ++ r).getD 0 0) = true := by rw [hg]; unfold blk; simp only [decide_eq_true_eq]; omega
    have h47 : (l ++ r).getD 0 0 ≠ 47 := by rw [hg]; intro e; rw [e] at f1; exact f1 rfl
    by_cases hm : may (l ++ r) = true
    · refine .inr ⟨hm, ?_⟩
      by_cases hc : cnt ((l ++ r).take (wlen (l ++ r))) ≤ 24
      · rw [tk_word hm hc] at h
        obtain ⟨us, h1, h2⟩ := cons_ok h
        obtain ⟨h3, h4⟩ := List.cons.inj h2
        exact ⟨hc, h3, by rw [h4]; exact h1⟩
      · rw [tk_long hm hc] at h; simp at h
    · rw [tk_other hne hb h47 (by rw [hg]; exact hs) hm] at h
      simp at h
theorem word_of_ok {a : List UInt8} (hf : ∀ j, j < a.length → free (a.getD j 0)) {X : List ST} (h : parse (sType ++ 32 :: (a ++ [32, 123, 125])) = some (.ok X)) : name a = true ∧ TkKey.key a = false := by
  unfold parse at h
  split at h
  · simp at h
  rename_i ts ha
  have ht := (TkKey.all_len ha).2.2.2
  rw [tk_name (letters_name (by decide) (by decide) (by decide)) (may32 _), tk_blank (l := 32 :: (a ++ [32, 123, 125])) (by simp) (by rfl)] at ht
  obtain ⟨us, hu, rfl⟩ := cons_ok ht
  rw [List.drop_succ_cons, List.drop_zero] at hu
  obtain ⟨k, hk⟩ : ∃ k, 3 * (({ kind := 1, text := sType, at_ := 0 } : Tok) :: us).length + 9 = k + 1 := ⟨_, rfl⟩
  rw [hk] at h
  unfold schemaT at h
  rw [typesL, if_pos (isT_kw (by decide)), List.tail_cons] at h
  obtain ⟨x, h1, _⟩ := bnd_ok h
  obtain ⟨x, h1, _⟩ := bnd_ok h1
  unfold typeT at h1
  obtain ⟨n, h2, h3⟩ := bnd_ok h1
  obtain ⟨r', h4, _⟩ := bnd_ok h3
  obtain ⟨t, rfl, _, tk1, tkey⟩ := nameT_ok (Option.some.inj h2)
  have hn := (needT_ok (Option.some.inj h4)).1
  obtain ⟨r, hr⟩ : ∃ r, n.2 = r := ⟨_, rfl⟩
  rw [hr] at hn hu
  clear h h1 h2 h3 h4 hk ht ha hr
  by_cases hae : a = []
  · subst hae
    rw [List.nil_append, tk_blank (l := [32, 123, 125]) (by simp) (by rfl), List.drop_succ_cons, List.drop_zero, tk_sign (l := [123, 125]) (by simp) (by rfl)] at hu
    obtain ⟨us, _, h2⟩ := cons_ok hu
    rw [(List.cons.inj h2).1] at tk1
    simp at tk1
  rcases free_tk hae (hf 0 (List.length_pos_iff.mpr hae)) hu with ⟨_, rfl⟩ | ⟨hm, hc, rfl, hu2⟩
  · simp at tk1
  have hwl : wlen (a ++ [32, 123, 125]) = wlen a := wlen_asc a 32 [123, 125] (by decide) (may32 _)
  rw [hwl] at hu2 hc tkey
  have hle := wlen_le a
  rw [List.take_append_of_le_length hle] at hc tkey
  rw [List.drop_append_of_le_length hle] at hu2
  have hma : may a = true := by rw [← may_asc a 32 [123, 125] hae (by decide)]; exact hm
  by_cases he : wlen a = a.length
  · rw [he, List.take_length] at hc tkey
    have := name_word hma
    rw [he, List.take_length, decide_eq_true hc] at this
    exact ⟨this, tkey⟩
  · exfalso
    obtain ⟨d, hd⟩ : ∃ d, a.drop (wlen a) = d := ⟨_, rfl⟩
    have hdn : d ≠ [] := by rw [← hd]; intro e; have := congrArg List.length e; rw [List.length_drop] at this; simp at this; omega
    have hdf : free (d.getD 0 0) := by
      have := hf (wlen a) (by omega)
      rw [← hd]
      simpa [List.getD_eq_getElem?_getD, List.getElem?_drop] using this
    have hdm : may d = false := by rw [← hd]; exact wlen_ends a
    rw [hd] at hu2
    have hrn : ∃ t2 r2, r = t2 :: r2 := by
      cases r with
      | nil => simp [isT] at hn
      | cons t2 r2 => exact ⟨t2, r2, rfl⟩
    obtain ⟨t2, r2, rfl⟩ := hrn
    rcases free_tk hdn hdf hu2 with ⟨_, rfl⟩ | ⟨hm2, _⟩
    · obtain ⟨f1, f2, f3, f4, f5, f6⟩ := hdf
      rw [isT_sg, decide_eq_true_eq] at hn
      rw [hn] at f5
      exact f5 rfl
    · rw [may_asc d 32 [123, 125] hdn (by decide), hdm] at hm2
      simp at hm2

/-- What law07.name answers of a short text: and if it is yes, then the text is a word and no key. -/
theorem name_f (s : ByteArray) (hs : s.size ≤ 96) : ∃ b, Nm.doormanlaw07_name.f 200 s = some b ∧ (b = true → name (L s) = true ∧ TkKey.key (L s) = false) := by
  unfold Nm.doormanlaw07_name.f
  have hsz : ((⟨#[116, 121, 112, 101, 32]⟩ : ByteArray) ++ s).size = 5 + s.size := by rw [ByteArray.size_append]; rfl
  rw [if_pos (by omega), hsz, if_pos (by omega)]
  have hL : L (((⟨#[116, 121, 112, 101, 32]⟩ : ByteArray) ++ s) ++ (⟨#[32, 123, 125]⟩ : ByteArray)) = sType ++ 32 :: (L s ++ [32, 123, 125]) := by
    rw [L_append, L_append]
    simp [L, sType]
  obtain ⟨res, hres⟩ := parse_some (sType ++ 32 :: (L s ++ [32, 123, 125]))
  have hp : ∃ v, Nm.parse_Parse.f (((⟨#[116, 121, 112, 101, 32]⟩ : ByteArray) ++ s) ++ (⟨#[32, 123, 125]⟩ : ByteArray)) = some v ∧ (v.2.1 = 0 → ∃ X, res = .ok X) := by
    unfold Nm.parse_Parse.f
    rw [hL, hres]
    cases res with
    | ok X => exact ⟨_, rfl, fun _ => ⟨X, rfl⟩⟩
    | error e => exact ⟨_, rfl, fun h => absurd h (parse_err hres (by simp [sType, L_length]; omega)).1⟩
  obtain ⟨v, hv, hv2⟩ := hp
  rw [hv, Option.bind_some]
  obtain ⟨b, hb, hb2⟩ := name_l0 s v.2.1 (by omega) 200 0 (by omega) (by omega)
  refine ⟨b, hb, fun h => ?_⟩
  obtain ⟨h0, hfr⟩ := hb2 h
  obtain ⟨X, rfl⟩ := hv2 h0
  exact word_of_ok (fun j hj => hfr j (Nat.zero_le _) (by rw [← L_length]; exact hj)) hres

/-! ### The text of eight names -/
def txt (a0 a1 a2 a3 a4 a5 a6 a7 : ByteArray) : ByteArray := (((((((((((((((((⟨#[116, 121, 112, 101, 32]⟩ : ByteArray) ++ a0) ++ (⟨#[32, 123, 32, 114, 101, 108, 32]⟩ : ByteArray)) ++ a1) ++ (⟨#[32, 40, 32]⟩ : ByteArray)) ++ a2) ++ (⟨#[32, 44, 32]⟩ : ByteArray)) ++ a3) ++ (⟨#[32, 44, 32]⟩ : ByteArray)) ++ a4) ++ (⟨#[32, 41, 32, 58, 32]⟩ : ByteArray)) ++ a5) ++ (⟨#[32, 35, 32]⟩ : ByteArray)) ++ a6) ++ (⟨#[32, 105, 115, 32]⟩ : ByteArray)) ++ a7) ++ (⟨#[32, 59, 32, 125]⟩ : ByteArray))
theorem txt_size (a0 a1 a2 a3 a4 a5 a6 a7 : ByteArray) : (txt a0 a1 a2 a3 a4 a5 a6 a7).size = 37 + a0.size + a1.size + a2.size + a3.size + a4.size + a5.size + a6.size + a7.size := by
  unfold txt
  simp only [ByteArray.size_append]
  have q : ∀ l : List UInt8, (⟨l.toArray⟩ : ByteArray).size = l.length := fun l => by simp [ByteArray.size]
  simp only [q, List.length_cons, List.length_nil]
  omega
theorem L_txt (a0 a1 a2 a3 a4 a5 a6 a7 : ByteArray) : L (txt a0 a1 a2 a3 a4 a5 a6 a7) = spaced (nm (L a0) (L a1) (L a2) (L a3) (L a4) (L a5) (L a6) (L a7)) := by
  unfold txt
  simp only [L_append]
  simp [nm, spaced, L, sType, sRel, sIs]
theorem BL (a : ByteArray) : B (L a) = a := L_inj rfl
theorem nm_good {l0 l1 l2 l3 l4 l5 l6 l7 : List UInt8} (h0 : name l0 = true) (h1 : name l1 = true) (h2 : name l2 = true) (h3 : name l3 = true) (h4 : name l4 = true) (h5 : name l5 = true) (h6 : name l6 = true) (h7 : name l7 = true) : ∀ e ∈ nm l0 l1 l2 l3 l4 l5 l6 l7, goodE e := by
  intro e he
  simp only [nm, List.mem_cons, List.not_mem_nil, or_false] at he
  have n1 : name sType = true := letters_name (by decide) (by decide) (by decide)
  have n2 : name sRel = true := letters_name (by decide) (by decide) (by decide)
  have n3 : name sIs = true := letters_name (by decide) (by decide) (by decide)
  rcases he with rfl | rfl | rfl | rfl | rfl | rfl | rfl | rfl | rfl | rfl | rfl | rfl | rfl | rfl | rfl | rfl | rfl | rfl | rfl | rfl
  all_goals first | exact .inl ⟨rfl, by assumption⟩ | exact .inr ⟨rfl, _, rfl, by decide⟩
theorem stoks_at : ∀ (es : List El) (p i : Nat) (h : i < es.length), (stoks es p)[i]? = some (tokE es[i] (p + spos es i))
  | [], p, i, h => by simp at h
  | [e], p, 0, h => rfl
  | [e], p, i + 1, h => by simp at h
  | e :: f :: es, p, 0, h => rfl
  | e :: f :: es, p, i + 1, h => by
    rw [stoks, List.getElem?_cons_succ, stoks_at (f :: es) _ i (by simpa using h), spos, List.getElem_cons_succ]
    · rw [show p + e.2.length + 1 + spos (f :: es) i = p + (e.2.length + 1 + spos (f :: es) i) by omega]
    · simp
theorem txt_ok {a0 a1 a2 a3 a4 a5 a6 a7 : ByteArray} (h0 : name (L a0) = true ∧ TkKey.key (L a0) = false) (h1 : name (L a1) = true ∧ TkKey.key (L a1) = false) (h2 : name (L a2) = true ∧ TkKey.key (L a2) = false) (h3 : name (L a3) = true ∧ TkKey.key (L a3) = false) (h4 : name (L a4) = true ∧ TkKey.key (L a4) = false) (h5 : name (L a5) = true ∧ TkKey.key (L a5) = false) (h6 : name (L a6) = true ∧ TkKey.key (L a6) = false) (h7 : name (L a7) = true ∧ TkKey.key (L a7) = false) (hs : (txt a0 a1 a2 a3 a4 a5 a6 a7).size ≤ 2048) :
    parse (L (txt a0 a1 a2 a3 a4 a5 a6 a7)) = some (.ok [⟨a0, [⟨a1, a2, a3, a4, [⟨a5, a6⟩], [⟨2, a7, ⟨#[]⟩⟩]⟩]⟩]) := by
  have hl : (spaced (nm (L a0) (L a1) (L a2) (L a3) (L a4) (L a5) (L a6) (L a7))).length ≤ 2048 := by rw [← L_txt, L_length]; exact hs
  unfold parse
  rw [L_txt, all_spaced (nm_good h0.1 h1.1 h2.1 h3.1 h4.1 h5.1 h6.1 h7.1) hl]
  have h2 : ∀ {p0 p1 p2 p3 p4 p5 p6 p7 p8 p9 p10 p11 p12 p13 p14 p15 p16 p17 p18 p19 p20 : Nat}, schemaT (67 + 5) [⟨1, sType, p0⟩, ⟨1, (L a0), p1⟩, ⟨2, [123], p2⟩, ⟨1, sRel, p3⟩, ⟨1, (L a1), p4⟩, ⟨2, [40], p5⟩, ⟨1, (L a2), p6⟩, ⟨2, [44], p7⟩, ⟨1, (L a3), p8⟩, ⟨2, [44], p9⟩, ⟨1, (L a4), p10⟩, ⟨2, [41], p11⟩, ⟨2, [58], p12⟩, ⟨1, (L a5), p13⟩, ⟨2, [35], p14⟩, ⟨1, (L a6), p15⟩, ⟨1, sIs, p16⟩, ⟨1, (L a7), p17⟩, ⟨2, [59], p18⟩, ⟨2, [125], p19⟩, ⟨3, [], p20⟩] =
      some (.ok [⟨a0, [⟨a1, a2, a3, a4, [⟨a5, a6⟩], [⟨2, a7, ⟨#[]⟩⟩]⟩]⟩]) := by
    intros
    rw [names_schema h0.2 h1.2 h2.2 h3.2 h4.2 h5.2 h6.2 h7.2, BL, BL, BL, BL, BL, BL, BL, BL]
  exact h2
theorem at_place {a0 a1 a2 a3 a4 a5 a6 a7 : ByteArray} {i p : Nat} (hp : p = spos (nm (L a0) (L a1) (L a2) (L a3) (L a4) (L a5) (L a6) (L a7)) i) (hi : i < 20) (hd : (nm (L a0) (L a1) (L a2) (L a3) (L a4) (L a5) (L a6) (L a7))[i]'hi = (true, sType)) :
    p + 4 ≤ (txt a0 a1 a2 a3 a4 a5 a6 a7).size ∧ (txt a0 a1 a2 a3 a4 a5 a6 a7).extract p (p + 4) = ⟨#[116, 121, 112, 101]⟩ := by
  have h := spaced_drop (nm (L a0) (L a1) (L a2) (L a3) (L a4) (L a5) (L a6) (L a7)) i hi
  obtain ⟨r, hr⟩ := spaced_head (true, sType) ((nm (L a0) (L a1) (L a2) (L a3) (L a4) (L a5) (L a6) (L a7)).drop (i + 1))
  rw [List.drop_eq_getElem_cons (l := nm (L a0) (L a1) (L a2) (L a3) (L a4) (L a5) (L a6) (L a7)) hi, hd, hr, ← L_txt, ← hp] at h
  have hlen := congrArg List.length h
  rw [List.length_drop, L_length, List.length_append] at hlen
  have hst : sType.length = 4 := rfl
  refine ⟨by show p + 4 ≤ _; simp only [hst] at hlen; omega, ?_⟩
  apply L_inj
  rw [L_extract, h, show p + 4 - p = sType.length by rw [hst]; omega]
  show (sType ++ r).take sType.length = _
  rw [List.take_left]
  rfl
set_option maxHeartbeats 4000000 in
theorem txt_err {a0 a1 a2 a3 a4 a5 a6 a7 : ByteArray} (w : Nat) (hw : w < 8) (k0 : if w = 0 then a0 = ⟨#[116, 121, 112, 101]⟩ else name (L a0) = true ∧ TkKey.key (L a0) = false) (k1 : if w = 1 then a1 = ⟨#[116, 121, 112, 101]⟩ else name (L a1) = true ∧ TkKey.key (L a1) = false) (k2 : if w = 2 then a2 = ⟨#[116, 121, 112, 101]⟩ else name (L a2) = true ∧ TkKey.key (L a2) = false) (k3 : if w = 3 then a3 = ⟨#[116, 121, 112, 101]⟩ else name (L a3) = true ∧ TkKey.key (L a3) = false) (k4 : if w = 4 then a4 = ⟨#[116, 121, 112, 101]⟩ else name (L a4) = true ∧ TkKey.key (L a4) = false) (k5 : if w = 5 then a5 = ⟨#[116, 121, 112, 101]⟩ else name (L a5) = true ∧ TkKey.key (L a5) = false) (k6 : if w = 6 then a6 = ⟨#[116, 121, 112, 101]⟩ else name (L a6) = true ∧ TkKey.key (L a6) = false) (k7 : if w = 7 then a7 = ⟨#[116, 121, 112, 101]⟩ else name (L a7) = true ∧ TkKey.key (L a7) = false) (hs : (txt a0 a1 a2 a3 a4 a5 a6 a7).size ≤ 2048) :
    ∃ p, parse (L (txt a0 a1 a2 a3 a4 a5 a6 a7)) = some (.error (30, p)) ∧ p + 4 ≤ (txt a0 a1 a2 a3 a4 a5 a6 a7).size ∧ (txt a0 a1 a2 a3 a4 a5 a6 a7).extract p (p + 4) = ⟨#[116, 121, 112, 101]⟩ ∧ 0 < p := by
  have hl : (spaced (nm (L a0) (L a1) (L a2) (L a3) (L a4) (L a5) (L a6) (L a7))).length ≤ 2048 := by rw [← L_txt, L_length]; exact hs
  have hn : ∀ (i : Nat) (a : ByteArray), (if w = i then a = ⟨#[116, 121, 112, 101]⟩ else name (L a) = true ∧ TkKey.key (L a) = false) → name (L a) = true := by
    intro i a h
    split at h
    · rw [h]; exact letters_name (by decide) (by decide) (by decide)
    · exact h.1
  have hk : ∀ (i : Nat) (a : ByteArray), (if w = i then a = ⟨#[116, 121, 112, 101]⟩ else name (L a) = true ∧ TkKey.key (L a) = false) → (if w = i then L a = sType else TkKey.key (L a) = false) := by
    intro i a h
    split at h
    · rename_i e; rw [if_pos e, h]; rfl
    · rename_i e; rw [if_neg e]; exact h.2
  unfold parse
  rw [L_txt, all_spaced (nm_good (hn 0 _ k0) (hn 1 _ k1) (hn 2 _ k2) (hn 3 _ k3) (hn 4 _ k4) (hn 5 _ k5) (hn 6 _ k6) (hn 7 _ k7)) hl]
  have h2 := fun {p0 p1 p2 p3 p4 p5 p6 p7 p8 p9 p10 p11 p12 p13 p14 p15 p16 p17 : Nat} {T : List Tok} {k : Nat} => @nm_err (L a0) (L a1) (L a2) (L a3) (L a4) (L a5) (L a6) (L a7) p0 p1 p2 p3 p4 p5 p6 p7 p8 p9 p10 p11 p12 p13 p14 p15 p16 p17 T k w hw (hk 0 _ k0) (hk 1 _ k1) (hk 2 _ k2) (hk 3 _ k3) (hk 4 _ k4) (hk 5 _ k5) (hk 6 _ k6) (hk 7 _ k7)
  have h3 : ∃ ps : List Nat, ps = [spos (nm (L a0) (L a1) (L a2) (L a3) (L a4) (L a5) (L a6) (L a7)) 1, spos (nm (L a0) (L a1) (L a2) (L a3) (L a4) (L a5) (L a6) (L a7)) 4, spos (nm (L a0) (L a1) (L a2) (L a3) (L a4) (L a5) (L a6) (L a7)) 6, spos (nm (L a0) (L a1) (L a2) (L a3) (L a4) (L a5) (L a6) (L a7)) 8, spos (nm (L a0) (L a1) (L a2) (L a3) (L a4) (L a5) (L a6) (L a7)) 10, spos (nm (L a0) (L a1) (L a2) (L a3) (L a4) (L a5) (L a6) (L a7)) 13, spos (nm (L a0) (L a1) (L a2) (L a3) (L a4) (L a5) (L a6) (L a7)) 15, spos (nm (L a0) (L a1) (L a2) (L a3) (L a4) (L a5) (L a6) (L a7)) 17] ∧ schemaT (67 + 5) (stoks (nm (L a0) (L a1) (L a2) (L a3) (L a4) (L a5) (L a6) (L a7)) 0) = some (.error (30, ps.getD w 0)) := by
    refine ⟨_, ?_, h2⟩
    have q : ∀ i (h : i < 20), (stoks (nm (L a0) (L a1) (L a2) (L a3) (L a4) (L a5) (L a6) (L a7)) 0)[i]? = some (tokE ((nm (L a0) (L a1) (L a2) (L a3) (L a4) (L a5) (L a6) (L a7))[i]'h) (0 + spos (nm (L a0) (L a1) (L a2) (L a3) (L a4) (L a5) (L a6) (L a7)) i)) := fun i h => stoks_at (nm (L a0) (L a1) (L a2) (L a3) (L a4) (L a5) (L a6) (L a7)) 0 i h
    have q1 := congrArg (fun o : Option Tok => (o.map Tok.at_).getD 0) (q 1 (by decide))
    have q4 := congrArg (fun o : Option Tok => (o.map Tok.at_).getD 0) (q 4 (by decide))
    have q6 := congrArg (fun o : Option Tok => (o.map Tok.at_).getD 0) (q 6 (by decide))
    have q8 := congrArg (fun o : Option Tok => (o.map Tok.at_).getD 0) (q 8 (by decide))
    have q10 := congrArg (fun o : Option Tok => (o.map Tok.at_).getD 0) (q 10 (by decide))
    have q13 := congrArg (fun o : Option Tok => (o.map Tok.at_).getD 0) (q 13 (by decide))
    have q15 := congrArg (fun o : Option Tok => (o.map Tok.at_).getD 0) (q 15 (by decide))
    have q17 := congrArg (fun o : Option Tok => (o.map Tok.at_).getD 0) (q 17 (by decide))
    simp only [Nat.zero_add] at q1 q4 q6 q8 q10 q13 q15 q17
    rw [← show _ = spos (nm (L a0) (L a1) (L a2) (L a3) (L a4) (L a5) (L a6) (L a7)) 1 from q1, ← show _ = spos (nm (L a0) (L a1) (L a2) (L a3) (L a4) (L a5) (L a6) (L a7)) 4 from q4, ← show _ = spos (nm (L a0) (L a1) (L a2) (L a3) (L a4) (L a5) (L a6) (L a7)) 6 from q6, ← show _ = spos (nm (L a0) (L a1) (L a2) (L a3) (L a4) (L a5) (L a6) (L a7)) 8 from q8, ← show _ = spos (nm (L a0) (L a1) (L a2) (L a3) (L a4) (L a5) (L a6) (L a7)) 10 from q10, ← show _ = spos (nm (L a0) (L a1) (L a2) (L a3) (L a4) (L a5) (L a6) (L a7)) 13 from q13, ← show _ = spos (nm (L a0) (L a1) (L a2) (L a3) (L a4) (L a5) (L a6) (L a7)) 15 from q15, ← show _ = spos (nm (L a0) (L a1) (L a2) (L a3) (L a4) (L a5) (L a6) (L a7)) 17 from q17]
    rfl
  obtain ⟨ps, rfl, h3⟩ := h3
  refine ⟨_, h3, ?_⟩
  have hc : w = 0 ∨ w = 1 ∨ w = 2 ∨ w = 3 ∨ w = 4 ∨ w = 5 ∨ w = 6 ∨ w = 7 := by omega
  have pos : ∀ i, 0 < spos (nm (L a0) (L a1) (L a2) (L a3) (L a4) (L a5) (L a6) (L a7)) (i + 1) := fun i => by unfold nm; rw [spos]; omega
  rcases hc with rfl | rfl | rfl | rfl | rfl | rfl | rfl | rfl
  · have e : a0 = ⟨#[116, 121, 112, 101]⟩ := by simpa using k0
    obtain ⟨x, y⟩ := at_place (a0 := a0) (a1 := a1) (a2 := a2) (a3 := a3) (a4 := a4) (a5 := a5) (a6 := a6) (a7 := a7) (i := 1) rfl (by decide) (by show (true, L a0) = _; rw [e]; rfl)
    exact ⟨x, y, pos _⟩
  · have e : a1 = ⟨#[116, 121, 112, 101]⟩ := by simpa using k1
    obtain ⟨x, y⟩ := at_place (a0 := a0) (a1 := a1) (a2 := a2) (a3 := a3) (a4 := a4) (a5 := a5) (a6 := a6) (a7 := a7) (i := 4) rfl (by decide) (by show (true, L a1) = _; rw [e]; rfl)
    exact ⟨x, y, pos _⟩
  · have e : a2 = ⟨#[116, 121, 112, 101]⟩ := by simpa using k2
    obtain ⟨x, y⟩ := at_place (a0 := a0) (a1 := a1) (a2 := a2) (a3 := a3) (a4 := a4) (a5 := a5) (a6 := a6) (a7 := a7) (i := 6) rfl (by decide) (by show (true, L a2) = _; rw [e]; rfl)
    exact ⟨x, y, pos _⟩
  · have e : a3 = ⟨#[116, 121, 112, 101]⟩ := by simpa using k3
    obtain ⟨x, y⟩ := at_place (a0 := a0) (a1 := a1) (a2 := a2) (a3 := a3) (a4 := a4) (a5 := a5) (a6 := a6) (a7 := a7) (i := 8) rfl (by decide) (by show (true, L a3) = _; rw [e]; rfl)
    exact ⟨x, y, pos _⟩
  · have e : a4 = ⟨#[116, 121, 112, 101]⟩ := by simpa using k4
    obtain ⟨x, y⟩ := at_place (a0 := a0) (a1 := a1) (a2 := a2) (a3 := a3) (a4 := a4) (a5 := a5) (a6 := a6) (a7 := a7) (i := 10) rfl (by decide) (by show (true, L a4) = _; rw [e]; rfl)
    exact ⟨x, y, pos _⟩
  · have e : a5 = ⟨#[116, 121, 112, 101]⟩ := by simpa using k5
    obtain ⟨x, y⟩ := at_place (a0 := a0) (a1 := a1) (a2 := a2) (a3 := a3) (a4 := a4) (a5 := a5) (a6 := a6) (a7 := a7) (i := 13) rfl (by decide) (by show (true, L a5) = _; rw [e]; rfl)
    exact ⟨x, y, pos _⟩
  · have e : a6 = ⟨#[116, 121, 112, 101]⟩ := by simpa using k6
    obtain ⟨x, y⟩ := at_place (a0 := a0) (a1 := a1) (a2 := a2) (a3 := a3) (a4 := a4) (a5 := a5) (a6 := a6) (a7 := a7) (i := 15) rfl (by decide) (by show (true, L a6) = _; rw [e]; rfl)
    exact ⟨x, y, pos _⟩
  · have e : a7 = ⟨#[116, 121, 112, 101]⟩ := by simpa using k7
    obtain ⟨x, y⟩ := at_place (a0 := a0) (a1 := a1) (a2 := a2) (a3 := a3) (a4 := a4) (a5 := a5) (a6 := a6) (a7 := a7) (i := 17) rfl (by decide) (by show (true, L a7) = _; rw [e]; rfl)
    exact ⟨x, y, pos _⟩
end Go.Proofs.YtkgnhghaiopgcaaDoor.Pq
