/- For every input GlyphOrder returns true: of two valid texts the one that is below byte by byte is below rune by rune. No condition. -/
import Derived.Test.YtlipjbdigpoacaaGlAwake
import Derived.Test.YtlipjbdigpoacaaGlRef
import Derived.OpenShut
import Derived.Test.YtlipjbdigpoacaaX12
import Derived.Test.YtlipjbdigpoacaaX12
set_option linter.unusedSimpArgs false
namespace Go.Proofs.Ytlipjbdigpoacaa.Pure
open Go.RowKit Go.Proofs.Ytlipjbdigpoacaa.X Go.Proofs.YtlipjbdigpoacaaW.PrintWords Go.Proofs.YtlipjbdigpoacaaW.PrintLast Go.Proofs.YtlipjbdigpoacaaW.PrintMore Go.Proofs.Ytlipjbdigpoacaa.Gl Go.Proofs.Ytlipjbdigpoacaa.GlFn Go.Proofs.Ytlipjbdigpoacaa.GlRef

/-- What a text's runes are worth. -/
def vals (l : List UInt8) : List Int :=
  if l.length = 0 then [] else (val l : Int) :: vals (l.drop (stp l))
termination_by l.length
decreasing_by simp only [List.length_drop]; have := stp_pos l; omega
theorem vals_nil : vals [] = [] := by rw [vals]; rfl
theorem vals_step (l : List UInt8) (h : l ≠ []) : vals l = (val l : Int) :: vals (l.drop (stp l)) := by
  rw [vals, if_neg (by simpa using h)]
theorem vals_len (l : List UInt8) : (vals l).length = cnt l := by
  induction l using runes_ind with
  | h0 => rw [vals_nil, cnt_nil]; rfl
  | h1 l h ih => rw [vals_step l h, cnt_step l h, List.length_cons, ih]; omega

/-- One list of numbers is below another one. -/
def nless : List Int → List Int → Bool
  | _, [] => false
  | [], _ :: _ => true
  | a :: x, b :: y => decide (a < b) || (decide (a = b) && nless x y)

theorem bl_cons (c d : UInt8) (x y : List UInt8) : Op.bytesLess (c :: x) (d :: y) = true ↔ c.toNat < d.toNat ∨ (c.toNat = d.toNat ∧ Op.bytesLess x y = true) := by
  simp only [Op.bytesLess, Bool.or_eq_true, Bool.and_eq_true, decide_eq_true_eq, beq_iff_eq, UInt8.lt_iff_toNat_lt, UInt8.toNat_inj]

theorem bl_same (r : List UInt8) : ∀ x y, Op.bytesLess (r ++ x) (r ++ y) = Op.bytesLess x y := by
  induction r with
  | nil => intro x y; rfl
  | cons c r ih =>
    intro x y
    rw [List.cons_append, List.cons_append, Bool.eq_iff_iff, bl_cons, ih]
    constructor
    · rintro (h | ⟨_, h⟩)
      · omega
      · exact h
    · exact fun h => .inr ⟨rfl, h⟩

theorem split1 (l : List UInt8) (h : 1 ≤ l.length) : ∃ r, l = l.getD 0 0 :: r := by
  match l, h with
  | c :: r, _ => exact ⟨r, rfl⟩
theorem split2 (l : List UInt8) (h : 2 ≤ l.length) : ∃ r, l = l.getD 0 0 :: l.getD 1 0 :: r := by
  match l, h with
  | c :: d :: r, _ => exact ⟨r, rfl⟩
theorem split3 (l : List UInt8) (h : 3 ≤ l.length) : ∃ r, l = l.getD 0 0 :: l.getD 1 0 :: l.getD 2 0 :: r := by
  match l, h with
  | c :: d :: e :: r, _ => exact ⟨r, rfl⟩
theorem split4 (l : List UInt8) (h : 4 ≤ l.length) : ∃ r, l = l.getD 0 0 :: l.getD 1 0 :: l.getD 2 0 :: l.getD 3 0 :: r := by
  match l, h with
  | c :: d :: e :: f :: r, _ => exact ⟨r, rfl⟩

def Heads (a b : List UInt8) : Prop :=
  (val a = val b → stp a = stp b ∧ a.take (stp a) = b.take (stp b)) ∧ (val a < val b → Op.bytesLess a b = true) ∧ (val b < val a → Op.bytesLess a b = false)

theorem heads_far (a b : List UInt8) (ha : 1 ≤ a.length) (hb : 1 ≤ b.length) (h : (a.getD 0 0).toNat < (b.getD 0 0).toNat) (hv : val a < val b) : Heads a b ∧ Heads b a := by
  obtain ⟨r, er⟩ := split1 a ha
  obtain ⟨q, eq⟩ := split1 b hb
  have h1 : Op.bytesLess a b = true := by rw [er, eq, bl_cons]; exact .inl h
  have h2 : Op.bytesLess b a = false := by
    rw [er, eq, ← Bool.not_eq_true, bl_cons]; omega
  exact ⟨⟨fun e => by omega, fun _ => h1, fun e => by omega⟩, ⟨fun e => by omega, fun e => by omega, fun _ => h2⟩⟩

theorem stp_of {l : List UInt8} {m : Nat} (h : rlen l = m + 1) : stp l = m + 1 := by unfold stp; rw [h]; rfl

theorem heads (a b : List UInt8) (ha : rlen a ≠ 0) (hb : rlen b ≠ 0) : Heads a b := by
  have ca := rlen_cases a
  have cb := rlen_cases b
  rcases ca with e | ⟨e, h⟩ | ⟨e, h⟩ | ⟨e, h⟩ | ⟨e, h⟩
  · exact absurd e ha
  all_goals rcases cb with e' | ⟨e', h'⟩ | ⟨e', h'⟩ | ⟨e', h'⟩ | ⟨e', h'⟩
  all_goals first | (exact absurd e' hb) | skip
  -- of different lengths: the first byte decides
  all_goals first | (refine (heads_far a b (by omega) (by omega) (by omega) ?_).1; unfold val; rw [e, e']; simp only [Nat.reduceEqDiff, if_true, if_false, Nat.succ_ne_self]; omega) | skip
  all_goals first | (refine (heads_far b a (by omega) (by omega) (by omega) ?_).2; unfold val; rw [e, e']; simp only [Nat.reduceEqDiff, if_true, if_false, Nat.succ_ne_self]; omega) | skip
  · obtain ⟨r, er⟩ := split1 a (by omega)
    obtain ⟨q, eq⟩ := split1 b (by omega)
    unfold Heads
    rw [stp_of e, stp_of e']
    unfold val
    rw [e, e']
    simp only [Nat.reduceEqDiff, if_true, if_false, Nat.succ_ne_self]
    generalize a.getD 0 0 = c0 at *; generalize b.getD 0 0 = d0 at *
    subst er; subst eq
    refine ⟨fun hv => ⟨trivial, by rw [UInt8.toNat_inj.mp hv]; rfl⟩, fun hv => by rw [bl_cons]; omega, fun hv => by rw [← Bool.not_eq_true, bl_cons]; omega⟩
  · obtain ⟨r, er⟩ := split2 a (by omega)
    obtain ⟨q, eq⟩ := split2 b (by omega)
    unfold Heads
    rw [stp_of e, stp_of e']
    unfold val
    rw [e, e']
    simp only [Nat.reduceEqDiff, if_true, if_false, Nat.succ_ne_self]
    generalize a.getD 0 0 = c0 at *; generalize b.getD 0 0 = d0 at *
    generalize a.getD 1 0 = c1 at *; generalize b.getD 1 0 = d1 at *
    subst er; subst eq
    refine ⟨fun hv => ⟨trivial, ?_⟩, fun hv => by rw [bl_cons, bl_cons]; omega, fun hv => by rw [← Bool.not_eq_true, bl_cons, bl_cons]; omega⟩
    have x0 : c0.toNat = d0.toNat := by omega
    have x1 : c1.toNat = d1.toNat := by omega
    rw [UInt8.toNat_inj.mp x0, UInt8.toNat_inj.mp x1]; rfl
  · obtain ⟨r, er⟩ := split3 a (by omega)
    obtain ⟨q, eq⟩ := split3 b (by omega)
    unfold Heads
    rw [stp_of e, stp_of e']
    unfold val
    rw [e, e']
    simp only [Nat.reduceEqDiff, if_true, if_false, Nat.succ_ne_self]
    generalize a.getD 0 0 = c0 at *; generalize b.getD 0 0 = d0 at *
    generalize a.getD 1 0 = c1 at *; generalize b.getD 1 0 = d1 at *
    generalize a.getD 2 0 = c2 at *; generalize b.getD 2 0 = d2 at *
    subst er; subst eq
    refine ⟨fun hv => ⟨trivial, ?_⟩, fun hv => by rw [bl_cons, bl_cons, bl_cons]; omega, fun hv => by rw [← Bool.not_eq_true, bl_cons, bl_cons, bl_cons]; omega⟩
    have x0 : c0.toNat = d0.toNat := by omega
    have x1 : c1.toNat = d1.toNat := by omega
    have x2 : c2.toNat = d2.toNat := by omega
    rw [UInt8.toNat_inj.mp x0, UInt8.toNat_inj.mp x1, UInt8.toNat_inj.mp x2]; rfl
  · obtain ⟨r, er⟩ := split4 a (by omega)
    obtain ⟨q, eq⟩ := split4 b (by omega)
    unfold Heads
    rw [stp_of e, stp_of e']
    unfold val
    rw [e, e']
    simp only [Nat.reduceEqDiff, if_true, if_false, Nat.succ_ne_self]
    generalize a.getD 0 0 = c0 at *; generalize b.getD 0 0 = d0 at *
    generalize a.getD 1 0 = c1 at *; generalize b.getD 1 0 = d1 at *
    generalize a.getD 2 0 = c2 at *; generalize b.getD 2 0 = d2 at *
    generalize a.getD 3 0 = c3 at *; generalize b.getD 3 0 = d3 at *
    subst er; subst eq
    refine ⟨fun hv => ⟨trivial, ?_⟩, fun hv => by rw [bl_cons, bl_cons, bl_cons, bl_cons]; omega, fun hv => by rw [← Bool.not_eq_true, bl_cons, bl_cons, bl_cons, bl_cons]; omega⟩
    have x0 : c0.toNat = d0.toNat := by omega
    have x1 : c1.toNat = d1.toNat := by omega
    have x2 : c2.toNat = d2.toNat := by omega
    have x3 : c3.toNat = d3.toNat := by omega
    rw [UInt8.toNat_inj.mp x0, UInt8.toNat_inj.mp x1, UInt8.toNat_inj.mp x2, UInt8.toNat_inj.mp x3]; rfl

theorem bl_nil (l : List UInt8) : Op.bytesLess l [] = false := by cases l <;> rfl
theorem nl_nil (l : List Int) : nless l [] = false := by cases l <;> rfl

theorem order (a : List UInt8) : ∀ b, vld a = true → vld b = true → Op.bytesLess a b = nless (vals a) (vals b) := by
  induction a using runes_ind with
  | h0 =>
    intro b _ _
    by_cases hb : b = []
    · subst hb; rw [vals_nil, bl_nil, nl_nil]
    · obtain ⟨c, r, rfl⟩ := List.exists_cons_of_ne_nil hb
      rw [vals_nil, vals_step _ hb]; rfl
  | h1 a h ih =>
    intro b ha hb
    by_cases hb0 : b = []
    · subst hb0; rw [vals_nil, bl_nil, nl_nil]
    · obtain ⟨ra, va⟩ := vld_head ha h
      obtain ⟨rb, vb⟩ := vld_head hb hb0
      obtain ⟨k1, k2, k3⟩ := heads a b ra rb
      rw [vals_step a h, vals_step b hb0, nless]
      by_cases hv : val a = val b
      · obtain ⟨e1, e2⟩ := k1 hv
        have i := ih (b.drop (stp b)) va vb
        have h1 := bl_same (a.take (stp a)) (a.drop (stp a)) (b.drop (stp b))
        rw [List.take_append_drop] at h1
        rw [e2, List.take_append_drop] at h1
        rw [h1, i, hv]; simp
      · by_cases hlt : val a < val b
        · rw [k2 hlt, decide_eq_true (by omega)]; rfl
        · rw [k3 (by omega), decide_eq_false (by omega), decide_eq_false (by omega)]; rfl

/-! ### The program's worth -/
theorem bt_in (s : ByteArray) (p k : Nat) : bt s ((p : Int) + (k : Int)) = (((L s).drop p).getD k 0).toNat := by
  have := bt_L s p k
  rwa [Int.natCast_add] at this

theorem l1_one (k : Nat) (s : ByteArray) (acc : List Int) (p m : Nat) (x : Int) (j : Nat) (hs : s.size ≤ 100) (hj : j < m) (hm : p + m ≤ s.size) (hx : 0 ≤ x ∧ x ≤ 100000000) :
    doormanlaw02_worth.l1 (k + 1) s acc p m x j = doormanlaw02_worth.l1 k s acc p m (x * 64 + ((((L s).drop p).getD j 0).toNat % 64 : Nat)) (j + 1 : Nat) := by
  have hb := (((L s).drop p).getD j 0).toNat_lt
  simp only [doormanlaw02_worth.l1]
  rw [if_pos (by omega), w64 (i := (p : Int) + (j : Int)) (by omega) (by omega), if_pos (by omega), if_pos (by omega), bt_in]
  generalize (((L s).drop p).getD j 0).toNat = c at *
  rw [w64 (i := (c : Int)) (by omega) (by omega), Int.tmod_eq_emod_of_nonneg (by omega), w64 (i := x * 64) (by omega) (by omega), w64 (by omega) (by omega), w64 (i := (j : Int) + 1) (by omega) (by omega)]
  rfl

theorem l1_end (k : Nat) (s : ByteArray) (acc : List Int) (p m : Nat) (x : Int) (hs : s.size ≤ 100) (hp : p < s.size) (ha : acc.length ≤ 100) (hk : 6 ≤ k) :
    doormanlaw02_worth.l1 (k + 1) s acc p m x m = doormanlaw02_worth.l0 k s (acc ++ [x]) ((p + stp ((L s).drop p) : Nat) : Int) := by
  simp only [doormanlaw02_worth.l1]
  rw [if_neg (by omega), if_pos (by omega), Step_f s p k (by omega) hp hk, ob]

theorem worth_l0 (s : ByteArray) (hs : s.size ≤ 100) : ∀ (d k p : Nat) (acc : List Int), s.size - p = d → 7 * d + 12 < k → p ≤ s.size → acc.length ≤ p → vld ((L s).drop p) = true →
    doormanlaw02_worth.l0 k s acc p = some (acc ++ vals ((L s).drop p)) := by
  intro d
  induction d using Nat.strongRecOn with
  | _ d ih =>
    intro k p acc hd hk hp ha hv
    obtain ⟨k, rfl⟩ : ∃ m, k = m + 7 := ⟨k - 7, by omega⟩
    by_cases h : p < s.size
    · have hne := drop_ne h
      obtain ⟨hr, hv'⟩ := vld_head hv hne
      have h1 := stp_pos ((L s).drop p); have h2 := stp_le _ hne
      have hsr : stp ((L s).drop p) = rlen ((L s).drop p) := by unfold stp; rw [if_neg hr]
      have hlen : ((L s).drop p).length = s.size - p := by rw [List.length_drop, L_length]
      have rest : ∀ k', 6 ≤ k' → 7 * (d - stp ((L s).drop p)) + 12 < k' → doormanlaw02_worth.l0 k' s (acc ++ [(val ((L s).drop p) : Int)]) ((p + stp ((L s).drop p) : Nat) : Int) = some (acc ++ vals ((L s).drop p)) := by
        intro k' _ hk'
        rw [List.drop_drop] at hv'
        rw [ih (d - stp ((L s).drop p)) (by omega) k' (p + stp ((L s).drop p)) _ (by omega) (by omega) (by omega) (by rw [List.length_append]; simp only [List.length_cons, List.length_nil]; omega) hv', vals_step _ hne, List.drop_drop, List.append_assoc]
        rfl
      have hc := rlen_cases ((L s).drop p)
      simp only [doormanlaw02_worth.l0]
      rw [if_pos (by omega), Long_f s p (k + 6) (by omega) h (by omega), ob, if_pos (by omega), bt_0]
      have b0 := (((L s).drop p).getD 0 0).toNat_lt
      rw [w64 (i := ((((L s).drop p).getD 0 0).toNat : Int)) (by omega) (by omega)]
      have vd : val ((L s).drop p) = val ((L s).drop p) := rfl
      conv at vd => rhs; unfold val
      rcases hc with e | ⟨e, _⟩ | ⟨e, hh⟩ | ⟨e, hh⟩ | ⟨e, hh⟩
      · exact absurd e hr
      · rw [e] at vd ⊢
        simp only [Nat.reduceEqDiff, if_true, if_false, Nat.succ_ne_self] at vd
        rw [if_neg (by omega)]
        simp only [doormanlaw02_worth.j1]
        rw [show ((1 : Int)) = ((1 : Nat) : Int) from rfl, l1_end _ s acc p 1 _ hs h (by omega) (by omega), ← vd]
        exact rest _ (by omega) (by omega)
      · rw [e] at vd ⊢
        simp only [Nat.reduceEqDiff, if_true, if_false, Nat.succ_ne_self] at vd
        rw [if_pos (by omega), ob, if_pos (by omega), if_pos (by simp), show rd [0, 0, 32, 16, 8] ((2 : Nat) : Int) = 32 from rfl, if_neg (by omega), Int.tmod_eq_emod_of_nonneg (by omega)]
        simp only [doormanlaw02_worth.j1]
        rw [show ((1 : Int)) = ((1 : Nat) : Int) from rfl, l1_one _ s acc p 2 _ 1 hs (by omega) (by omega) (by omega), l1_end _ s acc p 2 _ hs h (by omega) (by omega)]
        rw [show ((((L s).drop p).getD 0 0).toNat : Int) % 32 * 64 + ((((L s).drop p).getD 1 0).toNat % 64 : Nat) = (val ((L s).drop p) : Int) by rw [vd]; omega]
        exact rest _ (by omega) (by omega)
      · rw [e] at vd ⊢
        simp only [Nat.reduceEqDiff, if_true, if_false, Nat.succ_ne_self] at vd
        rw [if_pos (by omega), ob, if_pos (by omega), if_pos (by simp), show rd [0, 0, 32, 16, 8] ((3 : Nat) : Int) = 16 from rfl, if_neg (by omega), Int.tmod_eq_emod_of_nonneg (by omega)]
        simp only [doormanlaw02_worth.j1]
        rw [show ((1 : Int)) = ((1 : Nat) : Int) from rfl, l1_one _ s acc p 3 _ 1 hs (by omega) (by omega) (by omega), l1_one _ s acc p 3 _ 2 hs (by omega) (by omega) (by omega), l1_end _ s acc p 3 _ hs h (by omega) (by omega)]
        rw [show (((((L s).drop p).getD 0 0).toNat : Int) % 16 * 64 + ((((L s).drop p).getD 1 0).toNat % 64 : Nat)) * 64 + ((((L s).drop p).getD 2 0).toNat % 64 : Nat) = (val ((L s).drop p) : Int) by rw [vd]; omega]
        exact rest _ (by omega) (by omega)
      · rw [e] at vd ⊢
        simp only [Nat.reduceEqDiff, if_true, if_false, Nat.succ_ne_self] at vd
        rw [if_pos (by omega), ob, if_pos (by omega), if_pos (by simp), show rd [0, 0, 32, 16, 8] ((4 : Nat) : Int) = 8 from rfl, if_neg (by omega), Int.tmod_eq_emod_of_nonneg (by omega)]
        simp only [doormanlaw02_worth.j1]
        rw [show ((1 : Int)) = ((1 : Nat) : Int) from rfl, l1_one _ s acc p 4 _ 1 hs (by omega) (by omega) (by omega), l1_one _ s acc p 4 _ 2 hs (by omega) (by omega) (by omega), l1_one _ s acc p 4 _ 3 hs (by omega) (by omega) (by omega), l1_end _ s acc p 4 _ hs h (by omega) (by omega)]
        rw [show ((((((L s).drop p).getD 0 0).toNat : Int) % 8 * 64 + ((((L s).drop p).getD 1 0).toNat % 64 : Nat)) * 64 + ((((L s).drop p).getD 2 0).toNat % 64 : Nat)) * 64 + ((((L s).drop p).getD 3 0).toNat % 64 : Nat) = (val ((L s).drop p) : Int) by rw [vd]; omega]
        exact rest _ (by omega) (by omega)
    · simp only [doormanlaw02_worth.l0]
      rw [if_neg (by omega), drop_nil h, vals_nil, List.append_nil]

theorem worth_f (s : ByteArray) (k : Nat) (hs : s.size ≤ 100) (hk : 800 ≤ k) (hv : vld (L s) = true) : doormanlaw02_worth.f k s = some (vals (L s)) := by
  unfold doormanlaw02_worth.f
  have := worth_l0 s hs s.size k 0 [] rfl (by omega) (by omega) (by simp) (by simpa using hv)
  simpa using this

theorem rd_at (X : List Int) (i : Nat) (h : i < X.length) : X.drop i = rd X i :: X.drop (i + 1) := by
  rw [List.drop_eq_getElem_cons h]
  unfold rd
  simp [List.getD_eq_getElem?_getD, h]

theorem order_l0 (a b : ByteArray) (X Y : List Int) (hX : X = vals (L a)) (ha : a.size ≤ 100) (hb : Y.length ≤ 100) (ho : Op.bytesLess (L a) (L b) = nless X Y) :
    ∀ (d k i : Nat), X.length - i = d → 2 * d + 2 < k → i ≤ X.length → i ≤ Y.length → nless X Y = nless (X.drop i) (Y.drop i) →
    doormanlaw02_GlyphOrder.l0 k a b X Y (decide ((X.length : Int) < (Y.length : Int))) i = some true := by
  have hlen : X.length = cnt (L a) := by rw [hX, vals_len]
  have hca := cnt_le (L a)
  rw [L_length] at hca
  have fin : ∀ v : Bool, v = nless X Y → (if ((Op.bytesLess a.toList b.toList) == v) = true then ((glyph_Count.f a).bind fun t181 => (some ((X.length : Int) == t181))) else (some false)) = some true := by
    intro v hv
    rw [toL, toL, ho, hv, beq_self_eq_true, if_pos rfl, Count_f a (by omega), ob, hlen, beq_self_eq_true]
  intro d
  induction d with
  | zero =>
    intro k i hd hk hi hj hn
    obtain ⟨k, rfl⟩ : ∃ m, k = m + 2 := ⟨k - 2, by omega⟩
    simp only [doormanlaw02_GlyphOrder.l0, doormanlaw02_GlyphOrder.j2]
    rw [if_neg (by omega), if_neg (by simp)]
    apply fin
    rw [hn, show X.drop i = [] from List.drop_eq_nil_of_le (by omega)]
    by_cases h : i < Y.length
    · rw [rd_at Y i h, decide_eq_true (by omega)]; rfl
    · rw [show Y.drop i = [] from List.drop_eq_nil_of_le (by omega), decide_eq_false (by omega)]; rfl
  | succ d ih =>
    intro k i hd hk hi hj hn
    obtain ⟨k, rfl⟩ : ∃ m, k = m + 2 := ⟨k - 2, by omega⟩
    simp only [doormanlaw02_GlyphOrder.l0, doormanlaw02_GlyphOrder.j2]
    rw [if_pos (by omega)]
    by_cases h : i < Y.length
    · rw [decide_eq_true (show (i : Int) < (Y.length : Int) by omega), if_pos rfl, if_pos (by omega), if_pos (by omega), if_pos (by omega)]
      have hn' := hn
      rw [rd_at X i (by omega), rd_at Y i h, nless] at hn'
      by_cases he : rd X i = rd Y i
      · rw [if_pos he, w64 (by omega) (by omega)]
        refine ih k (i + 1) (by omega) (by omega) (by omega) (by omega) ?_
        rw [hn', he]; simp
      · rw [if_neg he]
        apply fin
        rw [hn', decide_eq_false he]; simp
    · rw [decide_eq_false (show ¬ (i : Int) < (Y.length : Int) by omega), if_neg (by simp)]
      apply fin
      rw [hn, show Y.drop i = [] from List.drop_eq_nil_of_le (by omega), nl_nil, decide_eq_false (by omega)]

theorem GlyphOrder : doormanlaw02_GlyphOrder.Pure := by
  intro a b ha hb
  suffices h : ∀ k, 800 ≤ k → doormanlaw02_GlyphOrder.f (k + 1) a b = some true from ⟨_, h 800 (by omega)⟩
  intro k hk
  unfold doormanlaw02_GlyphOrder.f
  rw [GlAwake.awake]
  simp only [ob, if_true]
  by_cases h1 : (a.size : Int) > 100
  · rw [if_pos h1]; simp only [doormanlaw02_GlyphOrder.j0, if_true]
  rw [if_neg h1]
  by_cases h2 : (b.size : Int) > 100
  · rw [if_pos h2]; simp only [doormanlaw02_GlyphOrder.j0, if_true]
  rw [if_neg h2, Valid_f]
  simp only [ob]
  cases va : vld (L a) with
  | false => rw [if_neg (by simp)]; simp only [doormanlaw02_GlyphOrder.j0, if_true]
  | true =>
    rw [if_pos rfl, Valid_f, ob]
    cases vb : vld (L b) with
    | false => simp only [Bool.not_false, doormanlaw02_GlyphOrder.j0, if_true]
    | true =>
      simp only [Bool.not_true, doormanlaw02_GlyphOrder.j0]
      rw [if_neg (by simp), worth_f a k (by omega) hk va, ob, worth_f b k (by omega) hk vb, ob]
      have la := vals_len (L a); have lb := vals_len (L b)
      have ca := cnt_le (L a); have cb := cnt_le (L b)
      rw [L_length] at ca cb
      exact order_l0 a b _ _ rfl (by omega) (by omega) (order _ _ va vb) (vals (L a)).length k 0 (by omega) (by omega) (by omega) (by omega) rfl

end Go.Proofs.Ytlipjbdigpoacaa.Pure
