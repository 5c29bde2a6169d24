/- What the printed functions of package match compute, in plain words; no program walked; no condition. -/
import Derived.Test.YthpcplpannbipaaY4
import Derived.Test.YthpcplpannbipaaY2
set_option linter.unusedVariables false
set_option linter.unusedSimpArgs false
namespace Go.Proofs.Ythpcplpannbipaa.Mr
open Go.RowKit Go.Proofs.YthpcplpannbipaaW.PrintWords Go.Proofs.YthpcplpannbipaaW.PrintLast Go.Proofs.Ythpcplpannbipaa.Kx Go.Proofs.Ythpcplpannbipaa.Y Go.Proofs.Ythpcplpannbipaa.Mp Go.Proofs.Ythpcplpannbipaa.Mq

theorem ba_ext {x y : ByteArray} (h : x.toList = y.toList) : x = y := by
  rw [Lib.toList_data, Lib.toList_data] at h
  exact ByteArray.ext (Array.toList_inj.1 h)
theorem blt_eq (x y : ByteArray) : blt x y = decide (x.data.toList < y.data.toList) := by
  unfold blt; rw [bytesLess_eq, Lib.toList_data, Lib.toList_data]
theorem blt_TO : TO blt where
  irr x := by rw [blt_eq]; exact decide_eq_false (List.lt_irrefl _)
  tr h1 h2 := by
    rw [blt_eq, decide_eq_true_eq] at h1 h2 ⊢
    exact List.lt_trans h1 h2
  tri h1 h2 := by
    rw [blt_eq, decide_eq_false_iff_not] at h1 h2
    have := List.le_antisymm (List.not_lt.1 h1) (List.not_lt.1 h2)
    exact (ByteArray.ext (Array.toList_inj.1 this)).symm
/-! ### Where a key stands -/
theorem pos_lt {α : Type} {lt : α → α → Bool} (T : TO lt) : ∀ {s : List α} {k : α} (hs : Srt lt s) (j : Nat) (h : j < s.length), (lt s[j] k = true ↔ j < pos lt s k)
  | [], k, _, j, h => absurd h (by simp)
  | x :: r, k, hs, 0, h => by
    rw [pos]
    cases hx : lt x k <;> simp [hx]
  | x :: r, k, hs, j + 1, h => by
    have hs' := List.pairwise_cons.1 hs
    have ih := pos_lt T (k := k) hs'.2 j (by simpa using h)
    rw [pos]
    cases hx : lt x k with
    | true => simpa using ih
    | false =>
      have hj : j < r.length := by simpa using h
      have : lt r[j] k = false := by
        cases h2 : lt r[j] k with
        | false => rfl
        | true =>
          have := T.tr (hs'.1 _ (List.getElem_mem hj)) h2
          rw [hx] at this; exact absurd this (by decide)
      simp [this]
theorem mem_pos {α : Type} [DecidableEq α] {lt : α → α → Bool} (T : TO lt) {s : List α} {k : α} (hs : Srt lt s) : k ∈ s ↔ ∃ h : pos lt s k < s.length, s[pos lt s k] = k := by
  constructor
  · exact pos_mem T hs
  · rintro ⟨h, e⟩
    rw [← e]; exact List.getElem_mem h
theorem rd_get {s : List ByteArray} {j : Nat} (h : j < s.length) : rdOf ByteArray.empty s (j : Int) = s[j] := by
  unfold rdOf
  rw [Int.toNat_natCast, List.getD_eq_getElem?_getD, List.getElem?_eq_getElem h]; rfl
theorem less_f (a b : ByteArray) : cmp_Less_string.f a b = some (blt a b) := by
  unfold cmp_Less_string.f cmp_isNaN_string.f blt
  simp
theorem nan_f (a : ByteArray) : slices_isNaN_string.f a = some false := by
  unfold slices_isNaN_string.f
  simp
theorem search_l {s : List ByteArray} (hs : Srt blt s) (hn : s.length ≤ 1000000) (x : ByteArray) : ∀ (k lo hi : Nat), lo ≤ pos blt s x → pos blt s x ≤ hi → hi ≤ s.length → hi - lo < k → match_Set_string.l0 k s x (s.length : Int) (lo : Int) (hi : Int) = some ((pos blt s x : Int), decide (x ∈ s))
  | 0, lo, hi, _, _, _, h => by omega
  | k + 1, lo, hi, h1, h2, h3, h4 => by
    rw [match_Set_string.l0]
    by_cases hlt : lo < hi
    · rw [if_pos (by omega)]
      have hm : wrap64 ((IntKind.u64.wrap (wrap64 ((lo : Int) + (hi : Int)))) / 2) = (((lo + hi) / 2 : Nat) : Int) := by
        have e1 : wrap64 ((lo : Int) + (hi : Int)) = ((lo + hi : Nat) : Int) := by unfold wrap64; omega
        rw [e1]
        have e2 : IntKind.u64.wrap ((lo + hi : Nat) : Int) = ((lo + hi : Nat) : Int) := by rw [IntKind.wrap_u64]; omega
        rw [e2]
        unfold wrap64; omega
      rw [hm]
      have hmid : (lo + hi) / 2 < s.length := by omega
      rw [if_pos (by omega), if_pos (by omega), rd_get hmid, less_f]
      show (if blt s[(lo + hi) / 2] x = true then _ else _) = _
      cases hb : blt s[(lo + hi) / 2] x with
      | true =>
        rw [if_pos rfl]
        have := (pos_lt blt_TO hs _ hmid).1 hb
        have hw : wrap64 ((((lo + hi) / 2 : Nat) : Int) + 1) = (((lo + hi) / 2 + 1 : Nat) : Int) := by unfold wrap64; omega
        rw [hw]
        exact search_l hs hn x k _ hi (by omega) h2 h3 (by omega)
      | false =>
        rw [if_neg (by decide)]
        have : ¬ (lo + hi) / 2 < pos blt s x := fun h => by rw [(pos_lt blt_TO hs _ hmid).2 h] at hb; exact absurd hb (by decide)
        exact search_l hs hn x k lo _ h1 (by omega) (by omega) (by omega)
    · rw [if_neg (by omega)]
      obtain rfl : lo = pos blt s x := by omega
      by_cases hp : pos blt s x < s.length
      · rw [if_pos (by omega), if_pos (by omega), if_pos (by omega), rd_get hp]
        by_cases he : s[pos blt s x] = x
        · rw [if_pos (by rw [he]), decide_eq_true ((mem_pos blt_TO hs).2 ⟨hp, he⟩)]
        · rw [if_neg (fun h => he (ba_ext h)), nan_f]
          simp only [Option.bind_some, Bool.false_eq_true, if_false]
          rw [decide_eq_false (fun h => he ((mem_pos blt_TO hs).1 h).2)]
      · rw [if_neg (by omega), decide_eq_false (fun h => hp ((mem_pos blt_TO hs).1 h).1)]
theorem search_f {s : List ByteArray} (hs : Srt blt s) (hn : s.length ≤ 1000000) (x : ByteArray) {k : Nat} (hk : s.length < k) : match_Set_string.f k s x = some ((pos blt s x : Int), decide (x ∈ s)) := by
  unfold match_Set_string.f
  exact search_l hs hn x k 0 s.length (Nat.zero_le _) (pos_le s x) (Nat.le_refl _) (by omega)
theorem has_f {s : List ByteArray} (hs : Srt blt s) (hn : s.length ≤ 1000000) (x : ByteArray) {k : Nat} (hk : s.length < k) : match_Set_Has.f k s x = some (decide (x ∈ s)) := by
  unfold match_Set_Has.f
  rw [search_f hs hn x hk]; rfl
/-! ### Two rows -/
theorem same_l {a b : List ByteArray} (hn : a.length ≤ 1000000) (hl : a.length = b.length) : ∀ (k i : Nat), i ≤ a.length → a.take i = b.take i → a.length - i < k → doormanlaw13_same.l0 k a b (i : Int) = some (decide (a = b))
  | 0, i, _, _, h => by omega
  | k + 1, i, h1, h2, h3 => by
    rw [doormanlaw13_same.l0]
    by_cases hi : i < a.length
    · rw [if_pos (by omega), if_pos (by omega), if_pos (by omega), rd_get hi, rd_get (show i < b.length by omega)]
      by_cases he : a[i] = b[i]'(by omega)
      · have hw : wrap64 ((i : Int) + 1) = ((i + 1 : Nat) : Int) := by unfold wrap64; omega
        rw [if_pos (by rw [he]), hw]
        exact same_l hn hl k (i + 1) (by omega) (by rw [← List.take_append_getElem hi, ← List.take_append_getElem (show i < b.length by omega), h2, he]) (by omega)
      · rw [if_neg (fun h => he (ba_ext h))]
        rw [decide_eq_false]
        rintro rfl
        exact he rfl
    · rw [if_neg (by omega)]
      rw [List.take_of_length_le (by omega), List.take_of_length_le (by omega)] at h2
      rw [decide_eq_true h2]
theorem same_f {a b : List ByteArray} (hn : a.length ≤ 1000000) {k : Nat} (hk : a.length < k) : doormanlaw13_same.f k a b = some (decide (a = b)) := by
  unfold doormanlaw13_same.f
  by_cases hl : a.length = b.length
  · rw [if_pos (by omega)]
    exact same_l hn hl k 0 (Nat.zero_le _) rfl (by omega)
  · rw [if_neg (by omega), decide_eq_false (fun e => hl (by rw [e]))]
/-! ### Differences -/
def mk40 (c : ByteArray × Bool) : S40 := ⟨c.1, c.2⟩
theorem diff_l : ∀ (n : Nat) (s t : List ByteArray) (acc : List S40) (k : Nat), s.length + t.length ≤ n → acc.length + n ≤ 1000000 → 3 * n + 3 ≤ k → match_Set_Diff.l0 k s t acc = some (acc ++ (diffF blt n s t).map mk40)
  | n, s, t, acc, 0, _, _, h => by omega
  | n, s, t, acc, 1, _, _, h => by omega
  | n, s, t, acc, 2, _, _, h => by omega
  | n, [], [], acc, k + 3, h1, h2, h3 => by
    rw [match_Set_Diff.l0, if_neg (by simp), match_Set_Diff.j1]
    cases n <;> simp [diffF]
  | 0, x :: s, t, acc, k + 3, h1, h2, h3 => by simp at h1
  | 0, [], y :: t, acc, k + 3, h1, h2, h3 => by simp at h1
  | n + 1, x :: s, [], acc, k + 3, h1, h2, h3 => by
    rw [match_Set_Diff.l0, if_pos (by simp <;> omega), match_Set_Diff.j1, if_pos rfl, if_pos (by simp), match_Set_Diff.j2, if_pos rfl, if_pos (by simp <;> omega), if_pos (by omega), if_pos (by simp <;> omega)]
    rw [show (x :: s).drop 1 = s from rfl, show rdOf ByteArray.empty (x :: s) 0 = x from rfl, diff_l n s [] _ k (by simp at h1 ⊢ <;> omega) (by simp <;> omega) (by omega)]
    simp [diffF, mk40]
  | n + 1, [], y :: t, acc, k + 3, h1, h2, h3 => by
    rw [match_Set_Diff.l0, if_neg (by simp), decide_eq_true (by simp <;> omega), match_Set_Diff.j1, if_pos rfl, if_neg (by simp <;> omega), if_neg (by simp), match_Set_Diff.j2, if_neg (by decide), if_pos (by simp), if_pos (by simp <;> omega), if_pos (by omega), if_pos (by simp <;> omega)]
    rw [show (y :: t).drop 1 = t from rfl, show rdOf ByteArray.empty (y :: t) 0 = y from rfl, diff_l n [] t _ k (by simp at h1 ⊢ <;> omega) (by simp <;> omega) (by omega)]
    simp [diffF, mk40]
  | n + 1, x :: s, y :: t, acc, k + 3, h1, h2, h3 => by
    have e1 : rdOf ByteArray.empty (x :: s) 0 = x := rfl
    have e2 : rdOf ByteArray.empty (y :: t) 0 = y := rfl
    have d1 : (x :: s).drop 1 = s := rfl
    have d2 : (y :: t).drop 1 = t := rfl
    rw [match_Set_Diff.l0, if_pos (by simp <;> omega), match_Set_Diff.j1, if_pos rfl, if_neg (by simp <;> omega), if_pos (by simp <;> omega), if_pos (by simp <;> omega), if_pos (by simp <;> omega), e1, e2, diffF]
    show match_Set_Diff.j2 (k + 1) (x :: s) (y :: t) acc (blt x y) = _
    cases hxy : blt x y with
    | true =>
      rw [match_Set_Diff.j2, if_pos rfl, if_pos (by simp <;> omega), if_pos (by omega), if_pos (by simp <;> omega), d1, e1, diff_l n s (y :: t) _ k (by simp at h1 ⊢ <;> omega) (by simp <;> omega) (by omega)]
      simp [mk40]
    | false =>
      rw [match_Set_Diff.j2, if_neg (by decide), if_neg (by simp <;> omega), if_pos (by simp <;> omega), if_pos (by simp <;> omega), e1, e2]
      show (if blt y x = true then _ else _) = _
      cases hyx : blt y x with
      | true =>
        rw [if_pos rfl, if_pos (by omega), if_pos (by simp <;> omega), d2, diff_l n (x :: s) t _ k (by simp at h1 ⊢ <;> omega) (by simp <;> omega) (by omega)]
        simp [mk40]
      | false =>
        rw [if_neg (by decide), if_pos (by simp <;> omega), if_pos (by simp <;> omega), d1, d2, diff_l n s t _ k (by simp at h1 ⊢ <;> omega) (by omega) (by omega)]
        simp
theorem diff_f {s t : List ByteArray} (h : s.length + t.length ≤ 1000000) {k : Nat} (hk : 3 * (s.length + t.length) + 3 ≤ k) : match_Set_Diff.f k s t = some ((diff blt s t).map mk40) := by
  unfold match_Set_Diff.f diff
  rw [diff_l (s.length + t.length) s t [] k (Nat.le_refl _) (by simpa using h) hk]
  rfl
/-! ### Keys as a set -/
theorem compact_spec (d : Array (List UInt8)) (hd : ∀ i j, i ≤ j → j < d.size → d[i]! ≤ d[j]!) : ∀ m, m ≤ d.size → (Lib.compactUpTo d m).Pairwise (· < ·) ∧ (∀ x, x ∈ Lib.compactUpTo d m ↔ ∃ j, j < m ∧ d[j]! = x)
  | 0, _ => by simp [Lib.compactUpTo]
  | m + 1, h => by
    obtain ⟨h1, h2⟩ := compact_spec d hd m (by omega)
    rw [Lib.compactUpTo_succ]
    cases hk : Lib.keeps d m with
    | true =>
      rw [if_pos rfl]
      refine ⟨List.pairwise_append.2 ⟨h1, by simp, fun a ha b hb => ?_⟩, fun x => ?_⟩
      · obtain rfl := List.mem_singleton.1 hb
        obtain ⟨j, hj, rfl⟩ := (h2 a).1 ha
        have hne : d[m]! ≠ d[m - 1]! := by
          unfold Lib.keeps at hk
          intro e
          rw [e] at hk
          simp at hk
          omega
        have hle : d[j]! ≤ d[m - 1]! := hd j (m - 1) (by omega) (by omega)
        have hle2 : d[m - 1]! ≤ d[m]! := hd (m - 1) m (by omega) (by omega)
        have hlt : d[m - 1]! < d[m]! := by
          refine Classical.byContradiction fun hn => hne ?_
          exact List.le_antisymm (List.not_lt.1 hn) hle2
        exact List.lt_of_le_of_lt hle hlt
      · rw [List.mem_append, h2, List.mem_singleton]
        constructor
        · rintro (⟨j, hj, e⟩ | rfl)
          · exact ⟨j, by omega, e⟩
          · exact ⟨m, by omega, rfl⟩
        · rintro ⟨j, hj, e⟩
          by_cases hjm : j = m
          · subst hjm; exact .inr e.symm
          · exact .inl ⟨j, by omega, e⟩
    | false =>
      rw [if_neg (by decide), List.append_nil]
      refine ⟨h1, fun x => ?_⟩
      rw [h2]
      constructor
      · rintro ⟨j, hj, e⟩; exact ⟨j, by omega, e⟩
      · rintro ⟨j, hj, e⟩
        by_cases hjm : j = m
        · subst hjm
          unfold Lib.keeps at hk
          simp at hk
          exact ⟨j - 1, by omega, by rw [← hk.2]; exact e⟩
        · exact ⟨j, by omega, e⟩
theorem le_tr {a b c : List UInt8} (h1 : a ≤ b) (h2 : b ≤ c) : a ≤ c := List.le_trans h1 h2
theorem sort_up (ss : List (List UInt8)) : ∀ i j, i ≤ j → j < (ss.mergeSort fun x y => decide (x ≤ y)).toArray.size → (ss.mergeSort fun x y => decide (x ≤ y)).toArray[i]! ≤ (ss.mergeSort fun x y => decide (x ≤ y)).toArray[j]! := by
  intro i j hij hj
  have hp := List.pairwise_mergeSort (le := fun x y => decide (x ≤ y)) (fun a b c h1 h2 => by
    rw [decide_eq_true_eq] at h1 h2 ⊢; exact le_tr h1 h2) (fun a b => by
    rw [Bool.or_eq_true, decide_eq_true_eq, decide_eq_true_eq]; exact List.le_total a b) ss
  generalize ss.mergeSort (fun x y => decide (x ≤ y)) = l at hp hj ⊢
  have hj' : j < l.length := by simpa using hj
  have hi' : i < l.length := by omega
  rw [getElem!_pos l.toArray i (by simpa using hi'), getElem!_pos l.toArray j (by simpa using hj')]
  simp only [List.getElem_toArray]
  rcases Nat.lt_or_eq_of_le hij with h | rfl
  · have := List.pairwise_iff_getElem.1 hp i j hi' hj' h
    simpa using this
  · exact List.le_refl _
theorem ofB_spec (l : List ByteArray) : Srt blt (ofB l) ∧ ∀ k, k ∈ ofB l ↔ k ∈ l := by
  unfold ofB Lib.compact
  obtain ⟨h1, h2⟩ := compact_spec _ (sort_up (l.map fun s => s.data.toList)) _ (Nat.le_of_eq (by simp) : ((l.map fun s => s.data.toList).mergeSort fun x y => decide (x ≤ y)).length ≤ _)
  refine ⟨List.pairwise_map.2 (h1.imp fun {a b} h => ?_), fun k => ?_⟩
  · rw [blt_eq]; exact decide_eq_true h
  · rw [List.mem_map]
    constructor
    · rintro ⟨b, hb, rfl⟩
      obtain ⟨j, hj, e⟩ := (h2 b).1 hb
      have hm : b ∈ (l.map fun s => s.data.toList).mergeSort fun x y => decide (x ≤ y) := by
        rw [← e, getElem!_pos _ j (by simpa using hj)]
        simp
      rw [List.mem_mergeSort, List.mem_map] at hm
      obtain ⟨s, hs, rfl⟩ := hm
      simpa using hs
    · intro hk
      refine ⟨k.data.toList, (h2 _).2 ?_, by simp⟩
      have hm : k.data.toList ∈ (l.map fun s => s.data.toList).mergeSort fun x y => decide (x ≤ y) := by
        rw [List.mem_mergeSort]; exact List.mem_map.2 ⟨k, hk, rfl⟩
      obtain ⟨j, hj, e⟩ := List.getElem_of_mem hm
      exact ⟨j, hj, by rw [getElem!_pos _ j (by simpa using hj)]; simpa using e⟩
theorem ofB_len (l : List ByteArray) : (ofB l).length ≤ l.length := by
  unfold ofB
  rw [List.length_map]
  unfold Lib.compact Lib.compactUpTo
  rw [List.length_map]
  exact Nat.le_trans (List.length_filter_le _ _) (by simp)
theorem ofB_ext {a b : List ByteArray} (h : ∀ k, k ∈ a ↔ k ∈ b) : ofB a = ofB b :=
  srt_ext blt_TO (ofB_spec a).1 (ofB_spec b).1 (fun k => by rw [(ofB_spec a).2, (ofB_spec b).2, h])
theorem ofB_same (l : List ByteArray) (h : Srt blt l) : ofB l = l :=
  srt_ext blt_TO (ofB_spec l).1 h (ofB_spec l).2
theorem of_f {l : List ByteArray} (h : l.length ≤ 1000000) : match_Of.f l = some (ofB l) := by unfold match_Of.f; rw [if_pos h]
end Go.Proofs.Ythpcplpannbipaa.Mr
