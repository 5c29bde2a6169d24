/- The law MatchDiffs, by the printed functions: it is true of every input; no condition. -/
import Derived.Test.YthpcplpannbipaaMs
import Derived.Test.YthpcplpannbipaaY8
set_option linter.unusedVariables false
set_option linter.unusedSimpArgs false
namespace Go.Proofs.Ythpcplpannbipaa.Mr
open Go.RowKit Go.Proofs.YthpcplpannbipaaW.PrintWords Go.Proofs.YthpcplpannbipaaW.PrintLast Go.Proofs.Ythpcplpannbipaa.Kx Go.Proofs.Ythpcplpannbipaa.Y Go.Proofs.Ythpcplpannbipaa.Mp Go.Proofs.Ythpcplpannbipaa.Mq

theorem miss_take {s t : List ByteArray} {i : Nat} (hi : i < s.length) : miss (s.take (i + 1)) t = miss (s.take i) t + if s[i] ∈ t then 0 else 1 := by
  unfold miss
  rw [← List.take_append_getElem hi, List.countP_append]
  by_cases h : s[i] ∈ t <;> simp [h]
theorem miss_le (s t : List ByteArray) : miss s t ≤ s.length := List.countP_le_length
theorem miss_take_le (s t : List ByteArray) (i : Nat) : miss (s.take i) t ≤ s.length := Nat.le_trans (miss_le _ _) (by rw [List.length_take]; omega)
theorem pair_mk (d : List (ByteArray × Bool)) : (d.map mk40).map (fun x => (x.f0, x.f1)) = d := by
  rw [List.map_map]
  exact (List.map_congr_left (fun c _ => rfl)).trans (List.map_id d)
theorem apply_ok {s t : List ByteArray} {d : List S40} (hs : Srt blt s) (hl : s.length + d.length ≤ 900000) (h : apC blt s (d.map fun x => (x.f0, x.f1)) 0 = .ok t) : match_Set_Apply.f s [] d = some (t, 0, 0) := by
  unfold match_Set_Apply.f
  rw [if_pos ⟨hs, hl, by simp⟩]
  unfold applyB
  rw [List.map_nil, h]
  rfl
theorem diffs_l0 (s t : List ByteArray) (d : List S40) (u : List ByteArray) (e : Int) (ht : Srt blt t) (hsn : s.length ≤ 60) (htn : t.length ≤ 60) : ∀ (n k i : Nat), i + n = s.length → n + 100 ≤ k →
    doormanlaw13_MatchDiffs.l0 k s t d u e (miss (s.take i) t : Int) (i : Int) = doormanlaw13_MatchDiffs.l1 (k - n - 1) s t d u e (miss s t : Int) 0
  | 0, 0, i, _, h => by omega
  | 0, k + 1, i, h1, h2 => by
    rw [doormanlaw13_MatchDiffs.l0, if_neg (by omega), List.take_of_length_le (by omega)]; rfl
  | n + 1, 0, i, _, h => by omega
  | n + 1, k + 1, i, h1, h2 => by
    have hi : i < s.length := by omega
    have hw : wrap64 ((i : Int) + 1) = ((i + 1 : Nat) : Int) := by unfold wrap64; omega
    have hmt := miss_take (t := t) hi
    have hml := miss_take_le s t i
    have ih := diffs_l0 s t d u e ht hsn htn n k (i + 1) (by omega) (by omega)
    rw [doormanlaw13_MatchDiffs.l0, if_pos (by omega), if_pos (by omega), rd_get hi, has_f ht (by omega) _ (by omega), hw, show k + 1 - (n + 1) - 1 = k - n - 1 by omega]
    simp only [Option.bind_some]
    by_cases h : s[i] ∈ t
    · rw [decide_eq_true h, if_pos rfl]
      rw [if_pos h] at hmt
      rw [hmt] at ih; exact ih
    · rw [decide_eq_false h, if_neg (by decide)]
      rw [if_neg h] at hmt
      rw [show wrap64 ((miss (s.take i) t : Int) + 1) = (miss (s.take (i + 1)) t : Int) by rw [hmt]; unfold wrap64; omega]
      exact ih
theorem diffs_l1 (s t : List ByteArray) (d : List S40) (u : List ByteArray) (e : Int) (hs : Srt blt s) (hsn : s.length ≤ 60) (htn : t.length ≤ 60) : ∀ (n k i : Nat), i + n = t.length → n + 100 ≤ k →
    doormanlaw13_MatchDiffs.l1 k s t d u e ((miss s t + miss (t.take i) s : Nat) : Int) (i : Int) = doormanlaw13_MatchDiffs.l2 (k - n - 1) t d u e ((miss s t + miss t s : Nat) : Int) 1
  | 0, 0, i, _, h => by omega
  | 0, k + 1, i, h1, h2 => by
    rw [doormanlaw13_MatchDiffs.l1, if_neg (by omega), List.take_of_length_le (by omega)]; rfl
  | n + 1, 0, i, _, h => by omega
  | n + 1, k + 1, i, h1, h2 => by
    have hi : i < t.length := by omega
    have hw : wrap64 ((i : Int) + 1) = ((i + 1 : Nat) : Int) := by unfold wrap64; omega
    have hmt := miss_take (t := s) hi
    have hml := miss_take_le t s i
    have hms := miss_le s t
    have ih := diffs_l1 s t d u e hs hsn htn n k (i + 1) (by omega) (by omega)
    rw [doormanlaw13_MatchDiffs.l1, if_pos (by omega), if_pos (by omega), rd_get hi, has_f hs (by omega) _ (by omega), hw, show k + 1 - (n + 1) - 1 = k - n - 1 by omega]
    simp only [Option.bind_some]
    by_cases h : t[i] ∈ s
    · rw [decide_eq_true h, if_pos rfl]
      rw [if_pos h] at hmt
      rw [hmt] at ih; exact ih
    · rw [decide_eq_false h, if_neg (by decide)]
      rw [if_neg h] at hmt
      rw [show wrap64 (((miss s t + miss (t.take i) s : Nat) : Int) + 1) = ((miss s t + miss (t.take (i + 1)) s : Nat) : Int) by rw [hmt]; unfold wrap64; omega]
      exact ih
theorem rd_mk {d : List (ByteArray × Bool)} {j : Nat} (h : j < d.length) : (rd_T40 (d.map mk40) (j : Int)).f0 = (d[j]).1 := by
  unfold rd_T40
  rw [Int.toNat_natCast, List.getD_eq_getElem?_getD, List.getElem?_map, List.getElem?_eq_getElem h]; rfl
theorem diffs_l2 (t : List ByteArray) (d : List (ByteArray × Bool)) (htn : t.length ≤ 60) (hdn : d.length ≤ 120) (hd : d.Pairwise (fun a b => blt a.1 b.1 = true)) (c : Int) (hc : c = d.length) : ∀ (n k i : Nat), 1 ≤ i → (i + n = d.length ∨ (n = 0 ∧ d.length ≤ i)) → n + 100 ≤ k →
    doormanlaw13_MatchDiffs.l2 k t (d.map mk40) t 0 c (i : Int) = some true
  | 0, 0, i, _, _, h => by omega
  | 0, k + 1, i, h1, h2, h3 => by
    rw [doormanlaw13_MatchDiffs.l2, if_neg (by rw [List.length_map]; omega), if_pos rfl, same_f (by omega) (by omega), decide_eq_true rfl]
    simp only [Option.bind_some, if_true]
    rw [List.length_map, hc, beq_self_eq_true]
  | n + 1, 0, i, _, _, h => by omega
  | n + 1, k + 1, i, h1, h2, h3 => by
    have hi : i < d.length := by omega
    have e : wrap64 ((i : Int) - 1) = ((i - 1 : Nat) : Int) := by unfold wrap64; omega
    have hw : wrap64 ((i : Int) + 1) = ((i + 1 : Nat) : Int) := by unfold wrap64; omega
    rw [doormanlaw13_MatchDiffs.l2, if_pos (by rw [List.length_map]; omega), e, if_pos (by omega), if_pos (by rw [List.length_map]; omega), if_pos (by omega), rd_mk hi, rd_mk (show i - 1 < d.length by omega), hw]
    rw [if_pos (show Op.bytesLess (d[i - 1]).1.toList (d[i]).1.toList = true from List.pairwise_iff_getElem.1 hd (i - 1) i (by omega) hi (by omega))]
    exact diffs_l2 t d htn hdn hd c hc n k (i + 1) (by omega) (by omega) (by omega)
theorem diffs_f (a b : List ByteArray) : doormanlaw13_MatchDiffs.f 2000 a b = some true := by
  unfold doormanlaw13_MatchDiffs.f
  rw [awake_f (by omega)]
  simp only [Option.bind_some, if_true]
  by_cases ha : a.length > 60
  · rw [if_pos (by omega), doormanlaw13_MatchDiffs.j0, if_pos rfl]
  rw [if_neg (by omega)]
  by_cases hb : b.length > 60
  · rw [decide_eq_true (by omega), doormanlaw13_MatchDiffs.j0, if_pos rfl]
  rw [decide_eq_false (by omega), doormanlaw13_MatchDiffs.j0, if_neg (by decide)]
  have hs := (ofB_spec a).1
  have ht := (ofB_spec b).1
  have hsl := ofB_len a
  have htl := ofB_len b
  rw [of_f (by omega), of_f (by omega)]
  simp only [Option.bind_some]
  generalize ofB a = s at hs hsl ⊢
  generalize ofB b = t at ht htl ⊢
  have hdl : (diff blt s t).length = miss s t + miss t s := diffF_len blt_TO _ s t (Nat.le_refl _) hs ht
  have hm1 := miss_le s t
  have hm2 := miss_le t s
  rw [diff_f (by omega) (by omega)]
  simp only [Option.bind_some]
  rw [apply_ok hs (by rw [List.length_map]; omega) (by rw [pair_mk]; exact diff_leads blt_TO hs ht 0)]
  rw [Option.bind_some]
  dsimp only
  have h0 := diffs_l0 s t ((diff blt s t).map mk40) t 0 ht (by omega) (by omega) s.length 1999 0 (by omega) (by omega)
  rw [List.take_zero, miss_nil, show ((0 : Nat) : Int) = 0 from rfl] at h0
  rw [h0]
  have h1 := diffs_l1 s t ((diff blt s t).map mk40) t 0 hs (by omega) (by omega) t.length (1999 - s.length - 1) 0 (by omega) (by omega)
  rw [List.take_zero, miss_nil, Nat.add_zero, show ((0 : Nat) : Int) = 0 from rfl] at h1
  rw [h1]
  have h2 := diffs_l2 t (diff blt s t) (by omega) (by omega) (diffF_rises blt_TO _ s t hs ht) ((miss s t + miss t s : Nat) : Int) (by rw [hdl]) ((diff blt s t).length - 1) (1999 - s.length - 1 - t.length - 1) 1 (Nat.le_refl _) (by omega) (by omega)
  rw [show ((1 : Nat) : Int) = 1 from rfl] at h2
  exact h2
end Go.Proofs.Ythpcplpannbipaa.Mr
