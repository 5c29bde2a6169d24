/- The law MatchSets, by the printed functions: it is true of every input; no condition. -/
import Derived.Test.YthpcplpannbipaaMs
import Derived.Test.YthpcplpannbipaaY6
set_option linter.unusedVariables false
set_option linter.unusedSimpArgs false
namespace Go.Proofs.Ythpcplpannbipaa.Mr
open Go.RowKit Go.Proofs.YthpcplpannbipaaW.PrintWords Go.Proofs.YthpcplpannbipaaW.PrintLast Go.Proofs.Ythpcplpannbipaa.Kx Go.Proofs.Ythpcplpannbipaa.Y Go.Proofs.Ythpcplpannbipaa.Mp Go.Proofs.Ythpcplpannbipaa.Mq

theorem diff_self {s : List ByteArray} (hs : Srt blt s) : diff blt s s = [] := by
  refine List.length_eq_zero_iff.1 ?_
  unfold diff
  rw [diffF_len blt_TO _ s s (Nat.le_refl _) hs hs]
  have : miss s s = 0 := by
    unfold miss
    rw [List.countP_eq_zero]
    intro x hx
    simp [hx]
  omega
theorem sets_l0 (l : List ByteArray) (a : ByteArray) (hl : l.length ≤ 60) : ∀ (m k : Nat) (acc : List ByteArray), m ≤ l.length → acc.length + 2 * m ≤ 120 → m < k →
    ∃ acc', (∀ x, x ∈ acc' ↔ x ∈ acc ∨ x ∈ l.take m) ∧ acc'.length ≤ 120 ∧ doormanlaw13_MatchSets.l0 k l a acc ((m : Int) - 1) = (match_Of.f l).bind fun t => (match_Of.f acc').bind fun t' => doormanlaw13_MatchSets.l1 (k - m - 1) l a t t' false 0
  | 0, 0, acc, _, _, h => by omega
  | 0, k + 1, acc, _, h2, _ => by
    refine ⟨acc, fun x => by simp, by omega, ?_⟩
    rw [doormanlaw13_MatchSets.l0, if_neg (by omega)]
    rfl
  | m + 1, 0, acc, _, _, h => by omega
  | m + 1, k + 1, acc, h1, h2, h3 => by
    have hm : m < l.length := by omega
    have e : (((m + 1 : Nat) : Int) - 1) = (m : Int) := by omega
    obtain ⟨acc', h4, h5, h6⟩ := sets_l0 l a hl m k (acc ++ [l[m], l[m]]) (by omega) (by simp; omega) (by omega)
    refine ⟨acc', fun x => ?_, h5, ?_⟩
    · rw [h4, List.mem_append, ← List.take_append_getElem hm, List.mem_append]
      simp only [List.mem_cons, List.not_mem_nil, or_false, or_self]
      constructor
      · rintro ((h | h) | h)
        · exact .inl h
        · exact .inr (.inr h)
        · exact .inr (.inl h)
      · rintro (h | h | h)
        · exact .inl (.inl h)
        · exact .inr h
        · exact .inl (.inr h)
    · rw [e, doormanlaw13_MatchSets.l0, if_pos (by omega), if_pos (by omega), if_pos (by omega), rd_get hm]
      simp only [Option.bind_some]
      rw [if_pos (by simp; omega), show wrap64 ((m : Int) - 1) = (m : Int) - 1 by unfold wrap64; omega, h6, show k + 1 - (m + 1) - 1 = k - m - 1 by omega]
theorem sets_l1 (l : List ByteArray) (a : ByteArray) (hl : l.length ≤ 60) (s s' : List ByteArray) (hs : Srt blt s) (hn : s.length ≤ 60) (hm : ∀ x, x ∈ s ↔ x ∈ l) : ∀ (n k i : Nat), i + n = l.length → n + 100 ≤ k →
    doormanlaw13_MatchSets.l1 k l a s s' (decide (a ∈ l.take i)) (i : Int) = doormanlaw13_MatchSets.l2 (k - n - 1) a s s' (decide (a ∈ l)) 1
  | 0, 0, i, _, h => by omega
  | 0, k + 1, i, h1, h2 => by
    rw [doormanlaw13_MatchSets.l1, if_neg (by omega), List.take_of_length_le (by omega)]
    rfl
  | n + 1, 0, i, _, h => by omega
  | n + 1, k + 1, i, h1, h2 => by
    have hi : i < l.length := by omega
    have hw : wrap64 ((i : Int) + 1) = ((i + 1 : Nat) : Int) := by unfold wrap64; omega
    have hin : l[i] ∈ s := (hm _).2 (List.getElem_mem hi)
    have hf : match_Set_Has.f k s l[i] = some true := by rw [has_f hs (by omega) _ (by omega), decide_eq_true hin]
    have ih := sets_l1 l a hl s s' hs hn hm n k (i + 1) (by omega) (by omega)
    rw [doormanlaw13_MatchSets.l1, if_pos (by omega), rd_get hi, hw]
    rw [show k + 1 - (n + 1) - 1 = k - n - 1 by omega]
    by_cases hp : a ∈ l.take i
    · rw [decide_eq_true hp, if_pos rfl, if_pos (by omega), hf]
      simp only [Option.bind_some, if_true]
      rw [decide_eq_true (by rw [← List.take_append_getElem hi]; exact List.mem_append_left _ hp)] at ih
      exact ih
    · rw [decide_eq_false hp, if_neg (by decide), if_pos (by omega), hf]
      simp only [Option.bind_some, if_true]
      have e : (l[i].toList == a.toList) = decide (a ∈ l.take (i + 1)) := by
        rw [← List.take_append_getElem hi]
        by_cases he : l[i] = a
        · rw [he, beq_self_eq_true, decide_eq_true]
          exact List.mem_append_right _ (by simp)
        · rw [decide_eq_false]
          · rw [beq_eq_false_iff_ne]
            exact fun h => he (ba_ext h)
          · intro h
            rcases List.mem_append.1 h with h | h
            · exact hp h
            · exact he (List.mem_singleton.1 h).symm
      rw [e]
      exact ih
theorem sets_l2 (a : ByteArray) (s : List ByteArray) (b : Bool) (hs : Srt blt s) (hn : s.length ≤ 60) (hb : decide (a ∈ s) = b) : ∀ (n k i : Nat), 1 ≤ i → (i + n = s.length ∨ (n = 0 ∧ s.length ≤ i)) → n + 500 ≤ k →
    doormanlaw13_MatchSets.l2 k a s s b (i : Int) = some true
  | 0, 0, i, _, _, h => by omega
  | 0, k + 1, i, h1, h2, h3 => by
    rw [doormanlaw13_MatchSets.l2, if_neg (by omega), same_f (by omega) (by omega), decide_eq_true rfl]
    simp only [Option.bind_some, if_true]
    rw [has_f hs (by omega) _ (by omega), hb]
    simp only [Option.bind_some, beq_self_eq_true, if_true]
    rw [diff_f (by omega) (by omega), diff_self hs]
    simp only [Option.bind_some, List.map_nil, List.length_nil]
    rw [if_pos (show ((0 : Nat) : Int) = 0 from rfl), of_f (by omega), ofB_same s hs]
    simp
  | n + 1, 0, i, _, _, h => by omega
  | n + 1, k + 1, i, h1, h2, h3 => by
    have hi : i < s.length := by omega
    have e : wrap64 ((i : Int) - 1) = ((i - 1 : Nat) : Int) := by unfold wrap64; omega
    have hw : wrap64 ((i : Int) + 1) = ((i + 1 : Nat) : Int) := by unfold wrap64; omega
    rw [doormanlaw13_MatchSets.l2, if_pos (by omega), e, if_pos (by omega), if_pos (by omega), if_pos (by omega), rd_get hi, rd_get (show i - 1 < s.length by omega), hw]
    rw [if_pos (show Op.bytesLess s[i - 1].toList s[i].toList = true from List.pairwise_iff_getElem.1 hs (i - 1) i (by omega) hi (by omega))]
    exact sets_l2 a s b hs hn hb n k (i + 1) (by omega) (by omega) (by omega)
theorem sets_f (l : List ByteArray) (a : ByteArray) : doormanlaw13_MatchSets.f 2000 l a = some true := by
  unfold doormanlaw13_MatchSets.f
  rw [awake_f (by omega)]
  simp only [Option.bind_some, if_true]
  by_cases hl : l.length > 60
  · rw [if_pos (by omega)]
  · rw [if_neg (by omega), show wrap64 ((l.length : Int) - 1) = (l.length : Int) - 1 by unfold wrap64; omega]
    obtain ⟨acc, h1, h2, h3⟩ := sets_l0 l a (by omega) l.length 2000 [] (Nat.le_refl _) (by simp; omega) (by omega)
    have hs := ofB_spec l
    have hln := ofB_len l
    have hacc : ofB acc = ofB l := ofB_ext (fun x => by rw [h1, List.take_length]; simp)
    rw [h3, of_f (by omega), of_f (by omega), hacc]
    simp only [Option.bind_some]
    have h4 := sets_l1 l a (by omega) (ofB l) (ofB l) hs.1 (by omega) hs.2 l.length (2000 - l.length - 1) 0 (by omega) (by omega)
    rw [List.take_zero, decide_eq_false (show a ∉ ([] : List ByteArray) by simp)] at h4
    rw [show (0 : Int) = ((0 : Nat) : Int) from rfl, h4]
    refine sets_l2 a (ofB l) _ hs.1 (by omega) ?_ ((ofB l).length - 1) _ 1 (Nat.le_refl _) (by omega) (by omega)
    by_cases h : a ∈ l
    · rw [decide_eq_true h, decide_eq_true ((hs.2 a).2 h)]
    · rw [decide_eq_false h, decide_eq_false (fun x => h ((hs.2 a).1 x))]
end Go.Proofs.Ythpcplpannbipaa.Mr
