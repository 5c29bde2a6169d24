/- The law MatchUndone, by the printed functions: it is true of every input; no condition. -/
import Derived.Test.YthpcplpannbipaaMs
import Derived.Test.YthpcplpannbipaaY9
set_option linter.unusedVariables false
set_option linter.unusedSimpArgs false
namespace Go.Proofs.Ythpcplpannbipaa.Mr
open Go.RowKit Go.Proofs.YthpcplpannbipaaW.PrintWords Go.Proofs.YthpcplpannbipaaW.PrintLast Go.Proofs.Ythpcplpannbipaa.Kx Go.Proofs.Ythpcplpannbipaa.Y Go.Proofs.Ythpcplpannbipaa.Mp Go.Proofs.Ythpcplpannbipaa.Mq

def pr40 (x : S40) : ByteArray × Bool := (x.f0, x.f1)
theorem apC_len (lt : ByteArray → ByteArray → Bool) : ∀ (cs : List (ByteArray × Bool)) (s t : List ByteArray) (i : Nat), apC lt s cs i = .ok t → t.length ≤ s.length + cs.length
  | [], s, t, i, h => by rw [apC] at h; injection h with h; rw [h]; simp
  | (k, add) :: cs, s, t, i, h => by
    rw [apC] at h
    split at h
    · cases h
    · have := apC_len lt cs _ t (i + 1) h
      cases add with
      | true => simp only [if_true, ins_len] at this; simp only [List.length_cons]; omega
      | false =>
        simp only [Bool.false_eq_true, if_false] at this
        have h2 : (del s k).length ≤ s.length := List.length_filter_le _ _
        simp only [List.length_cons]; omega
theorem und_ok {s t : List ByteArray} {d : List S40} (hs : Srt blt s) (hl : s.length + d.length ≤ 900000) (h : apC blt s (d.map pr40) 0 = .ok t) : match_Set_Apply.f s [] d = some (t, 0, 0) := by
  unfold match_Set_Apply.f
  rw [if_pos ⟨hs, hl, by simp⟩]
  unfold applyB
  rw [List.map_nil, show (d.map fun x => (x.f0, x.f1)) = d.map pr40 from rfl, h]
  rfl
theorem und_err {s : List ByteArray} {d : List S40} {add : Bool} {i : Nat} (hs : Srt blt s) (hl : s.length + d.length ≤ 900000) (h : apC blt s (d.map pr40) 0 = .error (add, i)) : match_Set_Apply.f s [] d = some ([], if add then 32 else 41, (i : Int)) := by
  unfold match_Set_Apply.f
  rw [if_pos ⟨hs, hl, by simp⟩]
  unfold applyB
  rw [List.map_nil, show (d.map fun x => (x.f0, x.f1)) = d.map pr40 from rfl, h]
  simp [preF]
theorem rd40 {d : List S40} {j : Nat} (h : j < d.length) : rd_T40 d (j : Int) = d[j] := by
  unfold rd_T40
  rw [Int.toNat_natCast, List.getD_eq_getElem?_getD, List.getElem?_eq_getElem h]; rfl
def flip40 (x : S40) : S40 := ⟨x.f0, !x.f1⟩
theorem und_l0 (d : List S40) (s t : List ByteArray) (hd : d.length ≤ 60) : ∀ (m k : Nat) (acc : List S40), m ≤ d.length → acc.length + m ≤ 60 → acc = ((d.drop m).map flip40).reverse → m < k →
    doormanlaw13_MatchUndone.l0 k d s t acc ((m : Int) - 1) = (match_Set_Apply.f t [] ((d.map flip40).reverse)).bind fun bt => (if bt.2.1 = 0 then ((doormanlaw13_same.f (k - m - 1) bt.1 s).bind fun t206 => (some t206)) else (some false))
  | 0, 0, acc, _, _, _, h => by omega
  | 0, k + 1, acc, _, _, he, _ => by
    rw [doormanlaw13_MatchUndone.l0, if_neg (by omega), he, List.drop_zero]
    rfl
  | m + 1, 0, acc, _, _, _, h => by omega
  | m + 1, k + 1, acc, h1, h2, he, h3 => by
    have hm : m < d.length := by omega
    have e : (((m + 1 : Nat) : Int) - 1) = (m : Int) := by omega
    have ih := und_l0 d s t hd m k (acc ++ [flip40 d[m]]) (by omega) (by simp; omega) (by rw [he, List.drop_eq_getElem_cons hm, List.map_cons, List.reverse_cons]) (by omega)
    rw [e, doormanlaw13_MatchUndone.l0, if_pos (by omega), if_pos (by omega), if_pos (by omega), rd40 hm, if_pos (by omega), show wrap64 ((m : Int) - 1) = (m : Int) - 1 by unfold wrap64; omega]
    rw [show k + 1 - (m + 1) - 1 = k - m - 1 by omega]
    exact ih
theorem back_map (d : List S40) : ((d.map flip40).reverse).map pr40 = back (d.map pr40) := by
  unfold back
  rw [List.map_reverse, List.map_map, List.map_map]
  rfl
theorem undone_f (a : List ByteArray) (d : List S40) : doormanlaw13_MatchUndone.f 2000 a d = some true := by
  unfold doormanlaw13_MatchUndone.f
  rw [awake_f (by omega)]
  simp only [Option.bind_some, if_true]
  by_cases ha : a.length > 60
  · rw [if_pos (by omega), doormanlaw13_MatchUndone.j0, if_pos rfl]
  rw [if_neg (by omega)]
  by_cases hd : d.length > 60
  · rw [decide_eq_true (by omega), doormanlaw13_MatchUndone.j0, if_pos rfl]
  rw [decide_eq_false (by omega), doormanlaw13_MatchUndone.j0, if_neg (by decide)]
  have hs := (ofB_spec a).1
  have hsl := ofB_len a
  rw [of_f (by omega)]
  simp only [Option.bind_some]
  generalize ofB a = s at hs hsl ⊢
  cases h : apC blt s (d.map pr40) 0 with
  | ok t =>
    have ht := apC_srt blt_TO _ _ _ _ hs h
    have htl := apC_len blt _ _ _ _ h
    rw [List.length_map] at htl
    rw [und_ok hs (by omega) h]
    simp only [Option.bind_some]
    rw [if_pos trivial, show wrap64 ((d.length : Int) - 1) = (d.length : Int) - 1 by unfold wrap64; omega]
    rw [und_l0 d s t (by omega) d.length 1999 [] (Nat.le_refl _) (by simp; omega) (by simp) (by omega)]
    rw [und_ok ht (by simp; omega) (by rw [back_map]; exact apC_back blt_TO _ _ _ 0 0 hs h)]
    simp only [Option.bind_some]
    rw [if_pos trivial, same_f (by omega) (by omega), decide_eq_true rfl]
    rfl
  | error p =>
    obtain ⟨add, i⟩ := p
    obtain ⟨j, h1, h2, h3, t, h4, h5⟩ := apC_error blt _ _ _ _ h
    obtain rfl : i = j := by simpa using h1
    have hi : i < d.length := by simpa using h2
    rw [← List.map_take] at h4
    have ht := apC_srt blt_TO _ _ _ _ hs h4
    have htl := apC_len blt _ _ _ _ h4
    rw [List.length_map, List.length_take] at htl
    have hmn : mn (i : Int) (d.length : Int) = (i : Int) := by unfold mn; split <;> omega
    rw [und_err hs (by omega) h]
    simp only [Option.bind_some]
    rw [if_neg (by cases add <;> decide), hmn, if_pos (by omega), if_pos (by omega), Int.toNat_natCast, und_ok hs (by rw [List.length_take]; omega) h4]
    simp only [Option.bind_some]
    rw [if_pos (by rfl), if_pos trivial, if_pos (by omega), if_pos (by omega), if_pos (by omega), rd40 hi, has_f ht (by omega) _ (by omega)]
    simp only [Option.bind_some]
    have e1 : (d.map pr40)[i] = pr40 d[i] := by simp
    rw [e1] at h5
    rw [show decide (d[i].f0 ∈ t) = d[i].f1 from h5, beq_self_eq_true]
end Go.Proofs.Ythpcplpannbipaa.Mr
