/- What the document's functions of package match compute, in plain words; no program walked; no condition. -/
import Derived.Test.YthpcplpannbipaaMr
import Derived.Test.YthpcplpannbipaaY10
import Derived.Test.YthpcplpannbipaaY11
import Derived.Test.YthpcplpannbipaaY12
set_option linter.unusedVariables false
set_option linter.unusedSimpArgs false
namespace Go.Proofs.Ythpcplpannbipaa.Mr
open Go.RowKit Go.Proofs.YthpcplpannbipaaW.PrintWords Go.Proofs.YthpcplpannbipaaW.PrintLast Go.Proofs.Ythpcplpannbipaa.Kx Go.Proofs.Ythpcplpannbipaa.Y Go.Proofs.Ythpcplpannbipaa.Mp Go.Proofs.Ythpcplpannbipaa.Mq

theorem rhas_l (s : List ByteArray) (x : ByteArray) (hn : s.length ≤ 1000) : ∀ (n k i : Nat), i + n = s.length → n < k → x ∉ s.take i → doormanref13_Has.l0 k s x (i : Int) = some (decide (x ∈ s))
  | _, 0, i, _, h, _ => by omega
  | 0, k + 1, i, h1, h2, h3 => by
    rw [doormanref13_Has.l0, if_neg (by omega)]
    rw [List.take_of_length_le (by omega)] at h3
    rw [decide_eq_false h3]
  | n + 1, k + 1, i, h1, h2, h3 => by
    have hi : i < s.length := by omega
    have hw : wrap64 ((i : Int) + 1) = ((i + 1 : Nat) : Int) := by unfold wrap64; omega
    rw [doormanref13_Has.l0, if_pos (by omega), if_pos (by omega), rd_get hi, hw]
    by_cases he : s[i] = x
    · rw [if_pos (by rw [he]), decide_eq_true (by rw [← he]; exact List.getElem_mem hi)]
    · rw [if_neg (fun h => he (ba_ext h))]
      refine rhas_l s x hn n k (i + 1) (by omega) (by omega) (fun h => ?_)
      rw [← List.take_append_getElem hi] at h
      rcases List.mem_append.1 h with h | h
      · exact h3 h
      · exact he (List.mem_singleton.1 h).symm
theorem rhas_f (s : List ByteArray) (x : ByteArray) (hn : s.length ≤ 1000) {k : Nat} (hk : s.length < k) : doormanref13_Has.f k s x = some (decide (x ∈ s)) := by
  unfold doormanref13_Has.f
  exact rhas_l s x hn s.length k 0 (by omega) hk (by simp)
theorem rwith_l {s : List ByteArray} (hs : Srt blt s) (x : ByteArray) (hn : s.length ≤ 1000) : ∀ (n k i : Nat), i + n = pos blt s x → n < k → doormanref13_With.l0 k s x (i : Int) = some (ins blt s x)
  | _, 0, i, _, h => by omega
  | 0, k + 1, i, h1, h2 => by
    have hp := pos_le (lt := blt) s x
    have hi : i = pos blt s x := by omega
    have e : s.take i ++ [x] ++ s.drop i = ins blt s x := by unfold ins; rw [hi]; simp
    have hl1 : (s.take i).length = i := by rw [List.length_take]; omega
    rw [doormanref13_With.l0]
    by_cases hlt : i < s.length
    · have hb : ¬ Op.bytesLess s[i].toList x.toList = true := fun h => by
        have := (pos_lt blt_TO hs i hlt).1 h
        omega
      rw [if_pos (by omega), if_pos (by omega), rd_get hlt, if_neg hb, if_pos (by omega), Int.toNat_natCast]
      simp only [Option.bind_some]
      rw [if_pos (by simp; omega), List.nil_append, if_pos (by omega), if_pos (by simp; omega), e]
    · rw [if_neg (by omega), if_pos (by omega), if_pos (by omega), Int.toNat_natCast]
      simp only [Option.bind_some]
      rw [if_pos (by simp; omega), List.nil_append, if_pos (by omega), if_pos (by simp; omega), e]
  | n + 1, k + 1, i, h1, h2 => by
    have hp := pos_le (lt := blt) s x
    have hi : i < s.length := by omega
    have hw : wrap64 ((i : Int) + 1) = ((i + 1 : Nat) : Int) := by unfold wrap64; omega
    rw [doormanref13_With.l0, if_pos (by omega), if_pos (by omega), rd_get hi, if_pos (show Op.bytesLess s[i].toList x.toList = true from (pos_lt blt_TO hs i hi).2 (by omega)), hw]
    exact rwith_l hs x hn n k (i + 1) (by omega) (by omega)
theorem rwith_f {s : List ByteArray} (hs : Srt blt s) (x : ByteArray) (hn : s.length ≤ 1000) {k : Nat} (hk : s.length + 1 < k) : doormanref13_With.f k s x = some (if x ∈ s then s else ins blt s x) := by
  unfold doormanref13_With.f
  rw [rhas_f s x hn (by omega), Option.bind_some]
  by_cases h : x ∈ s
  · rw [decide_eq_true h, if_pos rfl, if_pos h]
  · rw [decide_eq_false h, if_neg (by decide), if_neg h]
    exact rwith_l hs x hn (pos blt s x) k 0 (by omega) (by have := pos_le (lt := blt) s x; omega)
theorem rof_l (l : List ByteArray) (hn : l.length ≤ 100) : ∀ (n k i : Nat) (acc : List ByteArray), i + n = l.length → n + 200 < k → Srt blt acc → (∀ x, x ∈ acc ↔ x ∈ l.take i) → acc.length ≤ i → doormanref13_Of.l0 k l acc (i : Int) = some (ofB l)
  | _, 0, i, _, _, h, _, _, _ => by omega
  | 0, k + 1, i, acc, h1, h2, h3, h4, h5 => by
    rw [doormanref13_Of.l0, if_neg (by omega)]
    rw [List.take_of_length_le (by omega)] at h4
    rw [srt_ext blt_TO h3 (ofB_spec l).1 (fun x => by rw [h4, (ofB_spec l).2])]
  | n + 1, k + 1, i, acc, h1, h2, h3, h4, h5 => by
    have hi : i < l.length := by omega
    have hw : wrap64 ((i : Int) + 1) = ((i + 1 : Nat) : Int) := by unfold wrap64; omega
    rw [doormanref13_Of.l0, if_pos (by omega), if_pos (by omega), rd_get hi, hw, rwith_f h3 _ (by omega) (by omega), Option.bind_some]
    by_cases h : l[i] ∈ acc
    · rw [if_pos h]
      refine rof_l l hn n k (i + 1) acc (by omega) (by omega) h3 (fun x => ?_) (by omega)
      rw [h4, ← List.take_append_getElem hi, List.mem_append, List.mem_singleton]
      constructor
      · exact .inl
      · rintro (hx | rfl)
        · exact hx
        · exact (h4 _).1 h
    · rw [if_neg h]
      refine rof_l l hn n k (i + 1) _ (by omega) (by omega) (srt_ins blt_TO h3 h) (fun x => ?_) (by rw [ins_len]; omega)
      rw [mem_ins, h4, ← List.take_append_getElem hi, List.mem_append, List.mem_singleton]
      exact Or.comm
theorem rof_f (l : List ByteArray) (hn : l.length ≤ 100) {k : Nat} (hk : 400 ≤ k) : doormanref13_Of.f k l = some (ofB l) := by
  unfold doormanref13_Of.f
  exact rof_l l hn l.length k 0 [] (by omega) (by omega) List.Pairwise.nil (by simp) (Nat.le_refl _)
theorem rwithout_l (s : List ByteArray) (x : ByteArray) (hn : s.length ≤ 1000) : ∀ (n k i : Nat) (acc : List ByteArray), i + n = s.length → n < k → acc = del (s.take i) x → doormanref13_Without.l0 k s x acc (i : Int) = some (del s x)
  | _, 0, i, _, _, h, _ => by omega
  | 0, k + 1, i, acc, h1, h2, h3 => by
    rw [doormanref13_Without.l0, if_neg (by omega), h3, List.take_of_length_le (by omega)]
  | n + 1, k + 1, i, acc, h1, h2, h3 => by
    have hi : i < s.length := by omega
    have hw : wrap64 ((i : Int) + 1) = ((i + 1 : Nat) : Int) := by unfold wrap64; omega
    have hal : acc.length ≤ i := by
      rw [h3]; unfold del
      exact Nat.le_trans (List.length_filter_le _ _) (by rw [List.length_take]; omega)
    have hd : del (s.take (i + 1)) x = del (s.take i) x ++ (if s[i] = x then [] else [s[i]]) := by
      unfold del
      rw [← List.take_append_getElem hi, List.filter_append]
      by_cases he : s[i] = x <;> simp [he]
    rw [doormanref13_Without.l0, if_pos (by omega), if_pos (by omega), rd_get hi, hw]
    by_cases he : s[i] = x
    · rw [if_pos (by rw [he])]
      rw [if_pos he, List.append_nil] at hd
      exact rwithout_l s x hn n k (i + 1) acc (by omega) (by omega) (by rw [hd]; exact h3)
    · rw [if_neg (fun h => he (ba_ext h)), if_pos (by omega)]
      rw [if_neg he] at hd
      exact rwithout_l s x hn n k (i + 1) _ (by omega) (by omega) (by rw [hd, h3])
theorem rwithout_f (s : List ByteArray) (x : ByteArray) (hn : s.length ≤ 1000) {k : Nat} (hk : s.length < k) : doormanref13_Without.f k s x = some (del s x) := by
  unfold doormanref13_Without.f
  exact rwithout_l s x hn s.length k 0 [] (by omega) hk (by rfl)
def mk84 (c : ByteArray × Bool) : S84 := ⟨c.1, c.2⟩
theorem rd84 {d : List (ByteArray × Bool)} {j : Nat} (h : j < d.length) : rd_T84 (d.map mk84) (j : Int) = mk84 d[j] := by
  unfold rd_T84
  rw [Int.toNat_natCast, List.getD_eq_getElem?_getD, List.getElem?_map, List.getElem?_eq_getElem h]; rfl
theorem rapp_l1 (p d : List (ByteArray × Bool)) (hp : p.length ≤ 100) (hd : d.length ≤ 100) : ∀ (n k i : Nat) (s : List ByteArray), i + n = d.length → 3 * n + 400 < k → Srt blt s → s.length ≤ 100 + i →
    doormanref13_Apply.l1 k s (p.map mk84) (d.map mk84) (i : Int) = some (match apC blt s (d.drop i) i with | .ok t => (t, 0, 0) | .error (add, j) => ([], if add then 32 else 41, ((p.length + j : Nat) : Int)))
  | n, 0, i, s, _, h, _, _ => by omega
  | n, 1, i, s, _, h, _, _ => by omega
  | n, 2, i, s, _, h, _, _ => by omega
  | 0, k + 3, i, s, h1, h2, h3, h4 => by
    rw [doormanref13_Apply.l1, if_neg (by rw [List.length_map]; omega), List.drop_of_length_le (by omega)]
    rfl
  | n + 1, k + 3, i, s, h1, h2, h3, h4 => by
    have hi : i < d.length := by omega
    have hw : wrap64 ((i : Int) + 1) = ((i + 1 : Nat) : Int) := by unfold wrap64; omega
    have hw2 : wrap64 (((p.map mk84).length : Int) + (i : Int)) = ((p.length + i : Nat) : Int) := by rw [List.length_map]; unfold wrap64; omega
    obtain ⟨x, add, hx⟩ : ∃ x add, d[i] = (x, add) := ⟨_, _, rfl⟩
    rw [doormanref13_Apply.l1, if_pos (by rw [List.length_map]; omega), if_pos (by omega), rd84 hi, hx, rhas_f s _ (by omega) (by omega), Option.bind_some, List.drop_eq_getElem_cons hi, hx, apC]
    show (if decide (x ∈ s) = true then doormanref13_Apply.j2 (k + 2) s (p.map mk84) (d.map mk84) (i : Int) (decide (x ∈ s)) add x add else doormanref13_Apply.j2 (k + 2) s (p.map mk84) (d.map mk84) (i : Int) (decide (x ∈ s)) false x add) = _
    by_cases h : x ∈ s
    · rw [decide_eq_true h, if_pos rfl, doormanref13_Apply.j2]
      cases add with
      | true => rw [if_pos rfl, if_pos rfl, hw2]; rfl
      | false =>
        rw [if_neg (by decide), if_pos rfl, if_neg (by decide), doormanref13_Apply.j3, if_neg (by decide), if_neg (by decide), rwithout_f s x (by omega) (by omega), Option.bind_some, hw]
        have hdl : (del s x).length ≤ s.length := List.length_filter_le _ _
        have ih := rapp_l1 p d hp hd n k (i + 1) (del s x) (by omega) (by omega) (srt_del x h3) (by omega)
        simpa using ih
    · rw [decide_eq_false h, if_neg (by decide), doormanref13_Apply.j2, if_neg (by decide), if_neg (by decide)]
      cases add with
      | false => rw [if_pos rfl, doormanref13_Apply.j3, if_pos (by rfl), hw2]; rfl
      | true =>
        rw [if_neg (by decide), doormanref13_Apply.j3, if_neg (by decide), if_pos rfl, rwith_f h3 x (by omega) (by omega), if_neg h, Option.bind_some, hw]
        have ih := rapp_l1 p d hp hd n k (i + 1) (ins blt s x) (by omega) (by omega) (srt_ins blt_TO h3 h) (by rw [ins_len]; omega)
        simpa using ih
theorem rapp_l0 (p d : List (ByteArray × Bool)) (hp : p.length ≤ 100) (hd : d.length ≤ 100) (s : List ByteArray) (hs : Srt blt s) (hsn : s.length ≤ 100) : ∀ (n k i : Nat), i + n = p.length → n + 800 < k →
    doormanref13_Apply.l0 k s (p.map mk84) (d.map mk84) (i : Int) = some (match preF s (p.drop i) i with | some j => ([], 41, (j : Int)) | none => match apC blt s d 0 with | .ok t => (t, 0, 0) | .error (add, j) => ([], if add then 32 else 41, ((p.length + j : Nat) : Int)))
  | n, 0, i, _, h => by omega
  | 0, k + 1, i, h1, h2 => by
    rw [doormanref13_Apply.l0, if_neg (by rw [List.length_map]; omega), List.drop_of_length_le (by omega)]
    have := rapp_l1 p d hp hd d.length k 0 s (by omega) (by omega) hs (by omega)
    rw [List.drop_zero] at this
    exact this
  | n + 1, k + 1, i, h1, h2 => by
    have hi : i < p.length := by omega
    have hw : wrap64 ((i : Int) + 1) = ((i + 1 : Nat) : Int) := by unfold wrap64; omega
    obtain ⟨x, is, hx⟩ : ∃ x is, p[i] = (x, is) := ⟨_, _, rfl⟩
    rw [doormanref13_Apply.l0, if_pos (by rw [List.length_map]; omega), if_pos (by omega), rd84 hi, hx, rhas_f s _ (by omega) (by omega), Option.bind_some, List.drop_eq_getElem_cons hi, hx, preF, hw]
    show (if (decide (x ∈ s) != is) = true then some (([] : List ByteArray), (41 : Int), (i : Int)) else _) = _
    by_cases hb : decide (x ∈ s) = is
    · rw [if_neg (by rw [hb]; simp), if_pos hb]
      exact rapp_l0 p d hp hd s hs hsn n k (i + 1) (by omega) (by omega)
    · rw [if_pos (by simpa using hb), if_neg hb]
theorem rapp_f (p d : List (ByteArray × Bool)) (hp : p.length ≤ 100) (hd : d.length ≤ 100) {s : List ByteArray} (hs : Srt blt s) (hsn : s.length ≤ 100) {k : Nat} (hk : 1000 ≤ k) : doormanref13_Apply.f k s (p.map mk84) (d.map mk84) = some (applyB s p d) := by
  unfold doormanref13_Apply.f
  have := rapp_l0 p d hp hd s hs hsn p.length k 0 (by omega) (by omega)
  rw [List.drop_zero] at this
  rw [show (0 : Int) = ((0 : Nat) : Int) from rfl, this]
  rfl
end Go.Proofs.Ythpcplpannbipaa.Mr
