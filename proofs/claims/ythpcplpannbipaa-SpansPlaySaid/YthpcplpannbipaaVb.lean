/- What the document's functions of layer 14 answer, in plain Lean; no program walked; no condition. -/
import Derived.Test.YthpcplpannbipaaVa
set_option linter.unusedVariables false
set_option linter.unusedSimpArgs false
set_option linter.unusedSectionVars false
namespace Go.Proofs.Ythpcplpannbipaa.Nr
open Go.RowKit Go.Proofs.YthpcplpannbipaaW.PrintWords Go.Proofs.Ythpcplpannbipaa.Kx Go.Proofs.Ythpcplpannbipaa.Mp Go.Proofs.Ythpcplpannbipaa.Mq Go.Proofs.Ythpcplpannbipaa.Sq Go.Proofs.Ythpcplpannbipaa.Sa
abbrev Es := S74
def toR (x : Xs) : ByteArray × Sp := (x.f0, (x.f1, x.f2))
def toE (x : Es) : Evt ByteArray := (x.f0, x.f1, x.f2)
theorem idx_end {α : Type} {L : List α} {i : Nat} (h : L.drop i = []) : ¬ ((i : Int) < (L.length : Int)) := by
  have := List.drop_eq_nil_iff.1 h; omega
theorem idx_step {α : Type} {L : List α} {i : Nat} {x : α} {r : List α} (h : L.drop i = x :: r) : ((i : Int) < (L.length : Int)) ∧ L.drop (i + 1) = r ∧ L[i]? = some x := by
  have hl : i < L.length := by
    refine Nat.lt_of_not_le fun hle => ?_
    rw [List.drop_eq_nil_of_le hle] at h
    exact absurd h (by simp)
  have h1 := List.drop_eq_getElem_cons hl
  rw [h] at h1
  injection h1 with h2 h3
  exact ⟨by omega, h3.symm, by rw [List.getElem?_eq_getElem hl, h2]⟩
theorem rd_x {L : List Xs} {i : Nat} {x : Xs} (h : L[i]? = some x) : rd_T102 L (i : Int) = x := by
  unfold rd_T102
  rw [Int.toNat_natCast, List.getD_eq_getElem?_getD, h]
  rfl
theorem rd_e {L : List Es} {i : Nat} {x : Es} (h : L[i]? = some x) : rd_T74 L (i : Int) = x := by
  unfold rd_T74
  rw [Int.toNat_natCast, List.getD_eq_getElem?_getD, h]
  rfl
theorem up_i {i n : Nat} (h : (i : Int) < (n : Int)) (hn : n ≤ 1000000) : wrap64 ((i : Int) + 1) = ((i + 1 : Nat) : Int) := by
  unfold wrap64; omega
theorem ba_iff {a b : ByteArray} : a.toList = b.toList ↔ a = b := ⟨fun h => ByteArray.ext (Array.toList_inj.1 (by rw [← Lib.toList_data, ← Lib.toList_data, h])), fun h => by rw [h]⟩
theorem ba_nil {a : ByteArray} : a.toList = ([] : List UInt8) ↔ a = ⟨#[]⟩ := ⟨fun h => ByteArray.ext (Array.toList_inj.1 (by rw [← Lib.toList_data, h])), fun h => by rw [h, Lib.toList_data]⟩
theorem holds_f (a : ByteArray) (b c rev : Int) : doormanref14_holds.f a b c rev = some (holds rev (b, c)) := by
  unfold doormanref14_holds.f holds
  by_cases h1 : b ≤ rev
  · rw [if_pos h1, decide_eq_true h1]
    by_cases h2 : c = 0
    · rw [if_pos h2, decide_eq_true h2]; rfl
    · rw [if_neg h2, decide_eq_false h2]; rfl
  · rw [if_neg h1, decide_eq_false h1]; rfl
theorem has_l (L : List Xs) (last rev : Int) (key : ByteArray) (hL : L.length ≤ 1000000) : ∀ (r : List Xs) (i k : Nat), L.drop i = r → r.length < k →
    doormanref14_Has.l0 k key rev (i : Int) L last = some (r.any fun x => holds rev (toR x).2 && decide ((toR x).1 = key))
  | _, _, 0, _, hk => absurd hk (Nat.not_lt_zero _)
  | [], i, k + 1, h, hk => by rw [doormanref14_Has.l0, if_neg (idx_end h)]; rfl
  | x :: r, i, k + 1, h, hk => by
    obtain ⟨h1, h2, h3⟩ := idx_step h
    have ih := has_l L last rev key hL r (i + 1) k h2 (by simpa using hk)
    rw [doormanref14_Has.l0, if_pos h1, if_pos (Int.natCast_nonneg i), rd_x h3, holds_f, Option.bind_some, up_i h1 hL, ih, List.any_cons]
    show _ = some ((holds rev (x.f1, x.f2) && decide (x.f0 = key)) || _)
    cases holds rev (x.f1, x.f2) with
    | false => rfl
    | true =>
      rw [if_pos rfl]
      by_cases hk : x.f0 = key
      · rw [if_pos (ba_iff.2 hk), decide_eq_true hk]; rfl
      · rw [if_neg (fun e => hk (ba_iff.1 e)), decide_eq_false hk]; rfl
theorem count_l (L : List Xs) (last rev : Int) (hL : L.length ≤ 1000000) : ∀ (r : List Xs) (i n k : Nat), L.drop i = r → r.length < k → n + r.length ≤ 1000000 →
    doormanref14_Count.l0 k rev (n : Int) (i : Int) L last = some ((n + (r.map toR).countP fun p => holds rev p.2 : Nat) : Int)
  | _, _, _, 0, _, hk, _ => absurd hk (Nat.not_lt_zero _)
  | [], i, n, k + 1, h, hk, _ => by rw [doormanref14_Count.l0, if_neg (idx_end h)]; rfl
  | x :: r, i, n, k + 1, h, hk, hn => by
    obtain ⟨h1, h2, h3⟩ := idx_step h
    have hn' : n + (r.length + 1) ≤ 1000000 := hn
    have ih := fun n hn => count_l L last rev hL r (i + 1) n k h2 (by simpa using hk) hn
    rw [doormanref14_Count.l0, if_pos h1, if_pos (Int.natCast_nonneg i), rd_x h3, holds_f, Option.bind_some, up_i h1 hL, List.map_cons, List.countP_cons]
    show _ = some ((n + (_ + if holds rev (x.f1, x.f2) = true then 1 else 0) : Nat) : Int)
    cases holds rev (x.f1, x.f2) with
    | false => rw [if_neg (by simp), ih n (by omega)]; rfl
    | true =>
      rw [if_pos rfl, show wrap64 ((n : Int) + 1) = ((n + 1 : Nat) : Int) from by unfold wrap64; omega, ih (n + 1) (by omega), if_pos rfl]
      congr 2; omega
/-- The index of the span that didn't end. -/
def opI (L : List Xs) (key : ByteArray) (i : Nat) : Int := match L.findIdx? (fun x => isOpen key (toR x)) with
  | none => -1
  | some j => ((i + j : Nat) : Int)
theorem open_l (L : List Xs) (last : Int) (key : ByteArray) (hL : L.length ≤ 1000000) : ∀ (r : List Xs) (i k : Nat), L.drop i = r → r.length < k →
    doormanref14_open.l0 k key (i : Int) L last = some (opI r key i)
  | _, _, 0, _, hk => absurd hk (Nat.not_lt_zero _)
  | [], i, k + 1, h, hk => by rw [doormanref14_open.l0, if_neg (idx_end h)]; rfl
  | x :: r, i, k + 1, h, hk => by
    obtain ⟨h1, h2, h3⟩ := idx_step h
    have ih := open_l L last key hL r (i + 1) k h2 (by simpa using hk)
    have hs : opI (x :: r) key i = if isOpen key (toR x) = true then (i : Int) else opI r key (i + 1) := by
      unfold opI
      rw [List.findIdx?_cons]
      cases isOpen key (toR x) with
      | true => rfl
      | false =>
        rw [if_neg (by simp)]
        cases r.findIdx? (fun x => isOpen key (toR x)) with
        | none => rfl
        | some j => show ((i + (j + 1) : Nat) : Int) = ((i + 1 + j : Nat) : Int); omega
    rw [doormanref14_open.l0, if_pos h1, if_pos (Int.natCast_nonneg i), rd_x h3, up_i h1 hL, ih, hs]
    have e : isOpen key (toR x) = (decide (x.f0 = key) && decide (x.f2 = 0)) := rfl
    rw [e]
    by_cases hk : x.f0 = key
    · rw [if_pos (ba_iff.2 hk), decide_eq_true hk]
      by_cases hz : x.f2 = 0
      · rw [if_pos hz, decide_eq_true hz]; rfl
      · rw [if_neg hz, decide_eq_false hz]; rfl
    · rw [if_neg (fun e => hk (ba_iff.1 e)), decide_eq_false hk]; rfl
theorem trim_l (L : List Xs) (last rev : Int) (hL : L.length ≤ 1000000) : ∀ (r acc : List Xs) (i k : Nat), L.drop i = r → r.length < k → acc.length + r.length ≤ 1000000 →
    doormanref14_Trim.l0 k rev acc (i : Int) L last = some (acc ++ r.filter (fun x => !gone rev (toR x).2), last, ((L.length - (acc ++ r.filter fun x => !gone rev (toR x).2).length : Int)))
  | _, _, _, 0, _, hk, _ => absurd hk (Nat.not_lt_zero _)
  | [], acc, i, k + 1, h, hk, hn => by
    have hn' : acc.length + 0 ≤ 1000000 := hn
    rw [doormanref14_Trim.l0, if_neg (idx_end h), List.filter_nil, List.append_nil, show wrap64 ((L.length : Int) - (acc.length : Int)) = (L.length : Int) - (acc.length : Int) from by unfold wrap64; omega]
  | x :: r, acc, i, k + 1, h, hk, hn => by
    obtain ⟨h1, h2, h3⟩ := idx_step h
    have hn' : acc.length + (r.length + 1) ≤ 1000000 := hn
    have ih := fun acc hn => trim_l L last rev hL r acc (i + 1) k h2 (by simpa using hk) hn
    have hadd := ih (acc ++ [x]) (by rw [List.length_append, List.length_singleton]; omega)
    have hno := ih acc (by omega)
    have hx : (⟨x.f0, x.f1, x.f2⟩ : Xs) = x := rfl
    rw [doormanref14_Trim.l0, if_pos h1, if_pos (Int.natCast_nonneg i), rd_x h3, up_i h1 hL, hx, if_pos (show acc.length < 4398046511104 by omega), hadd, hno, List.filter_cons]
    have e : gone rev (toR x).2 = (decide (x.f2 ≠ 0) && decide (x.f2 ≤ rev)) := rfl
    rw [e]
    by_cases hz : x.f2 = 0
    · rw [if_pos hz, decide_eq_false (fun h => h hz), if_pos (by rfl), List.append_assoc]; rfl
    · rw [if_neg hz, decide_eq_true hz]
      by_cases hg : x.f2 > rev
      · rw [if_pos hg, decide_eq_false (by omega), if_pos (by rfl), List.append_assoc]; rfl
      · rw [if_neg hg, decide_eq_true (by omega), if_neg (by simp)]
/-- The best key so far, as two results. -/
def bo (o : Option ByteArray) : ByteArray × Bool := (o.getD ⟨#[]⟩, o.isSome)
theorem next_l (L : List Xs) (last rev : Int) (f t : ByteArray) (hL : L.length ≤ 1000000) : ∀ (r : List Xs) (o : Option ByteArray) (i k : Nat), L.drop i = r → r.length < k →
    doormanref14_Next.l0 k rev f t (bo o).1 (bo o).2 (i : Int) L last = some (bo ((r.map toR).foldl (nextR blt rev f (toO t)) o))
  | _, _, _, 0, _, hk => absurd hk (Nat.not_lt_zero _)
  | [], o, i, k + 1, h, hk => by rw [doormanref14_Next.l0, if_neg (idx_end h)]; rfl
  | x :: r, o, i, k + 1, h, hk => by
    obtain ⟨h1, h2, h3⟩ := idx_step h
    have ih := fun o => next_l L last rev f t hL r o (i + 1) k h2 (by simpa using hk)
    have hb := ih (some x.f0)
    have hb' : doormanref14_Next.l0 k rev f t x.f0 true ((i + 1 : Nat) : Int) L last = _ := hb
    have ho := ih o
    rw [doormanref14_Next.l0, if_pos h1, if_pos (Int.natCast_nonneg i), rd_x h3, holds_f, Option.bind_some, up_i h1 hL, hb', ho, List.map_cons, List.foldl_cons]
    have e : nextR blt rev f (toO t) o (toR x) = if (holds rev (x.f1, x.f2) && !blt x.f0 f && (toO t).all (fun t => blt x.f0 t) && o.all (fun b => blt x.f0 b)) = true then some x.f0 else o := rfl
    rw [e]
    clear ih hb hb' ho e
    cases holds rev (x.f1, x.f2) with
    | false => rfl
    | true =>
      rw [if_pos rfl]
      have e1 : Op.bytesLess x.f0.toList f.toList = blt x.f0 f := rfl
      have e2 : Op.bytesLess x.f0.toList t.toList = blt x.f0 t := rfl
      have e3 : Op.bytesLess x.f0.toList (bo o).1.toList = blt x.f0 (bo o).1 := rfl
      rw [e1, e2, e3]
      cases blt x.f0 f with
      | true => rfl
      | false =>
        rw [if_neg (by simp)]
        have ho : (if (bo o).2 = true then if blt x.f0 (bo o).1 = true then some (bo ((r.map toR).foldl (nextR blt rev f (toO t)) (some x.f0))) else some (bo ((r.map toR).foldl (nextR blt rev f (toO t)) o)) else some (bo ((r.map toR).foldl (nextR blt rev f (toO t)) (some x.f0)))) =
            some (bo ((r.map toR).foldl (nextR blt rev f (toO t)) (if o.all (fun b => blt x.f0 b) = true then some x.f0 else o))) := by
          cases o with
          | none => rfl
          | some b =>
            show (if true = true then (if blt x.f0 b = true then _ else _) else _) = some (bo ((r.map toR).foldl _ (if blt x.f0 b = true then _ else _)))
            rw [if_pos rfl]
            cases blt x.f0 b <;> rfl
        by_cases ht : t = ⟨#[]⟩
        · rw [if_pos (ba_nil.2 ht), ho]
          have h0 : toO t = none := if_pos ht
          rw [h0]
          rfl
        · rw [if_neg (fun h => ht (ba_nil.1 h))]
          have h0 : toO t = some t := if_neg ht
          rw [ho, h0]
          show _ = some (bo ((r.map toR).foldl _ (if (true && blt x.f0 t && _) = true then _ else _)))
          cases blt x.f0 t <;> rfl
theorem below_f (a b : Es) : doormanref14_below.f a.f0 a.f1 a.f2 b.f0 b.f1 b.f2 = some (elt blt (toE a) (toE b)) := by
  unfold doormanref14_below.f
  have e : elt blt (toE a) (toE b) = (decide (a.f0 < b.f0) || (decide (a.f0 = b.f0) && (blt a.f1 b.f1 || (decide (a.f1 = b.f1) && (!a.f2 && b.f2))))) := rfl
  rw [e]
  by_cases h1 : a.f0 = b.f0
  · rw [if_pos h1, decide_eq_true h1, decide_eq_false (show ¬ a.f0 < b.f0 by omega)]
    by_cases h2 : a.f1 = b.f1
    · rw [if_pos (ba_iff.2 h2), decide_eq_true h2, show blt a.f1 b.f1 = false from by rw [h2]; exact blt_TO.irr _]
      cases a.f2 <;> rfl
    · rw [if_neg (fun e => h2 (ba_iff.1 e)), decide_eq_false h2, show Op.bytesLess a.f1.toList b.f1.toList = blt a.f1 b.f1 from rfl]
      cases blt a.f1 b.f1 <;> rfl
  · rw [if_neg h1, decide_eq_false h1]
    cases decide (a.f0 < b.f0) <;> rfl
theorem put_l (L : List Es) (e : Es) (hL : L.length ≤ 1000000) : ∀ (r : List Es) (i k : Nat), L.drop i = r → i ≤ L.length → r.length < k →
    doormanref14_put.l0 k L (i : Int) e.f0 e.f1 e.f2 = some (L.take i ++ ((r.takeWhile fun y => elt blt (toE y) (toE e)) ++ e :: (r.dropWhile fun y => elt blt (toE y) (toE e))))
  | _, _, 0, _, _, hk => absurd hk (Nat.not_lt_zero _)
  | [], i, k + 1, h, hi, hk => by
    have l1 : (L.take i).length ≤ 1000000 := Nat.le_trans (List.length_take_le' i L) hL
    rw [doormanref14_put.l0, if_neg (idx_end h), if_pos (Int.natCast_nonneg i), if_pos (Int.ofNat_le.2 hi)]
    simp only [Option.bind_some, Int.toNat_natCast, List.nil_append, List.length_nil, h]
    rw [if_pos (by omega), if_pos (by omega), if_pos (by rw [List.length_append, List.length_singleton]; omega), List.append_assoc]
    rfl
  | x :: r, i, k + 1, h, hi, hk => by
    obtain ⟨h1, h2, h3⟩ := idx_step h
    have ih := put_l L e hL r (i + 1) k h2 (by omega) (by simpa using hk)
    have l1 : (L.take i).length ≤ 1000000 := Nat.le_trans (List.length_take_le' i L) hL
    have l2 : r.length + 1 ≤ 1000000 := by have := congrArg List.length h; rw [List.length_drop, List.length_cons] at this; omega
    rw [doormanref14_put.l0, if_pos h1, if_pos (Int.natCast_nonneg i), rd_e h3, below_f, Option.bind_some, up_i h1 hL, ih, List.takeWhile_cons, List.dropWhile_cons]
    cases elt blt (toE x) (toE e) with
    | true =>
      rw [if_pos rfl, if_pos rfl, if_pos rfl, List.take_add_one, h3]
      simp
    | false =>
      simp only [Bool.false_eq_true, if_false]
      rw [if_pos (Int.ofNat_le.2 hi)]
      simp only [Option.bind_some, Int.toNat_natCast, List.nil_append, List.length_nil, h]
      rw [if_pos (by omega), if_pos (by omega), if_pos (by rw [List.length_append, List.length_singleton, List.length_cons]; omega), List.append_assoc]
      rfl
theorem put_f {L : List Es} (e : Es) (hL : L.length ≤ 1000000) {k : Nat} (hk : L.length < k) : ∃ r, doormanref14_put.f k L e.f0 e.f1 e.f2 = some r ∧ r.map toE = insE blt (L.map toE) (toE e) ∧ r.length = L.length + 1 := by
  have h := put_l L e hL L 0 k List.drop_zero (Nat.zero_le _) hk
  refine ⟨_, h, ?_, ?_⟩
  · rw [List.take_zero, List.nil_append, List.map_append, List.map_cons]
    unfold insE
    rw [List.takeWhile_map, List.dropWhile_map]
    rfl
  · have := congrArg List.length (List.takeWhile_append_dropWhile (p := fun y => elt blt (toE y) (toE e)) (l := L))
    rw [List.length_append] at this
    rw [List.take_zero, List.nil_append, List.length_append, List.length_cons]
    omega
theorem events_l (L : List Xs) (last f t : Int) (hL : L.length ≤ 100000) : ∀ (r : List Xs) (out : List Es) (i k : Nat), L.drop i = r → 4 * r.length + out.length + 4 ≤ k → out.length + 2 * r.length ≤ 1000000 →
    ∃ o, doormanref14_Events.l0 k f t out (i : Int) L last = some o ∧ o.map toE = (r.map toR).foldl (evStep blt f t) (out.map toE)
  | _, _, _, 0, _, hk, _ => absurd hk (by omega)
  | [], out, i, k + 1, h, hk, hn => ⟨out, by rw [doormanref14_Events.l0, if_neg (idx_end h)], rfl⟩
  | x :: r, out, i, 1, h, hk, hn => absurd hk (by omega)
  | x :: r, out, i, k + 2, h, hk, hn => by
    obtain ⟨h1, h2, h3⟩ := idx_step h
    have hk' : 4 * (r.length + 1) + out.length + 4 ≤ k + 2 := hk
    have hn' : out.length + 2 * (r.length + 1) ≤ 1000000 := hn
    have ih := fun out a b => events_l L last f t hL r out (i + 1) k h2 a b
    -- the second event
    have two : ∀ (o : List Es), o.length ≤ out.length + 1 → ∃ r', (if x.f2 > 0 then (if x.f2 > f then (if x.f2 ≤ t then ((doormanref14_put.f k o x.f2 x.f0 false).bind fun t193 => (doormanref14_Events.l0 k f t t193 (wrap64 ((i : Int) + 1)) L last)) else (doormanref14_Events.l0 k f t o (wrap64 ((i : Int) + 1)) L last)) else (doormanref14_Events.l0 k f t o (wrap64 ((i : Int) + 1)) L last)) else (doormanref14_Events.l0 k f t o (wrap64 ((i : Int) + 1)) L last)) = some r' ∧
        r'.map toE = (r.map toR).foldl (evStep blt f t) (if 0 < x.f2 ∧ f < x.f2 ∧ x.f2 ≤ t then insE blt (o.map toE) (x.f2, x.f0, false) else o.map toE) := fun o ho => by
      rw [up_i h1 (by omega)]
      by_cases c1 : x.f2 > 0
      · rw [if_pos c1]
        by_cases c2 : x.f2 > f
        · rw [if_pos c2]
          by_cases c3 : x.f2 ≤ t
          · rw [if_pos c3, if_pos ⟨c1, c2, c3⟩]
            obtain ⟨o2, e1, e2, e3⟩ := put_f (L := o) (⟨x.f2, x.f0, false⟩ : Es) (by omega) (k := k) (by omega)
            have e1' : doormanref14_put.f k o x.f2 x.f0 false = some o2 := e1
            rw [e1', Option.bind_some]
            obtain ⟨r', a1, a2⟩ := ih o2 (by omega) (by omega)
            exact ⟨r', a1, by rw [a2, e2]; rfl⟩
          · rw [if_neg c3, if_neg (fun h => c3 h.2.2)]
            exact ih o (by omega) (by omega)
        · rw [if_neg c2, if_neg (fun h => c2 h.2.1)]
          exact ih o (by omega) (by omega)
      · rw [if_neg c1, if_neg (fun h => c1 h.1)]
        exact ih o (by omega) (by omega)
    have hj : ∀ b, b = decide (f < x.f1 ∧ x.f1 ≤ t) → ∃ o, doormanref14_Events.j1 (k + 1) f t out (i : Int) b L last x.f0 x.f1 x.f2 = some o ∧ o.map toE = ((x :: r).map toR).foldl (evStep blt f t) (out.map toE) := fun b hb => by
      rw [doormanref14_Events.j1, List.map_cons, List.foldl_cons]
      have e : evStep blt f t (out.map toE) (toR x) = if 0 < x.f2 ∧ f < x.f2 ∧ x.f2 ≤ t then insE blt (if f < x.f1 ∧ x.f1 ≤ t then insE blt (out.map toE) (x.f1, x.f0, true) else out.map toE) (x.f2, x.f0, false) else (if f < x.f1 ∧ x.f1 ≤ t then insE blt (out.map toE) (x.f1, x.f0, true) else out.map toE) := rfl
      rw [e]
      by_cases c : f < x.f1 ∧ x.f1 ≤ t
      · rw [hb, decide_eq_true c, if_pos rfl, if_pos c]
        obtain ⟨o1, e1, e2, e3⟩ := put_f (L := out) (⟨x.f1, x.f0, true⟩ : Es) (by omega) (k := k) (by omega)
        have e1' : doormanref14_put.f k out x.f1 x.f0 true = some o1 := e1
        have e2' : o1.map toE = insE blt (out.map toE) (x.f1, x.f0, true) := e2
        rw [e1', Option.bind_some, ← e2']
        exact two o1 (by omega)
      · rw [hb, decide_eq_false c, if_neg (by simp), if_neg c]
        exact two out (by omega)
    rw [doormanref14_Events.l0, if_pos h1, if_pos (Int.natCast_nonneg i), rd_x h3]
    by_cases c : x.f1 > f
    · rw [if_pos c]
      exact hj _ (by by_cases c2 : x.f1 ≤ t <;> simp [c, c2])
    · rw [if_neg c]
      exact hj _ (by rw [decide_eq_false (fun h => c h.1)])
end Go.Proofs.Ythpcplpannbipaa.Nr
