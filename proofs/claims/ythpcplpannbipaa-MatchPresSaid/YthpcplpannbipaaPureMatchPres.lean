/- The law MatchPres, by the printed functions: it is true of every input; no condition. -/
import Derived.Test.YthpcplpannbipaaMs
import Derived.Test.YthpcplpannbipaaY7
set_option linter.unusedVariables false
set_option linter.unusedSimpArgs false
namespace Go.Proofs.Ythpcplpannbipaa.Mr
open Go.RowKit Go.Proofs.YthpcplpannbipaaW.PrintWords Go.Proofs.YthpcplpannbipaaW.PrintLast Go.Proofs.Ythpcplpannbipaa.Kx Go.Proofs.Ythpcplpannbipaa.Y Go.Proofs.Ythpcplpannbipaa.Mp Go.Proofs.Ythpcplpannbipaa.Mq

def pr46 (x : S46) : ByteArray × Bool := (x.f0, x.f1)
def pc40 (x : S40) : ByteArray × Bool := (x.f0, x.f1)
def wr : Option Nat → Int
  | some i => (i : Int)
  | none => -1
theorem pres_len (lt : ByteArray → ByteArray → Bool) : ∀ (cs : List (ByteArray × Bool)) (s t : List ByteArray) (i : Nat), apC lt s cs i = .ok t → t.length ≤ s.length + cs.length
  | [], s, t, i, h => by rw [apC] at h; injection h with h; rw [h]; simp
  | (k, add) :: cs, s, t, i, h => by
    rw [apC] at h
    split at h
    · cases h
    · have := pres_len lt cs _ t (i + 1) h
      cases add with
      | true => simp only [if_true, ins_len] at this; simp only [List.length_cons]; omega
      | false =>
        simp only [Bool.false_eq_true, if_false] at this
        have h2 : (del s k).length ≤ s.length := List.length_filter_le _ _
        simp only [List.length_cons]; omega
theorem pres_apply {s : List ByteArray} (hs : Srt blt s) (p : List S46) (d : List S40) (hl : s.length + d.length ≤ 900000) (hp : p.length ≤ 900000) : match_Set_Apply.f s p d = some (applyB s (p.map pr46) (d.map pc40)) := by
  unfold match_Set_Apply.f
  rw [if_pos ⟨hs, hl, hp⟩]
  rfl
theorem rd46 {d : List S46} {j : Nat} (h : j < d.length) : rd_T46 d (j : Int) = d[j] := by
  unfold rd_T46
  rw [Int.toNat_natCast, List.getD_eq_getElem?_getD, List.getElem?_eq_getElem h]; rfl
theorem app_some {s : List ByteArray} {p c : List (ByteArray × Bool)} {i : Nat} (h : preF s p 0 = some i) : applyB s p c = ([], 41, (i : Int)) := by unfold applyB; rw [h]
theorem app_ok {s t : List ByteArray} {p c : List (ByteArray × Bool)} (h : preF s p 0 = none) (h2 : apC blt s c 0 = .ok t) : applyB s p c = (t, 0, 0) := by unfold applyB; rw [h, h2]
theorem app_err {s : List ByteArray} {p c : List (ByteArray × Bool)} {add : Bool} {i : Nat} (h : preF s p 0 = none) (h2 : apC blt s c 0 = .error (add, i)) : applyB s p c = ([], if add then 32 else 41, ((p.length + i : Nat) : Int)) := by unfold applyB; rw [h, h2]
theorem pres_l0 (p : List S46) (d : List S40) (s : List ByteArray) (hs : Srt blt s) (hsn : s.length ≤ 60) (hp : p.length ≤ 30) (hd : d.length ≤ 30) : ∀ (m k : Nat) (x9 : Int), m ≤ p.length → x9 = wr (preF s ((p.drop m).map pr46) m) → m + 200 < k →
    doormanlaw13_MatchPres.l0 k p d s x9 ((m : Int) - 1) = some true
  | 0, 0, x9, _, _, h => by omega
  | 0, k + 1, x9, _, h2, h3 => by
    have a1 := pres_apply hs p d (by omega) (by omega)
    have a2 := pres_apply hs [] d (by omega) (by simp)
    rw [List.drop_zero] at h2
    rw [doormanlaw13_MatchPres.l0, if_neg (by omega), a1, Option.bind_some, a2, Option.bind_some]
    cases hq : preF s (p.map pr46) 0 with
    | some i =>
      rw [hq] at h2
      rw [app_some hq, h2]
      have hge : wr (some i) ≥ 0 := Int.natCast_nonneg i
      rw [if_pos hge]
      simp [wr]
    | none =>
      rw [hq] at h2
      have hneg : ¬ (wr none ≥ 0) := by show ¬ ((-1 : Int) ≥ 0); omega
      rw [h2, if_neg hneg, Option.bind_some]
      cases hc : apC blt s (d.map pc40) 0 with
      | ok t =>
        have htl := pres_len blt _ _ _ _ hc
        rw [List.length_map] at htl
        rw [app_ok hq hc, app_ok (p := ([] : List S46).map pr46) rfl hc]
        simp only [if_true]
        rw [same_f (by omega) (by omega), decide_eq_true rfl]
        rfl
      | error q =>
        obtain ⟨add, i⟩ := q
        obtain ⟨j, h4, h5, _⟩ := apC_error blt _ _ _ _ hc
        have hi : i < d.length := by
          have : i = j := by simpa using h4
          rw [List.length_map] at h5
          omega
        rw [app_err hq hc, app_err (p := ([] : List S46).map pr46) rfl hc]
        have hne : ¬ (if add = true then (32 : Int) else 41) = 0 := by cases add <;> decide
        have hw : ((((p.map pr46).length + i : Nat) : Int)) = wrap64 (((([] : List S46).map pr46).length + i : Nat) + (p.length : Int)) := by
          rw [List.length_map, List.map_nil, List.length_nil]; unfold wrap64; omega
        dsimp only
        rw [if_neg hne, if_pos rfl, if_pos hw]
  | m + 1, 0, x9, _, _, h => by omega
  | m + 1, k + 1, x9, h1, h2, h3 => by
    have hm : m < p.length := by omega
    have e : (((m + 1 : Nat) : Int) - 1) = (m : Int) := by omega
    have hw : wrap64 ((m : Int) - 1) = (m : Int) - 1 := by unfold wrap64; omega
    rw [e, doormanlaw13_MatchPres.l0, if_pos (by omega), if_pos (by omega), if_pos (by omega), rd46 hm, has_f hs (by omega) _ (by omega), hw, Option.bind_some]
    have hpre : preF s ((p.drop m).map pr46) m = if decide ((p[m]).f0 ∈ s) = (p[m]).f1 then preF s ((p.drop (m + 1)).map pr46) (m + 1) else some m := by
      rw [List.drop_eq_getElem_cons hm, List.map_cons]
      rfl
    by_cases hb : decide ((p[m]).f0 ∈ s) = (p[m]).f1
    · rw [if_neg (by rw [hb]; simp)]
      rw [if_pos hb] at hpre
      exact pres_l0 p d s hs hsn hp hd m k x9 (by omega) (by rw [hpre]; exact h2) (by omega)
    · rw [if_pos (by simpa using hb)]
      rw [if_neg hb] at hpre
      exact pres_l0 p d s hs hsn hp hd m k (m : Int) (by omega) (by rw [hpre]; rfl) (by omega)
theorem pres_f (a : List ByteArray) (p : List S46) (d : List S40) : doormanlaw13_MatchPres.f 2000 a p d = some true := by
  unfold doormanlaw13_MatchPres.f
  rw [awake_f (by omega)]
  simp only [Option.bind_some, if_true]
  by_cases ha : a.length > 60
  · rw [if_pos (by omega), doormanlaw13_MatchPres.j0, if_pos rfl]
  rw [if_neg (by omega)]
  by_cases hp : p.length > 30
  · rw [if_pos (by omega), doormanlaw13_MatchPres.j0, if_pos rfl]
  rw [if_neg (by omega)]
  by_cases hd : d.length > 30
  · rw [decide_eq_true (by omega), doormanlaw13_MatchPres.j0, if_pos rfl]
  rw [decide_eq_false (by omega), doormanlaw13_MatchPres.j0, if_neg (by decide)]
  have hs := (ofB_spec a).1
  have hsl := ofB_len a
  rw [of_f (by omega), Option.bind_some, show wrap64 ((p.length : Int) - 1) = (p.length : Int) - 1 by unfold wrap64; omega]
  exact pres_l0 p d _ hs (by omega) (by omega) (by omega) p.length 1999 (-1) (Nat.le_refl _) (by rw [List.drop_length]; rfl) (by omega)
end Go.Proofs.Ythpcplpannbipaa.Mr
