/- The document's reader (doormanref07) in plain Lean: the first error stays and all goes on; that it says what package parse says; no program walked; no condition. -/
import Derived.Test.YtkgnhghaiopgcaaDoorOf
set_option linter.unusedVariables false
set_option linter.unusedSimpArgs false
namespace Go.Proofs.YtkgnhghaiopgcaaDoor.Rq
open Go.Proofs.YtkgnhghaiopgcaaDoor.Gl Go.Proofs.YtkgnhghaiopgcaaDoor.X Go.Proofs.YtkgnhghaiopgcaaDoor.Kx Go.Proofs.YtkgnhghaiopgcaaDoor.Tk Go.Proofs.YtkgnhghaiopgcaaDoor.Ps Go.Proofs.YtkgnhghaiopgcaaDoor.Of

/-- The reader: what is left, or the first error and its place. -/
inductive Sg where
  | ok (ts : List Tok)
  | bad (e : Int) (a : Nat)
def isR (s : List UInt8) : Sg → Bool
  | .ok ts => isT s ts
  | .bad _ _ => false
def pop : Sg → Sg
  | .ok ts => .ok ts.tail
  | σ => σ
def failR (e : Int) : Sg → Sg
  | .ok ts => .bad e (atT ts)
  | σ => σ
def needR (s : List UInt8) (σ : Sg) : Sg := if isR s σ = true then pop σ else failR 30 σ
def nameR : Sg → ByteArray × Sg
  | .ok [] => (⟨#[]⟩, .bad 30 0)
  | .ok (t :: r) => if t.kind = 1 ∧ TkKey.key t.text = false then (B t.text, .ok r) else (⟨#[]⟩, .bad 30 t.at_)
  | .bad e a => (⟨#[]⟩, .bad e a)
def oR (k : Int) : RO := ⟨k, ⟨#[]⟩, ⟨#[]⟩⟩
def signR (σ : Sg) : Int := if isR [124] σ = true then 4 else if isR [38] σ = true then 5 else if isR [45] σ = true then 6 else 0
mutual
def partR : Nat → Nat → Sg → Option (List RO × Sg)
  | 0, _, _ => none
  | k + 1, d, σ =>
    if isR sThis σ = true then some ([oR 1], pop σ)
    else if isR [40] σ = true then
      if d = 8 then some ([], failR 13 σ)
      else (rewR k (d + 1) (pop σ)).bind fun x => some (x.1, needR [41] x.2)
    else if isR [46] (nameR σ).2 = true then some ([⟨3, (nameR σ).1, (nameR (pop (nameR σ).2)).1⟩], (nameR (pop (nameR σ).2)).2)
    else some ([⟨2, (nameR σ).1, ⟨#[]⟩⟩], (nameR σ).2)
def rewR : Nat → Nat → Sg → Option (List RO × Sg)
  | 0, _, _ => none
  | k + 1, d, σ => (partR k d σ).bind fun x => rewRL k d x.1 x.2
def rewRL : Nat → Nat → List RO → Sg → Option (List RO × Sg)
  | 0, _, _, _ => none
  | k + 1, d, acc, σ =>
    if signR σ = 0 then some (acc, σ)
    else (partR k d (pop σ)).bind fun x => rewRL k d (acc ++ x.1 ++ [oR (signR σ)]) x.2
end
def subR (σ : Sg) : RS × Sg := if isR [35] (nameR σ).2 = true then (⟨(nameR σ).1, (nameR (pop (nameR σ).2)).1⟩, (nameR (pop (nameR σ).2)).2) else (⟨(nameR σ).1, ⟨#[]⟩⟩, (nameR σ).2)
def subsR : Nat → List RS → Sg → Option (List RS × Sg)
  | 0, _, _ => none
  | k + 1, acc, σ => if isR [44] (subR σ).2 = true then subsR k (acc ++ [(subR σ).1]) (pop (subR σ).2) else some (acc ++ [(subR σ).1], (subR σ).2)
def okB : Sg → Bool
  | .ok _ => true
  | .bad _ _ => false
def h1 (σ : Sg) := nameR σ
def h2 (σ : Sg) := nameR (needR [40] (h1 σ).2)
def h3 (σ : Sg) := nameR (needR [44] (h2 σ).2)
def h4 (σ : Sg) := nameR (needR [44] (h3 σ).2)
def h5 (σ : Sg) : Sg := needR [58] (needR [41] (h4 σ).2)
def moreR (σ : Sg) : Bool := okB σ && !isR sIs σ && !isR [59] σ
def relR (k : Nat) (σ : Sg) : Option (RR × Sg) :=
  (if moreR (h5 σ) = true then subsR k [] (h5 σ) else some ([], h5 σ)).bind fun su =>
  (if isR sIs su.2 = true then rewR k 0 (pop su.2) else some ([oR 1], su.2)).bind fun ops =>
  some (⟨(h1 σ).1, (h2 σ).1, (h3 σ).1, (h4 σ).1, su.1, ops.1⟩, needR [59] ops.2)
def relsR : Nat → List RR → Sg → Option (List RR × Sg)
  | 0, _, _ => none
  | k + 1, acc, σ => if isR sRel σ = true then (relR k (pop σ)).bind fun x => relsR k (acc ++ [x.1]) x.2 else some (acc, σ)
def typeR (k : Nat) (σ : Sg) : Option (RT × Sg) := (relsR k [] (needR [123] (nameR σ).2)).bind fun l => some (⟨(nameR σ).1, l.1⟩, needR [125] l.2)
def typesR : Nat → List RT → Sg → Option (List RT × Sg)
  | 0, _, _ => none
  | k + 1, acc, σ => if isR sType σ = true then (typeR k (pop σ)).bind fun x => typesR k (acc ++ [x.1]) x.2 else some (acc, σ)
def endR : Sg → Sg
  | .ok (t :: r) => if t.kind = 3 then .ok (t :: r) else .bad 30 t.at_
  | .ok [] => .bad 30 0
  | σ => σ
/-! ### the same as the program's -/
def Up {α β : Type} (f : α → β) (x : Except Er (α × List Tok)) (y : β × Sg) : Prop :=
  match x with
  | .ok a => y = (f a.1, .ok a.2)
  | .error e => y.2 = .bad e.1 e.2
theorem isR_bad (s : List UInt8) (e : Int) (a : Nat) : isR s (.bad e a) = false := rfl
theorem sign_bad (e : Int) (a : Nat) : signR (.bad e a) = 0 := rfl
theorem sign_ok (ts : List Tok) : signR (.ok ts) = signT ts := rfl
theorem name_up (ts : List Tok) : Up id (nameT ts) (nameR (.ok ts)) := by
  cases ts with
  | nil => rfl
  | cons t r =>
    show Up id (if t.kind = 1 ∧ TkKey.key t.text = false then _ else _) (if t.kind = 1 ∧ TkKey.key t.text = false then _ else _)
    split <;> rfl
theorem need_bad (s : List UInt8) (e : Int) (a : Nat) : needR s (.bad e a) = .bad e a := rfl
theorem name_bad (e : Int) (a : Nat) : nameR (.bad e a) = (⟨#[]⟩, .bad e a) := rfl
theorem need_up (s : List UInt8) (ts : List Tok) : needR s (.ok ts) = match needT s ts with | .ok r => .ok r | .error e => .bad e.1 e.2 := by
  unfold needR needT
  show (if isT s ts = true then _ else _) = _
  split <;> rfl
theorem part_bad (k d : Nat) (e : Int) (a : Nat) : partR (k + 1) d (.bad e a) = some ([⟨2, ⟨#[]⟩, ⟨#[]⟩⟩], .bad e a) := by
  rw [partR]; rfl
theorem rewL_bad (k d : Nat) (acc : List RO) (e : Int) (a : Nat) : rewRL (k + 1) d acc (.bad e a) = some (acc, .bad e a) := by
  rw [rewRL, sign_bad, if_pos rfl]
theorem bndR {α β : Type} {x : Option (Except Er α)} {f : α → Option (Except Er β)} {res : Except Er β} (h : bnd x f = some res) :
    (∃ e, x = some (.error e) ∧ res = .error e) ∨ ∃ y, x = some (.ok y) ∧ f y = some res := by
  cases x with
  | none => exact absurd h (by simp [bnd])
  | some v =>
    cases v with
    | error e => exact .inl ⟨e, rfl, (Option.some.inj h).symm⟩
    | ok y => exact .inr ⟨y, rfl, h⟩
def toOs (l : List SO) : List RO := l.map toO
theorem parts : ∀ k : Nat, (∀ d ts res, partT k d ts = some res → ∀ j, k ≤ j → ∃ y, partR j d (.ok ts) = some y ∧ Up toOs res y) ∧ (∀ d ts res, rewT k d ts = some res → ∀ j, k ≤ j → ∃ y, rewR j d (.ok ts) = some y ∧ Up toOs res y) ∧
    (∀ d acc ts res, rewL k d acc ts = some res → ∀ j, k ≤ j → ∃ y, rewRL j d (toOs acc) (.ok ts) = some y ∧ Up toOs res y) := by
  intro k
  induction k with
  | zero => exact ⟨fun d ts res h => by simp [partT] at h, fun d ts res h => by simp [rewT] at h, fun d acc ts res h => by simp [rewL] at h⟩
  | succ k ih =>
    obtain ⟨ip, ir, il⟩ := ih
    refine ⟨fun d ts res h j hj => ?_, fun d ts res h j hj => ?_, fun d acc ts res h j hj => ?_⟩
    · obtain ⟨j, rfl⟩ : ∃ m, j = m + 1 := ⟨j - 1, by omega⟩
      rw [partT] at h
      rw [partR]
      show ∃ y, (if isT sThis ts = true then _ else if isT [40] ts = true then _ else _) = some y ∧ _
      split at h
      · rename_i h1
        obtain rfl := Option.some.inj h
        rw [if_pos h1]
        exact ⟨_, rfl, rfl⟩
      rename_i h1
      rw [if_neg h1]
      split at h
      · rename_i h2
        rw [if_pos h2]
        split at h
        · rename_i h3
          obtain rfl := Option.some.inj h
          rw [if_pos h3]
          exact ⟨_, rfl, rfl⟩
        · rename_i h3
          rw [if_neg h3]
          rcases bndR h with ⟨e, a1, rfl⟩ | ⟨x, a1, a2⟩
          · obtain ⟨y, b1, b2⟩ := ir _ _ _ a1 j (by omega)
            have b2' : y.2 = .bad e.1 e.2 := b2
            refine ⟨(y.1, needR [41] y.2), by show (rewR j (d + 1) (.ok ts.tail)).bind _ = _; rw [b1]; rfl, ?_⟩
            show needR [41] y.2 = _
            rw [b2']; rfl
          · obtain ⟨y, b1, b2⟩ := ir _ _ _ a1 j (by omega)
            obtain rfl : y = (toOs x.1, .ok x.2) := b2
            refine ⟨(toOs x.1, needR [41] (.ok x.2)), by show (rewR j (d + 1) (.ok ts.tail)).bind _ = _; rw [b1]; rfl, ?_⟩
            rw [need_up]
            rcases bndR a2 with ⟨e, c1, rfl⟩ | ⟨r, c1, c2⟩
            · rw [Option.some.inj c1]; rfl
            · obtain rfl := Option.some.inj c2
              rw [Option.some.inj c1]; rfl
      rename_i h2
      rw [if_neg h2]
      have hn := name_up ts
      rcases bndR h with ⟨e, a1, rfl⟩ | ⟨x, a1, a2⟩
      · rw [Option.some.inj a1] at hn
        have hn' : (nameR (.ok ts)).2 = .bad e.1 e.2 := hn
        rw [hn', isR_bad, if_neg (by decide)]
        exact ⟨_, rfl, rfl⟩
      · rw [Option.some.inj a1] at hn
        have hn' : nameR (.ok ts) = (x.1, .ok x.2) := hn
        rw [hn']
        show ∃ y, (if isT [46] x.2 = true then some ([(⟨3, x.1, (nameR (.ok x.2.tail)).1⟩ : RO)], (nameR (.ok x.2.tail)).2) else some ([(⟨2, x.1, ⟨#[]⟩⟩ : RO)], Sg.ok x.2)) = some y ∧ _
        split at a2
        · rename_i h4
          rw [if_pos h4]
          have hn2 := name_up x.2.tail
          rcases bndR a2 with ⟨e, c1, rfl⟩ | ⟨z, c1, c2⟩
          · rw [Option.some.inj c1] at hn2
            exact ⟨_, rfl, hn2⟩
          · rw [Option.some.inj c1] at hn2
            have hn2' : nameR (.ok x.2.tail) = (z.1, .ok z.2) := hn2
            obtain rfl := Option.some.inj c2
            rw [hn2']
            exact ⟨_, rfl, rfl⟩
        · rename_i h4
          rw [if_neg h4]
          obtain rfl := Option.some.inj a2
          exact ⟨_, rfl, rfl⟩
    · obtain ⟨j, rfl⟩ : ∃ m, j = m + 1 := ⟨j - 1, by omega⟩
      rw [rewT] at h
      rw [rewR]
      rcases bndR h with ⟨e, a1, rfl⟩ | ⟨x, a1, a2⟩
      · obtain ⟨y, b1, b2⟩ := ip _ _ _ a1 j (by omega)
        have b2' : y.2 = .bad e.1 e.2 := b2
        rw [b1]
        show ∃ z, rewRL j d y.1 y.2 = some z ∧ _
        cases k with
        | zero => simp [partT] at a1
        | succ k => obtain ⟨j, rfl⟩ : ∃ m, j = m + 1 := ⟨j - 1, by omega⟩; rw [b2', rewL_bad]; exact ⟨_, rfl, rfl⟩
      · obtain ⟨y, b1, b2⟩ := ip _ _ _ a1 j (by omega)
        obtain rfl : y = (toOs x.1, .ok x.2) := b2
        rw [b1]
        exact il _ _ _ _ a2 j (by omega)
    · obtain ⟨j, rfl⟩ : ∃ m, j = m + 1 := ⟨j - 1, by omega⟩
      rw [rewL] at h
      rw [rewRL, sign_ok]
      split at h
      · rename_i h1
        obtain rfl := Option.some.inj h
        rw [if_pos h1]
        exact ⟨_, rfl, rfl⟩
      · rename_i h1
        rw [if_neg h1]
        rcases bndR h with ⟨e, a1, rfl⟩ | ⟨x, a1, a2⟩
        · obtain ⟨y, b1, b2⟩ := ip _ _ _ a1 j (by omega)
          have b2' : y.2 = .bad e.1 e.2 := b2
          show ∃ z, (partR j d (.ok ts.tail)).bind _ = some z ∧ _
          rw [b1]
          show ∃ z, rewRL j d _ y.2 = some z ∧ _
          cases k with
          | zero => simp [partT] at a1
          | succ k => obtain ⟨j, rfl⟩ : ∃ m, j = m + 1 := ⟨j - 1, by omega⟩; rw [b2', rewL_bad]; exact ⟨_, rfl, rfl⟩
        · obtain ⟨y, b1, b2⟩ := ip _ _ _ a1 j (by omega)
          obtain rfl : y = (toOs x.1, .ok x.2) := b2
          obtain ⟨z, c1, c2⟩ := il _ _ _ _ a2 j (by omega)
          refine ⟨z, ?_, c2⟩
          show (partR j d (.ok ts.tail)).bind _ = some z
          rw [b1]
          show rewRL j d (toOs acc ++ toOs x.1 ++ [oR (signT ts)]) (.ok x.2) = some z
          rw [← c1]
          congr 1
          simp only [toOs, List.map_append]
          rfl
theorem sub_up (ts : List Tok) : Up toS (subT ts) (subR (.ok ts)) := by
  have hn := name_up ts
  unfold subT subR
  cases hx : nameT ts with
  | error e =>
    rw [hx] at hn
    have hn' : (nameR (.ok ts)).2 = .bad e.1 e.2 := hn
    rw [hn', isR_bad, if_neg (by decide)]
    rfl
  | ok x =>
    rw [hx] at hn
    have hn' : nameR (.ok ts) = (x.1, .ok x.2) := hn
    rw [hn']
    show Up toS (if isT [35] x.2 = true then _ else _) (if isT [35] x.2 = true then _ else _)
    split
    · have hn2 := name_up x.2.tail
      show Up toS _ (⟨x.1, (nameR (.ok x.2.tail)).1⟩, (nameR (.ok x.2.tail)).2)
      cases hy : nameT x.2.tail with
      | error e => rw [hy] at hn2; exact hn2
      | ok y =>
        rw [hy] at hn2
        have hn2' : nameR (.ok x.2.tail) = (y.1, .ok y.2) := hn2
        rw [hn2']; rfl
    · rfl
theorem sub_bad (e : Int) (a : Nat) : subR (.bad e a) = (⟨⟨#[]⟩, ⟨#[]⟩⟩, .bad e a) := rfl
theorem subs_up : ∀ (k : Nat) (acc : List SS) (ts : List Tok) (res), subsL k acc ts = some res → ∀ j, k ≤ j → ∃ y, subsR j (acc.map toS) (.ok ts) = some y ∧ Up (fun l : List SS => l.map toS) res y
  | 0, _, _, _, h, _, _ => absurd h (by simp [subsL])
  | k + 1, acc, ts, res, h, j, hj => by
    obtain ⟨j, rfl⟩ : ∃ m, j = m + 1 := ⟨j - 1, by omega⟩
    rw [subsL] at h
    rw [subsR]
    have hs := sub_up ts
    rcases bndR h with ⟨e, a1, rfl⟩ | ⟨x, a1, a2⟩
    · rw [Option.some.inj a1] at hs
      have hs' : (subR (.ok ts)).2 = .bad e.1 e.2 := hs
      rw [hs', isR_bad, if_neg (by decide)]
      exact ⟨_, rfl, rfl⟩
    · rw [Option.some.inj a1] at hs
      have hs' : subR (.ok ts) = (toS x.1, .ok x.2) := hs
      rw [hs']
      show ∃ y, (if isT [44] x.2 = true then subsR j (acc.map toS ++ [toS x.1]) (.ok x.2.tail) else some (acc.map toS ++ [toS x.1], .ok x.2)) = some y ∧ _
      have hm : acc.map toS ++ [toS x.1] = (acc ++ [x.1]).map toS := by simp
      rw [hm]
      split at a2
      · rename_i h1
        rw [if_pos h1]
        exact subs_up k _ _ _ a2 j (by omega)
      · rename_i h1
        rw [if_neg h1]
        obtain rfl := Option.some.inj a2
        exact ⟨_, rfl, rfl⟩
theorem subs_bad (k : Nat) (acc : List RS) (e : Int) (a : Nat) : subsR (k + 1) acc (.bad e a) = some (acc ++ [⟨⟨#[]⟩, ⟨#[]⟩⟩], .bad e a) := by
  rw [subsR, sub_bad]; rfl
theorem rel_bad {σ : Sg} {e : Int} {a : Nat} (k : Nat) (h : h5 σ = .bad e a) : ∃ x, relR k σ = some (x, .bad e a) := by
  unfold relR
  rw [h]
  show ∃ x, (if (false : Bool) = true then _ else _ : Option _).bind _ = _
  exact ⟨_, rfl⟩
theorem rel_up (k : Nat) (ts : List Tok) (res) (h : relT k ts = some res) (j : Nat) (hj : k ≤ j) : ∃ y, relR j (.ok ts) = some y ∧ Up toR res y := by
  unfold relT at h
  have n1 := name_up ts
  have q1 : h1 (.ok ts) = nameR (.ok ts) := rfl
  have bad : ∀ e : Er, h5 (.ok ts) = .bad e.1 e.2 → ∃ y, relR j (.ok ts) = some y ∧ Up toR (.error e) y := fun e he => by
    obtain ⟨x, hx⟩ := rel_bad j he
    exact ⟨_, hx, rfl⟩
  rcases bndR h with ⟨e, a1, rfl⟩ | ⟨a, a1, g1⟩
  · rw [Option.some.inj a1] at n1
    have n1' : (h1 (.ok ts)).2 = .bad e.1 e.2 := n1
    exact bad e (by unfold h5 h4 h3 h2; rw [n1']; rfl)
  rw [Option.some.inj a1] at n1
  have n1' : h1 (.ok ts) = (a.1, .ok a.2) := n1
  have m2 := need_up [40] a.2
  rcases bndR g1 with ⟨e, a2, rfl⟩ | ⟨t2, a2, g2⟩
  · rw [Option.some.inj a2] at m2
    have m2' : needR [40] (.ok a.2) = .bad e.1 e.2 := m2
    exact bad e (by unfold h5 h4 h3 h2; rw [n1', m2']; rfl)
  rw [Option.some.inj a2] at m2
  have m2' : needR [40] (.ok a.2) = .ok t2 := m2
  have n3 := name_up t2
  rcases bndR g2 with ⟨e, a3, rfl⟩ | ⟨b, a3, g3⟩
  · rw [Option.some.inj a3] at n3
    have n3' : (nameR (.ok t2)).2 = .bad e.1 e.2 := n3
    exact bad e (by unfold h5 h4 h3 h2; rw [n1', m2', n3']; rfl)
  rw [Option.some.inj a3] at n3
  have n3' : h2 (.ok ts) = (b.1, .ok b.2) := by unfold h2; rw [n1', m2']; exact n3
  have m4 := need_up [44] b.2
  rcases bndR g3 with ⟨e, a4, rfl⟩ | ⟨t4, a4, g4⟩
  · rw [Option.some.inj a4] at m4
    have m4' : needR [44] (.ok b.2) = .bad e.1 e.2 := m4
    exact bad e (by unfold h5 h4 h3; rw [n3', m4']; rfl)
  rw [Option.some.inj a4] at m4
  have m4' : needR [44] (.ok b.2) = .ok t4 := m4
  have n5 := name_up t4
  rcases bndR g4 with ⟨e, a5, rfl⟩ | ⟨c, a5, g5⟩
  · rw [Option.some.inj a5] at n5
    have n5' : (nameR (.ok t4)).2 = .bad e.1 e.2 := n5
    exact bad e (by unfold h5 h4 h3; rw [n3', m4', n5']; rfl)
  rw [Option.some.inj a5] at n5
  have n5' : h3 (.ok ts) = (c.1, .ok c.2) := by unfold h3; rw [n3', m4']; exact n5
  have m6 := need_up [44] c.2
  rcases bndR g5 with ⟨e, a6, rfl⟩ | ⟨t6, a6, g6⟩
  · rw [Option.some.inj a6] at m6
    have m6' : needR [44] (.ok c.2) = .bad e.1 e.2 := m6
    exact bad e (by unfold h5 h4; rw [n5', m6']; rfl)
  rw [Option.some.inj a6] at m6
  have m6' : needR [44] (.ok c.2) = .ok t6 := m6
  have n7 := name_up t6
  rcases bndR g6 with ⟨e, a7, rfl⟩ | ⟨d, a7, g7⟩
  · rw [Option.some.inj a7] at n7
    have n7' : (nameR (.ok t6)).2 = .bad e.1 e.2 := n7
    exact bad e (by unfold h5 h4; rw [n5', m6', n7']; rfl)
  rw [Option.some.inj a7] at n7
  have n7' : h4 (.ok ts) = (d.1, .ok d.2) := by unfold h4; rw [n5', m6']; exact n7
  have m8 := need_up [41] d.2
  rcases bndR g7 with ⟨e, a8, rfl⟩ | ⟨t8, a8, g8⟩
  · rw [Option.some.inj a8] at m8
    have m8' : needR [41] (.ok d.2) = .bad e.1 e.2 := m8
    exact bad e (by unfold h5; rw [n7', m8']; rfl)
  rw [Option.some.inj a8] at m8
  have m8' : needR [41] (.ok d.2) = .ok t8 := m8
  have m9 := need_up [58] t8
  rcases bndR g8 with ⟨e, a9, rfl⟩ | ⟨t9, a9, g9⟩
  · rw [Option.some.inj a9] at m9
    have m9' : needR [58] (.ok t8) = .bad e.1 e.2 := m9
    exact bad e (by unfold h5; rw [n7', m8', m9'])
  rw [Option.some.inj a9] at m9
  have m9' : h5 (.ok ts) = .ok t9 := by unfold h5; rw [n7', m8']; exact m9
  unfold relR
  rw [m9', n1', n3', n5', n7']
  have hmore : (moreR (.ok t9) = true) ↔ (isT sIs t9 = false ∧ isT [59] t9 = false) := by
    unfold moreR
    show (true && !isT sIs t9 && !isT [59] t9) = true ↔ _
    cases isT sIs t9 <;> cases isT [59] t9 <;> decide
  have fin : ∀ (su : List SS × List Tok), (bnd (if isT sIs su.2 = true then rewT k 0 su.2.tail else some (.ok ([op1 1], su.2))) fun ops => bnd (some (needT [59] ops.2)) fun t12 => some (.ok (⟨a.1, b.1, c.1, d.1, su.1, ops.1⟩, t12))) = some res →
      ∃ y, ((if isR sIs (.ok su.2) = true then rewR j 0 (pop (.ok su.2)) else some ([oR 1], .ok su.2)).bind fun ops => some ((⟨a.1, b.1, c.1, d.1, su.1.map toS, ops.1⟩ : RR), needR [59] ops.2)) = some y ∧ Up toR res y := by
    intro su hs
    have last : ∀ (ops : List SO) (r : List Tok), (bnd (some (needT [59] r)) fun t12 => some (.ok ((⟨a.1, b.1, c.1, d.1, su.1, ops⟩ : SR), t12))) = some res → Up toR res ((⟨a.1, b.1, c.1, d.1, su.1.map toS, toOs ops⟩ : RR), needR [59] (.ok r)) := by
      intro ops r hl
      rw [need_up]
      rcases bndR hl with ⟨e, c1, rfl⟩ | ⟨t, c1, c2⟩
      · rw [Option.some.inj c1]; rfl
      · obtain rfl := Option.some.inj c2
        rw [Option.some.inj c1]; rfl
    show ∃ y, ((if isT sIs su.2 = true then rewR j 0 (.ok su.2.tail) else some ([oR 1], .ok su.2)).bind _) = some y ∧ _
    by_cases hi : isT sIs su.2 = true
    · rw [if_pos hi] at hs ⊢
      rcases bndR hs with ⟨e, c1, rfl⟩ | ⟨ops, c1, c2⟩
      · obtain ⟨y, b1, b2⟩ := (parts k).2.1 _ _ _ c1 j hj
        have b2' : y.2 = .bad e.1 e.2 := b2
        rw [b1]
        refine ⟨_, rfl, ?_⟩
        show needR [59] y.2 = _
        rw [b2']; rfl
      · obtain ⟨y, b1, b2⟩ := (parts k).2.1 _ _ _ c1 j hj
        obtain rfl : y = (toOs ops.1, .ok ops.2) := b2
        rw [b1]
        exact ⟨_, rfl, last _ _ c2⟩
    · rw [if_neg hi] at hs ⊢
      exact ⟨_, rfl, last _ _ hs⟩
  by_cases hm : isT sIs t9 = false ∧ isT [59] t9 = false
  · rw [if_pos hm] at g9
    rw [if_pos (hmore.2 hm)]
    rcases bndR g9 with ⟨e, c1, rfl⟩ | ⟨su, c1, c2⟩
    · obtain ⟨y, b1, b2⟩ := subs_up k [] _ _ c1 j hj
      have b2' : y.2 = .bad e.1 e.2 := b2
      have b1' : subsR j [] (.ok t9) = some y := b1
      rw [b1']
      show ∃ z, ((if isR sIs y.2 = true then _ else _ : Option _).bind _) = some z ∧ _
      rw [b2', isR_bad, if_neg (by decide)]
      exact ⟨_, rfl, rfl⟩
    · obtain ⟨y, b1, b2⟩ := subs_up k [] _ _ c1 j hj
      obtain rfl : y = (su.1.map toS, .ok su.2) := b2
      have b1' : subsR j [] (.ok t9) = some (su.1.map toS, .ok su.2) := b1
      rw [b1']
      exact fin su c2
  · rw [if_neg hm] at g9
    rw [if_neg (fun hh => hm (hmore.1 hh))]
    exact fin ([], t9) g9
theorem rels_bad (k : Nat) (acc : List RR) (e : Int) (a : Nat) : relsR (k + 1) acc (.bad e a) = some (acc, .bad e a) := by
  rw [relsR, isR_bad, if_neg (by decide)]
theorem rels_up : ∀ (k : Nat) (acc : List SR) (ts : List Tok) (res), relsL k acc ts = some res → ∀ j, k < j → ∃ y, relsR j (acc.map toR) (.ok ts) = some y ∧ Up (fun l : List SR => l.map toR) res y
  | 0, _, _, _, h, _, _ => absurd h (by simp [relsL])
  | k + 1, acc, ts, res, h, j, hj => by
    obtain ⟨j, rfl⟩ : ∃ m, j = m + 1 := ⟨j - 1, by omega⟩
    rw [relsL] at h
    rw [relsR]
    show ∃ y, (if isT sRel ts = true then (relR j (.ok ts.tail)).bind _ else _) = some y ∧ _
    split at h
    · rename_i h0
      rw [if_pos h0]
      rcases bndR h with ⟨e, a1, rfl⟩ | ⟨x, a1, a2⟩
      · obtain ⟨y, b1, b2⟩ := rel_up k _ _ a1 j (by omega)
        have b2' : y.2 = .bad e.1 e.2 := b2
        rw [b1]
        show ∃ z, relsR j _ y.2 = some z ∧ _
        obtain ⟨j, rfl⟩ : ∃ m, j = m + 1 := ⟨j - 1, by omega⟩
        rw [b2', rels_bad]
        exact ⟨_, rfl, rfl⟩
      · obtain ⟨y, b1, b2⟩ := rel_up k _ _ a1 j (by omega)
        obtain rfl : y = (toR x.1, .ok x.2) := b2
        rw [b1]
        show ∃ z, relsR j (acc.map toR ++ [toR x.1]) (.ok x.2) = some z ∧ _
        have hm : acc.map toR ++ [toR x.1] = (acc ++ [x.1]).map toR := by simp
        rw [hm]
        exact rels_up k _ _ _ a2 j (by omega)
    · rename_i h0
      rw [if_neg h0]
      obtain rfl := Option.some.inj h
      exact ⟨_, rfl, rfl⟩
theorem type_up (k : Nat) (ts : List Tok) (res) (h : typeT k ts = some res) (j : Nat) (hj : k < j) : ∃ y, typeR j (.ok ts) = some y ∧ Up toT res y := by
  unfold typeT at h
  unfold typeR
  obtain ⟨j, rfl⟩ : ∃ m, j = m + 1 := ⟨j - 1, by omega⟩
  have n1 := name_up ts
  rcases bndR h with ⟨e, a1, rfl⟩ | ⟨a, a1, g1⟩
  · rw [Option.some.inj a1] at n1
    have n1' : (nameR (.ok ts)).2 = .bad e.1 e.2 := n1
    rw [n1', need_bad, rels_bad]
    exact ⟨_, rfl, rfl⟩
  rw [Option.some.inj a1] at n1
  have n1' : nameR (.ok ts) = (a.1, .ok a.2) := n1
  rw [n1']
  have m2 := need_up [123] a.2
  rcases bndR g1 with ⟨e, a2, rfl⟩ | ⟨t2, a2, g2⟩
  · rw [Option.some.inj a2] at m2
    have m2' : needR [123] (.ok a.2) = .bad e.1 e.2 := m2
    rw [m2', rels_bad]
    exact ⟨_, rfl, rfl⟩
  rw [Option.some.inj a2] at m2
  have m2' : needR [123] (.ok a.2) = .ok t2 := m2
  rw [m2']
  rcases bndR g2 with ⟨e, a3, rfl⟩ | ⟨l, a3, g3⟩
  · obtain ⟨y, b1, b2⟩ := rels_up k [] _ _ a3 (j + 1) hj
    have b2' : y.2 = .bad e.1 e.2 := b2
    have b1' : relsR (j + 1) [] (.ok t2) = some y := b1
    rw [b1']
    refine ⟨_, rfl, ?_⟩
    show needR [125] y.2 = _
    rw [b2']; rfl
  · obtain ⟨y, b1, b2⟩ := rels_up k [] _ _ a3 (j + 1) hj
    obtain rfl : y = (l.1.map toR, .ok l.2) := b2
    have b1' : relsR (j + 1) [] (.ok t2) = some (l.1.map toR, .ok l.2) := b1
    rw [b1']
    refine ⟨_, rfl, ?_⟩
    rw [show needR [125] ((l.1.map toR, Sg.ok l.2) : List RR × Sg).2 = needR [125] (.ok l.2) from rfl, need_up]
    rcases bndR g3 with ⟨e, a4, rfl⟩ | ⟨t4, a4, g4⟩
    · rw [Option.some.inj a4]; rfl
    · obtain rfl := Option.some.inj g4
      rw [Option.some.inj a4]; rfl
theorem types_bad (k : Nat) (acc : List RT) (e : Int) (a : Nat) : typesR (k + 1) acc (.bad e a) = some (acc, .bad e a) := by
  rw [typesR, isR_bad, if_neg (by decide)]
theorem types_up : ∀ (k : Nat) (acc : List ST) (ts : List Tok) (res), typesL k acc ts = some res → ∀ j, k < j → ∃ y, typesR j (acc.map toT) (.ok ts) = some y ∧ Up (fun l : List ST => l.map toT) res y
  | 0, _, _, _, h, _, _ => absurd h (by simp [typesL])
  | k + 1, acc, ts, res, h, j, hj => by
    obtain ⟨j, rfl⟩ : ∃ m, j = m + 1 := ⟨j - 1, by omega⟩
    rw [typesL] at h
    rw [typesR]
    show ∃ y, (if isT sType ts = true then (typeR j (.ok ts.tail)).bind _ else _) = some y ∧ _
    split at h
    · rename_i h0
      rw [if_pos h0]
      rcases bndR h with ⟨e, a1, rfl⟩ | ⟨x, a1, a2⟩
      · obtain ⟨y, b1, b2⟩ := type_up k _ _ a1 j (by omega)
        have b2' : y.2 = .bad e.1 e.2 := b2
        rw [b1]
        show ∃ z, typesR j _ y.2 = some z ∧ _
        obtain ⟨j, rfl⟩ : ∃ m, j = m + 1 := ⟨j - 1, by omega⟩
        rw [b2', types_bad]
        exact ⟨_, rfl, rfl⟩
      · obtain ⟨y, b1, b2⟩ := type_up k _ _ a1 j (by omega)
        obtain rfl : y = (toT x.1, .ok x.2) := b2
        rw [b1]
        show ∃ z, typesR j (acc.map toT ++ [toT x.1]) (.ok x.2) = some z ∧ _
        have hm : acc.map toT ++ [toT x.1] = (acc ++ [x.1]).map toT := by simp
        rw [hm]
        exact types_up k _ _ _ a2 j (by omega)
    · rename_i h0
      rw [if_neg h0]
      obtain rfl := Option.some.inj h
      exact ⟨_, rfl, rfl⟩
/-- What the reader says at the end. -/
def Ends (res : Except Er (List ST)) (y : List RT × Sg) : Prop :=
  match res with
  | .ok X => y.1 = X.map toT ∧ okB (endR y.2) = true
  | .error e => endR y.2 = .bad e.1 e.2
theorem schema_up (k : Nat) (ts : List Tok) (res) (h : schemaT k ts = some res) (j : Nat) (hj : k < j) : ∃ y, typesR j [] (.ok ts) = some y ∧ Ends res y := by
  unfold schemaT at h
  rcases bndR h with ⟨e, a1, rfl⟩ | ⟨x, a1, a2⟩
  · obtain ⟨y, b1, b2⟩ := types_up k [] _ _ a1 j hj
    have b2' : y.2 = .bad e.1 e.2 := b2
    refine ⟨y, b1, ?_⟩
    show endR y.2 = _
    rw [b2']; rfl
  · obtain ⟨y, b1, b2⟩ := types_up k [] _ _ a1 j hj
    obtain rfl : y = (x.1.map toT, .ok x.2) := b2
    refine ⟨_, b1, ?_⟩
    cases hx : x.2 with
    | nil =>
      rw [hx] at a2
      obtain rfl := Option.some.inj a2
      rfl
    | cons t r =>
      rw [hx] at a2
      have a3 : (if t.kind = 3 then some (.ok x.1) else some (.error (30, t.at_))) = some res := a2
      split at a3
      · rename_i h3
        obtain rfl := Option.some.inj a3
        refine ⟨rfl, ?_⟩
        show okB (if t.kind = 3 then _ else _) = true
        rw [if_pos h3]; rfl
      · rename_i h3
        obtain rfl := Option.some.inj a3
        show (if t.kind = 3 then _ else _) = _
        rw [if_neg h3]
end Go.Proofs.YtkgnhghaiopgcaaDoor.Rq
