/- The walks of the reader of package parse: what is next, names, signs, parts and rewrites, and who may stand in tuples; no condition. -/
import Derived.Test.YtkgnhghaiopgcaaDoorPs
import Derived.Defers
import Derived.Recover
import Derived.WalkLawsBesides
import Derived.Maps.RangeWalk
import Derived.Deep.DeepMust
set_option linter.unusedVariables false
set_option linter.unusedSimpArgs false
namespace Go.Proofs.YtkgnhghaiopgcaaDoor.Pw
open Go.RowKit Go.Proofs.YtkgnhghaiopgcaaDoorW.PrintWords Go.Proofs.YtkgnhghaiopgcaaDoorW.PrintLast Go.Proofs.YtkgnhghaiopgcaaDoor.X Go.Proofs.YtkgnhghaiopgcaaDoor.Kx Go.Proofs.YtkgnhghaiopgcaaDoor.Gl Go.Proofs.YtkgnhghaiopgcaaDoor.GlFn Go.Proofs.YtkgnhghaiopgcaaDoor.Tk Go.Proofs.YtkgnhghaiopgcaaDoor.Ps

/-- The reader at block b: the tokens that are left, in block g. -/
structure St (w0 w : World) (b g o c : Nat) (ts : List Tok) (d : Nat) : Prop where
  hb : w0.heap.size ≤ b
  keys : Aid.KeysIn w0
  bel : Below w0.heap.size w0 w
  blk : w.heap[b]? = some (.cells #[.slice (some ⟨g, o, none⟩) ts.length c, .int .i64 d] 103 (0, 0))
  cap : ts.length ≤ c
  small : ts.length ≤ 4096
  toks : ∀ i t, ts[i]? = some t → w.cell? ⟨g, o + 3 * i, none⟩ = some (.int .i64 t.kind) ∧ w.cell? ⟨g, o + 3 * i + 1, none⟩ = some (.string (B t.text)) ∧ w.cell? ⟨g, o + 3 * i + 2, none⟩ = some (.int .i64 t.at_)
  ne : g ≠ b
  ends : EndsT ts

section
variable {w0 w w' : World} {b g o c : Nat} {ts : List Tok} {d : Nat}
theorem St.key (h : St w0 w b g o c ts d) : Aside0 (Aid.KeysIn w) := ⟨h.keys.go h.bel⟩
theorem St.lt (h : St w0 w b g o c ts d) : b < w.heap.size := blk_lt h.blk
theorem St.c0 (h : St w0 w b g o c ts d) : w.cell? ⟨b, 0, none⟩ = some (.slice (some ⟨g, o, none⟩) ts.length c) := blk_cell h.blk 0
theorem St.c1 (h : St w0 w b g o c ts d) : w.cell? ⟨b, 1, none⟩ = some (.int .i64 d) := blk_cell h.blk 1
theorem St.fz (h : St w0 w b g o c ts d) (i : Nat) : w.frozen? ⟨b, i, none⟩ = false := blk_frozen h.blk i
theorem St.glt (h : St w0 w b g o c ts d) : g < w.heap.size := by
  cases ts with
  | nil => exact absurd rfl h.ends.ne
  | cons t r => exact World.block_lt_of_cell? w ⟨g, o + 3 * 0, none⟩ (h.toks 0 t rfl).1
theorem St.drewN (h : St w0 w b g o c ts d) (n : Nat) : St w0 (w.drewN n) b g o c ts d :=
  ⟨h.hb, h.keys, pw_below_drewN h.bel n, h.blk, h.cap, h.small, h.toks, h.ne, h.ends⟩
theorem St.drawn (h : St w0 w b g o c ts d) (hd : Drawn0 w w') : St w0 w' b g o c ts d := by
  obtain ⟨n, rfl⟩ := hd.out
  exact h.drewN n
/-- What leaves the reader and the tokens alone. -/
theorem St.move (h : St w0 w b g o c ts d) (hbel : Below w0.heap.size w0 w') (h1 : w'.heap[b]? = w.heap[b]?) (h2 : w'.heap[g]? = w.heap[g]?) : St w0 w' b g o c ts d :=
  ⟨h.hb, h.keys, hbel, h1.trans h.blk, h.cap, h.small, fun i t ht => by
    obtain ⟨a1, a2, a3⟩ := h.toks i t ht
    exact ⟨(World.cell?_of_block (w := w) (a := ⟨g, _, none⟩) h2).trans a1, (World.cell?_of_block (w := w) (a := ⟨g, _, none⟩) h2).trans a2, (World.cell?_of_block (w := w) (a := ⟨g, _, none⟩) h2).trans a3⟩, h.ne, h.ends⟩
theorem St.below (h : St w0 w b g o c ts d) (hb : Below w.heap.size w w') : St w0 w' b g o c ts d :=
  h.move (h.bel.trans (hb.mono h.bel.size)) (hb.block _ h.lt) (hb.block _ h.glt)
theorem St.grown (h : St w0 w b g o c ts d) {row : Option Nat} (hg : w.grownBy w' row) (h1 : row ≠ some b) (h2 : row ≠ some g) (h3 : ∀ k, row = some k → w0.heap.size ≤ k) : St w0 w' b g o c ts d :=
  h.move (h.bel.grown hg h.bel.size h3) (hg.block _ h.lt (fun e => h1 e.symm)) (hg.block _ h.glt (fun e => h2 e.symm))
theorem St.pop {t : Tok} {r : List Tok} (h : St w0 w b g o c (t :: r) d) (hr : EndsT r) :
    St w0 (w.setCell ⟨b, 0, none⟩ (.slice (some ⟨g, o + 3, none⟩) r.length (c - 1))) b g (o + 3) (c - 1) r d := by
  refine ⟨h.hb, h.keys, h.bel.setCell h.hb _, ?_, ?_, ?_, ?_, h.ne, hr⟩
  · simpa using blk_set h.blk 0 (.slice (some ⟨g, o + 3, none⟩) r.length (c - 1))
  · have := h.cap; simp only [List.length_cons] at this; omega
  · have := h.small; simp only [List.length_cons] at this; omega
  · intro i t' ht
    have hne : (⟨b, 0, none⟩ : Addr).block ≠ g := fun e => h.ne e.symm
    have hb2 : (w.setCell ⟨b, 0, none⟩ (.slice (some ⟨g, o + 3, none⟩) r.length (c - 1))).heap[g]? = w.heap[g]? := Below.heap_setCell w ⟨b, 0, none⟩ _ g h.ne
    obtain ⟨a1, a2, a3⟩ := h.toks (i + 1) t' ht
    rw [show o + 3 + 3 * i = o + 3 * (i + 1) by omega]
    exact ⟨(World.cell?_of_block (w := w) (a := ⟨g, _, none⟩) hb2).trans a1, (World.cell?_of_block (w := w) (a := ⟨g, _, none⟩) hb2).trans a2, (World.cell?_of_block (w := w) (a := ⟨g, _, none⟩) hb2).trans a3⟩
theorem St.deep (h : St w0 w b g o c ts d) (e : Nat) : St w0 (w.setCell ⟨b, 1, none⟩ (.int .i64 e)) b g o c ts e := by
  have hb2 : (w.setCell ⟨b, 1, none⟩ (.int .i64 e)).heap[g]? = w.heap[g]? := Below.heap_setCell w ⟨b, 1, none⟩ _ g h.ne
  refine ⟨h.hb, h.keys, h.bel.setCell h.hb _, by simpa using blk_set h.blk 1 (.int .i64 e), h.cap, h.small, ?_, h.ne, h.ends⟩
  intro i t ht
  obtain ⟨a1, a2, a3⟩ := h.toks i t ht
  exact ⟨(World.cell?_of_block (w := w) (a := ⟨g, _, none⟩) hb2).trans a1, (World.cell?_of_block (w := w) (a := ⟨g, _, none⟩) hb2).trans a2, (World.cell?_of_block (w := w) (a := ⟨g, _, none⟩) hb2).trans a3⟩
end

/-- The reader, wherever its tokens lie in their block. -/
def Sx (w0 w : World) (b g : Nat) (ts : List Tok) (d : Nat) : Prop := ∃ o c, St w0 w b g o c ts d
def fault (e : Int) (p : Nat) : Value := .iface 99 (.agg #[.int .i64 e, .int .i64 p])
/-- How a function of the reader ends: with what it tells, or with the panic. -/
def EndX {α : Type} (x : Except Er α) (ok : α → Ending → World → Prop) (w0 : World) (e : Ending) (w' : World) : Prop :=
  match x with
  | .ok a => ok a e w'
  | .error (n, p) => e = .panicked [{ v := fault n p, recovered := false }] ∧ Below w0.heap.size w0 w'

theorem B_list (l : List UInt8) : (B l).toList = l := by rw [ByteArray.toList_eq]; rfl
theorem Key_is (s : ByteArray) : token_Key.f s = some (TkKey.key (L s)) := TkKey.Key_f s

set_option maxHeartbeats 1000000 in
theorem is_calls {w0 w : World} {b g o c : Nat} {ts : List Tok} {d : Nat} (h : St w0 w b g o c ts d) (s : ByteArray) (sl : List UInt8) (hs : L s = sl) :
    Calls Tryd.prog 121 #[.pointer (some ⟨b, 0, none⟩), .string s] w fun e w' => e = .returned (.bool (isT sl ts)) ∧ Drawn0 w w' := by
  subst hs
  have hts : s.toList = L s := ByteArray.toList_eq s
  cases ts with
  | nil => exact absurd rfl h.ends.ne
  | cons t r =>
    have q0 := h.c0
    obtain ⟨q1, q2, q3⟩ := h.toks 0 t rfl
    have HK := h.key
    simp only [Nat.mul_zero, Nat.add_zero] at q1 q2 q3
    have hB := B_list t.text
    obtain ⟨u, hu⟩ : ∃ u, B t.text = u := ⟨_, rfl⟩
    rw [hu] at q2 hB
    have p1 : decide ((0 : Int) < (((t :: r).length : Nat) : Int)) = true := decide_eq_true (by simp only [List.length_cons]; omega)
    have p2 : ((0 : Int) < (((t :: r).length : Nat) : Int)) = True := eq_true (by simp only [List.length_cons]; omega)
    have p3 : decide (0 < (t :: r).length) = true := decide_eq_true (by simp)
    have p4 : 0 < (t :: r).length := by simp
    generalize (t :: r).length = n at q0 p1 p2 p3 p4
    by_cases e1 : t.text = L s
    · have t1 : (u.toList == s.toList) = true := by rw [beq_iff_eq, hB, hts, e1]
      by_cases e2 : t.kind = 2
      · have t2 : (t.kind == 2) = true := beq_iff_eq.mpr e2
        have hr : isT (L s) (t :: r) = true := by simp [isT, e1, e2]
        have HR := Aside0.mk hr
        rw [hr]
        clear hr e1 e2 hu hB hts
        go_enter Tryd.func121, Tryd.ntmps121
        go_wp2
        go_ret
        exact ⟨rfl, Drawn0.refl _⟩
      · have t2 : (t.kind == 2) = false := beq_eq_false_iff_ne.mpr e2
        have hr : isT (L s) (t :: r) = TkKey.key (L s) := by simp [isT, e1, e2]
        rw [hr]
        clear hr e1 e2 hu hB hts
        obtain ⟨kk, hkk⟩ : ∃ kk, TkKey.key (L s) = kk := ⟨_, rfl⟩
        have HKK : Aside0 (token_Key.f s = some kk) := ⟨by rw [Key_is, hkk]⟩
        rw [hkk]
        clear hkk
        go_enter Tryd.func121, Tryd.ntmps121
        go_wp2_with fail
        refine (token_Key.calls s kk _ HK HKK.out).mono ?_
        rintro e w' ⟨rfl, hd⟩
        go_wp2
        go_ret
        exact ⟨rfl, hd⟩
    · have t1 : (u.toList == s.toList) = false := by rw [beq_eq_false_iff_ne, hB, hts]; exact e1
      have hr : isT (L s) (t :: r) = false := by simp [isT, e1]
      rw [hr]
      clear hr e1 hu hB hts
      go_enter Tryd.func121, Tryd.ntmps121
      go_wp2
      go_ret
      exact ⟨rfl, Drawn0.refl _⟩

set_option maxHeartbeats 1000000 in
theorem pass_calls {w0 w : World} {b g : Nat} {ts : List Tok} {d : Nat} (h : Sx w0 w b g ts d) (s : ByteArray) (sl : List UInt8) (hs : L s = sl) (hne : sl ≠ []) :
    Calls Tryd.prog 99 #[.pointer (some ⟨b, 0, none⟩), .string s] w fun e w' => e = .returned (.bool (isT sl ts)) ∧ Sx w0 w' b g (goT sl ts) d ∧ Fr b w.heap.size w w' := by
  obtain ⟨o, c, h⟩ := h
  have H := Aside0.mk h
  have HS := Aside0.mk hs
  cases hi : isT sl ts with
  | false =>
    have HI := Aside0.mk hi
    clear hi h hs
    go_enter Tryd.func99, Tryd.ntmps99
    go_wp2_with fail
    refine (is_calls H.out s sl HS.out).mono ?_
    rintro e w1 ⟨rfl, hd⟩
    rw [HI.out]
    go_wp2
    go_ret
    obtain ⟨n, rfl⟩ := hd.out
    exact ⟨rfl, ⟨o, c, by unfold goT; rw [if_neg (by rw [HI.out]; decide)]; exact H.out.drewN n⟩, (Fr.refl _ _ _).drewN n⟩
  | true =>
    have HI := Aside0.mk hi
    cases ts with
    | nil => exact absurd hi (by simp [isT])
    | cons t r =>
      have hr : EndsT r := isT_tail hne hi h.ends
      have HR := Aside0.mk hr
      have hc := h.cap
      have hc2 : 1 ≤ r.length := by
        cases r with
        | nil => exact absurd rfl hr.ne
        | cons _ _ => simp
      simp only [List.length_cons] at hc
      clear hi h hs hr
      go_enter Tryd.func99, Tryd.ntmps99
      go_wp2_with fail
      refine (is_calls H.out s sl HS.out).mono ?_
      rintro e w1 ⟨rfl, hd⟩
      rw [HI.out]
      obtain ⟨n, rfl⟩ := hd.out
      have q0 := H.out.c0
      have f0 := H.out.fz 0
      clear hd
      simp only [List.length_cons] at q0
      go_wp2
      go_ret
      exact ⟨rfl, ⟨o + 3, c - 1, by unfold goT; rw [if_pos HI.out]; exact (H.out.drewN n).pop HR.out⟩, ((Fr.refl _ _ _).drewN n).set _ _⟩

set_option maxHeartbeats 1000000 in
theorem fail_calls {w0 w : World} {b g : Nat} {ts : List Tok} {d : Nat} (h : Sx w0 w b g ts d) (n : Int) :
    Calls Tryd.prog 103 #[.pointer (some ⟨b, 0, none⟩), .int .i64 n] w fun e w' => e = .panicked [{ v := fault n (atT ts), recovered := false }] ∧ Below w0.heap.size w0 w' := by
  obtain ⟨o, c, h⟩ := h
  cases ts with
  | nil => exact absurd rfl h.ends.ne
  | cons t r =>
    have q0 := h.c0
    obtain ⟨q1, q2, q3⟩ := h.toks 0 t rfl
    have HB := Aside0.mk h.bel
    simp only [Nat.mul_zero, Nat.add_zero] at q1 q2 q3
    have p1 : decide ((0 : Int) < (((t :: r).length : Nat) : Int)) = true := decide_eq_true (by simp only [List.length_cons]; omega)
    have p2 : ((0 : Int) < (((t :: r).length : Nat) : Int)) = True := eq_true (by simp only [List.length_cons]; omega)
    have p4 : 0 < (t :: r).length := by simp
    unfold fault atT
    clear h
    generalize (t :: r).length = m at q0 p1 p2 p4
    go_enter Tryd.func103, Tryd.ntmps103
    go_wp2
    exact ⟨rfl, rfl, HB.out⟩

set_option maxHeartbeats 1000000 in
theorem need_calls {w0 w : World} {b g : Nat} {ts : List Tok} {d : Nat} (h : Sx w0 w b g ts d) (s : ByteArray) (sl : List UInt8) (hs : L s = sl) (hne : sl ≠ []) :
    Calls Tryd.prog 101 #[.pointer (some ⟨b, 0, none⟩), .string s] w
      (EndX (needT sl ts) (fun r e w' => e = .returned (.tuple #[]) ∧ Sx w0 w' b g r d ∧ Fr b w.heap.size w w') w0) := by
  have HX := Aside0.mk h
  have HP := pass_calls h s sl hs hne
  cases hi : isT sl ts with
  | true =>
    rw [hi] at HP
    have e1 : needT sl ts = .ok (goT sl ts) := by unfold needT goT; rw [if_pos hi, if_pos hi]
    rw [e1]
    have HC := Aside0.mk HP
    clear HP hi e1 h hs
    go_enter Tryd.func101, Tryd.ntmps101
    go_wp2_with fail
    refine HC.out.mono ?_
    rintro e w1 ⟨rfl, hx, hf⟩
    go_wp2
    go_end0
    exact ⟨rfl, hx, hf⟩
  | false =>
    rw [hi] at HP
    have e1 : needT sl ts = .error (30, atT ts) := by unfold needT; rw [if_neg (by rw [hi]; decide)]
    have e2 : goT sl ts = ts := by unfold goT; rw [if_neg (by rw [hi]; decide)]
    rw [e1]
    rw [e2] at HP
    have HC := Aside0.mk HP
    clear HP hi e1 e2 h hs
    go_enter Tryd.func101, Tryd.ntmps101
    go_wp2_with fail
    refine HC.out.mono ?_
    rintro e w1 ⟨rfl, hx, hf⟩
    have HX1 := Aside0.mk hx
    clear hx
    go_wp2_with fail
    refine (fail_calls HX1.out 30).mono ?_
    rintro e w2 ⟨rfl, hb⟩
    go_wp2
    exact ⟨rfl, rfl, hb⟩

theorem St.alloc {w0 w : World} {b g o c : Nat} {ts : List Tok} {d : Nat} (h : St w0 w b g o c ts d) (x : Obj) : St w0 (w.alloc x) b g o c ts d := h.below (below_alloc (Below.refl _ _) x)

set_option maxHeartbeats 2000000 in
theorem name_calls {w0 w : World} {b g : Nat} {ts : List Tok} {d : Nat} (h : Sx w0 w b g ts d) :
    Calls Tryd.prog 100 #[.pointer (some ⟨b, 0, none⟩)] w
      (EndX (nameT ts) (fun x e w' => e = .returned (.string x.1) ∧ Sx w0 w' b g x.2 d ∧ Fr b w.heap.size w w') w0) := by
  obtain ⟨o, c, h⟩ := h
  cases ts with
  | nil => exact absurd rfl h.ends.ne
  | cons t r =>
    have q0 := h.c0
    obtain ⟨q1, q2, q3⟩ := h.toks 0 t rfl
    simp only [Nat.mul_zero, Nat.add_zero] at q1 q2 q3
    obtain ⟨u, hu⟩ : ∃ u, B t.text = u := ⟨_, rfl⟩
    have hLu : L u = t.text := by rw [← hu]; rfl
    have HK : Aside0 (token_Key.f u = some (TkKey.key t.text)) := ⟨by rw [Key_is, hLu]⟩
    rw [hu] at q2
    have H := Aside0.mk h
    have p1 : decide ((0 : Int) < (((t :: r).length : Nat) : Int)) = true := decide_eq_true (by simp only [List.length_cons]; omega)
    have p2 : ((0 : Int) < (((t :: r).length : Nat) : Int)) = True := eq_true (by simp only [List.length_cons]; omega)
    have p4 : 0 < (t :: r).length := by simp
    by_cases e1 : t.kind = 1
    · have t1 : (t.kind != 1) = false := by rw [bne_eq_false_iff_eq]; exact e1
      have t2 : (t.kind == 1) = true := by rw [beq_iff_eq]; exact e1
      cases hk : TkKey.key t.text with
      | true =>
        have hr : nameT (t :: r) = .error (30, atT (t :: r)) := by simp [nameT, atT, hk]
        rw [hr]
        rw [hk] at HK
        clear hr hk e1 hLu hu h
        generalize hm : (t :: r).length = m at q0 p1 p2 p4
        clear hm
        go_enter Tryd.func100, Tryd.ntmps100
        go_wp2_with fail
        refine (token_Key.calls u true _ (H.out.alloc _).key HK.out).mono ?_
        rintro e w2 ⟨rfl, hd⟩
        have H2 := Aside0.mk ((H.out.alloc (.cells #[.int .i64 t.kind, .string u, .int .i64 t.at_] 32)).drawn hd)
        clear hd
        go_wp2_with fail
        refine (fail_calls ⟨o, c, H2.out⟩ 30).mono ?_
        rintro e w3 ⟨rfl, hb⟩
        go_wp2
        exact ⟨rfl, rfl, hb⟩
      | false =>
        have hr : nameT (t :: r) = .ok (u, r) := by simp [nameT, e1, hk, hu]
        rw [hr]
        rw [hk] at HK
        have hE : EndsT r := EndsT.tail h.ends (.inl (by rw [e1]; decide))
        have HE := Aside0.mk hE
        have hc := h.cap
        have hc2 : 1 ≤ r.length := by
          cases r with
          | nil => exact absurd rfl hE.ne
          | cons _ _ => simp
        simp only [List.length_cons] at hc
        clear hr hk e1 hLu hu h hE
        simp only [List.length_cons] at q0 p1 p2 p4
        go_enter Tryd.func100, Tryd.ntmps100
        go_wp2_with fail
        refine (token_Key.calls u false _ (H.out.alloc _).key HK.out).mono ?_
        rintro e w2 ⟨rfl, hd⟩
        obtain ⟨n, rfl⟩ := hd.out
        have f0 := H.out.fz 0
        have hlt := H.out.lt
        clear hd
        go_wp2
        go_ret
        exact ⟨rfl, ⟨o + 3, c - 1, ((H.out.alloc _).drewN n).pop HE.out⟩, (((Fr.refl b w.heap.size w).alloc (Nat.le_refl _) _).drewN n).set _ _⟩
    · have t1 : (t.kind != 1) = true := by rw [bne_iff_ne]; exact e1
      have t2 : (t.kind == 1) = false := by rw [beq_eq_false_iff_ne]; exact e1
      have hr : nameT (t :: r) = .error (30, atT (t :: r)) := by simp [nameT, atT, e1]
      rw [hr]
      clear hr e1 hLu hu h HK
      generalize hm : (t :: r).length = m at q0 p1 p2 p4
      clear hm
      go_enter Tryd.func100, Tryd.ntmps100
      go_wp2_with fail
      refine (fail_calls ⟨o, c, H.out.alloc _⟩ 30).mono ?_
      rintro e w3 ⟨rfl, hb⟩
      go_wp2
      exact ⟨rfl, rfl, hb⟩

end Go.Proofs.YtkgnhghaiopgcaaDoor.Pw
namespace Go.Proofs.YtkgnhghaiopgcaaDoor.Pw
open Go.RowKit Go.Maps Go.Proofs.YtkgnhghaiopgcaaDoorW.PrintWords Go.Proofs.YtkgnhghaiopgcaaDoorW.PrintLast Go.Proofs.YtkgnhghaiopgcaaDoor.X Go.Proofs.YtkgnhghaiopgcaaDoor.Kx Go.Proofs.YtkgnhghaiopgcaaDoor.Gl Go.Proofs.YtkgnhghaiopgcaaDoor.GlFn Go.Proofs.YtkgnhghaiopgcaaDoor.Tk Go.Proofs.YtkgnhghaiopgcaaDoor.Ps

theorem Fr.grown_ {b : Nat} {w w' : World} (h : Fr b w.heap.size w w') : w.grownBy w' (some b) :=
  ⟨h.os, h.tape, h.output, h.size, fun k hk hne => h.block k hk (fun e => hne (by rw [e]))⟩
theorem Fr.of_grown {b base : Nat} {w w' : World} {row : Option Nat} (h : w.grownBy w' row) (hb : base ≤ w.heap.size) (hr : ∀ k, row = some k → base ≤ k) : Fr b base w w' :=
  ⟨h.os, h.tape, h.output, h.size, fun k hk hne => h.block k (Nat.lt_of_lt_of_le hk hb) (fun e => by have := hr k e.symm; omega)⟩
theorem Sx.grown {w0 w w' : World} {b g : Nat} {ts : List Tok} {d : Nat} (h : Sx w0 w b g ts d) {row : Option Nat} (hg : w.grownBy w' row) (h1 : ∀ k, row = some k → w.heap.size ≤ k) : Sx w0 w' b g ts d := by
  obtain ⟨o, c, h⟩ := h
  refine ⟨o, c, h.grown hg ?_ ?_ ?_⟩
  · intro e; have := h1 _ e; have := h.lt; omega
  · intro e; have := h1 _ e; have := h.glt; omega
  · intro k e; have := h1 _ e; have := h.bel.size; omega
theorem Sx.lt {w0 w : World} {b g : Nat} {ts : List Tok} {d : Nat} (h : Sx w0 w b g ts d) : b < w.heap.size ∧ g < w.heap.size ∧ w0.heap.size ≤ b ∧ w0.heap.size ≤ w.heap.size := by
  obtain ⟨o, c, h⟩ := h
  exact ⟨h.lt, h.glt, h.hb, h.bel.size⟩
theorem Sx.grown_any {w0 w w' : World} {b g : Nat} {ts : List Tok} {d : Nat} (h : Sx w0 w b g ts d) {r : Nat} (hg : w.grownBy w' (some r)) (h1 : r ≠ b) (h2 : r ≠ g) (h3 : w0.heap.size ≤ r) : Sx w0 w' b g ts d := by
  obtain ⟨o, c, h⟩ := h
  exact ⟨o, c, h.grown hg (by intro e; injection e with e; exact h1 e) (by intro e; injection e with e; exact h2 e) (by intro k e; injection e with e; omega)⟩

/-- The tokens behind a sign. -/
def signG (ts : List Tok) : List Tok := if signT ts = 0 then ts else ts.tail
def signD : DataW Unit := (((DataW.map []).put (.string [124]) (.lit (.int .i64 4))).put (.string [38]) (.lit (.int .i64 5))).put (.string [45]) (.lit (.int .i64 6))
theorem signD_has (kl : Lit) (h : Maps.has signD kl = true) (c : Int) (hc : ∀ zd, signD.atKey kl zd = .lit (.int .i64 c)) :
    (kl = .string [124] ∧ c = 4) ∨ (kl = .string [38] ∧ c = 5) ∨ (kl = .string [45] ∧ c = 6) := by
  have e : signD = .map [(.string [38], .lit (.int .i64 5)), (.string [45], .lit (.int .i64 6)), (.string [124], .lit (.int .i64 4))] := rfl
  have h2 := hc .nil
  rw [e] at h h2
  cases kl with
  | string l =>
    by_cases h1 : l = [124]
    · subst h1
      have h3 : (DataW.lit (.int .i64 4) : DataW Unit) = .lit (.int .i64 c) := h2
      injection h3 with h3; injection h3 with _ h3
      exact .inl ⟨rfl, h3.symm⟩
    by_cases h1 : l = [38]
    · subst h1
      have h3 : (DataW.lit (.int .i64 5) : DataW Unit) = .lit (.int .i64 c) := h2
      injection h3 with h3; injection h3 with _ h3
      exact .inr (.inl ⟨rfl, h3.symm⟩)
    by_cases h1 : l = [45]
    · subst h1
      have h3 : (DataW.lit (.int .i64 6) : DataW Unit) = .lit (.int .i64 c) := h2
      injection h3 with h3; injection h3 with _ h3
      exact .inr (.inr ⟨rfl, h3.symm⟩)
    · simp only [Maps.has, List.any_cons, List.any_nil, Lit.sameKey, Bool.or_eq_true, beq_iff_eq] at h
      rcases h with h | h | h | h
      all_goals first | exact absurd h.symm (by assumption) | exact absurd h (by decide)
  | _ => exact absurd h (by simp [Maps.has, Lit.sameKey])
theorem keyOf_string_inv {P : Program} {k : TypeId} (hk : P.underlying k = some .string) {key : Value} {kl : Lit} (h : keyOf P k key = some kl) : ∃ s : ByteArray, key = .string s ∧ kl = .string s.data.toList := by
  cases key <;> simp [keyOf, hk, mapKey] at h
  obtain ⟨_, rfl⟩ := h
  exact ⟨_, rfl, rfl⟩
theorem signT_one {ts : List Tok} {sl : List UInt8} {c : Int} (hc : (sl = [124] ∧ c = 4) ∨ (sl = [38] ∧ c = 5) ∨ (sl = [45] ∧ c = 6)) (h : isT sl ts = true) : signT ts = c ∧ c ≠ 0 := by
  have hex : ∀ s : List UInt8, s ≠ sl → isT s ts = false := by
    intro s hs
    cases ts with
    | nil => rfl
    | cons t r =>
      simp only [isT, Bool.and_eq_true, decide_eq_true_eq] at h ⊢
      rw [Bool.and_eq_false_iff]; left
      rw [decide_eq_false_iff_not, h.1]; exact fun e => hs e.symm
  unfold signT
  rcases hc with ⟨rfl, rfl⟩ | ⟨rfl, rfl⟩ | ⟨rfl, rfl⟩
  · rw [h]; exact ⟨rfl, by decide⟩
  · rw [hex [124] (by decide), h]; exact ⟨rfl, by decide⟩
  · rw [hex [124] (by decide), hex [38] (by decide), h]; exact ⟨rfl, by decide⟩
theorem signT_none {ts : List Tok} (h1 : isT [124] ts = false) (h2 : isT [38] ts = false) (h3 : isT [45] ts = false) : signT ts = 0 := by
  unfold signT; rw [h1, h2, h3]; rfl

set_option maxHeartbeats 4000000 in
set_option maxRecDepth 100000 in
theorem sign_calls {w0 w : World} {b g : Nat} {ts : List Tok} {d : Nat} (h : Sx w0 w b g ts d) :
    Calls Tryd.prog 133 #[.pointer (some ⟨b, 0, none⟩)] w fun e w' => e = .returned (.int .i64 (signT ts)) ∧ Sx w0 w' b g (signG ts) d ∧ Fr b w.heap.size w w' := by
  have hmk : ∀ (W : World), (Instr.makeMap 175 none).run Tryd.prog W = .ok (.map (some W.heap.size)) (W.alloc (.map #[] 0)) := fun _ => rfl
  have hu1 : Tryd.prog.underlying 175 = some (.map 9 3) := by kernel_rfl
  have hu2 : Tryd.prog.underlying 9 = some .string := by kernel_rfl
  have hu3 : Tryd.prog.underlying 3 = some (.int .i64) := by kernel_rfl
  have K : Maps.Keyed Tryd.prog 9 := Maps.string_keyed hu2
  have hk : ∀ s : ByteArray, s.size ≤ 9 → keyOf Tryd.prog 9 (.string s) = some (.string s.data.toList) := fun s hs => by
    simp only [keyOf, hu2, mapKey]; rw [if_pos (by unfold maxLen; omega)]
  have hv : ∀ c : Int, (Lit.int .i64 c).wf = true → plainElem (H := Unit) Tryd.prog 3 (.int .i64 c) = some (.lit (.int .i64 c), []) := fun c hc => plainElem_int hu3 hc
  have M0 := World.ownsMap_made (H := Unit) w Tryd.prog 9 (plainElem Tryd.prog 3)
  obtain ⟨m1, e1, M1, g1⟩ := M0.update K hu1 (by decide) (hk ⟨#[124]⟩ (by decide)) (hv 4 (by decide))
  obtain ⟨m2, e2, M2, g2⟩ := M1.update K hu1 (by decide) (hk ⟨#[38]⟩ (by decide)) (hv 5 (by decide))
  obtain ⟨m3, e3, M3, g3⟩ := M2.update K hu1 (by decide) (hk ⟨#[45]⟩ (by decide)) (hv 6 (by decide))
  obtain ⟨m4, e4, M4, g4, hz4⟩ := M3.range K hu1
  have G4 : w.grownBy m4 none := by
    have h1 := g1.size
    have h2 := g2.size
    have h3 := g3.size
    have hw : (w.alloc (.map #[] 0)).heap.size = w.heap.size + 1 := by simp
    refine ⟨g4.os.trans (g3.os.trans (g2.os.trans (g1.os.trans rfl))), g4.tape.trans (g3.tape.trans (g2.tape.trans (g1.tape.trans rfl))), g4.output.trans (g3.output.trans (g2.output.trans (g1.output.trans rfl))), by omega, ?_⟩
    intro k hk _
    have hne : some k ≠ some w.heap.size := by intro e; injection e with e; omega
    rw [g4.block k (by omega) (by simp), g3.block k (by omega) hne, g2.block k (by omega) hne, g1.block k (by omega) hne, Below.heap_alloc _ _ _ hk]
  have hr1 : w.heap.size < m3.heap.size := M3.lt
  have S4 := Aside0.mk (h.grown G4 (fun k e => by cases e))
  have F4 : Aside0 (Fr b w.heap.size w m4) := ⟨Fr.of_grown G4 (Nat.le_refl _) (fun k e => by cases e)⟩
  have M5 := Aside0.mk M4
  have hlt := h.lt
  have HL := Aside0.mk hlt
  clear hk hv M0 M1 M2 M3 M4 g1 g2 g3 g4 G4 hz4 hlt
  have HK := Aside0.mk K
  have H0 := Aside0.mk h
  clear K h
  go_enter Tryd.func133, Tryd.ntmps133
  go_wp2
  obtain ⟨r, hr⟩ : ∃ r, m3.heap.size = r := ⟨_, rfl⟩
  rw [hr] at hr1 M5 ⊢
  have HR := Aside0.mk hr1
  clear e1 e2 e3 e4 hmk hr hr1
  go_loopg [3] (Maps.size signD) (fun kq v3 wr => ∃ (left : Lit → Bool) (cnt : Nat), Aside0 (wr.ranges Tryd.prog 9 (plainElem (H := Unit) Tryd.prog 3) w.heap.size r 3 signD left cnt) ∧ Aside0 (cnt ≤ kq ∧ (∀ kl, left kl = true → Maps.has signD kl = true) ∧ (∀ sl : List UInt8, Maps.has signD (.string sl) = true → left (.string sl) = true ∨ isT sl ts = false)) ∧ Aside0 (Sx w0 wr b g ts d) ∧ Aside0 (Fr b w.heap.size w wr))
  case atStart => exact ⟨_, _, M5, ⟨Nat.le_refl _, fun _ h => h, fun _ h => .inl h⟩, S4, F4⟩
  case round =>
    clear M5 S4 F4
    obtain ⟨left, cnt, HM, HC, S, F⟩ := hrel
    rename World => wr
    rcases HM.out.next HK.out 0 with ⟨h0, hl, hrun⟩ | ⟨key, v, kl, y, w1, cnt', hkey, hlk, hv, hat, hrun, hrg', hlt, hgr, hsz, hen⟩
    · have hsg : signT ts = 0 := by
        have hz : ∀ sl : List UInt8, Maps.has signD (.string sl) = true → isT sl ts = false := fun sl hs => by
          rcases HC.out.2.2 sl hs with h1 | h1
          · rw [hl] at h1; exact absurd h1 (by decide)
          · exact h1
        exact signT_none (hz _ rfl) (hz _ rfl) (hz _ rfl)
      have HSG := Aside0.mk hsg
      clear hsg hl h0
      go_wp2
      go_ret
      exact ⟨by rw [HSG.out]; rfl, by unfold signG; rw [if_pos HSG.out]; exact S.out, F.out⟩
    · obtain ⟨s, rfl, rfl⟩ := keyOf_string_inv hu2 hkey
      obtain ⟨c, rfl, hc, hwc⟩ := plainElem_int_inv hu3 hv
      have hone := signD_has _ (HC.out.2.1 _ hlk) c (fun zd => (hat zd).trans (by rw [hc]))
      have hone2 : (L s = [124] ∧ c = 4) ∨ (L s = [38] ∧ c = 5) ∨ (L s = [45] ∧ c = 6) := by
        rcases hone with ⟨h1, h2⟩ | ⟨h1, h2⟩ | ⟨h1, h2⟩
        · injection h1 with h1; exact .inl ⟨h1, h2⟩
        · injection h1 with h1; exact .inr (.inl ⟨h1, h2⟩)
        · injection h1 with h1; exact .inr (.inr ⟨h1, h2⟩)
      have hne : L s ≠ [] := by rcases hone2 with ⟨h1, _⟩ | ⟨h1, _⟩ | ⟨h1, _⟩ <;> rw [h1] <;> decide
      have hbg := HL.out
      have hrb := HR.out
      have S1 := Aside0.mk (S.out.grown_any hgr (show r ≠ b by omega) (show r ≠ g by omega) (by omega))
      have F1 : Aside0 (Fr b w.heap.size w w1) := ⟨F.out.trans (Fr.of_grown hgr (by have := F.out.size; omega) (fun k e => by injection e with e; omega))⟩
      have HM1 := Aside0.mk hrg'
      have HO := Aside0.mk hone2
      have HLK := Aside0.mk hlk
      have HNE := Aside0.mk hne
      have HLT := Aside0.mk hlt
      have HV := Aside0.mk hwc
      clear hone hone2 hkey hlk hv hat hrg' hlt hgr hsz hc hwc hne hbg hrb S F HM
      cases hp : isT (L s) ts with
      | true =>
        have HP := Aside0.mk hp
        clear hp
        go_wp2_with fail
        refine (pass_calls S1.out s (L s) rfl HNE.out).mono ?_
        rintro e w2 ⟨rfl, hx, hf⟩
        rw [HP.out]
        have HX := Aside0.mk hx
        have F2 : Aside0 (Fr b w.heap.size w w2) := ⟨F1.out.trans ⟨hf.os, hf.tape, hf.output, hf.size, fun k hk hn => hf.block k (Nat.lt_of_lt_of_le hk F1.out.size) hn⟩⟩
        clear hx hf
        go_wp2
        go_ret
        obtain ⟨h1, h2⟩ := signT_one HO.out HP.out
        exact ⟨by rw [h1]; rfl, by unfold signG; rw [if_neg (by rw [h1]; exact h2)]; have := HX.out; unfold goT at this; rwa [if_pos HP.out] at this, F2.out⟩
      | false =>
        have HP := Aside0.mk hp
        clear hp
        go_wp2_with fail
        refine (pass_calls S1.out s (L s) rfl HNE.out).mono ?_
        rintro e w2 ⟨rfl, hx, hf⟩
        rw [HP.out]
        have HX : Aside0 (Sx w0 w2 b g ts d) := ⟨by unfold goT at hx; rwa [if_neg (by rw [HP.out]; decide)] at hx⟩
        have F2 : Aside0 (Fr b w.heap.size w w2) := ⟨F1.out.trans ⟨hf.os, hf.tape, hf.output, hf.size, fun k hk hn => hf.block k (Nat.lt_of_lt_of_le hk F1.out.size) hn⟩⟩
        have HM2 := Aside0.mk (HM1.out.kept (Fr.grown_ hf) (by intro e; injection e with e; have := HL.out; omega) (by intro e; injection e with e; have := HL.out; have := HR.out; omega))
        clear hx hf HM1 S1 F1
        go_wp2
        cases gk with
        | zero => exact absurd HLT.out (by have := HC.out.1; omega)
        | succ k1 =>
          go_roundg k1
          case measure => omega
          case rel =>
            refine ⟨_, cnt', HM2, ⟨by have := HC.out.1; have := HLT.out; omega, ?_, ?_⟩, HX, F2⟩
            · intro kl h
              simp only [Bool.and_eq_true] at h
              exact HC.out.2.1 kl h.1
            · intro sl h
              rcases HC.out.2.2 sl h with h1 | h1
              · by_cases he : sl = L s
                · rw [he]; exact .inr HP.out
                · left
                  rw [h1, Bool.true_and, Bool.not_eq_true']
                  simp only [Lit.sameKey, beq_eq_false_iff_ne]
                  exact he
              · exact .inr h1
end Go.Proofs.YtkgnhghaiopgcaaDoor.Pw
namespace Go.Proofs.YtkgnhghaiopgcaaDoor.Pw
open Go.RowKit Go.Maps Go.Proofs.YtkgnhghaiopgcaaDoorW.PrintWords Go.Proofs.YtkgnhghaiopgcaaDoorW.PrintLast Go.Proofs.YtkgnhghaiopgcaaDoor.X Go.Proofs.YtkgnhghaiopgcaaDoor.Kx Go.Proofs.YtkgnhghaiopgcaaDoor.Gl Go.Proofs.YtkgnhghaiopgcaaDoor.GlFn Go.Proofs.YtkgnhghaiopgcaaDoor.Tk Go.Proofs.YtkgnhghaiopgcaaDoor.Ps

/-- A row of operations of the call's own. -/
def Ops (w : World) (base b : Nat) (v : Value) (xs : List SO) : Prop := k59.R 59 w base (fun k => b < k) v xs
theorem Ops.fr {w w' : World} {base b : Nat} {v : Value} {xs : List SO} (h : Ops w base b v xs) (hf : Fr b w.heap.size w w') : Ops w' base b v xs :=
  Kd.R_step h (fun k ho hk => hf.block k hk (by omega))
theorem Ops.lower {w : World} {base base' b : Nat} {v : Value} {xs : List SO} (h : Ops w base b v xs) (hb : base' ≤ base) : Ops w base' b v xs := Kd.R_lower h hb
theorem Fr.below_ {b base : Nat} {w w' : World} (h : Below base w w') : Fr b base w w' := ⟨h.os, h.tape, h.output, h.size, fun k hk _ => h.block k hk⟩
theorem fr_mono {b base base' : Nat} {w w' : World} (h : Fr b base w w') (hb : base' ≤ base) : Fr b base' w w' := ⟨h.os, h.tape, h.output, h.size, fun k hk hne => h.block k (Nat.lt_of_lt_of_le hk hb) hne⟩
/-- One behind the other. -/
theorem fr_then {b : Nat} {w w1 w2 : World} (h : Fr b w.heap.size w w1) (k : Fr b w1.heap.size w1 w2) : Fr b w.heap.size w w2 := h.trans (fr_mono k h.size)
theorem Sx.below {w0 w w' : World} {b g : Nat} {ts : List Tok} {d : Nat} (h : Sx w0 w b g ts d) (hb : Below w.heap.size w w') : Sx w0 w' b g ts d := by
  obtain ⟨o, c, h⟩ := h
  exact ⟨o, c, h.below hb⟩
theorem Sx.deep {w0 w : World} {b g : Nat} {ts : List Tok} {d : Nat} (h : Sx w0 w b g ts d) (e : Nat) : Sx w0 (w.setCell ⟨b, 1, none⟩ (.int .i64 e)) b g ts e := by
  obtain ⟨o, c, h⟩ := h
  exact ⟨o, c, h.deep e⟩
theorem Sx.c1 {w0 w : World} {b g : Nat} {ts : List Tok} {d : Nat} (h : Sx w0 w b g ts d) : w.cell? ⟨b, 1, none⟩ = some (.int .i64 d) ∧ w.frozen? ⟨b, 1, none⟩ = false := by
  obtain ⟨o, c, h⟩ := h
  exact ⟨h.c1, h.fz 1⟩
theorem Sx.small {w0 w : World} {b g : Nat} {ts : List Tok} {d : Nat} (h : Sx w0 w b g ts d) : ts.length ≤ 4096 := by
  obtain ⟨o, c, h⟩ := h
  exact h.small
theorem Sx.bel {w0 w : World} {b g : Nat} {ts : List Tok} {d : Nat} (h : Sx w0 w b g ts d) : Below w0.heap.size w0 w := by
  obtain ⟨o, c, h⟩ := h
  exact h.bel

theorem Ops.lit (w : World) (x : SO) (b : Nat) (hb : b < w.heap.size) : Ops (w.alloc (.cells #[.int .i64 x.f0, .string x.f1, .string x.f2] 59)) w.heap.size b (.slice (some ⟨w.heap.size, 0, none⟩) 1 1) [x] := by
  refine ⟨fun k hk => ?_, [.int .i64 x.f0, .string x.f1, .string x.f2], ?_, ?_⟩
  · have : w.heap.size = k := by simpa [Value.ownBlock] using hk
    subst this
    exact hb
  · have h2 := World.ownsRow_lit (base := w.heap.size) (e := 59) (size := 3) w #[.int .i64 x.f0, .string x.f1, .string x.f2] 1 (Nat.le_refl _) (by simp [maxLen]) (by simp)
    exact h2
  · exact Reps.snoc (Reps.none _ _) (k59_mkM _ _ _ x) rfl

theorem Sx.set {w0 w : World} {b g : Nat} {ts : List Tok} {d : Nat} (h : Sx w0 w b g ts d) {q : Nat} (h1 : q ≠ b) (h2 : q ≠ g) (h3 : w0.heap.size ≤ q) (j : Nat) (u : Value) : Sx w0 (w.setCell ⟨q, j, none⟩ u) b g ts d := by
  obtain ⟨o, c, h⟩ := h
  exact ⟨o, c, h.move (h.bel.setCell h3 _) (Below.heap_setCell w ⟨q, j, none⟩ u b (Ne.symm h1)) (Below.heap_setCell w ⟨q, j, none⟩ u g (Ne.symm h2))⟩
theorem fr_setFar {b base : Nat} {u v : World} (h : Fr b base u v) {q : Nat} (hq : base ≤ q) (j : Nat) (x : Value) : Fr b base u (v.setCell ⟨q, j, none⟩ x) :=
  ⟨h.os, h.tape, h.output, by simpa [World.setCell] using h.size, fun i hi hne => (Below.heap_setCell v ⟨q, j, none⟩ x i (show i ≠ q by omega)).trans (h.block i hi hne)⟩
theorem Sx.belowB {w0 w w' : World} {b g B : Nat} {ts : List Tok} {d : Nat} (h : Sx w0 w b g ts d) (hb : Below B w w') (h1 : b < B) (h2 : g < B) (h3 : w0.heap.size ≤ B) : Sx w0 w' b g ts d := by
  obtain ⟨o, c, h⟩ := h
  exact ⟨o, c, h.move (h.bel.trans (hb.mono h3)) (hb.block _ h1) (hb.block _ h2)⟩
theorem bnd_some {α β : Type} {x : Option (Except Er α)} {f : α → Option (Except Er β)} {res : Except Er β} (h : bnd x f = some res) :
    (∃ e, x = some (.error e) ∧ res = .error e) ∨ ∃ a, x = some (.ok a) ∧ f a = some res := by
  cases x with
  | none => exact absurd h (by simp [bnd])
  | some y =>
    cases y with
    | error e => exact .inl ⟨e, rfl, (Option.some.inj h).symm⟩
    | ok a => exact .inr ⟨a, rfl, h⟩
/-- What part and rewrite tell. -/
def OpsPost (w0 w : World) (b g d : Nat) (x : List SO × List Tok) (e : Ending) (w' : World) : Prop :=
  ∃ v, e = .returned v ∧ Ops w' w.heap.size b v x.1 ∧ Sx w0 w' b g x.2 d ∧ Fr b w.heap.size w w'
def PartC (k : Nat) : Prop := ∀ (w0 w : World) (b g : Nat) (ts : List Tok) (d : Nat) (res : Except Er (List SO × List Tok)), Sx w0 w b g ts d → d ≤ 8 → partT k d ts = some res →
  Calls Tryd.prog 132 #[.pointer (some ⟨b, 0, none⟩)] w (EndX res (OpsPost w0 w b g d) w0)
def RewC (k : Nat) : Prop := ∀ (w0 w : World) (b g : Nat) (ts : List Tok) (d : Nat) (res : Except Er (List SO × List Tok)), Sx w0 w b g ts d → d ≤ 8 → rewT k d ts = some res →
  Calls Tryd.prog 123 #[.pointer (some ⟨b, 0, none⟩)] w (EndX res (OpsPost w0 w b g d) w0)

set_option maxHeartbeats 4000000 in
set_option maxRecDepth 100000 in
theorem part_calls (k : Nat) (ih : RewC k) : PartC (k + 1) := by
  intro w0 w b g ts d res h hd8 hp
  rw [partT] at hp
  have hlt := h.lt
  have HL := Aside0.mk hlt
  by_cases c1 : isT sThis ts = true
  · rw [if_pos c1] at hp
    obtain rfl := Option.some.inj hp
    have H := Aside0.mk h
    have C1 := Aside0.mk c1
    clear h hp c1 hlt
    go_enter Tryd.func132, Tryd.ntmps132
    go_wp2_with fail
    refine (pass_calls H.out ⟨#[116, 104, 105, 115]⟩ sThis rfl (by decide)).mono ?_
    rintro e w1 ⟨rfl, hx, hf⟩
    rw [C1.out]
    have HX := Aside0.mk hx
    have HF := Aside0.mk hf
    clear hx hf
    go_wp2
    go_ret
    refine ⟨_, rfl, (Ops.lit w1 (op1 1) b (Nat.lt_of_lt_of_le HL.out.1 HF.out.size)).lower HF.out.size, ?_, HF.out.alloc HF.out.size _⟩
    have h1 := HX.out
    unfold goT at h1
    rw [if_pos C1.out] at h1
    exact h1.below (below_alloc (Below.refl _ _) _)
  rw [if_neg c1] at hp
  have C1 := Aside0.mk (Bool.eq_false_iff.mpr c1)
  by_cases c2 : isT [40] ts = true
  · rw [if_pos c2] at hp
    have C2 := Aside0.mk c2
    by_cases c3 : d = 8
    · rw [if_pos c3] at hp
      obtain rfl := Option.some.inj hp
      subst c3
      have H := Aside0.mk h
      clear h hp c1 c2 hlt hd8
      go_enter Tryd.func132, Tryd.ntmps132
      go_wp2_with fail
      refine (pass_calls H.out ⟨#[116, 104, 105, 115]⟩ sThis rfl (by decide)).mono ?_
      rintro e w1 ⟨rfl, hx, hf⟩
      rw [C1.out]
      have HX : Aside0 (Sx w0 w1 b g ts 8) := ⟨by unfold goT at hx; rwa [if_neg (by rw [C1.out]; decide)] at hx⟩
      clear hx hf
      go_wp2_with fail
      obtain ⟨o1, c1, hs1⟩ := HX.out
      have HS := Aside0.mk hs1
      clear hs1
      refine (is_calls HS.out ⟨#[40]⟩ [40] rfl).mono ?_
      rintro e w2 ⟨rfl, hd⟩
      rw [C2.out]
      have HX2 : Aside0 (Sx w0 w2 b g ts 8) := ⟨⟨o1, c1, HS.out.drawn hd⟩⟩
      obtain ⟨q1, q2⟩ := HX2.out.c1
      clear hd HS HX
      go_wp2_with fail
      refine (fail_calls HX2.out 13).mono ?_
      rintro e w3 ⟨rfl, hb⟩
      go_wp2
      exact ⟨rfl, rfl, hb⟩
    · rw [if_neg c3] at hp
      have hd8' : d + 1 ≤ 8 := by omega
      have hneed : needT [40] ts = .ok ts.tail := by unfold needT; rw [if_pos c2]
      have hgo : goT [40] ts = ts.tail := by unfold goT; rw [if_pos c2]
      have H := Aside0.mk h
      have HP := Aside0.mk hp
      have HD := Aside0.mk hd8'
      have HN := Aside0.mk hneed
      have t1 : ((d : Int) == 8) = false := beq_eq_false_iff_ne.mpr (by omega)
      have t2 : (d == 8) = false := beq_eq_false_iff_ne.mpr c3
      clear h hp c1 c2 c3 hlt hd8 hneed hgo
      go_enter Tryd.func132, Tryd.ntmps132
      go_wp2_with fail
      refine (pass_calls H.out ⟨#[116, 104, 105, 115]⟩ sThis rfl (by decide)).mono ?_
      rintro e w1 ⟨rfl, hx, hf⟩
      rw [C1.out]
      have HX : Aside0 (Sx w0 w1 b g ts d) := ⟨by unfold goT at hx; rwa [if_neg (by rw [C1.out]; decide)] at hx⟩
      have HF := Aside0.mk hf
      clear hx hf
      go_wp2_with fail
      obtain ⟨o1, c1, hs1⟩ := HX.out
      have HS := Aside0.mk hs1
      clear hs1
      refine (is_calls HS.out ⟨#[40]⟩ [40] rfl).mono ?_
      rintro e w2 ⟨rfl, hd⟩
      rw [C2.out]
      have HX2 : Aside0 (Sx w0 w2 b g ts d) := ⟨⟨o1, c1, HS.out.drawn hd⟩⟩
      have HF2 : Aside0 (Fr b w.heap.size w w2) := ⟨fr_then HF.out (by obtain ⟨n, rfl⟩ := hd.out; exact (Fr.refl _ _ _).drewN n)⟩
      obtain ⟨q1, q2⟩ := HX2.out.c1
      clear hd HS HX HF
      go_wp2_with fail
      refine (need_calls HX2.out ⟨#[40]⟩ [40] rfl (by decide)).mono ?_
      intro e w3 he
      rw [HN.out] at he
      obtain ⟨rfl, hx3, hf3⟩ := he
      have HX3 := Aside0.mk hx3
      have HF3 := Aside0.mk (fr_then HF2.out hf3)
      clear q1 q2 hx3 hf3 HX2 HF2
      obtain ⟨q1, q2⟩ := HX3.out.c1
      have HXD : Aside0 (Sx w0 (w3.setCell ⟨b, 1, none⟩ (.int .i64 ((d : Int) + 1))) b g ts.tail (d + 1)) := ⟨by
        have := HX3.out.deep (d + 1)
        rwa [show ((d + 1 : Nat) : Int) = (d : Int) + 1 by omega] at this⟩
      have HF4 : Aside0 (Fr b w.heap.size w (w3.setCell ⟨b, 1, none⟩ (.int .i64 ((d : Int) + 1)))) := ⟨HF3.out.set _ _⟩
      rcases bnd_some HP.out with ⟨er, h1, rfl⟩ | ⟨x, h1, h2⟩
      · have H1 := Aside0.mk h1
        clear h1
        go_wp2_with fail
        refine (ih _ _ _ _ _ _ _ HXD.out HD.out H1.out).mono ?_
        intro e w5 he
        obtain ⟨en, p⟩ := er
        obtain ⟨rfl, hb⟩ := he
        go_wp2
        exact ⟨rfl, rfl, hb⟩
      · have H1 := Aside0.mk h1
        have H2 := Aside0.mk h2
        clear h1 h2
        go_wp2_with fail
        refine (ih _ _ _ _ _ _ _ HXD.out HD.out H1.out).mono ?_
        intro e w5 he
        obtain ⟨v, rfl, ho, hx5, hf5⟩ := he
        have HO5 := Aside0.mk ho
        have HX5 := Aside0.mk hx5
        have HF5 := Aside0.mk (fr_then HF4.out hf5)
        have hz5 : Aside0 (w.heap.size ≤ (w3.setCell ⟨b, 1, none⟩ (.int .i64 ((d : Int) + 1))).heap.size) := ⟨HF4.out.size⟩
        clear ho hx5 hf5 HXD HF4 HX3 HF3 q1 q2
        rcases bnd_some H2.out with ⟨er, h1, rfl⟩ | ⟨r, h1, h2⟩
        · injection h1 with h1
          have H3 := Aside0.mk h1
          clear h1
          go_wp2_with fail
          refine (need_calls HX5.out ⟨#[41]⟩ [41] rfl (by decide)).mono ?_
          intro e w6 he
          rw [H3.out] at he
          obtain ⟨en, p⟩ := er
          obtain ⟨rfl, hb⟩ := he
          go_wp2
          exact ⟨rfl, rfl, hb⟩
        · injection h1 with h1
          obtain rfl := Option.some.inj h2
          have H3 := Aside0.mk h1
          clear h1 h2
          go_wp2_with fail
          refine (need_calls HX5.out ⟨#[41]⟩ [41] rfl (by decide)).mono ?_
          intro e w6 he
          rw [H3.out] at he
          obtain ⟨rfl, hx6, hf6⟩ := he
          have HX6 := Aside0.mk hx6
          have HF6 := Aside0.mk (fr_then HF5.out hf6)
          have HO6 := Aside0.mk (HO5.out.fr hf6)
          obtain ⟨q1, q2⟩ := HX6.out.c1
          rw [show ((d + 1 : Nat) : Int) = (d : Int) + 1 by omega] at q1
          clear hx6 hf6 HX5 HF5 HO5
          go_wp2
          go_ret
          exact ⟨v, rfl, ((HO6.out.lower hz5.out).fr ((Fr.refl b w6.heap.size w6).set _ _)), HX6.out.deep d, HF6.out.set _ _⟩
  rw [if_neg c2] at hp
  have C2 := Aside0.mk (Bool.eq_false_iff.mpr c2)
  have H := Aside0.mk h
  have HP := Aside0.mk hp
  clear h hp c1 c2 hlt hd8
  go_enter Tryd.func132, Tryd.ntmps132
  go_wp2_with fail
  refine (pass_calls H.out ⟨#[116, 104, 105, 115]⟩ sThis rfl (by decide)).mono ?_
  rintro e w1 ⟨rfl, hx, hf⟩
  rw [C1.out]
  have HX : Aside0 (Sx w0 w1 b g ts d) := ⟨by unfold goT at hx; rwa [if_neg (by rw [C1.out]; decide)] at hx⟩
  have HF := Aside0.mk hf
  clear hx hf
  go_wp2_with fail
  obtain ⟨o1, c1, hs1⟩ := HX.out
  have HS := Aside0.mk hs1
  clear hs1
  refine (is_calls HS.out ⟨#[40]⟩ [40] rfl).mono ?_
  rintro e w2 ⟨rfl, hd⟩
  rw [C2.out]
  have HX2 : Aside0 (Sx w0 w2 b g ts d) := ⟨⟨o1, c1, HS.out.drawn hd⟩⟩
  have HF2 : Aside0 (Fr b w.heap.size w w2) := ⟨fr_then HF.out (by obtain ⟨n, rfl⟩ := hd.out; exact (Fr.refl _ _ _).drewN n)⟩
  clear hd HS HX HF
  rcases bnd_some HP.out with ⟨er, h1, rfl⟩ | ⟨x, h1, h2⟩
  · injection h1 with h1
    have H1 := Aside0.mk h1
    clear h1
    go_wp2_with fail
    refine (name_calls HX2.out).mono ?_
    intro e w3 he
    rw [H1.out] at he
    obtain ⟨en, p⟩ := er
    obtain ⟨rfl, hb⟩ := he
    go_wp2
    exact ⟨rfl, rfl, hb⟩
  injection h1 with h1
  have H1 := Aside0.mk h1
  clear h1
  go_wp2_with fail
  refine (name_calls HX2.out).mono ?_
  intro e w3 he
  rw [H1.out] at he
  obtain ⟨rfl, hx3, hf3⟩ := he
  obtain ⟨nm, r⟩ := x
  have HF3 := Aside0.mk (fr_then HF2.out hf3)
  have hq3 : w.heap.size ≤ w3.heap.size := HF3.out.size
  obtain ⟨l1, l2, l3, l4⟩ := hx3.lt
  have HX4 : Aside0 (Sx w0 (w3.alloc (.cells #[.int .i64 2, .string nm, .string ⟨#[]⟩] 59)) b g r d) := ⟨hx3.below (below_alloc (Below.refl _ _) _)⟩
  have HF4 : Aside0 (Fr b w.heap.size w (w3.alloc (.cells #[.int .i64 2, .string nm, .string ⟨#[]⟩] 59))) := ⟨HF3.out.alloc hq3 _⟩
  have HL3 : Aside0 (b < w3.heap.size ∧ g < w3.heap.size ∧ w0.heap.size ≤ w3.heap.size ∧ w.heap.size ≤ w3.heap.size) := ⟨⟨l1, l2, l4, hq3⟩⟩
  have HB4 : Aside0 ((w3.alloc (.cells #[.int .i64 2, .string nm, .string ⟨#[]⟩] 59)).heap[w3.heap.size]? = some (.cells #[.int .i64 2, .string nm, .string ⟨#[]⟩] 59 (0, 0))) := ⟨(Go.MapKept.heap_alloc w3 _).1⟩
  clear hx3 hf3 hq3 l1 l2 l3 l4 HX2 HF2 HF3
  obtain ⟨q, hq⟩ : ∃ q, w3.heap.size = q := ⟨_, rfl⟩
  rw [hq] at HL3 HB4
  cases hdot : isT [46] r with
  | true =>
    have HD := Aside0.mk hdot
    have h2' := h2
    simp only [hdot, if_true] at h2'
    have H2 := Aside0.mk h2'
    clear h2 h2' hdot
    go_wp2_with fail
    refine (pass_calls HX4.out ⟨#[46]⟩ [46] rfl (by decide)).mono ?_
    rintro e w5 ⟨rfl, hx, hf⟩
    rw [HD.out]
    have HX5 : Aside0 (Sx w0 w5 b g r.tail d) := ⟨by unfold goT at hx; rwa [if_pos HD.out] at hx⟩
    have HF5 := Aside0.mk (fr_then HF4.out hf)
    have HB5 : Aside0 (w5.heap[q]? = some (.cells #[.int .i64 2, .string nm, .string ⟨#[]⟩] 59 (0, 0))) := ⟨(hf.block q (blk_lt HB4.out) (by have := HL3.out; omega)).trans HB4.out⟩
    clear hx hf HX4 HF4 HB4
    have f0 := blk_frozen HB5.out 0
    have k0 := blk_cell HB5.out 0
    have HX6 : Aside0 (Sx w0 (w5.setCell ⟨q, 0, none⟩ (.int .i64 3)) b g r.tail d) := ⟨HX5.out.set (by have := HL3.out; omega) (by have := HL3.out; omega) (by have := HL3.out; omega) _ _⟩
    have HF6 : Aside0 (Fr b w.heap.size w (w5.setCell ⟨q, 0, none⟩ (.int .i64 3))) := ⟨fr_setFar HF5.out (by have := HL3.out; omega) _ _⟩
    have HB6 : Aside0 ((w5.setCell ⟨q, 0, none⟩ (.int .i64 3)).heap[q]? = some (.cells #[.int .i64 3, .string nm, .string ⟨#[]⟩] 59 (0, 0))) := ⟨by simpa using blk_set HB5.out 0 (.int .i64 3)⟩
    rcases bnd_some H2.out with ⟨er, h1, rfl⟩ | ⟨y, h1, h2⟩
    · injection h1 with h1
      have H3 := Aside0.mk h1
      clear h1
      go_wp2_with fail
      refine (name_calls HX6.out).mono ?_
      intro e w7 he
      rw [H3.out] at he
      obtain ⟨en, p⟩ := er
      obtain ⟨rfl, hb⟩ := he
      go_wp2
      exact ⟨rfl, rfl, hb⟩
    · injection h1 with h1
      obtain rfl := Option.some.inj h2
      have H3 := Aside0.mk h1
      clear h1 h2
      go_wp2_with fail
      refine (name_calls HX6.out).mono ?_
      intro e w7 he
      rw [H3.out] at he
      obtain ⟨rfl, hx7, hf7⟩ := he
      obtain ⟨nm2, r2⟩ := y
      have HX7 := Aside0.mk hx7
      have HF7 := Aside0.mk (fr_then HF6.out hf7)
      have HB7 : Aside0 (w7.heap[q]? = some (.cells #[.int .i64 3, .string nm, .string ⟨#[]⟩] 59 (0, 0))) := ⟨(hf7.block q (blk_lt HB6.out) (by have := HL3.out; omega)).trans HB6.out⟩
      clear hx7 hf7 HX5 HF5 HB5 HX6 HF6 HB6 f0 k0
      have HB8 : Aside0 ((w7.setCell ⟨q, 2, none⟩ (.string nm2)).heap[q]? = some (.cells #[.int .i64 3, .string nm, .string nm2] 59 (0, 0))) := ⟨by simpa using blk_set HB7.out 2 (.string nm2)⟩
      have f2 := blk_frozen HB7.out 2
      have k2 := blk_cell HB7.out 2
      have j0 := blk_cell HB8.out 0
      have j1 := blk_cell HB8.out 1
      have j2 := blk_cell HB8.out 2
      go_wp2
      go_ret
      have hz : (w7.setCell ⟨q, 2, none⟩ (.string nm2)).heap.size = w7.heap.size := by simp [World.setCell]
      have hO := Ops.lit (w7.setCell ⟨q, 2, none⟩ (.string nm2)) ⟨3, nm, nm2⟩ b (by rw [hz]; exact HX7.out.lt.1)
      rw [hz] at hO
      have hl := HL3.out
      exact ⟨_, rfl, hO.lower HF7.out.size, (HX7.out.set (by omega) (by omega) (by omega) 2 _).below (below_alloc (Below.refl _ _) _), (fr_setFar HF7.out (by omega) 2 _).alloc (by rw [hz]; exact HF7.out.size) _⟩
  | false =>
    have HD := Aside0.mk hdot
    have h2' := h2
    simp only [hdot, Bool.false_eq_true, if_false] at h2'
    obtain rfl := Option.some.inj h2'
    clear h2 h2' hdot
    go_wp2_with fail
    refine (pass_calls HX4.out ⟨#[46]⟩ [46] rfl (by decide)).mono ?_
    rintro e w5 ⟨rfl, hx, hf⟩
    rw [HD.out]
    have HX5 : Aside0 (Sx w0 w5 b g r d) := ⟨by unfold goT at hx; rwa [if_neg (by rw [HD.out]; decide)] at hx⟩
    have HF5 := Aside0.mk (fr_then HF4.out hf)
    have HB5 : Aside0 (w5.heap[q]? = some (.cells #[.int .i64 2, .string nm, .string ⟨#[]⟩] 59 (0, 0))) := ⟨(hf.block q (blk_lt HB4.out) (by have := HL3.out; omega)).trans HB4.out⟩
    clear hx hf HX4 HF4 HB4
    have j0 := blk_cell HB5.out 0
    have j1 := blk_cell HB5.out 1
    have j2 := blk_cell HB5.out 2
    go_wp2
    go_ret
    have hO := Ops.lit w5 ⟨2, nm, ⟨#[]⟩⟩ b HX5.out.lt.1
    exact ⟨_, rfl, hO.lower HF5.out.size, HX5.out.below (below_alloc (Below.refl _ _) _), HF5.out.alloc HF5.out.size _⟩

set_option maxHeartbeats 4000000 in
set_option maxRecDepth 100000 in
theorem rew_calls (k : Nat) (ih : ∀ j, j ≤ k → PartC j) : RewC (k + 1) := by
  intro w0 w b g ts d res h hd8 hp
  rw [rewT] at hp
  have HP := Aside0.mk hp
  have H := Aside0.mk h
  have HD := Aside0.mk hd8
  have HL := Aside0.mk h.lt
  clear h hp hd8
  go_enter Tryd.func123, Tryd.ntmps123
  rcases bnd_some HP.out with ⟨er, h1, rfl⟩ | ⟨x, h1, h2⟩
  · have H1 := Aside0.mk h1
    clear h1
    go_wp2_with fail
    refine (ih k (Nat.le_refl _) _ _ _ _ _ _ _ H.out HD.out H1.out).mono ?_
    intro e w5 he
    obtain ⟨en, p⟩ := er
    obtain ⟨rfl, hb⟩ := he
    go_wp2
    exact ⟨rfl, rfl, hb⟩
  have H1 := Aside0.mk h1
  have H2 := Aside0.mk h2
  clear h1 h2
  go_wp2_with fail
  refine (ih k (Nat.le_refl _) _ _ _ _ _ _ _ H.out HD.out H1.out).mono ?_
  intro e w1 he
  obtain ⟨v, rfl, ho, hx, hf⟩ := he
  obtain ⟨acc, ts1⟩ := x
  have HO := Aside0.mk ho
  have HX := Aside0.mk hx
  have HF := Aside0.mk hf
  clear ho hx hf
  go_wp2_with fail
  refine (sign_calls HX.out).mono ?_
  rintro e w2 ⟨rfl, hx, hf⟩
  have HX2 := Aside0.mk hx
  have HF2 := Aside0.mk (fr_then HF.out hf)
  have HO2 := Aside0.mk (HO.out.fr hf)
  clear hx hf HX HF HO
  go_wp2_with fail
  go_loopg [3, 4] k (fun kq v3 v4 wr => ∃ (acc : List SO) (ts : List Tok), v4 = .int .i64 (signT ts) ∧ Aside0 (rewL kq d acc ts = some res) ∧ Aside0 (kq ≤ k) ∧ Aside0 (Ops wr w.heap.size b v3 acc) ∧ Aside0 (Sx w0 wr b g (signG ts) d) ∧ Aside0 (Fr b w.heap.size w wr) ∧ Aside0 (acc.length + ts.length ≤ 4096))
  case atStart => exact ⟨acc, ts1, rfl, H2, ⟨Nat.le_refl _⟩, HO2, HX2, HF2, ⟨by have := (sizes _).1 _ _ _ _ H1.out; have := H.out.small; omega⟩⟩
  case round =>
    clear HX2 HF2 HO2 H2
    obtain ⟨acc, ts2, rfl, HA, HKq, HO, HX, HF, HSM⟩ := hrel
    rename World => wr
    cases gk with
    | zero => exact absurd HA.out (by simp [rewL])
    | succ k1 =>
      have ha := HA.out
      rw [rewL] at ha
      by_cases hs : signT ts2 = 0
      · rw [if_pos hs] at ha
        obtain rfl := Option.some.inj ha
        have t1 : (signT ts2 != 0) = false := bne_eq_false_iff_eq.mpr hs
        have HS : Aside0 (Sx w0 wr b g ts2 d) := ⟨by have := HX.out; unfold signG at this; rwa [if_pos hs] at this⟩
        clear hs ha HA HX
        go_wp2
        go_ret
        exact ⟨_, rfl, HO.out, HS.out, HF.out⟩
      · rw [if_neg hs] at ha
        have t1 : (signT ts2 != 0) = true := bne_iff_ne.mpr hs
        have HS : Aside0 (Sx w0 wr b g ts2.tail d) := ⟨by have := HX.out; unfold signG at this; rwa [if_neg hs] at this⟩
        have htl := signT_len hs
        have HTL := Aside0.mk htl
        clear hs HA HX htl
        rcases bnd_some ha with ⟨er, h1, rfl⟩ | ⟨x, h1, h2⟩
        · have H1 := Aside0.mk h1
          clear h1 ha
          go_wp2_with fail
          refine (ih k1 (by have := HKq.out; omega) _ _ _ _ _ _ _ HS.out HD.out H1.out).mono ?_
          intro e w5 he
          obtain ⟨en, p⟩ := er
          obtain ⟨rfl, hb⟩ := he
          go_wp2
          exact ⟨rfl, rfl, hb⟩
        · have H1 := Aside0.mk h1
          have H2 := Aside0.mk h2
          clear h1 h2 ha
          go_wp2_with fail
          refine (ih k1 (by have := HKq.out; omega) _ _ _ _ _ _ _ HS.out HD.out H1.out).mono ?_
          intro e w5 he
          obtain ⟨v5, rfl, ho, hx, hf⟩ := he
          obtain ⟨ops, ts3⟩ := x
          have HX5 := Aside0.mk hx
          have HF5 := Aside0.mk (fr_then HF.out hf)
          have HO5 := Aside0.mk (HO.out.fr hf)
          have HN5 := Aside0.mk (ho.lower HF.out.size)
          clear ho hx hf HS HF HO
          obtain ⟨B5, n5, rfl⟩ := Kd.R_slice HN5.out
          have hln := (sizes _).1 _ _ _ _ H1.out
          have hsm := HSM.out
          have htl := HTL.out
          have HR5 := Aside0.mk (Kd.R_reads' HN5.out).2.2
          have hbb : b < w.heap.size := HL.out.1
          go_wp2_with (first | ((with_reducible refine gate_builtin (b := .append) (xs := #[.tmp 13, .tmp 15]) rfl ?_); (try (refine gate_guard (by rfl) ?_; dsimp only)); at_builtin; go_must (refine Kd.R_append_rows k59 (w0 := w5) w.heap.size rfl (.tmp 13) (.tmp 15) 55 59 (.agg #[(.int .i64 0), (.string ⟨#[]⟩), (.string ⟨#[]⟩)]) 40 rfl Tryd.underlying55 info59 rfl (by decide) (by omega) _ acc ops _ _ _ (fun k => b < k) (fun _ => False) rfl rfl ?aO ?aR (fun _ _ h => h) (fun _ h => h.elim) ?aF ?aB ?aS ?aL ?_); (case aR => exact HR5.out); (case aO => exact HO5.out); (case aF => exact (fun k hk => by have := HF5.out.size; omega)); (case aB => exact Below.refl _ _); (case aS => exact HF5.out.size); (case aL => omega); intro v6 w6 ho6 hb6 hg6 hat6; have HO6 := Aside0.mk ho6; have HB6 := Aside0.mk hb6; clear ho6 hb6 hg6 hat6) | ((with_reducible refine gate_builtin (b := .append) (xs := #[.tmp 16, .tmp 19]) rfl ?_); (try (refine gate_guard (by rfl) ?_; dsimp only)); at_builtin; go_must (refine Kd.R_append k59 (w0 := w5) w.heap.size rfl (.tmp 16) (.tmp 19) 55 59 (.agg #[(.int .i64 0), (.string ⟨#[]⟩), (.string ⟨#[]⟩)]) 40 rfl Tryd.underlying55 info59 rfl (by decide) (by omega) _ (acc ++ ops) (op1 (signT ts2)) [.int .i64 (signT ts2), .string ⟨#[]⟩, .string ⟨#[]⟩] (fun k => b < k) (fun _ => False) rfl rfl ?bP (fun _ hk => hk.elim) ?bF ?bO ?bB ?bS ?bL ?_); (case bP => exact k59_mkM _ _ _ (op1 (signT ts2))); (case bF => exact (fun k hk => by have := HF5.out.size; have := HB6.out.size; omega)); (case bO => exact HO6.out); (case bB => exact HB6.out); (case bS => exact Nat.le_trans HF5.out.size HB6.out.size); (case bL => rw [List.length_append]; omega); intro v7 w7 ho7 hb7 hg7 hat7; have HO7 := Aside0.mk ho7; have HB7 := Aside0.mk hb7; clear ho7 hb7 hg7 hat7))
          have HX7 : Aside0 (Sx w0 w7 b g ts3 d) := ⟨HX5.out.belowB HB7.out HL.out.1 HL.out.2.1 HL.out.2.2.2⟩
          have HF7 : Aside0 (Fr b w.heap.size w w7) := ⟨HF5.out.trans (Fr.below_ HB7.out)⟩
          refine (sign_calls HX7.out).mono ?_
          rintro e w8 ⟨rfl, hx, hf⟩
          have HX8 := Aside0.mk hx
          have HF8 := Aside0.mk (fr_then HF7.out hf)
          have HO8 : Aside0 (Ops w8 w.heap.size b v7 (acc ++ ops ++ [op1 (signT ts2)])) := ⟨Ops.fr HO7.out hf⟩
          have HSM8 : Aside0 ((acc ++ ops ++ [op1 (signT ts2)]).length + ts3.length ≤ 4096) := ⟨by simp only [List.length_append, List.length_cons, List.length_nil]; omega⟩
          clear hx hf hln hsm htl hbb
          go_wp2
          go_roundg k1
          case measure => omega
          case rel => exact ⟨_, _, rfl, H2, ⟨by have := HKq.out; omega⟩, HO8, HX8, HF8, HSM8⟩

theorem both_calls (k : Nat) : PartC k ∧ RewC k := by
  induction k using Nat.strongRecOn with
  | _ k ih =>
    cases k with
    | zero => exact ⟨fun w0 w b g ts d res _ _ h => by simp [partT] at h, fun w0 w b g ts d res _ _ h => by simp [rewT] at h⟩
    | succ k => exact ⟨part_calls k (ih k (Nat.lt_succ_self k)).2, rew_calls k (fun j hj => (ih j (Nat.lt_succ_of_le hj)).1)⟩
end Go.Proofs.YtkgnhghaiopgcaaDoor.Pw
namespace Go.Proofs.YtkgnhghaiopgcaaDoor.Pw
open Go.RowKit Go.Maps Go.Proofs.YtkgnhghaiopgcaaDoorW.PrintWords Go.Proofs.YtkgnhghaiopgcaaDoorW.PrintLast Go.Proofs.YtkgnhghaiopgcaaDoor.X Go.Proofs.YtkgnhghaiopgcaaDoor.Kx Go.Proofs.YtkgnhghaiopgcaaDoor.Gl Go.Proofs.YtkgnhghaiopgcaaDoor.GlFn Go.Proofs.YtkgnhghaiopgcaaDoor.Tk Go.Proofs.YtkgnhghaiopgcaaDoor.Ps

theorem row_fr {α : Type} {d : Kd α} {t : Nat} {w w' : World} {base b : Nat} {v : Value} {xs : List α} (h : d.R t w base (fun k => b < k) v xs) (hf : Fr b w.heap.size w w') : d.R t w' base (fun k => b < k) v xs :=
  Kd.R_step h (fun k ho hk => hf.block k hk (by omega))
def SubsPost (w0 w : World) (b g d : Nat) (x : List SS × List Tok) (e : Ending) (w' : World) : Prop :=
  ∃ v, e = .returned v ∧ k62.R 62 w' w.heap.size (fun k => b < k) v x.1 ∧ Sx w0 w' b g x.2 d ∧ Fr b w.heap.size w w'

set_option maxHeartbeats 4000000 in
set_option maxRecDepth 100000 in
theorem subs_calls (k : Nat) {w0 w : World} {b g : Nat} {ts : List Tok} {d : Nat} {res : Except Er (List SS × List Tok)} (h : Sx w0 w b g ts d) (hp : subsL k [] ts = some res) :
    Calls Tryd.prog 122 #[.pointer (some ⟨b, 0, none⟩)] w (EndX res (SubsPost w0 w b g d) w0) := by
  have HP := Aside0.mk hp
  have H := Aside0.mk h
  have HL := Aside0.mk h.lt
  have HSM : Aside0 (([] : List SS).length + ts.length ≤ 4096) := ⟨by simpa using h.small⟩
  clear h hp
  go_enter Tryd.func122, Tryd.ntmps122
  go_wp2_with fail
  go_loopg [3] k (fun kq v3 wr => ∃ (acc : List SS) (ts : List Tok), Aside0 (subsL kq acc ts = some res) ∧ Aside0 (k62.R 62 wr w.heap.size (fun k => b < k) v3 acc) ∧ Aside0 (Sx w0 wr b g ts d) ∧ Aside0 (Fr b w.heap.size w wr) ∧ Aside0 (acc.length + ts.length ≤ 4096))
  case atStart => exact ⟨[], ts, HP, ⟨Kd.R_nil _ _ _ _ _⟩, H, ⟨Fr.refl _ _ _⟩, HSM⟩
  case round =>
    clear HP H HSM
    obtain ⟨acc, ts1, HA, HO, HX, HF, HSM⟩ := hrel
    rename World => wr
    cases gk with
    | zero => exact absurd HA.out (by simp [subsL])
    | succ k1 =>
      have ha := HA.out
      rw [subsL] at ha
      have HA1 := Aside0.mk ha
      clear ha HA
      cases hn : nameT ts1 with
      | error er =>
        obtain ⟨en, p⟩ := er
        have hres : res = .error (en, p) := by
          have := HA1.out
          simp only [subT, hn, bnd, Option.some.injEq] at this
          exact this.symm
        subst hres
        have HN := Aside0.mk hn
        clear hn
        go_wp2_with fail
        refine (name_calls HX.out).mono ?_
        intro e w5 he
        rw [HN.out] at he
        obtain ⟨rfl, hb⟩ := he
        go_wp2
        exact ⟨rfl, rfl, hb⟩
      | ok x =>
        obtain ⟨nm, r⟩ := x
        have HN := Aside0.mk hn
        clear hn
        go_wp2_with fail
        refine (name_calls HX.out).mono ?_
        intro e w3 he
        rw [HN.out] at he
        obtain ⟨rfl, hx3, hf3⟩ := he
        have HF3 := Aside0.mk (fr_then HF.out hf3)
        have hq3 : w.heap.size ≤ w3.heap.size := HF3.out.size
        have HO3 := Aside0.mk (row_fr HO.out hf3)
        obtain ⟨l1, l2, l3, l4⟩ := hx3.lt
        have hln := nameT_len HN.out
        have HLN := Aside0.mk hln
        have HX4 : Aside0 (Sx w0 (w3.alloc (.cells #[.string nm, .string ⟨#[]⟩] 62)) b g r d) := ⟨hx3.below (below_alloc (Below.refl _ _) _)⟩
        have HF4 : Aside0 (Fr b w.heap.size w (w3.alloc (.cells #[.string nm, .string ⟨#[]⟩] 62))) := ⟨HF3.out.alloc hq3 _⟩
        have HO4 : Aside0 (k62.R 62 (w3.alloc (.cells #[.string nm, .string ⟨#[]⟩] 62)) w.heap.size (fun k => b < k ∧ k < w3.heap.size) _ acc) := ⟨Kd.R_alloc (Kd.R_mono (Kd.R_bound HO3.out) (fun k hk => ⟨hk.1, hk.2.2.1⟩)) _⟩
        have HL3 : Aside0 (b < w3.heap.size ∧ g < w3.heap.size ∧ w0.heap.size ≤ w3.heap.size ∧ w.heap.size ≤ w3.heap.size) := ⟨⟨l1, l2, l4, hq3⟩⟩
        have HB4 : Aside0 ((w3.alloc (.cells #[.string nm, .string ⟨#[]⟩] 62)).heap[w3.heap.size]? = some (.cells #[.string nm, .string ⟨#[]⟩] 62 (0, 0))) := ⟨(Go.MapKept.heap_alloc w3 _).1⟩
        clear hx3 hf3 hq3 l1 l2 l3 l4 hln HX HF HF3 HO HO3
        obtain ⟨q, hq⟩ : ∃ q, w3.heap.size = q := ⟨_, rfl⟩
        rw [hq] at HL3 HB4 HO4
        go_wp2_with fail
        refine (pass_calls HX4.out ⟨#[35]⟩ [35] rfl (by decide)).mono ?_
        rintro e w5 ⟨rfl, hx, hf⟩
        have HX5 := Aside0.mk hx
        have HF5 := Aside0.mk (fr_then HF4.out hf)
        have HB5 : Aside0 (w5.heap[q]? = some (.cells #[.string nm, .string ⟨#[]⟩] 62 (0, 0))) := ⟨(hf.block q (blk_lt HB4.out) (by have := HL3.out; omega)).trans HB4.out⟩
        have HO5 : Aside0 (k62.R 62 w5 w.heap.size (fun k => b < k ∧ k < q) _ acc) := ⟨Kd.R_step HO4.out (fun k ho hk => hf.block k hk (by omega))⟩
        clear hx hf HX4 HF4 HB4 HO4
        cases hh : isT [35] r with
        | false =>
          have HSUB : Aside0 (subT ts1 = .ok (⟨nm, ⟨#[]⟩⟩, r)) := ⟨by simp only [subT, HN.out, hh]; rfl⟩
          have HX5' : Aside0 (Sx w0 w5 b g r d) := ⟨by have := HX5.out; unfold goT at this; rwa [if_neg (by rw [hh]; decide)] at this⟩
          have HLR : Aside0 (r.length + 1 ≤ ts1.length) := HLN
          clear hh HX5
          have j0 := blk_cell HB5.out 0
          have j1 := blk_cell HB5.out 1
          have ha2 : (if isT [44] r = true then subsL k1 (acc ++ [(⟨nm, (⟨#[]⟩ : ByteArray)⟩ : SS)]) r.tail else some (.ok (acc ++ [(⟨nm, (⟨#[]⟩ : ByteArray)⟩ : SS)], r))) = some res := by
            have := HA1.out
            rw [HSUB.out] at this
            exact this
          have HA2 := Aside0.mk ha2
          clear ha2 HA1 HSUB
          go_wp2_with (first | ((with_reducible refine gate_builtin (b := .append) (xs := #[.tmp 13, .tmp 15]) rfl ?_); (try (refine gate_guard (by rfl) ?_; dsimp only)); at_builtin; go_must (refine Kd.R_append k62 (w0 := w5) w.heap.size rfl (.tmp 13) (.tmp 15) 54 62 (.agg #[(.string ⟨#[]⟩), (.string ⟨#[]⟩)]) 32 rfl Tryd.underlying54 info62 rfl (by decide) (by omega) _ acc (⟨nm, (⟨#[]⟩ : ByteArray)⟩ : SS) [.string nm, .string (⟨#[]⟩ : ByteArray)] (fun k => b < k) (fun _ => False) rfl rfl ?bP (fun _ hk => hk.elim) ?bF ?bO ?bB ?bS ?bL ?_); (case bP => exact k62_mkM _ _ _ (⟨nm, (⟨#[]⟩ : ByteArray)⟩ : SS)); (case bF => exact (fun k hk => by have := HF5.out.size; have := HL.out; omega)); (case bO => exact Kd.R_mono HO5.out (fun k hk => hk.1)); (case bB => exact Below.refl _ _); (case bS => exact HF5.out.size); (case bL => have := HSM.out; have := HLN.out; omega); intro v6 w6 ho6 hb6 hg6 hat6; have HO6 := Aside0.mk ho6; have HB6 := Aside0.mk hb6; clear ho6 hb6 hg6 hat6))
          have HX6 : Aside0 (Sx w0 w6 b g r d) := ⟨HX5'.out.belowB HB6.out HL.out.1 HL.out.2.1 HL.out.2.2.2⟩
          have HF6 : Aside0 (Fr b w.heap.size w w6) := ⟨HF5.out.trans (Fr.below_ HB6.out)⟩
          refine (pass_calls HX6.out ⟨#[44]⟩ [44] rfl (by decide)).mono ?_
          rintro e w7 ⟨rfl, hx, hf⟩
          have HF7 := Aside0.mk (fr_then HF6.out hf)
          have HO7 := Aside0.mk (row_fr HO6.out hf)
          cases hcm : isT [44] r with
          | true =>
            have ha3 := HA2.out
            rw [if_pos hcm] at ha3
            have HA3 := Aside0.mk ha3
            have HX7 : Aside0 (Sx w0 w7 b g r.tail d) := ⟨by unfold goT at hx; rwa [if_pos hcm] at hx⟩
            have hl3 := isT_len hcm
            have HS7 : Aside0 ((acc ++ [(⟨nm, (⟨#[]⟩ : ByteArray)⟩ : SS)]).length + r.tail.length ≤ 4096) := ⟨by have := HSM.out; have := HLR.out; rw [List.length_append]; simp only [List.length_cons, List.length_nil]; omega⟩
            clear hx hf hcm ha3 hl3 HA2 j0 j1
            go_wp2
            go_roundg k1
            case measure => omega
            case rel => exact ⟨_, _, HA3, HO7, HX7, HF7, HS7⟩
          | false =>
            have ha3 := HA2.out
            rw [if_neg (by rw [hcm]; decide)] at ha3
            obtain rfl := Option.some.inj ha3
            have HX7 : Aside0 (Sx w0 w7 b g r d) := ⟨by unfold goT at hx; rwa [if_neg (by rw [hcm]; decide)] at hx⟩
            clear hx hf hcm ha3 HA2 j0 j1
            go_wp2
            go_ret
            exact ⟨_, rfl, HO7.out, HX7.out, HF7.out⟩
        | true =>
          have HX5' : Aside0 (Sx w0 w5 b g r.tail d) := ⟨by have := HX5.out; unfold goT at this; rwa [if_pos hh] at this⟩
          have hlh := isT_len hh
          have HLH := Aside0.mk hlh
          have HH := Aside0.mk hh
          clear hh HX5 hlh
          cases hn2 : nameT r.tail with
          | error er =>
            obtain ⟨en, p⟩ := er
            have hres : res = .error (en, p) := by
              have := HA1.out
              simp only [subT, HN.out, HH.out, hn2, bnd, if_true, Option.some.injEq] at this
              exact this.symm
            subst hres
            have HN2 := Aside0.mk hn2
            clear hn2
            go_wp2_with fail
            refine (name_calls HX5'.out).mono ?_
            intro e w8 he
            rw [HN2.out] at he
            obtain ⟨rfl, hb⟩ := he
            go_wp2
            exact ⟨rfl, rfl, hb⟩
          | ok y =>
            obtain ⟨nm2, r2⟩ := y
            have HN2 := Aside0.mk hn2
            have HSUB : Aside0 (subT ts1 = .ok (⟨nm, nm2⟩, r2)) := ⟨by simp only [subT, HN.out, HH.out, hn2, if_true]⟩
            clear hn2
            go_wp2_with fail
            refine (name_calls HX5'.out).mono ?_
            intro e w8 he
            rw [HN2.out] at he
            obtain ⟨rfl, hx8, hf8⟩ := he
            have hl := HL3.out
            have HLR : Aside0 (r2.length + 1 ≤ ts1.length) := ⟨by have := nameT_len HN2.out; have := HLH.out; have := HLN.out; omega⟩
            have HX9 : Aside0 (Sx w0 (w8.setCell ⟨q, 1, none⟩ (.string nm2)) b g r2 d) := ⟨hx8.set (by omega) (by omega) (by omega) _ _⟩
            have HF9 : Aside0 (Fr b w.heap.size w (w8.setCell ⟨q, 1, none⟩ (.string nm2))) := ⟨fr_setFar (fr_then HF5.out hf8) (by omega) _ _⟩
            have HB8 : Aside0 (w8.heap[q]? = some (.cells #[.string nm, .string ⟨#[]⟩] 62 (0, 0))) := ⟨(hf8.block q (blk_lt HB5.out) (by omega)).trans HB5.out⟩
            have HB9 : Aside0 ((w8.setCell ⟨q, 1, none⟩ (.string nm2)).heap[q]? = some (.cells #[.string nm, .string nm2] 62 (0, 0))) := ⟨by simpa using blk_set HB8.out 1 (.string nm2)⟩
            have HO9 : Aside0 (k62.R 62 (w8.setCell ⟨q, 1, none⟩ (.string nm2)) w.heap.size (fun k => b < k ∧ k < q) _ acc) := ⟨Kd.R_far (Kd.R_step HO5.out (fun k ho hk => hf8.block k hk (by omega))) (p := ⟨q, 1, none⟩) (fun k hk => by show k ≠ q; omega) _⟩
            have f1 := blk_frozen HB8.out 1
            have k1' := blk_cell HB8.out 1
            clear hx8 hf8 hl HX5' HF5 HB5 HO5
            go_upto_region 5 with (fail)
            obtain ⟨w9, hw9⟩ : ∃ w9, w8.setCell ⟨q, 1, none⟩ (.string nm2) = w9 := ⟨_, rfl⟩
            rw [hw9] at HX9 HF9 HB9 HO9 ⊢
            clear hw9 f1 k1' HB8
            have j0 := blk_cell HB9.out 0
            have j1 := blk_cell HB9.out 1
            have ha2 : (if isT [44] r2 = true then subsL k1 (acc ++ [(⟨nm, nm2⟩ : SS)]) r2.tail else some (.ok (acc ++ [(⟨nm, nm2⟩ : SS)], r2))) = some res := by
              have := HA1.out
              rw [HSUB.out] at this
              exact this
            have HA2 := Aside0.mk ha2
            clear ha2 HA1 HSUB
            go_wp2_with (first | ((with_reducible refine gate_builtin (b := .append) (xs := #[.tmp 13, .tmp 15]) rfl ?_); (try (refine gate_guard (by rfl) ?_; dsimp only)); at_builtin; go_must (refine Kd.R_append k62 (w0 := w9) w.heap.size rfl (.tmp 13) (.tmp 15) 54 62 (.agg #[(.string ⟨#[]⟩), (.string ⟨#[]⟩)]) 32 rfl Tryd.underlying54 info62 rfl (by decide) (by omega) _ acc (⟨nm, nm2⟩ : SS) [.string nm, .string nm2] (fun k => b < k) (fun _ => False) rfl rfl ?bP (fun _ hk => hk.elim) ?bF ?bO ?bB ?bS ?bL ?_); (case bP => exact k62_mkM _ _ _ (⟨nm, nm2⟩ : SS)); (case bF => exact (fun k hk => by have := HF9.out.size; have := HL.out; omega)); (case bO => exact Kd.R_mono HO9.out (fun k hk => hk.1)); (case bB => exact Below.refl _ _); (case bS => exact HF9.out.size); (case bL => have := HSM.out; have := HLN.out; omega); intro v6 w6 ho6 hb6 hg6 hat6; have HO6 := Aside0.mk ho6; have HB6 := Aside0.mk hb6; clear ho6 hb6 hg6 hat6))
            have HX6 : Aside0 (Sx w0 w6 b g r2 d) := ⟨HX9.out.belowB HB6.out HL.out.1 HL.out.2.1 HL.out.2.2.2⟩
            have HF6 : Aside0 (Fr b w.heap.size w w6) := ⟨HF9.out.trans (Fr.below_ HB6.out)⟩
            refine (pass_calls HX6.out ⟨#[44]⟩ [44] rfl (by decide)).mono ?_
            rintro e w7 ⟨rfl, hx, hf⟩
            have HF7 := Aside0.mk (fr_then HF6.out hf)
            have HO7 := Aside0.mk (row_fr HO6.out hf)
            cases hcm : isT [44] r2 with
            | true =>
              have ha3 := HA2.out
              rw [if_pos hcm] at ha3
              have HA3 := Aside0.mk ha3
              have HX7 : Aside0 (Sx w0 w7 b g r2.tail d) := ⟨by unfold goT at hx; rwa [if_pos hcm] at hx⟩
              have hl3 := isT_len hcm
              have HS7 : Aside0 ((acc ++ [(⟨nm, nm2⟩ : SS)]).length + r2.tail.length ≤ 4096) := ⟨by have := HSM.out; have := HLR.out; rw [List.length_append]; simp only [List.length_cons, List.length_nil]; omega⟩
              clear hx hf hcm ha3 hl3 HA2 j0 j1
              go_wp2
              go_roundg k1
              case measure => omega
              case rel => exact ⟨_, _, HA3, HO7, HX7, HF7, HS7⟩
            | false =>
              have ha3 := HA2.out
              rw [if_neg (by rw [hcm]; decide)] at ha3
              obtain rfl := Option.some.inj ha3
              have HX7 : Aside0 (Sx w0 w7 b g r2 d) := ⟨by unfold goT at hx; rwa [if_neg (by rw [hcm]; decide)] at hx⟩
              clear hx hf hcm ha3 HA2 j0 j1
              go_wp2
              go_ret
              exact ⟨_, rfl, HO7.out, HX7.out, HF7.out⟩
end Go.Proofs.YtkgnhghaiopgcaaDoor.Pw
