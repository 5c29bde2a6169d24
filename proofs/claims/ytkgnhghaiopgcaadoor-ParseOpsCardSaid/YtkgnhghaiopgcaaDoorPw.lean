/- The walks of the reader of package parse: what is next, passing it by, a name, and the panic that ends the work; no condition. -/
import Derived.Test.YtkgnhghaiopgcaaDoorPs
import Derived.Defers
import Derived.Recover
import Derived.WalkLawsBesides
set_option linter.unusedVariables false
set_option linter.unusedSimpArgs false
namespace Go.Proofs.YtkgnhghaiopgcaaDoor.Pw
open Go.RowKit Go.Proofs.YtkgnhghaiopgcaaDoorW.PrintWords Go.Proofs.YtkgnhghaiopgcaaDoorW.PrintLast Go.Proofs.YtkgnhghaiopgcaaDoor.X Go.Proofs.YtkgnhghaiopgcaaDoor.Kx Go.Proofs.YtkgnhghaiopgcaaDoor.Gl Go.Proofs.YtkgnhghaiopgcaaDoor.GlFn Go.Proofs.YtkgnhghaiopgcaaDoor.Tk Go.Proofs.YtkgnhghaiopgcaaDoor.Ps

/-- The reader at block b: the tokens that are left, in block g. -/
structure St (w0 w : World) (b g o c : Nat) (ts : List Tok) (d : Nat) : Prop where
  hb : w0.heap.size ≤ b
  keys : Aid.KeysIn w0
  bel : Below w0.heap.size w0 w
  blk : w.heap[b]? = some (.cells #[.slice (some ⟨g, o, none⟩) ts.length c, .int .i64 d] 103 (0, 0))
  cap : ts.length ≤ c
  small : ts.length ≤ 4096
  toks : ∀ i t, ts[i]? = some t → w.cell? ⟨g, o + 3 * i, none⟩ = some (.int .i64 t.kind) ∧ w.cell? ⟨g, o + 3 * i + 1, none⟩ = some (.string (B t.text)) ∧ w.cell? ⟨g, o + 3 * i + 2, none⟩ = some (.int .i64 t.at_)
  ne : g ≠ b
  ends : EndsT ts

section
variable {w0 w w' : World} {b g o c : Nat} {ts : List Tok} {d : Nat}
theorem St.key (h : St w0 w b g o c ts d) : Aside0 (Aid.KeysIn w) := ⟨h.keys.go h.bel⟩
theorem St.lt (h : St w0 w b g o c ts d) : b < w.heap.size := blk_lt h.blk
theorem St.c0 (h : St w0 w b g o c ts d) : w.cell? ⟨b, 0, none⟩ = some (.slice (some ⟨g, o, none⟩) ts.length c) := blk_cell h.blk 0
theorem St.c1 (h : St w0 w b g o c ts d) : w.cell? ⟨b, 1, none⟩ = some (.int .i64 d) := blk_cell h.blk 1
theorem St.fz (h : St w0 w b g o c ts d) (i : Nat) : w.frozen? ⟨b, i, none⟩ = false := blk_frozen h.blk i
theorem St.glt (h : St w0 w b g o c ts d) : g < w.heap.size := by
  cases ts with
  | nil => exact absurd rfl h.ends.ne
  | cons t r => exact World.block_lt_of_cell? w ⟨g, o + 3 * 0, none⟩ (h.toks 0 t rfl).1
theorem St.drewN (h : St w0 w b g o c ts d) (n : Nat) : St w0 (w.drewN n) b g o c ts d :=
  ⟨h.hb, h.keys, pw_below_drewN h.bel n, h.blk, h.cap, h.small, h.toks, h.ne, h.ends⟩
theorem St.drawn (h : St w0 w b g o c ts d) (hd : Drawn0 w w') : St w0 w' b g o c ts d := by
  obtain ⟨n, rfl⟩ := hd.out
  exact h.drewN n
/-- What leaves the reader and the tokens alone. -/
theorem St.move (h : St w0 w b g o c ts d) (hbel : Below w0.heap.size w0 w') (h1 : w'.heap[b]? = w.heap[b]?) (h2 : w'.heap[g]? = w.heap[g]?) : St w0 w' b g o c ts d :=
  ⟨h.hb, h.keys, hbel, h1.trans h.blk, h.cap, h.small, fun i t ht => by
    obtain ⟨a1, a2, a3⟩ := h.toks i t ht
    exact ⟨(World.cell?_of_block (w := w) (a := ⟨g, _, none⟩) h2).trans a1, (World.cell?_of_block (w := w) (a := ⟨g, _, none⟩) h2).trans a2, (World.cell?_of_block (w := w) (a := ⟨g, _, none⟩) h2).trans a3⟩, h.ne, h.ends⟩
theorem St.below (h : St w0 w b g o c ts d) (hb : Below w.heap.size w w') : St w0 w' b g o c ts d :=
  h.move (h.bel.trans (hb.mono h.bel.size)) (hb.block _ h.lt) (hb.block _ h.glt)
theorem St.grown (h : St w0 w b g o c ts d) {row : Option Nat} (hg : w.grownBy w' row) (h1 : row ≠ some b) (h2 : row ≠ some g) (h3 : ∀ k, row = some k → w0.heap.size ≤ k) : St w0 w' b g o c ts d :=
  h.move (h.bel.grown hg h.bel.size h3) (hg.block _ h.lt (fun e => h1 e.symm)) (hg.block _ h.glt (fun e => h2 e.symm))
theorem St.pop {t : Tok} {r : List Tok} (h : St w0 w b g o c (t :: r) d) (hr : EndsT r) :
    St w0 (w.setCell ⟨b, 0, none⟩ (.slice (some ⟨g, o + 3, none⟩) r.length (c - 1))) b g (o + 3) (c - 1) r d := by
  refine ⟨h.hb, h.keys, h.bel.setCell h.hb _, ?_, ?_, ?_, ?_, h.ne, hr⟩
  · simpa using blk_set h.blk 0 (.slice (some ⟨g, o + 3, none⟩) r.length (c - 1))
  · have := h.cap; simp only [List.length_cons] at this; omega
  · have := h.small; simp only [List.length_cons] at this; omega
  · intro i t' ht
    have hne : (⟨b, 0, none⟩ : Addr).block ≠ g := fun e => h.ne e.symm
    have hb2 : (w.setCell ⟨b, 0, none⟩ (.slice (some ⟨g, o + 3, none⟩) r.length (c - 1))).heap[g]? = w.heap[g]? := Below.heap_setCell w ⟨b, 0, none⟩ _ g h.ne
    obtain ⟨a1, a2, a3⟩ := h.toks (i + 1) t' ht
    rw [show o + 3 + 3 * i = o + 3 * (i + 1) by omega]
    exact ⟨(World.cell?_of_block (w := w) (a := ⟨g, _, none⟩) hb2).trans a1, (World.cell?_of_block (w := w) (a := ⟨g, _, none⟩) hb2).trans a2, (World.cell?_of_block (w := w) (a := ⟨g, _, none⟩) hb2).trans a3⟩
theorem St.deep (h : St w0 w b g o c ts d) (e : Nat) : St w0 (w.setCell ⟨b, 1, none⟩ (.int .i64 e)) b g o c ts e := by
  have hb2 : (w.setCell ⟨b, 1, none⟩ (.int .i64 e)).heap[g]? = w.heap[g]? := Below.heap_setCell w ⟨b, 1, none⟩ _ g h.ne
  refine ⟨h.hb, h.keys, h.bel.setCell h.hb _, by simpa using blk_set h.blk 1 (.int .i64 e), h.cap, h.small, ?_, h.ne, h.ends⟩
  intro i t ht
  obtain ⟨a1, a2, a3⟩ := h.toks i t ht
  exact ⟨(World.cell?_of_block (w := w) (a := ⟨g, _, none⟩) hb2).trans a1, (World.cell?_of_block (w := w) (a := ⟨g, _, none⟩) hb2).trans a2, (World.cell?_of_block (w := w) (a := ⟨g, _, none⟩) hb2).trans a3⟩
end

/-- The reader, wherever its tokens lie in their block. -/
def Sx (w0 w : World) (b g : Nat) (ts : List Tok) (d : Nat) : Prop := ∃ o c, St w0 w b g o c ts d
def fault (e : Int) (p : Nat) : Value := .iface 99 (.agg #[.int .i64 e, .int .i64 p])
/-- How a function of the reader ends: with what it tells, or with the panic. -/
def EndX {α : Type} (x : Except Er α) (ok : α → Ending → World → Prop) (w0 : World) (e : Ending) (w' : World) : Prop :=
  match x with
  | .ok a => ok a e w'
  | .error (n, p) => e = .panicked [{ v := fault n p, recovered := false }] ∧ Below w0.heap.size w0 w'

theorem B_list (l : List UInt8) : (B l).toList = l := by rw [ByteArray.toList_eq]; rfl
theorem Key_is (s : ByteArray) : token_Key.f s = some (TkKey.key (L s)) := TkKey.Key_f s

set_option maxHeartbeats 1000000 in
theorem is_calls {w0 w : World} {b g o c : Nat} {ts : List Tok} {d : Nat} (h : St w0 w b g o c ts d) (s : ByteArray) (sl : List UInt8) (hs : L s = sl) :
    Calls Tryd.prog 121 #[.pointer (some ⟨b, 0, none⟩), .string s] w fun e w' => e = .returned (.bool (isT sl ts)) ∧ Drawn0 w w' := by
  subst hs
  have hts : s.toList = L s := ByteArray.toList_eq s
  cases ts with
  | nil => exact absurd rfl h.ends.ne
  | cons t r =>
    have q0 := h.c0
    obtain ⟨q1, q2, q3⟩ := h.toks 0 t rfl
    have HK := h.key
    simp only [Nat.mul_zero, Nat.add_zero] at q1 q2 q3
    have hB := B_list t.text
    obtain ⟨u, hu⟩ : ∃ u, B t.text = u := ⟨_, rfl⟩
    rw [hu] at q2 hB
    have p1 : decide ((0 : Int) < (((t :: r).length : Nat) : Int)) = true := decide_eq_true (by simp only [List.length_cons]; omega)
    have p2 : ((0 : Int) < (((t :: r).length : Nat) : Int)) = True := eq_true (by simp only [List.length_cons]; omega)
    have p3 : decide (0 < (t :: r).length) = true := decide_eq_true (by simp)
    have p4 : 0 < (t :: r).length := by simp
    generalize (t :: r).length = n at q0 p1 p2 p3 p4
    by_cases e1 : t.text = L s
    · have t1 : (u.toList == s.toList) = true := by rw [beq_iff_eq, hB, hts, e1]
      by_cases e2 : t.kind = 2
      · have t2 : (t.kind == 2) = true := beq_iff_eq.mpr e2
        have hr : isT (L s) (t :: r) = true := by simp [isT, e1, e2]
        have HR := Aside0.mk hr
        rw [hr]
        clear hr e1 e2 hu hB hts
        go_enter Tryd.func121, Tryd.ntmps121
        go_wp2
        go_ret
        exact ⟨rfl, Drawn0.refl _⟩
      · have t2 : (t.kind == 2) = false := beq_eq_false_iff_ne.mpr e2
        have hr : isT (L s) (t :: r) = TkKey.key (L s) := by simp [isT, e1, e2]
        rw [hr]
        clear hr e1 e2 hu hB hts
        obtain ⟨kk, hkk⟩ : ∃ kk, TkKey.key (L s) = kk := ⟨_, rfl⟩
        have HKK : Aside0 (token_Key.f s = some kk) := ⟨by rw [Key_is, hkk]⟩
        rw [hkk]
        clear hkk
        go_enter Tryd.func121, Tryd.ntmps121
        go_wp2_with fail
        refine (token_Key.calls s kk _ HK HKK.out).mono ?_
        rintro e w' ⟨rfl, hd⟩
        go_wp2
        go_ret
        exact ⟨rfl, hd⟩
    · have t1 : (u.toList == s.toList) = false := by rw [beq_eq_false_iff_ne, hB, hts]; exact e1
      have hr : isT (L s) (t :: r) = false := by simp [isT, e1]
      rw [hr]
      clear hr e1 hu hB hts
      go_enter Tryd.func121, Tryd.ntmps121
      go_wp2
      go_ret
      exact ⟨rfl, Drawn0.refl _⟩

set_option maxHeartbeats 1000000 in
theorem pass_calls {w0 w : World} {b g : Nat} {ts : List Tok} {d : Nat} (h : Sx w0 w b g ts d) (s : ByteArray) (sl : List UInt8) (hs : L s = sl) (hne : sl ≠ []) :
    Calls Tryd.prog 99 #[.pointer (some ⟨b, 0, none⟩), .string s] w fun e w' => e = .returned (.bool (isT sl ts)) ∧ Sx w0 w' b g (goT sl ts) d ∧ Fr b w.heap.size w w' := by
  obtain ⟨o, c, h⟩ := h
  have H := Aside0.mk h
  have HS := Aside0.mk hs
  cases hi : isT sl ts with
  | false =>
    have HI := Aside0.mk hi
    clear hi h hs
    go_enter Tryd.func99, Tryd.ntmps99
    go_wp2_with fail
    refine (is_calls H.out s sl HS.out).mono ?_
    rintro e w1 ⟨rfl, hd⟩
    rw [HI.out]
    go_wp2
    go_ret
    obtain ⟨n, rfl⟩ := hd.out
    exact ⟨rfl, ⟨o, c, by unfold goT; rw [if_neg (by rw [HI.out]; decide)]; exact H.out.drewN n⟩, (Fr.refl _ _ _).drewN n⟩
  | true =>
    have HI := Aside0.mk hi
    cases ts with
    | nil => exact absurd hi (by simp [isT])
    | cons t r =>
      have hr : EndsT r := isT_tail hne hi h.ends
      have HR := Aside0.mk hr
      have hc := h.cap
      have hc2 : 1 ≤ r.length := by
        cases r with
        | nil => exact absurd rfl hr.ne
        | cons _ _ => simp
      simp only [List.length_cons] at hc
      clear hi h hs hr
      go_enter Tryd.func99, Tryd.ntmps99
      go_wp2_with fail
      refine (is_calls H.out s sl HS.out).mono ?_
      rintro e w1 ⟨rfl, hd⟩
      rw [HI.out]
      obtain ⟨n, rfl⟩ := hd.out
      have q0 := H.out.c0
      have f0 := H.out.fz 0
      clear hd
      simp only [List.length_cons] at q0
      go_wp2
      go_ret
      exact ⟨rfl, ⟨o + 3, c - 1, by unfold goT; rw [if_pos HI.out]; exact (H.out.drewN n).pop HR.out⟩, ((Fr.refl _ _ _).drewN n).set _ _⟩

set_option maxHeartbeats 1000000 in
theorem fail_calls {w0 w : World} {b g : Nat} {ts : List Tok} {d : Nat} (h : Sx w0 w b g ts d) (n : Int) :
    Calls Tryd.prog 103 #[.pointer (some ⟨b, 0, none⟩), .int .i64 n] w fun e w' => e = .panicked [{ v := fault n (atT ts), recovered := false }] ∧ Below w0.heap.size w0 w' := by
  obtain ⟨o, c, h⟩ := h
  cases ts with
  | nil => exact absurd rfl h.ends.ne
  | cons t r =>
    have q0 := h.c0
    obtain ⟨q1, q2, q3⟩ := h.toks 0 t rfl
    have HB := Aside0.mk h.bel
    simp only [Nat.mul_zero, Nat.add_zero] at q1 q2 q3
    have p1 : decide ((0 : Int) < (((t :: r).length : Nat) : Int)) = true := decide_eq_true (by simp only [List.length_cons]; omega)
    have p2 : ((0 : Int) < (((t :: r).length : Nat) : Int)) = True := eq_true (by simp only [List.length_cons]; omega)
    have p4 : 0 < (t :: r).length := by simp
    unfold fault atT
    clear h
    generalize (t :: r).length = m at q0 p1 p2 p4
    go_enter Tryd.func103, Tryd.ntmps103
    go_wp2
    exact ⟨rfl, rfl, HB.out⟩

set_option maxHeartbeats 1000000 in
theorem need_calls {w0 w : World} {b g : Nat} {ts : List Tok} {d : Nat} (h : Sx w0 w b g ts d) (s : ByteArray) (sl : List UInt8) (hs : L s = sl) (hne : sl ≠ []) :
    Calls Tryd.prog 101 #[.pointer (some ⟨b, 0, none⟩), .string s] w
      (EndX (needT sl ts) (fun r e w' => e = .returned (.tuple #[]) ∧ Sx w0 w' b g r d ∧ Fr b w.heap.size w w') w0) := by
  have HX := Aside0.mk h
  have HP := pass_calls h s sl hs hne
  cases hi : isT sl ts with
  | true =>
    rw [hi] at HP
    have e1 : needT sl ts = .ok (goT sl ts) := by unfold needT goT; rw [if_pos hi, if_pos hi]
    rw [e1]
    have HC := Aside0.mk HP
    clear HP hi e1 h hs
    go_enter Tryd.func101, Tryd.ntmps101
    go_wp2_with fail
    refine HC.out.mono ?_
    rintro e w1 ⟨rfl, hx, hf⟩
    go_wp2
    go_end0
    exact ⟨rfl, hx, hf⟩
  | false =>
    rw [hi] at HP
    have e1 : needT sl ts = .error (30, atT ts) := by unfold needT; rw [if_neg (by rw [hi]; decide)]
    have e2 : goT sl ts = ts := by unfold goT; rw [if_neg (by rw [hi]; decide)]
    rw [e1]
    rw [e2] at HP
    have HC := Aside0.mk HP
    clear HP hi e1 e2 h hs
    go_enter Tryd.func101, Tryd.ntmps101
    go_wp2_with fail
    refine HC.out.mono ?_
    rintro e w1 ⟨rfl, hx, hf⟩
    have HX1 := Aside0.mk hx
    clear hx
    go_wp2_with fail
    refine (fail_calls HX1.out 30).mono ?_
    rintro e w2 ⟨rfl, hb⟩
    go_wp2
    exact ⟨rfl, rfl, hb⟩

theorem St.alloc {w0 w : World} {b g o c : Nat} {ts : List Tok} {d : Nat} (h : St w0 w b g o c ts d) (x : Obj) : St w0 (w.alloc x) b g o c ts d := h.below (below_alloc (Below.refl _ _) x)

set_option maxHeartbeats 2000000 in
theorem name_calls {w0 w : World} {b g : Nat} {ts : List Tok} {d : Nat} (h : Sx w0 w b g ts d) :
    Calls Tryd.prog 100 #[.pointer (some ⟨b, 0, none⟩)] w
      (EndX (nameT ts) (fun x e w' => e = .returned (.string x.1) ∧ Sx w0 w' b g x.2 d ∧ Fr b w.heap.size w w') w0) := by
  obtain ⟨o, c, h⟩ := h
  cases ts with
  | nil => exact absurd rfl h.ends.ne
  | cons t r =>
    have q0 := h.c0
    obtain ⟨q1, q2, q3⟩ := h.toks 0 t rfl
    simp only [Nat.mul_zero, Nat.add_zero] at q1 q2 q3
    obtain ⟨u, hu⟩ : ∃ u, B t.text = u := ⟨_, rfl⟩
    have hLu : L u = t.text := by rw [← hu]; rfl
    have HK : Aside0 (token_Key.f u = some (TkKey.key t.text)) := ⟨by rw [Key_is, hLu]⟩
    rw [hu] at q2
    have H := Aside0.mk h
    have p1 : decide ((0 : Int) < (((t :: r).length : Nat) : Int)) = true := decide_eq_true (by simp only [List.length_cons]; omega)
    have p2 : ((0 : Int) < (((t :: r).length : Nat) : Int)) = True := eq_true (by simp only [List.length_cons]; omega)
    have p4 : 0 < (t :: r).length := by simp
    by_cases e1 : t.kind = 1
    · have t1 : (t.kind != 1) = false := by rw [bne_eq_false_iff_eq]; exact e1
      have t2 : (t.kind == 1) = true := by rw [beq_iff_eq]; exact e1
      cases hk : TkKey.key t.text with
      | true =>
        have hr : nameT (t :: r) = .error (30, atT (t :: r)) := by simp [nameT, atT, hk]
        rw [hr]
        rw [hk] at HK
        clear hr hk e1 hLu hu h
        generalize hm : (t :: r).length = m at q0 p1 p2 p4
        clear hm
        go_enter Tryd.func100, Tryd.ntmps100
        go_wp2_with fail
        refine (token_Key.calls u true _ (H.out.alloc _).key HK.out).mono ?_
        rintro e w2 ⟨rfl, hd⟩
        have H2 := Aside0.mk ((H.out.alloc (.cells #[.int .i64 t.kind, .string u, .int .i64 t.at_] 32)).drawn hd)
        clear hd
        go_wp2_with fail
        refine (fail_calls ⟨o, c, H2.out⟩ 30).mono ?_
        rintro e w3 ⟨rfl, hb⟩
        go_wp2
        exact ⟨rfl, rfl, hb⟩
      | false =>
        have hr : nameT (t :: r) = .ok (u, r) := by simp [nameT, e1, hk, hu]
        rw [hr]
        rw [hk] at HK
        have hE : EndsT r := EndsT.tail h.ends (.inl (by rw [e1]; decide))
        have HE := Aside0.mk hE
        have hc := h.cap
        have hc2 : 1 ≤ r.length := by
          cases r with
          | nil => exact absurd rfl hE.ne
          | cons _ _ => simp
        simp only [List.length_cons] at hc
        clear hr hk e1 hLu hu h hE
        simp only [List.length_cons] at q0 p1 p2 p4
        go_enter Tryd.func100, Tryd.ntmps100
        go_wp2_with fail
        refine (token_Key.calls u false _ (H.out.alloc _).key HK.out).mono ?_
        rintro e w2 ⟨rfl, hd⟩
        obtain ⟨n, rfl⟩ := hd.out
        have f0 := H.out.fz 0
        have hlt := H.out.lt
        clear hd
        go_wp2
        go_ret
        exact ⟨rfl, ⟨o + 3, c - 1, ((H.out.alloc _).drewN n).pop HE.out⟩, (((Fr.refl b w.heap.size w).alloc (Nat.le_refl _) _).drewN n).set _ _⟩
    · have t1 : (t.kind != 1) = true := by rw [bne_iff_ne]; exact e1
      have t2 : (t.kind == 1) = false := by rw [beq_eq_false_iff_ne]; exact e1
      have hr : nameT (t :: r) = .error (30, atT (t :: r)) := by simp [nameT, atT, e1]
      rw [hr]
      clear hr e1 hLu hu h HK
      generalize hm : (t :: r).length = m at q0 p1 p2 p4
      clear hm
      go_enter Tryd.func100, Tryd.ntmps100
      go_wp2_with fail
      refine (fail_calls ⟨o, c, H.out.alloc _⟩ 30).mono ?_
      rintro e w3 ⟨rfl, hb⟩
      go_wp2
      exact ⟨rfl, rfl, hb⟩

end Go.Proofs.YtkgnhghaiopgcaaDoor.Pw
