/- The walks of doormanref07's reader, first part: Key, fail, is, need, name, over the reader's state; no condition. -/
import Derived.Test.YtkgnhghaiopgcaaDoorRq
import Derived.Test.YtkgnhghaiopgcaaDoorPw
import Derived.Deep.QuietTactic
import Derived.BigQuiet
set_option linter.unusedVariables false
set_option linter.unusedSimpArgs false
namespace Go.Proofs.YtkgnhghaiopgcaaDoor.Rw
open Go.RowKit Go.Maps Go.Proofs.YtkgnhghaiopgcaaDoorW.PrintWords Go.Proofs.YtkgnhghaiopgcaaDoorW.PrintLast Go.Proofs.YtkgnhghaiopgcaaDoor.X Go.Proofs.YtkgnhghaiopgcaaDoor.Kx Go.Proofs.YtkgnhghaiopgcaaDoor.Gl Go.Proofs.YtkgnhghaiopgcaaDoor.GlFn Go.Proofs.YtkgnhghaiopgcaaDoor.Tk Go.Proofs.YtkgnhghaiopgcaaDoor.Ps Go.Proofs.YtkgnhghaiopgcaaDoor.Pw Go.Proofs.YtkgnhghaiopgcaaDoor.Of Go.Proofs.YtkgnhghaiopgcaaDoor.Rq

theorem al1 (w : World) (cs : Array Value) (t : TypeId) : ∃ w1, w.alloc (.cells cs t) = w1 ∧ w1.heap[w.heap.size]? = some (.cells cs t (0, 0)) ∧ Below w.heap.size w w1 ∧ w1.heap.size = w.heap.size + 1 ∧ ∀ (k : Nat) (o : Obj), w.heap[k]? = some o → w1.heap[k]? = some o :=
  ⟨_, rfl, (Go.MapKept.heap_alloc w _).1, below_alloc (Below.refl _ _) _, by simp, fun k o h => blk_alloc h _⟩
theorem bel2 {w w1 w2 : World} (h : Below w.heap.size w w1) (k : Below w1.heap.size w1 w2) : Below w.heap.size w w2 := h.trans (k.mono h.size)
abbrev RTok := S33
def toK (t : Tok) : RTok := ⟨t.kind, B t.text, t.at_⟩
/-- The tokens, as they lie. -/
structure Env (w0 : World) (A : Option Addr) (TS : List Tok) : Prop where
  hC : Kd.C k33 w0 A TS.length (TS.map toK)
  ends : EndsT TS
  small : TS.length ≤ 4096
def SgAt (TS : List Tok) (i : Nat) (e a : Int) : Sg → Prop
  | .ok ts => ts = TS.drop i ∧ e = 0 ∧ a = 0
  | .bad en p => e = en ∧ en ≠ 0 ∧ a = p
def Blk (w : World) (A : Option Addr) (c n b i : Nat) (e a : Int) : Prop := w.heap[b]? = some (.cells #[.slice A n c, .int .i64 i, .int .i64 e, .int .i64 a] 107 (0, 0))
/-- The reader at block b. -/
def PS (w0 : World) (A : Option Addr) (c : Nat) (TS : List Tok) (b : Nat) (w : World) (σ : Sg) : Prop :=
  Below w0.heap.size w0 w ∧ w0.heap.size ≤ b ∧ ∃ i e a, Blk w A c TS.length b i e a ∧ i < TS.length ∧ SgAt TS i e a σ
theorem ends_drop : ∀ {TS : List Tok} {i : Nat}, EndsT TS → i < TS.length → EndsT (TS.drop i)
  | [], _, h, _ => absurd h (by simp [EndsT])
  | t :: r, 0, h, _ => h
  | [t], i + 1, h, hi => by simp at hi
  | t :: u :: r, i + 1, h, hi => ends_drop (TS := u :: r) (i := i) h (by simpa using hi)
theorem ends_more {TS : List Tok} {i : Nat} (hE : EndsT TS) (hi : i < TS.length) {t : Tok} (ht : TS.drop i = t :: TS.drop (i + 1)) (hk : t.kind ≠ 3 ∨ t.text ≠ []) : i + 1 < TS.length := by
  have h := ends_drop hE hi
  rw [ht] at h
  have h2 := EndsT.tail h hk
  by_cases hc : i + 1 < TS.length
  · exact hc
  · rw [List.drop_eq_nil_of_le (by omega)] at h2
    exact absurd rfl h2.ne
section
variable {w0 w w' : World} {A : Option Addr} {c : Nat} {TS : List Tok} {b : Nat} {σ : Sg}
theorem PS.lt (h : PS w0 A c TS b w σ) : b < w.heap.size := by
  obtain ⟨_, _, i, e, a, hb, _⟩ := h
  exact blk_lt hb
theorem PS.size (h : PS w0 A c TS b w σ) : w0.heap.size ≤ w.heap.size := h.1.size
theorem PS.below (h : PS w0 A c TS b w σ) (hb : Below w.heap.size w w') : PS w0 A c TS b w' σ := by
  obtain ⟨h1, h2, i, e, a, h3, h4, h5⟩ := h
  exact ⟨h1.trans (hb.mono h1.size), h2, i, e, a, (hb.block b (blk_lt h3)).trans h3, h4, h5⟩
/-- Blocks from the tokens' world on may turn, but not the reader's. -/
theorem PS.keep (h : PS w0 A c TS b w σ) (hb : Below w0.heap.size w0 w') (h1 : w'.heap[b]? = w.heap[b]?) : PS w0 A c TS b w' σ := by
  obtain ⟨_, h2, i, e, a, h3, h4, h5⟩ := h
  exact ⟨hb, h2, i, e, a, h1.trans h3, h4, h5⟩
/-- What is read of the reader. -/
structure Vw (w0 : World) (A : Option Addr) (c : Nat) (TS : List Tok) (b : Nat) (w : World) (σ : Sg) (ad : Addr) (i : Nat) (e a : Int) (t : Tok) : Prop where
  bel : Below w0.heap.size w0 w
  ge : w0.heap.size ≤ b
  blk : Blk w (some ad) c TS.length b i e a
  lt : i < TS.length
  tk : TS.drop i = t :: TS.drop (i + 1)
  q0 : w.cell? (ad.add (i * 3)) = some (.int .i64 t.kind)
  q1 : w.cell? ⟨(ad.add (i * 3)).block, (ad.add (i * 3)).off + 1, none⟩ = some (.string (B t.text))
  q2 : w.cell? ⟨(ad.add (i * 3)).block, (ad.add (i * 3)).off + 2, none⟩ = some (.int .i64 t.at_)
  st : SgAt TS i e a σ
theorem PS.view (E : Env w0 A TS) (h : PS w0 A c TS b w σ) : ∃ ad i e a t, A = some ad ∧ Vw w0 A c TS b w σ ad i e a t := by
  obtain ⟨h1, h2, i, e, a, h3, h4, h5⟩ := h
  obtain ⟨ad, q, r0, r1, r2⟩ := at_T33 (Kd.C_below E.hC h1) (i : Int) (by omega) (by omega)
  have hx : rd_T33 (TS.map toK) (i : Int) = toK TS[i] := by
    unfold rd_T33
    rw [Int.toNat_natCast, List.getD_eq_getElem?_getD, List.getElem?_map, List.getElem?_eq_getElem h4]
    rfl
  rw [hx, Int.toNat_natCast] at r0 r1 r2
  subst q
  exact ⟨ad, i, e, a, TS[i], rfl, h1, h2, h3, h4, List.drop_eq_getElem_cons h4, r0, r1, r2, h5⟩
theorem Blk.set1 {ad : Option Addr} {n i : Nat} {e a : Int} (h : Blk w ad c n b i e a) (j : Nat) : Blk (w.setCell ⟨b, 1, none⟩ (.int .i64 j)) ad c n b j e a := by unfold Blk; simpa using blk_set h 1 (.int .i64 j)
theorem Blk.set2 {ad : Option Addr} {n i : Nat} {e a : Int} (h : Blk w ad c n b i e a) (x : Int) : Blk (w.setCell ⟨b, 2, none⟩ (.int .i64 x)) ad c n b i x a := by unfold Blk; simpa using blk_set h 2 (.int .i64 x)
theorem Blk.set3 {ad : Option Addr} {n i : Nat} {e a : Int} (h : Blk w ad c n b i e a) (x : Int) : Blk (w.setCell ⟨b, 3, none⟩ (.int .i64 x)) ad c n b i e x := by unfold Blk; simpa using blk_set h 3 (.int .i64 x)
theorem fr_self (b : Nat) (h : Below w.heap.size w w') : Fr b w.heap.size w w' := ⟨h.os, h.tape, h.output, h.size, fun k hk _ => h.block k hk⟩
theorem fr_two {w1 : World} (h : Fr b w.heap.size w w1) (k : Fr b w1.heap.size w1 w') : Fr b w.heap.size w w' := h.trans (fr_mono k h.size)
end
theorem key_of (s : ByteArray) : TkKey.key (L s) = ((s.toList == [116, 121, 112, 101]) || ((s.toList == [114, 101, 108]) || ((s.toList == [105, 115]) || (s.toList == [116, 104, 105, 115])))) := by
  unfold TkKey.key
  rw [show L s = s.toList from (ByteArray.toList_eq s).symm, Bool.eq_iff_iff]
  simp
set_option maxHeartbeats 1000000 in
theorem Key_c (s : ByteArray) (w : World) : Calls Tryd.prog 28 #[.string s] w fun e w' => e = .returned (.bool (TkKey.key (L s))) ∧ Below w.heap.size w w' := by
  rw [key_of]
  cases g1 : (s.toList == [116, 121, 112, 101]) with
  | true => go_enter Tryd.func28, Tryd.ntmps28; go_wp2; go_ret; exact ⟨rfl, Below.refl _ _⟩
  | false =>
    cases g2 : (s.toList == [114, 101, 108]) with
    | true => go_enter Tryd.func28, Tryd.ntmps28; go_wp2; go_ret; exact ⟨rfl, Below.refl _ _⟩
    | false =>
      cases g3 : (s.toList == [105, 115]) with
      | true => go_enter Tryd.func28, Tryd.ntmps28; go_wp2; go_ret; exact ⟨rfl, Below.refl _ _⟩
      | false => go_enter Tryd.func28, Tryd.ntmps28; go_wp2; go_ret; exact ⟨rfl, Below.refl _ _⟩
section
variable {w0 w : World} {A : Option Addr} {c : Nat} {TS : List Tok} {b : Nat} {σ : Sg}
set_option maxHeartbeats 4000000 in
set_option maxRecDepth 100000 in
theorem fail_c (E : Env w0 A TS) (h : PS w0 A c TS b w σ) (n : Int) (hn : n ≠ 0) :
    Calls Tryd.prog 72 #[.pointer (some ⟨b, 0, none⟩), .int .i64 n] w fun e w' => e = .returned (.tuple #[]) ∧ PS w0 A c TS b w' (failR n σ) ∧ Fr b w.heap.size w w' := by
  have HE := Aside0.mk E
  have HP := Aside0.mk h
  obtain ⟨ad, i, e, a, t, rfl, v⟩ := h.view E
  have c0 := blk_cell v.blk 0
  have c1 := blk_cell v.blk 1
  have c2 := blk_cell v.blk 2
  have f2 := blk_frozen v.blk 2
  have V := Aside0.mk v
  have hs := v.st
  cases σ with
  | bad en p =>
    obtain ⟨rfl, h2, rfl⟩ := hs
    have k1 : (e == 0) = false := by simpa using h2
    have k2 : decide (e = 0) = false := decide_eq_false h2
    have k3 : (e = 0) = False := eq_false h2
    clear h v h2 E hn
    go_enter Tryd.func72, Tryd.ntmps72
    go_wp2
    go_end0
    exact ⟨rfl, HP.out, Fr.refl _ _ _⟩
  | ok ts =>
    obtain ⟨rfl, rfl, rfl⟩ := hs
    have HN := Aside0.mk hn
    have hB : Aside0 (Blk (w.setCell ⟨b, 2, none⟩ (.int .i64 n)) (some ad) c TS.length b i n 0) := ⟨v.blk.set2 n⟩
    have hbel : Aside0 (Below w0.heap.size w0 (w.setCell ⟨b, 2, none⟩ (.int .i64 n))) := ⟨v.bel.setCell v.ge _⟩
    have hfr : Aside0 (Fr b w.heap.size w (w.setCell ⟨b, 2, none⟩ (.int .i64 n))) := ⟨(Fr.refl b w.heap.size w).set _ _⟩
    have q2 : (w.setCell ⟨b, 2, none⟩ (.int .i64 n)).cell? ⟨(ad.add (i * 3)).block, (ad.add (i * 3)).off + 2, none⟩ = some (.int .i64 t.at_) := by
      obtain ⟨z, hz, z0, z1, z2⟩ := at_T33 (Kd.C_below HE.out.hC hbel.out) (i : Int) (by omega) (by have := v.lt; omega)
      obtain rfl := Option.some.inj hz
      have hx : rd_T33 (TS.map toK) (i : Int) = toK (TS[i]'v.lt) := by
        unfold rd_T33
        rw [Int.toNat_natCast, List.getD_eq_getElem?_getD, List.getElem?_map, List.getElem?_eq_getElem v.lt]
        rfl
      have ht : TS[i]'v.lt = t := by
        have h1 := v.tk
        rw [List.drop_eq_getElem_cons v.lt] at h1
        exact (List.cons.inj h1).1
      rw [hx, Int.toNat_natCast, ht] at z2
      exact z2
    have Q2 := Aside0.mk q2
    obtain ⟨m, hm⟩ : ∃ m, TS.length = m := ⟨_, rfl⟩
    have HM := Aside0.mk hm
    have p1 : decide ((i : Int) < (m : Int)) = true := decide_eq_true (by have := v.lt; omega)
    have p2 : ((i : Int) < (m : Int)) = True := eq_true (by have := v.lt; omega)
    have p3 : decide (i < m) = true := decide_eq_true (by have := v.lt; omega)
    have p4 : (0 ≤ (i : Int)) = True := eq_true (by omega)
    have p5 : decide ((i : Int) < 0) = false := decide_eq_false (by omega)
    have p6 : ((i : Int) < 0) = False := eq_false (by omega)
    have p7 : decide (0 ≤ (i : Int)) = true := decide_eq_true (by omega)
    rw [hm] at c0 hB
    clear h v E hn q2 hm HP
    go_enter Tryd.func72, Tryd.ntmps72
    go_upto_region 2 with (fail)
    obtain ⟨w1, hw1⟩ : ∃ w1, w.setCell ⟨b, 2, none⟩ (.int .i64 n) = w1 := ⟨_, rfl⟩
    rw [hw1] at hB hbel hfr Q2 ⊢
    have HBd : Aside0 (Below w0.heap.size w0 w1.drew) := ⟨hbel.out.drew⟩
    have HFd : Aside0 (Fr b w.heap.size w w1.drew) := ⟨hfr.out.drew⟩
    have HPd : Aside0 (w1.drew.heap[b]? = some (.cells #[.slice (some ad) m c, .int .i64 i, .int .i64 n, .int .i64 0] 107 (0, 0))) := ⟨hB.out⟩
    have Qd : Aside0 (w1.drew.cell? ⟨(ad.add (i * 3)).block, (ad.add (i * 3)).off + 2, none⟩ = some (.int .i64 t.at_)) := ⟨Q2.out⟩
    clear hw1 hB hbel hfr Q2 c0 c1 c2 f2
    refine start_ (n := 15) (S := fun w' => w'.cell? ⟨b, 0, none⟩ = some (.slice (some ad) m c) ∧ w'.cell? ⟨b, 1, none⟩ = some (.int .i64 i) ∧ w'.cell? ⟨(ad.add (i * 3)).block, (ad.add (i * 3)).off + 2, none⟩ = some (.int .i64 t.at_)) (ds := [14]) #[false, false, false, false, false, false, false, false, false, false, false, false, false, false, false] (by kernel_rfl) rfl rfl ⟨blk_cell HPd.out 0, blk_cell HPd.out 1, Qd.out⟩ (fun hHeld => ?_)
    generalize w1.drew = w7 at HBd HFd HPd Qd hHeld ⊢
    have fz3 := blk_frozen HPd.out 3
    have ce3 := blk_cell HPd.out 3
    refine pure_ (i := 0) (N := some 13) (v := ?_) (a' := ?_) #[true, false, false, false, false, false, false, false, false, false, false, false, false, false, false] rfl rfl (by kernel_rfl) (fun _ _ _ h => h) (Or.inl ⟨by rfl, ?_⟩) ?_ ?_
    rotate_left
    · intro w'
      go_simp
      with_reducible rfl
    rotate_left
    · simp only [Act.put, List.setIfInBounds_toArray, List.set_cons_zero, List.set_cons_succ, i64_w, i32_w]
      rfl
    refine pure_ (i := 1) (N := some 14) (v := ?_) (a' := ?_) #[true, true, false, false, false, false, false, false, false, false, false, false, false, false, false] rfl rfl (by kernel_rfl) (fun _ _ _ h => h) (Or.inl ⟨by rfl, ?_⟩) ?_ ?_
    rotate_left
    · intro w'
      go_simp
      with_reducible rfl
    rotate_left
    · simp only [Act.put, List.setIfInBounds_toArray, List.set_cons_zero, List.set_cons_succ, i64_w, i32_w]
      rfl
    refine pure_ (i := 2) (N := some 15) (v := ?_) (a' := ?_) #[true, true, true, false, false, false, false, false, false, false, false, false, false, false, false] rfl rfl (by kernel_rfl) (fun _ _ _ h => h) (Or.inl ⟨by rfl, ?_⟩) ?_ ?_
    rotate_left
    · intro w'
      go_simp
      with_reducible rfl
    rotate_left
    · simp only [Act.put, List.setIfInBounds_toArray, List.set_cons_zero, List.set_cons_succ, i64_w, i32_w]
      rfl
    refine pure_ (i := 3) (N := some 16) (v := ?_) (a' := ?_) #[true, true, true, true, false, false, false, false, false, false, false, false, false, false, false] rfl rfl (by kernel_rfl) (fun _ _ _ h => h) (Or.inl ⟨by rfl, ?_⟩) ?_ ?_
    rotate_left
    · intro w'
      go_simp
      with_reducible rfl
    rotate_left
    · simp only [Act.put, List.setIfInBounds_toArray, List.set_cons_zero, List.set_cons_succ, i64_w, i32_w]
      rfl
    refine pure_ (i := 5) (N := some 18) (v := ?_) (a' := ?_) #[true, true, true, true, false, true, false, false, false, false, false, false, false, false, false] rfl rfl (by kernel_rfl) (fun _ _ _ h => h) (Or.inl ⟨by rfl, ?_⟩) ?_ ?_
    rotate_left
    · intro w'
      go_simp
      with_reducible rfl
    rotate_left
    · simp only [Act.put, List.setIfInBounds_toArray, List.set_cons_zero, List.set_cons_succ, i64_w, i32_w]
      rfl
    refine pure_ (i := 6) (N := some 19) (v := ?_) (a' := ?_) #[true, true, true, true, false, true, true, false, false, false, false, false, false, false, false] rfl rfl (by kernel_rfl) (fun _ _ _ h => h) (Or.inl ⟨by rfl, ?_⟩) ?_ ?_
    rotate_left
    · intro w'
      go_simp
      with_reducible rfl
    rotate_left
    · simp only [Act.put, List.setIfInBounds_toArray, List.set_cons_zero, List.set_cons_succ, i64_w, i32_w]
      rfl
    refine pure_ (i := 7) (N := some 20) (v := ?_) (a' := ?_) #[true, true, true, true, false, true, true, true, false, false, false, false, false, false, false] rfl rfl (by kernel_rfl) (fun _ _ _ h => h) (Or.inl ⟨by rfl, ?_⟩) ?_ ?_
    rotate_left
    · intro w'
      go_simp
      with_reducible rfl
    rotate_left
    · simp only [Act.put, List.setIfInBounds_toArray, List.set_cons_zero, List.set_cons_succ, i64_w, i32_w]
      rfl
    refine take_ (i := 4) (N := some 17) (v := ?_) (a' := ?_) #[true, true, true, true, true, true, true, true, false, false, false, false, false, false, false] rfl rfl (by kernel_rfl) (fun _ _ _ h => h) (Or.inl ⟨by rfl, ?_⟩) hHeld ?_ ?_
    rotate_left
    · rintro w' ⟨s0, s1, s2⟩
      go_simp
      with_reducible rfl
    rotate_left
    · simp only [Act.put, List.setIfInBounds_toArray, List.set_cons_zero, List.set_cons_succ, i64_w, i32_w]
      rfl
    refine take_ (i := 8) (N := some 21) (v := ?_) (a' := ?_) #[true, true, true, true, true, true, true, true, true, false, false, false, false, false, false] rfl rfl (by kernel_rfl) (fun _ _ _ h => h) (Or.inl ⟨by rfl, ?_⟩) hHeld ?_ ?_
    rotate_left
    · rintro w' ⟨s0, s1, s2⟩
      go_simp
      with_reducible rfl
    rotate_left
    · simp only [Act.put, List.setIfInBounds_toArray, List.set_cons_zero, List.set_cons_succ, i64_w, i32_w]
      rfl
    refine pure_ (i := 9) (N := some 22) (v := ?_) (a' := ?_) #[true, true, true, true, true, true, true, true, true, true, false, false, false, false, false] rfl rfl (by kernel_rfl) (fun _ _ _ h => h) (Or.inl ⟨by rfl, ?_⟩) ?_ ?_
    rotate_left
    · intro w'
      go_simp
      with_reducible rfl
    rotate_left
    · simp only [Act.put, List.setIfInBounds_toArray, List.set_cons_zero, List.set_cons_succ, i64_w, i32_w]
      rfl
    refine pure_ (i := 10) (N := some 23) (v := ?_) (a' := ?_) #[true, true, true, true, true, true, true, true, true, true, true, false, false, false, false] rfl rfl (by kernel_rfl) (fun _ _ _ h => h) (Or.inl ⟨by rfl, ?_⟩) ?_ ?_
    rotate_left
    · intro w'
      go_simp
      with_reducible rfl
    rotate_left
    · simp only [Act.put, List.setIfInBounds_toArray, List.set_cons_zero, List.set_cons_succ, i64_w, i32_w]
      rfl
    refine take_ (i := 11) (N := some 24) (v := ?_) (a' := ?_) #[true, true, true, true, true, true, true, true, true, true, true, true, false, false, false] rfl rfl (by kernel_rfl) (fun _ _ _ h => h) (Or.inl ⟨by rfl, ?_⟩) hHeld ?_ ?_
    rotate_left
    · rintro w' ⟨s0, s1, s2⟩
      go_simp
      with_reducible rfl
    rotate_left
    · simp only [Act.put, List.setIfInBounds_toArray, List.set_cons_zero, List.set_cons_succ, i64_w, i32_w]
      rfl
    refine pure_ (i := 12) (N := some 25) (v := ?_) (a' := ?_) #[true, true, true, true, true, true, true, true, true, true, true, true, true, false, false] rfl rfl (by kernel_rfl) (fun _ _ _ h => h) (Or.inl ⟨by rfl, ?_⟩) ?_ ?_
    rotate_left
    · intro w'
      go_simp
      with_reducible rfl
    rotate_left
    · simp only [Act.put, List.setIfInBounds_toArray, List.set_cons_zero, List.set_cons_succ, i64_w, i32_w]
      rfl
    refine pure_ (i := 13) (N := some 26) (v := ?_) (a' := ?_) #[true, true, true, true, true, true, true, true, true, true, true, true, true, true, false] rfl rfl (by kernel_rfl) (fun _ _ _ h => h) (Or.inl ⟨by rfl, ?_⟩) ?_ ?_
    rotate_left
    · intro w'
      go_simp
      with_reducible rfl
    rotate_left
    · simp only [Act.put, List.setIfInBounds_toArray, List.set_cons_zero, List.set_cons_succ, i64_w, i32_w]
      rfl
    refine last_ (i := 14) (N := none) #[true, true, true, true, true, true, true, true, true, true, true, true, true, true, true] rfl rfl (by kernel_rfl) (by decide) (fun K hK => ?_)
    refine skip_ (w1 := ?_) (by rfl) rfl ?_ ?_
    rotate_left
    · go_simp
      rfl
    refine hK.out _ _ ?_
    clear hK K
    refine done_ (by kernel_rfl) ?_
    go_wp2
    go_end0
    have hr : failR n (.ok (TS.drop i)) = .bad n t.at_ := by rw [V.out.tk]; rfl
    have hB2 : Blk w7 (some ad) c m b i n 0 := HPd.out
    rw [hr]
    exact ⟨rfl, ⟨HBd.out.setCell V.out.ge _, V.out.ge, i, n, t.at_, by rw [HM.out]; exact hB2.set3 _, V.out.lt, rfl, HN.out, rfl⟩, HFd.out.set _ _⟩
set_option maxHeartbeats 4000000 in
set_option maxRecDepth 100000 in
theorem is_c (E : Env w0 A TS) (h : PS w0 A c TS b w σ) (s : ByteArray) :
    Calls Tryd.prog 68 #[.pointer (some ⟨b, 0, none⟩), .string s] w fun e w' => e = .returned (.bool (isR (L s) σ)) ∧ PS w0 A c TS b w' σ ∧ Below w.heap.size w w' := by
  have HE := Aside0.mk E
  have HP := Aside0.mk h
  obtain ⟨ad, i, e, a, t, rfl, v⟩ := h.view E
  obtain ⟨u, hu⟩ : ∃ u, B t.text = u := ⟨_, rfl⟩
  have hLu : L u = t.text := by rw [← hu]; rfl
  have HLu := Aside0.mk hLu
  have hv1 := v.q1
  rw [hu] at hv1
  have Q0 : Aside0 (w.drew.cell? (ad.add (i * 3)) = some (.int .i64 t.kind)) := ⟨v.q0⟩
  have Q1 : Aside0 (w.drew.cell? ⟨(ad.add (i * 3)).block, (ad.add (i * 3)).off + 1, none⟩ = some (.string u)) := ⟨hv1⟩
  have Q2 : Aside0 (w.drew.cell? ⟨(ad.add (i * 3)).block, (ad.add (i * 3)).off + 2, none⟩ = some (.int .i64 t.at_)) := ⟨v.q2⟩
  obtain ⟨m, hm⟩ : ∃ m, TS.length = m := ⟨_, rfl⟩
  have HM := Aside0.mk hm
  have V := Aside0.mk v
  have HPd : Aside0 (w.drew.heap[b]? = some (.cells #[.slice (some ad) m c, .int .i64 i, .int .i64 e, .int .i64 a] 107 (0, 0))) := ⟨by rw [← hm]; exact v.blk⟩
  have HSd : Aside0 (PS w0 (some ad) c TS b w.drew σ) := ⟨h.below (Below.refl _ _).drew⟩
  have HBd : Aside0 (Below w.heap.size w w.drew) := ⟨(Below.refl _ _).drew⟩
  have p1 : decide ((i : Int) < (m : Int)) = true := decide_eq_true (by have := v.lt; omega)
  have p2 : ((i : Int) < (m : Int)) = True := eq_true (by have := v.lt; omega)
  have p3 : decide (i < m) = true := decide_eq_true (by have := v.lt; omega)
  have p4 : (0 ≤ (i : Int)) = True := eq_true (by omega)
  have p5 : decide ((i : Int) < 0) = false := decide_eq_false (by omega)
  have p6 : ((i : Int) < 0) = False := eq_false (by omega)
  have p7 : decide (0 ≤ (i : Int)) = true := decide_eq_true (by omega)
  clear h v E hm hu hLu hv1 HP
  go_enter Tryd.func68, Tryd.ntmps68
  go_upto_region 1 with (fail)
  refine start_ (n := 12) (S := fun w' => w'.cell? ⟨b, 0, none⟩ = some (.slice (some ad) m c) ∧ w'.cell? ⟨b, 1, none⟩ = some (.int .i64 i) ∧ w'.cell? (ad.add (i * 3)) = some (.int .i64 t.kind) ∧ w'.cell? ⟨(ad.add (i * 3)).block, (ad.add (i * 3)).off + 1, none⟩ = some (.string u) ∧ w'.cell? ⟨(ad.add (i * 3)).block, (ad.add (i * 3)).off + 2, none⟩ = some (.int .i64 t.at_)) (ds := [11]) #[false, false, false, false, false, false, false, false, false, false, false, false] (by kernel_rfl) rfl rfl ⟨blk_cell HPd.out 0, blk_cell HPd.out 1, Q0.out, Q1.out, Q2.out⟩ (fun hHeld => ?_)
  generalize w.drew = w7 at HBd HPd HSd Q0 Q1 Q2 hHeld ⊢
  refine pure_ (i := 0) (N := some 7) (v := ?_) (a' := ?_) #[true, false, false, false, false, false, false, false, false, false, false, false] rfl rfl (by kernel_rfl) (fun _ _ _ h => h) (Or.inl ⟨by rfl, ?_⟩) ?_ ?_
  rotate_left
  · intro w'
    go_simp
    with_reducible rfl
  rotate_left
  · simp only [Act.put, List.setIfInBounds_toArray, List.set_cons_zero, List.set_cons_succ, i64_w, i32_w]
    rfl
  refine pure_ (i := 1) (N := some 8) (v := ?_) (a' := ?_) #[true, true, false, false, false, false, false, false, false, false, false, false] rfl rfl (by kernel_rfl) (fun _ _ _ h => h) (Or.inl ⟨by rfl, ?_⟩) ?_ ?_
  rotate_left
  · intro w'
    go_simp
    with_reducible rfl
  rotate_left
  · simp only [Act.put, List.setIfInBounds_toArray, List.set_cons_zero, List.set_cons_succ, i64_w, i32_w]
    rfl
  refine pure_ (i := 2) (N := some 9) (v := ?_) (a' := ?_) #[true, true, true, false, false, false, false, false, false, false, false, false] rfl rfl (by kernel_rfl) (fun _ _ _ h => h) (Or.inl ⟨by rfl, ?_⟩) ?_ ?_
  rotate_left
  · intro w'
    go_simp
    with_reducible rfl
  rotate_left
  · simp only [Act.put, List.setIfInBounds_toArray, List.set_cons_zero, List.set_cons_succ, i64_w, i32_w]
    rfl
  refine pure_ (i := 4) (N := some 11) (v := ?_) (a' := ?_) #[true, true, true, false, true, false, false, false, false, false, false, false] rfl rfl (by kernel_rfl) (fun _ _ _ h => h) (Or.inl ⟨by rfl, ?_⟩) ?_ ?_
  rotate_left
  · intro w'
    go_simp
    with_reducible rfl
  rotate_left
  · simp only [Act.put, List.setIfInBounds_toArray, List.set_cons_zero, List.set_cons_succ, i64_w, i32_w]
    rfl
  refine pure_ (i := 5) (N := some 12) (v := ?_) (a' := ?_) #[true, true, true, false, true, true, false, false, false, false, false, false] rfl rfl (by kernel_rfl) (fun _ _ _ h => h) (Or.inl ⟨by rfl, ?_⟩) ?_ ?_
  rotate_left
  · intro w'
    go_simp
    with_reducible rfl
  rotate_left
  · simp only [Act.put, List.setIfInBounds_toArray, List.set_cons_zero, List.set_cons_succ, i64_w, i32_w]
    rfl
  refine pure_ (i := 6) (N := some 13) (v := ?_) (a' := ?_) #[true, true, true, false, true, true, true, false, false, false, false, false] rfl rfl (by kernel_rfl) (fun _ _ _ h => h) (Or.inl ⟨by rfl, ?_⟩) ?_ ?_
  rotate_left
  · intro w'
    go_simp
    with_reducible rfl
  rotate_left
  · simp only [Act.put, List.setIfInBounds_toArray, List.set_cons_zero, List.set_cons_succ, i64_w, i32_w]
    rfl
  refine take_ (i := 3) (N := some 10) (v := ?_) (a' := ?_) #[true, true, true, true, true, true, true, false, false, false, false, false] rfl rfl (by kernel_rfl) (fun _ _ _ h => h) (Or.inl ⟨by rfl, ?_⟩) hHeld ?_ ?_
  rotate_left
  · rintro w' ⟨s0, s1, s2, s3, s4⟩
    go_simp
    with_reducible rfl
  rotate_left
  · simp only [Act.put, List.setIfInBounds_toArray, List.set_cons_zero, List.set_cons_succ, i64_w, i32_w]
    rfl
  refine take_ (i := 7) (N := some 14) (v := ?_) (a' := ?_) #[true, true, true, true, true, true, true, true, false, false, false, false] rfl rfl (by kernel_rfl) (fun _ _ _ h => h) (Or.inl ⟨by rfl, ?_⟩) hHeld ?_ ?_
  rotate_left
  · rintro w' ⟨s0, s1, s2, s3, s4⟩
    go_simp
    with_reducible rfl
  rotate_left
  · simp only [Act.put, List.setIfInBounds_toArray, List.set_cons_zero, List.set_cons_succ, i64_w, i32_w]
    rfl
  refine pure_ (i := 8) (N := some 15) (v := ?_) (a' := ?_) #[true, true, true, true, true, true, true, true, true, false, false, false] rfl rfl (by kernel_rfl) (fun _ _ _ h => h) (Or.inl ⟨by rfl, ?_⟩) ?_ ?_
  rotate_left
  · intro w'
    go_simp
    with_reducible rfl
  rotate_left
  · simp only [Act.put, List.setIfInBounds_toArray, List.set_cons_zero, List.set_cons_succ, i64_w, i32_w]
    rfl
  refine take_ (i := 9) (N := some 16) (v := ?_) (a' := ?_) #[true, true, true, true, true, true, true, true, true, true, false, false] rfl rfl (by kernel_rfl) (fun _ _ _ h => h) (Or.inl ⟨by rfl, ?_⟩) hHeld ?_ ?_
  rotate_left
  · rintro w' ⟨s0, s1, s2, s3, s4⟩
    go_simp
    with_reducible rfl
  rotate_left
  · simp only [Act.put, List.setIfInBounds_toArray, List.set_cons_zero, List.set_cons_succ, i64_w, i32_w]
    rfl
  refine one_ (i := 10) (N := some 5) #[true, true, true, true, true, true, true, true, true, true, true, false] rfl rfl (by kernel_rfl) (by decide) (fun K hK => ?_)
  refine value_ (w1 := ?_) (v := ?_) (by rfl) rfl ?_ ?_
  rotate_left 2
  · go_simp
    constructor
    · rfl
    · rfl
  refine hK.out _ _ ⟨(World.cell?_alloc_lt _ _ _ (World.block_lt_of_cell? _ _ (hHeld.1))).trans (hHeld.1), (World.cell?_alloc_lt _ _ _ (World.block_lt_of_cell? _ _ (hHeld.2.1))).trans (hHeld.2.1), (World.cell?_alloc_lt _ _ _ (World.block_lt_of_cell? _ _ (hHeld.2.2.1))).trans (hHeld.2.2.1), (World.cell?_alloc_lt _ _ _ (World.block_lt_of_cell? _ _ (hHeld.2.2.2.1))).trans (hHeld.2.2.2.1), (World.cell?_alloc_lt _ _ _ (World.block_lt_of_cell? _ _ (hHeld.2.2.2.2))).trans (hHeld.2.2.2.2)⟩ (fun hHeld => ?_)
  clear hK K
  refine norm_ (a' := ?_) ?_ ?_
  rotate_left
  · show Act.put _ (some 5) _ = _
    simp only [Act.put, List.setIfInBounds_toArray, List.set_cons_zero, List.set_cons_succ, i64_w, i32_w]
    rfl
  refine last_ (i := 11) (N := none) #[true, true, true, true, true, true, true, true, true, true, true, true] rfl rfl (by kernel_rfl) (by decide) (fun K hK => ?_)
  refine skip_ (w1 := ?_) (by rfl) rfl ?_ ?_
  rotate_left
  · go_simp
    rfl
  refine hK.out _ _ ?_
  clear hK K
  refine done_ (by kernel_rfl) ?_
  obtain ⟨wz, ez, hz, bz, zz, kz⟩ := al1 w7 #[.int .i64 t.kind, .string u, .int .i64 t.at_] 33
  rw [ez]
  have HTz := Aside0.mk hz
  have HSz := Aside0.mk (HSd.out.below bz)
  have HPz := Aside0.mk (kz _ _ HPd.out)
  have HBz := Aside0.mk (bel2 HBd.out bz)
  obtain ⟨y, hy⟩ : ∃ y, w7.heap.size = y := ⟨_, rfl⟩
  rw [hy] at HTz ⊢
  have hyb := blk_lt HPd.out
  rw [hy] at hyb
  have HYB := Aside0.mk hyb
  clear hyb ez hz bz zz kz hy HBd HPd HSd Q0 Q1 Q2
  have t0 := blk_cell HTz.out 0
  have t1 := blk_cell HTz.out 1
  have c1 := blk_cell HPz.out 1
  have c2 := blk_cell HPz.out 2
  have f1 := blk_frozen HPz.out 1
  obtain ⟨kk, hkk⟩ : ∃ kk, TkKey.key (L s) = kk := ⟨_, rfl⟩
  have hkey := Key_c s wz
  rw [hkk] at hkey
  have HKK := Aside0.mk hkk
  clear hkk
  go_wp2_with fail
  refine hkey.mono ?_
  rintro e2 wk ⟨rfl, hb⟩
  clear hkey
  have HTk := Aside0.mk ((hb.block _ (blk_lt HTz.out)).trans HTz.out)
  have HSk := Aside0.mk (HSz.out.below hb)
  have HPk := Aside0.mk ((hb.block _ (blk_lt HPz.out)).trans HPz.out)
  have HBk := Aside0.mk (bel2 HBz.out hb)
  clear hb t0 t1 c1 c2 f1 HTz HSz HPz HBz
  have t0 := blk_cell HTk.out 0
  have t1 := blk_cell HTk.out 1
  have c1 := blk_cell HPk.out 1
  have c2 := blk_cell HPk.out 2
  have f1 := blk_frozen HPk.out 1
  have hs := V.out.st
  have hts : s.toList = L s := ByteArray.toList_eq s
  have hut : u.toList = t.text := by rw [ByteArray.toList_eq]; exact HLu.out
  cases σ with
  | bad en p =>
    obtain ⟨rfl, h2, rfl⟩ := hs
    have k1 : (e == 0) = false := by simpa using h2
    have k2 : decide (e = 0) = false := decide_eq_false h2
    have k3 : (e = 0) = False := eq_false h2
    have HR : Aside0 (isR (L s) (.bad e p) = false) := ⟨rfl⟩
    clear h2 hts hut
    go_wp2_with fail
    go_ret
    exact ⟨by rw [HR.out]; rfl, HSk.out, HBk.out⟩
  | ok ts =>
    obtain ⟨rfl, rfl, rfl⟩ := hs
    have HI : Aside0 (isR (L s) (.ok (TS.drop i)) = (decide (t.text = L s) && (decide (t.kind = 2) || kk))) := ⟨by rw [V.out.tk, ← HKK.out]; rfl⟩
    by_cases e1 : t.text = L s
    · have t1' : (u.toList == s.toList) = true := by rw [beq_iff_eq, hut, hts, e1]
      by_cases e2 : t.kind = 2
      · have k2 : (t.kind == 2) = true := beq_iff_eq.mpr e2
        have k3 : decide (t.kind = 2) = true := decide_eq_true e2
        have HR : Aside0 (isR (L s) (.ok (TS.drop i)) = true) := ⟨by rw [HI.out, decide_eq_true e1, k3]; rfl⟩
        clear e1 e2 hts hut
        go_wp2_with fail
        go_ret
        exact ⟨by rw [HR.out]; rfl, HSk.out, HBk.out⟩
      have k2 : (t.kind == 2) = false := beq_eq_false_iff_ne.mpr e2
      have k3 : decide (t.kind = 2) = false := decide_eq_false e2
      have k4 : (t.kind = 2) = False := eq_false e2
      have HR : Aside0 (isR (L s) (.ok (TS.drop i)) = kk) := ⟨by rw [HI.out, decide_eq_true e1, k3]; simp⟩
      clear e1 e2 hts hut
      go_wp2_with fail
      go_ret
      exact ⟨by rw [HR.out]; rfl, HSk.out, HBk.out⟩
    have t1' : (u.toList == s.toList) = false := by rw [beq_eq_false_iff_ne, hut, hts]; exact e1
    have HR : Aside0 (isR (L s) (.ok (TS.drop i)) = false) := ⟨by rw [HI.out, decide_eq_false e1]; rfl⟩
    clear e1 hts hut
    go_wp2_with fail
    go_ret
    exact ⟨by rw [HR.out]; rfl, HSk.out, HBk.out⟩
theorem PS.pop {ad : Addr} {i : Nat} {t : Tok} {ts : List Tok} (E : Env w0 (some ad) TS) (h : PS w0 (some ad) c TS b w (.ok ts)) (hb : Blk w (some ad) c TS.length b i 0 0) (ht : TS.drop i = t :: TS.drop (i + 1)) (hi : i < TS.length) (hts : ts = TS.drop i) (hk : t.kind ≠ 3 ∨ t.text ≠ []) :
    PS w0 (some ad) c TS b (w.setCell ⟨b, 1, none⟩ (.int .i64 ((i : Int) + 1))) (pop (.ok ts)) :=
  ⟨h.1.setCell h.2.1 _, h.2.1, i + 1, 0, 0, (by have := hb.set1 (i + 1); simpa using this), ends_more E.ends hi ht hk, by rw [hts, ht]; rfl, rfl, rfl⟩
theorem is_more {s : List UInt8} (hs : s ≠ []) {ts : List Tok} (h : isT s ts = true) {t : Tok} {r : List Tok} (ht : ts = t :: r) : t.text ≠ [] := by
  subst ht
  simp only [isT, Bool.and_eq_true, decide_eq_true_eq] at h
  rw [h.1]; exact hs
set_option maxHeartbeats 4000000 in
set_option maxRecDepth 100000 in
theorem need_c (E : Env w0 A TS) (h : PS w0 A c TS b w σ) (s : ByteArray) (hne : L s ≠ []) :
    Calls Tryd.prog 70 #[.pointer (some ⟨b, 0, none⟩), .string s] w fun e w' => e = .returned (.tuple #[]) ∧ PS w0 A c TS b w' (needR (L s) σ) ∧ Fr b w.heap.size w w' := by
  have HE := Aside0.mk E
  have HP := Aside0.mk h
  obtain ⟨ad, i, e, a, t, rfl, v⟩ := h.view E
  have hcall := is_c E h s
  have V := Aside0.mk v
  clear v
  cases hq : isR (L s) σ with
  | false =>
    rw [hq] at hcall
    have HR : Aside0 (needR (L s) σ = failR 30 σ) := ⟨by unfold needR; rw [hq]; rfl⟩
    clear h E hq
    go_enter Tryd.func70, Tryd.ntmps70
    go_wp2_with fail
    refine hcall.mono ?_
    rintro e2 w2 ⟨rfl, hs, hb⟩
    have HS := Aside0.mk hs
    have HB := Aside0.mk hb
    clear hs hb hcall
    go_wp2_with fail
    refine (fail_c HE.out HS.out 30 (by decide)).mono ?_
    rintro e3 w3 ⟨rfl, hs, hf⟩
    go_wp2
    exact bodyPost_ret (results_none rfl _ _ _) rfl ⟨rfl, by rw [HR.out]; exact hs, fr_two (fr_self b HB.out) hf⟩
  | true =>
    rw [hq] at hcall
    cases σ with
    | bad en p => exact absurd hq (by simp [isR])
    | ok ts =>
      obtain ⟨h1, rfl, rfl⟩ := V.out.st
      have HH1 := Aside0.mk h1
      have HQ : Aside0 (isT (L s) ts = true) := ⟨hq⟩
      have HR : Aside0 (needR (L s) (.ok ts) = pop (.ok ts)) := ⟨by unfold needR; rw [hq]; rfl⟩
      have hw : IntKind.i64.wrap ((i : Int) + 1) = ((i + 1 : Nat) : Int) := by have := V.out.lt; have := HE.out.small; rw [IntKind.wrap_i64]; omega
      clear h E hq h1
      go_enter Tryd.func70, Tryd.ntmps70
      go_wp2_with fail
      refine hcall.mono ?_
      rintro e2 w2 ⟨rfl, hs, hb⟩
      have hP := (hb.block b (blk_lt V.out.blk)).trans V.out.blk
      have HP2 : Aside0 (Blk w2 (some ad) c TS.length b i 0 0) := ⟨hP⟩
      have HS := Aside0.mk hs
      have HB := Aside0.mk hb
      have c1 : w2.cell? ⟨b, 1, none⟩ = some (.int .i64 i) := blk_cell hP 1
      have f1 := blk_frozen hP 1
      clear hP hs hb hcall
      go_wp2
      go_end0
      have hpop := PS.pop HE.out HS.out HP2.out V.out.tk V.out.lt HH1.out (.inr (is_more hne HQ.out (HH1.out.trans V.out.tk)))
      rw [← HR.out] at hpop
      exact ⟨rfl, hpop, (fr_self b HB.out).set _ _⟩
set_option maxHeartbeats 4000000 in
set_option maxRecDepth 100000 in
theorem name_c (E : Env w0 A TS) (h : PS w0 A c TS b w σ) :
    Calls Tryd.prog 69 #[.pointer (some ⟨b, 0, none⟩)] w fun e w' => e = .returned (.string (nameR σ).1) ∧ PS w0 A c TS b w' (nameR σ).2 ∧ Fr b w.heap.size w w' := by
  have HE := Aside0.mk E
  have HP := Aside0.mk h
  obtain ⟨ad, i, e, a, t, rfl, v⟩ := h.view E
  obtain ⟨u, hu⟩ : ∃ u, B t.text = u := ⟨_, rfl⟩
  have hLu : L u = t.text := by rw [← hu]; rfl
  have HLu := Aside0.mk hLu
  have hv1 := v.q1
  rw [hu] at hv1
  have Q0 : Aside0 (w.drew.cell? (ad.add (i * 3)) = some (.int .i64 t.kind)) := ⟨v.q0⟩
  have Q1 : Aside0 (w.drew.cell? ⟨(ad.add (i * 3)).block, (ad.add (i * 3)).off + 1, none⟩ = some (.string u)) := ⟨hv1⟩
  have Q2 : Aside0 (w.drew.cell? ⟨(ad.add (i * 3)).block, (ad.add (i * 3)).off + 2, none⟩ = some (.int .i64 t.at_)) := ⟨v.q2⟩
  obtain ⟨m, hm⟩ : ∃ m, TS.length = m := ⟨_, rfl⟩
  have HM := Aside0.mk hm
  have V := Aside0.mk v
  have HPd : Aside0 (w.drew.heap[b]? = some (.cells #[.slice (some ad) m c, .int .i64 i, .int .i64 e, .int .i64 a] 107 (0, 0))) := ⟨by rw [← hm]; exact v.blk⟩
  have HSd : Aside0 (PS w0 (some ad) c TS b w.drew σ) := ⟨h.below (Below.refl _ _).drew⟩
  have HBd : Aside0 (Below w.heap.size w w.drew) := ⟨(Below.refl _ _).drew⟩
  have p1 : decide ((i : Int) < (m : Int)) = true := decide_eq_true (by have := v.lt; omega)
  have p2 : ((i : Int) < (m : Int)) = True := eq_true (by have := v.lt; omega)
  have p3 : decide (i < m) = true := decide_eq_true (by have := v.lt; omega)
  have p4 : (0 ≤ (i : Int)) = True := eq_true (by omega)
  have p5 : decide ((i : Int) < 0) = false := decide_eq_false (by omega)
  have p6 : ((i : Int) < 0) = False := eq_false (by omega)
  have p7 : decide (0 ≤ (i : Int)) = true := decide_eq_true (by omega)
  clear h v E hm hu hLu hv1 HP
  go_enter Tryd.func69, Tryd.ntmps69
  go_upto_region 1 with (fail)
  refine start_ (n := 12) (S := fun w' => w'.cell? ⟨b, 0, none⟩ = some (.slice (some ad) m c) ∧ w'.cell? ⟨b, 1, none⟩ = some (.int .i64 i) ∧ w'.cell? (ad.add (i * 3)) = some (.int .i64 t.kind) ∧ w'.cell? ⟨(ad.add (i * 3)).block, (ad.add (i * 3)).off + 1, none⟩ = some (.string u) ∧ w'.cell? ⟨(ad.add (i * 3)).block, (ad.add (i * 3)).off + 2, none⟩ = some (.int .i64 t.at_)) (ds := [11]) #[false, false, false, false, false, false, false, false, false, false, false, false] (by kernel_rfl) rfl rfl ⟨blk_cell HPd.out 0, blk_cell HPd.out 1, Q0.out, Q1.out, Q2.out⟩ (fun hHeld => ?_)
  generalize w.drew = w7 at HBd HPd HSd Q0 Q1 Q2 hHeld ⊢
  refine pure_ (i := 0) (N := some 5) (v := ?_) (a' := ?_) #[true, false, false, false, false, false, false, false, false, false, false, false] rfl rfl (by kernel_rfl) (fun _ _ _ h => h) (Or.inl ⟨by rfl, ?_⟩) ?_ ?_
  rotate_left
  · intro w'
    go_simp
    with_reducible rfl
  rotate_left
  · simp only [Act.put, List.setIfInBounds_toArray, List.set_cons_zero, List.set_cons_succ, i64_w, i32_w]
    rfl
  refine pure_ (i := 1) (N := some 6) (v := ?_) (a' := ?_) #[true, true, false, false, false, false, false, false, false, false, false, false] rfl rfl (by kernel_rfl) (fun _ _ _ h => h) (Or.inl ⟨by rfl, ?_⟩) ?_ ?_
  rotate_left
  · intro w'
    go_simp
    with_reducible rfl
  rotate_left
  · simp only [Act.put, List.setIfInBounds_toArray, List.set_cons_zero, List.set_cons_succ, i64_w, i32_w]
    rfl
  refine pure_ (i := 2) (N := some 7) (v := ?_) (a' := ?_) #[true, true, true, false, false, false, false, false, false, false, false, false] rfl rfl (by kernel_rfl) (fun _ _ _ h => h) (Or.inl ⟨by rfl, ?_⟩) ?_ ?_
  rotate_left
  · intro w'
    go_simp
    with_reducible rfl
  rotate_left
  · simp only [Act.put, List.setIfInBounds_toArray, List.set_cons_zero, List.set_cons_succ, i64_w, i32_w]
    rfl
  refine pure_ (i := 4) (N := some 9) (v := ?_) (a' := ?_) #[true, true, true, false, true, false, false, false, false, false, false, false] rfl rfl (by kernel_rfl) (fun _ _ _ h => h) (Or.inl ⟨by rfl, ?_⟩) ?_ ?_
  rotate_left
  · intro w'
    go_simp
    with_reducible rfl
  rotate_left
  · simp only [Act.put, List.setIfInBounds_toArray, List.set_cons_zero, List.set_cons_succ, i64_w, i32_w]
    rfl
  refine pure_ (i := 5) (N := some 10) (v := ?_) (a' := ?_) #[true, true, true, false, true, true, false, false, false, false, false, false] rfl rfl (by kernel_rfl) (fun _ _ _ h => h) (Or.inl ⟨by rfl, ?_⟩) ?_ ?_
  rotate_left
  · intro w'
    go_simp
    with_reducible rfl
  rotate_left
  · simp only [Act.put, List.setIfInBounds_toArray, List.set_cons_zero, List.set_cons_succ, i64_w, i32_w]
    rfl
  refine pure_ (i := 6) (N := some 11) (v := ?_) (a' := ?_) #[true, true, true, false, true, true, true, false, false, false, false, false] rfl rfl (by kernel_rfl) (fun _ _ _ h => h) (Or.inl ⟨by rfl, ?_⟩) ?_ ?_
  rotate_left
  · intro w'
    go_simp
    with_reducible rfl
  rotate_left
  · simp only [Act.put, List.setIfInBounds_toArray, List.set_cons_zero, List.set_cons_succ, i64_w, i32_w]
    rfl
  refine take_ (i := 3) (N := some 8) (v := ?_) (a' := ?_) #[true, true, true, true, true, true, true, false, false, false, false, false] rfl rfl (by kernel_rfl) (fun _ _ _ h => h) (Or.inl ⟨by rfl, ?_⟩) hHeld ?_ ?_
  rotate_left
  · rintro w' ⟨s0, s1, s2, s3, s4⟩
    go_simp
    with_reducible rfl
  rotate_left
  · simp only [Act.put, List.setIfInBounds_toArray, List.set_cons_zero, List.set_cons_succ, i64_w, i32_w]
    rfl
  refine take_ (i := 7) (N := some 12) (v := ?_) (a' := ?_) #[true, true, true, true, true, true, true, true, false, false, false, false] rfl rfl (by kernel_rfl) (fun _ _ _ h => h) (Or.inl ⟨by rfl, ?_⟩) hHeld ?_ ?_
  rotate_left
  · rintro w' ⟨s0, s1, s2, s3, s4⟩
    go_simp
    with_reducible rfl
  rotate_left
  · simp only [Act.put, List.setIfInBounds_toArray, List.set_cons_zero, List.set_cons_succ, i64_w, i32_w]
    rfl
  refine pure_ (i := 8) (N := some 13) (v := ?_) (a' := ?_) #[true, true, true, true, true, true, true, true, true, false, false, false] rfl rfl (by kernel_rfl) (fun _ _ _ h => h) (Or.inl ⟨by rfl, ?_⟩) ?_ ?_
  rotate_left
  · intro w'
    go_simp
    with_reducible rfl
  rotate_left
  · simp only [Act.put, List.setIfInBounds_toArray, List.set_cons_zero, List.set_cons_succ, i64_w, i32_w]
    rfl
  refine take_ (i := 9) (N := some 14) (v := ?_) (a' := ?_) #[true, true, true, true, true, true, true, true, true, true, false, false] rfl rfl (by kernel_rfl) (fun _ _ _ h => h) (Or.inl ⟨by rfl, ?_⟩) hHeld ?_ ?_
  rotate_left
  · rintro w' ⟨s0, s1, s2, s3, s4⟩
    go_simp
    with_reducible rfl
  rotate_left
  · simp only [Act.put, List.setIfInBounds_toArray, List.set_cons_zero, List.set_cons_succ, i64_w, i32_w]
    rfl
  refine one_ (i := 10) (N := some 3) #[true, true, true, true, true, true, true, true, true, true, true, false] rfl rfl (by kernel_rfl) (by decide) (fun K hK => ?_)
  refine value_ (w1 := ?_) (v := ?_) (by rfl) rfl ?_ ?_
  rotate_left 2
  · go_simp
    constructor
    · rfl
    · rfl
  refine hK.out _ _ ⟨(World.cell?_alloc_lt _ _ _ (World.block_lt_of_cell? _ _ (hHeld.1))).trans (hHeld.1), (World.cell?_alloc_lt _ _ _ (World.block_lt_of_cell? _ _ (hHeld.2.1))).trans (hHeld.2.1), (World.cell?_alloc_lt _ _ _ (World.block_lt_of_cell? _ _ (hHeld.2.2.1))).trans (hHeld.2.2.1), (World.cell?_alloc_lt _ _ _ (World.block_lt_of_cell? _ _ (hHeld.2.2.2.1))).trans (hHeld.2.2.2.1), (World.cell?_alloc_lt _ _ _ (World.block_lt_of_cell? _ _ (hHeld.2.2.2.2))).trans (hHeld.2.2.2.2)⟩ (fun hHeld => ?_)
  clear hK K
  refine norm_ (a' := ?_) ?_ ?_
  rotate_left
  · show Act.put _ (some 3) _ = _
    simp only [Act.put, List.setIfInBounds_toArray, List.set_cons_zero, List.set_cons_succ, i64_w, i32_w]
    rfl
  refine last_ (i := 11) (N := none) #[true, true, true, true, true, true, true, true, true, true, true, true] rfl rfl (by kernel_rfl) (by decide) (fun K hK => ?_)
  refine skip_ (w1 := ?_) (by rfl) rfl ?_ ?_
  rotate_left
  · go_simp
    rfl
  refine hK.out _ _ ?_
  clear hK K
  refine done_ (by kernel_rfl) ?_
  obtain ⟨wz, ez, hz, bz, zz, kz⟩ := al1 w7 #[.int .i64 t.kind, .string u, .int .i64 t.at_] 33
  rw [ez]
  have HTz := Aside0.mk hz
  have HSz := Aside0.mk (HSd.out.below bz)
  have HPz := Aside0.mk (kz _ _ HPd.out)
  have HBz := Aside0.mk (bel2 HBd.out bz)
  obtain ⟨y, hy⟩ : ∃ y, w7.heap.size = y := ⟨_, rfl⟩
  rw [hy] at HTz ⊢
  have hyb := blk_lt HPd.out
  rw [hy] at hyb
  have HYB := Aside0.mk hyb
  clear hyb ez hz bz zz kz hy HBd HPd HSd Q0 Q1 Q2
  have t0 := blk_cell HTz.out 0
  have t1 := blk_cell HTz.out 1
  have c1 := blk_cell HPz.out 1
  have c2 := blk_cell HPz.out 2
  have f1 := blk_frozen HPz.out 1
  obtain ⟨kk, hkk⟩ : ∃ kk, TkKey.key (L u) = kk := ⟨_, rfl⟩
  have hkey := Key_c u wz
  rw [hkk] at hkey
  have HKK : Aside0 (TkKey.key t.text = kk) := ⟨by rw [← HLu.out]; exact hkk⟩
  clear hkk
  go_wp2_with fail
  refine hkey.mono ?_
  rintro e2 wk ⟨rfl, hb⟩
  clear hkey
  have HTk := Aside0.mk ((hb.block _ (blk_lt HTz.out)).trans HTz.out)
  have HSk := Aside0.mk (HSz.out.below hb)
  have HPk := Aside0.mk ((hb.block _ (blk_lt HPz.out)).trans HPz.out)
  have HBk := Aside0.mk (bel2 HBz.out hb)
  clear hb t0 t1 c1 c2 f1 HTz HSz HPz HBz
  have t0 := blk_cell HTk.out 0
  have t1 := blk_cell HTk.out 1
  have c1 := blk_cell HPk.out 1
  have c2 := blk_cell HPk.out 2
  have f1 := blk_frozen HPk.out 1
  have hs := V.out.st
  have hw : IntKind.i64.wrap ((i : Int) + 1) = ((i + 1 : Nat) : Int) := by have := V.out.lt; have := HE.out.small; rw [IntKind.wrap_i64]; omega
  cases σ with
  | bad en p =>
    obtain ⟨rfl, h2, rfl⟩ := hs
    have n1 : (e != 0) = true := bne_iff_ne.mpr h2
    have n2 : decide (e = 0) = false := decide_eq_false h2
    have n3 : (e = 0) = False := eq_false h2
    have HR : Aside0 (nameR (.bad e p) = (⟨#[]⟩, .bad e p)) := ⟨rfl⟩
    by_cases e1 : t.kind = 1
    · have k1 : (t.kind != 1) = false := by rw [bne_eq_false_iff_eq]; exact e1
      have k2 : (t.kind == 1) = true := by rw [beq_iff_eq]; exact e1
      cases kk with
      | true =>
        clear h2 e1
        go_wp2_with fail
        refine (fail_c HE.out HSk.out 30 (by decide)).mono ?_
        rintro e3 w3 ⟨rfl, hs, hf⟩
        have hP3 := hs
        obtain ⟨_, _, i3, e3, a3, hb3, hi3, hs3⟩ := hP3
        obtain ⟨rfl, _, rfl⟩ := hs3
        have c2 : w3.cell? ⟨b, 2, none⟩ = some (.int .i64 e3) := blk_cell hb3 2
        have HS3 := Aside0.mk hs
        have HF3 := Aside0.mk hf
        clear hs hf hb3 hi3 t0 t1 c1 f1
        go_wp2_with fail
        go_ret
        exact ⟨by rw [HR.out]; rfl, by rw [HR.out]; exact HS3.out, fr_two (fr_self b HBk.out) HF3.out⟩
      | false =>
        clear h2 e1
        go_wp2_with fail
        go_ret
        exact ⟨by rw [HR.out]; rfl, by rw [HR.out]; exact HSk.out, fr_self b HBk.out⟩
    have k1 : (t.kind != 1) = true := bne_iff_ne.mpr e1
    have k2 : (t.kind == 1) = false := beq_eq_false_iff_ne.mpr e1
    clear h2 e1
    go_wp2_with fail
    refine (fail_c HE.out HSk.out 30 (by decide)).mono ?_
    rintro e3 w3 ⟨rfl, hs, hf⟩
    have hP3 := hs
    obtain ⟨_, _, i3, e3, a3, hb3, hi3, hs3⟩ := hP3
    obtain ⟨rfl, _, rfl⟩ := hs3
    have c2 : w3.cell? ⟨b, 2, none⟩ = some (.int .i64 e3) := blk_cell hb3 2
    have HS3 := Aside0.mk hs
    have HF3 := Aside0.mk hf
    clear hs hf hb3 hi3 t0 t1 c1 f1
    go_wp2_with fail
    go_ret
    exact ⟨by rw [HR.out]; rfl, by rw [HR.out]; exact HS3.out, fr_two (fr_self b HBk.out) HF3.out⟩
  | ok ts =>
    obtain ⟨rfl, rfl, rfl⟩ := hs
    by_cases e1 : t.kind = 1
    · have k1 : (t.kind != 1) = false := by rw [bne_eq_false_iff_eq]; exact e1
      have k2 : (t.kind == 1) = true := by rw [beq_iff_eq]; exact e1
      cases kk with
      | true =>
        have HR : Aside0 (nameR (.ok (TS.drop i)) = (⟨#[]⟩, .bad 30 t.at_)) := ⟨by rw [V.out.tk]; show (if t.kind = 1 ∧ TkKey.key t.text = false then _ else _) = _; rw [if_neg (by rintro ⟨_, x⟩; rw [HKK.out] at x; exact absurd x (by decide))]⟩
        clear e1
        go_wp2_with fail
        refine (fail_c HE.out HSk.out 30 (by decide)).mono ?_
        rintro e3 w3 ⟨rfl, hs, hf⟩
        have hr : failR 30 (.ok (TS.drop i)) = .bad 30 t.at_ := by rw [V.out.tk]; rfl
        rw [hr] at hs
        have hP3 := hs
        obtain ⟨_, _, i3, e3, a3, hb3, hi3, hs3⟩ := hP3
        obtain ⟨rfl, _, rfl⟩ := hs3
        have c2 : w3.cell? ⟨b, 2, none⟩ = some (.int .i64 30) := blk_cell hb3 2
        have HS3 := Aside0.mk hs
        have HF3 := Aside0.mk hf
        clear hs hf hb3 hi3 t0 t1 c1 f1 hr
        go_wp2_with fail
        go_ret
        exact ⟨by rw [HR.out]; rfl, by rw [HR.out]; exact HS3.out, fr_two (fr_self b HBk.out) HF3.out⟩
      | false =>
        have HR : Aside0 (nameR (.ok (TS.drop i)) = (u, pop (.ok (TS.drop i)))) := ⟨by rw [V.out.tk]; show (if t.kind = 1 ∧ TkKey.key t.text = false then (B t.text, Sg.ok (TS.drop (i + 1))) else _) = _; rw [if_pos ⟨e1, HKK.out⟩, show B t.text = u from L_inj HLu.out.symm]; rfl⟩
        have HK1 := Aside0.mk e1
        clear e1
        have t1' := blk_cell ((Below.heap_setCell wk ⟨b, 1, none⟩ (.int .i64 ((i : Int) + 1)) y (by have := HYB.out; show y ≠ b; omega)).trans HTk.out) 1
        go_wp2_with fail
        go_ret
        exact ⟨by rw [HR.out]; rfl, by rw [HR.out]; exact HSk.out.pop HE.out (by rw [HM.out]; exact HPk.out) V.out.tk V.out.lt rfl (.inl (by rw [HK1.out]; decide)), (fr_self b HBk.out).set _ _⟩
    have k1 : (t.kind != 1) = true := bne_iff_ne.mpr e1
    have k2 : (t.kind == 1) = false := beq_eq_false_iff_ne.mpr e1
    have HR : Aside0 (nameR (.ok (TS.drop i)) = (⟨#[]⟩, .bad 30 t.at_)) := ⟨by rw [V.out.tk]; show (if t.kind = 1 ∧ TkKey.key t.text = false then _ else _) = _; rw [if_neg (by rintro ⟨x, _⟩; exact e1 x)]⟩
    clear e1
    go_wp2_with fail
    refine (fail_c HE.out HSk.out 30 (by decide)).mono ?_
    rintro e3 w3 ⟨rfl, hs, hf⟩
    have hr : failR 30 (.ok (TS.drop i)) = .bad 30 t.at_ := by rw [V.out.tk]; rfl
    rw [hr] at hs
    have hP3 := hs
    obtain ⟨_, _, i3, e3, a3, hb3, hi3, hs3⟩ := hP3
    obtain ⟨rfl, _, rfl⟩ := hs3
    have c2 : w3.cell? ⟨b, 2, none⟩ = some (.int .i64 30) := blk_cell hb3 2
    have HS3 := Aside0.mk hs
    have HF3 := Aside0.mk hf
    clear hs hf hb3 hi3 t0 t1 c1 f1 hr
    go_wp2_with fail
    go_ret
    exact ⟨by rw [HR.out]; rfl, by rw [HR.out]; exact HS3.out, fr_two (fr_self b HBk.out) HF3.out⟩
end
end Go.Proofs.YtkgnhghaiopgcaaDoor.Rw
