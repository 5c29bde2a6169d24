-- Written by a program of this session (wip/tools/drive.py) for this seat, partly by the kit's print.py; some functions by hand.
import Derived.Test.YtkgnhghaiopgcaaDoorX0
import Derived.Test.YtkgnhghaiopgcaaDoorX2
import Derived.Test.YtkgnhghaiopgcaaDoorAid
import Derived.Deep.DrawnRows
import Derived.Lib.Strings
import Derived.Test.YtkgnhghaiopgcaaDoorAid
import Derived.Deep.DrawnRows
import Derived.Lib.Strings
import Derived.Test.YtkgnhghaiopgcaaDoorAid
import Derived.Deep.DrawnRows
import Derived.Lib.Strings
namespace Go.Proofs.YtkgnhghaiopgcaaDoor.X
open Go.RowKit Go.Proofs.YtkgnhghaiopgcaaDoorW.PrintWords Go.Proofs.YtkgnhghaiopgcaaDoorW.PrintLast
set_option linter.unusedVariables false
set_option linter.unusedSimpArgs false

section
-- @GIVEN@ 25
/-! ### reader_put: by hand -/
-- GIVEN (*doorman/token.reader).put rounds=0 making=1 helper=1
--import Derived.Test.YtkgnhghaiopgcaaDoorAid
--import Derived.Deep.DrawnRows
--import Derived.Lib.Strings
open Go.Proofs.YtkgnhghaiopgcaaDoor.Aid
attribute [local go_sem ↓] Go.wp_at_zero Go.wp_at_succ

/-- Blocks below 'base' but b are as they were. -/
structure Fr (b base : Nat) (w w' : World) : Prop where
  os : w'.os = w.os
  tape : w'.tape = w.tape
  output : w'.output = w.output
  size : w.heap.size ≤ w'.heap.size
  block : ∀ k, k < base → k ≠ b → w'.heap[k]? = w.heap[k]?

/-- The reader at block b. -/
def Rdr (w : World) (b : Nat) (s : ByteArray) (at_ : Int) (v : Value) (e : Int) : Prop := w.heap[b]? = some (.cells #[.string s, .int .i64 at_, v, .int .i64 e] 90 (0, 0))

theorem Rdr.cell0 {w : World} {b : Nat} {s : ByteArray} {at_ e : Int} {v : Value} (h : Rdr w b s at_ v e) : w.cell? ⟨b, 0, none⟩ = some (.string s) := blk_cell h 0
theorem Rdr.cell1 {w : World} {b : Nat} {s : ByteArray} {at_ e : Int} {v : Value} (h : Rdr w b s at_ v e) : w.cell? ⟨b, 1, none⟩ = some (.int .i64 at_) := blk_cell h 1
theorem Rdr.cell2 {w : World} {b : Nat} {s : ByteArray} {at_ e : Int} {v : Value} (h : Rdr w b s at_ v e) : w.cell? ⟨b, 2, none⟩ = some v := blk_cell h 2
theorem Rdr.cell3 {w : World} {b : Nat} {s : ByteArray} {at_ e : Int} {v : Value} (h : Rdr w b s at_ v e) : w.cell? ⟨b, 3, none⟩ = some (.int .i64 e) := blk_cell h 3

theorem Rdr.fz {w : World} {b : Nat} {s : ByteArray} {at_ e : Int} {v : Value} (h : Rdr w b s at_ v e) (i : Nat) : w.frozen? ⟨b, i, none⟩ = false := blk_frozen h i
theorem Rdr.set1 {w : World} {b : Nat} {s : ByteArray} {at_ e : Int} {v : Value} (h : Rdr w b s at_ v e) (x : Int) : Rdr (w.setCell ⟨b, 1, none⟩ (.int .i64 x)) b s x v e := by
  unfold Rdr; simpa using blk_set h 1 (.int .i64 x)
theorem Rdr.set2 {w : World} {b : Nat} {s : ByteArray} {at_ e : Int} {v : Value} (h : Rdr w b s at_ v e) (x : Value) : Rdr (w.setCell ⟨b, 2, none⟩ x) b s at_ x e := by
  unfold Rdr; simpa using blk_set h 2 x
theorem Rdr.set3 {w : World} {b : Nat} {s : ByteArray} {at_ e : Int} {v : Value} (h : Rdr w b s at_ v e) (x : Int) : Rdr (w.setCell ⟨b, 3, none⟩ (.int .i64 x)) b s at_ v x := by
  unfold Rdr; simpa using blk_set h 3 (.int .i64 x)
theorem Rdr.lt {w : World} {b : Nat} {s : ByteArray} {at_ e : Int} {v : Value} (h : Rdr w b s at_ v e) : b < w.heap.size := blk_lt h
theorem Rdr.drewN {w : World} {b : Nat} {s : ByteArray} {at_ e : Int} {v : Value} (h : Rdr w b s at_ v e) (n : Nat) : Rdr (w.drewN n) b s at_ v e := h
theorem Rdr.alloc {w : World} {b : Nat} {s : ByteArray} {at_ e : Int} {v : Value} (h : Rdr w b s at_ v e) (o : Obj) : Rdr (w.alloc o) b s at_ v e := by
  unfold Rdr; rw [Below.heap_alloc w o b h.lt]; exact h
theorem Rdr.grown {w w1 : World} {b : Nat} {s : ByteArray} {at_ e : Int} {v : Value} {row : Option Nat} (h : Rdr w b s at_ v e) (hg : w.grownBy w1 row) (hne : some b ≠ row) : Rdr w1 b s at_ v e := by
  unfold Rdr; rw [hg.block b h.lt hne]; exact h

theorem Fr.refl (b base : Nat) (w : World) : Fr b base w w := ⟨rfl, rfl, rfl, Nat.le_refl _, fun _ _ _ => rfl⟩
theorem Fr.trans {b base : Nat} {u v w : World} (h : Fr b base u v) (k : Fr b base v w) : Fr b base u w :=
  ⟨k.os.trans h.os, k.tape.trans h.tape, k.output.trans h.output, Nat.le_trans h.size k.size, fun i hi hne => (k.block i hi hne).trans (h.block i hi hne)⟩
theorem Fr.drewN {b base : Nat} {u v : World} (h : Fr b base u v) (n : Nat) : Fr b base u (v.drewN n) := ⟨h.os, h.tape, h.output, h.size, h.block⟩
theorem Fr.drew {b base : Nat} {u v : World} (h : Fr b base u v) : Fr b base u v.drew := ⟨h.os, h.tape, h.output, h.size, h.block⟩
theorem Fr.set {b base : Nat} {u v : World} (h : Fr b base u v) (j : Nat) (x : Value) : Fr b base u (v.setCell ⟨b, j, none⟩ x) :=
  ⟨h.os, h.tape, h.output, by simpa [World.setCell] using h.size, fun i hi hne => (Below.heap_setCell v ⟨b, j, none⟩ x i (by simpa using hne)).trans (h.block i hi hne)⟩
theorem Fr.alloc {b base : Nat} {u v : World} (h : Fr b base u v) (hb : base ≤ v.heap.size) (o : Obj) : Fr b base u (v.alloc o) :=
  ⟨h.os, h.tape, h.output, Nat.le_trans h.size (by simp), fun i hi hne => (Below.heap_alloc v o i (by omega)).trans (h.block i hi hne)⟩
theorem Fr.grown {b base : Nat} {u v w : World} (h : Fr b base u v) {row : Option Nat} (hg : v.grownBy w row) (hb : base ≤ v.heap.size) (hr : ∀ k, row = some k → base ≤ k) : Fr b base u w :=
  ⟨hg.os.trans h.os, hg.tape.trans h.tape, hg.output.trans h.output, Nat.le_trans h.size hg.size, fun i hi hne => (hg.block i (by omega) (fun e => by have := hr i e.symm; omega)).trans (h.block i hi hne)⟩
theorem Fr.of_below {b base : Nat} {w w' : World} (h : Below w.heap.size w w') (hb : base ≤ w.heap.size) : Fr b base w w' :=
  ⟨h.os, h.tape, h.output, h.size, fun i hi _ => h.block i (by omega)⟩

set_option maxHeartbeats 1000000 in
theorem reader_blank (b : Nat) (s : ByteArray) (at_ e : Int) (v : Value) (w : World) (h : Rdr w b s at_ v e) :
    Calls Tryd.prog 54 #[.pointer (some ⟨b, 0, none⟩)] w fun en w' => en = .returned (.tuple #[]) ∧ w' = w.setCell ⟨b, 1, none⟩ (.int .i64 (wrap64 (at_ + 1))) := by
  have c0 := h.cell0
  have c1 := h.cell1
  have f1 := h.fz 1
  go_enter Tryd.func54, Tryd.ntmps54
  go_wp2
  go_end0
  exact ⟨rfl, rfl⟩

set_option maxHeartbeats 4000000 in
set_option maxRecDepth 100000 in
theorem reader_put (b base : Nat) (s : ByteArray) (at_ e kind n : Int) (v : Value) (l : List S32) (w : World) (h : Rdr w b s at_ v e)
    (hO : k32.R 32 w base (fun _ => True) v l) (hb : b < base) (hbase : base ≤ w.heap.size) (h0 : 0 ≤ at_) (hn : 0 ≤ n) (hat : at_ + n ≤ (s.size : Int)) (hs : s.size ≤ 4096) (hl : l.length ≤ 4096) :
    Calls Tryd.prog 58 #[.pointer (some ⟨b, 0, none⟩), .int .i64 kind, .int .i64 n] w fun en w' => ∃ v1, en = .returned (.tuple #[]) ∧
      Rdr w' b s (at_ + n) v1 e ∧ k32.R 32 w' base (fun _ => True) v1 (l ++ [⟨kind, s.extract at_.toNat (at_ + n).toNat, at_⟩]) ∧ Fr b base w w' := by
  obtain ⟨A, c, rfl⟩ := Kd.R_slice hO
  have c0 := h.cell0
  have c1 := h.cell1
  have c2 := h.cell2
  have hlt := h.lt
  have HO := Aside0.mk (show k32.R 32 w.drew base (fun _ => True) (.slice A l.length c) l from Kd.R_drew hO)
  have HR := Aside0.mk (show Rdr w.drew b s at_ (.slice A l.length c) e from h)
  have HF := Aside0.mk (Fr.drew (Fr.refl b base w))
  have hne : Aside0 (some b ≠ (Value.slice A l.length c).ownBlock) := ⟨fun e => by have := Kd.R_base hO b e.symm; omega⟩
  have hb1 : at_ ≤ at_ + n := by omega
  have hw : IntKind.i64.wrap (at_ + n) = at_ + n := by rw [IntKind.wrap_i64]; omega
  have hbase' : Aside0 (base ≤ w.drew.heap.size) := ⟨hbase⟩
  clear hO h
  go_enter Tryd.func58, Tryd.ntmps58
  go_wp2_with fail
  refine start_ (n := 31) (S := fun w' => w'.cell? ⟨b, 0, none⟩ = some (.string s) ∧ w'.cell? ⟨b, 1, none⟩ = some (.int .i64 at_) ∧ w'.cell? ⟨b, 2, none⟩ = some (.slice A l.length c)) (ds := [27, 30]) #[false, false, false, false, false, false, false, false, false, false, false, false, false, false, false, false, false, false, false, false, false, false, false, false, false, false, false, false, false, false, false] (by kernel_rfl) rfl rfl ⟨HR.out.cell0, HR.out.cell1, HR.out.cell2⟩ (fun hHeld => ?_)
  generalize w.drew = w3 at HO HR HF hbase' hHeld ⊢
  refine pure_ (i := 0) (N := some 6) (v := ?_) (a' := ?_) #[true, false, false, false, false, false, false, false, false, false, false, false, false, false, false, false, false, false, false, false, false, false, false, false, false, false, false, false, false, false, false] rfl rfl (by kernel_rfl) (fun _ _ _ h => h) (Or.inl ⟨by rfl, ?_⟩) ?_ ?_
  rotate_left
  · intro w'
    go_simp
    with_reducible rfl
  rotate_left
  · simp only [Act.put, List.setIfInBounds_toArray, List.set_cons_zero, List.set_cons_succ, i64_w, i32_w]
    rfl
  refine pure_ (i := 1) (N := some 7) (v := ?_) (a' := ?_) #[true, true, false, false, false, false, false, false, false, false, false, false, false, false, false, false, false, false, false, false, false, false, false, false, false, false, false, false, false, false, false] rfl rfl (by kernel_rfl) (fun _ _ _ h => h) (Or.inl ⟨by rfl, ?_⟩) ?_ ?_
  rotate_left
  · intro w'
    go_simp
    with_reducible rfl
  rotate_left
  · simp only [Act.put, List.setIfInBounds_toArray, List.set_cons_zero, List.set_cons_succ, i64_w, i32_w]
    rfl
  refine pure_ (i := 2) (N := some 8) (v := ?_) (a' := ?_) #[true, true, true, false, false, false, false, false, false, false, false, false, false, false, false, false, false, false, false, false, false, false, false, false, false, false, false, false, false, false, false] rfl rfl (by kernel_rfl) (fun _ _ _ h => h) (Or.inl ⟨by rfl, ?_⟩) ?_ ?_
  rotate_left
  · intro w'
    go_simp
    with_reducible rfl
  rotate_left
  · simp only [Act.put, List.setIfInBounds_toArray, List.set_cons_zero, List.set_cons_succ, i64_w, i32_w]
    rfl
  refine pure_ (i := 3) (N := some 9) (v := ?_) (a' := ?_) #[true, true, true, true, false, false, false, false, false, false, false, false, false, false, false, false, false, false, false, false, false, false, false, false, false, false, false, false, false, false, false] rfl rfl (by kernel_rfl) (fun _ _ _ h => h) (Or.inl ⟨by rfl, ?_⟩) ?_ ?_
  rotate_left
  · intro w'
    go_simp
    with_reducible rfl
  rotate_left
  · simp only [Act.put, List.setIfInBounds_toArray, List.set_cons_zero, List.set_cons_succ, i64_w, i32_w]
    rfl
  refine pure_ (i := 5) (N := some 11) (v := ?_) (a' := ?_) #[true, true, true, true, false, true, false, false, false, false, false, false, false, false, false, false, false, false, false, false, false, false, false, false, false, false, false, false, false, false, false] rfl rfl (by kernel_rfl) (fun _ _ _ h => h) (Or.inl ⟨by rfl, ?_⟩) ?_ ?_
  rotate_left
  · intro w'
    go_simp
    with_reducible rfl
  rotate_left
  · simp only [Act.put, List.setIfInBounds_toArray, List.set_cons_zero, List.set_cons_succ, i64_w, i32_w]
    rfl
  refine pure_ (i := 6) (N := some 12) (v := ?_) (a' := ?_) #[true, true, true, true, false, true, true, false, false, false, false, false, false, false, false, false, false, false, false, false, false, false, false, false, false, false, false, false, false, false, false] rfl rfl (by kernel_rfl) (fun _ _ _ h => h) (Or.inl ⟨by rfl, ?_⟩) ?_ ?_
  rotate_left
  · intro w'
    go_simp
    with_reducible rfl
  rotate_left
  · simp only [Act.put, List.setIfInBounds_toArray, List.set_cons_zero, List.set_cons_succ, i64_w, i32_w]
    rfl
  refine pure_ (i := 7) (N := some 13) (v := ?_) (a' := ?_) #[true, true, true, true, false, true, true, true, false, false, false, false, false, false, false, false, false, false, false, false, false, false, false, false, false, false, false, false, false, false, false] rfl rfl (by kernel_rfl) (fun _ _ _ h => h) (Or.inl ⟨by rfl, ?_⟩) ?_ ?_
  rotate_left
  · intro w'
    go_simp
    with_reducible rfl
  rotate_left
  · simp only [Act.put, List.setIfInBounds_toArray, List.set_cons_zero, List.set_cons_succ, i64_w, i32_w]
    rfl
  refine pure_ (i := 8) (N := some 14) (v := ?_) (a' := ?_) #[true, true, true, true, false, true, true, true, true, false, false, false, false, false, false, false, false, false, false, false, false, false, false, false, false, false, false, false, false, false, false] rfl rfl (by kernel_rfl) (fun _ _ _ h => h) (Or.inl ⟨by rfl, ?_⟩) ?_ ?_
  rotate_left
  · intro w'
    go_simp
    with_reducible rfl
  rotate_left
  · simp only [Act.put, List.setIfInBounds_toArray, List.set_cons_zero, List.set_cons_succ, i64_w, i32_w]
    rfl
  refine pure_ (i := 10) (N := some 16) (v := ?_) (a' := ?_) #[true, true, true, true, false, true, true, true, true, false, true, false, false, false, false, false, false, false, false, false, false, false, false, false, false, false, false, false, false, false, false] rfl rfl (by kernel_rfl) (fun _ _ _ h => h) (Or.inl ⟨by rfl, ?_⟩) ?_ ?_
  rotate_left
  · intro w'
    go_simp
    with_reducible rfl
  rotate_left
  · simp only [Act.put, List.setIfInBounds_toArray, List.set_cons_zero, List.set_cons_succ, i64_w, i32_w]
    rfl
  refine pure_ (i := 11) (N := some 17) (v := ?_) (a' := ?_) #[true, true, true, true, false, true, true, true, true, false, true, true, false, false, false, false, false, false, false, false, false, false, false, false, false, false, false, false, false, false, false] rfl rfl (by kernel_rfl) (fun _ _ _ h => h) (Or.inl ⟨by rfl, ?_⟩) ?_ ?_
  rotate_left
  · intro w'
    go_simp
    with_reducible rfl
  rotate_left
  · simp only [Act.put, List.setIfInBounds_toArray, List.set_cons_zero, List.set_cons_succ, i64_w, i32_w]
    rfl
  refine pure_ (i := 12) (N := some 18) (v := ?_) (a' := ?_) #[true, true, true, true, false, true, true, true, true, false, true, true, true, false, false, false, false, false, false, false, false, false, false, false, false, false, false, false, false, false, false] rfl rfl (by kernel_rfl) (fun _ _ _ h => h) (Or.inl ⟨by rfl, ?_⟩) ?_ ?_
  rotate_left
  · intro w'
    go_simp
    with_reducible rfl
  rotate_left
  · simp only [Act.put, List.setIfInBounds_toArray, List.set_cons_zero, List.set_cons_succ, i64_w, i32_w]
    rfl
  refine pure_ (i := 14) (N := some 20) (v := ?_) (a' := ?_) #[true, true, true, true, false, true, true, true, true, false, true, true, true, false, true, false, false, false, false, false, false, false, false, false, false, false, false, false, false, false, false] rfl rfl (by kernel_rfl) (fun _ _ _ h => h) (Or.inl ⟨by rfl, ?_⟩) ?_ ?_
  rotate_left
  · intro w'
    go_simp
    with_reducible rfl
  rotate_left
  · simp only [Act.put, List.setIfInBounds_toArray, List.set_cons_zero, List.set_cons_succ, i64_w, i32_w]
    rfl
  refine pure_ (i := 15) (N := some 21) (v := ?_) (a' := ?_) #[true, true, true, true, false, true, true, true, true, false, true, true, true, false, true, true, false, false, false, false, false, false, false, false, false, false, false, false, false, false, false] rfl rfl (by kernel_rfl) (fun _ _ _ h => h) (Or.inl ⟨by rfl, ?_⟩) ?_ ?_
  rotate_left
  · intro w'
    go_simp
    with_reducible rfl
  rotate_left
  · simp only [Act.put, List.setIfInBounds_toArray, List.set_cons_zero, List.set_cons_succ, i64_w, i32_w]
    rfl
  refine pure_ (i := 16) (N := some 22) (v := ?_) (a' := ?_) #[true, true, true, true, false, true, true, true, true, false, true, true, true, false, true, true, true, false, false, false, false, false, false, false, false, false, false, false, false, false, false] rfl rfl (by kernel_rfl) (fun _ _ _ h => h) (Or.inl ⟨by rfl, ?_⟩) ?_ ?_
  rotate_left
  · intro w'
    go_simp
    with_reducible rfl
  rotate_left
  · simp only [Act.put, List.setIfInBounds_toArray, List.set_cons_zero, List.set_cons_succ, i64_w, i32_w]
    rfl
  refine pure_ (i := 18) (N := some 24) (v := ?_) (a' := ?_) #[true, true, true, true, false, true, true, true, true, false, true, true, true, false, true, true, true, false, true, false, false, false, false, false, false, false, false, false, false, false, false] rfl rfl (by kernel_rfl) (fun _ _ _ h => h) (Or.inl ⟨by rfl, ?_⟩) ?_ ?_
  rotate_left
  · intro w'
    go_simp
    with_reducible rfl
  rotate_left
  · simp only [Act.put, List.setIfInBounds_toArray, List.set_cons_zero, List.set_cons_succ, i64_w, i32_w]
    rfl
  refine pure_ (i := 21) (N := some 27) (v := ?_) (a' := ?_) #[true, true, true, true, false, true, true, true, true, false, true, true, true, false, true, true, true, false, true, false, false, true, false, false, false, false, false, false, false, false, false] rfl rfl (by kernel_rfl) (fun _ _ _ h => h) (Or.inl ⟨by rfl, ?_⟩) ?_ ?_
  rotate_left
  · intro w'
    go_simp
    with_reducible rfl
  rotate_left
  · simp only [Act.put, List.setIfInBounds_toArray, List.set_cons_zero, List.set_cons_succ, i64_w, i32_w]
    rfl
  refine pure_ (i := 22) (N := some 28) (v := ?_) (a' := ?_) #[true, true, true, true, false, true, true, true, true, false, true, true, true, false, true, true, true, false, true, false, false, true, true, false, false, false, false, false, false, false, false] rfl rfl (by kernel_rfl) (fun _ _ _ h => h) (Or.inl ⟨by rfl, ?_⟩) ?_ ?_
  rotate_left
  · intro w'
    go_simp
    with_reducible rfl
  rotate_left
  · simp only [Act.put, List.setIfInBounds_toArray, List.set_cons_zero, List.set_cons_succ, i64_w, i32_w]
    rfl
  refine pure_ (i := 23) (N := some 29) (v := ?_) (a' := ?_) #[true, true, true, true, false, true, true, true, true, false, true, true, true, false, true, true, true, false, true, false, false, true, true, true, false, false, false, false, false, false, false] rfl rfl (by kernel_rfl) (fun _ _ _ h => h) (Or.inl ⟨by rfl, ?_⟩) ?_ ?_
  rotate_left
  · intro w'
    go_simp
    with_reducible rfl
  rotate_left
  · simp only [Act.put, List.setIfInBounds_toArray, List.set_cons_zero, List.set_cons_succ, i64_w, i32_w]
    rfl
  refine take_ (i := 4) (N := some 10) (v := ?_) (a' := ?_) #[true, true, true, true, true, true, true, true, true, false, true, true, true, false, true, true, true, false, true, false, false, true, true, true, false, false, false, false, false, false, false] rfl rfl (by kernel_rfl) (fun _ _ _ h => h) (Or.inl ⟨by rfl, ?_⟩) hHeld ?_ ?_
  rotate_left
  · rintro w' ⟨s0, s1, s2⟩
    go_simp
    with_reducible rfl
  rotate_left
  · simp only [Act.put, List.setIfInBounds_toArray, List.set_cons_zero, List.set_cons_succ, i64_w, i32_w]
    rfl
  refine take_ (i := 9) (N := some 15) (v := ?_) (a' := ?_) #[true, true, true, true, true, true, true, true, true, true, true, true, true, false, true, true, true, false, true, false, false, true, true, true, false, false, false, false, false, false, false] rfl rfl (by kernel_rfl) (fun _ _ _ h => h) (Or.inl ⟨by rfl, ?_⟩) hHeld ?_ ?_
  rotate_left
  · rintro w' ⟨s0, s1, s2⟩
    go_simp
    with_reducible rfl
  rotate_left
  · simp only [Act.put, List.setIfInBounds_toArray, List.set_cons_zero, List.set_cons_succ, i64_w, i32_w]
    rfl
  refine take_ (i := 13) (N := some 19) (v := ?_) (a' := ?_) #[true, true, true, true, true, true, true, true, true, true, true, true, true, true, true, true, true, false, true, false, false, true, true, true, false, false, false, false, false, false, false] rfl rfl (by kernel_rfl) (fun _ _ _ h => h) (Or.inl ⟨by rfl, ?_⟩) hHeld ?_ ?_
  rotate_left
  · rintro w' ⟨s0, s1, s2⟩
    go_simp
    with_reducible rfl
  rotate_left
  · simp only [Act.put, List.setIfInBounds_toArray, List.set_cons_zero, List.set_cons_succ, i64_w, i32_w]
    rfl
  refine take_ (i := 17) (N := some 23) (v := ?_) (a' := ?_) #[true, true, true, true, true, true, true, true, true, true, true, true, true, true, true, true, true, true, true, false, false, true, true, true, false, false, false, false, false, false, false] rfl rfl (by kernel_rfl) (fun _ _ _ h => h) (Or.inl ⟨by rfl, ?_⟩) hHeld ?_ ?_
  rotate_left
  · rintro w' ⟨s0, s1, s2⟩
    go_simp
    with_reducible rfl
  rotate_left
  · simp only [Act.put, List.setIfInBounds_toArray, List.set_cons_zero, List.set_cons_succ, i64_w, i32_w]
    rfl
  refine pure_ (i := 19) (N := some 25) (v := ?_) (a' := ?_) #[true, true, true, true, true, true, true, true, true, true, true, true, true, true, true, true, true, true, true, true, false, true, true, true, false, false, false, false, false, false, false] rfl rfl (by kernel_rfl) (fun _ _ _ h => h) (Or.inl ⟨by rfl, ?_⟩) ?_ ?_
  rotate_left
  · intro w'
    go_simp
    with_reducible rfl
  rotate_left
  · simp only [Act.put, List.setIfInBounds_toArray, List.set_cons_zero, List.set_cons_succ, i64_w, i32_w]
    rfl
  refine pure_ (i := 20) (N := some 26) (v := ?_) (a' := ?_) #[true, true, true, true, true, true, true, true, true, true, true, true, true, true, true, true, true, true, true, true, true, true, true, true, false, false, false, false, false, false, false] rfl rfl (by kernel_rfl) (fun _ _ _ h => h) (Or.inl ⟨by rfl, ?_⟩) ?_ ?_
  rotate_left
  · intro w'
    go_simp
    with_reducible rfl
  rotate_left
  · simp only [Act.put, List.setIfInBounds_toArray, List.set_cons_zero, List.set_cons_succ, i64_w, i32_w]
    rfl
  refine take_ (i := 24) (N := some 30) (v := ?_) (a' := ?_) #[true, true, true, true, true, true, true, true, true, true, true, true, true, true, true, true, true, true, true, true, true, true, true, true, true, false, false, false, false, false, false] rfl rfl (by kernel_rfl) (fun _ _ _ h => h) (Or.inl ⟨by rfl, ?_⟩) hHeld ?_ ?_
  rotate_left
  · rintro w' ⟨s0, s1, s2⟩
    go_simp
    with_reducible rfl
  rotate_left
  · simp only [Act.put, List.setIfInBounds_toArray, List.set_cons_zero, List.set_cons_succ, i64_w, i32_w]
    rfl
  refine pure_ (i := 25) (N := some 31) (v := ?_) (a' := ?_) #[true, true, true, true, true, true, true, true, true, true, true, true, true, true, true, true, true, true, true, true, true, true, true, true, true, true, false, false, false, false, false] rfl rfl (by kernel_rfl) (fun _ _ _ h => h) (Or.inl ⟨by rfl, ?_⟩) ?_ ?_
  rotate_left
  · intro w'
    go_simp
    with_reducible rfl
  rotate_left
  · simp only [Act.put, List.setIfInBounds_toArray, List.set_cons_zero, List.set_cons_succ, i64_w, i32_w]
    rfl
  refine one_ (i := 26) (N := some 32) #[true, true, true, true, true, true, true, true, true, true, true, true, true, true, true, true, true, true, true, true, true, true, true, true, true, true, true, false, false, false, false] rfl rfl (by kernel_rfl) (by decide) (fun K hK => ?_)
  refine value_ (w1 := ?_) (v := ?_) (by rfl) rfl ?_ ?_
  rotate_left 2
  · go_simp
    constructor
    · rfl
    · rfl
  refine hK.out _ _ ⟨(World.cell?_alloc_lt _ _ _ (World.block_lt_of_cell? _ _ (hHeld.1))).trans (hHeld.1), (World.cell?_alloc_lt _ _ _ (World.block_lt_of_cell? _ _ (hHeld.2.1))).trans (hHeld.2.1), (World.cell?_alloc_lt _ _ _ (World.block_lt_of_cell? _ _ (hHeld.2.2))).trans (hHeld.2.2)⟩ (fun hHeld => ?_)
  clear hK K
  refine norm_ (a' := ?_) ?_ ?_
  rotate_left
  · show Act.put _ (some 32) _ = _
    simp only [Act.put, List.setIfInBounds_toArray, List.set_cons_zero, List.set_cons_succ, i64_w, i32_w]
    rfl
  refine last_ (i := 27) (N := some 33) #[true, true, true, true, true, true, true, true, true, true, true, true, true, true, true, true, true, true, true, true, true, true, true, true, true, true, true, true, false, false, false] rfl rfl (by kernel_rfl) (by decide) (fun K hK => ?_)
  refine Kd.R_append_step k32 (W := w3) (w0 := w3) base (by rfl) (.tmp 10) (.tmp 32) 23 32 (.agg #[(.int .i64 0), (.string ⟨#[]⟩), (.int .i64 0)]) 32 (by rfl) Tryd.underlying23 info32 rfl (by decide) (by omega) (.slice A l.length c) l ⟨kind, s.extract at_.toNat (at_ + n).toNat, at_⟩ [.int .i64 kind, .string (s.extract at_.toNat (at_ + n).toNat), .int .i64 at_] (fun _ => True) (fun _ => False) (by rfl) (by rfl) (k32_mkM _ _ _ (⟨kind, s.extract at_.toNat (at_ + n).toNat, at_⟩ : S32)) (fun _ hk => hk.elim) (fun _ _ => trivial) HO.out (Below.refl _ _) hbase'.out (by omega) ?_
  intro v1 w1 ho hbw hgrow hat1
  obtain ⟨A1, c1', rfl⟩ := Kd.R_slice ho
  have HR1 := Aside0.mk (Rdr.grown HR.out hgrow hne.out)
  have HF1 := Aside0.mk (Fr.grown HF.out hgrow hbase'.out (fun k e => Kd.R_base HO.out k e))
  have ho1 := Aside0.mk ho
  clear ho hbw hgrow hat1 HO HR HF hbase' hHeld
  have fz2 := HR1.out.fz 2
  have ce2 := HR1.out.cell2
  refine hK.out _ _ ?_
  clear hK K
  refine norm_ (a' := ?_) ?_ ?_
  rotate_left
  · show Act.put _ (some 33) _ = _
    simp only [Act.put, List.setIfInBounds_toArray, List.set_cons_zero, List.set_cons_succ, i64_w, i32_w]
    rfl
  refine pure_ (i := 28) (N := some 34) (v := ?_) (a' := ?_) #[true, true, true, true, true, true, true, true, true, true, true, true, true, true, true, true, true, true, true, true, true, true, true, true, true, true, true, true, true, false, false] rfl rfl (by kernel_rfl) (fun _ _ _ h => h) (Or.inl ⟨by rfl, ?_⟩) ?_ ?_
  rotate_left
  · intro w'
    go_simp
    with_reducible rfl
  rotate_left
  · simp only [Act.put, List.setIfInBounds_toArray, List.set_cons_zero, List.set_cons_succ, i64_w, i32_w]
    rfl
  refine pure_ (i := 29) (N := some 35) (v := ?_) (a' := ?_) #[true, true, true, true, true, true, true, true, true, true, true, true, true, true, true, true, true, true, true, true, true, true, true, true, true, true, true, true, true, true, false] rfl rfl (by kernel_rfl) (fun _ _ _ h => h) (Or.inl ⟨by rfl, ?_⟩) ?_ ?_
  rotate_left
  · intro w'
    go_simp
    with_reducible rfl
  rotate_left
  · simp only [Act.put, List.setIfInBounds_toArray, List.set_cons_zero, List.set_cons_succ, i64_w, i32_w]
    rfl
  refine last_ (i := 30) (N := none) #[true, true, true, true, true, true, true, true, true, true, true, true, true, true, true, true, true, true, true, true, true, true, true, true, true, true, true, true, true, true, true] rfl rfl (by kernel_rfl) (by decide) (fun K hK => ?_)
  refine skip_ (w1 := ?_) (by rfl) rfl ?_ ?_
  rotate_left
  · go_simp
    rfl
  refine hK.out _ _ ?_
  clear hK K
  refine done_ (by kernel_rfl) ?_
  have hlen : (l ++ [(⟨kind, s.extract at_.toNat (at_ + n).toNat, at_⟩ : S32)]).length = l.length + 1 := by simp
  have HO1 := ho1.out
  rw [hlen] at HO1
  have HR2 := Aside0.mk (Rdr.set2 HR1.out (.slice A1 (l.length + 1) c1'))
  have HF2 := Aside0.mk (Fr.set HF1.out 2 (.slice A1 (l.length + 1) c1'))
  have HO2 := Aside0.mk (Kd.R_far (p := ⟨b, 2, none⟩) (Kd.R_mono (Kd.R_bound HO1) (fun k hk => (⟨trivial, fun e => by subst e; exact Nat.not_lt.2 hk.2.1 hb⟩ : True ∧ k ≠ b))) (fun _ hk => hk.2) (.slice A1 (l.length + 1) c1'))
  have ce1 := HR1.out.cell1
  have fz1 := HR1.out.fz 1
  have ce0 := HR1.out.cell0
  clear HR1 HF1 ho1 fz2 ce2 HO1
  go_wp2
  go_end0
  exact ⟨_, rfl, Rdr.set1 HR2.out (at_ + n), Kd.R_mono (Kd.R_far (p := ⟨b, 1, none⟩) (Kd.R_mono (Kd.R_bound HO2.out) (fun k hk => (⟨trivial, fun e => by subst e; exact Nat.not_lt.2 hk.2.1 hb⟩ : True ∧ k ≠ b))) (fun _ hk => hk.2) _) (fun _ _ => trivial), Fr.set HF2.out 1 _⟩


end
section
-- @GIVEN@ 25
/-! ### reader_sign: by hand -/
-- GIVEN (*doorman/token.reader).sign rounds=0 making=1 helper=1
--import Derived.Test.YtkgnhghaiopgcaaDoorAid
--import Derived.Deep.DrawnRows
--import Derived.Lib.Strings
open Go.Proofs.YtkgnhghaiopgcaaDoor.Aid
attribute [local go_sem ↓] Go.wp_at_zero Go.wp_at_succ

set_option maxHeartbeats 1000000 in
theorem reader_sign (b base : Nat) (s : ByteArray) (at_ e : Int) (v : Value) (l : List S32) (w : World) (h : Rdr w b s at_ v e)
    (hO : k32.R 32 w base (fun _ => True) v l) (hb : b < base) (hbase : base ≤ w.heap.size) (h0 : 0 ≤ at_) (hat : at_ + 1 ≤ (s.size : Int)) (hs : s.size ≤ 4096) (hl : l.length ≤ 4096) :
    Calls Tryd.prog 56 #[.pointer (some ⟨b, 0, none⟩)] w fun en w' => ∃ v1, en = .returned (.tuple #[]) ∧
      Rdr w' b s (at_ + 1) v1 e ∧ k32.R 32 w' base (fun _ => True) v1 (l ++ [⟨2, s.extract at_.toNat (at_ + 1).toNat, at_⟩]) ∧ Fr b base w w' := by
  have H := Aside0.mk h
  have HO := Aside0.mk hO
  clear h hO
  go_enter Tryd.func56, Tryd.ntmps56
  go_wp2_with fail
  refine (reader_put b base s at_ e 2 1 v l _ H.out HO.out hb hbase h0 (by omega) hat hs hl).mono ?_
  rintro en w' ⟨v1, rfl, hR, hO1, hF⟩
  have HR1 := Aside0.mk hR
  have HO1 := Aside0.mk hO1
  have HF1 := Aside0.mk hF
  clear hR hO1 hF H HO
  go_wp2
  go_end0
  exact ⟨v1, rfl, HR1.out, HO1.out, HF1.out⟩


end
section
-- @GIVEN@ 25
/-! ### reader_note: by hand -/
-- GIVEN (*doorman/token.reader).note rounds=0 making=1 helper=1
--import Derived.Test.YtkgnhghaiopgcaaDoorAid
--import Derived.Deep.DrawnRows
--import Derived.Lib.Strings
open Go.Proofs.YtkgnhghaiopgcaaDoor.Aid
attribute [local go_sem ↓] Go.wp_at_zero Go.wp_at_succ

/-- How many bytes stand ahead of a newline, or of the end. -/
def noteLen : List UInt8 → Nat
  | [] => 0
  | c :: r => if c = 10 then 0 else noteLen r + 1

theorem slashes_tells (t : ByteArray) : strings_HasPrefix.f t ⟨#[47, 47]⟩ = some (decide (t.data.toList.take 2 = [47, 47])) := by
  unfold strings_HasPrefix.f stringslite_HasPrefix.f
  have e3 : ((⟨#[47, 47]⟩ : ByteArray).size : Int) = 2 := rfl
  have el : (⟨#[47, 47]⟩ : ByteArray).toList = [47, 47] := by rw [ByteArray.toList_eq]
  rw [e3, el]
  by_cases h : (t.size : Int) ≥ 2
  · rw [if_pos h, if_pos (by omega), if_pos (by omega), ByteArray.toList_eq, Lib.extract_data]
    simp only [Option.bind_some, List.drop_zero, Option.some.injEq]
    rw [Bool.eq_iff_iff]; simp
  · rw [if_neg h]
    simp only [Option.bind_some, Option.some.injEq]
    rw [eq_comm, decide_eq_false_iff_not]
    intro e
    have := congrArg List.length e
    have hl : t.data.toList.length = t.size := by rw [Array.length_toList]; rfl
    simp only [List.length_take, hl, List.length_cons, List.length_nil] at this; omega

theorem noteLen_upto (l : List UInt8) : noteLen l = uptoByte 10 l := by
  induction l with
  | nil => rfl
  | cons b r ih => unfold noteLen uptoByte; rw [ih]

theorem quiet_ofD {P : Program} {f : FuncId} {args : Array Value} {w : World} {n : Nat} {v : Value}
    (h : Calls P f args (w.drewN n) fun e w' => e = .returned v ∧ Drawn0 (w.drewN n) w') : Calls P f args (w.drewN n) fun e w'' => e = .returned v ∧ ∃ m, w'' = w.drewN m :=
  Calls.quiet_of (h.mono fun _ _ ⟨he, hd⟩ => ⟨he, hd.out⟩)

set_option maxHeartbeats 4000000 in
set_option maxRecDepth 100000 in
theorem reader_note_no (b : Nat) (s : ByteArray) (p : Nat) (e : Int) (v : Value) (w : World) (h : Rdr w b s p v e) (hp : p ≤ s.size) (hs : s.size ≤ 4096) (hn : ¬ (s.data.toList.drop p).take 2 = [47, 47]) :
    Calls Tryd.prog 55 #[.pointer (some ⟨b, 0, none⟩)] w fun en w' => en = .returned (.tuple #[]) ∧ ∃ m, w' = (w.setCell ⟨b, 3, none⟩ (.int .i64 30)).drewN m := by
  have ex : (s.extract p s.size).data.toList = s.data.toList.drop p := by
    rw [Lib.extract_data]
    exact List.take_of_length_le (by rw [List.length_drop, Array.length_toList]; exact Nat.le_refl _)
  have hp0 : Aside0 (strings_HasPrefix.f (s.extract p s.size) ⟨#[47, 47]⟩ = some false) := ⟨by
    rw [slashes_tells, decide_eq_false]
    rw [ex]; exact hn⟩
  have c0 := h.cell0
  have c1 := h.cell1
  have c3 := h.cell3
  have f3 := h.fz 3
  have b1 : (0 : Int) ≤ (p : Int) := by omega
  have b2 : (p : Int) ≤ s.size := by omega
  clear hn ex
  go_enter Tryd.func55, Tryd.ntmps55
  go_wp2_with fail
  go_quiet ((go_at_call 63; exact quiet_ofD (strings_HasPrefix.calls _ _ false _ hp0.out)))
  go_wp2
  refine bodyPost_ret (results_none rfl _ _ _) rfl ?_
  exact ⟨rfl, _, rfl⟩

set_option maxHeartbeats 4000000 in
set_option maxRecDepth 100000 in
theorem reader_note_yes (b : Nat) (s : ByteArray) (p : Nat) (e : Int) (v : Value) (w : World) (h : Rdr w b s p v e) (hp : p ≤ s.size) (hs : s.size ≤ 4096) (hn : (s.data.toList.drop p).take 2 = [47, 47]) :
    Calls Tryd.prog 55 #[.pointer (some ⟨b, 0, none⟩)] w fun en w' => en = .returned (.tuple #[]) ∧ ∃ m, w' = (w.setCell ⟨b, 1, none⟩ (.int .i64 ((p : Int) + noteLen (s.data.toList.drop p)))).drewN m := by
  have ex : (s.extract p s.size).data.toList = s.data.toList.drop p := by
    rw [Lib.extract_data]
    exact List.take_of_length_le (by rw [List.length_drop, Array.length_toList]; exact Nat.le_refl _)
  have hp0 : Aside0 (strings_HasPrefix.f (s.extract p s.size) ⟨#[47, 47]⟩ = some true) := ⟨by
    rw [slashes_tells, decide_eq_true]
    rw [ex]; exact hn⟩
  have hle : noteLen (s.data.toList.drop p) ≤ s.size - p := by
    rw [noteLen_upto]
    have := uptoByte_le 10 (s.data.toList.drop p)
    rw [List.length_drop, Array.length_toList] at this; exact this
  obtain ⟨cx, cy, cf, hcx, hcut⟩ := strings_Cut.one (s.extract p s.size) 10 (by rw [ByteArray.size_extract]; omega)
  rw [ex, ← noteLen_upto] at hcx
  have hcut := Aside0.mk hcut
  obtain ⟨m, hm⟩ : ∃ m, m = noteLen (s.data.toList.drop p) := ⟨_, rfl⟩
  rw [← hm] at hle hcx ⊢
  have c0 := h.cell0
  have c1 := h.cell1
  have f1 := h.fz 1
  have hw : IntKind.i64.wrap ((p : Int) + m) = (p : Int) + m := by rw [IntKind.wrap_i64]; omega
  have b1 : (0 : Int) ≤ (p : Int) := by omega
  have b2 : (p : Int) ≤ s.size := by omega
  clear hn ex hm
  go_enter Tryd.func55, Tryd.ntmps55
  go_wp2_with fail
  go_quiet ((go_at_call 63; exact quiet_ofD (strings_HasPrefix.calls _ _ true _ hp0.out)))
  go_wp2_with fail
  refine start_ (n := 17) (S := fun w' => w'.cell? ⟨b, 0, none⟩ = some (.string s) ∧ w'.cell? ⟨b, 1, none⟩ = some (.int .i64 (p : Int))) (ds := []) #[false, false, false, false, false, false, false, false, false, false, false, false, false, false, false, false, false] (by kernel_rfl) rfl rfl ⟨c0, c1⟩ (fun hHeld => ?_)
  refine pure_ (i := 0) (N := some 20) (v := ?_) (a' := ?_) #[true, false, false, false, false, false, false, false, false, false, false, false, false, false, false, false, false] rfl rfl (by kernel_rfl) (fun _ _ _ h => h) (Or.inl ⟨by rfl, ?_⟩) ?_ ?_
  rotate_left
  · intro w'
    go_simp
    with_reducible rfl
  rotate_left
  · simp only [Act.put, List.setIfInBounds_toArray, List.set_cons_zero, List.set_cons_succ, i64_w, i32_w]
    rfl
  refine pure_ (i := 1) (N := some 21) (v := ?_) (a' := ?_) #[true, true, false, false, false, false, false, false, false, false, false, false, false, false, false, false, false] rfl rfl (by kernel_rfl) (fun _ _ _ h => h) (Or.inl ⟨by rfl, ?_⟩) ?_ ?_
  rotate_left
  · intro w'
    go_simp
    with_reducible rfl
  rotate_left
  · simp only [Act.put, List.setIfInBounds_toArray, List.set_cons_zero, List.set_cons_succ, i64_w, i32_w]
    rfl
  refine pure_ (i := 2) (N := some 22) (v := ?_) (a' := ?_) #[true, true, true, false, false, false, false, false, false, false, false, false, false, false, false, false, false] rfl rfl (by kernel_rfl) (fun _ _ _ h => h) (Or.inl ⟨by rfl, ?_⟩) ?_ ?_
  rotate_left
  · intro w'
    go_simp
    with_reducible rfl
  rotate_left
  · simp only [Act.put, List.setIfInBounds_toArray, List.set_cons_zero, List.set_cons_succ, i64_w, i32_w]
    rfl
  refine pure_ (i := 4) (N := some 24) (v := ?_) (a' := ?_) #[true, true, true, false, true, false, false, false, false, false, false, false, false, false, false, false, false] rfl rfl (by kernel_rfl) (fun _ _ _ h => h) (Or.inl ⟨by rfl, ?_⟩) ?_ ?_
  rotate_left
  · intro w'
    go_simp
    with_reducible rfl
  rotate_left
  · simp only [Act.put, List.setIfInBounds_toArray, List.set_cons_zero, List.set_cons_succ, i64_w, i32_w]
    rfl
  refine pure_ (i := 5) (N := some 25) (v := ?_) (a' := ?_) #[true, true, true, false, true, true, false, false, false, false, false, false, false, false, false, false, false] rfl rfl (by kernel_rfl) (fun _ _ _ h => h) (Or.inl ⟨by rfl, ?_⟩) ?_ ?_
  rotate_left
  · intro w'
    go_simp
    with_reducible rfl
  rotate_left
  · simp only [Act.put, List.setIfInBounds_toArray, List.set_cons_zero, List.set_cons_succ, i64_w, i32_w]
    rfl
  refine pure_ (i := 6) (N := some 26) (v := ?_) (a' := ?_) #[true, true, true, false, true, true, true, false, false, false, false, false, false, false, false, false, false] rfl rfl (by kernel_rfl) (fun _ _ _ h => h) (Or.inl ⟨by rfl, ?_⟩) ?_ ?_
  rotate_left
  · intro w'
    go_simp
    with_reducible rfl
  rotate_left
  · simp only [Act.put, List.setIfInBounds_toArray, List.set_cons_zero, List.set_cons_succ, i64_w, i32_w]
    rfl
  refine take_ (i := 3) (N := some 23) (v := ?_) (a' := ?_) #[true, true, true, true, true, true, true, false, false, false, false, false, false, false, false, false, false] rfl rfl (by kernel_rfl) (fun _ _ _ h => h) (Or.inl ⟨by rfl, ?_⟩) hHeld ?_ ?_
  rotate_left
  · rintro w' ⟨s0, s1⟩
    go_simp
    with_reducible rfl
  rotate_left
  · simp only [Act.put, List.setIfInBounds_toArray, List.set_cons_zero, List.set_cons_succ, i64_w, i32_w]
    rfl
  refine take_ (i := 7) (N := some 27) (v := ?_) (a' := ?_) #[true, true, true, true, true, true, true, true, false, false, false, false, false, false, false, false, false] rfl rfl (by kernel_rfl) (fun _ _ _ h => h) (Or.inl ⟨by rfl, ?_⟩) hHeld ?_ ?_
  rotate_left
  · rintro w' ⟨s0, s1⟩
    go_simp
    with_reducible rfl
  rotate_left
  · simp only [Act.put, List.setIfInBounds_toArray, List.set_cons_zero, List.set_cons_succ, i64_w, i32_w]
    rfl
  refine pure_ (i := 8) (N := some 28) (v := ?_) (a' := ?_) #[true, true, true, true, true, true, true, true, true, false, false, false, false, false, false, false, false] rfl rfl (by kernel_rfl) (fun _ _ _ h => h) (Or.inl ⟨by rfl, ?_⟩) ?_ ?_
  rotate_left
  · intro w'
    go_simp
    with_reducible rfl
  rotate_left
  · simp only [Act.put, List.setIfInBounds_toArray, List.set_cons_zero, List.set_cons_succ, i64_w, i32_w]
    rfl
  refine one_ (i := 9) (N := some 29) #[true, true, true, true, true, true, true, true, true, true, false, false, false, false, false, false, false] rfl rfl (by kernel_rfl) (by decide) (fun K hK => ?_)
  refine goes_ Tryd.func94 (by kernel_rfl) rfl #[.string (s.extract p s.size), .string ⟨#[10]⟩] (by rfl) rfl rfl (by simp only [List.map_toArray, List.map_cons, List.map_nil]; rfl) ?_
  with_reducible refine (hcut.out _).mono ?_
  rintro en w3 ⟨rfl, ⟨md, rfl⟩⟩
  refine ⟨_, rfl, ?_⟩
  refine hK.out _ _ ⟨c0, c1⟩ (fun hHeld => ?_)
  clear hK K
  refine norm_ (a' := ?_) ?_ ?_
  rotate_left
  · show Act.put _ (some 29) _ = _
    simp only [Act.put, List.setIfInBounds_toArray, List.set_cons_zero, List.set_cons_succ, i64_w, i32_w]
    rfl
  refine pure_ (i := 10) (N := some 19) (v := ?_) (a' := ?_) #[true, true, true, true, true, true, true, true, true, true, true, false, false, false, false, false, false] rfl rfl (by kernel_rfl) (fun _ _ _ h => h) (Or.inl ⟨by rfl, ?_⟩) ?_ ?_
  rotate_left
  · intro w'
    go_simp
    with_reducible rfl
  rotate_left
  · simp only [Act.put, List.setIfInBounds_toArray, List.set_cons_zero, List.set_cons_succ, i64_w, i32_w]
    rfl
  refine pure_ (i := 11) (N := some 30) (v := ?_) (a' := ?_) #[true, true, true, true, true, true, true, true, true, true, true, true, false, false, false, false, false] rfl rfl (by kernel_rfl) (fun _ _ _ h => h) (Or.inl ⟨by rfl, ?_⟩) ?_ ?_
  rotate_left
  · intro w'
    go_simp
    with_reducible rfl
  rotate_left
  · simp only [Act.put, List.setIfInBounds_toArray, List.set_cons_zero, List.set_cons_succ, i64_w, i32_w]
    rfl
  refine pure_ (i := 12) (N := some 31) (v := ?_) (a' := ?_) #[true, true, true, true, true, true, true, true, true, true, true, true, true, false, false, false, false] rfl rfl (by kernel_rfl) (fun _ _ _ h => h) (Or.inl ⟨by rfl, ?_⟩) ?_ ?_
  rotate_left
  · intro w'
    go_simp
    with_reducible rfl
  rotate_left
  · simp only [Act.put, List.setIfInBounds_toArray, List.set_cons_zero, List.set_cons_succ, i64_w, i32_w]
    rfl
  refine pure_ (i := 13) (N := some 32) (v := ?_) (a' := ?_) #[true, true, true, true, true, true, true, true, true, true, true, true, true, true, false, false, false] rfl rfl (by kernel_rfl) (fun _ _ _ h => h) (Or.inl ⟨by rfl, ?_⟩) ?_ ?_
  rotate_left
  · intro w'
    go_simp
    with_reducible rfl
  rotate_left
  · simp only [Act.put, List.setIfInBounds_toArray, List.set_cons_zero, List.set_cons_succ, i64_w, i32_w]
    rfl
  refine pure_ (i := 14) (N := some 2) (v := ?_) (a' := ?_) #[true, true, true, true, true, true, true, true, true, true, true, true, true, true, true, false, false] rfl rfl (by kernel_rfl) (fun _ _ _ h => h) (Or.inl ⟨by rfl, ?_⟩) ?_ ?_
  rotate_left
  · intro w'
    go_simp
    with_reducible rfl
  rotate_left
  · simp only [Act.put, List.setIfInBounds_toArray, List.set_cons_zero, List.set_cons_succ, i64_w, i32_w]
    rfl
  refine pure_ (i := 15) (N := some 3) (v := ?_) (a' := ?_) #[true, true, true, true, true, true, true, true, true, true, true, true, true, true, true, true, false] rfl rfl (by kernel_rfl) (fun _ _ _ h => h) (Or.inl ⟨by rfl, ?_⟩) ?_ ?_
  rotate_left
  · intro w'
    go_simp
    with_reducible rfl
  rotate_left
  · simp only [Act.put, List.setIfInBounds_toArray, List.set_cons_zero, List.set_cons_succ, i64_w, i32_w]
    rfl
  refine pure_ (i := 16) (N := some 4) (v := ?_) (a' := ?_) #[true, true, true, true, true, true, true, true, true, true, true, true, true, true, true, true, true] rfl rfl (by kernel_rfl) (fun _ _ _ h => h) (Or.inl ⟨by rfl, ?_⟩) ?_ ?_
  rotate_left
  · intro w'
    go_simp
    with_reducible rfl
  rotate_left
  · simp only [Act.put, List.setIfInBounds_toArray, List.set_cons_zero, List.set_cons_succ, i64_w, i32_w]
    rfl
  refine done_ (by kernel_rfl) ?_
  go_wp2
  go_end0
  exact ⟨rfl, _, rfl⟩

end
end Go.Proofs.YtkgnhghaiopgcaaDoor.X
