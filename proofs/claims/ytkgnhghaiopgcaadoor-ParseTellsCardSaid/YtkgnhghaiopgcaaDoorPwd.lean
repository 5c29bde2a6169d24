/- The walks of the reader's relations and schema, of Parse and of its deferred closure; no condition. -/
import Derived.Test.YtkgnhghaiopgcaaDoorPw
import Derived.Deep.MidRow
import Derived.Laws.CopyOwn
import Derived.Defers
import Derived.Deep.WholeRow
import Derived.Recover
import Derived.Laws.Pointers
set_option linter.unusedVariables false
set_option linter.unusedSimpArgs false
namespace Go.Proofs.YtkgnhghaiopgcaaDoor.Pw
open Go.RowKit Go.Maps Go.Proofs.YtkgnhghaiopgcaaDoorW.PrintWords Go.Proofs.YtkgnhghaiopgcaaDoorW.PrintLast Go.Proofs.YtkgnhghaiopgcaaDoor.X Go.Proofs.YtkgnhghaiopgcaaDoor.Kx Go.Proofs.YtkgnhghaiopgcaaDoor.Gl Go.Proofs.YtkgnhghaiopgcaaDoor.GlFn Go.Proofs.YtkgnhghaiopgcaaDoor.Tk Go.Proofs.YtkgnhghaiopgcaaDoor.Ps

def RelPost (w0 w : World) (b g d : Nat) (x : SR × List Tok) (e : Ending) (w' : World) : Prop :=
  ∃ v4 v5, e = .returned (.agg #[.string x.1.f0, .string x.1.f1, .string x.1.f2, .string x.1.f3, v4, v5]) ∧ k62.R 62 w' w.heap.size (fun k => b < k) v4 x.1.f4 ∧ Ops w' w.heap.size b v5 x.1.f5 ∧ Sx w0 w' b g x.2 d ∧ Fr b w.heap.size w w'
def zeroR : Array Value := #[.string ⟨#[]⟩, .string ⟨#[]⟩, .string ⟨#[]⟩, .string ⟨#[]⟩, .slice none 0 0, .slice none 0 0]
theorem row_far {α : Type} {d : Kd α} {t : Nat} {w : World} {base b m q : Nat} {v : Value} {xs : List α} (h : d.R t w base (fun k => b < k ∧ m < k ∧ k ≠ q) v xs) (j : Nat) (u : Value) : d.R t (w.setCell ⟨q, j, none⟩ u) base (fun k => b < k ∧ m < k ∧ k ≠ q) v xs :=
  Kd.R_far h (p := ⟨q, j, none⟩) (fun k hk => hk.2.2) u
theorem row_fr2 {α : Type} {d : Kd α} {t : Nat} {w w' : World} {base b m q : Nat} {v : Value} {xs : List α} (h : d.R t w base (fun k => b < k ∧ m < k ∧ k ≠ q) v xs) (hf : Fr b w.heap.size w w') : d.R t w' base (fun k => b < k ∧ m < k ∧ k ≠ q) v xs :=
  Kd.R_step h (fun k ho hk => hf.block k hk (by omega))
theorem row_new {α : Type} {d : Kd α} {t : Nat} {w w' : World} {base b m q : Nat} {v : Value} {xs : List α} (h : d.R t w' w.heap.size (fun k => b < k) v xs) (hq : q < w.heap.size) (hm : m < w.heap.size) (hb : base ≤ w.heap.size) : d.R t w' base (fun k => b < k ∧ m < k ∧ k ≠ q) v xs :=
  Kd.R_lower (Kd.R_mono (Kd.R_bound h) (fun k hk => ⟨hk.1, by have := hk.2.1; omega⟩)) hb
theorem row_out {α : Type} {d : Kd α} {t : Nat} {w : World} {base b m q p : Nat} {v : Value} {xs : List α} (h : d.R t w base (fun k => b < k ∧ m < k ∧ k ≠ q) v xs) (hp : p ≤ m) (cs : Array Value) : d.R t (w.setRow p cs) base (fun k => b < k) v xs :=
  Kd.R_mono (Kd.R_step (w1 := w.setRow p cs) h (fun k ho hk => setRow_other w p k cs (by have := ho.2.1; omega))) (fun k hk => hk.1)
theorem Sx.setRow {w0 w : World} {b g : Nat} {ts : List Tok} {d : Nat} (h : Sx w0 w b g ts d) {q : Nat} (h1 : q ≠ b) (h2 : q ≠ g) (h3 : w0.heap.size ≤ q) (cs : Array Value) : Sx w0 (w.setRow q cs) b g ts d := by
  obtain ⟨o, c, h⟩ := h
  exact ⟨o, c, h.move (below_setRow h.bel h3 cs) (setRow_other w q b cs (Ne.symm h1)) (setRow_other w q g cs (Ne.symm h2))⟩
theorem fr_setRow {b base : Nat} {u v : World} (h : Fr b base u v) {q : Nat} (hq : base ≤ q) (cs : Array Value) : Fr b base u (v.setRow q cs) :=
  ⟨h.os, h.tape, h.output, by simpa using h.size, fun i hi hne => (setRow_other v q i cs (by omega)).trans (h.block i hi hne)⟩
theorem wpList_load_row {P : Program} {ops : Array Oper} {rest : List Oper} {op : Oper} {a : Act} {w : World} {Q : Exit → Act → World → Prop} (hgd : op.guard = none) (ty : TypeId) (x : Operand) (ho : op.op = .load ty x)
    (g : Nat) (hx : a.eval x = .pointer (some ⟨g, 0, none⟩)) (cs : Array Value) (t : TypeId) (fr : Nat × Nat) (hg : w.heap[g]? = some (.cells cs t fr))
    (hu : (P.underlying ty).map TypeDesc.isRow = some true) (hi : (P.info? ty).map (·.size) = some cs.size)
    (h : wpList P ops Q rest (a.put op.dst (.agg cs)) w) : wpList P ops Q (op :: rest) a w := by
  cases hq : P.underlying ty with
  | none => rw [hq] at hu; exact absurd hu (by simp)
  | some d =>
    rw [hq] at hu
    have hd : d.isRow = true := by simpa using hu
    have hr : (loadVar ty ⟨g, 0, none⟩).run P w = .ok (.agg cs) w := by cases d <;> first | exact run_loadVar_row w g t ty cs fr _ hg hq rfl hi | exact absurd hd (by simp)
    refine wpList_plain hgd fun _ hK => ?_
    unfold Oper.wp execOp
    simp only [ho, hx, Instr.loadAt, Instr.sureAddr, Sem.run_bind, Sem.run_pure, Result.andThen_ok, hr]
    exact hK _ _ h
theorem wpList_store_row {P : Program} {ops : Array Oper} {rest : List Oper} {op : Oper} {a : Act} {w : World} {Q : Exit → Act → World → Prop} (hgd : op.guard = none) (ty : TypeId) (x y : Operand) (ho : op.op = .store ty x y)
    (g : Nat) (old cs : Array Value) (t : TypeId) (hx : a.eval x = .pointer (some ⟨g, 0, none⟩)) (hy : a.eval y = .agg cs) (hg : w.heap[g]? = some (.cells old t (0, 0)))
    (hi : (P.info? ty).map (·.size) = some cs.size) (hz : old.size = cs.size) (h1 : cs.all (·.oneCell') = true)
    (h : wpList P ops Q rest (a.put op.dst undef) (w.setRow g cs)) : wpList P ops Q (op :: rest) a w := by
  refine wpList_plain hgd fun _ hK => ?_
  unfold Oper.wp execOp
  simp only [ho, hx, hy, Instr.storeAt, Instr.sureAddr, Sem.run_bind, Sem.run_pure, Result.andThen_ok, run_storeVar_row w g t ty old cs hg hi hz h1]
  exact hK _ _ h
theorem row57 : (Tryd.prog.underlying 57).map TypeDesc.isRow = some true := by kernel_rfl
theorem size57 : (Tryd.prog.info? 57).map (·.size) = some 6 := by
  have := info57
  cases h : Tryd.prog.info? 57 with
  | none => rw [h] at this; exact absurd this (by simp)
  | some i => rw [h] at this; simp at this ⊢; exact this.2.1

set_option maxHeartbeats 8000000 in
set_option maxRecDepth 100000 in
theorem rel_calls (k : Nat) {w0 w : World} {b g : Nat} {ts : List Tok} {d : Nat} {res : Except Er (SR × List Tok)} (h : Sx w0 w b g ts d) (hd : d = 0) (hp : relT k ts = some res) :
    Calls Tryd.prog 102 #[.pointer (some ⟨b, 0, none⟩)] w (EndX res (RelPost w0 w b g d) w0) := by
  subst hd
  unfold relT at hp
  have HP := Aside0.mk hp
  have HL := Aside0.mk h.lt
  have hX1 := h.below (below_alloc (Below.refl _ _) (.cells zeroR 57))
  have h1 : (w.alloc (.cells zeroR 57)).heap.size = w.heap.size + 1 := by simp
  have hX2 := hX1.below (below_alloc (Below.refl _ _) (.cells #[.int .i64 1, .string ⟨#[]⟩, .string ⟨#[]⟩] 59))
  have hO := Ops.lit (w.alloc (.cells zeroR 57)) (op1 1) b (by rw [h1]; have := h.lt; omega)
  have h2 : ((w.alloc (.cells zeroR 57)).alloc (.cells #[.int .i64 1, .string ⟨#[]⟩, .string ⟨#[]⟩] 59)).heap.size = w.heap.size + 2 := by simp
  rw [h1] at hO
  have hX3 := hX2.below (below_alloc (Below.refl _ _) (.cells #[.string ⟨#[]⟩, .string ⟨#[]⟩, .string ⟨#[]⟩, .string ⟨#[]⟩, .slice none 0 0, .slice (some ⟨w.heap.size + 1, 0, none⟩) 1 1] 57))
  have hO3 : k59.R 59 ((((w.alloc (.cells zeroR 57)).alloc (.cells #[.int .i64 1, .string ⟨#[]⟩, .string ⟨#[]⟩] 59))).alloc (.cells #[.string ⟨#[]⟩, .string ⟨#[]⟩, .string ⟨#[]⟩, .string ⟨#[]⟩, .slice none 0 0, .slice (some ⟨w.heap.size + 1, 0, none⟩) 1 1] 57)) w.heap.size (fun k => b < k ∧ w.heap.size < k ∧ k ≠ w.heap.size + 2) (.slice (some ⟨w.heap.size + 1, 0, none⟩) 1 1) [op1 1] :=
    Kd.R_lower (Kd.R_mono (Kd.R_bound (Kd.R_alloc (Kd.R_mono (Kd.R_bound hO) (fun k hk => (⟨hk.1, by have := hk.2.1; omega, by have := Nat.lt_of_lt_of_eq hk.2.2.1 h2; omega⟩ : b < k ∧ w.heap.size < k ∧ k ≠ w.heap.size + 2))) _)) (fun k hk => hk.1)) (Nat.le_succ _)
  have hF3 : Fr b w.heap.size w ((((w.alloc (.cells zeroR 57)).alloc (.cells #[.int .i64 1, .string ⟨#[]⟩, .string ⟨#[]⟩] 59))).alloc (.cells #[.string ⟨#[]⟩, .string ⟨#[]⟩, .string ⟨#[]⟩, .string ⟨#[]⟩, .slice none 0 0, .slice (some ⟨w.heap.size + 1, 0, none⟩) 1 1] 57)) :=
    (((Fr.refl b w.heap.size w).alloc (Nat.le_refl _) _).alloc (by rw [h1]; omega) _).alloc (by rw [h2]; omega) _
  have hB3 : ((((w.alloc (.cells zeroR 57)).alloc (.cells #[.int .i64 1, .string ⟨#[]⟩, .string ⟨#[]⟩] 59))).alloc (.cells #[.string ⟨#[]⟩, .string ⟨#[]⟩, .string ⟨#[]⟩, .string ⟨#[]⟩, .slice none 0 0, .slice (some ⟨w.heap.size + 1, 0, none⟩) 1 1] 57)).heap[w.heap.size + 2]? = some (.cells #[.string ⟨#[]⟩, .string ⟨#[]⟩, .string ⟨#[]⟩, .string ⟨#[]⟩, .slice none 0 0, .slice (some ⟨w.heap.size + 1, 0, none⟩) 1 1] 57 (0, 0)) := by
    have := (Go.MapKept.heap_alloc ((w.alloc (.cells zeroR 57)).alloc (.cells #[.int .i64 1, .string ⟨#[]⟩, .string ⟨#[]⟩] 59)) (.cells #[.string ⟨#[]⟩, .string ⟨#[]⟩, .string ⟨#[]⟩, .string ⟨#[]⟩, .slice none 0 0, .slice (some ⟨w.heap.size + 1, 0, none⟩) 1 1] 57)).1
    rwa [h2] at this
  have hC3 : ((((w.alloc (.cells zeroR 57)).alloc (.cells #[.int .i64 1, .string ⟨#[]⟩, .string ⟨#[]⟩] 59))).alloc (.cells #[.string ⟨#[]⟩, .string ⟨#[]⟩, .string ⟨#[]⟩, .string ⟨#[]⟩, .slice none 0 0, .slice (some ⟨w.heap.size + 1, 0, none⟩) 1 1] 57)).heap[w.heap.size]? = some (.cells zeroR 57 (0, 0)) := by
    rw [Below.heap_alloc _ _ _ (by rw [h2]; omega), Below.heap_alloc _ _ _ (by rw [h1]; omega)]
    exact (Go.MapKept.heap_alloc w _).1
  obtain ⟨wa, hwa⟩ : ∃ wa, ((((w.alloc (.cells zeroR 57)).alloc (.cells #[.int .i64 1, .string ⟨#[]⟩, .string ⟨#[]⟩] 59))).alloc (.cells #[.string ⟨#[]⟩, .string ⟨#[]⟩, .string ⟨#[]⟩, .string ⟨#[]⟩, .slice none 0 0, .slice (some ⟨w.heap.size + 1, 0, none⟩) 1 1] 57)) = wa := ⟨_, rfl⟩
  rw [hwa] at hX3 hO3 hF3 hB3 hC3
  have HW := Aside0.mk hwa
  have HX0 := Aside0.mk hX3
  have HO0 := Aside0.mk hO3
  have HF0 := Aside0.mk hF3
  have HB0 := Aside0.mk hB3
  have HC0 := Aside0.mk hC3
  clear hX1 hX2 hX3 hO hO3 hF3 hB3 hC3 h1 h2 hwa h hp
  go_enter Tryd.func102, Tryd.ntmps102
  go_upto_region 2 with (fail)
  rw [show (Obj.cells #[.string ⟨#[]⟩, .string ⟨#[]⟩, .string ⟨#[]⟩, .string ⟨#[]⟩, .slice none 0 0, .slice none 0 0] 57) = .cells zeroR 57 from rfl, HW.out]
  clear HW
  obtain ⟨p, hp⟩ : ∃ p, w.heap.size = p := ⟨_, rfl⟩
  obtain ⟨q, hq⟩ : ∃ q, w.heap.size + 2 = q := ⟨_, rfl⟩
  obtain ⟨q1, hq1⟩ : ∃ q1, w.heap.size + 1 = q1 := ⟨_, rfl⟩
  rw [hq, hq1] at HO0 HB0 ⊢
  rw [hp] at HC0
  rw [hp]
  have HQ : Aside0 (b < p ∧ g < p ∧ w0.heap.size ≤ p ∧ p < q ∧ w.heap.size = p) := ⟨by have := HL.out; omega⟩
  clear hp hq hq1

  rcases bnd_some HP.out with ⟨er, h1, rfl⟩ | ⟨x1, h1, h2⟩
  · injection h1 with h1
    have HE := Aside0.mk h1
    clear h1
    go_wp2_with fail
    refine (name_calls HX0.out).mono ?_
    intro e wz he
    rw [HE.out] at he
    obtain ⟨en, pz⟩ := er
    obtain ⟨rfl, hb⟩ := he
    go_wp2
    exact ⟨rfl, rfl, hb⟩
  injection h1 with h1
  have HE := Aside0.mk h1
  clear HP
  have HP := Aside0.mk h2
  clear h1 h2
  go_wp2_with fail
  refine (name_calls HX0.out).mono ?_
  intro e w1 he
  rw [HE.out] at he
  obtain ⟨rfl, hx, hf⟩ := he
  have hl := HQ.out
  have fz := blk_frozen (show w1.heap[q]? = some (.cells #[.string ⟨#[]⟩, .string ⟨#[]⟩, .string ⟨#[]⟩, .string ⟨#[]⟩, .slice none 0 0, .slice (some ⟨q1, 0, none⟩) 1 1] 57 (0, 0)) from (hf.block q (blk_lt HB0.out) (by omega)).trans HB0.out) 0
  have ce := blk_cell (show w1.heap[q]? = some (.cells #[.string ⟨#[]⟩, .string ⟨#[]⟩, .string ⟨#[]⟩, .string ⟨#[]⟩, .slice none 0 0, .slice (some ⟨q1, 0, none⟩) 1 1] 57 (0, 0)) from (hf.block q (blk_lt HB0.out) (by omega)).trans HB0.out) 0
  have HX1 : Aside0 (Sx w0 (w1.setCell ⟨q, 0, none⟩ (.string x1.1)) b g x1.2 0) := ⟨hx.set (by omega) (by omega) (by omega) _ _⟩
  have HF1 : Aside0 (Fr b w.heap.size w (w1.setCell ⟨q, 0, none⟩ (.string x1.1))) := ⟨fr_setFar (fr_then HF0.out hf) (by omega) _ _⟩
  have HB1 : Aside0 ((w1.setCell ⟨q, 0, none⟩ (.string x1.1)).heap[q]? = some (.cells #[.string x1.1, .string ⟨#[]⟩, .string ⟨#[]⟩, .string ⟨#[]⟩, .slice none 0 0, .slice (some ⟨q1, 0, none⟩) 1 1] 57 (0, 0))) := ⟨by simpa using blk_set (show w1.heap[q]? = some (.cells #[.string ⟨#[]⟩, .string ⟨#[]⟩, .string ⟨#[]⟩, .string ⟨#[]⟩, .slice none 0 0, .slice (some ⟨q1, 0, none⟩) 1 1] 57 (0, 0)) from (hf.block q (blk_lt HB0.out) (by omega)).trans HB0.out) 0 (.string x1.1)⟩
  have HC1 : Aside0 ((w1.setCell ⟨q, 0, none⟩ (.string x1.1)).heap[p]? = some (.cells zeroR 57 (0, 0))) := ⟨(Below.heap_setCell w1 ⟨q, 0, none⟩ _ p (show p ≠ q by omega)).trans ((hf.block p (blk_lt HC0.out) (by omega)).trans HC0.out)⟩
  have HO1 : Aside0 (k59.R 59 (w1.setCell ⟨q, 0, none⟩ (.string x1.1)) w.heap.size (fun k => b < k ∧ w.heap.size < k ∧ k ≠ q) (.slice (some ⟨q1, 0, none⟩) 1 1) [op1 1]) := ⟨row_far (row_fr2 HO0.out hf) _ _⟩
  clear hx hf hl HX0 HF0 HB0 HC0 HO0 HE
  rcases bnd_some HP.out with ⟨er, h1, rfl⟩ | ⟨x2, h1, h2⟩
  · injection h1 with h1
    have HE := Aside0.mk h1
    clear h1
    go_wp2_with fail
    refine (need_calls HX1.out ⟨#[40]⟩ [40] rfl (by decide)).mono ?_
    intro e wz he
    rw [HE.out] at he
    obtain ⟨en, pz⟩ := er
    obtain ⟨rfl, hb⟩ := he
    go_wp2
    exact ⟨rfl, rfl, hb⟩
  injection h1 with h1
  have HE := Aside0.mk h1
  clear HP
  have HP := Aside0.mk h2
  clear h1 h2
  go_wp2_with fail
  refine (need_calls HX1.out ⟨#[40]⟩ [40] rfl (by decide)).mono ?_
  intro e w2 he
  rw [HE.out] at he
  obtain ⟨rfl, hx, hf⟩ := he
  have hl := HQ.out
  have HX2 := Aside0.mk hx
  have HF2 := Aside0.mk (fr_then HF1.out hf)
  have HB2 : Aside0 (w2.heap[q]? = some (.cells #[.string x1.1, .string ⟨#[]⟩, .string ⟨#[]⟩, .string ⟨#[]⟩, .slice none 0 0, .slice (some ⟨q1, 0, none⟩) 1 1] 57 (0, 0))) := ⟨(hf.block q (blk_lt HB1.out) (by omega)).trans HB1.out⟩
  have HC2 : Aside0 (w2.heap[p]? = some (.cells zeroR 57 (0, 0))) := ⟨(hf.block p (blk_lt HC1.out) (by omega)).trans HC1.out⟩
  have HO2 := Aside0.mk (row_fr2 HO1.out hf)
  clear hx hf hl HX1 HF1 HB1 HC1 HO1 HE
  try clear fz ce
  rcases bnd_some HP.out with ⟨er, h1, rfl⟩ | ⟨x3, h1, h2⟩
  · injection h1 with h1
    have HE := Aside0.mk h1
    clear h1
    go_wp2_with fail
    refine (name_calls HX2.out).mono ?_
    intro e wz he
    rw [HE.out] at he
    obtain ⟨en, pz⟩ := er
    obtain ⟨rfl, hb⟩ := he
    go_wp2
    exact ⟨rfl, rfl, hb⟩
  injection h1 with h1
  have HE := Aside0.mk h1
  clear HP
  have HP := Aside0.mk h2
  clear h1 h2
  go_wp2_with fail
  refine (name_calls HX2.out).mono ?_
  intro e w3 he
  rw [HE.out] at he
  obtain ⟨rfl, hx, hf⟩ := he
  have hl := HQ.out
  have fz := blk_frozen (show w3.heap[q]? = some (.cells #[.string x1.1, .string ⟨#[]⟩, .string ⟨#[]⟩, .string ⟨#[]⟩, .slice none 0 0, .slice (some ⟨q1, 0, none⟩) 1 1] 57 (0, 0)) from (hf.block q (blk_lt HB2.out) (by omega)).trans HB2.out) 1
  have ce := blk_cell (show w3.heap[q]? = some (.cells #[.string x1.1, .string ⟨#[]⟩, .string ⟨#[]⟩, .string ⟨#[]⟩, .slice none 0 0, .slice (some ⟨q1, 0, none⟩) 1 1] 57 (0, 0)) from (hf.block q (blk_lt HB2.out) (by omega)).trans HB2.out) 1
  have HX3 : Aside0 (Sx w0 (w3.setCell ⟨q, 1, none⟩ (.string x3.1)) b g x3.2 0) := ⟨hx.set (by omega) (by omega) (by omega) _ _⟩
  have HF3 : Aside0 (Fr b w.heap.size w (w3.setCell ⟨q, 1, none⟩ (.string x3.1))) := ⟨fr_setFar (fr_then HF2.out hf) (by omega) _ _⟩
  have HB3 : Aside0 ((w3.setCell ⟨q, 1, none⟩ (.string x3.1)).heap[q]? = some (.cells #[.string x1.1, .string x3.1, .string ⟨#[]⟩, .string ⟨#[]⟩, .slice none 0 0, .slice (some ⟨q1, 0, none⟩) 1 1] 57 (0, 0))) := ⟨by simpa using blk_set (show w3.heap[q]? = some (.cells #[.string x1.1, .string ⟨#[]⟩, .string ⟨#[]⟩, .string ⟨#[]⟩, .slice none 0 0, .slice (some ⟨q1, 0, none⟩) 1 1] 57 (0, 0)) from (hf.block q (blk_lt HB2.out) (by omega)).trans HB2.out) 1 (.string x3.1)⟩
  have HC3 : Aside0 ((w3.setCell ⟨q, 1, none⟩ (.string x3.1)).heap[p]? = some (.cells zeroR 57 (0, 0))) := ⟨(Below.heap_setCell w3 ⟨q, 1, none⟩ _ p (show p ≠ q by omega)).trans ((hf.block p (blk_lt HC2.out) (by omega)).trans HC2.out)⟩
  have HO3 : Aside0 (k59.R 59 (w3.setCell ⟨q, 1, none⟩ (.string x3.1)) w.heap.size (fun k => b < k ∧ w.heap.size < k ∧ k ≠ q) (.slice (some ⟨q1, 0, none⟩) 1 1) [op1 1]) := ⟨row_far (row_fr2 HO2.out hf) _ _⟩
  clear hx hf hl HX2 HF2 HB2 HC2 HO2 HE
  rcases bnd_some HP.out with ⟨er, h1, rfl⟩ | ⟨x4, h1, h2⟩
  · injection h1 with h1
    have HE := Aside0.mk h1
    clear h1
    go_wp2_with fail
    refine (need_calls HX3.out ⟨#[44]⟩ [44] rfl (by decide)).mono ?_
    intro e wz he
    rw [HE.out] at he
    obtain ⟨en, pz⟩ := er
    obtain ⟨rfl, hb⟩ := he
    go_wp2
    exact ⟨rfl, rfl, hb⟩
  injection h1 with h1
  have HE := Aside0.mk h1
  clear HP
  have HP := Aside0.mk h2
  clear h1 h2
  go_wp2_with fail
  refine (need_calls HX3.out ⟨#[44]⟩ [44] rfl (by decide)).mono ?_
  intro e w4 he
  rw [HE.out] at he
  obtain ⟨rfl, hx, hf⟩ := he
  have hl := HQ.out
  have HX4 := Aside0.mk hx
  have HF4 := Aside0.mk (fr_then HF3.out hf)
  have HB4 : Aside0 (w4.heap[q]? = some (.cells #[.string x1.1, .string x3.1, .string ⟨#[]⟩, .string ⟨#[]⟩, .slice none 0 0, .slice (some ⟨q1, 0, none⟩) 1 1] 57 (0, 0))) := ⟨(hf.block q (blk_lt HB3.out) (by omega)).trans HB3.out⟩
  have HC4 : Aside0 (w4.heap[p]? = some (.cells zeroR 57 (0, 0))) := ⟨(hf.block p (blk_lt HC3.out) (by omega)).trans HC3.out⟩
  have HO4 := Aside0.mk (row_fr2 HO3.out hf)
  clear hx hf hl HX3 HF3 HB3 HC3 HO3 HE
  try clear fz ce
  rcases bnd_some HP.out with ⟨er, h1, rfl⟩ | ⟨x5, h1, h2⟩
  · injection h1 with h1
    have HE := Aside0.mk h1
    clear h1
    go_wp2_with fail
    refine (name_calls HX4.out).mono ?_
    intro e wz he
    rw [HE.out] at he
    obtain ⟨en, pz⟩ := er
    obtain ⟨rfl, hb⟩ := he
    go_wp2
    exact ⟨rfl, rfl, hb⟩
  injection h1 with h1
  have HE := Aside0.mk h1
  clear HP
  have HP := Aside0.mk h2
  clear h1 h2
  go_wp2_with fail
  refine (name_calls HX4.out).mono ?_
  intro e w5 he
  rw [HE.out] at he
  obtain ⟨rfl, hx, hf⟩ := he
  have hl := HQ.out
  have fz := blk_frozen (show w5.heap[q]? = some (.cells #[.string x1.1, .string x3.1, .string ⟨#[]⟩, .string ⟨#[]⟩, .slice none 0 0, .slice (some ⟨q1, 0, none⟩) 1 1] 57 (0, 0)) from (hf.block q (blk_lt HB4.out) (by omega)).trans HB4.out) 2
  have ce := blk_cell (show w5.heap[q]? = some (.cells #[.string x1.1, .string x3.1, .string ⟨#[]⟩, .string ⟨#[]⟩, .slice none 0 0, .slice (some ⟨q1, 0, none⟩) 1 1] 57 (0, 0)) from (hf.block q (blk_lt HB4.out) (by omega)).trans HB4.out) 2
  have HX5 : Aside0 (Sx w0 (w5.setCell ⟨q, 2, none⟩ (.string x5.1)) b g x5.2 0) := ⟨hx.set (by omega) (by omega) (by omega) _ _⟩
  have HF5 : Aside0 (Fr b w.heap.size w (w5.setCell ⟨q, 2, none⟩ (.string x5.1))) := ⟨fr_setFar (fr_then HF4.out hf) (by omega) _ _⟩
  have HB5 : Aside0 ((w5.setCell ⟨q, 2, none⟩ (.string x5.1)).heap[q]? = some (.cells #[.string x1.1, .string x3.1, .string x5.1, .string ⟨#[]⟩, .slice none 0 0, .slice (some ⟨q1, 0, none⟩) 1 1] 57 (0, 0))) := ⟨by simpa using blk_set (show w5.heap[q]? = some (.cells #[.string x1.1, .string x3.1, .string ⟨#[]⟩, .string ⟨#[]⟩, .slice none 0 0, .slice (some ⟨q1, 0, none⟩) 1 1] 57 (0, 0)) from (hf.block q (blk_lt HB4.out) (by omega)).trans HB4.out) 2 (.string x5.1)⟩
  have HC5 : Aside0 ((w5.setCell ⟨q, 2, none⟩ (.string x5.1)).heap[p]? = some (.cells zeroR 57 (0, 0))) := ⟨(Below.heap_setCell w5 ⟨q, 2, none⟩ _ p (show p ≠ q by omega)).trans ((hf.block p (blk_lt HC4.out) (by omega)).trans HC4.out)⟩
  have HO5 : Aside0 (k59.R 59 (w5.setCell ⟨q, 2, none⟩ (.string x5.1)) w.heap.size (fun k => b < k ∧ w.heap.size < k ∧ k ≠ q) (.slice (some ⟨q1, 0, none⟩) 1 1) [op1 1]) := ⟨row_far (row_fr2 HO4.out hf) _ _⟩
  clear hx hf hl HX4 HF4 HB4 HC4 HO4 HE
  rcases bnd_some HP.out with ⟨er, h1, rfl⟩ | ⟨x6, h1, h2⟩
  · injection h1 with h1
    have HE := Aside0.mk h1
    clear h1
    go_wp2_with fail
    refine (need_calls HX5.out ⟨#[44]⟩ [44] rfl (by decide)).mono ?_
    intro e wz he
    rw [HE.out] at he
    obtain ⟨en, pz⟩ := er
    obtain ⟨rfl, hb⟩ := he
    go_wp2
    exact ⟨rfl, rfl, hb⟩
  injection h1 with h1
  have HE := Aside0.mk h1
  clear HP
  have HP := Aside0.mk h2
  clear h1 h2
  go_wp2_with fail
  refine (need_calls HX5.out ⟨#[44]⟩ [44] rfl (by decide)).mono ?_
  intro e w6 he
  rw [HE.out] at he
  obtain ⟨rfl, hx, hf⟩ := he
  have hl := HQ.out
  have HX6 := Aside0.mk hx
  have HF6 := Aside0.mk (fr_then HF5.out hf)
  have HB6 : Aside0 (w6.heap[q]? = some (.cells #[.string x1.1, .string x3.1, .string x5.1, .string ⟨#[]⟩, .slice none 0 0, .slice (some ⟨q1, 0, none⟩) 1 1] 57 (0, 0))) := ⟨(hf.block q (blk_lt HB5.out) (by omega)).trans HB5.out⟩
  have HC6 : Aside0 (w6.heap[p]? = some (.cells zeroR 57 (0, 0))) := ⟨(hf.block p (blk_lt HC5.out) (by omega)).trans HC5.out⟩
  have HO6 := Aside0.mk (row_fr2 HO5.out hf)
  clear hx hf hl HX5 HF5 HB5 HC5 HO5 HE
  try clear fz ce
  rcases bnd_some HP.out with ⟨er, h1, rfl⟩ | ⟨x7, h1, h2⟩
  · injection h1 with h1
    have HE := Aside0.mk h1
    clear h1
    go_wp2_with fail
    refine (name_calls HX6.out).mono ?_
    intro e wz he
    rw [HE.out] at he
    obtain ⟨en, pz⟩ := er
    obtain ⟨rfl, hb⟩ := he
    go_wp2
    exact ⟨rfl, rfl, hb⟩
  injection h1 with h1
  have HE := Aside0.mk h1
  clear HP
  have HP := Aside0.mk h2
  clear h1 h2
  go_wp2_with fail
  refine (name_calls HX6.out).mono ?_
  intro e w7 he
  rw [HE.out] at he
  obtain ⟨rfl, hx, hf⟩ := he
  have hl := HQ.out
  have fz := blk_frozen (show w7.heap[q]? = some (.cells #[.string x1.1, .string x3.1, .string x5.1, .string ⟨#[]⟩, .slice none 0 0, .slice (some ⟨q1, 0, none⟩) 1 1] 57 (0, 0)) from (hf.block q (blk_lt HB6.out) (by omega)).trans HB6.out) 3
  have ce := blk_cell (show w7.heap[q]? = some (.cells #[.string x1.1, .string x3.1, .string x5.1, .string ⟨#[]⟩, .slice none 0 0, .slice (some ⟨q1, 0, none⟩) 1 1] 57 (0, 0)) from (hf.block q (blk_lt HB6.out) (by omega)).trans HB6.out) 3
  have HX7 : Aside0 (Sx w0 (w7.setCell ⟨q, 3, none⟩ (.string x7.1)) b g x7.2 0) := ⟨hx.set (by omega) (by omega) (by omega) _ _⟩
  have HF7 : Aside0 (Fr b w.heap.size w (w7.setCell ⟨q, 3, none⟩ (.string x7.1))) := ⟨fr_setFar (fr_then HF6.out hf) (by omega) _ _⟩
  have HB7 : Aside0 ((w7.setCell ⟨q, 3, none⟩ (.string x7.1)).heap[q]? = some (.cells #[.string x1.1, .string x3.1, .string x5.1, .string x7.1, .slice none 0 0, .slice (some ⟨q1, 0, none⟩) 1 1] 57 (0, 0))) := ⟨by simpa using blk_set (show w7.heap[q]? = some (.cells #[.string x1.1, .string x3.1, .string x5.1, .string ⟨#[]⟩, .slice none 0 0, .slice (some ⟨q1, 0, none⟩) 1 1] 57 (0, 0)) from (hf.block q (blk_lt HB6.out) (by omega)).trans HB6.out) 3 (.string x7.1)⟩
  have HC7 : Aside0 ((w7.setCell ⟨q, 3, none⟩ (.string x7.1)).heap[p]? = some (.cells zeroR 57 (0, 0))) := ⟨(Below.heap_setCell w7 ⟨q, 3, none⟩ _ p (show p ≠ q by omega)).trans ((hf.block p (blk_lt HC6.out) (by omega)).trans HC6.out)⟩
  have HO7 : Aside0 (k59.R 59 (w7.setCell ⟨q, 3, none⟩ (.string x7.1)) w.heap.size (fun k => b < k ∧ w.heap.size < k ∧ k ≠ q) (.slice (some ⟨q1, 0, none⟩) 1 1) [op1 1]) := ⟨row_far (row_fr2 HO6.out hf) _ _⟩
  clear hx hf hl HX6 HF6 HB6 HC6 HO6 HE
  rcases bnd_some HP.out with ⟨er, h1, rfl⟩ | ⟨x8, h1, h2⟩
  · injection h1 with h1
    have HE := Aside0.mk h1
    clear h1
    go_wp2_with fail
    refine (need_calls HX7.out ⟨#[41]⟩ [41] rfl (by decide)).mono ?_
    intro e wz he
    rw [HE.out] at he
    obtain ⟨en, pz⟩ := er
    obtain ⟨rfl, hb⟩ := he
    go_wp2
    exact ⟨rfl, rfl, hb⟩
  injection h1 with h1
  have HE := Aside0.mk h1
  clear HP
  have HP := Aside0.mk h2
  clear h1 h2
  go_wp2_with fail
  refine (need_calls HX7.out ⟨#[41]⟩ [41] rfl (by decide)).mono ?_
  intro e w8 he
  rw [HE.out] at he
  obtain ⟨rfl, hx, hf⟩ := he
  have hl := HQ.out
  have HX8 := Aside0.mk hx
  have HF8 := Aside0.mk (fr_then HF7.out hf)
  have HB8 : Aside0 (w8.heap[q]? = some (.cells #[.string x1.1, .string x3.1, .string x5.1, .string x7.1, .slice none 0 0, .slice (some ⟨q1, 0, none⟩) 1 1] 57 (0, 0))) := ⟨(hf.block q (blk_lt HB7.out) (by omega)).trans HB7.out⟩
  have HC8 : Aside0 (w8.heap[p]? = some (.cells zeroR 57 (0, 0))) := ⟨(hf.block p (blk_lt HC7.out) (by omega)).trans HC7.out⟩
  have HO8 := Aside0.mk (row_fr2 HO7.out hf)
  clear hx hf hl HX7 HF7 HB7 HC7 HO7 HE
  try clear fz ce
  rcases bnd_some HP.out with ⟨er, h1, rfl⟩ | ⟨x9, h1, h2⟩
  · injection h1 with h1
    have HE := Aside0.mk h1
    clear h1
    go_wp2_with fail
    refine (need_calls HX8.out ⟨#[58]⟩ [58] rfl (by decide)).mono ?_
    intro e wz he
    rw [HE.out] at he
    obtain ⟨en, pz⟩ := er
    obtain ⟨rfl, hb⟩ := he
    go_wp2
    exact ⟨rfl, rfl, hb⟩
  injection h1 with h1
  have HE := Aside0.mk h1
  clear HP
  have HP := Aside0.mk h2
  clear h1 h2
  go_wp2_with fail
  refine (need_calls HX8.out ⟨#[58]⟩ [58] rfl (by decide)).mono ?_
  intro e w9 he
  rw [HE.out] at he
  obtain ⟨rfl, hx, hf⟩ := he
  have hl := HQ.out
  have HX9 := Aside0.mk hx
  have HF9 := Aside0.mk (fr_then HF8.out hf)
  have HB9 : Aside0 (w9.heap[q]? = some (.cells #[.string x1.1, .string x3.1, .string x5.1, .string x7.1, .slice none 0 0, .slice (some ⟨q1, 0, none⟩) 1 1] 57 (0, 0))) := ⟨(hf.block q (blk_lt HB8.out) (by omega)).trans HB8.out⟩
  have HC9 : Aside0 (w9.heap[p]? = some (.cells zeroR 57 (0, 0))) := ⟨(hf.block p (blk_lt HC8.out) (by omega)).trans HC8.out⟩
  have HO9 := Aside0.mk (row_fr2 HO8.out hf)
  clear hx hf hl HX8 HF8 HB8 HC8 HO8 HE
  try clear fz ce
  cases hc1 : isT sIs x9 with
  | true =>
    have HIS := Aside0.mk hc1
    have hp2 := HP.out
    rw [if_neg (fun h => by rw [hc1] at h; exact absurd h.1 (by decide))] at hp2
    have HP1 := Aside0.mk hp2
    clear HP hp2 hc1
    rcases bnd_some HP1.out with ⟨er, h1, rfl⟩ | ⟨su, h1, h2⟩
    · exact absurd h1 (by simp)
    simp only [Option.some.injEq, Except.ok.injEq] at h1
    subst h1
    have HP := Aside0.mk h2
    clear h2 HP1
    obtain ⟨oo, cc, hs⟩ := HX9.out
    have HST := Aside0.mk hs
    clear hs
    go_wp2_with fail
    refine (is_calls HST.out ⟨#[105, 115]⟩ sIs rfl).mono ?_
    rintro e w10 ⟨rfl, hd⟩
    rw [HIS.out]
    have HX10 : Aside0 (Sx w0 w10 b g x9 0) := ⟨⟨oo, cc, HST.out.drawn hd⟩⟩
    obtain ⟨nn, rfl⟩ := hd.out
    have HF10 : Aside0 (Fr b w.heap.size w (w9.drewN nn)) := ⟨HF9.out.drewN nn⟩
    have HB10 : Aside0 ((w9.drewN nn).heap[q]? = some (.cells #[.string x1.1, .string x3.1, .string x5.1, .string x7.1, .slice none 0 0, .slice (some ⟨q1, 0, none⟩) 1 1] 57 (0, 0))) := ⟨HB9.out⟩
    have HC10 : Aside0 ((w9.drewN nn).heap[p]? = some (.cells zeroR 57 (0, 0))) := ⟨HC9.out⟩
    have HO10 := Aside0.mk (row_fr2 HO9.out ((Fr.refl b w9.heap.size w9).drewN nn))
    have HS10 : Aside0 (k62.R 62 (w9.drewN nn) w.heap.size (fun k => b < k ∧ w.heap.size < k ∧ k ≠ q) (.slice none 0 0) []) := ⟨Kd.R_nil _ _ _ _ _⟩
    clear hd HST HX9 HF9 HB9 HC9 HO9
    go_wp2_with fail
    refine (pass_calls HX10.out ⟨#[105, 115]⟩ sIs rfl (by decide)).mono ?_
    rintro e wp ⟨rfl, hx, hf⟩
    have hl := HQ.out
    have HXp := Aside0.mk hx
    have HFp := Aside0.mk (fr_then HF10.out hf)
    have HBp : Aside0 (wp.heap[q]? = some (.cells #[.string x1.1, .string x3.1, .string x5.1, .string x7.1, .slice none 0 0, .slice (some ⟨q1, 0, none⟩) 1 1] 57 (0, 0))) := ⟨(hf.block q (blk_lt HB10.out) (by omega)).trans HB10.out⟩
    have HCp : Aside0 (wp.heap[p]? = some (.cells zeroR 57 (0, 0))) := ⟨(hf.block p (blk_lt HC10.out) (by omega)).trans HC10.out⟩
    have HOp := Aside0.mk (row_fr2 HO10.out hf)
    have HSp := Aside0.mk (row_fr2 HS10.out hf)
    clear hx hf hl HX10 HF10 HB10 HC10 HO10 HS10
    cases hh : isT sIs x9 with
    | true =>
      have HXr : Aside0 (Sx w0 wp b g x9.tail 0) := ⟨by have := HXp.out; unfold goT at this; rwa [if_pos hh] at this⟩
      have hp2 := HP.out
      try dsimp only at hp2
      rw [if_pos hh] at hp2
      have HP2 := Aside0.mk hp2
      clear hp2 HP HXp hh
      rcases bnd_some HP2.out with ⟨er, h1, rfl⟩ | ⟨y, h1, h2⟩
      · have HE := Aside0.mk h1
        clear h1
        go_wp2_with fail
        refine ((both_calls k).2 _ _ _ _ _ _ _ HXr.out (by decide) HE.out).mono ?_
        intro e wz he
        obtain ⟨en, pz⟩ := er
        obtain ⟨rfl, hb⟩ := he
        go_wp2
        exact ⟨rfl, rfl, hb⟩
      have HE := Aside0.mk h1
      have HP3 := Aside0.mk h2
      clear h1 h2 HP2
      go_wp2_with fail
      refine ((both_calls k).2 _ _ _ _ _ _ _ HXr.out (by decide) HE.out).mono ?_
      intro e wr he
      obtain ⟨vr, rfl, ho, hx, hf⟩ := he
      obtain ⟨Ar, nr, rfl⟩ := Kd.R_slice ho
      have hl := HQ.out
      have fz := blk_frozen (show wr.heap[q]? = some (.cells #[.string x1.1, .string x3.1, .string x5.1, .string x7.1, .slice none 0 0, .slice (some ⟨q1, 0, none⟩) 1 1] 57 (0, 0)) from (hf.block q (blk_lt HBp.out) (by omega)).trans HBp.out) 5
      have ce := blk_cell (show wr.heap[q]? = some (.cells #[.string x1.1, .string x3.1, .string x5.1, .string x7.1, .slice none 0 0, .slice (some ⟨q1, 0, none⟩) 1 1] 57 (0, 0)) from (hf.block q (blk_lt HBp.out) (by omega)).trans HBp.out) 5
      have HX7 : Aside0 (Sx w0 (wr.setCell ⟨q, 5, none⟩ (.slice Ar y.1.length nr)) b g y.2 0) := ⟨hx.set (by omega) (by omega) (by omega) _ _⟩
      have HF7 : Aside0 (Fr b w.heap.size w (wr.setCell ⟨q, 5, none⟩ (.slice Ar y.1.length nr))) := ⟨fr_setFar (fr_then HFp.out hf) (by omega) _ _⟩
      have HB7 : Aside0 ((wr.setCell ⟨q, 5, none⟩ (.slice Ar y.1.length nr)).heap[q]? = some (.cells #[.string x1.1, .string x3.1, .string x5.1, .string x7.1, .slice none 0 0, (.slice Ar y.1.length nr)] 57 (0, 0))) := ⟨by simpa using blk_set (show wr.heap[q]? = some (.cells #[.string x1.1, .string x3.1, .string x5.1, .string x7.1, .slice none 0 0, .slice (some ⟨q1, 0, none⟩) 1 1] 57 (0, 0)) from (hf.block q (blk_lt HBp.out) (by omega)).trans HBp.out) 5 (.slice Ar y.1.length nr)⟩
      have HC7 : Aside0 ((wr.setCell ⟨q, 5, none⟩ (.slice Ar y.1.length nr)).heap[p]? = some (.cells zeroR 57 (0, 0))) := ⟨(Below.heap_setCell wr ⟨q, 5, none⟩ _ p (show p ≠ q by omega)).trans ((hf.block p (blk_lt HCp.out) (by omega)).trans HCp.out)⟩
      have HO7 : Aside0 (k59.R 59 (wr.setCell ⟨q, 5, none⟩ (.slice Ar y.1.length nr)) w.heap.size (fun k => b < k ∧ w.heap.size < k ∧ k ≠ q) (.slice Ar y.1.length nr) y.1) := ⟨row_far (row_new ho (blk_lt HBp.out) (by have := blk_lt HBp.out; omega) HFp.out.size) _ _⟩
      have HS7 : Aside0 (k62.R 62 (wr.setCell ⟨q, 5, none⟩ (.slice Ar y.1.length nr)) w.heap.size (fun k => b < k ∧ w.heap.size < k ∧ k ≠ q) (.slice none 0 0) ([] : List SS)) := ⟨row_far (row_fr2 HSp.out hf) _ _⟩
      clear ho hx hf hl HFp HBp HCp HOp HSp HXr HE
      rcases bnd_some HP3.out with ⟨er, h1, rfl⟩ | ⟨z, h1, h2⟩
      · injection h1 with h1
        have HE := Aside0.mk h1
        clear h1
        go_wp2_with fail
        refine (need_calls HX7.out ⟨#[59]⟩ [59] rfl (by decide)).mono ?_
        intro e wz he
        rw [HE.out] at he
        obtain ⟨en, pz⟩ := er
        obtain ⟨rfl, hb⟩ := he
        go_wp2
        exact ⟨rfl, rfl, hb⟩
      injection h1 with h1
      obtain rfl := Option.some.inj h2
      have HE := Aside0.mk h1
      clear h1 h2 HP3
      go_wp2_with fail
      refine (need_calls HX7.out ⟨#[59]⟩ [59] rfl (by decide)).mono ?_
      intro e wn he
      rw [HE.out] at he
      obtain ⟨rfl, hx, hf⟩ := he
      have hl := HQ.out
      have HX8 := Aside0.mk hx
      have HF8 := Aside0.mk (fr_then HF7.out hf)
      have HB8 : Aside0 (wn.heap[q]? = some (.cells #[.string x1.1, .string x3.1, .string x5.1, .string x7.1, .slice none 0 0, (.slice Ar y.1.length nr)] 57 (0, 0))) := ⟨(hf.block q (blk_lt HB7.out) (by omega)).trans HB7.out⟩
      have HC8 : Aside0 (wn.heap[p]? = some (.cells zeroR 57 (0, 0))) := ⟨(hf.block p (blk_lt HC7.out) (by omega)).trans HC7.out⟩
      have HO8 := Aside0.mk (row_fr2 HO7.out hf)
      have HS8 := Aside0.mk (row_fr2 HS7.out hf)
      clear hx hf hl HX7 HF7 HB7 HC7 HO7 HS7 HE
      try clear fz ce
      go_upto_region 16 with (fail)
      have hl := HQ.out
      have HXe : Aside0 (Sx w0 (wn.setRow p #[.string x1.1, .string x3.1, .string x5.1, .string x7.1, .slice none 0 0, (.slice Ar y.1.length nr)]) b g z 0) := ⟨HX8.out.setRow (by omega) (by omega) (by omega) _⟩
      have HFe : Aside0 (Fr b w.heap.size w (wn.setRow p #[.string x1.1, .string x3.1, .string x5.1, .string x7.1, .slice none 0 0, (.slice Ar y.1.length nr)])) := ⟨fr_setRow HF8.out (by omega) _⟩
      have HOe := Aside0.mk (row_out (p := p) HO8.out (by omega) #[.string x1.1, .string x3.1, .string x5.1, .string x7.1, .slice none 0 0, (.slice Ar y.1.length nr)])
      have HSe := Aside0.mk (row_out (p := p) HS8.out (by omega) #[.string x1.1, .string x3.1, .string x5.1, .string x7.1, .slice none 0 0, (.slice Ar y.1.length nr)])
      have HCe := setRow_heap wn p zeroR #[.string x1.1, .string x3.1, .string x5.1, .string x7.1, .slice none 0 0, (.slice Ar y.1.length nr)] 57 (0, 0) HC8.out
      refine wp_region_lit ?_
      refine wpList_load_row rfl 57 (.tmp 3) rfl q rfl _ _ _ HB8.out row57 size57 ?_
      refine wpList_store_row rfl 57 (.tmp 2) (.tmp 47) rfl p zeroR #[.string x1.1, .string x3.1, .string x5.1, .string x7.1, .slice none 0 0, (.slice Ar y.1.length nr)] 57 rfl rfl HC8.out size57 rfl (by simp [Value.oneCell']) ?_
      have r0 := blk_cell HCe 0
      have r1 := blk_cell HCe 1
      have r2 := blk_cell HCe 2
      have r3 := blk_cell HCe 3
      have r4 := blk_cell HCe 4
      have r5 := blk_cell HCe 5
      obtain ⟨wz, hwz⟩ : ∃ wz, wn.setRow p #[.string x1.1, .string x3.1, .string x5.1, .string x7.1, .slice none 0 0, (.slice Ar y.1.length nr)] = wz := ⟨_, rfl⟩
      rw [hwz] at HXe HFe HOe HSe r0 r1 r2 r3 r4 r5 ⊢
      clear HCe HB8 HC8 HX8 HF8 HO8 HS8 hl hwz
      go_wp2
      exact bodyPost_ret (v := .agg #[.string x1.1, .string x3.1, .string x5.1, .string x7.1, .slice none 0 0, (.slice Ar y.1.length nr)]) (by simp [results, Tryd.results102, go_sem, r0, r1, r2, r3, r4, r5]) rfl ⟨_, _, rfl, HSe.out, HOe.out, HXe.out, HFe.out⟩
    | false =>
      exact absurd hh (by rw [HIS.out]; decide)
  | false =>
    have HIS := Aside0.mk hc1
    obtain ⟨oo, cc, hs⟩ := HX9.out
    have HST := Aside0.mk hs
    clear hs hc1
    cases hc2 : isT [59] x9 with
    | true =>
      have HIZ := Aside0.mk hc2
      have hp2 := HP.out
      rw [if_neg (fun h => by rw [hc2] at h; exact absurd h.2 (by decide))] at hp2
      have HP1 := Aside0.mk hp2
      clear HP hp2 hc2
      rcases bnd_some HP1.out with ⟨er, h1, rfl⟩ | ⟨su, h1, h2⟩
      · exact absurd h1 (by simp)
      simp only [Option.some.injEq, Except.ok.injEq] at h1
      subst h1
      have HP := Aside0.mk h2
      clear h2 HP1
      go_wp2_with fail
      refine (is_calls HST.out ⟨#[105, 115]⟩ sIs rfl).mono ?_
      rintro e wi ⟨rfl, hd⟩
      rw [HIS.out]
      have HSU : Aside0 (St w0 wi b g oo cc x9 0) := ⟨HST.out.drawn hd⟩
      obtain ⟨n1, rfl⟩ := hd.out
      clear hd
      go_wp2_with fail
      refine (is_calls HSU.out ⟨#[59]⟩ [59] rfl).mono ?_
      rintro e w10 ⟨rfl, hd⟩
      rw [HIZ.out]
      have HX10 : Aside0 (Sx w0 w10 b g x9 0) := ⟨⟨oo, cc, HSU.out.drawn hd⟩⟩
      obtain ⟨n2, rfl⟩ := hd.out
      rw [World.drewN_drewN] at HX10 ⊢
      have HF10 : Aside0 (Fr b w.heap.size w (w9.drewN (n1 + n2))) := ⟨HF9.out.drewN (n1 + n2)⟩
      have HB10 : Aside0 ((w9.drewN (n1 + n2)).heap[q]? = some (.cells #[.string x1.1, .string x3.1, .string x5.1, .string x7.1, .slice none 0 0, .slice (some ⟨q1, 0, none⟩) 1 1] 57 (0, 0))) := ⟨HB9.out⟩
      have HC10 : Aside0 ((w9.drewN (n1 + n2)).heap[p]? = some (.cells zeroR 57 (0, 0))) := ⟨HC9.out⟩
      have HO10 := Aside0.mk (row_fr2 HO9.out ((Fr.refl b w9.heap.size w9).drewN (n1 + n2)))
      have HS10 : Aside0 (k62.R 62 (w9.drewN (n1 + n2)) w.heap.size (fun k => b < k ∧ w.heap.size < k ∧ k ≠ q) (.slice none 0 0) []) := ⟨Kd.R_nil _ _ _ _ _⟩
      clear hd HST HSU HX9 HF9 HB9 HC9 HO9
      go_wp2_with fail
      refine (pass_calls HX10.out ⟨#[105, 115]⟩ sIs rfl (by decide)).mono ?_
      rintro e wp ⟨rfl, hx, hf⟩
      have hl := HQ.out
      have HXp := Aside0.mk hx
      have HFp := Aside0.mk (fr_then HF10.out hf)
      have HBp : Aside0 (wp.heap[q]? = some (.cells #[.string x1.1, .string x3.1, .string x5.1, .string x7.1, .slice none 0 0, .slice (some ⟨q1, 0, none⟩) 1 1] 57 (0, 0))) := ⟨(hf.block q (blk_lt HB10.out) (by omega)).trans HB10.out⟩
      have HCp : Aside0 (wp.heap[p]? = some (.cells zeroR 57 (0, 0))) := ⟨(hf.block p (blk_lt HC10.out) (by omega)).trans HC10.out⟩
      have HOp := Aside0.mk (row_fr2 HO10.out hf)
      have HSp := Aside0.mk (row_fr2 HS10.out hf)
      clear hx hf hl HX10 HF10 HB10 HC10 HO10 HS10
      cases hh : isT sIs x9 with
      | true =>
        exact absurd hh (by rw [HIS.out]; decide)
      | false =>
        have HX7 : Aside0 (Sx w0 wp b g x9 0) := ⟨by have := HXp.out; unfold goT at this; rwa [if_neg (by rw [hh]; decide)] at this⟩
        have hp2 := HP.out
        try dsimp only at hp2
        rw [if_neg (by rw [hh]; decide)] at hp2
        clear HP HXp hh
        rcases bnd_some hp2 with ⟨er, h1, rfl⟩ | ⟨y, h1, h2⟩
        · exact absurd h1 (by simp)
        simp only [Option.some.injEq, Except.ok.injEq] at h1
        subst h1
        have HP3 := Aside0.mk h2
        clear hp2 h2
        have HF7 := HFp
        have HB7 := HBp
        have HC7 := HCp
        have HO7 := HOp
        have HS7 := HSp
        clear HFp HBp HCp HOp HSp
        rcases bnd_some HP3.out with ⟨er, h1, rfl⟩ | ⟨z, h1, h2⟩
        · injection h1 with h1
          have HE := Aside0.mk h1
          clear h1
          go_wp2_with fail
          refine (need_calls HX7.out ⟨#[59]⟩ [59] rfl (by decide)).mono ?_
          intro e wz he
          rw [HE.out] at he
          obtain ⟨en, pz⟩ := er
          obtain ⟨rfl, hb⟩ := he
          go_wp2
          exact ⟨rfl, rfl, hb⟩
        injection h1 with h1
        obtain rfl := Option.some.inj h2
        have HE := Aside0.mk h1
        clear h1 h2 HP3
        go_wp2_with fail
        refine (need_calls HX7.out ⟨#[59]⟩ [59] rfl (by decide)).mono ?_
        intro e wn he
        rw [HE.out] at he
        obtain ⟨rfl, hx, hf⟩ := he
        have hl := HQ.out
        have HX8 := Aside0.mk hx
        have HF8 := Aside0.mk (fr_then HF7.out hf)
        have HB8 : Aside0 (wn.heap[q]? = some (.cells #[.string x1.1, .string x3.1, .string x5.1, .string x7.1, .slice none 0 0, .slice (some ⟨q1, 0, none⟩) 1 1] 57 (0, 0))) := ⟨(hf.block q (blk_lt HB7.out) (by omega)).trans HB7.out⟩
        have HC8 : Aside0 (wn.heap[p]? = some (.cells zeroR 57 (0, 0))) := ⟨(hf.block p (blk_lt HC7.out) (by omega)).trans HC7.out⟩
        have HO8 := Aside0.mk (row_fr2 HO7.out hf)
        have HS8 := Aside0.mk (row_fr2 HS7.out hf)
        clear hx hf hl HX7 HF7 HB7 HC7 HO7 HS7 HE
        try clear fz ce
        go_upto_region 16 with (fail)
        have hl := HQ.out
        have HXe : Aside0 (Sx w0 (wn.setRow p #[.string x1.1, .string x3.1, .string x5.1, .string x7.1, .slice none 0 0, .slice (some ⟨q1, 0, none⟩) 1 1]) b g z 0) := ⟨HX8.out.setRow (by omega) (by omega) (by omega) _⟩
        have HFe : Aside0 (Fr b w.heap.size w (wn.setRow p #[.string x1.1, .string x3.1, .string x5.1, .string x7.1, .slice none 0 0, .slice (some ⟨q1, 0, none⟩) 1 1])) := ⟨fr_setRow HF8.out (by omega) _⟩
        have HOe := Aside0.mk (row_out (p := p) HO8.out (by omega) #[.string x1.1, .string x3.1, .string x5.1, .string x7.1, .slice none 0 0, .slice (some ⟨q1, 0, none⟩) 1 1])
        have HSe := Aside0.mk (row_out (p := p) HS8.out (by omega) #[.string x1.1, .string x3.1, .string x5.1, .string x7.1, .slice none 0 0, .slice (some ⟨q1, 0, none⟩) 1 1])
        have HCe := setRow_heap wn p zeroR #[.string x1.1, .string x3.1, .string x5.1, .string x7.1, .slice none 0 0, .slice (some ⟨q1, 0, none⟩) 1 1] 57 (0, 0) HC8.out
        refine wp_region_lit ?_
        refine wpList_load_row rfl 57 (.tmp 3) rfl q rfl _ _ _ HB8.out row57 size57 ?_
        refine wpList_store_row rfl 57 (.tmp 2) (.tmp 47) rfl p zeroR #[.string x1.1, .string x3.1, .string x5.1, .string x7.1, .slice none 0 0, .slice (some ⟨q1, 0, none⟩) 1 1] 57 rfl rfl HC8.out size57 rfl (by simp [Value.oneCell']) ?_
        have r0 := blk_cell HCe 0
        have r1 := blk_cell HCe 1
        have r2 := blk_cell HCe 2
        have r3 := blk_cell HCe 3
        have r4 := blk_cell HCe 4
        have r5 := blk_cell HCe 5
        obtain ⟨wz, hwz⟩ : ∃ wz, wn.setRow p #[.string x1.1, .string x3.1, .string x5.1, .string x7.1, .slice none 0 0, .slice (some ⟨q1, 0, none⟩) 1 1] = wz := ⟨_, rfl⟩
        rw [hwz] at HXe HFe HOe HSe r0 r1 r2 r3 r4 r5 ⊢
        clear HCe HB8 HC8 HX8 HF8 HO8 HS8 hl hwz
        go_wp2
        exact bodyPost_ret (v := .agg #[.string x1.1, .string x3.1, .string x5.1, .string x7.1, .slice none 0 0, .slice (some ⟨q1, 0, none⟩) 1 1]) (by simp [results, Tryd.results102, go_sem, r0, r1, r2, r3, r4, r5]) rfl ⟨_, _, rfl, HSe.out, HOe.out, HXe.out, HFe.out⟩
    | false =>
      have HIZ := Aside0.mk hc2
      have hp2 := HP.out
      rw [if_pos ⟨HIS.out, HIZ.out⟩] at hp2
      have HP1 := Aside0.mk hp2
      clear HP hp2 hc2
      go_wp2_with fail
      refine (is_calls HST.out ⟨#[105, 115]⟩ sIs rfl).mono ?_
      rintro e wi ⟨rfl, hd⟩
      rw [HIS.out]
      have HSU : Aside0 (St w0 wi b g oo cc x9 0) := ⟨HST.out.drawn hd⟩
      obtain ⟨n1, rfl⟩ := hd.out
      clear hd
      go_wp2_with fail
      refine (is_calls HSU.out ⟨#[59]⟩ [59] rfl).mono ?_
      rintro e wy ⟨rfl, hd⟩
      rw [HIZ.out]
      have HXy : Aside0 (Sx w0 wy b g x9 0) := ⟨⟨oo, cc, HSU.out.drawn hd⟩⟩
      obtain ⟨n2, rfl⟩ := hd.out
      rw [World.drewN_drewN] at HXy ⊢
      have HFy : Aside0 (Fr b w.heap.size w (w9.drewN (n1 + n2))) := ⟨HF9.out.drewN (n1 + n2)⟩
      have HBy : Aside0 ((w9.drewN (n1 + n2)).heap[q]? = some (.cells #[.string x1.1, .string x3.1, .string x5.1, .string x7.1, .slice none 0 0, .slice (some ⟨q1, 0, none⟩) 1 1] 57 (0, 0))) := ⟨HB9.out⟩
      have HCy : Aside0 ((w9.drewN (n1 + n2)).heap[p]? = some (.cells zeroR 57 (0, 0))) := ⟨HC9.out⟩
      have HOy := Aside0.mk (row_fr2 HO9.out ((Fr.refl b w9.heap.size w9).drewN (n1 + n2)))
      clear hd HST HSU HX9 HF9 HB9 HC9 HO9
      rcases bnd_some HP1.out with ⟨er, h1, rfl⟩ | ⟨su, h1, h2⟩
      · have HE := Aside0.mk h1
        clear h1
        go_wp2_with fail
        refine (subs_calls k HXy.out HE.out).mono ?_
        intro e wz he
        obtain ⟨en, pz⟩ := er
        obtain ⟨rfl, hb⟩ := he
        go_wp2
        exact ⟨rfl, rfl, hb⟩
      have HE := Aside0.mk h1
      have HP := Aside0.mk h2
      clear h1 h2 HP1
      go_wp2_with fail
      refine (subs_calls k HXy.out HE.out).mono ?_
      intro e wr he
      obtain ⟨vr, rfl, ho, hx, hf⟩ := he
      obtain ⟨As, ns, rfl⟩ := Kd.R_slice ho
      have hl := HQ.out
      have fz := blk_frozen (show wr.heap[q]? = some (.cells #[.string x1.1, .string x3.1, .string x5.1, .string x7.1, .slice none 0 0, .slice (some ⟨q1, 0, none⟩) 1 1] 57 (0, 0)) from (hf.block q (blk_lt HBy.out) (by omega)).trans HBy.out) 4
      have ce := blk_cell (show wr.heap[q]? = some (.cells #[.string x1.1, .string x3.1, .string x5.1, .string x7.1, .slice none 0 0, .slice (some ⟨q1, 0, none⟩) 1 1] 57 (0, 0)) from (hf.block q (blk_lt HBy.out) (by omega)).trans HBy.out) 4
      have HX10 : Aside0 (Sx w0 (wr.setCell ⟨q, 4, none⟩ (.slice As su.1.length ns)) b g su.2 0) := ⟨hx.set (by omega) (by omega) (by omega) _ _⟩
      have HF10 : Aside0 (Fr b w.heap.size w (wr.setCell ⟨q, 4, none⟩ (.slice As su.1.length ns))) := ⟨fr_setFar (fr_then HFy.out hf) (by omega) _ _⟩
      have HB10 : Aside0 ((wr.setCell ⟨q, 4, none⟩ (.slice As su.1.length ns)).heap[q]? = some (.cells #[.string x1.1, .string x3.1, .string x5.1, .string x7.1, (.slice As su.1.length ns), .slice (some ⟨q1, 0, none⟩) 1 1] 57 (0, 0))) := ⟨by simpa using blk_set (show wr.heap[q]? = some (.cells #[.string x1.1, .string x3.1, .string x5.1, .string x7.1, .slice none 0 0, .slice (some ⟨q1, 0, none⟩) 1 1] 57 (0, 0)) from (hf.block q (blk_lt HBy.out) (by omega)).trans HBy.out) 4 (.slice As su.1.length ns)⟩
      have HC10 : Aside0 ((wr.setCell ⟨q, 4, none⟩ (.slice As su.1.length ns)).heap[p]? = some (.cells zeroR 57 (0, 0))) := ⟨(Below.heap_setCell wr ⟨q, 4, none⟩ _ p (show p ≠ q by omega)).trans ((hf.block p (blk_lt HCy.out) (by omega)).trans HCy.out)⟩
      have HO10 : Aside0 (k59.R 59 (wr.setCell ⟨q, 4, none⟩ (.slice As su.1.length ns)) w.heap.size (fun k => b < k ∧ w.heap.size < k ∧ k ≠ q) (.slice (some ⟨q1, 0, none⟩) 1 1) [op1 1]) := ⟨row_far (row_fr2 HOy.out hf) _ _⟩
      have HS10 : Aside0 (k62.R 62 (wr.setCell ⟨q, 4, none⟩ (.slice As su.1.length ns)) w.heap.size (fun k => b < k ∧ w.heap.size < k ∧ k ≠ q) (.slice As su.1.length ns) su.1) := ⟨row_far (row_new ho (blk_lt HBy.out) (by have := blk_lt HBy.out; omega) HFy.out.size) _ _⟩
      clear ho hx hf hl HXy HFy HBy HCy HOy HE
      go_wp2_with fail
      refine (pass_calls HX10.out ⟨#[105, 115]⟩ sIs rfl (by decide)).mono ?_
      rintro e wp ⟨rfl, hx, hf⟩
      have hl := HQ.out
      have HXp := Aside0.mk hx
      have HFp := Aside0.mk (fr_then HF10.out hf)
      have HBp : Aside0 (wp.heap[q]? = some (.cells #[.string x1.1, .string x3.1, .string x5.1, .string x7.1, (.slice As su.1.length ns), .slice (some ⟨q1, 0, none⟩) 1 1] 57 (0, 0))) := ⟨(hf.block q (blk_lt HB10.out) (by omega)).trans HB10.out⟩
      have HCp : Aside0 (wp.heap[p]? = some (.cells zeroR 57 (0, 0))) := ⟨(hf.block p (blk_lt HC10.out) (by omega)).trans HC10.out⟩
      have HOp := Aside0.mk (row_fr2 HO10.out hf)
      have HSp := Aside0.mk (row_fr2 HS10.out hf)
      clear hx hf hl HX10 HF10 HB10 HC10 HO10 HS10
      cases hh : isT sIs su.2 with
      | true =>
        have HXr : Aside0 (Sx w0 wp b g su.2.tail 0) := ⟨by have := HXp.out; unfold goT at this; rwa [if_pos hh] at this⟩
        have hp2 := HP.out
        try dsimp only at hp2
        rw [if_pos hh] at hp2
        have HP2 := Aside0.mk hp2
        clear hp2 HP HXp hh
        rcases bnd_some HP2.out with ⟨er, h1, rfl⟩ | ⟨y, h1, h2⟩
        · have HE := Aside0.mk h1
          clear h1
          go_wp2_with fail
          refine ((both_calls k).2 _ _ _ _ _ _ _ HXr.out (by decide) HE.out).mono ?_
          intro e wz he
          obtain ⟨en, pz⟩ := er
          obtain ⟨rfl, hb⟩ := he
          go_wp2
          exact ⟨rfl, rfl, hb⟩
        have HE := Aside0.mk h1
        have HP3 := Aside0.mk h2
        clear h1 h2 HP2
        go_wp2_with fail
        refine ((both_calls k).2 _ _ _ _ _ _ _ HXr.out (by decide) HE.out).mono ?_
        intro e wr he
        obtain ⟨vr, rfl, ho, hx, hf⟩ := he
        obtain ⟨Ar, nr, rfl⟩ := Kd.R_slice ho
        have hl := HQ.out
        have fz := blk_frozen (show wr.heap[q]? = some (.cells #[.string x1.1, .string x3.1, .string x5.1, .string x7.1, (.slice As su.1.length ns), .slice (some ⟨q1, 0, none⟩) 1 1] 57 (0, 0)) from (hf.block q (blk_lt HBp.out) (by omega)).trans HBp.out) 5
        have ce := blk_cell (show wr.heap[q]? = some (.cells #[.string x1.1, .string x3.1, .string x5.1, .string x7.1, (.slice As su.1.length ns), .slice (some ⟨q1, 0, none⟩) 1 1] 57 (0, 0)) from (hf.block q (blk_lt HBp.out) (by omega)).trans HBp.out) 5
        have HX7 : Aside0 (Sx w0 (wr.setCell ⟨q, 5, none⟩ (.slice Ar y.1.length nr)) b g y.2 0) := ⟨hx.set (by omega) (by omega) (by omega) _ _⟩
        have HF7 : Aside0 (Fr b w.heap.size w (wr.setCell ⟨q, 5, none⟩ (.slice Ar y.1.length nr))) := ⟨fr_setFar (fr_then HFp.out hf) (by omega) _ _⟩
        have HB7 : Aside0 ((wr.setCell ⟨q, 5, none⟩ (.slice Ar y.1.length nr)).heap[q]? = some (.cells #[.string x1.1, .string x3.1, .string x5.1, .string x7.1, (.slice As su.1.length ns), (.slice Ar y.1.length nr)] 57 (0, 0))) := ⟨by simpa using blk_set (show wr.heap[q]? = some (.cells #[.string x1.1, .string x3.1, .string x5.1, .string x7.1, (.slice As su.1.length ns), .slice (some ⟨q1, 0, none⟩) 1 1] 57 (0, 0)) from (hf.block q (blk_lt HBp.out) (by omega)).trans HBp.out) 5 (.slice Ar y.1.length nr)⟩
        have HC7 : Aside0 ((wr.setCell ⟨q, 5, none⟩ (.slice Ar y.1.length nr)).heap[p]? = some (.cells zeroR 57 (0, 0))) := ⟨(Below.heap_setCell wr ⟨q, 5, none⟩ _ p (show p ≠ q by omega)).trans ((hf.block p (blk_lt HCp.out) (by omega)).trans HCp.out)⟩
        have HO7 : Aside0 (k59.R 59 (wr.setCell ⟨q, 5, none⟩ (.slice Ar y.1.length nr)) w.heap.size (fun k => b < k ∧ w.heap.size < k ∧ k ≠ q) (.slice Ar y.1.length nr) y.1) := ⟨row_far (row_new ho (blk_lt HBp.out) (by have := blk_lt HBp.out; omega) HFp.out.size) _ _⟩
        have HS7 : Aside0 (k62.R 62 (wr.setCell ⟨q, 5, none⟩ (.slice Ar y.1.length nr)) w.heap.size (fun k => b < k ∧ w.heap.size < k ∧ k ≠ q) ((.slice As su.1.length ns)) su.1) := ⟨row_far (row_fr2 HSp.out hf) _ _⟩
        clear ho hx hf hl HFp HBp HCp HOp HSp HXr HE
        rcases bnd_some HP3.out with ⟨er, h1, rfl⟩ | ⟨z, h1, h2⟩
        · injection h1 with h1
          have HE := Aside0.mk h1
          clear h1
          go_wp2_with fail
          refine (need_calls HX7.out ⟨#[59]⟩ [59] rfl (by decide)).mono ?_
          intro e wz he
          rw [HE.out] at he
          obtain ⟨en, pz⟩ := er
          obtain ⟨rfl, hb⟩ := he
          go_wp2
          exact ⟨rfl, rfl, hb⟩
        injection h1 with h1
        obtain rfl := Option.some.inj h2
        have HE := Aside0.mk h1
        clear h1 h2 HP3
        go_wp2_with fail
        refine (need_calls HX7.out ⟨#[59]⟩ [59] rfl (by decide)).mono ?_
        intro e wn he
        rw [HE.out] at he
        obtain ⟨rfl, hx, hf⟩ := he
        have hl := HQ.out
        have HX8 := Aside0.mk hx
        have HF8 := Aside0.mk (fr_then HF7.out hf)
        have HB8 : Aside0 (wn.heap[q]? = some (.cells #[.string x1.1, .string x3.1, .string x5.1, .string x7.1, (.slice As su.1.length ns), (.slice Ar y.1.length nr)] 57 (0, 0))) := ⟨(hf.block q (blk_lt HB7.out) (by omega)).trans HB7.out⟩
        have HC8 : Aside0 (wn.heap[p]? = some (.cells zeroR 57 (0, 0))) := ⟨(hf.block p (blk_lt HC7.out) (by omega)).trans HC7.out⟩
        have HO8 := Aside0.mk (row_fr2 HO7.out hf)
        have HS8 := Aside0.mk (row_fr2 HS7.out hf)
        clear hx hf hl HX7 HF7 HB7 HC7 HO7 HS7 HE
        try clear fz ce
        go_upto_region 16 with (fail)
        have hl := HQ.out
        have HXe : Aside0 (Sx w0 (wn.setRow p #[.string x1.1, .string x3.1, .string x5.1, .string x7.1, (.slice As su.1.length ns), (.slice Ar y.1.length nr)]) b g z 0) := ⟨HX8.out.setRow (by omega) (by omega) (by omega) _⟩
        have HFe : Aside0 (Fr b w.heap.size w (wn.setRow p #[.string x1.1, .string x3.1, .string x5.1, .string x7.1, (.slice As su.1.length ns), (.slice Ar y.1.length nr)])) := ⟨fr_setRow HF8.out (by omega) _⟩
        have HOe := Aside0.mk (row_out (p := p) HO8.out (by omega) #[.string x1.1, .string x3.1, .string x5.1, .string x7.1, (.slice As su.1.length ns), (.slice Ar y.1.length nr)])
        have HSe := Aside0.mk (row_out (p := p) HS8.out (by omega) #[.string x1.1, .string x3.1, .string x5.1, .string x7.1, (.slice As su.1.length ns), (.slice Ar y.1.length nr)])
        have HCe := setRow_heap wn p zeroR #[.string x1.1, .string x3.1, .string x5.1, .string x7.1, (.slice As su.1.length ns), (.slice Ar y.1.length nr)] 57 (0, 0) HC8.out
        refine wp_region_lit ?_
        refine wpList_load_row rfl 57 (.tmp 3) rfl q rfl _ _ _ HB8.out row57 size57 ?_
        refine wpList_store_row rfl 57 (.tmp 2) (.tmp 47) rfl p zeroR #[.string x1.1, .string x3.1, .string x5.1, .string x7.1, (.slice As su.1.length ns), (.slice Ar y.1.length nr)] 57 rfl rfl HC8.out size57 rfl (by simp [Value.oneCell']) ?_
        have r0 := blk_cell HCe 0
        have r1 := blk_cell HCe 1
        have r2 := blk_cell HCe 2
        have r3 := blk_cell HCe 3
        have r4 := blk_cell HCe 4
        have r5 := blk_cell HCe 5
        obtain ⟨wz, hwz⟩ : ∃ wz, wn.setRow p #[.string x1.1, .string x3.1, .string x5.1, .string x7.1, (.slice As su.1.length ns), (.slice Ar y.1.length nr)] = wz := ⟨_, rfl⟩
        rw [hwz] at HXe HFe HOe HSe r0 r1 r2 r3 r4 r5 ⊢
        clear HCe HB8 HC8 HX8 HF8 HO8 HS8 hl hwz
        go_wp2
        exact bodyPost_ret (v := .agg #[.string x1.1, .string x3.1, .string x5.1, .string x7.1, (.slice As su.1.length ns), (.slice Ar y.1.length nr)]) (by simp [results, Tryd.results102, go_sem, r0, r1, r2, r3, r4, r5]) rfl ⟨_, _, rfl, HSe.out, HOe.out, HXe.out, HFe.out⟩
      | false =>
        have HX7 : Aside0 (Sx w0 wp b g su.2 0) := ⟨by have := HXp.out; unfold goT at this; rwa [if_neg (by rw [hh]; decide)] at this⟩
        have hp2 := HP.out
        try dsimp only at hp2
        rw [if_neg (by rw [hh]; decide)] at hp2
        clear HP HXp hh
        rcases bnd_some hp2 with ⟨er, h1, rfl⟩ | ⟨y, h1, h2⟩
        · exact absurd h1 (by simp)
        simp only [Option.some.injEq, Except.ok.injEq] at h1
        subst h1
        have HP3 := Aside0.mk h2
        clear hp2 h2
        have HF7 := HFp
        have HB7 := HBp
        have HC7 := HCp
        have HO7 := HOp
        have HS7 := HSp
        clear HFp HBp HCp HOp HSp
        rcases bnd_some HP3.out with ⟨er, h1, rfl⟩ | ⟨z, h1, h2⟩
        · injection h1 with h1
          have HE := Aside0.mk h1
          clear h1
          go_wp2_with fail
          refine (need_calls HX7.out ⟨#[59]⟩ [59] rfl (by decide)).mono ?_
          intro e wz he
          rw [HE.out] at he
          obtain ⟨en, pz⟩ := er
          obtain ⟨rfl, hb⟩ := he
          go_wp2
          exact ⟨rfl, rfl, hb⟩
        injection h1 with h1
        obtain rfl := Option.some.inj h2
        have HE := Aside0.mk h1
        clear h1 h2 HP3
        go_wp2_with fail
        refine (need_calls HX7.out ⟨#[59]⟩ [59] rfl (by decide)).mono ?_
        intro e wn he
        rw [HE.out] at he
        obtain ⟨rfl, hx, hf⟩ := he
        have hl := HQ.out
        have HX8 := Aside0.mk hx
        have HF8 := Aside0.mk (fr_then HF7.out hf)
        have HB8 : Aside0 (wn.heap[q]? = some (.cells #[.string x1.1, .string x3.1, .string x5.1, .string x7.1, (.slice As su.1.length ns), .slice (some ⟨q1, 0, none⟩) 1 1] 57 (0, 0))) := ⟨(hf.block q (blk_lt HB7.out) (by omega)).trans HB7.out⟩
        have HC8 : Aside0 (wn.heap[p]? = some (.cells zeroR 57 (0, 0))) := ⟨(hf.block p (blk_lt HC7.out) (by omega)).trans HC7.out⟩
        have HO8 := Aside0.mk (row_fr2 HO7.out hf)
        have HS8 := Aside0.mk (row_fr2 HS7.out hf)
        clear hx hf hl HX7 HF7 HB7 HC7 HO7 HS7 HE
        try clear fz ce
        go_upto_region 16 with (fail)
        have hl := HQ.out
        have HXe : Aside0 (Sx w0 (wn.setRow p #[.string x1.1, .string x3.1, .string x5.1, .string x7.1, (.slice As su.1.length ns), .slice (some ⟨q1, 0, none⟩) 1 1]) b g z 0) := ⟨HX8.out.setRow (by omega) (by omega) (by omega) _⟩
        have HFe : Aside0 (Fr b w.heap.size w (wn.setRow p #[.string x1.1, .string x3.1, .string x5.1, .string x7.1, (.slice As su.1.length ns), .slice (some ⟨q1, 0, none⟩) 1 1])) := ⟨fr_setRow HF8.out (by omega) _⟩
        have HOe := Aside0.mk (row_out (p := p) HO8.out (by omega) #[.string x1.1, .string x3.1, .string x5.1, .string x7.1, (.slice As su.1.length ns), .slice (some ⟨q1, 0, none⟩) 1 1])
        have HSe := Aside0.mk (row_out (p := p) HS8.out (by omega) #[.string x1.1, .string x3.1, .string x5.1, .string x7.1, (.slice As su.1.length ns), .slice (some ⟨q1, 0, none⟩) 1 1])
        have HCe := setRow_heap wn p zeroR #[.string x1.1, .string x3.1, .string x5.1, .string x7.1, (.slice As su.1.length ns), .slice (some ⟨q1, 0, none⟩) 1 1] 57 (0, 0) HC8.out
        refine wp_region_lit ?_
        refine wpList_load_row rfl 57 (.tmp 3) rfl q rfl _ _ _ HB8.out row57 size57 ?_
        refine wpList_store_row rfl 57 (.tmp 2) (.tmp 47) rfl p zeroR #[.string x1.1, .string x3.1, .string x5.1, .string x7.1, (.slice As su.1.length ns), .slice (some ⟨q1, 0, none⟩) 1 1] 57 rfl rfl HC8.out size57 rfl (by simp [Value.oneCell']) ?_
        have r0 := blk_cell HCe 0
        have r1 := blk_cell HCe 1
        have r2 := blk_cell HCe 2
        have r3 := blk_cell HCe 3
        have r4 := blk_cell HCe 4
        have r5 := blk_cell HCe 5
        obtain ⟨wz, hwz⟩ : ∃ wz, wn.setRow p #[.string x1.1, .string x3.1, .string x5.1, .string x7.1, (.slice As su.1.length ns), .slice (some ⟨q1, 0, none⟩) 1 1] = wz := ⟨_, rfl⟩
        rw [hwz] at HXe HFe HOe HSe r0 r1 r2 r3 r4 r5 ⊢
        clear HCe HB8 HC8 HX8 HF8 HO8 HS8 hl hwz
        go_wp2
        exact bodyPost_ret (v := .agg #[.string x1.1, .string x3.1, .string x5.1, .string x7.1, (.slice As su.1.length ns), .slice (some ⟨q1, 0, none⟩) 1 1]) (by simp [results, Tryd.results102, go_sem, r0, r1, r2, r3, r4, r5]) rfl ⟨_, _, rfl, HSe.out, HOe.out, HXe.out, HFe.out⟩
end Go.Proofs.YtkgnhghaiopgcaaDoor.Pw
namespace Go.Proofs.YtkgnhghaiopgcaaDoor.Pw
open Go.RowKit Go.Maps Go.Proofs.YtkgnhghaiopgcaaDoorW.PrintWords Go.Proofs.YtkgnhghaiopgcaaDoorW.PrintLast Go.Proofs.YtkgnhghaiopgcaaDoor.X Go.Proofs.YtkgnhghaiopgcaaDoor.Kx Go.Proofs.YtkgnhghaiopgcaaDoor.Gl Go.Proofs.YtkgnhghaiopgcaaDoor.GlFn Go.Proofs.YtkgnhghaiopgcaaDoor.Tk Go.Proofs.YtkgnhghaiopgcaaDoor.Ps

def finT (x : List ST × List Tok) : Option (Except Er (List ST)) :=
  match x.2 with
    | [] => some (.error (30, 0))
    | t :: _ => if t.kind = 3 then some (.ok x.1) else some (.error (30, t.at_))
theorem schemaT_fin (k : Nat) (ts : List Tok) : schemaT k ts = bnd (typesL k [] ts) finT := rfl
theorem bnd_assoc {α β γ : Type} (x : Option (Except Er α)) (f : α → Option (Except Er β)) (g : β → Option (Except Er γ)) : bnd (bnd x f) g = bnd x (fun a => bnd (f a) g) := by
  cases x with
  | none => rfl
  | some y => cases y <;> rfl
theorem bnd_some_ok {α β : Type} (a : α) (f : α → Option (Except Er β)) : bnd (some (.ok a)) f = f a := rfl
theorem subsL_len : ∀ (k : Nat) (acc : List SS) (ts : List Tok) (x : List SS × List Tok), subsL k acc ts = some (.ok x) → x.2.length ≤ ts.length
  | 0, _, _, _, h => absurd h (by simp [subsL])
  | k + 1, acc, ts, x, h => by
    rw [subsL] at h
    obtain ⟨y, h1, h2⟩ := bnd_ok h
    have h3 : y.2.length ≤ ts.length := by
      have h1 := Option.some.inj h1
      unfold subT at h1
      cases hn : nameT ts with
      | error e => rw [hn] at h1; exact absurd h1 (by simp)
      | ok a =>
        obtain ⟨n, r⟩ := a
        have l1 := nameT_len hn
        rw [hn] at h1
        dsimp only at h1
        split at h1
        · rename_i hh
          have l2 := isT_len hh
          cases hn2 : nameT r.tail with
          | error e => rw [hn2] at h1; exact absurd h1 (by simp)
          | ok a2 =>
            obtain ⟨n2, r2⟩ := a2
            have l3 := nameT_len hn2
            rw [hn2] at h1
            simp only [Except.ok.injEq] at h1
            subst h1
            show r2.length ≤ _
            omega
        · simp only [Except.ok.injEq] at h1
          subst h1
          show r.length ≤ _
          omega
    split at h2
    · rename_i hh
      have := subsL_len k _ _ _ h2
      have := isT_len hh
      omega
    · obtain rfl := Except.ok.inj (Option.some.inj h2)
      exact h3
theorem relT_len {k : Nat} {ts : List Tok} {x : SR × List Tok} (h : relT k ts = some (.ok x)) : x.2.length + 1 ≤ ts.length := by
  unfold relT at h
  obtain ⟨a, h1, h⟩ := bnd_ok h
  obtain ⟨t2, h2, h⟩ := bnd_ok h
  obtain ⟨b, h3, h⟩ := bnd_ok h
  obtain ⟨t4, h4, h⟩ := bnd_ok h
  obtain ⟨c, h5, h⟩ := bnd_ok h
  obtain ⟨t6, h6, h⟩ := bnd_ok h
  obtain ⟨d, h7, h⟩ := bnd_ok h
  obtain ⟨t8, h8, h⟩ := bnd_ok h
  obtain ⟨t9, h9, h⟩ := bnd_ok h
  obtain ⟨su, h10, h⟩ := bnd_ok h
  obtain ⟨ops, h11, h⟩ := bnd_ok h
  obtain ⟨t12, h12, h⟩ := bnd_ok h
  obtain rfl := Except.ok.inj (Option.some.inj h)
  have l1 := nameT_len (Option.some.inj h1)
  have l2 := needT_len (Option.some.inj h2)
  have l3 := nameT_len (Option.some.inj h3)
  have l4 := needT_len (Option.some.inj h4)
  have l5 := nameT_len (Option.some.inj h5)
  have l6 := needT_len (Option.some.inj h6)
  have l7 := nameT_len (Option.some.inj h7)
  have l8 := needT_len (Option.some.inj h8)
  have l9 := needT_len (Option.some.inj h9)
  have l12 := needT_len (Option.some.inj h12)
  have l10 : su.2.length ≤ t9.length := by
    split at h10
    · exact subsL_len _ _ _ _ h10
    · obtain rfl := Except.ok.inj (Option.some.inj h10)
      exact Nat.le_refl _
  have l11 : ops.2.length ≤ su.2.length := by
    split at h11
    · rename_i hh
      have l := (sizes k).2.1 _ _ _ _ h11
      have := isT_len hh
      omega
    · obtain rfl := Except.ok.inj (Option.some.inj h11)
      exact Nat.le_refl _
  show t12.length + 1 ≤ _
  omega
theorem row_b {α : Type} {d : Kd α} {t : Nat} {w w' : World} {base b m : Nat} {v : Value} {xs : List α} (h : d.R t w base (fun k => k < m) v xs) (hf : Fr b w.heap.size w w') (hb : b < base) : d.R t w' base (fun k => k < m) v xs :=
  Kd.R_mono (Kd.R_step (Kd.R_bound h) (fun k ho hk => hf.block k hk (by have := ho.2.1; omega))) (fun k hk => hk.1)
theorem row_t {α : Type} {d : Kd α} {t : Nat} {w w' : World} {base b : Nat} {v : Value} {xs : List α} (h : d.R t w base (fun _ => True) v xs) (hf : Fr b w.heap.size w w') (hb : b < base) : d.R t w' base (fun _ => True) v xs :=
  Kd.R_mono (Kd.R_step (Kd.R_bound h) (fun k ho hk => hf.block k hk (by have := ho.2.1; omega))) (fun _ _ => trivial)
theorem row_lt {α : Type} {d : Kd α} {t : Nat} {w : World} {base m : Nat} {v : Value} {xs : List α} (h : d.R t w base (fun _ => True) v xs) (hm : w.heap.size ≤ m) : d.R t w base (fun k => k < m) v xs :=
  Kd.R_mono (Kd.R_bound h) (fun k hk => by have := hk.2.2.1; omega)
theorem row_any {α : Type} {d : Kd α} {t : Nat} {w : World} {base m : Nat} {v : Value} {xs : List α} (h : d.R t w base (fun k => k < m) v xs) : d.R t w base (fun _ => True) v xs :=
  Kd.R_mono h (fun _ _ => trivial)
theorem row_setr {α : Type} {d : Kd α} {t : Nat} {w : World} {base q : Nat} {v : Value} {xs : List α} (h : d.R t w base (fun _ => True) v xs) (hq : q < base) (cs : Array Value) : d.R t (w.setRow q cs) base (fun _ => True) v xs :=
  Kd.R_mono (Kd.R_step (w1 := w.setRow q cs) (Kd.R_bound h) (fun k ho hk => setRow_other w q k cs (by have := ho.2.1; omega))) (fun _ _ => trivial)
def SchPost (w0 w : World) (b : Nat) (x : List ST) (e : Ending) (w' : World) : Prop :=
  ∃ v, e = .returned (.agg #[v]) ∧ k53.R 53 w' w.heap.size (fun _ => True) v x ∧ Below w0.heap.size w0 w' ∧ Fr b w.heap.size w w'
theorem row43 : (Tryd.prog.underlying 43).map TypeDesc.isRow = some true := by kernel_rfl
theorem size43 : (Tryd.prog.info? 43).map (·.size) = some 1 := by
  have := info43
  cases h : Tryd.prog.info? 43 with
  | none => rw [h] at this; exact absurd this (by simp)
  | some i => rw [h] at this; simp at this ⊢; exact this.2.1
theorem goesQ_ {P : Program} {ops : Array Oper} {Q : Exit → Act → World → Prop} {oi : Oper} {N : Option Tmp} {a : Act} {w : World} {K : Act → World → Prop} {f : FuncId} {fn : Func} {xs : Array Operand} {ts : Array TypeId} (hf : P.funcs[f]? = some fn) (hname : (fn.name == "runtime.NumGoroutine") = false) (hb : fn.body.isSome = true) (args : Array Value)
    (hw : Region.wanted oi (yielded ops a.tmps) = true) (hN : oi.dst = N) (hop : oi.op = .call { callee := .value (.func f), args := xs, argTypes := ts }) (hargs : xs.map a.eval = args)
    (h : Calls P f args w fun e w' => (∃ v, e = .returned v ∧ K (a.put N v) w') ∨ ∃ c, e = .panicked c ∧ Q (.panic c) a w') : if Region.wanted oi (yielded ops a.tmps) = true then Oper.wp P oi a w K Q else K (a.put N undef) w := by
  rw [if_pos hw]
  have he := enters_ hf hname hb args w
  have hrun : (execOp a.eval oi).run P w = .ok (.enter f args) w := by
    unfold execOp
    simp [hop, resolve, Deferred.ofValue, invoke, Act.eval, hargs, he]
  unfold Oper.wp
  rw [hrun, Oper.upon_enter]
  refine h.mono fun e w'' hh => ?_
  subst hN
  rcases hh with ⟨v, rfl, hk⟩ | ⟨c, rfl, hk⟩
  · exact hk
  · exact hk

set_option maxHeartbeats 8000000 in
set_option maxRecDepth 100000 in
theorem schema_calls (k : Nat) {w0 w : World} {b g : Nat} {ts : List Tok} {res : Except Er (List ST)} (h : Sx w0 w b g ts 0) (hp : schemaT k ts = some res) :
    Calls Tryd.prog 67 #[.pointer (some ⟨b, 0, none⟩)] w (EndX res (SchPost w0 w b) w0) := by
  rw [schemaT_fin] at hp
  have HP := Aside0.mk hp
  have HL := Aside0.mk h.lt
  have HSM : Aside0 (([] : List ST).length + ts.length ≤ 4096) := ⟨by simpa using h.small⟩
  have hX1 := h.below (below_alloc (Below.refl _ _) (.cells #[.slice none 0 0] 43))
  have hX2 := hX1.below (below_alloc (Below.refl _ _) (.cells #[.slice none 0 0] 43))
  have h1 : (w.alloc (.cells #[.slice none 0 0] 43)).heap.size = w.heap.size + 1 := by simp
  have hF : Fr b w.heap.size w ((w.alloc (.cells #[.slice none 0 0] 43)).alloc (.cells #[.slice none 0 0] 43)) :=
    ((Fr.refl b w.heap.size w).alloc (Nat.le_refl _) _).alloc (by rw [h1]; omega) _
  have hB : ((w.alloc (.cells #[.slice none 0 0] 43)).alloc (.cells #[.slice none 0 0] 43)).heap[w.heap.size + 1]? = some (.cells #[.slice none 0 0] 43 (0, 0)) := by
    have := (Go.MapKept.heap_alloc (w.alloc (.cells #[.slice none 0 0] 43)) (.cells #[.slice none 0 0] 43)).1
    rwa [h1] at this
  have hC : ((w.alloc (.cells #[.slice none 0 0] 43)).alloc (.cells #[.slice none 0 0] 43)).heap[w.heap.size]? = some (.cells #[.slice none 0 0] 43 (0, 0)) := by
    rw [Below.heap_alloc _ _ _ (by rw [h1]; omega)]
    exact (Go.MapKept.heap_alloc w _).1
  obtain ⟨wa, hwa⟩ : ∃ wa, ((w.alloc (.cells #[.slice none 0 0] 43)).alloc (.cells #[.slice none 0 0] 43)) = wa := ⟨_, rfl⟩
  rw [hwa] at hX2 hF hB hC
  have HW := Aside0.mk hwa
  have HX := Aside0.mk hX2
  have HF := Aside0.mk hF
  have HB := Aside0.mk hB
  have HC := Aside0.mk hC
  clear hX1 hX2 hF hB hC h1 hwa h hp
  go_enter Tryd.func67, Tryd.ntmps67
  go_wp2_with fail
  rw [HW.out]
  clear HW
  obtain ⟨p, hp⟩ : ∃ p, w.heap.size = p := ⟨_, rfl⟩
  obtain ⟨q, hq⟩ : ∃ q, w.heap.size + 1 = q := ⟨_, rfl⟩
  rw [hq] at HB ⊢
  rw [hp] at HC
  rw [hp]
  have HQ : Aside0 (b < p ∧ g < p ∧ w0.heap.size ≤ p ∧ p < q ∧ w.heap.size = p) := ⟨by have := HL.out; omega⟩
  clear hp hq
  go_loopg [] k (fun kq wr => ∃ (acc : List ST) (ts : List Tok) (v : Value), Aside0 (bnd (typesL kq acc ts) finT = some res) ∧ Aside0 (k53.R 53 wr (q + 1) (fun _ => True) v acc) ∧ Aside0 (Sx w0 wr b g ts 0) ∧ Aside0 (Fr b w.heap.size w wr) ∧ Aside0 (wr.heap[q]? = some (.cells #[v] 43 (0, 0))) ∧ Aside0 (wr.heap[p]? = some (.cells #[.slice none 0 0] 43 (0, 0))) ∧ Aside0 (acc.length + ts.length ≤ 4096))
  case atStart => exact ⟨[], ts, _, HP, ⟨Kd.R_nil _ _ _ _ _⟩, HX, HF, HB, HC, HSM⟩
  case round =>
    clear HP HX HF HB HC HSM
    obtain ⟨acc, ts1, v, HA, HV, HX, HF, HB, HC, HSM⟩ := hrel
    rename World => wr
    cases gk with
    | zero => exact absurd HA.out (by simp [typesL, bnd])
    | succ k1 =>
      have ha := HA.out
      rw [typesL] at ha
      have HA1 := Aside0.mk ha
      clear HA ha
      go_wp2_with fail
      refine (pass_calls HX.out ⟨#[116, 121, 112, 101]⟩ sType rfl (by decide)).mono ?_
      rintro e w1 ⟨rfl, hx, hf⟩
      have hl := HQ.out
      have HF1 := Aside0.mk (fr_then HF.out hf)
      have HB1 : Aside0 (w1.heap[q]? = some (.cells #[v] 43 (0, 0))) := ⟨(hf.block q (blk_lt HB.out) (by omega)).trans HB.out⟩
      have HC1 : Aside0 (w1.heap[p]? = some (.cells #[.slice none 0 0] 43 (0, 0))) := ⟨(hf.block p (blk_lt HC.out) (by omega)).trans HC.out⟩
      have HV1 := Aside0.mk (row_t HV.out hf (by omega))
      have HXx := Aside0.mk hx
      clear hx hf hl HX HF HB HC HV
      cases hh : isT sType ts1 with
      | false =>
        have HX1 : Aside0 (Sx w0 w1 b g ts1 0) := ⟨by have := HXx.out; unfold goT at this; rwa [if_neg (by rw [hh]; decide)] at this⟩
        have hfin : finT (acc, ts1) = some res := by
          have := HA1.out
          rw [if_neg (by rw [hh]; decide)] at this
          exact this
        clear hh HXx HA1
        cases ts1 with
        | nil => obtain ⟨oo, cc, hs⟩ := HX1.out; exact absurd rfl hs.ends.ne
        | cons t r =>
          obtain ⟨oo, cc, hs⟩ := HX1.out
          have q0 := hs.c0
          obtain ⟨q1, q2, q3⟩ := hs.toks 0 t rfl
          simp only [Nat.mul_zero, Nat.add_zero] at q1 q2 q3
          have p1 : decide ((0 : Int) < (((t :: r).length : Nat) : Int)) = true := decide_eq_true (by simp only [List.length_cons]; omega)
          have p2 : ((0 : Int) < (((t :: r).length : Nat) : Int)) = True := eq_true (by simp only [List.length_cons]; omega)
          have p3 : decide (0 < (t :: r).length) = true := decide_eq_true (by simp)
          have p4 : 0 < (t :: r).length := by simp
          clear hs
          by_cases e2 : t.kind = 3
          · have t2 : (t.kind != 3) = false := by simp [e2]
            have t3 : (t.kind == 3) = true := beq_iff_eq.mpr e2
            have hr : res = .ok acc := by
              unfold finT at hfin
              dsimp only at hfin
              rw [if_pos e2] at hfin
              exact (Option.some.inj hfin).symm
            subst hr
            clear hfin e2
            generalize (t :: r).length = n at q0 p1 p2 p3 p4
            go_upto_region 11 with (fail)
            clear q0 q1 q2 q3 p1 p2 p3 p4 t2 t3
            have hl := HQ.out
            have HBe : Aside0 (Below w0.heap.size w0 (w1.setRow p #[v])) := ⟨by obtain ⟨oo, cc, hs⟩ := HX1.out; exact below_setRow hs.bel (by omega) _⟩
            have HFe : Aside0 (Fr b w.heap.size w (w1.setRow p #[v])) := ⟨fr_setRow HF1.out (by omega) _⟩
            have HVe := Aside0.mk (row_setr (q := p) HV1.out (by omega) #[v])
            have HCe := setRow_heap w1 p #[.slice none 0 0] #[v] 43 (0, 0) HC1.out
            have h1c : (#[v] : Array Value).all (·.oneCell') = true := by obtain ⟨A, c, rfl⟩ := Kd.R_slice HV1.out; simp [Value.oneCell']
            refine wp_region_lit ?_
            refine wpList_load_row rfl 43 (.tmp 3) rfl q rfl _ _ _ HB1.out row43 size43 ?_
            refine wpList_store_row rfl 43 (.tmp 2) (.tmp 39) rfl p #[.slice none 0 0] #[v] 43 rfl rfl HC1.out size43 rfl h1c ?_
            have r0 := blk_cell HCe 0
            obtain ⟨wz, hwz⟩ : ∃ wz, w1.setRow p #[v] = wz := ⟨_, rfl⟩
            rw [hwz] at HBe HFe HVe r0 ⊢
            clear HCe HB1 HC1 HX1 HF1 HV1 hl hwz h1c
            go_wp2
            exact bodyPost_ret (v := .agg #[v]) (by simp [results, Tryd.results67, go_sem, r0]) rfl ⟨_, rfl, Kd.R_lower HVe.out (by have := HQ.out; omega), HBe.out, HFe.out⟩
          · have t2 : (t.kind != 3) = true := by simp [e2]
            have t3 : (t.kind == 3) = false := beq_eq_false_iff_ne.mpr e2
            have hr : res = .error (30, t.at_) := by
              unfold finT at hfin
              dsimp only at hfin
              rw [if_neg e2] at hfin
              exact (Option.some.inj hfin).symm
            subst hr
            clear hfin e2
            generalize (t :: r).length = n at q0 p1 p2 p3 p4
            go_wp2_with fail
            refine (fail_calls HX1.out 30).mono ?_
            rintro e wz ⟨rfl, hb⟩
            go_wp2
            exact ⟨rfl, rfl, hb⟩
      | true =>
        have HX2 : Aside0 (Sx w0 w1 b g ts1.tail 0) := ⟨by have := HXx.out; unfold goT at this; rwa [if_pos hh] at this⟩
        have ha2 := HA1.out
        rw [if_pos hh] at ha2
        unfold typeT at ha2
        simp only [bnd_assoc, bnd_some_ok] at ha2
        have HA2 := Aside0.mk ha2
        have HLT := Aside0.mk (isT_len hh)
        clear ha2 hh HXx HA1
        rcases bnd_some HA2.out with ⟨er, h1, rfl⟩ | ⟨nm, h1, h2⟩
        · injection h1 with h1
          have HE := Aside0.mk h1
          clear h1
          go_wp2_with fail
          refine (name_calls HX2.out).mono ?_
          intro e wz he
          rw [HE.out] at he
          obtain ⟨en, pz⟩ := er
          obtain ⟨rfl, hb⟩ := he
          go_wp2
          exact ⟨rfl, rfl, hb⟩
        injection h1 with h1
        have HE := Aside0.mk h1
        have HA3 := Aside0.mk h2
        clear h1 h2 HA2
        go_wp2_with fail
        refine (name_calls HX2.out).mono ?_
        intro e w2 he
        rw [HE.out] at he
        obtain ⟨rfl, hx, hf⟩ := he
        have hl := HQ.out
        have HF2 := Aside0.mk (fr_then HF1.out hf)
        have HB2 : Aside0 (w2.heap[q]? = some (.cells #[v] 43 (0, 0))) := ⟨(hf.block q (blk_lt HB1.out) (by omega)).trans HB1.out⟩
        have HC2 : Aside0 (w2.heap[p]? = some (.cells #[.slice none 0 0] 43 (0, 0))) := ⟨(hf.block p (blk_lt HC1.out) (by omega)).trans HC1.out⟩
        have HV2 := Aside0.mk (row_t HV1.out hf (by omega))
        have HLN := Aside0.mk (nameT_len HE.out)
        have hq2 := blk_lt HB2.out
        have HX3 : Aside0 (Sx w0 (w2.alloc (.cells #[.string nm.1, .slice none 0 0] 53)) b g nm.2 0) := ⟨hx.below (below_alloc (Below.refl _ _) _)⟩
        have HF3 : Aside0 (Fr b w.heap.size w (w2.alloc (.cells #[.string nm.1, .slice none 0 0] 53))) := ⟨HF2.out.alloc HF2.out.size _⟩
        have HB3 : Aside0 ((w2.alloc (.cells #[.string nm.1, .slice none 0 0] 53)).heap[q]? = some (.cells #[v] 43 (0, 0))) := ⟨by rw [Below.heap_alloc _ _ _ hq2]; exact HB2.out⟩
        have HC3 : Aside0 ((w2.alloc (.cells #[.string nm.1, .slice none 0 0] 53)).heap[p]? = some (.cells #[.slice none 0 0] 43 (0, 0))) := ⟨by rw [Below.heap_alloc _ _ _ (by omega)]; exact HC2.out⟩
        have HV3 : Aside0 (k53.R 53 (w2.alloc (.cells #[.string nm.1, .slice none 0 0] 53)) (q + 1) (fun k => k < w2.heap.size) v acc) := ⟨Kd.R_alloc (row_lt HV2.out (Nat.le_refl _)) _⟩
        have HR3 : Aside0 ((w2.alloc (.cells #[.string nm.1, .slice none 0 0] 53)).heap[w2.heap.size]? = some (.cells #[.string nm.1, .slice none 0 0] 53 (0, 0))) := ⟨(Go.MapKept.heap_alloc w2 _).1⟩
        obtain ⟨r, hr⟩ : ∃ r, w2.heap.size = r := ⟨_, rfl⟩
        rw [hr] at HV3 HR3
        have HQ2 : Aside0 (q < r) := ⟨by omega⟩
        clear hx hf hl hq2 HX2 HF1 HF2 HB1 HB2 HC1 HC2 HV1 HV2 HE
        rcases bnd_some HA3.out with ⟨er, h1, rfl⟩ | ⟨t3, h1, h2⟩
        · injection h1 with h1
          have HE := Aside0.mk h1
          clear h1
          go_wp2_with fail
          refine (need_calls HX3.out ⟨#[123]⟩ [123] rfl (by decide)).mono ?_
          intro e wz he
          rw [HE.out] at he
          obtain ⟨en, pz⟩ := er
          obtain ⟨rfl, hb⟩ := he
          go_wp2
          exact ⟨rfl, rfl, hb⟩
        injection h1 with h1
        have HE := Aside0.mk h1
        have HA4 := Aside0.mk h2
        clear h1 h2 HA3
        go_wp2_with fail
        refine (need_calls HX3.out ⟨#[123]⟩ [123] rfl (by decide)).mono ?_
        intro e w4 he
        rw [HE.out] at he
        obtain ⟨rfl, hx, hf⟩ := he
        have hl := HQ.out
        have hl2 := HQ2.out
        have HX4 := Aside0.mk hx
        have HF4 := Aside0.mk (fr_then HF3.out hf)
        have HB4 : Aside0 (w4.heap[q]? = some (.cells #[v] 43 (0, 0))) := ⟨(hf.block q (blk_lt HB3.out) (by omega)).trans HB3.out⟩
        have HC4 : Aside0 (w4.heap[p]? = some (.cells #[.slice none 0 0] 43 (0, 0))) := ⟨(hf.block p (blk_lt HC3.out) (by omega)).trans HC3.out⟩
        have HR4 : Aside0 (w4.heap[r]? = some (.cells #[.string nm.1, .slice none 0 0] 53 (0, 0))) := ⟨(hf.block r (blk_lt HR3.out) (by omega)).trans HR3.out⟩
        have HV4 := Aside0.mk (row_b HV3.out hf (by omega))
        have HS4 : Aside0 (([] : List SR).length + t3.length ≤ ts1.length) := ⟨by have := needT_len HE.out; have := HLN.out; have := HLT.out; simp only [List.length_nil]; omega⟩
        obtain ⟨Fk, hFk⟩ : ∃ Fk : List SR × List Tok → Option (Except Er (List ST)), (fun l : List SR × List Tok => bnd (some (needT [125] l.2)) fun t4 => bnd (typesL k1 (acc ++ [(⟨nm.1, l.1⟩ : ST)]) t4) finT) = Fk := ⟨_, rfl⟩
        have HFK := Aside0.mk hFk
        have ha5 : bnd (relsL k1 [] t3) Fk = some res := by rw [← hFk]; exact HA4.out
        have HA5 := Aside0.mk ha5
        clear hx hf hl hl2 hr hFk ha5 HA4 HX3 HF3 HB3 HC3 HV3 HR3 HE HLN HLT
        go_wp2_with fail
        go_loopg [] k1 (fun kq wr => ∃ (ar : List SR) (ts : List Tok) (u : Value), Aside0 (bnd (relsL kq ar ts) Fk = some res) ∧ Aside0 (k57.R 57 wr (r + 1) (fun _ => True) u ar) ∧ Aside0 (k53.R 53 wr (q + 1) (fun k => k < r) v acc) ∧ Aside0 (Sx w0 wr b g ts 0) ∧ Aside0 (Fr b w.heap.size w wr) ∧ Aside0 (wr.heap[r]? = some (.cells #[.string nm.1, u] 53 (0, 0))) ∧ Aside0 (wr.heap[q]? = some (.cells #[v] 43 (0, 0))) ∧ Aside0 (wr.heap[p]? = some (.cells #[.slice none 0 0] 43 (0, 0))) ∧ Aside0 (ar.length + ts.length ≤ ts1.length))
        case atStart => exact ⟨[], t3, _, HA5, ⟨Kd.R_nil _ _ _ _ _⟩, HV4, HX4, HF4, HR4, HB4, HC4, HS4⟩
        case round =>
          clear HA5 HV4 HX4 HF4 HR4 HB4 HC4 HS4
          obtain ⟨ar, ts2, u, HA, HU, HV, HX, HF, HR, HB, HC, HS⟩ := hrel
          rename World => wi
          cases gk with
          | zero => exact absurd HA.out (by simp [relsL, bnd])
          | succ k2 =>
            have ha := HA.out
            rw [relsL] at ha
            have HA1 := Aside0.mk ha
            clear HA ha
            go_wp2_with fail
            refine (pass_calls HX.out ⟨#[114, 101, 108]⟩ sRel rfl (by decide)).mono ?_
            rintro e w5 ⟨rfl, hx, hf⟩
            have hl := HQ.out
            have hl2 := HQ2.out
            have HF5 := Aside0.mk (fr_then HF.out hf)
            have HB5 : Aside0 (w5.heap[q]? = some (.cells #[v] 43 (0, 0))) := ⟨(hf.block q (blk_lt HB.out) (by omega)).trans HB.out⟩
            have HC5 : Aside0 (w5.heap[p]? = some (.cells #[.slice none 0 0] 43 (0, 0))) := ⟨(hf.block p (blk_lt HC.out) (by omega)).trans HC.out⟩
            have HR5 : Aside0 (w5.heap[r]? = some (.cells #[.string nm.1, u] 53 (0, 0))) := ⟨(hf.block r (blk_lt HR.out) (by omega)).trans HR.out⟩
            have HV5 := Aside0.mk (row_b HV.out hf (by omega))
            have HU5 := Aside0.mk (row_t HU.out hf (by omega))
            have HXx := Aside0.mk hx
            clear hx hf hl hl2 HX HF HB HC HR HV HU
            cases hh : isT sRel ts2 with
            | false =>
              have HX5 : Aside0 (Sx w0 w5 b g ts2 0) := ⟨by have := HXx.out; unfold goT at this; rwa [if_neg (by rw [hh]; decide)] at this⟩
              have ha6 := HA1.out
              rw [if_neg (by rw [hh]; decide), bnd_some_ok, ← HFK.out] at ha6
              have HA6 := Aside0.mk ha6
              clear ha6 hh HXx HA1
              rcases bnd_some HA6.out with ⟨er, h1, rfl⟩ | ⟨t6, h1, h2⟩
              · injection h1 with h1
                have HE := Aside0.mk h1
                clear h1
                go_wp2_with fail
                refine (need_calls HX5.out ⟨#[125]⟩ [125] rfl (by decide)).mono ?_
                intro e wz he
                rw [HE.out] at he
                obtain ⟨en, pz⟩ := er
                obtain ⟨rfl, hb⟩ := he
                go_wp2
                exact ⟨rfl, rfl, hb⟩
              injection h1 with h1
              have HE := Aside0.mk h1
              have HA7 := Aside0.mk h2
              clear h1 h2 HA6
              go_wp2_with fail
              refine (need_calls HX5.out ⟨#[125]⟩ [125] rfl (by decide)).mono ?_
              intro e w6 he
              rw [HE.out] at he
              obtain ⟨rfl, hx, hf⟩ := he
              have hl := HQ.out
              have hl2 := HQ2.out
              have HX6 := Aside0.mk hx
              have HF6 := Aside0.mk (fr_then HF5.out hf)
              have HB6 : Aside0 (w6.heap[q]? = some (.cells #[v] 43 (0, 0))) := ⟨(hf.block q (blk_lt HB5.out) (by omega)).trans HB5.out⟩
              have HC6 : Aside0 (w6.heap[p]? = some (.cells #[.slice none 0 0] 43 (0, 0))) := ⟨(hf.block p (blk_lt HC5.out) (by omega)).trans HC5.out⟩
              have HR6 : Aside0 (w6.heap[r]? = some (.cells #[.string nm.1, u] 53 (0, 0))) := ⟨(hf.block r (blk_lt HR5.out) (by omega)).trans HR5.out⟩
              have HV6 := Aside0.mk (row_b HV5.out hf (by omega))
              have HU6 := Aside0.mk (row_t HU5.out hf (by omega))
              have HLN6 := Aside0.mk (needT_len HE.out)
              clear hx hf hl hl2 HX5 HF5 HB5 HC5 HR5 HV5 HU5 HE
              go_upto_region 8 with (fail)
              obtain ⟨Av, cv, rfl⟩ := Kd.R_slice HV6.out
              obtain ⟨Au, cu, rfl⟩ := Kd.R_slice HU6.out
              have j0 := blk_cell HB6.out 0
              have fz0 := blk_frozen HB6.out 0
              have j1 := blk_cell HR6.out 0
              have j2 := blk_cell HR6.out 1
              have HG : Aside0 (k57.R 57 w6 (q + 1) (fun k => r < k) (.slice Au ar.length cu) ar) := ⟨Kd.R_lower (Kd.R_mono (Kd.R_bound HU6.out) (fun k hk => by have := hk.2.1; omega)) (by have := HQ2.out; omega)⟩
              have HAV : Aside0 (k53.R 53 w6 (q + 1) (fun _ => True) (.slice Av acc.length cv) acc) := ⟨row_any HV6.out⟩
              have HOV : Aside0 (∀ k, r < k → True ∧ some k ≠ (Value.slice Av acc.length cv).ownBlock) := ⟨fun k hk => ⟨trivial, fun e => by have := HV6.out.1 k e.symm; omega⟩⟩
              have HSZ : Aside0 (q + 1 ≤ w6.heap.size) := ⟨blk_lt HB6.out⟩
              clear HU6
              go_wp2_with (first | ((with_reducible refine gate_builtin (b := .append) (xs := #[.tmp 24, .tmp 26]) rfl ?_); (try (refine gate_guard (by rfl) ?_; dsimp only)); at_builtin; go_must (refine Kd.R_append k53 (w0 := w6) (q + 1) rfl (.tmp 24) (.tmp 26) 41 53 (.agg #[(.string ⟨#[]⟩), (.slice none 0 0)]) 40 rfl Tryd.underlying41 info53 rfl (by decide) (by omega) (.slice Av acc.length cv) acc (⟨nm.1, ar⟩ : ST) [.string nm.1, .slice Au ar.length cu] (fun _ => True) (fun k => r < k) rfl rfl ?bP HOV.out (fun _ _ => trivial) HAV.out ?bB HSZ.out ?bL ?_); (case bP => exact k53_mkM _ _ _ (⟨nm.1, ar⟩ : ST) HG.out); (case bB => exact Below.refl _ _); (case bL => have := HSM.out; have := HLN6.out; have := HS.out; omega); intro v7 w7 ho7 hb7 hg7 hat7; obtain ⟨A7, c7, rfl⟩ := Kd.R_slice ho7; (obtain ⟨n7, hn7⟩ : ∃ n7, (acc ++ [(⟨nm.1, ar⟩ : ST)]).length = n7 := ⟨_, rfl⟩); rw [hn7] at ho7 ⊢; have hqq := hb7.block q (Nat.lt_succ_self q); have HB7 := Aside0.mk (hqq.trans HB6.out); have j7 := blk_cell HB7.out 0; have fz7 := blk_frozen HB7.out 0; have HO7 := Aside0.mk ho7; have HBL := Aside0.mk hb7; have HN7 := Aside0.mk hn7; clear ho7 hb7 hg7 hat7 hqq hn7 j0 fz0 j1 j2))
              go_roundg k1
              case measure => omega
              case rel =>
                have hl := HQ.out
                have hl2 := HQ2.out
                refine ⟨acc ++ [(⟨nm.1, ar⟩ : ST)], t6, .slice A7 n7 c7, HA7, ?_, ?_, ?_, ?_, ?_, ?_⟩
                · exact ⟨Kd.R_mono (Kd.R_far (p := ⟨q, 0, none⟩) (Kd.R_bound HO7.out) (fun k hk => by show k ≠ q; have := hk.2.1; omega) _) (fun _ _ => trivial)⟩
                · exact ⟨(HX6.out.belowB HBL.out (by omega) (by omega) (by omega)).set (by omega) (by omega) (by omega) _ _⟩
                · exact ⟨fr_setFar (HF6.out.trans (Fr.below_ (HBL.out.mono (by omega)))) (by omega) _ _⟩
                · exact ⟨by simpa using blk_set HB7.out 0 (.slice A7 n7 c7)⟩
                · exact ⟨(Below.heap_setCell w7 ⟨q, 0, none⟩ _ p (show p ≠ q by omega)).trans ((HBL.out.block p (by omega)).trans HC6.out)⟩
                · exact ⟨by have := HSM.out; have := HLN6.out; have := HS.out; simp only [List.length_append, List.length_cons, List.length_nil]; omega⟩
            | true =>
              have HX5 : Aside0 (Sx w0 w5 b g ts2.tail 0) := ⟨by have := HXx.out; unfold goT at this; rwa [if_pos hh] at this⟩
              have ha6 := HA1.out
              rw [if_pos hh, bnd_assoc] at ha6
              have HA6 := Aside0.mk ha6
              have HLT2 := Aside0.mk (isT_len hh)
              clear ha6 hh HXx HA1
              obtain ⟨Au, cu, rfl⟩ := Kd.R_slice HU5.out
              have HXd : Aside0 (Sx w0 w5.drew b g ts2.tail 0) := ⟨by obtain ⟨oo, cc, hs⟩ := HX5.out; exact ⟨oo, cc, hs.drewN 1⟩⟩
              have HFd : Aside0 (Fr b w.heap.size w w5.drew) := ⟨HF5.out.drew⟩
              have HBd : Aside0 (w5.drew.heap[q]? = some (.cells #[v] 43 (0, 0))) := ⟨HB5.out⟩
              have HCd : Aside0 (w5.drew.heap[p]? = some (.cells #[.slice none 0 0] 43 (0, 0))) := ⟨HC5.out⟩
              have HRd : Aside0 (w5.drew.heap[r]? = some (.cells #[.string nm.1, .slice Au ar.length cu] 53 (0, 0))) := ⟨HR5.out⟩
              have HVd := Aside0.mk (Kd.R_drew HV5.out)
              have HUd := Aside0.mk (Kd.R_drew HU5.out)
              clear HX5 HF5 HB5 HC5 HR5 HV5 HU5
              go_wp2_with fail
              refine start_ (n := 8) (S := fun w' => w'.cell? ⟨r, 1, none⟩ = some (.slice Au ar.length cu)) (ds := [5, 7]) #[false, false, false, false, false, false, false, false] (by kernel_rfl) rfl rfl (blk_cell HRd.out 1) (fun hHeld => ?_)
              generalize w5.drew = w6 at HXd HFd HBd HCd HRd HVd HUd hHeld ⊢
              refine pure_ (i := 0) (N := some 14) (v := ?_) (a' := ?_) #[true, false, false, false, false, false, false, false] rfl rfl (by kernel_rfl) (fun _ _ _ h => h) (Or.inl ⟨by rfl, ?_⟩) ?_ ?_
              rotate_left
              · intro w'
                go_simp
                with_reducible rfl
              rotate_left
              · simp only [Act.put, List.setIfInBounds_toArray, List.set_cons_zero, List.set_cons_succ, i64_w, i32_w]
                rfl
              refine pure_ (i := 2) (N := some 16) (v := ?_) (a' := ?_) #[true, false, true, false, false, false, false, false] rfl rfl (by kernel_rfl) (fun _ _ _ h => h) (Or.inl ⟨by rfl, ?_⟩) ?_ ?_
              rotate_left
              · intro w'
                go_simp
                with_reducible rfl
              rotate_left
              · simp only [Act.put, List.setIfInBounds_toArray, List.set_cons_zero, List.set_cons_succ, i64_w, i32_w]
                rfl
              refine take_ (i := 1) (N := some 15) (v := ?_) (a' := ?_) #[true, true, true, false, false, false, false, false] rfl rfl (by kernel_rfl) (fun _ _ _ h => h) (Or.inl ⟨by rfl, ?_⟩) hHeld ?_ ?_
              rotate_left
              · intro w' s0
                go_simp
                with_reducible rfl
              rotate_left
              · simp only [Act.put, List.setIfInBounds_toArray, List.set_cons_zero, List.set_cons_succ, i64_w, i32_w]
                rfl
              refine one_ (i := 3) (N := some 17) #[true, true, true, true, false, false, false, false] rfl rfl (by kernel_rfl) (by decide) (fun K hK => ?_)
              refine goesQ_ Tryd.func102 (by kernel_rfl) rfl #[.pointer (some ⟨b, 0, none⟩)] (by rfl) rfl rfl (by simp only [List.map_toArray, List.map_cons, List.map_nil]; rfl) ?_
              rcases bnd_some HA6.out with ⟨er, h1, rfl⟩ | ⟨y, h1, h2⟩
              · refine (rel_calls k2 HXd.out rfl h1).mono ?_
                intro e wz he
                obtain ⟨en, pz⟩ := er
                obtain ⟨rfl, hb⟩ := he
                exact .inr ⟨_, rfl, rfl, rfl, hb⟩
              have HA7 := Aside0.mk h2
              have HLR := Aside0.mk (relT_len h1)
              refine (rel_calls k2 HXd.out rfl h1).mono ?_
              rintro e w7 ⟨v4, v5, rfl, g4, g5, hx, hf⟩
              refine .inl ⟨_, rfl, ?_⟩
              obtain ⟨A4, c4, rfl⟩ := Kd.R_slice g4
              obtain ⟨A5, c5, rfl⟩ := Kd.R_slice g5
              have hl := HQ.out
              have hl2 := HQ2.out
              have HX7 := Aside0.mk hx
              have HF7 := Aside0.mk (fr_then HFd.out hf)
              have HB7 := Aside0.mk ((hf.block q (blk_lt HBd.out) (by omega)).trans HBd.out)
              have HC7 := Aside0.mk ((hf.block p (blk_lt HCd.out) (by omega)).trans HCd.out)
              have HR7 := Aside0.mk ((hf.block r (blk_lt HRd.out) (by omega)).trans HRd.out)
              have HV7 := Aside0.mk (row_b HVd.out hf (by omega))
              have HU7 := Aside0.mk (row_t HUd.out hf (by omega))
              have hr6 := blk_lt HRd.out
              have HG4 : Aside0 (k62.R 62 w7 (r + 1) (fun k => w6.heap.size ≤ k) (.slice A4 y.1.f4.length c4) y.1.f4) := ⟨Kd.R_lower (Kd.R_mono (Kd.R_bound g4) (fun k hk => hk.2.1)) (by omega)⟩
              have HG5 : Aside0 (k59.R 59 w7 (r + 1) (fun k => w6.heap.size ≤ k) (.slice A5 y.1.f5.length c5) y.1.f5) := ⟨Kd.R_lower (Kd.R_mono (Kd.R_bound g5) (fun k hk => hk.2.1)) (by omega)⟩
              have HOU : Aside0 (∀ k, w6.heap.size ≤ k → True ∧ some k ≠ (Value.slice Au ar.length cu).ownBlock) := ⟨fun k hk => ⟨trivial, fun e => by have := (row_lt HUd.out (Nat.le_refl _)).1 k e.symm; omega⟩⟩
              have HSZ : Aside0 (r + 1 ≤ w7.heap.size) := ⟨blk_lt HR7.out⟩
              clear g4 g5 hx hf hl hl2 hr6 h1 h2
              refine hK.out _ _ (blk_cell HR7.out 1) (fun hHeld => ?_)
              clear hK K
              refine norm_ (a' := ?_) ?_ ?_
              rotate_left
              · show Act.put _ (some 17) _ = _
                simp only [Act.put, List.setIfInBounds_toArray, List.set_cons_zero, List.set_cons_succ, i64_w, i32_w]
                rfl
              refine one_ (i := 4) (N := some 18) #[true, true, true, true, true, false, false, false] rfl rfl (by kernel_rfl) (by decide) (fun K hK => ?_)
              refine value_ (w1 := ?_) (v := ?_) (by rfl) rfl ?_ ?_
              rotate_left 2
              · go_simp
                constructor
                · rfl
                · rfl
              refine hK.out _ _ ((World.cell?_alloc_lt _ _ _ (World.block_lt_of_cell? _ _ (hHeld))).trans (hHeld)) (fun hHeld => ?_)
              clear hK K
              refine norm_ (a' := ?_) ?_ ?_
              rotate_left
              · show Act.put _ (some 18) _ = _
                simp only [Act.put, List.setIfInBounds_toArray, List.set_cons_zero, List.set_cons_succ, i64_w, i32_w]
                rfl
              refine last_ (i := 5) (N := some 19) #[true, true, true, true, true, true, false, false] rfl rfl (by kernel_rfl) (by decide) (fun K hK => ?_)
              refine Kd.R_append_step k57 (W := w7) (w0 := w7) (r + 1) (by rfl) (.tmp 15) (.tmp 18) 51 57 (.agg #[(.string ⟨#[]⟩), (.string ⟨#[]⟩), (.string ⟨#[]⟩), (.string ⟨#[]⟩), (.slice none 0 0), (.slice none 0 0)]) 112 (by rfl) Tryd.underlying51 info57 rfl (by decide) (by omega) (.slice Au ar.length cu) ar y.1 [.string y.1.f0, .string y.1.f1, .string y.1.f2, .string y.1.f3, .slice A4 y.1.f4.length c4, .slice A5 y.1.f5.length c5] (fun _ => True) (fun k => w6.heap.size ≤ k) (by rfl) (by rfl) (k57_mkM _ _ _ y.1 HG4.out HG5.out) HOU.out (fun _ _ => trivial) HU7.out (Below.refl _ _) HSZ.out (by have := HSM.out; have := HS.out; have := HLT2.out; omega) ?_
              intro v8 w8 ho8 hb8 hg8 hat8
              obtain ⟨A8, c8, rfl⟩ := Kd.R_slice ho8
              obtain ⟨n8, hn8⟩ : ∃ n8, (ar ++ [y.1]).length = n8 := ⟨_, rfl⟩
              rw [hn8] at ho8 ⊢
              have HR8 := Aside0.mk ((hb8.block r (Nat.lt_succ_self r)).trans HR7.out)
              have HO8 := Aside0.mk ho8
              have HBL := Aside0.mk hb8
              have j8 := blk_cell HR8.out 1
              have fz8 := blk_frozen HR8.out 1
              clear ho8 hb8 hg8 hat8 hn8 hHeld
              refine hK.out _ _ ?_
              clear hK K
              refine norm_ (a' := ?_) ?_ ?_
              rotate_left
              · show Act.put _ (some 19) _ = _
                simp only [Act.put, List.setIfInBounds_toArray, List.set_cons_zero, List.set_cons_succ, i64_w, i32_w]
                rfl
              refine pure_ (i := 6) (N := some 20) (v := ?_) (a' := ?_) #[true, true, true, true, true, true, true, false] rfl rfl (by kernel_rfl) (fun _ _ _ h => h) (Or.inl ⟨by rfl, ?_⟩) ?_ ?_
              rotate_left
              · intro w'
                go_simp
                with_reducible rfl
              rotate_left
              · simp only [Act.put, List.setIfInBounds_toArray, List.set_cons_zero, List.set_cons_succ, i64_w, i32_w]
                rfl
              refine last_ (i := 7) (N := none) #[true, true, true, true, true, true, true, true] rfl rfl (by kernel_rfl) (by decide) (fun K hK => ?_)
              refine skip_ (w1 := ?_) (by rfl) rfl ?_ ?_
              rotate_left
              · go_simp
                rfl
              refine hK.out _ _ ?_
              clear hK K
              refine done_ (by kernel_rfl) ?_
              go_wp2
              go_roundg k2
              case measure => omega
              case rel =>
                have hl := HQ.out
                have hl2 := HQ2.out
                refine ⟨ar ++ [y.1], y.2, .slice A8 n8 c8, HA7, ?_, ?_, ?_, ?_, ?_, ?_, ?_, ?_⟩
                · exact ⟨Kd.R_mono (Kd.R_far (p := ⟨r, 1, none⟩) (Kd.R_bound HO8.out) (fun k hk => by show k ≠ r; have := hk.2.1; omega) _) (fun _ _ => trivial)⟩
                · exact ⟨Kd.R_far (p := ⟨r, 1, none⟩) (Kd.R_step HV7.out (fun k ho hk => HBL.out.block k (by omega))) (fun k hk => by show k ≠ r; omega) _⟩
                · exact ⟨(HX7.out.belowB HBL.out (by omega) (by omega) (by omega)).set (by omega) (by omega) (by omega) _ _⟩
                · exact ⟨fr_setFar (HF7.out.trans (Fr.below_ (HBL.out.mono (by omega)))) (by omega) _ _⟩
                · exact ⟨by simpa using blk_set HR8.out 1 (.slice A8 n8 c8)⟩
                · exact ⟨(Below.heap_setCell w8 ⟨r, 1, none⟩ _ q (show q ≠ r by omega)).trans ((HBL.out.block q (by omega)).trans HB7.out)⟩
                · exact ⟨(Below.heap_setCell w8 ⟨r, 1, none⟩ _ p (show p ≠ r by omega)).trans ((HBL.out.block p (by omega)).trans HC7.out)⟩
                · exact ⟨by have := HS.out; have := HLT2.out; have := HLR.out; simp only [List.length_append, List.length_cons, List.length_nil]; omega⟩
end Go.Proofs.YtkgnhghaiopgcaaDoor.Pw
namespace Go.Proofs.YtkgnhghaiopgcaaDoor.Pw
open Go.RowKit Go.Maps Go.Proofs.YtkgnhghaiopgcaaDoorW.PrintWords Go.Proofs.YtkgnhghaiopgcaaDoorW.PrintLast Go.Proofs.YtkgnhghaiopgcaaDoor.X Go.Proofs.YtkgnhghaiopgcaaDoor.Kx Go.Proofs.YtkgnhghaiopgcaaDoor.Gl Go.Proofs.YtkgnhghaiopgcaaDoor.GlFn Go.Proofs.YtkgnhghaiopgcaaDoor.Tk Go.Proofs.YtkgnhghaiopgcaaDoor.Ps

theorem ta_hit {P : Program} {t : TypeId} {d : TypeDesc} (x : TypeId) (v : Value) (w : World) (hu : P.underlying t = some d) (hd : d.isRow = true) :
    (Instr.typeAssert (.iface t v) x t true).run P w = .ok (.tuple #[v, .bool true]) w := by
  cases d <;> first | (simp [Instr.typeAssert, underlying, hu, go_sem]; done) | (exact absurd hd (by simp))
theorem ta_miss {P : Program} {t : TypeId} {d : TypeDesc} (x : TypeId) (z : Value) (w : World) (hu : P.underlying t = some d) (hd : d.isRow = true) (hz : (zeroValue t).run P w = .ok z w) :
    (Instr.typeAssert .nilIface x t true).run P w = .ok (.tuple #[z, .bool false]) w := by
  cases d <;> first | (simp [Instr.typeAssert, underlying, hu, go_sem, hz]; done) | (exact absurd hd (by simp))
theorem row99 : (Tryd.prog.underlying 99).map TypeDesc.isRow = some true := by kernel_rfl
theorem info99 : (Tryd.prog.info? 99).map (fun i => (i.zero, i.size)) = some (some (.agg #[.int .i64 0, .int .i64 0]), 2) := by kernel_rfl
theorem ta_nil (w : World) : (Instr.typeAssert .nilIface 20 99 true).run Tryd.prog w = .ok (.tuple #[.agg #[.int .i64 0, .int .i64 0], .bool false]) w := by
  cases hq : Tryd.prog.underlying 99 with
  | none => have := row99; rw [hq] at this; exact absurd this (by simp)
  | some d =>
    have h1 := row99
    rw [hq] at h1
    refine ta_miss 20 _ w hq (by simpa using h1) ?_
    exact (zero_of_info info99).1 w
theorem ta_ok (v : Value) (w : World) : (Instr.typeAssert (.iface 99 v) 20 99 true).run Tryd.prog w = .ok (.tuple #[v, .bool true]) w := by
  cases hq : Tryd.prog.underlying 99 with
  | none => have := row99; rw [hq] at this; exact absurd this (by simp)
  | some d =>
    have h1 := row99
    rw [hq] at h1
    exact ta_hit 20 v w hq (by simpa using h1)
set_option maxHeartbeats 4000000 in
set_option maxRecDepth 100000 in
theorem catch_idle (p pe pa : Nat) (w : World) :
    CallsD Tryd.prog 66 #[.pointer (some ⟨p, 0, none⟩), .pointer (some ⟨pe, 0, none⟩), .pointer (some ⟨pa, 0, none⟩)] .returning w fun e u' w' => e = .returned (.tuple #[]) ∧ u' = .returning ∧ Below w.heap.size w w' := by
  refine callsD_of_wpS Tryd.func66 rfl fun c₀ cs hu => ?_
  apply wpS_seq
  apply wpS_region
  simp [wpOpsS, go_sem, recoverD, hu, Tryd.ntmps66, Exit.thenS]
  refine wpS_of_wp ?_
  simp only [Array.replicate_succ, Array.replicate_zero, List.push_toArray, List.append_toArray, List.nil_append, List.cons_append, List.setIfInBounds_toArray, List.set_cons_zero, List.set_cons_succ]
  have hta := ta_nil
  go_wp2
  exact ⟨rfl, .returning, by rw [← hu], _, results_none rfl _ _ _, rfl, rfl, below_alloc (Below.refl _ _) _⟩
set_option maxHeartbeats 4000000 in
set_option maxRecDepth 100000 in
theorem catch_fault (p pe pa : Nat) (en : Int) (pz : Nat) (older : List PanicEntry) (w : World) (hp : w.heap[p]? = some (.cells #[.slice none 0 0] 43 (0, 0))) (he : w.heap[pe]? = some (.cells #[.int .i64 0] 24 (0, 0))) (ha : w.heap[pa]? = some (.cells #[.int .i64 0] 3 (0, 0))) (h1 : p < pe) (h2 : pe < pa) :
    CallsD Tryd.prog 66 #[.pointer (some ⟨p, 0, none⟩), .pointer (some ⟨pe, 0, none⟩), .pointer (some ⟨pa, 0, none⟩)] (.panicking ({ v := fault en pz, recovered := false } :: older)) w fun e u' w' =>
      e = .returned (.tuple #[]) ∧ u' = .panicking ({ v := fault en pz, recovered := true } :: older) ∧ w'.cell? ⟨p, 0, none⟩ = some (.slice none 0 0) ∧ w'.cell? ⟨pe, 0, none⟩ = some (.int .i64 en) ∧ w'.cell? ⟨pa, 0, none⟩ = some (.int .i64 pz) ∧ Below p w w' := by
  have c0 := blk_cell hp 0
  have c1 := blk_cell he 0
  have c2 := blk_cell ha 0
  have z0 := blk_frozen hp 0
  have z1 := blk_frozen he 0
  have z2 := blk_frozen ha 0
  have l0 := blk_lt hp
  have l1 := blk_lt he
  have l2 := blk_lt ha
  unfold fault
  refine callsD_of_wpS Tryd.func66 rfl fun c₀ cs hu => ?_
  apply wpS_seq
  apply wpS_region
  simp [wpOpsS, go_sem, recoverD, hu, Tryd.ntmps66, Exit.thenS]
  refine wpS_of_wp ?_
  simp only [Array.replicate_succ, Array.replicate_zero, List.push_toArray, List.append_toArray, List.nil_append, List.cons_append, List.setIfInBounds_toArray, List.set_cons_zero, List.set_cons_succ]
  have hta := fun v w => ta_ok v w
  go_wp2
  obtain ⟨n, hn⟩ : ∃ n, w.heap.size = n := ⟨_, rfl⟩
  have HN : (w.alloc (.cells #[.int .i64 en, .int .i64 pz] 99)).drew.heap[n]? = some (.cells #[.int .i64 en, .int .i64 pz] 99 (0, 0)) := by rw [← hn]; exact (Go.MapKept.heap_alloc w _).1
  have HP : (w.alloc (.cells #[.int .i64 en, .int .i64 pz] 99)).drew.heap[p]? = some (.cells #[.slice none 0 0] 43 (0, 0)) := (Below.heap_alloc w _ p l0).trans hp
  have HE : (w.alloc (.cells #[.int .i64 en, .int .i64 pz] 99)).drew.heap[pe]? = some (.cells #[.int .i64 0] 24 (0, 0)) := (Below.heap_alloc w _ pe l1).trans he
  have HA : (w.alloc (.cells #[.int .i64 en, .int .i64 pz] 99)).drew.heap[pa]? = some (.cells #[.int .i64 0] 3 (0, 0)) := (Below.heap_alloc w _ pa l2).trans ha
  have HB : Below p w (w.alloc (.cells #[.int .i64 en, .int .i64 pz] 99)).drew := ((below_alloc (Below.refl _ _) _).mono (Nat.le_of_lt l0)).drew
  have hq0 : n ≠ p := by omega
  have hq1 : n ≠ pe := by omega
  have hq2 : n ≠ pa := by omega
  clear c0 c1 c2 z0 z1 z2
  rw [hn]
  refine start_ (n := 8) (S := fun w' => w'.cell? ⟨n, 0, none⟩ = some (.int .i64 en) ∧ w'.cell? ⟨n, 1, none⟩ = some (.int .i64 pz)) (ds := [7]) #[false, false, false, false, false, false, false, false] (by kernel_rfl) rfl rfl ⟨blk_cell HN 0, blk_cell HN 1⟩ (fun hHeld => ?_)
  generalize (w.alloc (.cells #[.int .i64 en, .int .i64 pz] 99)).drew = w3 at HN HP HE HA HB hHeld ⊢
  have c0 := blk_cell HP 0
  have z0 := blk_frozen HP 0
  refine pure_ (i := 0) (N := some 13) (v := ?_) (a' := ?_) #[true, false, false, false, false, false, false, false] rfl rfl (by kernel_rfl) (fun _ _ _ h => h) (Or.inl ⟨by rfl, ?_⟩) ?_ ?_
  rotate_left
  · intro w'
    go_simp
    with_reducible rfl
  rotate_left
  · simp only [Act.put, List.setIfInBounds_toArray, List.set_cons_zero, List.set_cons_succ, i64_w, i32_w]
    rfl
  refine pure_ (i := 1) (N := some 14) (v := ?_) (a' := ?_) #[true, true, false, false, false, false, false, false] rfl rfl (by kernel_rfl) (fun _ _ _ h => h) (Or.inl ⟨by rfl, ?_⟩) ?_ ?_
  rotate_left
  · intro w'
    go_simp
    with_reducible rfl
  rotate_left
  · simp only [Act.put, List.setIfInBounds_toArray, List.set_cons_zero, List.set_cons_succ, i64_w, i32_w]
    rfl
  refine pure_ (i := 3) (N := some 16) (v := ?_) (a' := ?_) #[true, true, false, true, false, false, false, false] rfl rfl (by kernel_rfl) (fun _ _ _ h => h) (Or.inl ⟨by rfl, ?_⟩) ?_ ?_
  rotate_left
  · intro w'
    go_simp
    with_reducible rfl
  rotate_left
  · simp only [Act.put, List.setIfInBounds_toArray, List.set_cons_zero, List.set_cons_succ, i64_w, i32_w]
    rfl
  refine take_ (i := 2) (N := some 15) (v := ?_) (a' := ?_) #[true, true, true, true, false, false, false, false] rfl rfl (by kernel_rfl) (fun _ _ _ h => h) (Or.inl ⟨by rfl, ?_⟩) hHeld ?_ ?_
  rotate_left
  · rintro w' ⟨s0, s1⟩
    go_simp
    with_reducible rfl
  rotate_left
  · simp only [Act.put, List.setIfInBounds_toArray, List.set_cons_zero, List.set_cons_succ, i64_w, i32_w]
    rfl
  refine take_ (i := 4) (N := some 17) (v := ?_) (a' := ?_) #[true, true, true, true, true, false, false, false] rfl rfl (by kernel_rfl) (fun _ _ _ h => h) (Or.inl ⟨by rfl, ?_⟩) hHeld ?_ ?_
  rotate_left
  · rintro w' ⟨s0, s1⟩
    go_simp
    with_reducible rfl
  rotate_left
  · simp only [Act.put, List.setIfInBounds_toArray, List.set_cons_zero, List.set_cons_succ, i64_w, i32_w]
    rfl
  refine one_ (i := 5) (N := none) #[true, true, true, true, true, true, false, false] rfl rfl (by kernel_rfl) (by decide) (fun K hK => ?_)
  refine skip_ (w1 := ?_) (by rfl) rfl ?_ ?_
  rotate_left
  · go_simp
    rfl
  have HN4 := (Below.heap_setCell w3 ⟨p, 0, none⟩ (.slice none 0 0) n hq0).trans HN
  have HE4 := (Below.heap_setCell w3 ⟨p, 0, none⟩ (.slice none 0 0) pe (show pe ≠ p by omega)).trans HE
  have HA4 := (Below.heap_setCell w3 ⟨p, 0, none⟩ (.slice none 0 0) pa (show pa ≠ p by omega)).trans HA
  have HP4 : (w3.setCell ⟨p, 0, none⟩ (.slice none 0 0)).heap[p]? = some (.cells #[.slice none 0 0] 43 (0, 0)) := by simpa using blk_set HP 0 (.slice none 0 0)
  have HB4 : Below p w (w3.setCell ⟨p, 0, none⟩ (.slice none 0 0)) := HB.setCell (Nat.le_refl _) _
  generalize w3.setCell ⟨p, 0, none⟩ (.slice none 0 0) = w4 at HN4 HE4 HA4 HP4 HB4 ⊢
  clear HN HE HA HP HB c0 z0
  have c1 := blk_cell HE4 0
  have z1 := blk_frozen HE4 0
  refine hK.out _ _ ⟨blk_cell HN4 0, blk_cell HN4 1⟩ (fun hHeld => ?_)
  clear hK K
  refine one_ (i := 6) (N := none) #[true, true, true, true, true, true, true, false] rfl rfl (by kernel_rfl) (by decide) (fun K hK => ?_)
  refine skip_ (w1 := ?_) (by rfl) rfl ?_ ?_
  rotate_left
  · go_simp
    rfl
  have HN5 := (Below.heap_setCell w4 ⟨pe, 0, none⟩ (.int .i64 en) n hq1).trans HN4
  have HP5 := (Below.heap_setCell w4 ⟨pe, 0, none⟩ (.int .i64 en) p (show p ≠ pe by omega)).trans HP4
  have HA5 := (Below.heap_setCell w4 ⟨pe, 0, none⟩ (.int .i64 en) pa (show pa ≠ pe by omega)).trans HA4
  have HE5 : (w4.setCell ⟨pe, 0, none⟩ (.int .i64 en)).heap[pe]? = some (.cells #[.int .i64 en] 24 (0, 0)) := by simpa using blk_set HE4 0 (.int .i64 en)
  have HB5 : Below p w (w4.setCell ⟨pe, 0, none⟩ (.int .i64 en)) := HB4.setCell (Nat.le_of_lt h1) _
  generalize w4.setCell ⟨pe, 0, none⟩ (.int .i64 en) = w5 at HN5 HE5 HA5 HP5 HB5 ⊢
  clear HN4 HE4 HA4 HP4 HB4 c1 z1
  have c2 := blk_cell HA5 0
  have z2 := blk_frozen HA5 0
  refine hK.out _ _ ⟨blk_cell HN5 0, blk_cell HN5 1⟩ (fun hHeld => ?_)
  clear hK K
  refine last_ (i := 7) (N := none) #[true, true, true, true, true, true, true, true] rfl rfl (by kernel_rfl) (by decide) (fun K hK => ?_)
  refine skip_ (w1 := ?_) (by rfl) rfl ?_ ?_
  rotate_left
  · go_simp
    rfl
  refine hK.out _ _ ?_
  clear hK K
  refine done_ (by kernel_rfl) ?_
  exact ⟨rfl, _, rfl, _, results_none rfl _ _ _, rfl, rfl, blk_cell ((Below.heap_setCell w5 ⟨pa, 0, none⟩ (.int .i64 pz) p (show p ≠ pa by omega)).trans HP5) 0, blk_cell ((Below.heap_setCell w5 ⟨pa, 0, none⟩ (.int .i64 pz) pe (show pe ≠ pa by omega)).trans HE5) 0, by simpa using blk_cell (blk_set HA5 0 (.int .i64 pz)) 0, HB5.setCell (by show p ≤ pa; omega) _⟩

end Go.Proofs.YtkgnhghaiopgcaaDoor.Pw
namespace Go.Proofs.YtkgnhghaiopgcaaDoor.Pw
open Go.RowKit Go.Maps Go.Proofs.YtkgnhghaiopgcaaDoorW.PrintWords Go.Proofs.YtkgnhghaiopgcaaDoorW.PrintLast Go.Proofs.YtkgnhghaiopgcaaDoor.X Go.Proofs.YtkgnhghaiopgcaaDoor.Kx Go.Proofs.YtkgnhghaiopgcaaDoor.Gl Go.Proofs.YtkgnhghaiopgcaaDoor.GlFn Go.Proofs.YtkgnhghaiopgcaaDoor.Tk Go.Proofs.YtkgnhghaiopgcaaDoor.Ps
def ParsePost (w : World) (res : Except Er (List ST)) (e : Ending) (w' : World) : Prop :=
  match res with
  | .ok x => ∃ v, e = .returned (.tuple #[.agg #[v], .int .i64 0, .int .i64 0]) ∧ k53.R 53 w' w.heap.size (fun _ => True) v x ∧ Below w.heap.size w w'
  | .error (n, p) => e = .returned (.tuple #[.agg #[.slice none 0 0], .int .i64 n, .int .i64 p]) ∧ Below w.heap.size w w'
theorem toks_of {w : World} {base : Nat} {ts : List Tok} {A : Option Addr} {c : Nat} (hR : Kd.R k32 32 w base (fun _ => True) (.slice A (ts.map TkFn.toS).length c) (ts.map TkFn.toS)) (hne : ts ≠ []) :
    ∃ g, A = some ⟨g, 0, none⟩ ∧ base ≤ g ∧ g < w.heap.size ∧ ts.length ≤ c ∧ ∀ i t, ts[i]? = some t → w.cell? ⟨g, 0 + 3 * i, none⟩ = some (.int .i64 t.kind) ∧ w.cell? ⟨g, 0 + 3 * i + 1, none⟩ = some (.string (B t.text)) ∧ w.cell? ⟨g, 0 + 3 * i + 2, none⟩ = some (.int .i64 t.at_) := by
  obtain ⟨inner, hown⟩ := Kd.R_own hR
  have hlen : 0 < ts.length := List.length_pos_iff.mpr hne
  rcases hown.2 with ⟨_, h0⟩ | ⟨g, cap, cur, hv, hbase, hg, hc, _⟩
  · rw [List.length_map] at h0; omega
  · injection hv with h1 h2 h3
    subst h1
    subst h3
    refine ⟨g, rfl, hbase, blk_lt hg, by rw [List.length_map] at hc; exact hc, ?_⟩
    intro i t ht
    obtain ⟨hi, ht'⟩ := List.getElem?_eq_some_iff.1 ht
    obtain ⟨ad, had, a1, a2, a3⟩ := at_T32 (Kd.R_reads' hR).2.2 (i : Int) (by omega) (by rw [List.length_map]; omega)
    injection had with had
    subst had
    rw [TkKey.rd_S ts i hi, ht', Int.toNat_natCast, Addr.add_mid, Nat.mul_comm i 3] at a1 a2 a3
    exact ⟨a1, a2, a3⟩
theorem three (w : World) : ∃ wa, ((w.alloc (.cells #[.slice none 0 0] 43)).alloc (.cells #[.int .i64 0] 24)).alloc (.cells #[.int .i64 0] 3) = wa ∧ wa.heap[w.heap.size]? = some (.cells #[.slice none 0 0] 43 (0, 0)) ∧ wa.heap[w.heap.size + 1]? = some (.cells #[.int .i64 0] 24 (0, 0)) ∧ wa.heap[w.heap.size + 2]? = some (.cells #[.int .i64 0] 3 (0, 0)) ∧ Below w.heap.size w wa ∧ wa.heap.size = w.heap.size + 3 := by
  have h1 : (w.alloc (.cells #[.slice none 0 0] 43)).heap.size = w.heap.size + 1 := by simp
  have h2 : ((w.alloc (.cells #[.slice none 0 0] 43)).alloc (.cells #[.int .i64 0] 24)).heap.size = w.heap.size + 2 := by simp
  refine ⟨_, rfl, ?_, ?_, ?_, ?_, by simp⟩
  · rw [Below.heap_alloc _ _ _ (by rw [h2]; omega), Below.heap_alloc _ _ _ (by rw [h1]; omega)]
    exact (Go.MapKept.heap_alloc w _).1
  · rw [Below.heap_alloc _ _ _ (by rw [h2]; omega)]
    have := (Go.MapKept.heap_alloc (w.alloc (.cells #[.slice none 0 0] 43)) (.cells #[.int .i64 0] 24)).1
    rwa [h1] at this
  · have := (Go.MapKept.heap_alloc ((w.alloc (.cells #[.slice none 0 0] 43)).alloc (.cells #[.int .i64 0] 24)) (.cells #[.int .i64 0] 3)).1
    rwa [h2] at this
  · exact ((below_alloc (Below.refl _ _) _).trans ((below_alloc (Below.refl _ _) _).mono (by rw [h1]; omega))).trans ((below_alloc (Below.refl _ _) _).mono (by rw [h2]; omega))

set_option maxHeartbeats 8000000 in
set_option maxRecDepth 100000 in
theorem Parse_calls (s : ByteArray) {l : List UInt8} (hl : L s = l) {res : Except Er (List ST)} (hr : Ps.parse l = some res) (w : World) (hK : Aside0 (Aid.KeysIn w)) :
    Calls Tryd.prog 33 #[.string s] w (ParsePost w res) := by
  subst hl
  obtain ⟨wa, hwa, hp, he, ha, hbl, hsz⟩ := three w
  obtain ⟨p, hpp⟩ : ∃ p, w.heap.size = p := ⟨_, rfl⟩
  obtain ⟨pe, hpe⟩ : ∃ q, p + 1 = q := ⟨_, rfl⟩
  obtain ⟨pa, hpa⟩ : ∃ q, pe + 1 = q := ⟨_, rfl⟩
  have HQ : Aside0 (w.heap.size = p ∧ pe = p + 1 ∧ pa = p + 2 ∧ wa.heap.size = p + 3) := ⟨by omega⟩
  have HW := Aside0.mk hwa
  rw [hpp] at hp
  rw [hpp, hpe] at he
  rw [hpp, show p + 2 = pa by omega] at ha
  have HP := Aside0.mk hp
  have HE := Aside0.mk he
  have HA := Aside0.mk ha
  have HB := Aside0.mk hbl
  have hmf : ∀ (fn : Fn) (first cap : Array Value) (w : World), (Instr.makeFunc fn first cap).run Tryd.prog w = .ok (.func fn first cap) w := fun _ _ _ _ => rfl
  have HR := Aside0.mk hr
  clear hwa hp he ha hbl hsz hr
  cases hall : all (L s) with
  | error er =>
    obtain ⟨en, pz⟩ := er
    have HALL := Aside0.mk hall
    have hres : res = .error (en, pz) := by
      have := HR.out
      unfold Ps.parse at this
      rw [hall] at this
      exact (Option.some.inj this).symm
    subst hres
    clear HR hall
    go_enter_defers Tryd.func33, Tryd.ntmps33
    go_wp2_with fail
    rw [HW.out]
    refine (TkKey.All_err s en pz HALL.out wa).mono ?_
    rintro e w1 ⟨A, c, rfl, hb⟩
    have hq := HQ.out
    have HP1 := (hb.block p (by omega)).trans HP.out
    have HE1 := (hb.block pe (by omega)).trans HE.out
    have HA1 := (hb.block pa (by omega)).trans HA.out
    have HA2 := (Below.heap_setCell w1 ⟨pe, 0, none⟩ (.int .i64 en) pa (show pa ≠ pe by omega)).trans HA1
    have HE2 : (w1.setCell ⟨pe, 0, none⟩ (.int .i64 en)).heap[pe]? = some (.cells #[.int .i64 en] 24 (0, 0)) := by simpa using blk_set HE1 0 (.int .i64 en)
    have HP2 := (Below.heap_setCell w1 ⟨pe, 0, none⟩ (.int .i64 en) p (show p ≠ pe by omega)).trans HP1
    have HE3 := (Below.heap_setCell (w1.setCell ⟨pe, 0, none⟩ (.int .i64 en)) ⟨pa, 0, none⟩ (.int .i64 pz) pe (show pe ≠ pa by omega)).trans HE2
    have HP3 := (Below.heap_setCell (w1.setCell ⟨pe, 0, none⟩ (.int .i64 en)) ⟨pa, 0, none⟩ (.int .i64 pz) p (show p ≠ pa by omega)).trans HP2
    have HA3 : ((w1.setCell ⟨pe, 0, none⟩ (.int .i64 en)).setCell ⟨pa, 0, none⟩ (.int .i64 pz)).heap[pa]? = some (.cells #[.int .i64 pz] 3 (0, 0)) := by simpa using blk_set HA2 0 (.int .i64 pz)
    have HBB : Below p w ((w1.setCell ⟨pe, 0, none⟩ (.int .i64 en)).setCell ⟨pa, 0, none⟩ (.int .i64 pz)) := (((hq.1 ▸ HB.out : Below p w wa).trans (hb.mono (by omega))).setCell (by show p ≤ pe; omega) _).setCell (by show p ≤ pa; omega) _
    have H3 := Aside0.mk (And.intro HP3 (And.intro HE3 (And.intro HA3 HBB)))
    have d0 := blk_cell HE1 0
    have d1 := blk_frozen HE1 0
    have d2 := blk_cell HA2 0
    have d3 := blk_frozen HA2 0
    clear hq HP1 HE1 HA1 HA2 HE2 HP2 HE3 HP3 HA3 HBB hb
    go_upto_region 2 with (fail)
    obtain ⟨w3, hw3⟩ : ∃ w3, (w1.setCell ⟨pe, 0, none⟩ (.int .i64 en)).setCell ⟨pa, 0, none⟩ (.int .i64 pz) = w3 := ⟨_, rfl⟩
    rw [hw3] at H3 ⊢
    clear hw3 d0 d1 d2 d3
    obtain ⟨HP3, HE3, HA3, HB3⟩ := H3.out
    have d0 := blk_cell HE3 0
    have ht : (en != 0) = true := by rcases TkKey.all_err_ne HALL.out with h | h | h <;> (obtain ⟨h, _⟩ := h; first | (subst h; rfl) | (rcases h with rfl | rfl <;> rfl))
    clear H3
    go_wp2_with fail
    have HP4 : w3.drew.heap[p]? = _ := HP3
    have HE4 : w3.drew.heap[pe]? = _ := HE3
    have HA4 : w3.drew.heap[pa]? = _ := HA3
    have HB4 := HB3.drew
    have hlt1 : p < pe := by have := HQ.out; omega
    have hlt2 : pe < pa := by have := HQ.out; omega
    clear d0 HP3 HE3 HA3 HB3 hpe hpa hpp
    refine wp_region_noPanic ?_
    refine start_ (n := 6) (S := fun w' => w'.cell? ⟨pe, 0, none⟩ = some (.int .i64 en) ∧ w'.cell? ⟨pa, 0, none⟩ = some (.int .i64 pz)) (ds := [5]) #[false, false, false, false, false, false] (by kernel_rfl) rfl rfl ⟨blk_cell HE4 0, blk_cell HA4 0⟩ (fun hHeld => ?_)
    generalize w3.drew = w4 at HP4 HE4 HA4 HB4 hHeld ⊢
    have c0 := blk_cell HP4 0
    have z0 := blk_frozen HP4 0
    refine pure_ (i := 0) (N := some 15) (v := ?_) (a' := ?_) #[true, false, false, false, false, false] rfl rfl (by kernel_rfl) (fun _ _ _ h => h) (Or.inl ⟨by rfl, ?_⟩) ?_ ?_
    rotate_left
    · intro w'
      go_simp
      with_reducible rfl
    rotate_left
    · simp only [Act.put, List.setIfInBounds_toArray, List.set_cons_zero, List.set_cons_succ, i64_w, i32_w]
      rfl
    refine take_ (i := 1) (N := some 16) (v := ?_) (a' := ?_) #[true, true, false, false, false, false] rfl rfl (by kernel_rfl) (fun _ _ _ h => h) (Or.inl ⟨by rfl, ?_⟩) hHeld ?_ ?_
    rotate_left
    · rintro w' ⟨s0, s1⟩
      go_simp
      with_reducible rfl
    rotate_left
    · simp only [Act.put, List.setIfInBounds_toArray, List.set_cons_zero, List.set_cons_succ, i64_w, i32_w]
      rfl
    refine take_ (i := 2) (N := some 17) (v := ?_) (a' := ?_) #[true, true, true, false, false, false] rfl rfl (by kernel_rfl) (fun _ _ _ h => h) (Or.inl ⟨by rfl, ?_⟩) hHeld ?_ ?_
    rotate_left
    · rintro w' ⟨s0, s1⟩
      go_simp
      with_reducible rfl
    rotate_left
    · simp only [Act.put, List.setIfInBounds_toArray, List.set_cons_zero, List.set_cons_succ, i64_w, i32_w]
      rfl
    refine one_ (i := 3) (N := none) #[true, true, true, true, false, false] rfl rfl (by kernel_rfl) (by decide) (fun K hK => ?_)
    refine skip_ (w1 := ?_) (by rfl) rfl ?_ ?_
    rotate_left
    · go_simp
      rfl
    have HE5 := (Below.heap_setCell w4 ⟨p, 0, none⟩ (.slice none 0 0) pe (show pe ≠ p by omega)).trans HE4
    have HA5 := (Below.heap_setCell w4 ⟨p, 0, none⟩ (.slice none 0 0) pa (show pa ≠ p by omega)).trans HA4
    have HP5 : (w4.setCell ⟨p, 0, none⟩ (.slice none 0 0)).heap[p]? = some (.cells #[.slice none 0 0] 43 (0, 0)) := by simpa using blk_set HP4 0 (.slice none 0 0)
    have HB5 : Below p w (w4.setCell ⟨p, 0, none⟩ (.slice none 0 0)) := HB4.setCell (Nat.le_refl _) _
    generalize w4.setCell ⟨p, 0, none⟩ (.slice none 0 0) = w5 at HE5 HA5 HP5 HB5 ⊢
    clear HP4 HE4 HA4 HB4 c0 z0
    have c1 := blk_cell HE5 0
    have z1 := blk_frozen HE5 0
    refine hK.out _ _ ⟨blk_cell HE5 0, blk_cell HA5 0⟩ (fun hHeld => ?_)
    clear hK K
    refine one_ (i := 4) (N := none) #[true, true, true, true, true, false] rfl rfl (by kernel_rfl) (by decide) (fun K hK => ?_)
    refine skip_ (w1 := ?_) (by rfl) rfl ?_ ?_
    rotate_left
    · go_simp
      rfl
    have HP6 := (Below.heap_setCell w5 ⟨pe, 0, none⟩ (.int .i64 en) p (show p ≠ pe by omega)).trans HP5
    have HA6 := (Below.heap_setCell w5 ⟨pe, 0, none⟩ (.int .i64 en) pa (show pa ≠ pe by omega)).trans HA5
    have HE6 : (w5.setCell ⟨pe, 0, none⟩ (.int .i64 en)).heap[pe]? = some (.cells #[.int .i64 en] 24 (0, 0)) := by simpa using blk_set HE5 0 (.int .i64 en)
    have HB6 : Below p w (w5.setCell ⟨pe, 0, none⟩ (.int .i64 en)) := HB5.setCell (by show p ≤ pe; omega) _
    generalize w5.setCell ⟨pe, 0, none⟩ (.int .i64 en) = w6 at HE6 HA6 HP6 HB6 ⊢
    clear HP5 HE5 HA5 HB5 c1 z1
    have c2 := blk_cell HA6 0
    have z2 := blk_frozen HA6 0
    refine hK.out _ _ ⟨blk_cell HE6 0, blk_cell HA6 0⟩ (fun hHeld => ?_)
    clear hK K
    refine last_ (i := 5) (N := none) #[true, true, true, true, true, true] rfl rfl (by kernel_rfl) (by decide) (fun K hK => ?_)
    refine skip_ (w1 := ?_) (by rfl) rfl ?_ ?_
    rotate_left
    · go_simp
      rfl
    refine hK.out _ _ ?_
    clear hK K
    refine done_ (by kernel_rfl) ?_
    have r0 : (w6.setCell ⟨pa, 0, none⟩ (.int .i64 pz)).cell? ⟨p, 0, none⟩ = some (.slice none 0 0) := blk_cell ((Below.heap_setCell w6 ⟨pa, 0, none⟩ (.int .i64 pz) p (show p ≠ pa by omega)).trans HP6) 0
    have r1 : (w6.setCell ⟨pa, 0, none⟩ (.int .i64 pz)).cell? ⟨pe, 0, none⟩ = some (.int .i64 en) := blk_cell ((Below.heap_setCell w6 ⟨pa, 0, none⟩ (.int .i64 pz) pe (show pe ≠ pa by omega)).trans HE6) 0
    have r2 : (w6.setCell ⟨pa, 0, none⟩ (.int .i64 pz)).cell? ⟨pa, 0, none⟩ = some (.int .i64 pz) := by simpa using blk_cell (blk_set HA6 0 (.int .i64 pz)) 0
    have HB7 : Below p w (w6.setCell ⟨pa, 0, none⟩ (.int .i64 pz)) := HB6.setCell (by show p ≤ pa; omega) _
    generalize w6.setCell ⟨pa, 0, none⟩ (.int .i64 pz) = w7 at r0 r1 r2 HB7 ⊢
    clear c2 z2 HP6 HE6 HA6 HB6 hHeld ht hlt1 hlt2
    unfold NoPanic
    dsimp only
    go_wp2
    exact ⟨.tuple #[.agg #[.slice none 0 0], .int .i64 en, .int .i64 pz], by simp [results, Tryd.results33, go_sem, r0, r1, r2], rfl, HQ.out.1.symm ▸ HB7⟩
  | ok ts =>
    have HALL := Aside0.mk hall
    have hsch : schemaT (3 * ts.length + 9) ts = some res := by
      have := HR.out
      unfold Ps.parse at this
      rw [hall] at this
      exact this
    have HS := Aside0.mk hsch
    clear HR hall hsch
    go_enter_defers Tryd.func33, Tryd.ntmps33
    go_wp2_with fail
    rw [HW.out]
    refine (TkKey.All_ok s ts HALL.out wa).mono ?_
    rintro e w1 ⟨A, c, rfl, hR, hb⟩
    have hends := all_ends HALL.out
    obtain ⟨g, rfl, hgb, hgl, hcap, htoks⟩ := toks_of hR hends.ne
    rw [List.length_map]
    have hq := HQ.out
    have hsm := (TkKey.all_len HALL.out).1
    have HP1 := (hb.block p (by omega)).trans HP.out
    have HE1 := (hb.block pe (by omega)).trans HE.out
    have HA1 := (hb.block pa (by omega)).trans HA.out
    have HA2 := (Below.heap_setCell w1 ⟨pe, 0, none⟩ (.int .i64 0) pa (show pa ≠ pe by omega)).trans HA1
    have HE2 : (w1.setCell ⟨pe, 0, none⟩ (.int .i64 0)).heap[pe]? = some (.cells #[.int .i64 0] 24 (0, 0)) := by simpa using blk_set HE1 0 (.int .i64 0)
    have HP2 := (Below.heap_setCell w1 ⟨pe, 0, none⟩ (.int .i64 0) p (show p ≠ pe by omega)).trans HP1
    have HE3 := (Below.heap_setCell (w1.setCell ⟨pe, 0, none⟩ (.int .i64 0)) ⟨pa, 0, none⟩ (.int .i64 0) pe (show pe ≠ pa by omega)).trans HE2
    have HP3 := (Below.heap_setCell (w1.setCell ⟨pe, 0, none⟩ (.int .i64 0)) ⟨pa, 0, none⟩ (.int .i64 0) p (show p ≠ pa by omega)).trans HP2
    have HA3 : ((w1.setCell ⟨pe, 0, none⟩ (.int .i64 0)).setCell ⟨pa, 0, none⟩ (.int .i64 0)).heap[pa]? = some (.cells #[.int .i64 0] 3 (0, 0)) := by simpa using blk_set HA2 0 (.int .i64 0)
    have HG3 : ((w1.setCell ⟨pe, 0, none⟩ (.int .i64 0)).setCell ⟨pa, 0, none⟩ (.int .i64 0)).heap[g]? = w1.heap[g]? := (Below.heap_setCell _ ⟨pa, 0, none⟩ _ g (show g ≠ pa by omega)).trans (Below.heap_setCell w1 ⟨pe, 0, none⟩ _ g (show g ≠ pe by omega))
    have HBB : Below p w ((w1.setCell ⟨pe, 0, none⟩ (.int .i64 0)).setCell ⟨pa, 0, none⟩ (.int .i64 0)) := (((hq.1 ▸ HB.out : Below p w wa).trans (hb.mono (by omega))).setCell (by show p ≤ pe; omega) _).setCell (by show p ≤ pa; omega) _
    have hsz3 : g < ((w1.setCell ⟨pe, 0, none⟩ (.int .i64 0)).setCell ⟨pa, 0, none⟩ (.int .i64 0)).heap.size := by simpa [World.setCell] using hgl
    have HT : Aside0 (∀ i t, ts[i]? = some t → ((w1.setCell ⟨pe, 0, none⟩ (.int .i64 0)).setCell ⟨pa, 0, none⟩ (.int .i64 0)).cell? ⟨g, 0 + 3 * i, none⟩ = some (.int .i64 t.kind) ∧ ((w1.setCell ⟨pe, 0, none⟩ (.int .i64 0)).setCell ⟨pa, 0, none⟩ (.int .i64 0)).cell? ⟨g, 0 + 3 * i + 1, none⟩ = some (.string (B t.text)) ∧ ((w1.setCell ⟨pe, 0, none⟩ (.int .i64 0)).setCell ⟨pa, 0, none⟩ (.int .i64 0)).cell? ⟨g, 0 + 3 * i + 2, none⟩ = some (.int .i64 t.at_)) :=
      ⟨fun i t ht => by
        obtain ⟨a1, a2, a3⟩ := htoks i t ht
        exact ⟨(World.cell?_of_block (a := ⟨g, _, none⟩) HG3).trans a1, (World.cell?_of_block (a := ⟨g, _, none⟩) HG3).trans a2, (World.cell?_of_block (a := ⟨g, _, none⟩) HG3).trans a3⟩⟩
    have H3 := Aside0.mk (And.intro HP3 (And.intro HE3 (And.intro HA3 (And.intro HBB hsz3))))
    have HCAP : Aside0 (ts.length ≤ c ∧ ts.length ≤ 4096 ∧ EndsT ts) := ⟨hcap, by omega, hends⟩
    have HG : Aside0 (pa < g) := ⟨by omega⟩
    have d0 := blk_cell HE1 0
    have d1 := blk_frozen HE1 0
    have d2 := blk_cell HA2 0
    have d3 := blk_frozen HA2 0
    clear hq HP1 HE1 HA1 HA2 HE2 HP2 HE3 HP3 HA3 HG3 HBB hb hR hends hgb hgl hcap htoks hsm hsz3
    go_upto_region 2 with (fail)
    obtain ⟨w3, hw3⟩ : ∃ w3, (w1.setCell ⟨pe, 0, none⟩ (.int .i64 0)).setCell ⟨pa, 0, none⟩ (.int .i64 0) = w3 := ⟨_, rfl⟩
    rw [hw3] at H3 HT ⊢
    clear hw3 d0 d1 d2 d3
    have hlt1 : p < pe := by have := HQ.out; omega
    have hlt2 : pe < pa := by have := HQ.out; omega
    have d0 := blk_cell H3.out.2.1 0
    clear hpe hpa hpp
    go_wp2_with fail
    obtain ⟨HP3, HE3, HA3, HB3, hg3⟩ := H3.out
    obtain ⟨hcap, hsm, hends⟩ := HCAP.out
    have hsz3 : w3.heap.size ≠ g := by omega
    have HX : Sx w3 (w3.alloc (.cells #[.slice (some ⟨g, 0, none⟩) ts.length c, .int .i64 0] 103)) w3.heap.size g ts 0 :=
      ⟨0, c, ⟨Nat.le_refl _, hK.out.go (HQ.out.1.symm ▸ HB3), below_alloc (Below.refl _ _) _, (Go.MapKept.heap_alloc w3 _).1, hcap, hsm, fun i t ht => by
        obtain ⟨a1, a2, a3⟩ := HT.out i t ht
        exact ⟨(World.cell?_alloc_lt _ _ _ (World.block_lt_of_cell? _ _ a1)).trans a1, (World.cell?_alloc_lt _ _ _ (World.block_lt_of_cell? _ _ a2)).trans a2, (World.cell?_alloc_lt _ _ _ (World.block_lt_of_cell? _ _ a3)).trans a3⟩, Ne.symm hsz3, hends⟩⟩
    have henter : ∀ args w, (callFunc 66 args).run Tryd.prog w = .ok (.enter 66 args) w := fun args w => enters_ Tryd.func66 (by kernel_rfl) rfl args w
    clear d0 hsz3 hcap hsm hends
    refine (schema_calls (3 * ts.length + 9) HX HS.out).mono ?_
    intro e wq he
    have hq := HQ.out
    have hg := HG.out
    have hp3 : p < w3.heap.size := blk_lt HP3
    have he3 : pe < w3.heap.size := blk_lt HE3
    have ha3 : pa < w3.heap.size := blk_lt HA3
    cases res with
    | error er =>
      obtain ⟨en, pz⟩ := er
      obtain ⟨rfl, hb⟩ := he
      have HPq := (hb.block p hp3).trans HP3
      have HEq := (hb.block pe he3).trans HE3
      have HAq := (hb.block pa ha3).trans HA3
      have HBq : Below p w wq := HB3.trans (hb.mono (Nat.le_of_lt hp3))
      have HZ := Aside0.mk (And.intro HPq (And.intro HEq (And.intro HAq HBq)))
      clear HX HP3 HE3 HA3 HB3 H3 HT hb hq hg HPq HEq HAq HBq
      go_wp2
      obtain ⟨HPq, HEq, HAq, HBq⟩ := HZ.out
      refine leaves_cons (f := 66) (args := #[.pointer (some ⟨p, 0, none⟩), .pointer (some ⟨pe, 0, none⟩), .pointer (some ⟨pa, 0, none⟩)]) (by simp) (by simp [go_sem, invoke, henter]) ?_
      refine (catch_fault p pe pa en pz [] wq HPq HEq HAq hlt1 hlt2).mono ?_
      rintro e u' w'' ⟨rfl, rfl, c0, c1, c2, hb2⟩
      exact ⟨.tuple #[.agg #[.slice none 0 0], .int .i64 en, .int .i64 pz], by simp [results, Tryd.results33, go_sem, c0, c1, c2], rfl, HQ.out.1.symm ▸ HBq.trans hb2⟩
    | ok x =>
      obtain ⟨v, rfl, hv, hb, hf⟩ := he
      obtain ⟨A, cv, rfl⟩ := Kd.R_slice hv
      have HPq := (hb.block p hp3).trans HP3
      have HEq := (hb.block pe he3).trans HE3
      have HAq := (hb.block pa ha3).trans HA3
      have HBq : Below p w wq := HB3.trans (hb.mono (Nat.le_of_lt hp3))
      have hsq : (w3.alloc (.cells #[.slice (some ⟨g, 0, none⟩) ts.length c, .int .i64 0] 103)).heap.size = w3.heap.size + 1 := by simp
      rw [hsq] at hv
      have HV : Aside0 (k53.R 53 wq (pa + 1) (fun _ => True) (.slice A x.length cv) x) := ⟨Kd.R_lower hv (by omega)⟩
      clear HX HP3 HE3 HA3 HB3 H3 HT hb hq hg hv hf hsq
      have m0 := blk_cell HPq 0
      have f0 := blk_frozen HPq 0
      have HP5 : (wq.setCell ⟨p, 0, none⟩ (.slice A x.length cv)).heap[p]? = some (.cells #[.slice A x.length cv] 43 (0, 0)) := by simpa using blk_set HPq 0 (.slice A x.length cv)
      have HE5 := (Below.heap_setCell wq ⟨p, 0, none⟩ (.slice A x.length cv) pe (show pe ≠ p by omega)).trans HEq
      have HA5 := (Below.heap_setCell wq ⟨p, 0, none⟩ (.slice A x.length cv) pa (show pa ≠ p by omega)).trans HAq
      have m1 := blk_cell HE5 0
      have f1 := blk_frozen HE5 0
      have HE6 : ((wq.setCell ⟨p, 0, none⟩ (.slice A x.length cv)).setCell ⟨pe, 0, none⟩ (.int .i64 0)).heap[pe]? = some (.cells #[.int .i64 0] 24 (0, 0)) := by simpa using blk_set HE5 0 (.int .i64 0)
      have HP6 := (Below.heap_setCell (wq.setCell ⟨p, 0, none⟩ (.slice A x.length cv)) ⟨pe, 0, none⟩ (.int .i64 0) p (show p ≠ pe by omega)).trans HP5
      have HA6 := (Below.heap_setCell (wq.setCell ⟨p, 0, none⟩ (.slice A x.length cv)) ⟨pe, 0, none⟩ (.int .i64 0) pa (show pa ≠ pe by omega)).trans HA5
      have m2 := blk_cell HA6 0
      have f2 := blk_frozen HA6 0
      have HA7 : (((wq.setCell ⟨p, 0, none⟩ (.slice A x.length cv)).setCell ⟨pe, 0, none⟩ (.int .i64 0)).setCell ⟨pa, 0, none⟩ (.int .i64 0)).heap[pa]? = some (.cells #[.int .i64 0] 3 (0, 0)) := by simpa using blk_set HA6 0 (.int .i64 0)
      have HP7 := (Below.heap_setCell ((wq.setCell ⟨p, 0, none⟩ (.slice A x.length cv)).setCell ⟨pe, 0, none⟩ (.int .i64 0)) ⟨pa, 0, none⟩ (.int .i64 0) p (show p ≠ pa by omega)).trans HP6
      have HE7 := (Below.heap_setCell ((wq.setCell ⟨p, 0, none⟩ (.slice A x.length cv)).setCell ⟨pe, 0, none⟩ (.int .i64 0)) ⟨pa, 0, none⟩ (.int .i64 0) pe (show pe ≠ pa by omega)).trans HE6
      have HB7 : Below p w (((wq.setCell ⟨p, 0, none⟩ (.slice A x.length cv)).setCell ⟨pe, 0, none⟩ (.int .i64 0)).setCell ⟨pa, 0, none⟩ (.int .i64 0)) := ((HBq.setCell (Nat.le_refl _) _).setCell (by show p ≤ pe; omega) _).setCell (by show p ≤ pa; omega) _
      have HV7 : k53.R 53 (((wq.setCell ⟨p, 0, none⟩ (.slice A x.length cv)).setCell ⟨pe, 0, none⟩ (.int .i64 0)).setCell ⟨pa, 0, none⟩ (.int .i64 0)) (pa + 1) (fun _ => True) (.slice A x.length cv) x :=
        Kd.R_mono (Kd.R_far (p := ⟨pa, 0, none⟩) (Kd.R_far (p := ⟨pe, 0, none⟩) (Kd.R_far (p := ⟨p, 0, none⟩) (Kd.R_mono (Kd.R_bound HV.out) (fun k hk => (hk.2.1 : pa + 1 ≤ k))) (fun k hk => by show k ≠ p; omega) _) (fun k hk => by show k ≠ pe; omega) _) (fun k hk => by show k ≠ pa; omega) _) (fun _ _ => trivial)
      have HZ := Aside0.mk (And.intro HP7 (And.intro HE7 (And.intro HA7 (And.intro HB7 HV7))))
      clear HPq HEq HAq HBq HP5 HE5 HA5 HE6 HP6 HA6 HA7 HP7 HE7 HB7 HV7 HV
      go_wp2
      obtain ⟨HP7, HE7, HA7, HB7, HV7⟩ := HZ.out
      refine leaves_cons (f := 66) (args := #[.pointer (some ⟨p, 0, none⟩), .pointer (some ⟨pe, 0, none⟩), .pointer (some ⟨pa, 0, none⟩)]) (by simp) (by simp [go_sem, invoke, henter]) ?_
      generalize (((wq.setCell ⟨p, 0, none⟩ (.slice A x.length cv)).setCell ⟨pe, 0, none⟩ (.int .i64 0)).setCell ⟨pa, 0, none⟩ (.int .i64 0)) = wz at HP7 HE7 HA7 HB7 HV7 ⊢
      refine (catch_idle p pe pa wz).mono ?_
      rintro e u' w'' ⟨rfl, rfl, hb2⟩
      have c0 : w''.cell? ⟨p, 0, none⟩ = some (.slice A x.length cv) := blk_cell ((hb2.block p (blk_lt HP7)).trans HP7) 0
      have c1 : w''.cell? ⟨pe, 0, none⟩ = some (.int .i64 0) := blk_cell ((hb2.block pe (blk_lt HE7)).trans HE7) 0
      have c2 : w''.cell? ⟨pa, 0, none⟩ = some (.int .i64 0) := blk_cell ((hb2.block pa (blk_lt HA7)).trans HA7) 0
      have hq := HQ.out
      have hpz := blk_lt HP7
      exact ⟨.tuple #[.agg #[.slice A x.length cv], .int .i64 0, .int .i64 0], by simp [results, Tryd.results33, go_sem, c0, c1, c2], .slice A x.length cv, rfl, Kd.R_lower (Kd.R_below HV7 hb2) (by omega), hq.1.symm ▸ HB7.trans (hb2.mono (by omega))⟩
end Go.Proofs.YtkgnhghaiopgcaaDoor.Pw
