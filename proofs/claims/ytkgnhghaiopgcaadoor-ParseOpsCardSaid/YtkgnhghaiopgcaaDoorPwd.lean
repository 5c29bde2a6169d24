/- The walk of the reader's rel; written by wip/tools/mkrel.py; no condition. -/
import Derived.Test.YtkgnhghaiopgcaaDoorPwa
import Derived.Deep.MidRow
import Derived.Laws.CopyOwn
set_option linter.unusedVariables false
set_option linter.unusedSimpArgs false
namespace Go.Proofs.YtkgnhghaiopgcaaDoor.Pw
open Go.RowKit Go.Maps Go.Proofs.YtkgnhghaiopgcaaDoorW.PrintWords Go.Proofs.YtkgnhghaiopgcaaDoorW.PrintLast Go.Proofs.YtkgnhghaiopgcaaDoor.X Go.Proofs.YtkgnhghaiopgcaaDoor.Kx Go.Proofs.YtkgnhghaiopgcaaDoor.Gl Go.Proofs.YtkgnhghaiopgcaaDoor.GlFn Go.Proofs.YtkgnhghaiopgcaaDoor.Tk Go.Proofs.YtkgnhghaiopgcaaDoor.Ps

def RelPost (w0 w : World) (b g d : Nat) (x : SR × List Tok) (e : Ending) (w' : World) : Prop :=
  ∃ v4 v5, e = .returned (.agg #[.string x.1.f0, .string x.1.f1, .string x.1.f2, .string x.1.f3, v4, v5]) ∧ k62.R 62 w' w.heap.size (fun k => b < k) v4 x.1.f4 ∧ Ops w' w.heap.size b v5 x.1.f5 ∧ Sx w0 w' b g x.2 d ∧ Fr b w.heap.size w w'
def zeroR : Array Value := #[.string ⟨#[]⟩, .string ⟨#[]⟩, .string ⟨#[]⟩, .string ⟨#[]⟩, .slice none 0 0, .slice none 0 0]
theorem row_far {α : Type} {d : Kd α} {t : Nat} {w : World} {base b m q : Nat} {v : Value} {xs : List α} (h : d.R t w base (fun k => b < k ∧ m < k ∧ k ≠ q) v xs) (j : Nat) (u : Value) : d.R t (w.setCell ⟨q, j, none⟩ u) base (fun k => b < k ∧ m < k ∧ k ≠ q) v xs :=
  Kd.R_far h (p := ⟨q, j, none⟩) (fun k hk => hk.2.2) u
theorem row_fr2 {α : Type} {d : Kd α} {t : Nat} {w w' : World} {base b m q : Nat} {v : Value} {xs : List α} (h : d.R t w base (fun k => b < k ∧ m < k ∧ k ≠ q) v xs) (hf : Fr b w.heap.size w w') : d.R t w' base (fun k => b < k ∧ m < k ∧ k ≠ q) v xs :=
  Kd.R_step h (fun k ho hk => hf.block k hk (by omega))
theorem row_new {α : Type} {d : Kd α} {t : Nat} {w w' : World} {base b m q : Nat} {v : Value} {xs : List α} (h : d.R t w' w.heap.size (fun k => b < k) v xs) (hq : q < w.heap.size) (hm : m < w.heap.size) (hb : base ≤ w.heap.size) : d.R t w' base (fun k => b < k ∧ m < k ∧ k ≠ q) v xs :=
  Kd.R_lower (Kd.R_mono (Kd.R_bound h) (fun k hk => ⟨hk.1, by have := hk.2.1; omega⟩)) hb
theorem row_out {α : Type} {d : Kd α} {t : Nat} {w : World} {base b m q p : Nat} {v : Value} {xs : List α} (h : d.R t w base (fun k => b < k ∧ m < k ∧ k ≠ q) v xs) (hp : p ≤ m) (cs : Array Value) : d.R t (w.setRow p cs) base (fun k => b < k) v xs :=
  Kd.R_mono (Kd.R_step (w1 := w.setRow p cs) h (fun k ho hk => setRow_other w p k cs (by have := ho.2.1; omega))) (fun k hk => hk.1)
theorem Sx.setRow {w0 w : World} {b g : Nat} {ts : List Tok} {d : Nat} (h : Sx w0 w b g ts d) {q : Nat} (h1 : q ≠ b) (h2 : q ≠ g) (h3 : w0.heap.size ≤ q) (cs : Array Value) : Sx w0 (w.setRow q cs) b g ts d := by
  obtain ⟨o, c, h⟩ := h
  exact ⟨o, c, h.move (below_setRow h.bel h3 cs) (setRow_other w q b cs (Ne.symm h1)) (setRow_other w q g cs (Ne.symm h2))⟩
theorem fr_setRow {b base : Nat} {u v : World} (h : Fr b base u v) {q : Nat} (hq : base ≤ q) (cs : Array Value) : Fr b base u (v.setRow q cs) :=
  ⟨h.os, h.tape, h.output, by simpa using h.size, fun i hi hne => (setRow_other v q i cs (by omega)).trans (h.block i hi hne)⟩
theorem wpList_load_row {P : Program} {ops : Array Oper} {rest : List Oper} {op : Oper} {a : Act} {w : World} {Q : Exit → Act → World → Prop} (hgd : op.guard = none) (ty : TypeId) (x : Operand) (ho : op.op = .load ty x)
    (g : Nat) (hx : a.eval x = .pointer (some ⟨g, 0, none⟩)) (cs : Array Value) (t : TypeId) (fr : Nat × Nat) (hg : w.heap[g]? = some (.cells cs t fr))
    (hu : (P.underlying ty).map TypeDesc.isRow = some true) (hi : (P.info? ty).map (·.size) = some cs.size)
    (h : wpList P ops Q rest (a.put op.dst (.agg cs)) w) : wpList P ops Q (op :: rest) a w := by
  cases hq : P.underlying ty with
  | none => rw [hq] at hu; exact absurd hu (by simp)
  | some d =>
    rw [hq] at hu
    have hd : d.isRow = true := by simpa using hu
    have hr : (loadVar ty ⟨g, 0, none⟩).run P w = .ok (.agg cs) w := by cases d <;> first | exact run_loadVar_row w g t ty cs fr _ hg hq rfl hi | exact absurd hd (by simp)
    refine wpList_plain hgd fun _ hK => ?_
    unfold Oper.wp execOp
    simp only [ho, hx, Instr.loadAt, Instr.sureAddr, Sem.run_bind, Sem.run_pure, Result.andThen_ok, hr]
    exact hK _ _ h
theorem wpList_store_row {P : Program} {ops : Array Oper} {rest : List Oper} {op : Oper} {a : Act} {w : World} {Q : Exit → Act → World → Prop} (hgd : op.guard = none) (ty : TypeId) (x y : Operand) (ho : op.op = .store ty x y)
    (g : Nat) (old cs : Array Value) (t : TypeId) (hx : a.eval x = .pointer (some ⟨g, 0, none⟩)) (hy : a.eval y = .agg cs) (hg : w.heap[g]? = some (.cells old t (0, 0)))
    (hi : (P.info? ty).map (·.size) = some cs.size) (hz : old.size = cs.size) (h1 : cs.all (·.oneCell') = true)
    (h : wpList P ops Q rest (a.put op.dst undef) (w.setRow g cs)) : wpList P ops Q (op :: rest) a w := by
  refine wpList_plain hgd fun _ hK => ?_
  unfold Oper.wp execOp
  simp only [ho, hx, hy, Instr.storeAt, Instr.sureAddr, Sem.run_bind, Sem.run_pure, Result.andThen_ok, run_storeVar_row w g t ty old cs hg hi hz h1]
  exact hK _ _ h
theorem row57 : (Tryd.prog.underlying 57).map TypeDesc.isRow = some true := by kernel_rfl
theorem size57 : (Tryd.prog.info? 57).map (·.size) = some 6 := by
  have := info57
  cases h : Tryd.prog.info? 57 with
  | none => rw [h] at this; exact absurd this (by simp)
  | some i => rw [h] at this; simp at this ⊢; exact this.2.1

set_option maxHeartbeats 8000000 in
set_option maxRecDepth 100000 in
theorem rel_calls (k : Nat) {w0 w : World} {b g : Nat} {ts : List Tok} {d : Nat} {res : Except Er (SR × List Tok)} (h : Sx w0 w b g ts d) (hd : d = 0) (hp : relT k ts = some res) :
    Calls Tryd.prog 102 #[.pointer (some ⟨b, 0, none⟩)] w (EndX res (RelPost w0 w b g d) w0) := by
  subst hd
  unfold relT at hp
  have HP := Aside0.mk hp
  have HL := Aside0.mk h.lt
  have hX1 := h.below (below_alloc (Below.refl _ _) (.cells zeroR 57))
  have h1 : (w.alloc (.cells zeroR 57)).heap.size = w.heap.size + 1 := by simp
  have hX2 := hX1.below (below_alloc (Below.refl _ _) (.cells #[.int .i64 1, .string ⟨#[]⟩, .string ⟨#[]⟩] 59))
  have hO := Ops.lit (w.alloc (.cells zeroR 57)) (op1 1) b (by rw [h1]; have := h.lt; omega)
  have h2 : ((w.alloc (.cells zeroR 57)).alloc (.cells #[.int .i64 1, .string ⟨#[]⟩, .string ⟨#[]⟩] 59)).heap.size = w.heap.size + 2 := by simp
  rw [h1] at hO
  have hX3 := hX2.below (below_alloc (Below.refl _ _) (.cells #[.string ⟨#[]⟩, .string ⟨#[]⟩, .string ⟨#[]⟩, .string ⟨#[]⟩, .slice none 0 0, .slice (some ⟨w.heap.size + 1, 0, none⟩) 1 1] 57))
  have hO3 : k59.R 59 ((((w.alloc (.cells zeroR 57)).alloc (.cells #[.int .i64 1, .string ⟨#[]⟩, .string ⟨#[]⟩] 59))).alloc (.cells #[.string ⟨#[]⟩, .string ⟨#[]⟩, .string ⟨#[]⟩, .string ⟨#[]⟩, .slice none 0 0, .slice (some ⟨w.heap.size + 1, 0, none⟩) 1 1] 57)) w.heap.size (fun k => b < k ∧ w.heap.size < k ∧ k ≠ w.heap.size + 2) (.slice (some ⟨w.heap.size + 1, 0, none⟩) 1 1) [op1 1] :=
    Kd.R_lower (Kd.R_mono (Kd.R_bound (Kd.R_alloc (Kd.R_mono (Kd.R_bound hO) (fun k hk => (⟨hk.1, by have := hk.2.1; omega, by have := Nat.lt_of_lt_of_eq hk.2.2.1 h2; omega⟩ : b < k ∧ w.heap.size < k ∧ k ≠ w.heap.size + 2))) _)) (fun k hk => hk.1)) (Nat.le_succ _)
  have hF3 : Fr b w.heap.size w ((((w.alloc (.cells zeroR 57)).alloc (.cells #[.int .i64 1, .string ⟨#[]⟩, .string ⟨#[]⟩] 59))).alloc (.cells #[.string ⟨#[]⟩, .string ⟨#[]⟩, .string ⟨#[]⟩, .string ⟨#[]⟩, .slice none 0 0, .slice (some ⟨w.heap.size + 1, 0, none⟩) 1 1] 57)) :=
    (((Fr.refl b w.heap.size w).alloc (Nat.le_refl _) _).alloc (by rw [h1]; omega) _).alloc (by rw [h2]; omega) _
  have hB3 : ((((w.alloc (.cells zeroR 57)).alloc (.cells #[.int .i64 1, .string ⟨#[]⟩, .string ⟨#[]⟩] 59))).alloc (.cells #[.string ⟨#[]⟩, .string ⟨#[]⟩, .string ⟨#[]⟩, .string ⟨#[]⟩, .slice none 0 0, .slice (some ⟨w.heap.size + 1, 0, none⟩) 1 1] 57)).heap[w.heap.size + 2]? = some (.cells #[.string ⟨#[]⟩, .string ⟨#[]⟩, .string ⟨#[]⟩, .string ⟨#[]⟩, .slice none 0 0, .slice (some ⟨w.heap.size + 1, 0, none⟩) 1 1] 57 (0, 0)) := by
    have := (Go.MapKept.heap_alloc ((w.alloc (.cells zeroR 57)).alloc (.cells #[.int .i64 1, .string ⟨#[]⟩, .string ⟨#[]⟩] 59)) (.cells #[.string ⟨#[]⟩, .string ⟨#[]⟩, .string ⟨#[]⟩, .string ⟨#[]⟩, .slice none 0 0, .slice (some ⟨w.heap.size + 1, 0, none⟩) 1 1] 57)).1
    rwa [h2] at this
  have hC3 : ((((w.alloc (.cells zeroR 57)).alloc (.cells #[.int .i64 1, .string ⟨#[]⟩, .string ⟨#[]⟩] 59))).alloc (.cells #[.string ⟨#[]⟩, .string ⟨#[]⟩, .string ⟨#[]⟩, .string ⟨#[]⟩, .slice none 0 0, .slice (some ⟨w.heap.size + 1, 0, none⟩) 1 1] 57)).heap[w.heap.size]? = some (.cells zeroR 57 (0, 0)) := by
    rw [Below.heap_alloc _ _ _ (by rw [h2]; omega), Below.heap_alloc _ _ _ (by rw [h1]; omega)]
    exact (Go.MapKept.heap_alloc w _).1
  obtain ⟨wa, hwa⟩ : ∃ wa, ((((w.alloc (.cells zeroR 57)).alloc (.cells #[.int .i64 1, .string ⟨#[]⟩, .string ⟨#[]⟩] 59))).alloc (.cells #[.string ⟨#[]⟩, .string ⟨#[]⟩, .string ⟨#[]⟩, .string ⟨#[]⟩, .slice none 0 0, .slice (some ⟨w.heap.size + 1, 0, none⟩) 1 1] 57)) = wa := ⟨_, rfl⟩
  rw [hwa] at hX3 hO3 hF3 hB3 hC3
  have HW := Aside0.mk hwa
  have HX0 := Aside0.mk hX3
  have HO0 := Aside0.mk hO3
  have HF0 := Aside0.mk hF3
  have HB0 := Aside0.mk hB3
  have HC0 := Aside0.mk hC3
  clear hX1 hX2 hX3 hO hO3 hF3 hB3 hC3 h1 h2 hwa h hp
  go_enter Tryd.func102, Tryd.ntmps102
  go_upto_region 2 with (fail)
  rw [show (Obj.cells #[.string ⟨#[]⟩, .string ⟨#[]⟩, .string ⟨#[]⟩, .string ⟨#[]⟩, .slice none 0 0, .slice none 0 0] 57) = .cells zeroR 57 from rfl, HW.out]
  clear HW
  obtain ⟨p, hp⟩ : ∃ p, w.heap.size = p := ⟨_, rfl⟩
  obtain ⟨q, hq⟩ : ∃ q, w.heap.size + 2 = q := ⟨_, rfl⟩
  obtain ⟨q1, hq1⟩ : ∃ q1, w.heap.size + 1 = q1 := ⟨_, rfl⟩
  rw [hq, hq1] at HO0 HB0 ⊢
  rw [hp] at HC0
  rw [hp]
  have HQ : Aside0 (b < p ∧ g < p ∧ w0.heap.size ≤ p ∧ p < q ∧ w.heap.size = p) := ⟨by have := HL.out; omega⟩
  clear hp hq hq1

  rcases bnd_some HP.out with ⟨er, h1, rfl⟩ | ⟨x1, h1, h2⟩
  · injection h1 with h1
    have HE := Aside0.mk h1
    clear h1
    go_wp2_with fail
    refine (name_calls HX0.out).mono ?_
    intro e wz he
    rw [HE.out] at he
    obtain ⟨en, pz⟩ := er
    obtain ⟨rfl, hb⟩ := he
    go_wp2
    exact ⟨rfl, rfl, hb⟩
  injection h1 with h1
  have HE := Aside0.mk h1
  clear HP
  have HP := Aside0.mk h2
  clear h1 h2
  go_wp2_with fail
  refine (name_calls HX0.out).mono ?_
  intro e w1 he
  rw [HE.out] at he
  obtain ⟨rfl, hx, hf⟩ := he
  have hl := HQ.out
  have fz := blk_frozen (show w1.heap[q]? = some (.cells #[.string ⟨#[]⟩, .string ⟨#[]⟩, .string ⟨#[]⟩, .string ⟨#[]⟩, .slice none 0 0, .slice (some ⟨q1, 0, none⟩) 1 1] 57 (0, 0)) from (hf.block q (blk_lt HB0.out) (by omega)).trans HB0.out) 0
  have ce := blk_cell (show w1.heap[q]? = some (.cells #[.string ⟨#[]⟩, .string ⟨#[]⟩, .string ⟨#[]⟩, .string ⟨#[]⟩, .slice none 0 0, .slice (some ⟨q1, 0, none⟩) 1 1] 57 (0, 0)) from (hf.block q (blk_lt HB0.out) (by omega)).trans HB0.out) 0
  have HX1 : Aside0 (Sx w0 (w1.setCell ⟨q, 0, none⟩ (.string x1.1)) b g x1.2 0) := ⟨hx.set (by omega) (by omega) (by omega) _ _⟩
  have HF1 : Aside0 (Fr b w.heap.size w (w1.setCell ⟨q, 0, none⟩ (.string x1.1))) := ⟨fr_setFar (fr_then HF0.out hf) (by omega) _ _⟩
  have HB1 : Aside0 ((w1.setCell ⟨q, 0, none⟩ (.string x1.1)).heap[q]? = some (.cells #[.string x1.1, .string ⟨#[]⟩, .string ⟨#[]⟩, .string ⟨#[]⟩, .slice none 0 0, .slice (some ⟨q1, 0, none⟩) 1 1] 57 (0, 0))) := ⟨by simpa using blk_set (show w1.heap[q]? = some (.cells #[.string ⟨#[]⟩, .string ⟨#[]⟩, .string ⟨#[]⟩, .string ⟨#[]⟩, .slice none 0 0, .slice (some ⟨q1, 0, none⟩) 1 1] 57 (0, 0)) from (hf.block q (blk_lt HB0.out) (by omega)).trans HB0.out) 0 (.string x1.1)⟩
  have HC1 : Aside0 ((w1.setCell ⟨q, 0, none⟩ (.string x1.1)).heap[p]? = some (.cells zeroR 57 (0, 0))) := ⟨(Below.heap_setCell w1 ⟨q, 0, none⟩ _ p (show p ≠ q by omega)).trans ((hf.block p (blk_lt HC0.out) (by omega)).trans HC0.out)⟩
  have HO1 : Aside0 (k59.R 59 (w1.setCell ⟨q, 0, none⟩ (.string x1.1)) w.heap.size (fun k => b < k ∧ w.heap.size < k ∧ k ≠ q) (.slice (some ⟨q1, 0, none⟩) 1 1) [op1 1]) := ⟨row_far (row_fr2 HO0.out hf) _ _⟩
  clear hx hf hl HX0 HF0 HB0 HC0 HO0 HE
  rcases bnd_some HP.out with ⟨er, h1, rfl⟩ | ⟨x2, h1, h2⟩
  · injection h1 with h1
    have HE := Aside0.mk h1
    clear h1
    go_wp2_with fail
    refine (need_calls HX1.out ⟨#[40]⟩ [40] rfl (by decide)).mono ?_
    intro e wz he
    rw [HE.out] at he
    obtain ⟨en, pz⟩ := er
    obtain ⟨rfl, hb⟩ := he
    go_wp2
    exact ⟨rfl, rfl, hb⟩
  injection h1 with h1
  have HE := Aside0.mk h1
  clear HP
  have HP := Aside0.mk h2
  clear h1 h2
  go_wp2_with fail
  refine (need_calls HX1.out ⟨#[40]⟩ [40] rfl (by decide)).mono ?_
  intro e w2 he
  rw [HE.out] at he
  obtain ⟨rfl, hx, hf⟩ := he
  have hl := HQ.out
  have HX2 := Aside0.mk hx
  have HF2 := Aside0.mk (fr_then HF1.out hf)
  have HB2 : Aside0 (w2.heap[q]? = some (.cells #[.string x1.1, .string ⟨#[]⟩, .string ⟨#[]⟩, .string ⟨#[]⟩, .slice none 0 0, .slice (some ⟨q1, 0, none⟩) 1 1] 57 (0, 0))) := ⟨(hf.block q (blk_lt HB1.out) (by omega)).trans HB1.out⟩
  have HC2 : Aside0 (w2.heap[p]? = some (.cells zeroR 57 (0, 0))) := ⟨(hf.block p (blk_lt HC1.out) (by omega)).trans HC1.out⟩
  have HO2 := Aside0.mk (row_fr2 HO1.out hf)
  clear hx hf hl HX1 HF1 HB1 HC1 HO1 HE
  try clear fz ce
  rcases bnd_some HP.out with ⟨er, h1, rfl⟩ | ⟨x3, h1, h2⟩
  · injection h1 with h1
    have HE := Aside0.mk h1
    clear h1
    go_wp2_with fail
    refine (name_calls HX2.out).mono ?_
    intro e wz he
    rw [HE.out] at he
    obtain ⟨en, pz⟩ := er
    obtain ⟨rfl, hb⟩ := he
    go_wp2
    exact ⟨rfl, rfl, hb⟩
  injection h1 with h1
  have HE := Aside0.mk h1
  clear HP
  have HP := Aside0.mk h2
  clear h1 h2
  go_wp2_with fail
  refine (name_calls HX2.out).mono ?_
  intro e w3 he
  rw [HE.out] at he
  obtain ⟨rfl, hx, hf⟩ := he
  have hl := HQ.out
  have fz := blk_frozen (show w3.heap[q]? = some (.cells #[.string x1.1, .string ⟨#[]⟩, .string ⟨#[]⟩, .string ⟨#[]⟩, .slice none 0 0, .slice (some ⟨q1, 0, none⟩) 1 1] 57 (0, 0)) from (hf.block q (blk_lt HB2.out) (by omega)).trans HB2.out) 1
  have ce := blk_cell (show w3.heap[q]? = some (.cells #[.string x1.1, .string ⟨#[]⟩, .string ⟨#[]⟩, .string ⟨#[]⟩, .slice none 0 0, .slice (some ⟨q1, 0, none⟩) 1 1] 57 (0, 0)) from (hf.block q (blk_lt HB2.out) (by omega)).trans HB2.out) 1
  have HX3 : Aside0 (Sx w0 (w3.setCell ⟨q, 1, none⟩ (.string x3.1)) b g x3.2 0) := ⟨hx.set (by omega) (by omega) (by omega) _ _⟩
  have HF3 : Aside0 (Fr b w.heap.size w (w3.setCell ⟨q, 1, none⟩ (.string x3.1))) := ⟨fr_setFar (fr_then HF2.out hf) (by omega) _ _⟩
  have HB3 : Aside0 ((w3.setCell ⟨q, 1, none⟩ (.string x3.1)).heap[q]? = some (.cells #[.string x1.1, .string x3.1, .string ⟨#[]⟩, .string ⟨#[]⟩, .slice none 0 0, .slice (some ⟨q1, 0, none⟩) 1 1] 57 (0, 0))) := ⟨by simpa using blk_set (show w3.heap[q]? = some (.cells #[.string x1.1, .string ⟨#[]⟩, .string ⟨#[]⟩, .string ⟨#[]⟩, .slice none 0 0, .slice (some ⟨q1, 0, none⟩) 1 1] 57 (0, 0)) from (hf.block q (blk_lt HB2.out) (by omega)).trans HB2.out) 1 (.string x3.1)⟩
  have HC3 : Aside0 ((w3.setCell ⟨q, 1, none⟩ (.string x3.1)).heap[p]? = some (.cells zeroR 57 (0, 0))) := ⟨(Below.heap_setCell w3 ⟨q, 1, none⟩ _ p (show p ≠ q by omega)).trans ((hf.block p (blk_lt HC2.out) (by omega)).trans HC2.out)⟩
  have HO3 : Aside0 (k59.R 59 (w3.setCell ⟨q, 1, none⟩ (.string x3.1)) w.heap.size (fun k => b < k ∧ w.heap.size < k ∧ k ≠ q) (.slice (some ⟨q1, 0, none⟩) 1 1) [op1 1]) := ⟨row_far (row_fr2 HO2.out hf) _ _⟩
  clear hx hf hl HX2 HF2 HB2 HC2 HO2 HE
  rcases bnd_some HP.out with ⟨er, h1, rfl⟩ | ⟨x4, h1, h2⟩
  · injection h1 with h1
    have HE := Aside0.mk h1
    clear h1
    go_wp2_with fail
    refine (need_calls HX3.out ⟨#[44]⟩ [44] rfl (by decide)).mono ?_
    intro e wz he
    rw [HE.out] at he
    obtain ⟨en, pz⟩ := er
    obtain ⟨rfl, hb⟩ := he
    go_wp2
    exact ⟨rfl, rfl, hb⟩
  injection h1 with h1
  have HE := Aside0.mk h1
  clear HP
  have HP := Aside0.mk h2
  clear h1 h2
  go_wp2_with fail
  refine (need_calls HX3.out ⟨#[44]⟩ [44] rfl (by decide)).mono ?_
  intro e w4 he
  rw [HE.out] at he
  obtain ⟨rfl, hx, hf⟩ := he
  have hl := HQ.out
  have HX4 := Aside0.mk hx
  have HF4 := Aside0.mk (fr_then HF3.out hf)
  have HB4 : Aside0 (w4.heap[q]? = some (.cells #[.string x1.1, .string x3.1, .string ⟨#[]⟩, .string ⟨#[]⟩, .slice none 0 0, .slice (some ⟨q1, 0, none⟩) 1 1] 57 (0, 0))) := ⟨(hf.block q (blk_lt HB3.out) (by omega)).trans HB3.out⟩
  have HC4 : Aside0 (w4.heap[p]? = some (.cells zeroR 57 (0, 0))) := ⟨(hf.block p (blk_lt HC3.out) (by omega)).trans HC3.out⟩
  have HO4 := Aside0.mk (row_fr2 HO3.out hf)
  clear hx hf hl HX3 HF3 HB3 HC3 HO3 HE
  try clear fz ce
  rcases bnd_some HP.out with ⟨er, h1, rfl⟩ | ⟨x5, h1, h2⟩
  · injection h1 with h1
    have HE := Aside0.mk h1
    clear h1
    go_wp2_with fail
    refine (name_calls HX4.out).mono ?_
    intro e wz he
    rw [HE.out] at he
    obtain ⟨en, pz⟩ := er
    obtain ⟨rfl, hb⟩ := he
    go_wp2
    exact ⟨rfl, rfl, hb⟩
  injection h1 with h1
  have HE := Aside0.mk h1
  clear HP
  have HP := Aside0.mk h2
  clear h1 h2
  go_wp2_with fail
  refine (name_calls HX4.out).mono ?_
  intro e w5 he
  rw [HE.out] at he
  obtain ⟨rfl, hx, hf⟩ := he
  have hl := HQ.out
  have fz := blk_frozen (show w5.heap[q]? = some (.cells #[.string x1.1, .string x3.1, .string ⟨#[]⟩, .string ⟨#[]⟩, .slice none 0 0, .slice (some ⟨q1, 0, none⟩) 1 1] 57 (0, 0)) from (hf.block q (blk_lt HB4.out) (by omega)).trans HB4.out) 2
  have ce := blk_cell (show w5.heap[q]? = some (.cells #[.string x1.1, .string x3.1, .string ⟨#[]⟩, .string ⟨#[]⟩, .slice none 0 0, .slice (some ⟨q1, 0, none⟩) 1 1] 57 (0, 0)) from (hf.block q (blk_lt HB4.out) (by omega)).trans HB4.out) 2
  have HX5 : Aside0 (Sx w0 (w5.setCell ⟨q, 2, none⟩ (.string x5.1)) b g x5.2 0) := ⟨hx.set (by omega) (by omega) (by omega) _ _⟩
  have HF5 : Aside0 (Fr b w.heap.size w (w5.setCell ⟨q, 2, none⟩ (.string x5.1))) := ⟨fr_setFar (fr_then HF4.out hf) (by omega) _ _⟩
  have HB5 : Aside0 ((w5.setCell ⟨q, 2, none⟩ (.string x5.1)).heap[q]? = some (.cells #[.string x1.1, .string x3.1, .string x5.1, .string ⟨#[]⟩, .slice none 0 0, .slice (some ⟨q1, 0, none⟩) 1 1] 57 (0, 0))) := ⟨by simpa using blk_set (show w5.heap[q]? = some (.cells #[.string x1.1, .string x3.1, .string ⟨#[]⟩, .string ⟨#[]⟩, .slice none 0 0, .slice (some ⟨q1, 0, none⟩) 1 1] 57 (0, 0)) from (hf.block q (blk_lt HB4.out) (by omega)).trans HB4.out) 2 (.string x5.1)⟩
  have HC5 : Aside0 ((w5.setCell ⟨q, 2, none⟩ (.string x5.1)).heap[p]? = some (.cells zeroR 57 (0, 0))) := ⟨(Below.heap_setCell w5 ⟨q, 2, none⟩ _ p (show p ≠ q by omega)).trans ((hf.block p (blk_lt HC4.out) (by omega)).trans HC4.out)⟩
  have HO5 : Aside0 (k59.R 59 (w5.setCell ⟨q, 2, none⟩ (.string x5.1)) w.heap.size (fun k => b < k ∧ w.heap.size < k ∧ k ≠ q) (.slice (some ⟨q1, 0, none⟩) 1 1) [op1 1]) := ⟨row_far (row_fr2 HO4.out hf) _ _⟩
  clear hx hf hl HX4 HF4 HB4 HC4 HO4 HE
  rcases bnd_some HP.out with ⟨er, h1, rfl⟩ | ⟨x6, h1, h2⟩
  · injection h1 with h1
    have HE := Aside0.mk h1
    clear h1
    go_wp2_with fail
    refine (need_calls HX5.out ⟨#[44]⟩ [44] rfl (by decide)).mono ?_
    intro e wz he
    rw [HE.out] at he
    obtain ⟨en, pz⟩ := er
    obtain ⟨rfl, hb⟩ := he
    go_wp2
    exact ⟨rfl, rfl, hb⟩
  injection h1 with h1
  have HE := Aside0.mk h1
  clear HP
  have HP := Aside0.mk h2
  clear h1 h2
  go_wp2_with fail
  refine (need_calls HX5.out ⟨#[44]⟩ [44] rfl (by decide)).mono ?_
  intro e w6 he
  rw [HE.out] at he
  obtain ⟨rfl, hx, hf⟩ := he
  have hl := HQ.out
  have HX6 := Aside0.mk hx
  have HF6 := Aside0.mk (fr_then HF5.out hf)
  have HB6 : Aside0 (w6.heap[q]? = some (.cells #[.string x1.1, .string x3.1, .string x5.1, .string ⟨#[]⟩, .slice none 0 0, .slice (some ⟨q1, 0, none⟩) 1 1] 57 (0, 0))) := ⟨(hf.block q (blk_lt HB5.out) (by omega)).trans HB5.out⟩
  have HC6 : Aside0 (w6.heap[p]? = some (.cells zeroR 57 (0, 0))) := ⟨(hf.block p (blk_lt HC5.out) (by omega)).trans HC5.out⟩
  have HO6 := Aside0.mk (row_fr2 HO5.out hf)
  clear hx hf hl HX5 HF5 HB5 HC5 HO5 HE
  try clear fz ce
  rcases bnd_some HP.out with ⟨er, h1, rfl⟩ | ⟨x7, h1, h2⟩
  · injection h1 with h1
    have HE := Aside0.mk h1
    clear h1
    go_wp2_with fail
    refine (name_calls HX6.out).mono ?_
    intro e wz he
    rw [HE.out] at he
    obtain ⟨en, pz⟩ := er
    obtain ⟨rfl, hb⟩ := he
    go_wp2
    exact ⟨rfl, rfl, hb⟩
  injection h1 with h1
  have HE := Aside0.mk h1
  clear HP
  have HP := Aside0.mk h2
  clear h1 h2
  go_wp2_with fail
  refine (name_calls HX6.out).mono ?_
  intro e w7 he
  rw [HE.out] at he
  obtain ⟨rfl, hx, hf⟩ := he
  have hl := HQ.out
  have fz := blk_frozen (show w7.heap[q]? = some (.cells #[.string x1.1, .string x3.1, .string x5.1, .string ⟨#[]⟩, .slice none 0 0, .slice (some ⟨q1, 0, none⟩) 1 1] 57 (0, 0)) from (hf.block q (blk_lt HB6.out) (by omega)).trans HB6.out) 3
  have ce := blk_cell (show w7.heap[q]? = some (.cells #[.string x1.1, .string x3.1, .string x5.1, .string ⟨#[]⟩, .slice none 0 0, .slice (some ⟨q1, 0, none⟩) 1 1] 57 (0, 0)) from (hf.block q (blk_lt HB6.out) (by omega)).trans HB6.out) 3
  have HX7 : Aside0 (Sx w0 (w7.setCell ⟨q, 3, none⟩ (.string x7.1)) b g x7.2 0) := ⟨hx.set (by omega) (by omega) (by omega) _ _⟩
  have HF7 : Aside0 (Fr b w.heap.size w (w7.setCell ⟨q, 3, none⟩ (.string x7.1))) := ⟨fr_setFar (fr_then HF6.out hf) (by omega) _ _⟩
  have HB7 : Aside0 ((w7.setCell ⟨q, 3, none⟩ (.string x7.1)).heap[q]? = some (.cells #[.string x1.1, .string x3.1, .string x5.1, .string x7.1, .slice none 0 0, .slice (some ⟨q1, 0, none⟩) 1 1] 57 (0, 0))) := ⟨by simpa using blk_set (show w7.heap[q]? = some (.cells #[.string x1.1, .string x3.1, .string x5.1, .string ⟨#[]⟩, .slice none 0 0, .slice (some ⟨q1, 0, none⟩) 1 1] 57 (0, 0)) from (hf.block q (blk_lt HB6.out) (by omega)).trans HB6.out) 3 (.string x7.1)⟩
  have HC7 : Aside0 ((w7.setCell ⟨q, 3, none⟩ (.string x7.1)).heap[p]? = some (.cells zeroR 57 (0, 0))) := ⟨(Below.heap_setCell w7 ⟨q, 3, none⟩ _ p (show p ≠ q by omega)).trans ((hf.block p (blk_lt HC6.out) (by omega)).trans HC6.out)⟩
  have HO7 : Aside0 (k59.R 59 (w7.setCell ⟨q, 3, none⟩ (.string x7.1)) w.heap.size (fun k => b < k ∧ w.heap.size < k ∧ k ≠ q) (.slice (some ⟨q1, 0, none⟩) 1 1) [op1 1]) := ⟨row_far (row_fr2 HO6.out hf) _ _⟩
  clear hx hf hl HX6 HF6 HB6 HC6 HO6 HE
  rcases bnd_some HP.out with ⟨er, h1, rfl⟩ | ⟨x8, h1, h2⟩
  · injection h1 with h1
    have HE := Aside0.mk h1
    clear h1
    go_wp2_with fail
    refine (need_calls HX7.out ⟨#[41]⟩ [41] rfl (by decide)).mono ?_
    intro e wz he
    rw [HE.out] at he
    obtain ⟨en, pz⟩ := er
    obtain ⟨rfl, hb⟩ := he
    go_wp2
    exact ⟨rfl, rfl, hb⟩
  injection h1 with h1
  have HE := Aside0.mk h1
  clear HP
  have HP := Aside0.mk h2
  clear h1 h2
  go_wp2_with fail
  refine (need_calls HX7.out ⟨#[41]⟩ [41] rfl (by decide)).mono ?_
  intro e w8 he
  rw [HE.out] at he
  obtain ⟨rfl, hx, hf⟩ := he
  have hl := HQ.out
  have HX8 := Aside0.mk hx
  have HF8 := Aside0.mk (fr_then HF7.out hf)
  have HB8 : Aside0 (w8.heap[q]? = some (.cells #[.string x1.1, .string x3.1, .string x5.1, .string x7.1, .slice none 0 0, .slice (some ⟨q1, 0, none⟩) 1 1] 57 (0, 0))) := ⟨(hf.block q (blk_lt HB7.out) (by omega)).trans HB7.out⟩
  have HC8 : Aside0 (w8.heap[p]? = some (.cells zeroR 57 (0, 0))) := ⟨(hf.block p (blk_lt HC7.out) (by omega)).trans HC7.out⟩
  have HO8 := Aside0.mk (row_fr2 HO7.out hf)
  clear hx hf hl HX7 HF7 HB7 HC7 HO7 HE
  try clear fz ce
  rcases bnd_some HP.out with ⟨er, h1, rfl⟩ | ⟨x9, h1, h2⟩
  · injection h1 with h1
    have HE := Aside0.mk h1
    clear h1
    go_wp2_with fail
    refine (need_calls HX8.out ⟨#[58]⟩ [58] rfl (by decide)).mono ?_
    intro e wz he
    rw [HE.out] at he
    obtain ⟨en, pz⟩ := er
    obtain ⟨rfl, hb⟩ := he
    go_wp2
    exact ⟨rfl, rfl, hb⟩
  injection h1 with h1
  have HE := Aside0.mk h1
  clear HP
  have HP := Aside0.mk h2
  clear h1 h2
  go_wp2_with fail
  refine (need_calls HX8.out ⟨#[58]⟩ [58] rfl (by decide)).mono ?_
  intro e w9 he
  rw [HE.out] at he
  obtain ⟨rfl, hx, hf⟩ := he
  have hl := HQ.out
  have HX9 := Aside0.mk hx
  have HF9 := Aside0.mk (fr_then HF8.out hf)
  have HB9 : Aside0 (w9.heap[q]? = some (.cells #[.string x1.1, .string x3.1, .string x5.1, .string x7.1, .slice none 0 0, .slice (some ⟨q1, 0, none⟩) 1 1] 57 (0, 0))) := ⟨(hf.block q (blk_lt HB8.out) (by omega)).trans HB8.out⟩
  have HC9 : Aside0 (w9.heap[p]? = some (.cells zeroR 57 (0, 0))) := ⟨(hf.block p (blk_lt HC8.out) (by omega)).trans HC8.out⟩
  have HO9 := Aside0.mk (row_fr2 HO8.out hf)
  clear hx hf hl HX8 HF8 HB8 HC8 HO8 HE
  try clear fz ce
  cases hc1 : isT sIs x9 with
  | true =>
    have HIS := Aside0.mk hc1
    have hp2 := HP.out
    rw [if_neg (fun h => by rw [hc1] at h; exact absurd h.1 (by decide))] at hp2
    have HP1 := Aside0.mk hp2
    clear HP hp2 hc1
    rcases bnd_some HP1.out with ⟨er, h1, rfl⟩ | ⟨su, h1, h2⟩
    · exact absurd h1 (by simp)
    simp only [Option.some.injEq, Except.ok.injEq] at h1
    subst h1
    have HP := Aside0.mk h2
    clear h2 HP1
    obtain ⟨oo, cc, hs⟩ := HX9.out
    have HST := Aside0.mk hs
    clear hs
    go_wp2_with fail
    refine (is_calls HST.out ⟨#[105, 115]⟩ sIs rfl).mono ?_
    rintro e w10 ⟨rfl, hd⟩
    rw [HIS.out]
    have HX10 : Aside0 (Sx w0 w10 b g x9 0) := ⟨⟨oo, cc, HST.out.drawn hd⟩⟩
    obtain ⟨nn, rfl⟩ := hd.out
    have HF10 : Aside0 (Fr b w.heap.size w (w9.drewN nn)) := ⟨HF9.out.drewN nn⟩
    have HB10 : Aside0 ((w9.drewN nn).heap[q]? = some (.cells #[.string x1.1, .string x3.1, .string x5.1, .string x7.1, .slice none 0 0, .slice (some ⟨q1, 0, none⟩) 1 1] 57 (0, 0))) := ⟨HB9.out⟩
    have HC10 : Aside0 ((w9.drewN nn).heap[p]? = some (.cells zeroR 57 (0, 0))) := ⟨HC9.out⟩
    have HO10 := Aside0.mk (row_fr2 HO9.out ((Fr.refl b w9.heap.size w9).drewN nn))
    have HS10 : Aside0 (k62.R 62 (w9.drewN nn) w.heap.size (fun k => b < k ∧ w.heap.size < k ∧ k ≠ q) (.slice none 0 0) []) := ⟨Kd.R_nil _ _ _ _ _⟩
    clear hd HST HX9 HF9 HB9 HC9 HO9
    go_wp2_with fail
    refine (pass_calls HX10.out ⟨#[105, 115]⟩ sIs rfl (by decide)).mono ?_
    rintro e wp ⟨rfl, hx, hf⟩
    have hl := HQ.out
    have HXp := Aside0.mk hx
    have HFp := Aside0.mk (fr_then HF10.out hf)
    have HBp : Aside0 (wp.heap[q]? = some (.cells #[.string x1.1, .string x3.1, .string x5.1, .string x7.1, .slice none 0 0, .slice (some ⟨q1, 0, none⟩) 1 1] 57 (0, 0))) := ⟨(hf.block q (blk_lt HB10.out) (by omega)).trans HB10.out⟩
    have HCp : Aside0 (wp.heap[p]? = some (.cells zeroR 57 (0, 0))) := ⟨(hf.block p (blk_lt HC10.out) (by omega)).trans HC10.out⟩
    have HOp := Aside0.mk (row_fr2 HO10.out hf)
    have HSp := Aside0.mk (row_fr2 HS10.out hf)
    clear hx hf hl HX10 HF10 HB10 HC10 HO10 HS10
    cases hh : isT sIs x9 with
    | true =>
      have HXr : Aside0 (Sx w0 wp b g x9.tail 0) := ⟨by have := HXp.out; unfold goT at this; rwa [if_pos hh] at this⟩
      have hp2 := HP.out
      try dsimp only at hp2
      rw [if_pos hh] at hp2
      have HP2 := Aside0.mk hp2
      clear hp2 HP HXp hh
      rcases bnd_some HP2.out with ⟨er, h1, rfl⟩ | ⟨y, h1, h2⟩
      · have HE := Aside0.mk h1
        clear h1
        go_wp2_with fail
        refine ((both_calls k).2 _ _ _ _ _ _ _ HXr.out (by decide) HE.out).mono ?_
        intro e wz he
        obtain ⟨en, pz⟩ := er
        obtain ⟨rfl, hb⟩ := he
        go_wp2
        exact ⟨rfl, rfl, hb⟩
      have HE := Aside0.mk h1
      have HP3 := Aside0.mk h2
      clear h1 h2 HP2
      go_wp2_with fail
      refine ((both_calls k).2 _ _ _ _ _ _ _ HXr.out (by decide) HE.out).mono ?_
      intro e wr he
      obtain ⟨vr, rfl, ho, hx, hf⟩ := he
      obtain ⟨Ar, nr, rfl⟩ := Kd.R_slice ho
      have hl := HQ.out
      have fz := blk_frozen (show wr.heap[q]? = some (.cells #[.string x1.1, .string x3.1, .string x5.1, .string x7.1, .slice none 0 0, .slice (some ⟨q1, 0, none⟩) 1 1] 57 (0, 0)) from (hf.block q (blk_lt HBp.out) (by omega)).trans HBp.out) 5
      have ce := blk_cell (show wr.heap[q]? = some (.cells #[.string x1.1, .string x3.1, .string x5.1, .string x7.1, .slice none 0 0, .slice (some ⟨q1, 0, none⟩) 1 1] 57 (0, 0)) from (hf.block q (blk_lt HBp.out) (by omega)).trans HBp.out) 5
      have HX7 : Aside0 (Sx w0 (wr.setCell ⟨q, 5, none⟩ (.slice Ar y.1.length nr)) b g y.2 0) := ⟨hx.set (by omega) (by omega) (by omega) _ _⟩
      have HF7 : Aside0 (Fr b w.heap.size w (wr.setCell ⟨q, 5, none⟩ (.slice Ar y.1.length nr))) := ⟨fr_setFar (fr_then HFp.out hf) (by omega) _ _⟩
      have HB7 : Aside0 ((wr.setCell ⟨q, 5, none⟩ (.slice Ar y.1.length nr)).heap[q]? = some (.cells #[.string x1.1, .string x3.1, .string x5.1, .string x7.1, .slice none 0 0, (.slice Ar y.1.length nr)] 57 (0, 0))) := ⟨by simpa using blk_set (show wr.heap[q]? = some (.cells #[.string x1.1, .string x3.1, .string x5.1, .string x7.1, .slice none 0 0, .slice (some ⟨q1, 0, none⟩) 1 1] 57 (0, 0)) from (hf.block q (blk_lt HBp.out) (by omega)).trans HBp.out) 5 (.slice Ar y.1.length nr)⟩
      have HC7 : Aside0 ((wr.setCell ⟨q, 5, none⟩ (.slice Ar y.1.length nr)).heap[p]? = some (.cells zeroR 57 (0, 0))) := ⟨(Below.heap_setCell wr ⟨q, 5, none⟩ _ p (show p ≠ q by omega)).trans ((hf.block p (blk_lt HCp.out) (by omega)).trans HCp.out)⟩
      have HO7 : Aside0 (k59.R 59 (wr.setCell ⟨q, 5, none⟩ (.slice Ar y.1.length nr)) w.heap.size (fun k => b < k ∧ w.heap.size < k ∧ k ≠ q) (.slice Ar y.1.length nr) y.1) := ⟨row_far (row_new ho (blk_lt HBp.out) (by have := blk_lt HBp.out; omega) HFp.out.size) _ _⟩
      have HS7 : Aside0 (k62.R 62 (wr.setCell ⟨q, 5, none⟩ (.slice Ar y.1.length nr)) w.heap.size (fun k => b < k ∧ w.heap.size < k ∧ k ≠ q) (.slice none 0 0) ([] : List SS)) := ⟨row_far (row_fr2 HSp.out hf) _ _⟩
      clear ho hx hf hl HFp HBp HCp HOp HSp HXr HE
      rcases bnd_some HP3.out with ⟨er, h1, rfl⟩ | ⟨z, h1, h2⟩
      · injection h1 with h1
        have HE := Aside0.mk h1
        clear h1
        go_wp2_with fail
        refine (need_calls HX7.out ⟨#[59]⟩ [59] rfl (by decide)).mono ?_
        intro e wz he
        rw [HE.out] at he
        obtain ⟨en, pz⟩ := er
        obtain ⟨rfl, hb⟩ := he
        go_wp2
        exact ⟨rfl, rfl, hb⟩
      injection h1 with h1
      obtain rfl := Option.some.inj h2
      have HE := Aside0.mk h1
      clear h1 h2 HP3
      go_wp2_with fail
      refine (need_calls HX7.out ⟨#[59]⟩ [59] rfl (by decide)).mono ?_
      intro e wn he
      rw [HE.out] at he
      obtain ⟨rfl, hx, hf⟩ := he
      have hl := HQ.out
      have HX8 := Aside0.mk hx
      have HF8 := Aside0.mk (fr_then HF7.out hf)
      have HB8 : Aside0 (wn.heap[q]? = some (.cells #[.string x1.1, .string x3.1, .string x5.1, .string x7.1, .slice none 0 0, (.slice Ar y.1.length nr)] 57 (0, 0))) := ⟨(hf.block q (blk_lt HB7.out) (by omega)).trans HB7.out⟩
      have HC8 : Aside0 (wn.heap[p]? = some (.cells zeroR 57 (0, 0))) := ⟨(hf.block p (blk_lt HC7.out) (by omega)).trans HC7.out⟩
      have HO8 := Aside0.mk (row_fr2 HO7.out hf)
      have HS8 := Aside0.mk (row_fr2 HS7.out hf)
      clear hx hf hl HX7 HF7 HB7 HC7 HO7 HS7 HE
      try clear fz ce
      go_upto_region 16 with (fail)
      have hl := HQ.out
      have HXe : Aside0 (Sx w0 (wn.setRow p #[.string x1.1, .string x3.1, .string x5.1, .string x7.1, .slice none 0 0, (.slice Ar y.1.length nr)]) b g z 0) := ⟨HX8.out.setRow (by omega) (by omega) (by omega) _⟩
      have HFe : Aside0 (Fr b w.heap.size w (wn.setRow p #[.string x1.1, .string x3.1, .string x5.1, .string x7.1, .slice none 0 0, (.slice Ar y.1.length nr)])) := ⟨fr_setRow HF8.out (by omega) _⟩
      have HOe := Aside0.mk (row_out (p := p) HO8.out (by omega) #[.string x1.1, .string x3.1, .string x5.1, .string x7.1, .slice none 0 0, (.slice Ar y.1.length nr)])
      have HSe := Aside0.mk (row_out (p := p) HS8.out (by omega) #[.string x1.1, .string x3.1, .string x5.1, .string x7.1, .slice none 0 0, (.slice Ar y.1.length nr)])
      have HCe := setRow_heap wn p zeroR #[.string x1.1, .string x3.1, .string x5.1, .string x7.1, .slice none 0 0, (.slice Ar y.1.length nr)] 57 (0, 0) HC8.out
      refine wp_region_lit ?_
      refine wpList_load_row rfl 57 (.tmp 3) rfl q rfl _ _ _ HB8.out row57 size57 ?_
      refine wpList_store_row rfl 57 (.tmp 2) (.tmp 47) rfl p zeroR #[.string x1.1, .string x3.1, .string x5.1, .string x7.1, .slice none 0 0, (.slice Ar y.1.length nr)] 57 rfl rfl HC8.out size57 rfl (by simp [Value.oneCell']) ?_
      have r0 := blk_cell HCe 0
      have r1 := blk_cell HCe 1
      have r2 := blk_cell HCe 2
      have r3 := blk_cell HCe 3
      have r4 := blk_cell HCe 4
      have r5 := blk_cell HCe 5
      obtain ⟨wz, hwz⟩ : ∃ wz, wn.setRow p #[.string x1.1, .string x3.1, .string x5.1, .string x7.1, .slice none 0 0, (.slice Ar y.1.length nr)] = wz := ⟨_, rfl⟩
      rw [hwz] at HXe HFe HOe HSe r0 r1 r2 r3 r4 r5 ⊢
      clear HCe HB8 HC8 HX8 HF8 HO8 HS8 hl hwz
      go_wp2
      exact bodyPost_ret (v := .agg #[.string x1.1, .string x3.1, .string x5.1, .string x7.1, .slice none 0 0, (.slice Ar y.1.length nr)]) (by simp [results, Tryd.results102, go_sem, r0, r1, r2, r3, r4, r5]) rfl ⟨_, _, rfl, HSe.out, HOe.out, HXe.out, HFe.out⟩
    | false =>
      exact absurd hh (by rw [HIS.out]; decide)
  | false =>
    have HIS := Aside0.mk hc1
    obtain ⟨oo, cc, hs⟩ := HX9.out
    have HST := Aside0.mk hs
    clear hs hc1
    cases hc2 : isT [59] x9 with
    | true =>
      have HIZ := Aside0.mk hc2
      have hp2 := HP.out
      rw [if_neg (fun h => by rw [hc2] at h; exact absurd h.2 (by decide))] at hp2
      have HP1 := Aside0.mk hp2
      clear HP hp2 hc2
      rcases bnd_some HP1.out with ⟨er, h1, rfl⟩ | ⟨su, h1, h2⟩
      · exact absurd h1 (by simp)
      simp only [Option.some.injEq, Except.ok.injEq] at h1
      subst h1
      have HP := Aside0.mk h2
      clear h2 HP1
      go_wp2_with fail
      refine (is_calls HST.out ⟨#[105, 115]⟩ sIs rfl).mono ?_
      rintro e wi ⟨rfl, hd⟩
      rw [HIS.out]
      have HSU : Aside0 (St w0 wi b g oo cc x9 0) := ⟨HST.out.drawn hd⟩
      obtain ⟨n1, rfl⟩ := hd.out
      clear hd
      go_wp2_with fail
      refine (is_calls HSU.out ⟨#[59]⟩ [59] rfl).mono ?_
      rintro e w10 ⟨rfl, hd⟩
      rw [HIZ.out]
      have HX10 : Aside0 (Sx w0 w10 b g x9 0) := ⟨⟨oo, cc, HSU.out.drawn hd⟩⟩
      obtain ⟨n2, rfl⟩ := hd.out
      rw [World.drewN_drewN] at HX10 ⊢
      have HF10 : Aside0 (Fr b w.heap.size w (w9.drewN (n1 + n2))) := ⟨HF9.out.drewN (n1 + n2)⟩
      have HB10 : Aside0 ((w9.drewN (n1 + n2)).heap[q]? = some (.cells #[.string x1.1, .string x3.1, .string x5.1, .string x7.1, .slice none 0 0, .slice (some ⟨q1, 0, none⟩) 1 1] 57 (0, 0))) := ⟨HB9.out⟩
      have HC10 : Aside0 ((w9.drewN (n1 + n2)).heap[p]? = some (.cells zeroR 57 (0, 0))) := ⟨HC9.out⟩
      have HO10 := Aside0.mk (row_fr2 HO9.out ((Fr.refl b w9.heap.size w9).drewN (n1 + n2)))
      have HS10 : Aside0 (k62.R 62 (w9.drewN (n1 + n2)) w.heap.size (fun k => b < k ∧ w.heap.size < k ∧ k ≠ q) (.slice none 0 0) []) := ⟨Kd.R_nil _ _ _ _ _⟩
      clear hd HST HSU HX9 HF9 HB9 HC9 HO9
      go_wp2_with fail
      refine (pass_calls HX10.out ⟨#[105, 115]⟩ sIs rfl (by decide)).mono ?_
      rintro e wp ⟨rfl, hx, hf⟩
      have hl := HQ.out
      have HXp := Aside0.mk hx
      have HFp := Aside0.mk (fr_then HF10.out hf)
      have HBp : Aside0 (wp.heap[q]? = some (.cells #[.string x1.1, .string x3.1, .string x5.1, .string x7.1, .slice none 0 0, .slice (some ⟨q1, 0, none⟩) 1 1] 57 (0, 0))) := ⟨(hf.block q (blk_lt HB10.out) (by omega)).trans HB10.out⟩
      have HCp : Aside0 (wp.heap[p]? = some (.cells zeroR 57 (0, 0))) := ⟨(hf.block p (blk_lt HC10.out) (by omega)).trans HC10.out⟩
      have HOp := Aside0.mk (row_fr2 HO10.out hf)
      have HSp := Aside0.mk (row_fr2 HS10.out hf)
      clear hx hf hl HX10 HF10 HB10 HC10 HO10 HS10
      cases hh : isT sIs x9 with
      | true =>
        exact absurd hh (by rw [HIS.out]; decide)
      | false =>
        have HX7 : Aside0 (Sx w0 wp b g x9 0) := ⟨by have := HXp.out; unfold goT at this; rwa [if_neg (by rw [hh]; decide)] at this⟩
        have hp2 := HP.out
        try dsimp only at hp2
        rw [if_neg (by rw [hh]; decide)] at hp2
        clear HP HXp hh
        rcases bnd_some hp2 with ⟨er, h1, rfl⟩ | ⟨y, h1, h2⟩
        · exact absurd h1 (by simp)
        simp only [Option.some.injEq, Except.ok.injEq] at h1
        subst h1
        have HP3 := Aside0.mk h2
        clear hp2 h2
        have HF7 := HFp
        have HB7 := HBp
        have HC7 := HCp
        have HO7 := HOp
        have HS7 := HSp
        clear HFp HBp HCp HOp HSp
        rcases bnd_some HP3.out with ⟨er, h1, rfl⟩ | ⟨z, h1, h2⟩
        · injection h1 with h1
          have HE := Aside0.mk h1
          clear h1
          go_wp2_with fail
          refine (need_calls HX7.out ⟨#[59]⟩ [59] rfl (by decide)).mono ?_
          intro e wz he
          rw [HE.out] at he
          obtain ⟨en, pz⟩ := er
          obtain ⟨rfl, hb⟩ := he
          go_wp2
          exact ⟨rfl, rfl, hb⟩
        injection h1 with h1
        obtain rfl := Option.some.inj h2
        have HE := Aside0.mk h1
        clear h1 h2 HP3
        go_wp2_with fail
        refine (need_calls HX7.out ⟨#[59]⟩ [59] rfl (by decide)).mono ?_
        intro e wn he
        rw [HE.out] at he
        obtain ⟨rfl, hx, hf⟩ := he
        have hl := HQ.out
        have HX8 := Aside0.mk hx
        have HF8 := Aside0.mk (fr_then HF7.out hf)
        have HB8 : Aside0 (wn.heap[q]? = some (.cells #[.string x1.1, .string x3.1, .string x5.1, .string x7.1, .slice none 0 0, .slice (some ⟨q1, 0, none⟩) 1 1] 57 (0, 0))) := ⟨(hf.block q (blk_lt HB7.out) (by omega)).trans HB7.out⟩
        have HC8 : Aside0 (wn.heap[p]? = some (.cells zeroR 57 (0, 0))) := ⟨(hf.block p (blk_lt HC7.out) (by omega)).trans HC7.out⟩
        have HO8 := Aside0.mk (row_fr2 HO7.out hf)
        have HS8 := Aside0.mk (row_fr2 HS7.out hf)
        clear hx hf hl HX7 HF7 HB7 HC7 HO7 HS7 HE
        try clear fz ce
        go_upto_region 16 with (fail)
        have hl := HQ.out
        have HXe : Aside0 (Sx w0 (wn.setRow p #[.string x1.1, .string x3.1, .string x5.1, .string x7.1, .slice none 0 0, .slice (some ⟨q1, 0, none⟩) 1 1]) b g z 0) := ⟨HX8.out.setRow (by omega) (by omega) (by omega) _⟩
        have HFe : Aside0 (Fr b w.heap.size w (wn.setRow p #[.string x1.1, .string x3.1, .string x5.1, .string x7.1, .slice none 0 0, .slice (some ⟨q1, 0, none⟩) 1 1])) := ⟨fr_setRow HF8.out (by omega) _⟩
        have HOe := Aside0.mk (row_out (p := p) HO8.out (by omega) #[.string x1.1, .string x3.1, .string x5.1, .string x7.1, .slice none 0 0, .slice (some ⟨q1, 0, none⟩) 1 1])
        have HSe := Aside0.mk (row_out (p := p) HS8.out (by omega) #[.string x1.1, .string x3.1, .string x5.1, .string x7.1, .slice none 0 0, .slice (some ⟨q1, 0, none⟩) 1 1])
        have HCe := setRow_heap wn p zeroR #[.string x1.1, .string x3.1, .string x5.1, .string x7.1, .slice none 0 0, .slice (some ⟨q1, 0, none⟩) 1 1] 57 (0, 0) HC8.out
        refine wp_region_lit ?_
        refine wpList_load_row rfl 57 (.tmp 3) rfl q rfl _ _ _ HB8.out row57 size57 ?_
        refine wpList_store_row rfl 57 (.tmp 2) (.tmp 47) rfl p zeroR #[.string x1.1, .string x3.1, .string x5.1, .string x7.1, .slice none 0 0, .slice (some ⟨q1, 0, none⟩) 1 1] 57 rfl rfl HC8.out size57 rfl (by simp [Value.oneCell']) ?_
        have r0 := blk_cell HCe 0
        have r1 := blk_cell HCe 1
        have r2 := blk_cell HCe 2
        have r3 := blk_cell HCe 3
        have r4 := blk_cell HCe 4
        have r5 := blk_cell HCe 5
        obtain ⟨wz, hwz⟩ : ∃ wz, wn.setRow p #[.string x1.1, .string x3.1, .string x5.1, .string x7.1, .slice none 0 0, .slice (some ⟨q1, 0, none⟩) 1 1] = wz := ⟨_, rfl⟩
        rw [hwz] at HXe HFe HOe HSe r0 r1 r2 r3 r4 r5 ⊢
        clear HCe HB8 HC8 HX8 HF8 HO8 HS8 hl hwz
        go_wp2
        exact bodyPost_ret (v := .agg #[.string x1.1, .string x3.1, .string x5.1, .string x7.1, .slice none 0 0, .slice (some ⟨q1, 0, none⟩) 1 1]) (by simp [results, Tryd.results102, go_sem, r0, r1, r2, r3, r4, r5]) rfl ⟨_, _, rfl, HSe.out, HOe.out, HXe.out, HFe.out⟩
    | false =>
      have HIZ := Aside0.mk hc2
      have hp2 := HP.out
      rw [if_pos ⟨HIS.out, HIZ.out⟩] at hp2
      have HP1 := Aside0.mk hp2
      clear HP hp2 hc2
      go_wp2_with fail
      refine (is_calls HST.out ⟨#[105, 115]⟩ sIs rfl).mono ?_
      rintro e wi ⟨rfl, hd⟩
      rw [HIS.out]
      have HSU : Aside0 (St w0 wi b g oo cc x9 0) := ⟨HST.out.drawn hd⟩
      obtain ⟨n1, rfl⟩ := hd.out
      clear hd
      go_wp2_with fail
      refine (is_calls HSU.out ⟨#[59]⟩ [59] rfl).mono ?_
      rintro e wy ⟨rfl, hd⟩
      rw [HIZ.out]
      have HXy : Aside0 (Sx w0 wy b g x9 0) := ⟨⟨oo, cc, HSU.out.drawn hd⟩⟩
      obtain ⟨n2, rfl⟩ := hd.out
      rw [World.drewN_drewN] at HXy ⊢
      have HFy : Aside0 (Fr b w.heap.size w (w9.drewN (n1 + n2))) := ⟨HF9.out.drewN (n1 + n2)⟩
      have HBy : Aside0 ((w9.drewN (n1 + n2)).heap[q]? = some (.cells #[.string x1.1, .string x3.1, .string x5.1, .string x7.1, .slice none 0 0, .slice (some ⟨q1, 0, none⟩) 1 1] 57 (0, 0))) := ⟨HB9.out⟩
      have HCy : Aside0 ((w9.drewN (n1 + n2)).heap[p]? = some (.cells zeroR 57 (0, 0))) := ⟨HC9.out⟩
      have HOy := Aside0.mk (row_fr2 HO9.out ((Fr.refl b w9.heap.size w9).drewN (n1 + n2)))
      clear hd HST HSU HX9 HF9 HB9 HC9 HO9
      rcases bnd_some HP1.out with ⟨er, h1, rfl⟩ | ⟨su, h1, h2⟩
      · have HE := Aside0.mk h1
        clear h1
        go_wp2_with fail
        refine (subs_calls k HXy.out HE.out).mono ?_
        intro e wz he
        obtain ⟨en, pz⟩ := er
        obtain ⟨rfl, hb⟩ := he
        go_wp2
        exact ⟨rfl, rfl, hb⟩
      have HE := Aside0.mk h1
      have HP := Aside0.mk h2
      clear h1 h2 HP1
      go_wp2_with fail
      refine (subs_calls k HXy.out HE.out).mono ?_
      intro e wr he
      obtain ⟨vr, rfl, ho, hx, hf⟩ := he
      obtain ⟨As, ns, rfl⟩ := Kd.R_slice ho
      have hl := HQ.out
      have fz := blk_frozen (show wr.heap[q]? = some (.cells #[.string x1.1, .string x3.1, .string x5.1, .string x7.1, .slice none 0 0, .slice (some ⟨q1, 0, none⟩) 1 1] 57 (0, 0)) from (hf.block q (blk_lt HBy.out) (by omega)).trans HBy.out) 4
      have ce := blk_cell (show wr.heap[q]? = some (.cells #[.string x1.1, .string x3.1, .string x5.1, .string x7.1, .slice none 0 0, .slice (some ⟨q1, 0, none⟩) 1 1] 57 (0, 0)) from (hf.block q (blk_lt HBy.out) (by omega)).trans HBy.out) 4
      have HX10 : Aside0 (Sx w0 (wr.setCell ⟨q, 4, none⟩ (.slice As su.1.length ns)) b g su.2 0) := ⟨hx.set (by omega) (by omega) (by omega) _ _⟩
      have HF10 : Aside0 (Fr b w.heap.size w (wr.setCell ⟨q, 4, none⟩ (.slice As su.1.length ns))) := ⟨fr_setFar (fr_then HFy.out hf) (by omega) _ _⟩
      have HB10 : Aside0 ((wr.setCell ⟨q, 4, none⟩ (.slice As su.1.length ns)).heap[q]? = some (.cells #[.string x1.1, .string x3.1, .string x5.1, .string x7.1, (.slice As su.1.length ns), .slice (some ⟨q1, 0, none⟩) 1 1] 57 (0, 0))) := ⟨by simpa using blk_set (show wr.heap[q]? = some (.cells #[.string x1.1, .string x3.1, .string x5.1, .string x7.1, .slice none 0 0, .slice (some ⟨q1, 0, none⟩) 1 1] 57 (0, 0)) from (hf.block q (blk_lt HBy.out) (by omega)).trans HBy.out) 4 (.slice As su.1.length ns)⟩
      have HC10 : Aside0 ((wr.setCell ⟨q, 4, none⟩ (.slice As su.1.length ns)).heap[p]? = some (.cells zeroR 57 (0, 0))) := ⟨(Below.heap_setCell wr ⟨q, 4, none⟩ _ p (show p ≠ q by omega)).trans ((hf.block p (blk_lt HCy.out) (by omega)).trans HCy.out)⟩
      have HO10 : Aside0 (k59.R 59 (wr.setCell ⟨q, 4, none⟩ (.slice As su.1.length ns)) w.heap.size (fun k => b < k ∧ w.heap.size < k ∧ k ≠ q) (.slice (some ⟨q1, 0, none⟩) 1 1) [op1 1]) := ⟨row_far (row_fr2 HOy.out hf) _ _⟩
      have HS10 : Aside0 (k62.R 62 (wr.setCell ⟨q, 4, none⟩ (.slice As su.1.length ns)) w.heap.size (fun k => b < k ∧ w.heap.size < k ∧ k ≠ q) (.slice As su.1.length ns) su.1) := ⟨row_far (row_new ho (blk_lt HBy.out) (by have := blk_lt HBy.out; omega) HFy.out.size) _ _⟩
      clear ho hx hf hl HXy HFy HBy HCy HOy HE
      go_wp2_with fail
      refine (pass_calls HX10.out ⟨#[105, 115]⟩ sIs rfl (by decide)).mono ?_
      rintro e wp ⟨rfl, hx, hf⟩
      have hl := HQ.out
      have HXp := Aside0.mk hx
      have HFp := Aside0.mk (fr_then HF10.out hf)
      have HBp : Aside0 (wp.heap[q]? = some (.cells #[.string x1.1, .string x3.1, .string x5.1, .string x7.1, (.slice As su.1.length ns), .slice (some ⟨q1, 0, none⟩) 1 1] 57 (0, 0))) := ⟨(hf.block q (blk_lt HB10.out) (by omega)).trans HB10.out⟩
      have HCp : Aside0 (wp.heap[p]? = some (.cells zeroR 57 (0, 0))) := ⟨(hf.block p (blk_lt HC10.out) (by omega)).trans HC10.out⟩
      have HOp := Aside0.mk (row_fr2 HO10.out hf)
      have HSp := Aside0.mk (row_fr2 HS10.out hf)
      clear hx hf hl HX10 HF10 HB10 HC10 HO10 HS10
      cases hh : isT sIs su.2 with
      | true =>
        have HXr : Aside0 (Sx w0 wp b g su.2.tail 0) := ⟨by have := HXp.out; unfold goT at this; rwa [if_pos hh] at this⟩
        have hp2 := HP.out
        try dsimp only at hp2
        rw [if_pos hh] at hp2
        have HP2 := Aside0.mk hp2
        clear hp2 HP HXp hh
        rcases bnd_some HP2.out with ⟨er, h1, rfl⟩ | ⟨y, h1, h2⟩
        · have HE := Aside0.mk h1
          clear h1
          go_wp2_with fail
          refine ((both_calls k).2 _ _ _ _ _ _ _ HXr.out (by decide) HE.out).mono ?_
          intro e wz he
          obtain ⟨en, pz⟩ := er
          obtain ⟨rfl, hb⟩ := he
          go_wp2
          exact ⟨rfl, rfl, hb⟩
        have HE := Aside0.mk h1
        have HP3 := Aside0.mk h2
        clear h1 h2 HP2
        go_wp2_with fail
        refine ((both_calls k).2 _ _ _ _ _ _ _ HXr.out (by decide) HE.out).mono ?_
        intro e wr he
        obtain ⟨vr, rfl, ho, hx, hf⟩ := he
        obtain ⟨Ar, nr, rfl⟩ := Kd.R_slice ho
        have hl := HQ.out
        have fz := blk_frozen (show wr.heap[q]? = some (.cells #[.string x1.1, .string x3.1, .string x5.1, .string x7.1, (.slice As su.1.length ns), .slice (some ⟨q1, 0, none⟩) 1 1] 57 (0, 0)) from (hf.block q (blk_lt HBp.out) (by omega)).trans HBp.out) 5
        have ce := blk_cell (show wr.heap[q]? = some (.cells #[.string x1.1, .string x3.1, .string x5.1, .string x7.1, (.slice As su.1.length ns), .slice (some ⟨q1, 0, none⟩) 1 1] 57 (0, 0)) from (hf.block q (blk_lt HBp.out) (by omega)).trans HBp.out) 5
        have HX7 : Aside0 (Sx w0 (wr.setCell ⟨q, 5, none⟩ (.slice Ar y.1.length nr)) b g y.2 0) := ⟨hx.set (by omega) (by omega) (by omega) _ _⟩
        have HF7 : Aside0 (Fr b w.heap.size w (wr.setCell ⟨q, 5, none⟩ (.slice Ar y.1.length nr))) := ⟨fr_setFar (fr_then HFp.out hf) (by omega) _ _⟩
        have HB7 : Aside0 ((wr.setCell ⟨q, 5, none⟩ (.slice Ar y.1.length nr)).heap[q]? = some (.cells #[.string x1.1, .string x3.1, .string x5.1, .string x7.1, (.slice As su.1.length ns), (.slice Ar y.1.length nr)] 57 (0, 0))) := ⟨by simpa using blk_set (show wr.heap[q]? = some (.cells #[.string x1.1, .string x3.1, .string x5.1, .string x7.1, (.slice As su.1.length ns), .slice (some ⟨q1, 0, none⟩) 1 1] 57 (0, 0)) from (hf.block q (blk_lt HBp.out) (by omega)).trans HBp.out) 5 (.slice Ar y.1.length nr)⟩
        have HC7 : Aside0 ((wr.setCell ⟨q, 5, none⟩ (.slice Ar y.1.length nr)).heap[p]? = some (.cells zeroR 57 (0, 0))) := ⟨(Below.heap_setCell wr ⟨q, 5, none⟩ _ p (show p ≠ q by omega)).trans ((hf.block p (blk_lt HCp.out) (by omega)).trans HCp.out)⟩
        have HO7 : Aside0 (k59.R 59 (wr.setCell ⟨q, 5, none⟩ (.slice Ar y.1.length nr)) w.heap.size (fun k => b < k ∧ w.heap.size < k ∧ k ≠ q) (.slice Ar y.1.length nr) y.1) := ⟨row_far (row_new ho (blk_lt HBp.out) (by have := blk_lt HBp.out; omega) HFp.out.size) _ _⟩
        have HS7 : Aside0 (k62.R 62 (wr.setCell ⟨q, 5, none⟩ (.slice Ar y.1.length nr)) w.heap.size (fun k => b < k ∧ w.heap.size < k ∧ k ≠ q) ((.slice As su.1.length ns)) su.1) := ⟨row_far (row_fr2 HSp.out hf) _ _⟩
        clear ho hx hf hl HFp HBp HCp HOp HSp HXr HE
        rcases bnd_some HP3.out with ⟨er, h1, rfl⟩ | ⟨z, h1, h2⟩
        · injection h1 with h1
          have HE := Aside0.mk h1
          clear h1
          go_wp2_with fail
          refine (need_calls HX7.out ⟨#[59]⟩ [59] rfl (by decide)).mono ?_
          intro e wz he
          rw [HE.out] at he
          obtain ⟨en, pz⟩ := er
          obtain ⟨rfl, hb⟩ := he
          go_wp2
          exact ⟨rfl, rfl, hb⟩
        injection h1 with h1
        obtain rfl := Option.some.inj h2
        have HE := Aside0.mk h1
        clear h1 h2 HP3
        go_wp2_with fail
        refine (need_calls HX7.out ⟨#[59]⟩ [59] rfl (by decide)).mono ?_
        intro e wn he
        rw [HE.out] at he
        obtain ⟨rfl, hx, hf⟩ := he
        have hl := HQ.out
        have HX8 := Aside0.mk hx
        have HF8 := Aside0.mk (fr_then HF7.out hf)
        have HB8 : Aside0 (wn.heap[q]? = some (.cells #[.string x1.1, .string x3.1, .string x5.1, .string x7.1, (.slice As su.1.length ns), (.slice Ar y.1.length nr)] 57 (0, 0))) := ⟨(hf.block q (blk_lt HB7.out) (by omega)).trans HB7.out⟩
        have HC8 : Aside0 (wn.heap[p]? = some (.cells zeroR 57 (0, 0))) := ⟨(hf.block p (blk_lt HC7.out) (by omega)).trans HC7.out⟩
        have HO8 := Aside0.mk (row_fr2 HO7.out hf)
        have HS8 := Aside0.mk (row_fr2 HS7.out hf)
        clear hx hf hl HX7 HF7 HB7 HC7 HO7 HS7 HE
        try clear fz ce
        go_upto_region 16 with (fail)
        have hl := HQ.out
        have HXe : Aside0 (Sx w0 (wn.setRow p #[.string x1.1, .string x3.1, .string x5.1, .string x7.1, (.slice As su.1.length ns), (.slice Ar y.1.length nr)]) b g z 0) := ⟨HX8.out.setRow (by omega) (by omega) (by omega) _⟩
        have HFe : Aside0 (Fr b w.heap.size w (wn.setRow p #[.string x1.1, .string x3.1, .string x5.1, .string x7.1, (.slice As su.1.length ns), (.slice Ar y.1.length nr)])) := ⟨fr_setRow HF8.out (by omega) _⟩
        have HOe := Aside0.mk (row_out (p := p) HO8.out (by omega) #[.string x1.1, .string x3.1, .string x5.1, .string x7.1, (.slice As su.1.length ns), (.slice Ar y.1.length nr)])
        have HSe := Aside0.mk (row_out (p := p) HS8.out (by omega) #[.string x1.1, .string x3.1, .string x5.1, .string x7.1, (.slice As su.1.length ns), (.slice Ar y.1.length nr)])
        have HCe := setRow_heap wn p zeroR #[.string x1.1, .string x3.1, .string x5.1, .string x7.1, (.slice As su.1.length ns), (.slice Ar y.1.length nr)] 57 (0, 0) HC8.out
        refine wp_region_lit ?_
        refine wpList_load_row rfl 57 (.tmp 3) rfl q rfl _ _ _ HB8.out row57 size57 ?_
        refine wpList_store_row rfl 57 (.tmp 2) (.tmp 47) rfl p zeroR #[.string x1.1, .string x3.1, .string x5.1, .string x7.1, (.slice As su.1.length ns), (.slice Ar y.1.length nr)] 57 rfl rfl HC8.out size57 rfl (by simp [Value.oneCell']) ?_
        have r0 := blk_cell HCe 0
        have r1 := blk_cell HCe 1
        have r2 := blk_cell HCe 2
        have r3 := blk_cell HCe 3
        have r4 := blk_cell HCe 4
        have r5 := blk_cell HCe 5
        obtain ⟨wz, hwz⟩ : ∃ wz, wn.setRow p #[.string x1.1, .string x3.1, .string x5.1, .string x7.1, (.slice As su.1.length ns), (.slice Ar y.1.length nr)] = wz := ⟨_, rfl⟩
        rw [hwz] at HXe HFe HOe HSe r0 r1 r2 r3 r4 r5 ⊢
        clear HCe HB8 HC8 HX8 HF8 HO8 HS8 hl hwz
        go_wp2
        exact bodyPost_ret (v := .agg #[.string x1.1, .string x3.1, .string x5.1, .string x7.1, (.slice As su.1.length ns), (.slice Ar y.1.length nr)]) (by simp [results, Tryd.results102, go_sem, r0, r1, r2, r3, r4, r5]) rfl ⟨_, _, rfl, HSe.out, HOe.out, HXe.out, HFe.out⟩
      | false =>
        have HX7 : Aside0 (Sx w0 wp b g su.2 0) := ⟨by have := HXp.out; unfold goT at this; rwa [if_neg (by rw [hh]; decide)] at this⟩
        have hp2 := HP.out
        try dsimp only at hp2
        rw [if_neg (by rw [hh]; decide)] at hp2
        clear HP HXp hh
        rcases bnd_some hp2 with ⟨er, h1, rfl⟩ | ⟨y, h1, h2⟩
        · exact absurd h1 (by simp)
        simp only [Option.some.injEq, Except.ok.injEq] at h1
        subst h1
        have HP3 := Aside0.mk h2
        clear hp2 h2
        have HF7 := HFp
        have HB7 := HBp
        have HC7 := HCp
        have HO7 := HOp
        have HS7 := HSp
        clear HFp HBp HCp HOp HSp
        rcases bnd_some HP3.out with ⟨er, h1, rfl⟩ | ⟨z, h1, h2⟩
        · injection h1 with h1
          have HE := Aside0.mk h1
          clear h1
          go_wp2_with fail
          refine (need_calls HX7.out ⟨#[59]⟩ [59] rfl (by decide)).mono ?_
          intro e wz he
          rw [HE.out] at he
          obtain ⟨en, pz⟩ := er
          obtain ⟨rfl, hb⟩ := he
          go_wp2
          exact ⟨rfl, rfl, hb⟩
        injection h1 with h1
        obtain rfl := Option.some.inj h2
        have HE := Aside0.mk h1
        clear h1 h2 HP3
        go_wp2_with fail
        refine (need_calls HX7.out ⟨#[59]⟩ [59] rfl (by decide)).mono ?_
        intro e wn he
        rw [HE.out] at he
        obtain ⟨rfl, hx, hf⟩ := he
        have hl := HQ.out
        have HX8 := Aside0.mk hx
        have HF8 := Aside0.mk (fr_then HF7.out hf)
        have HB8 : Aside0 (wn.heap[q]? = some (.cells #[.string x1.1, .string x3.1, .string x5.1, .string x7.1, (.slice As su.1.length ns), .slice (some ⟨q1, 0, none⟩) 1 1] 57 (0, 0))) := ⟨(hf.block q (blk_lt HB7.out) (by omega)).trans HB7.out⟩
        have HC8 : Aside0 (wn.heap[p]? = some (.cells zeroR 57 (0, 0))) := ⟨(hf.block p (blk_lt HC7.out) (by omega)).trans HC7.out⟩
        have HO8 := Aside0.mk (row_fr2 HO7.out hf)
        have HS8 := Aside0.mk (row_fr2 HS7.out hf)
        clear hx hf hl HX7 HF7 HB7 HC7 HO7 HS7 HE
        try clear fz ce
        go_upto_region 16 with (fail)
        have hl := HQ.out
        have HXe : Aside0 (Sx w0 (wn.setRow p #[.string x1.1, .string x3.1, .string x5.1, .string x7.1, (.slice As su.1.length ns), .slice (some ⟨q1, 0, none⟩) 1 1]) b g z 0) := ⟨HX8.out.setRow (by omega) (by omega) (by omega) _⟩
        have HFe : Aside0 (Fr b w.heap.size w (wn.setRow p #[.string x1.1, .string x3.1, .string x5.1, .string x7.1, (.slice As su.1.length ns), .slice (some ⟨q1, 0, none⟩) 1 1])) := ⟨fr_setRow HF8.out (by omega) _⟩
        have HOe := Aside0.mk (row_out (p := p) HO8.out (by omega) #[.string x1.1, .string x3.1, .string x5.1, .string x7.1, (.slice As su.1.length ns), .slice (some ⟨q1, 0, none⟩) 1 1])
        have HSe := Aside0.mk (row_out (p := p) HS8.out (by omega) #[.string x1.1, .string x3.1, .string x5.1, .string x7.1, (.slice As su.1.length ns), .slice (some ⟨q1, 0, none⟩) 1 1])
        have HCe := setRow_heap wn p zeroR #[.string x1.1, .string x3.1, .string x5.1, .string x7.1, (.slice As su.1.length ns), .slice (some ⟨q1, 0, none⟩) 1 1] 57 (0, 0) HC8.out
        refine wp_region_lit ?_
        refine wpList_load_row rfl 57 (.tmp 3) rfl q rfl _ _ _ HB8.out row57 size57 ?_
        refine wpList_store_row rfl 57 (.tmp 2) (.tmp 47) rfl p zeroR #[.string x1.1, .string x3.1, .string x5.1, .string x7.1, (.slice As su.1.length ns), .slice (some ⟨q1, 0, none⟩) 1 1] 57 rfl rfl HC8.out size57 rfl (by simp [Value.oneCell']) ?_
        have r0 := blk_cell HCe 0
        have r1 := blk_cell HCe 1
        have r2 := blk_cell HCe 2
        have r3 := blk_cell HCe 3
        have r4 := blk_cell HCe 4
        have r5 := blk_cell HCe 5
        obtain ⟨wz, hwz⟩ : ∃ wz, wn.setRow p #[.string x1.1, .string x3.1, .string x5.1, .string x7.1, (.slice As su.1.length ns), .slice (some ⟨q1, 0, none⟩) 1 1] = wz := ⟨_, rfl⟩
        rw [hwz] at HXe HFe HOe HSe r0 r1 r2 r3 r4 r5 ⊢
        clear HCe HB8 HC8 HX8 HF8 HO8 HS8 hl hwz
        go_wp2
        exact bodyPost_ret (v := .agg #[.string x1.1, .string x3.1, .string x5.1, .string x7.1, (.slice As su.1.length ns), .slice (some ⟨q1, 0, none⟩) 1 1]) (by simp [results, Tryd.results102, go_sem, r0, r1, r2, r3, r4, r5]) rfl ⟨_, _, rfl, HSe.out, HOe.out, HXe.out, HFe.out⟩
end Go.Proofs.YtkgnhghaiopgcaaDoor.Pw
