/- A store into a block of one's own, as an event; no condition. -/
import Derived.Test.YthpcplpannbipaaVd
set_option linter.unusedVariables false
set_option linter.unusedSimpArgs false
set_option linter.unusedSectionVars false
namespace Go.Proofs.Ythpcplpannbipaa.Sa
open Go.RowKit Go.Maps Go.MapKept Go.Proofs.YthpcplpannbipaaW.PrintWords Go.Proofs.YthpcplpannbipaaW.PrintLast Go.Proofs.Ythpcplpannbipaa.X Go.Proofs.Ythpcplpannbipaa.Kx Go.Proofs.Ythpcplpannbipaa.Mp Go.Proofs.Ythpcplpannbipaa.Mq Go.Proofs.Ythpcplpannbipaa.Sq Go.Proofs.Ythpcplpannbipaa.Mb Go.Proofs.Ythpcplpannbipaa.Maps Go.Proofs.Ythpcplpannbipaa.Nr
section
variable {P : Program} {ops : Array Oper} {rest : List Oper} {o : Oper} {a : Act} {Q : Exit → Act → World → Prop} {W : World}
theorem st_ev {t e : TypeId} {p x : Operand} {g : Nat} {cur : Array Value} {u : Value} (vs : List Value) (hN : o.dst = none) (hgd : o.guard = none) (ho : o.op = .store t p x) (hp : a.eval p = .pointer (some ⟨g, 0, none⟩)) (hx : a.eval x = u)
    (hu : u.cells.toList = vs) (ht : (P.info? t).map (·.size) = some vs.length) (h1 : ∀ q ∈ vs, q.oneCell' = true) (hb : W.heap[g]? = some (.cells cur e (0, 0))) (hsz : cur.size = vs.length)
    (h : ∀ w1, w1.heap[g]? = some (.cells vs.toArray e (0, 0)) → FrO (fun m => m = g) W w1 → wpList P ops Q rest a w1) : wpList P ops Q (o :: rest) a W := by
  have hrun : (Instr.storeAt t (.pointer (some ⟨g, 0, none⟩)) u).run P W = .ok () (W.setCells g 0 vs) := run_store_run t u vs hb hu ht (by omega) h1
  obtain ⟨cur', h3, h4, h5⟩ := setCells_row vs 0 W cur hb (by omega)
  obtain ⟨s1, s2, s3, s4⟩ := setCells_same g vs 0 W
  have hv : cur' = vs.toArray := by
    apply Array.toList_inj.1
    rw [h5, List.take_zero, List.nil_append, List.drop_of_length_le (by rw [Array.length_toList]; omega), List.append_nil]
  rw [hv] at h3
  refine wpList_plain hgd fun K hK => ?_
  unfold Oper.wp execOp
  simp only [ho, hp, hx, Sem.run_bind, Sem.run_pure, Result.andThen_ok, hrun]
  show K (a.put o.dst undef) _
  rw [hN]
  exact hK a _ (h _ h3 ⟨s1, s2, s3, by rw [s4]; exact Nat.le_refl _, fun m _ hm => setCells_far vs 0 m hm⟩)
end
theorem FrO.cell' {ok : Nat → Prop} {w w' : World} (h : FrO ok w w') {ad : Addr} (hl : ad.block < w.heap.size) (hn : ¬ ok ad.block) : w'.cell? ad = w.cell? ad := by
  unfold World.cell?
  rw [h.block _ hl hn]
/-- What the loop over acts keeps: the spans, the document's row in the cells at g. -/
structure Lp (w0 w : World) (ok : Nat → Prop) (bb g : Nat) (v : Value) (s : St ByteArray) (n : Nat) : Prop where
  hs : Hs w ok bb s n
  okb : ∀ m, ok m → w0.heap.size ≤ m
  rf : Rf w v s n (fun m => m < w.heap.size ∧ ¬ ok m ∧ m ≠ g)
  gb : ∃ a b, v = .agg #[a, b] ∧ w.heap[g]? = some (.cells #[a, b] 54 (0, 0))
  gn : ¬ ok g
  gl : w0.heap.size ≤ g
  bel : Below w0.heap.size w0 w
section
variable {w0 w w' w'' : World} {ok ok' : Nat → Prop} {bb g n n' : Nat} {v v' : Value} {s s' : St ByteArray}
theorem Lp.size (h : Lp w0 w ok bb g v s n) : w0.heap.size ≤ w.heap.size := h.bel.size
theorem Lp.below (h : Lp w0 w ok bb g v s n) (hb : Below w.heap.size w w') : Lp w0 w' ok bb g v s n := by
  refine ⟨h.hs.below hb, h.okb, (h.rf.below hb).mono fun m hm => ⟨Nat.lt_of_lt_of_le hm.1 hb.size, hm.2⟩, ?_, h.gn, h.gl, h.bel.trans (hb.mono h.size)⟩
  obtain ⟨a, b, e, hg⟩ := h.gb
  exact ⟨a, b, e, blk_below hg hb⟩
theorem Lp.cells {a b : Value} (h : Lp w0 w ok bb g (.agg #[a, b]) s n) : w.heap[g]? = some (.cells #[a, b] 54 (0, 0)) := by
  obtain ⟨a', b', e, hg⟩ := h.gb
  cases e
  exact hg
/-- A step of the program's, one of the document's, and the store: what is kept. -/
theorem Lp.step (h : Lp w0 w ok bb g v s n) (hs : Hs w' ok' bb s' n') (hok : ∀ m, ok' m → ok m ∨ w.heap.size ≤ m) (hf : FrO ok w w')
    {w1 : World} (hr : Rf w1 v' s' n' (fun m => (m < w.heap.size ∧ ¬ ok m ∧ m ≠ g) ∨ w'.heap.size ≤ m ∧ m < w1.heap.size)) (hb : Below w'.heap.size w' w1)
    (hst : FrO (fun m => m = g) w1 w'') (hg : ∃ a b, v' = .agg #[a, b] ∧ w''.heap[g]? = some (.cells #[a, b] 54 (0, 0))) : Lp w0 w'' ok' bb g v' s' n' := by
  have hgl : g < w.heap.size := by obtain ⟨a, b, _, hg⟩ := h.gb; exact blk_lt hg
  have hgn : ¬ ok' g := fun e => (hok g e).elim h.gn (fun e => by omega)
  have hs1 := hs.below hb
  refine ⟨hs1.apart hst (fun m hm e => hgn (e ▸ hm)), fun m hm => (hok m hm).elim (h.okb m) (fun e => Nat.le_trans h.size e), ?_, hg, hgn, h.gl, ?_⟩
  · have hq : ∀ m, (m < w.heap.size ∧ ¬ ok m ∧ m ≠ g) ∨ w'.heap.size ≤ m ∧ m < w1.heap.size → m < w1.heap.size ∧ m ≠ g ∧ ¬ ok' m := fun m hm => by
      rcases hm with ⟨a1, a2, a3⟩ | ⟨a1, a2⟩
      · exact ⟨Nat.lt_of_lt_of_le a1 (Nat.le_trans hf.size hb.size), a3, fun e => (hok m e).elim a2 (fun e => by omega)⟩
      · exact ⟨a2, fun e => by have := hf.size; omega, fun e => by have := hs.lt m e; omega⟩
    exact (hr.move fun m hm => hst.block m (hq m hm).1 (hq m hm).2.1).mono fun m hm => ⟨Nat.lt_of_lt_of_le (hq m hm).1 hst.size, (hq m hm).2.2, (hq m hm).2.1⟩
  · exact ((h.bel.trans (hf.below_of h.size h.okb)).trans (hb.mono (Nat.le_trans h.size hf.size))).trans (hst.below_of (Nat.le_trans h.size (Nat.le_trans hf.size hb.size)) (fun m e => e ▸ h.gl))
/-- Between the program's step and the document's. -/
theorem Lp.mid (h : Lp w0 w ok bb g v s n) (hf : FrO ok w w') : Rf w' v s n (fun m => m < w.heap.size ∧ ¬ ok m ∧ m ≠ g) ∧ w'.heap[g]? = w.heap[g]? := by
  have hgl : g < w.heap.size := by obtain ⟨a, b, _, hg⟩ := h.gb; exact blk_lt hg
  exact ⟨h.rf.move fun m hm => hf.block m hm.1 hm.2.1, hf.block g hgl h.gn⟩
end
end Go.Proofs.Ythpcplpannbipaa.Sa
