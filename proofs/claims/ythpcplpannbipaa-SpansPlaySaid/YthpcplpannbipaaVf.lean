/- What the program and the document's example answer at one revision, side by side; no condition. -/
import Derived.Test.YthpcplpannbipaaVe
import Derived.Test.YthpcplpannbipaaUh
set_option linter.unusedVariables false
set_option linter.unusedSimpArgs false
set_option linter.unusedSectionVars false
namespace Go.Proofs.Ythpcplpannbipaa.Sa
open Go.RowKit Go.Maps Go.MapKept Go.Proofs.YthpcplpannbipaaW.PrintWords Go.Proofs.YthpcplpannbipaaW.PrintLast Go.Proofs.Ythpcplpannbipaa.X Go.Proofs.Ythpcplpannbipaa.Kx Go.Proofs.Ythpcplpannbipaa.Mp Go.Proofs.Ythpcplpannbipaa.Mq Go.Proofs.Ythpcplpannbipaa.Sq Go.Proofs.Ythpcplpannbipaa.Mb Go.Proofs.Ythpcplpannbipaa.Maps Go.Proofs.Ythpcplpannbipaa.Nr
/-- At one revision r: the two answer the same. -/
structure Ans (P : World → Prop) (bb : Nat) (v : Value) (key ak fr tt : ByteArray) (r0 r : Int) (p : ByteArray) (is c1 c2 : Bool) (cn ne : Nat) (E : List (Evt ByteArray)) : Prop where
  len : E.length = ne
  le : ne ≤ 10000
  next_p : ∀ W, P W → Calls Try.prog 32 #[.pointer (some ⟨bb, 0, none⟩), .int .i64 r, .string fr, .string tt] W fun e w' => e = .returned (.tuple #[.string p, .bool is]) ∧ Below W.heap.size W w'
  next_d : ∀ W, P W → Calls Try.prog 33 #[v, .int .i64 r, .string fr, .string tt] W fun e w' => e = .returned (.tuple #[.string p, .bool is]) ∧ Below W.heap.size W w'
  has_p1 : ∀ W, P W → Calls Try.prog 34 #[.pointer (some ⟨bb, 0, none⟩), .string key, .int .i64 r] W fun e w' => e = .returned (.bool c1) ∧ Below W.heap.size W w'
  has_d1 : ∀ W, P W → Calls Try.prog 35 #[v, .string key, .int .i64 r] W fun e w' => e = .returned (.bool c1) ∧ Below W.heap.size W w'
  has_p2 : ∀ W, P W → Calls Try.prog 34 #[.pointer (some ⟨bb, 0, none⟩), .string ak, .int .i64 r] W fun e w' => e = .returned (.bool c2) ∧ Below W.heap.size W w'
  has_d2 : ∀ W, P W → Calls Try.prog 35 #[v, .string ak, .int .i64 r] W fun e w' => e = .returned (.bool c2) ∧ Below W.heap.size W w'
  count_p : ∀ W, P W → Calls Try.prog 36 #[.pointer (some ⟨bb, 0, none⟩), .int .i64 r] W fun e w' => e = .returned (.int .i64 (cn : Int)) ∧ Below W.heap.size W w'
  count_d : ∀ W, P W → Calls Try.prog 37 #[v, .int .i64 r] W fun e w' => e = .returned (.int .i64 (cn : Int)) ∧ Below W.heap.size W w'
  ev_p : ∀ W, P W → Calls Try.prog 38 #[.pointer (some ⟨bb, 0, none⟩), .int .i64 r0, .int .i64 r] W fun e w' => ∃ A c, e = .returned (.slice A ne c) ∧ EvRow w' W.heap.size (.slice A ne c) E ∧ Below W.heap.size W w'
  ev_d : ∀ W, P W → Calls Try.prog 39 #[v, .int .i64 r0, .int .i64 r] W fun e w' => ∃ A c, ∃ o : List Es, e = .returned (.slice A ne c) ∧ Kd.C k74 w' A ne o ∧ o.map toE = E ∧ Below W.heap.size W w'
theorem ans {w0 : World} {ok : Nat → Prop} {bb g n : Nat} {v : Value} {s : St ByteArray} (hI : Sq.Inv blt s) (hf : Few s n) (hn : n ≤ 1000) (key ak fr tt : ByteArray) (r0 r : Int) :
    ∃ p is c1 c2 cn ne E, Ans (fun W => Lp w0 W ok bb g v s n) bb v key ak fr tt r0 r p is c1 c2 cn ne E := by
  refine ⟨_, _, hasS s key r, hasS s ak r, countS s r, _, eventsS blt s r0 r, rfl, ?_, fun W h => next_h h.hs (by omega) r fr tt, fun W h => next_r h.rf hn hI r fr tt, fun W h => has_h h.hs key r, fun W h => has_r h.rf hn key r, fun W h => has_h h.hs ak r, fun W h => has_r h.rf hn ak r, fun W h => count_h h.hs (by omega) r, fun W h => count_r h.rf hn hI r, fun W h => ?_, fun W h => ?_⟩
  · have := ev_len s (f := r0) (t := r) hf.len; omega
  · refine (events_h h.hs (by omega) r0 r).mono ?_
    rintro e w' ⟨x, rfl, h1, h2⟩
    obtain ⟨A, c, rfl⟩ := ev_slice h1
    exact ⟨A, c, rfl, h1, h2⟩
  · refine (events_r h.rf hn hI r0 r).mono ?_
    rintro e w' ⟨A, c, o, rfl, h1, h2, h3⟩
    have hl : o.length = (eventsS blt s r0 r).length := by rw [← h2, List.length_map]
    rw [hl] at h1 ⊢
    exact ⟨A, c, o, rfl, h1, h2, h3⟩
theorem int_at {w W : World} {ad : Addr} {xs : List Int} {i : Nat} {x : Int} (h : Kd.C (Kd.int .i64) w (some ad) xs.length xs) (hb : Below w.heap.size w W) (hi : xs[i]? = some x) : W.cell? (ad.add i) = some (.int .i64 x) := by
  obtain ⟨ad', e, hc⟩ := int_cells (Kd.C_below h hb) hi
  injection e with e
  subst e
  exact hc
theorem int_at0 {w W : World} {ad : Addr} {xs : List Int} {x : Int} (h : Kd.C (Kd.int .i64) w (some ad) xs.length xs) (hb : Below w.heap.size w W) (hi : xs[0]? = some x) : W.cell? ad = some (.int .i64 x) := by
  have := int_at h hb hi
  unfold Addr.add at this
  simpa using this
theorem es_at {w : World} {A : Option Addr} {n j : Nat} {o : List Es} {E : List (Evt ByteArray)} {ev : Evt ByteArray} (h : Kd.C k74 w A n o) (he : o.map toE = E) (hev : E[j]? = some ev) : ∃ ad, A = some ad ∧ w.cell? (ad.add (j * 3)) = some (.int .i64 ev.1) ∧
    w.cell? ⟨(ad.add (j * 3)).block, (ad.add (j * 3)).off + 1, none⟩ = some (.string ev.2.1) ∧ w.cell? ⟨(ad.add (j * 3)).block, (ad.add (j * 3)).off + 2, none⟩ = some (.bool ev.2.2) := by
  rw [← he, List.getElem?_map] at hev
  obtain ⟨x, hx, rfl⟩ := Option.map_eq_some_iff.1 hev
  have hl : j < o.length := (List.getElem?_eq_some_iff.1 hx).1
  have hn : o.length = n := h.1
  obtain ⟨ad, e, h0, h1, h2⟩ := at_T74 h (j : Int) (by omega) (by omega)
  rw [rd_e hx, Int.toNat_natCast] at h0 h1 h2
  exact ⟨ad, e, h0, h1, h2⟩
end Go.Proofs.Ythpcplpannbipaa.Sa
