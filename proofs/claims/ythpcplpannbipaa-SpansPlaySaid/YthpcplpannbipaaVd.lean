/- Spans' methods on the nil pointer; no condition. -/
import Derived.Test.YthpcplpannbipaaVc
set_option linter.unusedVariables false
set_option linter.unusedSimpArgs false
set_option linter.unusedSectionVars false
namespace Go.Proofs.Ythpcplpannbipaa.Sa
open Go.RowKit Go.Maps Go.MapKept Go.Proofs.YthpcplpannbipaaW.PrintWords Go.Proofs.YthpcplpannbipaaW.PrintLast Go.Proofs.Ythpcplpannbipaa.X Go.Proofs.Ythpcplpannbipaa.Kx Go.Proofs.Ythpcplpannbipaa.Mp Go.Proofs.Ythpcplpannbipaa.Mq Go.Proofs.Ythpcplpannbipaa.Sq Go.Proofs.Ythpcplpannbipaa.Mb Go.Proofs.Ythpcplpannbipaa.Maps
set_option maxHeartbeats 4000000
set_option maxRecDepth 100000
theorem put_n (w : World) (key : ByteArray) (rev : Int) : Calls Try.prog 26 #[.pointer none, .string key, .int .i64 rev] w fun e w' => e = .returned (.bool false) ∧ Below w.heap.size w w' := by
  go_enter Try.func26, Try.ntmps26
  go_wp2
  go_ret
  exact ⟨rfl, by repeat (first | exact Below.refl _ _ | apply below_alloc | apply pw_below_drewN | apply below_drew1)⟩
theorem drop_n (w : World) (key : ByteArray) (rev : Int) : Calls Try.prog 28 #[.pointer none, .string key, .int .i64 rev] w fun e w' => e = .returned (.bool false) ∧ Below w.heap.size w w' := by
  go_enter Try.func28, Try.ntmps28
  go_wp2
  go_ret
  exact ⟨rfl, by repeat (first | exact Below.refl _ _ | apply below_alloc | apply pw_below_drewN | apply below_drew1)⟩
theorem has_n (w : World) (key : ByteArray) (rev : Int) : Calls Try.prog 34 #[.pointer none, .string key, .int .i64 rev] w fun e w' => e = .returned (.bool false) ∧ Below w.heap.size w w' := by
  go_enter Try.func34, Try.ntmps34
  go_wp2
  go_ret
  exact ⟨rfl, by repeat (first | exact Below.refl _ _ | apply below_alloc | apply pw_below_drewN | apply below_drew1)⟩
theorem next_n (w : World) (rev : Int) (f t : ByteArray) : Calls Try.prog 32 #[.pointer none, .int .i64 rev, .string f, .string t] w fun e w' => e = .returned (.tuple #[.string ⟨#[]⟩, .bool false]) ∧ Below w.heap.size w w' := by
  go_enter Try.func32, Try.ntmps32
  go_wp2
  go_ret2
  exact ⟨rfl, by repeat (first | exact Below.refl _ _ | apply below_alloc | apply pw_below_drewN | apply below_drew1)⟩
theorem trim_n (w : World) (rev : Int) : Calls Try.prog 30 #[.pointer none, .int .i64 rev] w fun e w' => e = .returned (.int .i64 0) ∧ Below w.heap.size w w' := by
  go_enter Try.func30, Try.ntmps30
  go_upto_region 1 with (first | ((with_reducible refine gate_dst (N := 2) rfl ?_); refine box_event ?hg (N := 2) ?hd (cs := #[.pointer none]) (t := 50) ?hr ?_; (case hd => rfl); (case hg => rfl); (case hr => first | (go_simp; done) | (go_simp; rfl)); intro g1 hg w3 hbox hb; have BK := Aside0.mk hbox; have B1 := Aside0.mk hb; clear hg hbox hb) | ((with_reducible refine gate_dst (N := 3) rfl ?_); refine box_event ?hg (N := 3) ?hd (cs := #[.int .i64 rev]) (t := 3) ?hr ?_; (case hd => rfl); (case hg => rfl); (case hr => first | (go_simp; done) | (go_simp; rfl)); intro g2 hg w4 hbox hb; have BK2 := Aside0.mk (blk_below BK.out hb); have B2 := Aside0.mk (B1.out.trans (hb.mono B1.out.size)); clear hg hbox hb) | fail)
  have hc : w4.cell? ⟨g1, 0, none⟩ = some (.pointer none) := (blk_cell BK2.out 0).trans rfl
  go_wp2
  go_ret
  exact ⟨rfl, B2.out⟩
theorem count_n (w : World) (rev : Int) : Calls Try.prog 36 #[.pointer none, .int .i64 rev] w fun e w' => e = .returned (.int .i64 0) ∧ Below w.heap.size w w' :=
  (Count_g (gives_nil w) (Nat.zero_le _) rev).mono fun e w' h => ⟨h.1, h.2⟩
theorem events_n (w : World) (f t : Int) : Calls Try.prog 38 #[.pointer none, .int .i64 f, .int .i64 t] w fun e w' => ∃ A c, e = .returned (.slice A 0 c) ∧ Below w.heap.size w w' :=
  (Events_g (gives_nil w) (Nat.zero_le _) f t).mono fun e w' h => by
    obtain ⟨v, rfl, h2, h3⟩ := h
    obtain ⟨A, c, rfl⟩ := ev_slice h2
    exact ⟨A, c, by simp [sorted, evsOf], h3⟩
end Go.Proofs.Ythpcplpannbipaa.Sa
