/- The document's Put and Drop (by hand: a slice that came in is handed back). -/
import Derived.Test.YthpcplpannbipaaNr4
import Derived.Test.YthpcplpannbipaaUc
import Derived.WalkMore
import Derived.OwnWalk
import Derived.Deep.DeepMust
set_option linter.unusedVariables false
set_option linter.unusedSimpArgs false
set_option linter.unusedSectionVars false
namespace Go.Proofs.Ythpcplpannbipaa.Nr
open Go.RowKit Go.Proofs.YthpcplpannbipaaW.PrintWords Go.Proofs.YthpcplpannbipaaW.PrintLast Go.Proofs.Ythpcplpannbipaa.X Go.Proofs.Ythpcplpannbipaa.Kx
abbrev Xs := S102
/-- A row of spans and the last revision, as a value; P: where its cells may lie. -/
def RS (w : World) (v : Value) (L : List Xs) (last : Int) (P : Nat → Prop) : Prop := ∃ A c, v = .agg #[.slice A L.length c, .int .i64 last] ∧ Kd.C k102 w A L.length L ∧ L.length ≤ c ∧ ∀ ad, A = some ad → P ad.block
theorem RS.below {w w' : World} {v : Value} {L : List Xs} {last : Int} {P : Nat → Prop} (h : RS w v L last P) (hb : Below w.heap.size w w') : RS w' v L last P := by
  obtain ⟨A, c, e, h1, h2⟩ := h
  exact ⟨A, c, e, Kd.C_below h1 hb, h2⟩
theorem r_blk {w : World} {base n c : Nat} {ok : Nat → Prop} {A : Option Addr} {xs : List Xs} (h : k102.R 102 w base ok (.slice A n c) xs) : ∀ ad, A = some ad → base ≤ ad.block ∧ ad.block < w.heap.size := by
  rintro ad rfl
  have hg : ∃ g, ad = ⟨g, 0, none⟩ := by
    obtain ⟨_, inner, ho, _⟩ := h
    rcases ho.2 with ⟨hv, _⟩ | ⟨g, cap', cur, hv, _⟩
    · cases hv
    · injection hv with ha _ _
      injection ha with ha
      exact ⟨g, ha⟩
  obtain ⟨g, rfl⟩ := hg
  exact ⟨Kd.R_base h g (by simp [Value.ownBlock]), Kd.R_lt h g (by simp [Value.ownBlock])⟩
theorem c_move {w w' : World} {A : Option Addr} {n : Nat} {xs : List Xs} (h : Kd.C k102 w A n xs) (hm : ∀ ad, A = some ad → w'.heap[ad.block]? = w.heap[ad.block]?) : Kd.C k102 w' A n xs := by
  obtain ⟨h1, h2, h3⟩ := h
  refine ⟨h1, h2, fun hn => ?_⟩
  obtain ⟨ad, e, hc⟩ := h3 hn
  refine ⟨ad, e, fun j p hj => ?_⟩
  obtain ⟨cs, hl, hk, hcell⟩ := hc j p hj
  refine ⟨cs, hl, by rw [k102_open hk]; exact k102_mk w' p, fun i u hu => ?_⟩
  have hb : ∀ k, (ad.add k).block = ad.block := fun k => by unfold Addr.add; split <;> rfl
  rw [← hcell i u hu]
  unfold World.cell?
  rw [hb, hm ad e]
theorem x_KM {w W : World} {base : Nat} {okp : Nat → Prop} (x : Xs) (cs : List Value) (h : k102.K w x cs) : k102.M W base okp x cs := by
  rw [k102_open h]
  exact k102_mkM _ _ _ x
set_option maxHeartbeats 16000000 in
set_option maxRecDepth 100000 in
theorem rput_c (k : Nat) (A : Option Addr) (c : Nat) (L : List Xs) (last : Int) (key : ByteArray) (rev : Int) (r : Int) (w : World) (hC : Kd.C k102 w A L.length L) (hcap : L.length ≤ c) (P : Nat → Prop) (hP : ∀ ad, A = some ad → P ad.block) (hL : L.length ≤ 1000000) (ho : doormanref14_open.f k L last key = some r) :
    Calls Try.prog 27 #[.agg #[.slice A L.length c, .int .i64 last], .string key, .int .i64 rev] w fun e w' => ∃ v, e = .returned (.tuple #[v, .bool (!(decide (rev < 1) || decide (rev < last) || decide (0 ≤ r)))]) ∧
      (if decide (rev < 1) || decide (rev < last) || decide (0 ≤ r) then RS w' v L last (fun m => P m ∨ w.heap.size ≤ m ∧ m < w'.heap.size) else RS w' v (L ++ [⟨key, rev, 0⟩]) rev (fun m => P m ∨ w.heap.size ≤ m ∧ m < w'.heap.size)) ∧ Below w.heap.size w w' := by
  have HC := Aside0.mk hC
  have HCAP := Aside0.mk hcap
  have HL := Aside0.mk hL
  have HP := Aside0.mk hP
  have HO := Aside0.mk ho
  clear hC hcap ho hL hP
  have HB := Aside0.mk (Below.refl w.heap.size w)
  go_enter Try.func27, Try.ntmps27
  obtain ⟨b1, h1⟩ : ∃ b, decide (rev < 1) = b := ⟨_, rfl⟩
  obtain ⟨b2, h2⟩ : ∃ b, decide (rev < last) = b := ⟨_, rfl⟩
  obtain ⟨b3, h3⟩ : ∃ b, decide (0 ≤ r) = b := ⟨_, rfl⟩
  rw [h1, h2, h3]
  go_upto_region 1 with (first | ((with_reducible refine gate_dst (N := 3) rfl ?_); refine box_event ?hg (N := 3) ?hd (cs := #[.slice A L.length c, .int .i64 last]) (t := 54) ?hr ?_; (case hd => rfl); (case hg => rfl); (case hr => first | (go_simp; done) | (go_simp; rfl)); intro g1 hg w3 hbox hb; have n0_ := Aside0.mk (below_step (by repeat (first | (with_reducible first | exact HB.out | apply below_alloc | apply pw_below_drewN | apply below_drew1) | exact HB.out)) hb); have n1_ := Aside0.mk hbox; have n2_ : Aside0 (w.heap.size ≤ g1) := ⟨by rw [hg]; exact below_size (by repeat (first | (with_reducible first | exact HB.out | apply below_alloc | apply pw_below_drewN | apply below_drew1) | exact HB.out))⟩; have BK1 := n1_; have GE1 := n2_; clear n1_ n2_; clear HB; have HB := n0_; clear hb hbox hg n0_) | ((with_reducible refine gate_dst (N := 6) rfl ?_); refine box_event ?hg (N := 6) ?hd (cs := #[.slice none 0 0, .int .i64 0]) (t := 54) ?hr ?_; (case hd => rfl); (case hg => rfl); (case hr => first | (go_simp; done) | (go_simp; rfl)); intro g2 hg w4 hbox hb; have n0_ := Aside0.mk (below_step (by repeat (first | (with_reducible first | exact HB.out | apply below_alloc | apply pw_below_drewN | apply below_drew1 | refine below_set ?_ GE1.out) | exact HB.out)) hb); have n1_ := Aside0.mk hbox; have n2_ : Aside0 (w.heap.size ≤ g2) := ⟨by rw [hg]; exact below_size (by repeat (first | (with_reducible first | exact HB.out | apply below_alloc | apply pw_below_drewN | apply below_drew1 | refine below_set ?_ GE1.out) | exact HB.out))⟩; have BK1b := Aside0.mk (blk_below (g := g1) (o := .cells #[.slice A L.length c, .int .i64 last] 54 (0, 0)) (by (with_reducible repeat (first | refine blk_drewN ?_ _ | refine blk_drew ?_ | refine blk_alloc ?_ _)); exact BK1.out) hb); have NE : Aside0 (g1 ≠ g2) := ⟨by rw [hg]; exact Nat.ne_of_lt (blk_lt (g := g1) (o := .cells #[.slice A L.length c, .int .i64 last] 54 (0, 0)) (by (with_reducible repeat (first | refine blk_drewN ?_ _ | refine blk_drew ?_ | refine blk_alloc ?_ _)); exact BK1.out))⟩; have BK2 := n1_; have GE2 := n2_; clear BK1 n1_ n2_; have BK1 := BK1b; clear BK1b; clear HB; have HB := n0_; clear hb hbox hg n0_) | fail)
  have hc0 : w4.cell? ⟨g1, 0, none⟩ = some (.slice A L.length c) := (blk_cell BK1.out 0).trans rfl
  have hc1 : w4.cell? ⟨g1, 1, none⟩ = some (.int .i64 last) := (blk_cell BK1.out 1).trans rfl
  have hs0 : w4.cell? ⟨g2, 0, none⟩ = some (.slice none 0 0) := (blk_cell BK2.out 0).trans rfl
  have hs1 : w4.cell? ⟨g2, 1, none⟩ = some (.int .i64 0) := (blk_cell BK2.out 1).trans rfl
  have hf1 := blk_frozen BK1.out 0
  have hf2 := blk_frozen BK1.out 1
  have ht0 := blk_frozen BK2.out 0
  have ht1 := blk_frozen BK2.out 1
  have hn1 := NE.out
  cases b1 with
  | true =>
    have HBe : Aside0 (Below w.heap.size w w4) := ⟨HB.out⟩
    go_wp2
    refine bodyPost_ret (results_ct rfl _ _ g2 54 #[.slice A L.length c, .int .i64 last] (0, 0) _ rfl (by (with_reducible repeat (first | refine blk_drewN ?_ _ | refine blk_drew ?_ | refine blk_alloc ?_ _)); refine blk_put (cs := #[.slice A L.length c, .int .i64 0]) ?_ 1 _ rfl; (with_reducible repeat (first | refine blk_drewN ?_ _ | refine blk_drew ?_ | refine blk_alloc ?_ _)); refine blk_put (cs := #[.slice none 0 0, .int .i64 0]) ?_ 0 _ rfl; (with_reducible repeat (first | refine blk_drewN ?_ _ | refine blk_drew ?_ | refine blk_alloc ?_ _)); exact BK2.out) Try.underlying54 rfl (by kernel_rfl)) rfl ?_
    exact ⟨_, rfl, ⟨A, c, rfl, Kd.C_below HC.out (by repeat (first | (with_reducible first | exact HB.out | apply below_alloc | apply pw_below_drewN | apply below_drew1 | refine below_set ?_ GE1.out | refine below_set ?_ GE2.out) | exact HB.out)), HCAP.out, fun ad h => .inl (HP.out ad h)⟩, by repeat (first | (with_reducible first | exact HB.out | apply below_alloc | apply pw_below_drewN | apply below_drew1 | refine below_set ?_ GE1.out | refine below_set ?_ GE2.out) | exact HB.out)⟩
  | false =>
    cases b2 with
    | true =>
      have HBe : Aside0 (Below w.heap.size w w4) := ⟨HB.out⟩
      go_wp2
      refine bodyPost_ret (results_ct rfl _ _ g2 54 #[.slice A L.length c, .int .i64 last] (0, 0) _ rfl (by (with_reducible repeat (first | refine blk_drewN ?_ _ | refine blk_drew ?_ | refine blk_alloc ?_ _)); refine blk_put (cs := #[.slice A L.length c, .int .i64 0]) ?_ 1 _ rfl; (with_reducible repeat (first | refine blk_drewN ?_ _ | refine blk_drew ?_ | refine blk_alloc ?_ _)); refine blk_put (cs := #[.slice none 0 0, .int .i64 0]) ?_ 0 _ rfl; (with_reducible repeat (first | refine blk_drewN ?_ _ | refine blk_drew ?_ | refine blk_alloc ?_ _)); exact BK2.out) Try.underlying54 rfl (by kernel_rfl)) rfl ?_
      exact ⟨_, rfl, ⟨A, c, rfl, Kd.C_below HC.out (by repeat (first | (with_reducible first | exact HB.out | apply below_alloc | apply pw_below_drewN | apply below_drew1 | refine below_set ?_ GE1.out | refine below_set ?_ GE2.out) | exact HB.out)), HCAP.out, fun ad h => .inl (HP.out ad h)⟩, by repeat (first | (with_reducible first | exact HB.out | apply below_alloc | apply pw_below_drewN | apply below_drew1 | refine below_set ?_ GE1.out | refine below_set ?_ GE2.out) | exact HB.out)⟩
    | false =>
      go_wp2_with fail
      refine (doormanref14_open.calls k A c L last key r _ (Kd.C_below HC.out HB.out) HCAP.out HO.out).mono ?_
      rintro e w5 ⟨rfl, hb5⟩
      have HB5 : Aside0 (Below w.heap.size w w5) := ⟨HB.out.trans (hb5.mono (HB.out.size))⟩
      have BK1' : Aside0 (w5.heap[g1]? = some (.cells #[.slice A L.length c, .int .i64 last] 54 (0, 0))) := ⟨blk_below BK1.out hb5⟩
      have BK2' : Aside0 (w5.heap[g2]? = some (.cells #[.slice none 0 0, .int .i64 0] 54 (0, 0))) := ⟨blk_below BK2.out hb5⟩
      clear HB BK1 BK2 hb5 hc0 hc1 hs0 hs1 hf1 hf2 ht0 ht1 hn1
      have HB := HB5
      have BK1 := BK1'
      have BK2 := BK2'
      clear HB5 BK1' BK2'
      have HSZ : Aside0 (w.heap.size ≤ w5.heap.size) := ⟨HB.out.size⟩
      have hc0 : w5.cell? ⟨g1, 0, none⟩ = some (.slice A L.length c) := (blk_cell BK1.out 0).trans rfl
      have hc1 : w5.cell? ⟨g1, 1, none⟩ = some (.int .i64 last) := (blk_cell BK1.out 1).trans rfl
      have hs0 : w5.cell? ⟨g2, 0, none⟩ = some (.slice none 0 0) := (blk_cell BK2.out 0).trans rfl
      have hs1 : w5.cell? ⟨g2, 1, none⟩ = some (.int .i64 0) := (blk_cell BK2.out 1).trans rfl
      have hf1 := blk_frozen BK1.out 0
      have hf2 := blk_frozen BK1.out 1
      have ht0 := blk_frozen BK2.out 0
      have ht1 := blk_frozen BK2.out 1
      have hn1 := NE.out
      cases b3 with
      | true =>
        have HBe : Aside0 (Below w.heap.size w w5) := ⟨HB.out⟩
        go_wp2
        refine bodyPost_ret (results_ct rfl _ _ g2 54 #[.slice A L.length c, .int .i64 last] (0, 0) _ rfl (by (with_reducible repeat (first | refine blk_drewN ?_ _ | refine blk_drew ?_ | refine blk_alloc ?_ _)); refine blk_put (cs := #[.slice A L.length c, .int .i64 0]) ?_ 1 _ rfl; (with_reducible repeat (first | refine blk_drewN ?_ _ | refine blk_drew ?_ | refine blk_alloc ?_ _)); refine blk_put (cs := #[.slice none 0 0, .int .i64 0]) ?_ 0 _ rfl; (with_reducible repeat (first | refine blk_drewN ?_ _ | refine blk_drew ?_ | refine blk_alloc ?_ _)); exact BK2.out) Try.underlying54 rfl (by kernel_rfl)) rfl ?_
        exact ⟨_, rfl, ⟨A, c, rfl, Kd.C_below HC.out (by repeat (first | (with_reducible first | exact HB.out | apply below_alloc | apply pw_below_drewN | apply below_drew1 | refine below_set ?_ GE1.out | refine below_set ?_ GE2.out) | exact HB.out)), HCAP.out, fun ad h => .inl (HP.out ad h)⟩, by repeat (first | (with_reducible first | exact HB.out | apply below_alloc | apply pw_below_drewN | apply below_drew1 | refine below_set ?_ GE1.out | refine below_set ?_ GE2.out) | exact HB.out)⟩
      | false =>
        go_upto_region 5 with (first | ((with_reducible refine gate_builtin (b := .append) (xs := #[.tmp 24, .tmp 26]) rfl ?_); at_builtin; go_must (refine Kd.R_append_rows k102 (w0 := w5) w5.heap.size rfl (.tmp 24) (.tmp 26) 52 102 (.agg #[.string ⟨#[]⟩, .int .i64 0, .int .i64 0]) 32 rfl Try.underlying52 Kx.info102 rfl (by decide) (by omega) (.slice none 0 0) ([] : List Xs) L A L.length c (fun _ => True) (fun _ => False) rfl rfl ?aO ?aR (x_KM (w := w5)) (fun _ h => h.elim) (fun _ _ => trivial) (Below.refl w5.heap.size w5) (Below.refl w5.heap.size w5).size ?aL ?_); (case aO => exact Kd.R_nil _ _ _ _ _); (case aR => exact Kd.C_below HC.out HB.out); (case aL => have := HL.out; simp; omega); intro x6 w6 ho hb hg hat; have HO6 := Aside0.mk ho; have HB6 := Aside0.mk hb; clear ho hb hg hat) | fail)
        go_upto_region 6 with (first | ((with_reducible refine gate_builtin (b := .append) (xs := #[.tmp 28, .tmp 32]) rfl ?_); at_builtin; go_must (refine Kd.R_append k102 (w0 := w5) w5.heap.size rfl (.tmp 28) (.tmp 32) 52 102 (.agg #[.string ⟨#[]⟩, .int .i64 0, .int .i64 0]) 32 rfl Try.underlying52 Kx.info102 rfl (by decide) (by omega) _ ([] ++ L) (⟨key, rev, 0⟩ : Xs) [.string key, .int .i64 rev, .int .i64 0] (fun _ => True) (fun _ => False) rfl rfl ?bP (fun _ hk => hk.elim) (fun _ _ => trivial) ?bO ?bB ?bS ?bL ?_); (case bP => exact k102_mkM _ _ _ (⟨key, rev, 0⟩ : Xs)); (case bO => exact HO6.out); (case bB => exact HB6.out); (case bS => exact HB6.out.size); (case bL => have := HL.out; simp; omega); intro x7 w7 ho hb hg hat; have HO7 := Aside0.mk ho; have HB7 := Aside0.mk hb; clear ho hb hg hat) | fail)
        obtain ⟨Ao, co, rfl⟩ := Kd.R_slice HO7.out
        have HR7 : Aside0 (([] ++ L ++ [(⟨key, rev, 0⟩ : Xs)]).length ≤ co ∧ Kd.C k102 w7 Ao (L ++ [(⟨key, rev, 0⟩ : Xs)]).length (L ++ [(⟨key, rev, 0⟩ : Xs)])) := ⟨(Kd.R_reads' HO7.out).2⟩
        obtain ⟨m, hm⟩ : ∃ m, ([] ++ L ++ [(⟨key, rev, 0⟩ : Xs)]).length = m := ⟨_, rfl⟩
        have HM := Aside0.mk hm
        rw [hm]
        clear hm
        have HBn : Aside0 (Below w.heap.size w w7) := ⟨HB.out.trans (HB7.out.mono HB.out.size)⟩
        have BK1n : Aside0 (w7.heap[g1]? = some (.cells #[.slice A L.length c, .int .i64 last] 54 (0, 0))) := ⟨blk_below BK1.out HB7.out⟩
        have BK2n : Aside0 (w7.heap[g2]? = some (.cells #[.slice none 0 0, .int .i64 0] 54 (0, 0))) := ⟨blk_below BK2.out HB7.out⟩
        clear HB BK1 BK2 hc0 hc1 hs0 hs1 hf1 hf2 ht0 ht1 hn1
        have HB := HBn
        have BK1 := BK1n
        have BK2 := BK2n
        clear HBn BK1n BK2n
        have hc0 : w7.cell? ⟨g1, 0, none⟩ = some (.slice A L.length c) := (blk_cell BK1.out 0).trans rfl
        have hc1 : w7.cell? ⟨g1, 1, none⟩ = some (.int .i64 last) := (blk_cell BK1.out 1).trans rfl
        have hs0 : w7.cell? ⟨g2, 0, none⟩ = some (.slice none 0 0) := (blk_cell BK2.out 0).trans rfl
        have hs1 : w7.cell? ⟨g2, 1, none⟩ = some (.int .i64 0) := (blk_cell BK2.out 1).trans rfl
        have hf1 := blk_frozen BK1.out 0
        have hf2 := blk_frozen BK1.out 1
        have ht0 := blk_frozen BK2.out 0
        have ht1 := blk_frozen BK2.out 1
        have hn1 := NE.out
        go_wp2
        refine bodyPost_ret (results_ct rfl _ _ g2 54 #[.slice Ao m co, .int .i64 rev] (0, 0) _ rfl (by (with_reducible repeat (first | refine blk_drewN ?_ _ | refine blk_drew ?_ | refine blk_alloc ?_ _)); refine blk_put (cs := #[.slice Ao m co, .int .i64 0]) ?_ 1 _ rfl; (with_reducible repeat (first | refine blk_drewN ?_ _ | refine blk_drew ?_ | refine blk_alloc ?_ _)); refine blk_put (cs := #[.slice none 0 0, .int .i64 0]) ?_ 0 _ rfl; (with_reducible repeat (first | refine blk_drewN ?_ _ | refine blk_drew ?_ | refine blk_alloc ?_ _)); exact BK2.out) Try.underlying54 rfl (by kernel_rfl)) rfl ?_
        exact ⟨_, rfl, ⟨Ao, co, by rw [← HM.out]; rfl, (Kd.R_reads' (by (with_reducible repeat (first | apply Kd.R_alloc | apply Kd.R_drewN | apply Kd.R_drew)); exact Kd.R_mono (Kd.R_far (p := ⟨g2, 1, none⟩) (Kd.R_far (p := ⟨g2, 0, none⟩) (Kd.R_types HO7.out BK2.out (by decide)) (fun _ hk => hk.2) _) (fun _ hk => hk.2) _) (fun _ hk => trivial) : k102.R 102 _ w5.heap.size (fun _ => True) _ (L ++ [(⟨key, rev, 0⟩ : Xs)]))).2.2, HR7.out.1, fun ad h => .inr ⟨Nat.le_trans HSZ.out (r_blk HO7.out ad (h.trans rfl)).1, (r_blk (by (with_reducible repeat (first | apply Kd.R_alloc | apply Kd.R_drewN | apply Kd.R_drew)); exact Kd.R_mono (Kd.R_far (p := ⟨g2, 1, none⟩) (Kd.R_far (p := ⟨g2, 0, none⟩) (Kd.R_types HO7.out BK2.out (by decide)) (fun _ hk => hk.2) _) (fun _ hk => hk.2) _) (fun _ hk => trivial) : k102.R 102 _ w5.heap.size (fun _ => True) (.slice Ao (L ++ [(⟨key, rev, 0⟩ : Xs)]).length co) (L ++ [(⟨key, rev, 0⟩ : Xs)])) ad h).2⟩⟩, by repeat (first | (with_reducible first | exact HB.out | apply below_alloc | apply pw_below_drewN | apply below_drew1 | refine below_set ?_ GE1.out | refine below_set ?_ GE2.out) | exact HB.out)⟩
set_option maxHeartbeats 16000000 in
set_option maxRecDepth 100000 in
theorem rdrop_c (k : Nat) (A : Option Addr) (c : Nat) (L : List Xs) (last : Int) (key : ByteArray) (rev : Int) (r : Int) (w : World) (hC : Kd.C k102 w A L.length L) (hcap : L.length ≤ c) (P : Nat → Prop) (hP : ∀ ad, A = some ad → P ad.block) (hL : L.length ≤ 1000000) (ho : doormanref14_open.f k L last key = some r) (hr : r < (L.length : Int)) :
    Calls Try.prog 29 #[.agg #[.slice A L.length c, .int .i64 last], .string key, .int .i64 rev] w fun e w' => ∃ v, e = .returned (.tuple #[v, .bool (!(decide (rev < last) || decide (r < 0) || decide (rev ≤ (rd_T102 L r).f1)))]) ∧
      (if (decide (rev < last) || decide (r < 0) || decide (rev ≤ (rd_T102 L r).f1)) then RS w' v L last (fun m => P m ∨ w.heap.size ≤ m ∧ m < w'.heap.size) else RS w' v (L.set r.toNat (⟨(rd_T102 L r).f0, (rd_T102 L r).f1, rev⟩ : Xs)) rev (fun m => P m ∨ w.heap.size ≤ m ∧ m < w'.heap.size)) ∧ Below w.heap.size w w' := by
  have HC := Aside0.mk hC
  have HCAP := Aside0.mk hcap
  have HL := Aside0.mk hL
  have HP := Aside0.mk hP
  have HO := Aside0.mk ho
  have HR := Aside0.mk hr
  clear hC hcap ho hL hr hP
  have HB := Aside0.mk (Below.refl w.heap.size w)
  go_enter Try.func29, Try.ntmps29
  obtain ⟨b1, h1⟩ : ∃ b, decide (rev < last) = b := ⟨_, rfl⟩
  obtain ⟨b2, h2⟩ : ∃ b, decide (r < 0) = b := ⟨_, rfl⟩
  obtain ⟨b3, h3⟩ : ∃ b, decide (rev ≤ (rd_T102 L r).f1) = b := ⟨_, rfl⟩
  rw [h1, h2, h3]
  go_upto_region 1 with (first | ((with_reducible refine gate_dst (N := 3) rfl ?_); refine box_event ?hg (N := 3) ?hd (cs := #[.slice A L.length c, .int .i64 last]) (t := 54) ?hr ?_; (case hd => rfl); (case hg => rfl); (case hr => first | (go_simp; done) | (go_simp; rfl)); intro g1 hg w3 hbox hb; have n0_ := Aside0.mk (below_step (by repeat (first | (with_reducible first | exact HB.out | apply below_alloc | apply pw_below_drewN | apply below_drew1) | exact HB.out)) hb); have n1_ := Aside0.mk hbox; have n2_ : Aside0 (w.heap.size ≤ g1) := ⟨by rw [hg]; exact below_size (by repeat (first | (with_reducible first | exact HB.out | apply below_alloc | apply pw_below_drewN | apply below_drew1) | exact HB.out))⟩; have BK1 := n1_; have GE1 := n2_; clear n1_ n2_; clear HB; have HB := n0_; clear hb hbox hg n0_) | ((with_reducible refine gate_dst (N := 6) rfl ?_); refine box_event ?hg (N := 6) ?hd (cs := #[.slice none 0 0, .int .i64 0]) (t := 54) ?hr ?_; (case hd => rfl); (case hg => rfl); (case hr => first | (go_simp; done) | (go_simp; rfl)); intro g2 hg w4 hbox hb; have n0_ := Aside0.mk (below_step (by repeat (first | (with_reducible first | exact HB.out | apply below_alloc | apply pw_below_drewN | apply below_drew1 | refine below_set ?_ GE1.out) | exact HB.out)) hb); have n1_ := Aside0.mk hbox; have n2_ : Aside0 (w.heap.size ≤ g2) := ⟨by rw [hg]; exact below_size (by repeat (first | (with_reducible first | exact HB.out | apply below_alloc | apply pw_below_drewN | apply below_drew1 | refine below_set ?_ GE1.out) | exact HB.out))⟩; have BK1b := Aside0.mk (blk_below (g := g1) (o := .cells #[.slice A L.length c, .int .i64 last] 54 (0, 0)) (by (with_reducible repeat (first | refine blk_drewN ?_ _ | refine blk_drew ?_ | refine blk_alloc ?_ _)); exact BK1.out) hb); have NE : Aside0 (g1 ≠ g2) := ⟨by rw [hg]; exact Nat.ne_of_lt (blk_lt (g := g1) (o := .cells #[.slice A L.length c, .int .i64 last] 54 (0, 0)) (by (with_reducible repeat (first | refine blk_drewN ?_ _ | refine blk_drew ?_ | refine blk_alloc ?_ _)); exact BK1.out))⟩; have BK2 := n1_; have GE2 := n2_; clear BK1 n1_ n2_; have BK1 := BK1b; clear BK1b; clear HB; have HB := n0_; clear hb hbox hg n0_) | fail)
  have hc0 : w4.cell? ⟨g1, 0, none⟩ = some (.slice A L.length c) := (blk_cell BK1.out 0).trans rfl
  have hc1 : w4.cell? ⟨g1, 1, none⟩ = some (.int .i64 last) := (blk_cell BK1.out 1).trans rfl
  have hs0 : w4.cell? ⟨g2, 0, none⟩ = some (.slice none 0 0) := (blk_cell BK2.out 0).trans rfl
  have hs1 : w4.cell? ⟨g2, 1, none⟩ = some (.int .i64 0) := (blk_cell BK2.out 1).trans rfl
  have hf1 := blk_frozen BK1.out 0
  have hf2 := blk_frozen BK1.out 1
  have ht0 := blk_frozen BK2.out 0
  have ht1 := blk_frozen BK2.out 1
  have hn1 := NE.out
  go_wp2_with fail
  refine (doormanref14_open.calls k A c L last key r _ (Kd.C_below HC.out HB.out) HCAP.out HO.out).mono ?_
  rintro e w5 ⟨rfl, hb5⟩
  have HB5 := Aside0.mk hb5
  clear hb5
  have HBn : Aside0 (Below w.heap.size w w5) := ⟨HB.out.trans (HB5.out.mono HB.out.size)⟩
  have BK1n : Aside0 (w5.heap[g1]? = some (.cells #[.slice A L.length c, .int .i64 last] 54 (0, 0))) := ⟨blk_below BK1.out HB5.out⟩
  have BK2n : Aside0 (w5.heap[g2]? = some (.cells #[.slice none 0 0, .int .i64 0] 54 (0, 0))) := ⟨blk_below BK2.out HB5.out⟩
  clear HB BK1 BK2 hc0 hc1 hs0 hs1 hf1 hf2 ht0 ht1 hn1
  have HB := HBn
  have BK1 := BK1n
  have BK2 := BK2n
  clear HBn BK1n BK2n
  have HSZ : Aside0 (w.heap.size ≤ w5.heap.size) := ⟨HB.out.size⟩
  have hc0 : w5.cell? ⟨g1, 0, none⟩ = some (.slice A L.length c) := (blk_cell BK1.out 0).trans rfl
  have hc1 : w5.cell? ⟨g1, 1, none⟩ = some (.int .i64 last) := (blk_cell BK1.out 1).trans rfl
  have hs0 : w5.cell? ⟨g2, 0, none⟩ = some (.slice none 0 0) := (blk_cell BK2.out 0).trans rfl
  have hs1 : w5.cell? ⟨g2, 1, none⟩ = some (.int .i64 0) := (blk_cell BK2.out 1).trans rfl
  have hf1 := blk_frozen BK1.out 0
  have hf2 := blk_frozen BK1.out 1
  have ht0 := blk_frozen BK2.out 0
  have ht1 := blk_frozen BK2.out 1
  have hn1 := NE.out
  cases b1 with
  | true =>
    have HBe : Aside0 (Below w.heap.size w w5) := ⟨HB.out⟩
    go_wp2
    refine bodyPost_ret (results_ct rfl _ _ g2 54 #[.slice A L.length c, .int .i64 last] (0, 0) _ rfl (by (with_reducible repeat (first | refine blk_drewN ?_ _ | refine blk_drew ?_ | refine blk_alloc ?_ _)); refine blk_put (cs := #[.slice A L.length c, .int .i64 0]) ?_ 1 _ rfl; (with_reducible repeat (first | refine blk_drewN ?_ _ | refine blk_drew ?_ | refine blk_alloc ?_ _)); refine blk_put (cs := #[.slice none 0 0, .int .i64 0]) ?_ 0 _ rfl; (with_reducible repeat (first | refine blk_drewN ?_ _ | refine blk_drew ?_ | refine blk_alloc ?_ _)); exact BK2.out) Try.underlying54 rfl (by kernel_rfl)) rfl ?_
    exact ⟨_, rfl, ⟨A, c, rfl, Kd.C_below HC.out (by repeat (first | (with_reducible first | exact HB.out | apply below_alloc | apply pw_below_drewN | apply below_drew1 | refine below_set ?_ GE1.out | refine below_set ?_ GE2.out) | exact HB.out)), HCAP.out, fun ad h => .inl (HP.out ad h)⟩, by repeat (first | (with_reducible first | exact HB.out | apply below_alloc | apply pw_below_drewN | apply below_drew1 | refine below_set ?_ GE1.out | refine below_set ?_ GE2.out) | exact HB.out)⟩
  | false =>
    cases b2 with
    | true =>
      have HBe : Aside0 (Below w.heap.size w w5) := ⟨HB.out⟩
      go_wp2
      refine bodyPost_ret (results_ct rfl _ _ g2 54 #[.slice A L.length c, .int .i64 last] (0, 0) _ rfl (by (with_reducible repeat (first | refine blk_drewN ?_ _ | refine blk_drew ?_ | refine blk_alloc ?_ _)); refine blk_put (cs := #[.slice A L.length c, .int .i64 0]) ?_ 1 _ rfl; (with_reducible repeat (first | refine blk_drewN ?_ _ | refine blk_drew ?_ | refine blk_alloc ?_ _)); refine blk_put (cs := #[.slice none 0 0, .int .i64 0]) ?_ 0 _ rfl; (with_reducible repeat (first | refine blk_drewN ?_ _ | refine blk_drew ?_ | refine blk_alloc ?_ _)); exact BK2.out) Try.underlying54 rfl (by kernel_rfl)) rfl ?_
      exact ⟨_, rfl, ⟨A, c, rfl, Kd.C_below HC.out (by repeat (first | (with_reducible first | exact HB.out | apply below_alloc | apply pw_below_drewN | apply below_drew1 | refine below_set ?_ GE1.out | refine below_set ?_ GE2.out) | exact HB.out)), HCAP.out, fun ad h => .inl (HP.out ad h)⟩, by repeat (first | (with_reducible first | exact HB.out | apply below_alloc | apply pw_below_drewN | apply below_drew1 | refine below_set ?_ GE1.out | refine below_set ?_ GE2.out) | exact HB.out)⟩
    | false =>
      have h0r : 0 ≤ r := by have := of_decide_eq_false h2; omega
      have H0R := Aside0.mk h0r
      obtain ⟨ad, had, x0, x1, x2⟩ := at_T102 HC.out r h0r HR.out
      obtain rfl := had
      replace x0 := (HB.out.cell (World.block_lt_of_cell? w _ x0)).trans x0
      replace x1 := (HB.out.cell (World.block_lt_of_cell? w _ x1)).trans x1
      replace x2 := (HB.out.cell (World.block_lt_of_cell? w _ x2)).trans x2
      have HX := Aside0.mk (And.intro x0 (And.intro x1 x2))
      have p0 : (0 ≤ r) = True := eq_true h0r
      have p1 : decide (0 ≤ r) = true := decide_eq_true h0r
      have p2 : (r < (L.length : Int)) = True := eq_true HR.out
      have p3 : decide (r < (L.length : Int)) = true := decide_eq_true HR.out
      clear h0r
      cases b3 with
      | true =>
        have HBe : Aside0 (Below w.heap.size w w5) := ⟨HB.out⟩
        go_wp2
        refine bodyPost_ret (results_ct rfl _ _ g2 54 #[.slice (some ad) L.length c, .int .i64 last] (0, 0) _ rfl (by (with_reducible repeat (first | refine blk_drewN ?_ _ | refine blk_drew ?_ | refine blk_alloc ?_ _)); refine blk_put (cs := #[.slice (some ad) L.length c, .int .i64 0]) ?_ 1 _ rfl; (with_reducible repeat (first | refine blk_drewN ?_ _ | refine blk_drew ?_ | refine blk_alloc ?_ _)); refine blk_put (cs := #[.slice none 0 0, .int .i64 0]) ?_ 0 _ rfl; (with_reducible repeat (first | refine blk_drewN ?_ _ | refine blk_drew ?_ | refine blk_alloc ?_ _)); exact BK2.out) Try.underlying54 rfl (by kernel_rfl)) rfl ?_
        exact ⟨_, rfl, ⟨some ad, c, rfl, Kd.C_below HC.out (by repeat (first | (with_reducible first | exact HB.out | apply below_alloc | apply pw_below_drewN | apply below_drew1 | refine below_set ?_ GE1.out | refine below_set ?_ GE2.out) | exact HB.out)), HCAP.out, fun ad h => .inl (HP.out ad h)⟩, by repeat (first | (with_reducible first | exact HB.out | apply below_alloc | apply pw_below_drewN | apply below_drew1 | refine below_set ?_ GE1.out | refine below_set ?_ GE2.out) | exact HB.out)⟩
      | false =>
        go_upto_region 6 with (first | ((with_reducible refine gate_builtin (b := .append) (xs := #[.tmp 32, .tmp 34]) rfl ?_); at_builtin; go_must (refine Kd.R_append_rows k102 (w0 := w5) w5.heap.size rfl (.tmp 32) (.tmp 34) 52 102 (.agg #[.string ⟨#[]⟩, .int .i64 0, .int .i64 0]) 32 rfl Try.underlying52 Kx.info102 rfl (by decide) (by omega) (.slice none 0 0) ([] : List Xs) L (some ad) L.length c (fun _ => True) (fun _ => False) rfl rfl ?aO ?aR (x_KM (w := w5)) (fun _ h => h.elim) (fun _ _ => trivial) (Below.refl w5.heap.size w5) (Below.refl w5.heap.size w5).size ?aL ?_); (case aO => exact Kd.R_nil _ _ _ _ _); (case aR => exact Kd.C_below HC.out HB.out); (case aL => have := HL.out; simp; omega); intro x6 w6 ho hb hg hat; have HO6 := Aside0.mk ho; have HB6 := Aside0.mk hb; clear ho hb hg hat) | fail)
        have HO6b : Aside0 (k102.R 102 w6 w5.heap.size (fun _ => True) x6 L) := ⟨by simpa using HO6.out⟩
        clear HO6
        have HO6c := HO6b
        clear HO6b
        obtain ⟨g, cp, rfl, hbg, hg, cells, hcells⟩ := Kd.R_form HO6c.out (by have := HR.out; have := H0R.out; omega)
        have HO6 := HO6c
        clear HO6c hbg hg hcells cells
        obtain ⟨ad6, had6, y0, y1, y2⟩ := at_T102 (Kd.R_reads' HO6.out).2.2 r H0R.out HR.out
        injection had6 with had6
        subst had6
        have HCC : Aside0 (∀ j u, [Value.string (rd_T102 L r).f0, .int .i64 (rd_T102 L r).f1, .int .i64 (rd_T102 L r).f2][j]? = some u → w6.cell? ⟨g, r.toNat * 3 + j, none⟩ = some u) := ⟨by
          intro j u hu
          have e0 : (⟨g, 0, none⟩ : Addr).add (r.toNat * 3) = ⟨g, r.toNat * 3, none⟩ := by simp [Addr.add] <;> omega
          rw [e0] at y0 y1 y2
          match j, hu with
          | 0, hu => injection hu with hu; subst hu; exact y0
          | 1, hu => injection hu with hu; subst hu; exact y1
          | 2, hu => injection hu with hu; subst hu; exact y2⟩
        clear y0 y1 y2
        go_upto_region 7 with (first | ((with_reducible refine gate_ (.store 3 (.tmp 40) (.tmp 38)) rfl ?_); go_must (refine Kd.R_store k102 (w0 := w5) w5.heap.size rfl rfl 3 (.tmp 40) (.tmp 38) rfl 102 (g := g) (o' := r.toNat * 3 + 2) r 2 L (⟨(rd_T102 L r).f0, (rd_T102 L r).f1, rev⟩ : Xs) (.int .i64 rev) [.int .i64 rev] [.string (rd_T102 L r).f0, .int .i64 (rd_T102 L r).f1, .int .i64 (rd_T102 L r).f2] (fun _ => True) (fun _ => False) ?sA rfl rfl rfl (by kernel_rfl) ?sO HO6.out H0R.out HR.out rfl HCC.out (Nat.le_refl 3) ?sM (fun _ hk => hk.elim) HB6.out ?_); (case sA => first | rfl | simp [Addr.add]); (case sO => intro u hu; obtain rfl := List.mem_singleton.1 hu; rfl); (case sM => exact k102_mkM _ _ _ (⟨(rd_T102 L r).f0, (rd_T102 L r).f1, rev⟩ : Xs)); intro w7 ho hb hg; have HO7 := Aside0.mk ho; have HB7 := Aside0.mk hb; clear ho hb hg) | fail)
        have HR7 : Aside0 (L.length ≤ cp ∧ k102.C w7 (some ⟨g, 0, none⟩) (L.set r.toNat (⟨(rd_T102 L r).f0, (rd_T102 L r).f1, rev⟩ : Xs)).length (L.set r.toNat (⟨(rd_T102 L r).f0, (rd_T102 L r).f1, rev⟩ : Xs))) := ⟨(Kd.R_reads' HO7.out).2⟩
        have HM : Aside0 ((L.set r.toNat (⟨(rd_T102 L r).f0, (rd_T102 L r).f1, rev⟩ : Xs)).length = L.length) := ⟨List.length_set⟩
        have HBn : Aside0 (Below w.heap.size w w7) := ⟨HB.out.trans (HB7.out.mono HB.out.size)⟩
        have BK1n : Aside0 (w7.heap[g1]? = some (.cells #[.slice (some ad) L.length c, .int .i64 last] 54 (0, 0))) := ⟨blk_below BK1.out HB7.out⟩
        have BK2n : Aside0 (w7.heap[g2]? = some (.cells #[.slice none 0 0, .int .i64 0] 54 (0, 0))) := ⟨blk_below BK2.out HB7.out⟩
        clear HB BK1 BK2 hc0 hc1 hs0 hs1 hf1 hf2 ht0 ht1 hn1
        have HB := HBn
        have BK1 := BK1n
        have BK2 := BK2n
        clear HBn BK1n BK2n
        have hc0 : w7.cell? ⟨g1, 0, none⟩ = some (.slice (some ad) L.length c) := (blk_cell BK1.out 0).trans rfl
        have hc1 : w7.cell? ⟨g1, 1, none⟩ = some (.int .i64 last) := (blk_cell BK1.out 1).trans rfl
        have hs0 : w7.cell? ⟨g2, 0, none⟩ = some (.slice none 0 0) := (blk_cell BK2.out 0).trans rfl
        have hs1 : w7.cell? ⟨g2, 1, none⟩ = some (.int .i64 0) := (blk_cell BK2.out 1).trans rfl
        have hf1 := blk_frozen BK1.out 0
        have hf2 := blk_frozen BK1.out 1
        have ht0 := blk_frozen BK2.out 0
        have ht1 := blk_frozen BK2.out 1
        have hn1 := NE.out
        go_wp2
        refine bodyPost_ret (results_ct rfl _ _ g2 54 #[.slice (some ⟨g, 0, none⟩) L.length cp, .int .i64 rev] (0, 0) _ rfl (by (with_reducible repeat (first | refine blk_drewN ?_ _ | refine blk_drew ?_ | refine blk_alloc ?_ _)); refine blk_put (cs := #[.slice (some ⟨g, 0, none⟩) L.length cp, .int .i64 0]) ?_ 1 _ rfl; (with_reducible repeat (first | refine blk_drewN ?_ _ | refine blk_drew ?_ | refine blk_alloc ?_ _)); refine blk_put (cs := #[.slice none 0 0, .int .i64 0]) ?_ 0 _ rfl; (with_reducible repeat (first | refine blk_drewN ?_ _ | refine blk_drew ?_ | refine blk_alloc ?_ _)); exact BK2.out) Try.underlying54 rfl (by kernel_rfl)) rfl ?_
        exact ⟨_, rfl, ⟨some ⟨g, 0, none⟩, cp, by rw [HM.out], (Kd.R_reads' (by (with_reducible repeat (first | apply Kd.R_alloc | apply Kd.R_drewN | apply Kd.R_drew)); exact Kd.R_mono (Kd.R_far (p := ⟨g2, 1, none⟩) (Kd.R_far (p := ⟨g2, 0, none⟩) (Kd.R_types HO7.out BK2.out (by decide)) (fun _ hk => hk.2) _) (fun _ hk => hk.2) _) (fun _ hk => trivial) : k102.R 102 _ w5.heap.size (fun _ => True) _ (L.set r.toNat (⟨(rd_T102 L r).f0, (rd_T102 L r).f1, rev⟩ : Xs)))).2.2, by rw [HM.out]; exact HR7.out.1, fun ad h => .inr ⟨Nat.le_trans HSZ.out (r_blk HO7.out ad h).1, (r_blk (by (with_reducible repeat (first | apply Kd.R_alloc | apply Kd.R_drewN | apply Kd.R_drew)); exact Kd.R_mono (Kd.R_far (p := ⟨g2, 1, none⟩) (Kd.R_far (p := ⟨g2, 0, none⟩) (Kd.R_types HO7.out BK2.out (by decide)) (fun _ hk => hk.2) _) (fun _ hk => hk.2) _) (fun _ hk => trivial) : k102.R 102 _ w5.heap.size (fun _ => True) (.slice (some ⟨g, 0, none⟩) L.length cp) (L.set r.toNat (⟨(rd_T102 L r).f0, (rd_T102 L r).f1, rev⟩ : Xs))) ad h).2⟩⟩, by repeat (first | (with_reducible first | exact HB.out | apply below_alloc | apply pw_below_drewN | apply below_drew1 | refine below_set ?_ GE1.out | refine below_set ?_ GE2.out) | exact HB.out)⟩
end Go.Proofs.Ythpcplpannbipaa.Nr
