/- Spans on the heap: each and Count walked; no condition. -/
import Derived.RangeFuncNested
import Derived.RangeFuncBound
import Derived.RangeFuncCalls
import Derived.RangeFuncLeaves
import Derived.Shelf.Abstract
import Derived.WalkKit
import Derived.OwnWalkIn
import Derived.TacticsInMore
import Derived.LoopNIn
import Derived.LoopIn
import Derived.Test.YthpcplpannbipaaSf
set_option linter.unusedVariables false
set_option linter.unusedSimpArgs false
set_option linter.unusedSectionVars false
namespace Go.Proofs.Ythpcplpannbipaa.Sa
open Go.RowKit Go.Shelf Go.Maps Go.MapKept Go.Proofs.YthpcplpannbipaaW.PrintWords Go.Proofs.YthpcplpannbipaaW.PrintLast Go.Proofs.Ythpcplpannbipaa.X Go.Proofs.Ythpcplpannbipaa.Kx Go.Proofs.Ythpcplpannbipaa.Mp Go.Proofs.Ythpcplpannbipaa.Mq Go.Proofs.Ythpcplpannbipaa.Sq Go.Proofs.Ythpcplpannbipaa.Mb Go.Proofs.Ythpcplpannbipaa.Maps
attribute [local go_sem] Oper.semAt_some
def encYs (x : ByteArray × Sp) : Array Value := #[.string x.1, .agg #[.int .i64 x.2.1, .int .i64 x.2.2]]
theorem flat_take (g : List (ByteArray × List Sp)) (i : Nat) (k : ByteArray) (l : List Sp) (h : g[i]? = some (k, l)) : flat (g.take (i + 1)) = flat (g.take i) ++ l.map fun x => (k, x) := by
  rw [List.take_add_one, h]
  unfold flat
  rw [List.flatMap_append]
  simp
theorem map_take {k : ByteArray} {l : List Sp} {j : Nat} {x : Sp} (h : l[j]? = some x) : ((l.take (j + 1)).map fun y => (k, y)) = ((l.take j).map fun y => (k, y)) ++ [(k, x)] := by
  rw [List.take_add_one, h, List.map_append]; rfl
theorem flat_pre (g : List (ByteArray × List Sp)) (i j : Nat) (k : ByteArray) (l : List Sp) (h : g[i]? = some (k, l)) : flat (g.take i) ++ ((l.take j).map fun y => (k, y)) <+: flat g := by
  have h1 : flat g = flat (g.take (i + 1)) ++ flat (g.drop (i + 1)) := by unfold flat; rw [← List.flatMap_append, List.take_append_drop]
  rw [h1, flat_take g i k l h]
  refine ⟨((l.drop j).map fun y => (k, y)) ++ flat (g.drop (i + 1)), ?_⟩
  rw [List.append_assoc, List.append_assoc, ← List.append_assoc (List.map _ _), ← List.map_append, List.take_append_drop]
/-- What a round keeps: what lay below n₀, and the iterator's own box. -/
def Kb (n₀ B : Nat) (A C : World) : Prop := Below n₀ A C ∧ C.heap[B]? = A.heap[B]?
theorem kb_t {n₀ B : Nat} {A C D : World} (h : Kb n₀ B A C) (k : Kb n₀ B C D) : Kb n₀ B A D := ⟨h.1.trans k.1, k.2.trans h.2⟩
theorem wrap_nat (k : Nat) (h : k ≤ 1000000) : wrap64 ((k : Int) + 1) = ((k + 1 : Nat) : Int) := by unfold wrap64; omega
set_option maxRecDepth 100000 in
set_option maxHeartbeats 8000000 in
theorem each1_in (F : Fence) (n : Nat) (h80 : F.fn 80) (hro : F.round = none) (hn : 1 ≤ n) (l B n₀ b m : Nat) {ok : Nat → Prop} {ks : Value} {L : Ent} {s : St ByteArray} (J Jx : List (ByteArray × Sp) → World → Prop)
    (hY : ∀ pre x W, J pre W → pre.length < (flat s.g).length → YieldAt F (n - 1) Try.prog l (encYs x) W fun e W' =>
      (e = .returned (.bool true) ∧ J (pre ++ [x]) W' ∧ Kb n₀ B W W') ∨ (e = .returned (.bool false) ∧ Jx (pre ++ [x]) W'))
    (W : World) (hJ : AbidesFrom W.heap.size J) (hBn : B < W.heap.size) (hn0 : n₀ ≤ W.heap.size)
    (hB : W.cell? ⟨B, 0, none⟩ = some (.pointer (some ⟨b, 0, none⟩))) (hA : At W (fun k => ok k ∧ k < n₀) b m ks L s) (hI : Inv blt s) (hkeys : (keysG s.g).length ≤ 1000000) (hbig : ∀ k, (get s.g k).length ≤ 1000000) (h0 : J [] W) :
    CallsIn F n Try.prog 80 #[.func (.yield l) #[] #[], .pointer (some ⟨B, 0, none⟩)] W fun e W' => (∃ v, e = .returned v) ∧
      ((∃ ys, ys = flat s.g ∧ J ys W') ∨ (∃ pre, pre <+: flat s.g ∧ Jx pre W')) := by
  obtain ⟨A, c, rfl⟩ := Kd.R_slice hA.hk
  have c0 := blk_cell hA.hb 0
  have c1 := blk_cell hA.hb 1
  have HA := Aside0.mk hA
  have HI := Aside0.mk hI
  have HB := Aside0.mk hB
  have HJ := Aside0.mk hJ
  have HY := Aside0.mk hY
  have HKEYS := Aside0.mk hkeys
  have HBIG := Aside0.mk hbig
  have HN0 := Aside0.mk (And.intro hBn hn0)
  obtain ⟨nk, hnk⟩ : ∃ nk, (keysG s.g).length = nk := ⟨_, rfl⟩
  have HNK := Aside0.mk hnk
  rw [hnk] at c1
  clear hA hI hJ hY hkeys hbig hBn hn0 hnk
  refine callsIn_of_wp Try.func80 rfl h80 ?_ hro
  simp only [Try.ntmps80, List.size_toArray, List.length_cons, List.length_nil, Nat.reduceAdd, Nat.reduceSub, Array.replicate_succ, Array.replicate_zero, List.push_toArray, List.append_toArray, List.nil_append, List.cons_append]
  gi_wp2
  gi_loopw [14] (fun v wr => ∃ i : Nat, v = .int .i64 i ∧ Aside0 (i ≤ nk) ∧ J (flat (s.g.take i)) wr ∧ Aside0 (Kb n₀ B W wr)) (fun v _ => nk - (intOf v).toNat)
  case atStart => exact ⟨0, rfl, ⟨Nat.zero_le _⟩, h0, ⟨Below.refl _ _, rfl⟩⟩
  case round =>
    obtain ⟨i, rfl, HI', hJs, HBW⟩ := hrel
    by_cases hlt : i < nk
    · have hltz : (i : Int) < (nk : Int) := by omega
      have hil : i < s.g.length := by have := HNK.out; unfold keysG at this; rw [List.length_map] at this; omega
      obtain ⟨⟨k, l⟩, hkl⟩ : ∃ p, s.g[i] = p := ⟨_, rfl⟩
      have hg : s.g[i]? = some (k, l) := by rw [List.getElem?_eq_getElem hil, hkl]
      have hgl : get s.g k = l := get_mem HI.out.srt blt_TO (by rw [← hkl]; exact List.getElem_mem _)
      have hAw := HA.out.move (w' := wr) (fun n' h1 _ => HBW.out.1.block n' h1.2)
      obtain ⟨G, hG⟩ : ∃ g, A = some ⟨g, 0, none⟩ := by
        obtain ⟨inner, hown⟩ := Kd.R_own hAw.hk
        rcases hown.2 with ⟨_, h0⟩ | ⟨g, cap, cur, hv, _⟩
        · have := HNK.out; omega
        · injection hv with h1; exact ⟨g, h1⟩
      subst hG
      have hcellk : wr.cell? ⟨G, i, none⟩ = some (.string k) := by
        have h1 := (Kd.R_cell (⟨#[]⟩ : ByteArray) hAw.hk (i : Int) (by omega) (by rw [HNK.out]; omega)).1
        unfold rdOf at h1
        rw [Int.toNat_natCast, List.getD_eq_getElem?_getD, List.getElem?_eq_getElem (by rw [HNK.out]; exact hlt), Option.getD_some] at h1
        simp only [keysG, List.getElem_map, hkl] at h1
        exact h1
      have hBw : wr.cell? ⟨B, 0, none⟩ = some (.pointer (some ⟨b, 0, none⟩)) := by
        rw [← HB.out]
        unfold World.cell?
        rw [HBW.out.2]
      have c0w := blk_cell hAw.hb 0
      obtain ⟨v, hv⟩ : ∃ v, lookL L k nil_ = v := ⟨_, rfl⟩
      have hz : ∀ w, (zeroValue 97).run Try.prog w = .ok nil_ w := Try.zeroValue97
      have hlk := run_look (P := Try.prog) hAw.hm Try.underlying90 Try.underlying9 k hz
      have hrk := HA.out.hr k
      have hok := HA.out.okr k
      rw [hv] at hlk hrk hok
      rw [hgl] at hrk
      obtain ⟨Av, cv, rfl⟩ := Kd.R_slice hrk
      rw [List.length_map] at hlk hrk hok
      obtain ⟨ln, hln⟩ : ∃ n, l.length = n := ⟨_, rfl⟩
      have hlb := HBIG.out k
      rw [hgl, hln] at hlb
      have HLN := Aside0.mk hln
      have HRK := Aside0.mk hrk
      have HOK := Aside0.mk hok
      have HG := Aside0.mk hg
      have HLB := Aside0.mk hlb
      have HHB := Aside0.mk hBw
      have HLT := Aside0.mk hlt
      rw [hln] at hlk
      clear hil hkl hg hgl hAw hv hz hrk hok hln hlb
      gi_wp2
      gi_loopw [25] (fun v wr2 => ∃ j : Nat, v = .int .i64 j ∧ Aside0 (j ≤ ln) ∧ J (flat (s.g.take i) ++ ((l.take j).map fun y => (k, y))) wr2 ∧ Aside0 (Kb n₀ B W wr2)) (fun v _ => ln - (intOf v).toNat)
      case atStart => exact ⟨0, rfl, ⟨Nat.zero_le _⟩, by simpa using hJs, HBW⟩
      case round =>
        obtain ⟨j, rfl, HJ', hJ2, HB2⟩ := hrel
        rename World => wr2
        by_cases hjl : j < ln
        · have hjz : (j : Int) < (ln : Int) := by omega
          have hjll : j < l.length := by have := HLN.out; omega
          have HRW : Aside0 (RowOf wr2 (.slice Av l.length cv) l) := ⟨Kd.R_step HRK.out (fun n' h1 _ => HB2.out.1.block n' (HOK.out n' h1).2)⟩
          obtain ⟨-, gv, rfl, hgv, hcs⟩ := row_cells HRW.out (by intro e; rw [e] at hjll; simp at hjll)
          obtain ⟨x, hx⟩ : ∃ x, l[j] = x := ⟨_, rfl⟩
          have hx2 : l[j]! = x := by rw [getElem!_pos l j hjll, hx]
          have hxl : l[j]? = some x := by rw [List.getElem?_eq_getElem hjll, hx]
          have r0 := hcs j hjll 0 (.int .i64 x.1) (by rw [hx2]; rfl)
          have r1 := hcs j hjll 1 (.int .i64 x.2) (by rw [hx2]; rfl)
          rw [Nat.zero_add] at r0 r1
          rw [Nat.add_zero] at r0
          have hlen : (flat (s.g.take i) ++ ((l.take j).map fun y => (k, y))).length < (flat s.g).length := by
            have h1 := (flat_pre s.g i (j + 1) k l HG.out).length_le
            rw [map_take hxl] at h1
            simp only [List.length_append, List.length_cons, List.length_nil] at h1 ⊢
            omega
          have hJ3 : J (flat (s.g.take i) ++ ((l.take j).map fun y => (k, y))) (wr2.alloc (.cells #[.int .i64 x.1, .int .i64 x.2] 99)) := HJ.out _ _ _ none hJ2 (World.grownBy_alloc _ _ _) (fun r e => by cases e)
          obtain ⟨fn, tmps, assign, body, hy, hR⟩ := HY.out _ (k, x) _ hJ3 hlen
          dsimp only [encYs] at hy
          have HXL := Aside0.mk hxl
          have HBA : Aside0 (Kb n₀ B W (wr2.alloc (.cells #[.int .i64 x.1, .int .i64 x.2] 99))) := ⟨HB2.out.1.trans ((below_alloc (Below.refl _ _) _).mono (by have := HB2.out.1.size; have := HN0.out.2; omega)), ((below_alloc (Below.refl _ wr2) _).block B (by have := HB2.out.1.size; have := HN0.out.1; omega)).trans HB2.out.2⟩
          clear hjll hcs hx hx2 hxl hlen hJ3 hgv
          gi_wp2
          refine hR.mono ?_
          rintro e W3 (⟨rfl, hJ4, hk3⟩ | ⟨rfl, hJx3⟩)
          · gi_wp2
            go_roundw
            case rel => exact ⟨j + 1, by have := HLB.out; rw [wrap_nat j (by omega)], ⟨by omega⟩, by rw [map_take HXL.out, ← List.append_assoc]; exact hJ4, ⟨kb_t HBA.out hk3⟩⟩
            case measure => have := HLB.out; rw [wrap_nat j (by omega)]; simp [intOf]; omega
          · gi_wp2
            refine bodyPost_ret (results_none rfl _ _ _) rfl ?_
            exact ⟨⟨_, rfl⟩, .inr ⟨_, by
              have := flat_pre s.g i (j + 1) k l HG.out
              rw [map_take HXL.out, ← List.append_assoc] at this
              exact this, hJx3⟩⟩
        · obtain rfl : j = ln := by have := HJ'.out; omega
          have htk : l.take j = l := List.take_of_length_le (by rw [HLN.out]; exact Nat.le_refl _)
          have hJ5 : J (flat (s.g.take (i + 1))) wr2 := by
            rw [htk] at hJ2
            rw [flat_take s.g i k l HG.out]
            exact hJ2
          clear htk
          gi_wp2
          go_roundw
          case rel => exact ⟨i + 1, by have := HKEYS.out; have := HNK.out; rw [wrap_nat i (by omega)], ⟨by have := HLT.out; omega⟩, hJ5, HB2⟩
          case measure => have := HKEYS.out; have := HNK.out; rw [wrap_nat i (by omega)]; simp [intOf]; omega
    · obtain rfl : i = nk := by have := HI'.out; omega
      have hall : flat (s.g.take i) = flat s.g := by rw [List.take_of_length_le (by have := HNK.out; unfold keysG at this; rw [List.length_map] at this; omega)]
      rw [hall] at hJs
      clear hall
      gi_wp2
      go_end0
      exact ⟨⟨_, rfl⟩, .inl ⟨_, rfl, hJs⟩⟩
/-- The iterator gives all spans, with their keys, in order. -/
theorem each_stops (F : Fence) (n : Nat) (h80 : F.fn 80) (hro : F.round = none) (hn : 1 ≤ n) (B n₀ b m : Nat) {ok : Nat → Prop} {ks : Value} {L : Ent} {s : St ByteArray} (w : World) (hBn : B < w.heap.size) (hn0 : n₀ ≤ w.heap.size)
    (hB : w.cell? ⟨B, 0, none⟩ = some (.pointer (some ⟨b, 0, none⟩))) (hA : At w (fun k => ok k ∧ k < n₀) b m ks L s) (hI : Inv blt s) (hkeys : (keysG s.g).length ≤ 1000000) (hbig : ∀ k, (get s.g k).length ≤ 1000000) :
    SeqStopsK F n Try.prog 80 #[.pointer (some ⟨B, 0, none⟩)] encYs (Kb n₀ B) (fun ys => ys = flat s.g) (fun pre => pre <+: flat s.g) (flat s.g).length w := fun l J Jx W hW hJ _ hY h0 =>
  each1_in F n h80 hro hn l B n₀ b m J Jx hY W hJ (Nat.lt_of_lt_of_le hBn hW.size) (Nat.le_trans hn0 hW.size) ((hW.cell (p := ⟨B, 0, none⟩) hBn).trans hB) (hA.move (fun n' h1 _ => hW.block n' (Nat.lt_of_lt_of_le h1.2 hn0))) hI hkeys hbig h0
set_option maxHeartbeats 1000000 in
theorem each_in (F : Fence) (n : Nat) (h64 : F.fn 64) (hro : F.round = none) (p : Option Addr) (w : World) :
    CallsIn F n Try.prog 64 #[.pointer p] w fun e w' => e = .returned (.func (.func 80) #[] #[.pointer (some ⟨w.heap.size, 0, none⟩)]) ∧ w' = w.alloc (.cells #[.pointer p] 50) := by
  refine callsIn_of_wp Try.func64 rfl h64 ?_ hro
  simp only [Try.ntmps64, List.size_toArray, List.length_cons, List.length_nil, Nat.reduceAdd, Nat.reduceSub, Array.replicate_succ, Array.replicate_zero, List.push_toArray, List.append_toArray, List.nil_append, List.cons_append]
  gi_wp2
  go_ret
  exact ⟨rfl, rfl⟩
theorem kb_b {n₀ B : Nat} {w : World} (hn : n₀ ≤ w.heap.size) (hB : B < w.heap.size) (W : World) (l : Nat) (o o' : Obj) (hl : w.heap.size ≤ l) (h : W.heap[l]? = some o) (h1 : o.isCells = false) (h2 : o.isWalk = false) : Kb n₀ B W (W.putObj l o') :=
  ⟨belowK_b hn W l o o' hl h h1 h2, World.putObj_heap_other (by omega)⟩
set_option maxRecDepth 100000 in
set_option maxHeartbeats 4000000 in
/-- The nil pointer has none. -/
theorem each_nil (F : Fence) (n : Nat) (h80 : F.fn 80) (hro : F.round = none) (hn : 1 ≤ n) (B n₀ : Nat) (w : World) (hBn : B < w.heap.size)
    (hB : w.cell? ⟨B, 0, none⟩ = some (.pointer none)) :
    SeqStopsK F n Try.prog 80 #[.pointer (some ⟨B, 0, none⟩)] encYs (Kb n₀ B) (fun ys => ys = []) (fun pre => pre <+: []) 0 w := fun l J Jx W hW hJ _ hY h0 => by
  have hB' := (hW.cell (p := ⟨B, 0, none⟩) hBn).trans hB
  refine callsIn_of_wp Try.func80 rfl h80 ?_ hro
  simp only [Try.ntmps80, List.size_toArray, List.length_cons, List.length_nil, Nat.reduceAdd, Nat.reduceSub, Array.replicate_succ, Array.replicate_zero, List.push_toArray, List.append_toArray, List.nil_append, List.cons_append]
  gi_wp2
  refine bodyPost_ret (results_none rfl _ _ _) rfl ?_
  exact ⟨⟨_, rfl⟩, .inl ⟨[], rfl, h0⟩⟩
end Go.Proofs.Ythpcplpannbipaa.Sa
namespace Go.Proofs.Ythpcplpannbipaa.Sa
open Go.RowKit Go.Shelf Go.Maps Go.MapKept Go.Proofs.YthpcplpannbipaaW.PrintWords Go.Proofs.YthpcplpannbipaaW.PrintLast Go.Proofs.Ythpcplpannbipaa.X Go.Proofs.Ythpcplpannbipaa.Kx Go.Proofs.Ythpcplpannbipaa.Mp Go.Proofs.Ythpcplpannbipaa.Mq Go.Proofs.Ythpcplpannbipaa.Sq Go.Proofs.Ythpcplpannbipaa.Mb Go.Proofs.Ythpcplpannbipaa.Maps
attribute [local go_sem] Oper.semAt_some
/-- What a receiver's iterator gives. -/
def Gives (w : World) (p : Option Addr) (ys : List (ByteArray × Sp)) : Prop :=
  ∀ (n B : Nat) (w1 : World), 1 ≤ n → Below w.heap.size w w1 → B < w1.heap.size → w1.cell? ⟨B, 0, none⟩ = some (.pointer p) →
    SeqStopsK Fence.wide n Try.prog 80 #[.pointer (some ⟨B, 0, none⟩)] encYs (Kb w.heap.size B) (fun zs => zs = ys) (fun pre => pre <+: ys) ys.length w1
theorem gives_nil (w : World) : Gives w none [] := fun n B w1 hn hb hB hc => each_nil Fence.wide n trivial rfl hn B _ w1 hB hc
theorem gives_at {w : World} {ok : Nat → Prop} {b : Nat} {s : St ByteArray} (h : SpAt w ok b s) (hkeys : (keysG s.g).length ≤ 1000000) (hbig : ∀ k, (get s.g k).length ≤ 1000000) : Gives w (some ⟨b, 0, none⟩) (flat s.g) := fun n B w1 hn hb hB hc => by
  obtain ⟨m, ks, L, h1, h2⟩ := h
  have h3 : At w (fun k => ok k ∧ k < w.heap.size) b m ks L s := ⟨h1.hb, h1.hm, h1.hk, h1.hr, h1.sep, h1.mem, ⟨h1.okb, blk_lt h1.hb⟩, ⟨h1.okm, h1.hm.lt⟩, fun n hn => ⟨h1.okk n hn, (key_ty h1.hk hn).1⟩, fun k n hn => ⟨h1.okr k n hn, (row_ty (h1.hr k) hn).1⟩⟩
  exact each_stops Fence.wide n trivial rfl hn B w.heap.size b m w1 hB hb.size hc (h3.move (fun n' _ hlt => hb.block n' hlt)) h2 hkeys hbig
theorem ownFrom_size {β : Type} (B k : Nat) : OwnFrom B (fun (_ : β) W => k ≤ W.heap.size) := fun _ _ _ _ hs hg _ => Nat.le_trans hs hg.size
theorem keeps_below {W W' : World} (h : Below W.heap.size W W') : KeepsOthers W W' := ⟨h.size, fun k o hk _ => (h.block k (Array.getElem?_eq_some_iff.1 hk).1).trans hk⟩
set_option maxRecDepth 100000 in
set_option maxHeartbeats 8000000 in
theorem Count_g {w : World} {p : Option Addr} {ys : List (ByteArray × Sp)} (hG : Gives w p ys) (hlen : ys.length ≤ 1000000) (rev : Int) :
    Calls Try.prog 36 #[.pointer p, .int .i64 rev] w fun e w' => e = .returned (.int .i64 ((ys.countP fun q => holds rev q.2 : Nat) : Int)) ∧ Below w.heap.size w w' := by
  refine (callsIn_wide (n := 6)).1 ?_
  have hro : Fence.wide.round = none := rfl
  have h1 : 1 ≤ 6 := by omega
  refine callsIn_of_wp_marks Try.func36 rfl trivial ?_ hro
  simp only [Try.ntmps36, List.size_toArray, List.length_cons, List.length_nil, Nat.reduceAdd, Nat.reduceSub, Array.replicate_succ, Array.replicate_zero, List.push_toArray, List.append_toArray, List.nil_append, List.cons_append]
  gi_wp2
  refine ⟨trivial, ?_⟩
  refine (each_in Fence.wide 5 trivial hro _ _).mono ?_
  rintro e w' ⟨rfl, rfl⟩
  gi_wp2
  have bR := ((Boxed.new w 3 (.int .i64 rev)).alloc (.cells #[.int .i64 0] 3)).alloc (.cells #[.pointer p] 50)
  have bN := (Boxed.new (w.alloc (.cells #[.int .i64 rev] 3)) 3 (.int .i64 0)).alloc (.cells #[.pointer p] 50)
  have bE := Boxed.new ((w.alloc (.cells #[.int .i64 rev] 3)).alloc (.cells #[.int .i64 0] 3)) 50 (.pointer p)
  simp only [World.size_alloc] at bN bE
  have hB0 : Below w.heap.size w (((w.alloc (.cells #[.int .i64 rev] 3)).alloc (.cells #[.int .i64 0] 3)).alloc (.cells #[.pointer p] 50)) := (((Below.refl _ w).alloc (Nat.le_refl _) _).alloc (by simp) _).alloc (by simp; omega) _
  have hsz : (((w.alloc (.cells #[.int .i64 rev] 3)).alloc (.cells #[.int .i64 0] 3)).alloc (.cells #[.pointer p] 50)).heap.size = w.heap.size + 3 := by simp
  have hone : (w.alloc (.cells #[.int .i64 rev] 3)).heap.size = w.heap.size + 1 := by simp
  have htwo : ((w.alloc (.cells #[.int .i64 rev] 3)).alloc (.cells #[.int .i64 0] 3)).heap.size = w.heap.size + 2 := by simp
  obtain ⟨W0, hW0⟩ : ∃ W0, ((w.alloc (.cells #[.int .i64 rev] 3)).alloc (.cells #[.int .i64 0] 3)).alloc (.cells #[.pointer p] 50) = W0 := ⟨_, rfl⟩
  rw [hW0] at bR bN bE hB0 hsz ⊢
  clear hW0 hone htwo
  refine wpIn_rangeFunc_ownH hro h1 (gf := 80) (lb := #[.pointer (some ⟨w.heap.size + 1 + 1, 0, none⟩)]) rfl trivial (enters_of Try.func80 (by kernel_rfl) rfl)
    (hG (6 - 1) (w.heap.size + 1 + 1) W0 (by omega) hB0 (by omega) bE.cell) kb_t (kb_b (by omega) (by omega)) (Below.refl _ _) (fun _ => rfl)
    (fun pre W => (Boxed W (w.heap.size + 1) 3 (.int .i64 ((pre.countP fun q => holds rev q.2 : Nat) : Int)) ∧ Boxed W w.heap.size 3 (.int .i64 rev)) ∧ (Below w.heap.size w W ∧ w.heap.size + 3 ≤ W.heap.size))
    (fun _ _ _ => False)
    (OwnFrom.and (OwnFrom.and (Own.from (boxed_own _ _ _) _) (Own.from (boxed_own _ _ (fun _ => Value.int .i64 rev)) _)) (OwnFrom.and (ownFrom_below (Nat.le_refl _) (by omega)) (ownFrom_size _ _)))
    (fun _ _ _ _ _ hs _ _ => hs)
    ⟨⟨bN, bR⟩, hB0, by omega⟩
    (fun x a' W => ∃ Bx, w.heap.size + 1 < Bx ∧ W.heap[Bx]? = some (.cells #[.int .i64 x.2.1, .int .i64 x.2.2] 99 (0, 0)) ∧ a' = { tmps := #[.pointer p, .int .i64 rev, undef, .pointer (some ⟨w.heap.size, 0, none⟩), .int .i64 0, .pointer (some ⟨w.heap.size + 1, 0, none⟩), undef, .pointer (some ⟨Bx, 0, none⟩), .pointer p, .func (.func 80) #[] #[.pointer (some ⟨w.heap.size + 1 + 1, 0, none⟩)], .string x.1, .agg #[.int .i64 x.2.1, .int .i64 x.2.2], undef, undef, undef, undef, undef, undef], defers := [] })
    (fun x a' _ X Y row hs hg hr => by
      obtain ⟨Bx, h1, h2, h3⟩ := hs
      exact ⟨Bx, h1, (hg.block Bx (blk_lt h2) (fun e => by obtain ⟨_, o, ho, hc⟩ := hr Bx e.symm; rw [h2] at ho; cases ho; cases hc)).trans h2, h3⟩)
    ?assign ?body ?done ?stop
  case assign =>
    rintro l pre x W K ⟨⟨bN1, bR1⟩, hB1, hS1⟩ hK
    unfold encYs
    gi_wp2
    have hnew := (Go.MapKept.heap_alloc W (.cells #[.int .i64 x.2.1, .int .i64 x.2.2] 99)).1
    refine hK _ _ ((KeepsOthers.alloc _ _).from _) ⟨(Below.refl _ W).alloc hB1.size _, (below_alloc (Below.refl _ W) _).block _ (by omega)⟩ ⟨⟨bN1.alloc _, bR1.alloc _⟩, hB1.alloc hB1.size _, by simp; omega⟩ ⟨W.heap.size, bN1.lt, hnew, rfl⟩
  case body =>
    rintro l pre x a' W hl ⟨r, hr⟩ ⟨⟨bN1, bR1⟩, hB1, hS1⟩ ⟨Bx, hBx, bX, rfl⟩ hlt
    have cR := bR1.cell
    have x0 := blk_cell bX 0
    have x1 := blk_cell bX 1
    gi_wp2
    refine ⟨trivial, ?_⟩
    refine (CallsIn.inRound l (callsIn_wide.2 (has1_c (mk x.2) rev W))).mono ?_
    rintro e w2 ⟨rfl, hb⟩
    have hhx : hld rev (mk x.2) = holds rev x.2 := rfl
    rw [hhx]
    have bN2 : Boxed w2 (w.heap.size + 1) 3 (.int .i64 ((pre.countP fun q => holds rev q.2 : Nat) : Int)) := (hb.block _ bN1.lt).trans bN1
    have bR2 : Boxed w2 w.heap.size 3 (.int .i64 rev) := (hb.block _ bR1.lt).trans bR1
    have hKo := (keeps_below hb).from W0.heap.size
    have hBW : Below w.heap.size W w2 := hb.mono hB1.size
    have hEb : w2.heap[w.heap.size + 1 + 1]? = W.heap[w.heap.size + 1 + 1]? := hb.block _ (by omega)
    have hS2 : w.heap.size + 3 ≤ w2.heap.size := by have := hb.size; omega
    have cN := bN2.cell
    have fN := bN2.frozen
    have hcp : (pre ++ [x]).countP (fun q => holds rev q.2) = pre.countP (fun q => holds rev q.2) + if holds rev x.2 = true then 1 else 0 := by
      rw [List.countP_append, List.countP_cons, List.countP_nil, Nat.zero_add]
    have hle : pre.countP (fun q => holds rev q.2) ≤ 1000000 := by have := List.countP_le_length (p := fun q : ByteArray × Sp => holds rev q.2) (l := pre); omega
    obtain ⟨cn, hcn⟩ : ∃ cn, pre.countP (fun q => holds rev q.2) = cn := ⟨_, rfl⟩
    rw [hcn] at cN hcp hle bN2
    have hx := hcp
    clear hcp hhx
    obtain ⟨r2, hr2⟩ : ∃ r2, holds rev x.2 = r2 := ⟨_, rfl⟩
    rw [hr2] at hx ⊢
    have HX := Aside0.mk hx
    have HLE := Aside0.mk hle
    clear hx hle hr2 hcn
    cases r2 with
    | true =>
      gi_wp2
      refine ⟨hKo.trans ((KeepsOthers.setCell _ _ _).from _), ⟨hBW.setCell (p := ⟨w.heap.size + 1, 0, none⟩) (by simp) _, (Below.heap_setCell w2 ⟨w.heap.size + 1, 0, none⟩ _ _ (by simp)).trans hEb⟩, ⟨?_, bR2.other (by omega) _⟩, (hB1.trans hBW).setCell (p := ⟨w.heap.size + 1, 0, none⟩) (by simp) _, by simpa using hS2⟩
      rw [HX.out, wrap_nat cn HLE.out]
      exact bN2.set _
    | false =>
      gi_wp2
      refine ⟨hKo, ⟨hBW, hEb⟩, ⟨?_, bR2⟩, hB1.trans hBW, hS2⟩
      rw [HX.out]
      exact bN2
  case done =>
    rintro D zs W hD rfl ⟨⟨bN1, bR1⟩, hB1, hS1⟩ hK
    have cN := bN1.cell
    gi_wp2
    refine ⟨by simp, .inl ⟨_, _, rfl, run_takeDeferred hK, ?_⟩⟩
    exact ⟨_, results_tmp rfl _ _ _, rfl, hB1.trans (belowK_b (w := w) (Nat.le_refl _) W D _ _ (by omega) hK rfl rfl)⟩
  case stop =>
    rintro D c pre W _ _ h _
    exact h.elim
theorem Count_c {w : World} {ok : Nat → Prop} {b : Nat} {s : St ByteArray} (h : SpAt w ok b s) (hkeys : (keysG s.g).length ≤ 1000000) (hbig : ∀ k, (get s.g k).length ≤ 1000000) (hlen : (flat s.g).length ≤ 1000000) (rev : Int) :
    Calls Try.prog 36 #[.pointer (some ⟨b, 0, none⟩), .int .i64 rev] w fun e w' => e = .returned (.int .i64 (countS s rev : Int)) ∧ Below w.heap.size w w' :=
  Count_g (gives_at h hkeys hbig) hlen rev
end Go.Proofs.Ythpcplpannbipaa.Sa
