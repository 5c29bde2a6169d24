/- Spans on the heap: keys collected, DeleteFunc, and what a round of Trim leaves; no condition. -/
import Derived.Test.YthpcplpannbipaaSf
import Derived.Maps.Own
import Derived.Sort.KeysCollected
import Derived.Shelf.SlIter.Keys
import Derived.Lib.OwnBridge
import Derived.Test.YthpcplpannbipaaSi
set_option linter.unusedVariables false
set_option linter.unusedSimpArgs false
set_option linter.unusedSectionVars false
namespace Go.Proofs.Ythpcplpannbipaa.Sa
open Go.RowKit Go.Maps Go.MapKept Go.Proofs.YthpcplpannbipaaW.PrintWords Go.Proofs.YthpcplpannbipaaW.PrintLast Go.Proofs.Ythpcplpannbipaa.X Go.Proofs.Ythpcplpannbipaa.Kx Go.Proofs.Ythpcplpannbipaa.Mp Go.Proofs.Ythpcplpannbipaa.Mq Go.Proofs.Ythpcplpannbipaa.Sq Go.Proofs.Ythpcplpannbipaa.Mb Go.Proofs.Ythpcplpannbipaa.Maps
def bytesOf : Value → List UInt8
  | .string s => s.data.toList
  | _ => []
abbrev anyR : Value → Option (DataW Unit × List MemPlace) := fun _ => some (.nil, [])
set_option maxRecDepth 100000 in
theorem own_map {w : World} {m : Nat} {L : Ent} (h : MapSt w m L) (hk : ∀ p ∈ L, p.1.size ≤ maxLen) (hn : L.length ≤ maxLen) :
    ∃ D : DataW Unit, w.ownsMap Try.prog 9 anyR m L.length D ∧ (strKeys D).Perm (L.map fun p => p.1.data.toList) ∧ Go.Maps.size D = L.length := by
  obtain ⟨es, c, h1, h2, h3⟩ := h
  have hlen : es.size = L.length := by have := congrArg List.length h2; simpa using this
  have hrd : ∀ x ∈ es.toList, Go.WideElems.rd Try.prog 9 anyR x = some (.string (bytesOf x.key), .nil) := fun x hx => by
    have h4 : (x.key, x.val) ∈ L.map (fun p => (sk p.1, p.2)) := by rw [← h2]; exact List.mem_map.2 ⟨x, hx, rfl⟩
    obtain ⟨p, hp, e⟩ := List.mem_map.1 h4
    have e1 : x.key = .string p.1 := (Prod.mk.inj e).1.symm
    have hky : keyOf Try.prog 9 x.key = some (.string (bytesOf x.key)) := by
      rw [e1]
      simp [keyOf, Try.underlying9, mapKey, hk p hp, bytesOf]
    simp [Go.WideElems.rd, hky, anyR]
  refine ⟨_, ⟨es, c, h1, ⟨by rw [hlen]; exact hn, h3, fun x hx => ⟨_, hrd x hx⟩⟩, Nat.le_of_eq hlen, rfl⟩, ?_, ?_⟩
  · have hp := (Go.WideShapes.sorted_perm (es.toList.map (Go.WideElems.rg Try.prog 9 anyR))).map (fun p => strOf p.1)
    refine hp.trans (List.Perm.of_eq ?_)
    clear hp
    have e1 : (es.toList.map (Go.WideElems.rg Try.prog 9 anyR)).map (fun p => strOf p.1) = (es.toList.map (fun x => (x.key, x.val))).map (fun q => bytesOf q.1) := by
      rw [List.map_map, List.map_map]
      refine List.map_congr_left (fun x hx => ?_)
      show strOf (Go.WideElems.rg _ _ _ x).1 = bytesOf x.key
      rw [Go.WideElems.rg_of (hrd x hx)]
      rfl
    refine e1.trans ?_
    have e2 := congrArg (List.map fun q : Value × Value => bytesOf q.1) h2
    refine e2.trans ?_
    rw [List.map_map]
    exact List.map_congr_left (fun p _ => rfl)
  · show (((es.toList.map (Go.WideElems.rg Try.prog 9 anyR))).foldr DataW.insert []).length = _
    rw [(Go.WideShapes.sorted_perm _).length_eq, List.length_map, Array.length_toList, hlen]
theorem keys_c (m : Nat) (w : World) : Calls Try.prog 56 #[.map (some m)] w fun e w' => e = .returned (.func (.func 77) #[] #[.pointer (some ⟨w.heap.size, 0, none⟩)]) ∧ w' = w.alloc (.cells #[.map (some m)] 90) :=
  callsIn_wide.1 (AnyZ.keys_in Ythpcplpannbipaa.Sg.keys56 Fence.wide 1 trivial rfl (some m) w)
/-- The keys as a row of its own. -/
theorem collect_c {w : World} {m B : Nat} {L : Ent} (h : MapSt w m L) (hk : ∀ p ∈ L, p.1.size ≤ maxLen) (hn : L.length ≤ 1000000) (hB : w.cell? ⟨B, 0, none⟩ = some (.map (some m))) (hBl : B < w.heap.size) :
    Calls Try.prog 55 #[.func (.func 77) #[] #[.pointer (some ⟨B, 0, none⟩)]] w fun e w' =>
      ∃ (v : Value) (ss : List ByteArray), e = .returned v ∧ ss.Perm (L.map (·.1)) ∧ Kd.string.R 9 w' w.heap.size (fun k => v.ownBlock = some k) v ss ∧ Below w.heap.size w w' := by
  obtain ⟨D, hD, hp, hs⟩ := own_map h hk (by have : (1000000 : Nat) ≤ maxLen := by decide
                                             omega)
  have hg := AnyZ.keys_gives (L := { Ythpcplpannbipaa.Sg.keys56 with }) Fence.wide 1 trivial rfl (Nat.le_refl _) B m L.length D w hBl hB hD
  have hm : (1000000 : Nat) ≤ maxLen := by decide
  have := AnyZ.collect_in Ythpcplpannbipaa.Sg.collect55 Fence.wide 3 trivial trivial rfl (Nat.le_refl _) 77 #[.pointer (some ⟨B, 0, none⟩)] trivial (enters_of Try.func77 (by kernel_rfl) rfl) _ (Go.Maps.size D) (by omega) (by omega) w hg
  refine (callsIn_wide.1 this).mono ?_
  rintro e w' ⟨v, ss, rfl, hS, hrow, hnil, hb⟩
  have hperm := hS.trans hp
  refine ⟨v, ss.map (fun l => ⟨l.toArray⟩), rfl, ?_, ?_, hb⟩
  · have := hperm.map (fun l : List UInt8 => (⟨l.toArray⟩ : ByteArray))
    rw [List.map_map] at this
    exact this.trans (List.Perm.of_eq (List.map_congr_left (fun p _ => rfl)))
  · refine Kd.R_of_own ?_ (fun k hk => hk)
    unfold encs
    rw [List.length_map, List.map_map]
    exact hrow
end Go.Proofs.Ythpcplpannbipaa.Sa
namespace Go.Proofs.Ythpcplpannbipaa.Sa
open Go.RowKit Go.Maps Go.MapKept Go.Proofs.YthpcplpannbipaaW.PrintWords Go.Proofs.YthpcplpannbipaaW.PrintLast Go.Proofs.Ythpcplpannbipaa.X Go.Proofs.Ythpcplpannbipaa.Kx Go.Proofs.Ythpcplpannbipaa.Mp Go.Proofs.Ythpcplpannbipaa.Mq Go.Proofs.Ythpcplpannbipaa.Sq Go.Proofs.Ythpcplpannbipaa.Mb Go.Proofs.Ythpcplpannbipaa.Maps
set_option maxHeartbeats 2000000 in
theorem gone_c (x : Sp) (rev : Int) (B : Nat) (w : World) (hB : w.cell? ⟨B, 0, none⟩ = some (.int .i64 rev)) : Calls Try.prog 54 #[.agg (encS x).toArray, .pointer (some ⟨B, 0, none⟩)] w fun e w' => e = .returned (.bool (gone rev x)) ∧ Below w.heap.size w w' := by
  obtain ⟨f, t⟩ := x
  show Calls _ _ #[.agg #[.int .i64 f, .int .i64 t], .pointer (some ⟨B, 0, none⟩)] _ _
  have HB : Aside0 (Below w.heap.size w (w.alloc (.cells #[.int .i64 f, .int .i64 t] 99))) := ⟨below_alloc (Below.refl _ _) _⟩
  have hlt : B < w.heap.size := World.block_lt_of_cell? _ _ hB
  have hB2 : (w.alloc (.cells #[.int .i64 f, .int .i64 t] 99)).cell? ⟨B, 0, none⟩ = some (.int .i64 rev) := (World.cell?_alloc_lt _ _ _ hlt).trans hB
  clear hlt hB
  unfold gone
  dsimp only
  by_cases h1 : t = 0
  · subst h1
    have HH : Aside0 (((decide ((0 : Int) ≠ 0)) && decide ((0 : Int) ≤ rev)) = false) := ⟨by simp⟩
    go_enter Try.func54, Try.ntmps54
    go_wp2
    go_ret
    exact ⟨by rw [HH.out]; rfl, HB.out⟩
  · have b1 : decide (t = 0) = false := decide_eq_false h1
    have b2 : (t == 0) = false := beq_eq_false_iff_ne.mpr h1
    have b3 : (t = 0) = False := eq_false h1
    have b4 : (t != 0) = true := bne_iff_ne.mpr h1
    have HH : Aside0 ((decide (t ≠ 0) && decide (t ≤ rev)) = decide (t ≤ rev)) := ⟨by rw [decide_eq_true h1, Bool.true_and]⟩
    obtain ⟨r, hr⟩ : ∃ r, decide (t ≤ rev) = r := ⟨_, rfl⟩
    clear h1
    rw [HH.out, hr]
    clear HH
    go_enter Try.func54, Try.ntmps54
    go_wp2
    go_ret
    exact ⟨rfl, HB.out⟩
theorem zero2 (n : Nat) : (Builtin.zeroCells #[.int .i64 0, .int .i64 0] n).toList = List.replicate (n * 2) (.int .i64 0) := by
  refine List.ext_getElem (by simp [Builtin.zeroCells]) (fun i h1 h2 => ?_)
  simp only [Builtin.zeroCells, List.getElem_replicate]
  simp
  rcases Nat.mod_two_eq_zero_or_one i with h | h <;> simp [h]
theorem run_clear2 (w : World) (ty : TypeId) (b o n c : Nat) (hn : 0 < n) (hc : ∀ j, j < n * 2 → (w.cell? ⟨b, o + j, none⟩).isSome = true) (hf : ∀ j, j < n * 2 → w.frozen? ⟨b, o + j, none⟩ = false) :
    (Builtin.clear_ #[97] ty #[.slice (some ⟨b, o, none⟩) n c]).run Try.prog w = .ok (.tuple #[]) (w.setCells b o (List.replicate (n * 2) (.int .i64 0))) := by
  have hst := run_storeCells_cells (P := Try.prog) b o (List.replicate (n * 2) (.int .i64 0)) 0 w (by simpa using hc) (by simpa using hf) (by intro v hv'; rw [List.eq_of_mem_replicate hv']; rfl)
  simp only [Nat.add_zero] at hst
  obtain ⟨m, rfl⟩ : ∃ m, n = m + 1 := ⟨n - 1, by omega⟩
  have hz := Try.zeroValue99
  have h2 := zero2 (m + 1)
  simp [Builtin.clear_, run_underlying Try.underlying97, hz, Value.cells, h2, hst]
theorem row_store {w : World} {g n c : Nat} {l : List Sp} (h : RowOf w (.slice (some ⟨g, 0, none⟩) n c) l) (i : Nat) (hi : i < n) (x : Sp) :
    RowOf (w.setCells g (i * 2) (encS x)) (.slice (some ⟨g, 0, none⟩) n c) (l.set i x) := by
  obtain ⟨cc, hcl, _, hcc, _⟩ := Kd.R_elem h (mk (0, 0)) (i : Int) (by omega) (by omega)
  have := (Kd.R_seg (okp := fun _ => False) (j := 0) (seg := encS x) (x' := mk x) h (i : Int) (by omega) (by omega) hcl hcc (Nat.le_refl _) (by
    have : cc.drop (0 + (encS x).length) = [] := List.drop_eq_nil_of_le (by rw [hcl]; exact Nat.le_refl _)
    rw [this]
    exact k99_mkM _ _ _ (mk x)) (fun _ h => h.elim)).1
  unfold RowOf
  rw [List.map_set]
  exact this
theorem row_full {w : World} {g n c : Nat} {l : List Sp} (h : RowOf w (.slice (some ⟨g, 0, none⟩) n c) l) : ∃ cells, w.heap[g]? = some (.cells cells 99 (0, 0)) ∧ cells.size = c * 2 := by
  rw [row_iff] at h
  obtain ⟨hl, h2⟩ := h
  rcases h2 with ⟨h0, _⟩ | ⟨g', cap, cur, hv, hb, hg, hn, hc, hs, ht⟩
  · injection h0 with h0; exact absurd h0 (by simp)
  · injection hv with e1 e2 e3
    injection e1 with e1
    injection e1 with e1
    subst e1
    subst e3
    exact ⟨cur, hg, hs⟩
theorem row_clear {w : World} {g n c : Nat} {l : List Sp} (h : RowOf w (.slice (some ⟨g, 0, none⟩) n c) l) (i : Nat) (hi : i ≤ n) :
    RowOf (w.setCells g (i * 2) (List.replicate ((n - i) * 2) (.int .i64 0))) (.slice (some ⟨g, 0, none⟩) i c) (l.take i) := by
  rw [row_iff] at h ⊢
  obtain ⟨hl, h2⟩ := h
  rcases h2 with ⟨h0, _⟩ | ⟨g', cap, cur, hv, hb, hg, hn, hc, hs, ht⟩
  · injection h0 with h0; exact absurd h0 (by simp)
  · injection hv with e1 e2 e3
    injection e1 with e1
    injection e1 with e1
    subst e1
    subst e3
    obtain ⟨cur', h3, h4, h5⟩ := setCells_row (List.replicate ((n - i) * 2) (.int .i64 0)) (i * 2) w cur hg (by rw [List.length_replicate, hs]; omega)
    have hti : (l.take i).length = i := by rw [List.length_take]; omega
    refine ⟨flat_len _, .inr ⟨g, c, cur', by rw [hti], Nat.zero_le _, h3, by rw [hti]; omega, hc, by rw [h4]; exact hs, ?_⟩⟩
    rw [hti, h5, List.append_assoc, List.take_append_of_le_length (by rw [List.length_take, Array.length_toList]; omega), List.take_take, Nat.min_self]
    have h6 : cur.toList.take (i * 2) = (cur.toList.take (l.length * 2)).take (i * 2) := by rw [List.take_take, Nat.min_eq_left (by omega)]
    rw [h6, ht]
    have h7 : l.flatMap encS = (l.take i).flatMap encS ++ (l.drop i).flatMap encS := by rw [← List.flatMap_append, List.take_append_drop]
    rw [h7, List.take_append_of_le_length (by rw [flat_len, hti]; exact Nat.le_refl _), List.take_of_length_le (by rw [flat_len, hti]; exact Nat.le_refl _)]
theorem wrap_succ (k : Nat) (h : k ≤ 1000000) : wrap64 ((k : Int) + 1) = ((k + 1 : Nat) : Int) := by unfold wrap64; omega
/-- What the loop of DeleteFunc keeps: i places are laid, j are looked at. -/
structure DelI (kp : Sp → Bool) (l : List Sp) (i j : Nat) (dk : List Sp) : Prop where
  len : dk.length = l.length
  lt : i < j
  le : j ≤ l.length
  low : dk.take i = (l.take j).filter kp
  high : dk.drop j = l.drop j
theorem DelI.start {kp : Sp → Bool} {l : List Sp} {k : Nat} (hk : k < l.length) (h1 : ∀ j, j < k → kp l[j]! = true) (h2 : kp l[k]! = false) : DelI kp l k (k + 1) l where
  len := rfl
  lt := Nat.lt_succ_self _
  le := hk
  low := by
    rw [List.take_succ_eq_append_getElem hk, List.filter_append]
    have : l[k]! = l[k] := getElem!_pos l k hk
    rw [this] at h2
    rw [List.filter_cons, if_neg (by rw [h2]; decide), List.filter_nil, List.append_nil]
    refine (List.filter_eq_self.2 (fun x hx => ?_)).symm
    obtain ⟨j, hj, rfl⟩ := List.mem_iff_getElem.1 hx
    rw [List.length_take] at hj
    have := h1 j (by omega)
    rw [getElem!_pos l j (by omega)] at this
    rw [List.getElem_take]
    exact this
  high := rfl
theorem DelI.get {kp : Sp → Bool} {l dk : List Sp} {i j : Nat} (h : DelI kp l i j dk) (hj : j < l.length) : dk[j]! = l[j]! := by
  rw [getElem!_pos dk j (by rw [h.len]; exact hj), getElem!_pos l j hj]
  have h1 := congrArg (fun x => x[0]?) h.high
  simp only [List.getElem?_drop, Nat.add_zero] at h1
  rw [List.getElem?_eq_getElem (by rw [h.len]; exact hj), List.getElem?_eq_getElem hj] at h1
  exact Option.some.inj h1
theorem DelI.keep {kp : Sp → Bool} {l dk : List Sp} {i j : Nat} (h : DelI kp l i j dk) (hj : j < l.length) (hk : kp l[j]! = true) : DelI kp l (i + 1) (j + 1) (dk.set i l[j]!) where
  len := by rw [List.length_set]; exact h.len
  lt := by have := h.lt; omega
  le := hj
  low := by
    have hi := h.lt
    have hl := h.len
    rw [List.take_succ_eq_append_getElem (by rw [List.length_set]; omega), List.take_set_of_le (Nat.le_refl _), h.low, List.getElem_set_self, List.take_succ_eq_append_getElem hj, List.filter_append, getElem!_pos l j hj]
    rw [getElem!_pos l j hj] at hk
    rw [List.filter_cons, if_pos hk, List.filter_nil]
  high := by
    have hi := h.lt
    rw [List.drop_set_of_lt (by omega)]
    have := congrArg (List.drop 1) h.high
    rwa [List.drop_drop, List.drop_drop] at this
theorem DelI.skip {kp : Sp → Bool} {l dk : List Sp} {i j : Nat} (h : DelI kp l i j dk) (hj : j < l.length) (hk : kp l[j]! = false) : DelI kp l i (j + 1) dk where
  len := h.len
  lt := by have := h.lt; omega
  le := hj
  low := by
    rw [getElem!_pos l j hj] at hk
    rw [List.take_succ_eq_append_getElem hj, List.filter_append, List.filter_cons, if_neg (by rw [hk]; decide), List.filter_nil, List.append_nil]
    exact h.low
  high := by
    have := congrArg (List.drop 1) h.high
    rwa [List.drop_drop, List.drop_drop] at this
set_option maxHeartbeats 8000000 in
set_option maxRecDepth 100000 in
/-- DeleteFunc at a row of spans. -/
theorem delspan_c {w : World} {v : Value} {l : List Sp} (h : RowOf w v l) (hne : l ≠ []) (hbig : l.length ≤ 1000000) (rev : Int) (B : Nat) (hB : w.cell? ⟨B, 0, none⟩ = some (.int .i64 rev)) (hBo : v.ownBlock ≠ some B) :
    Calls Try.prog 57 #[v, .func (.func 54) #[] #[.pointer (some ⟨B, 0, none⟩)]] w fun e w' =>
      ∃ v', e = .returned v' ∧ RowOf w' v' (l.filter fun x => !gone rev x) ∧ v'.ownBlock = v.ownBlock ∧ FrO (fun n => v.ownBlock = some n) w w' := by
  have hBl : B < w.heap.size := World.block_lt_of_cell? _ _ hB
  obtain ⟨A, c, rfl⟩ := Kd.R_slice h
  obtain ⟨-, g, rfl, hlt, hc⟩ := row_cells h hne
  rw [List.length_map] at h ⊢
  have hcap : l.length ≤ c := (Kd.R_reads' h).2.1
  have hIF := AnyQ.slices_IndexFunc (P := Try.prog) { Ythpcplpannbipaa.Sg.contains61 with } 2 Try.isAgg99 Try.sizeOf99 encS (fun _ => rfl) (gone rev) 54 #[.pointer (some ⟨B, 0, none⟩)] (enters_of Try.func54 (by kernel_rfl) rfl) g 0 l.length c l w
    (fun W x hb => (gone_c x rev B W ((hb.cell (p := ⟨B, 0, none⟩) hBl).trans hB)).mono fun e w' h => ⟨h.1, hb.trans (h.2.mono hb.size)⟩) (Nat.le_refl _) (by omega) hlt hc
  rw [List.take_length] at hIF
  have hBg : B ≠ g := fun e => hBo (by rw [e]; rfl)
  obtain ⟨n, hn⟩ : ∃ n, l.length = n := ⟨_, rfl⟩
  have HN := Aside0.mk hn
  rcases idxByFrom_spec (fun _ y => gone rev y) default l 0 with ⟨e1, hall⟩ | ⟨k0, hk0, e1, ht, hall⟩
  · have e2 : Lib.idxBy (fun _ y => gone rev y) l default = -1 := e1
    rw [e2] at hIF
    have hf : (l.filter fun x => !gone rev x) = l := List.filter_eq_self.2 (fun x hx => by
      obtain ⟨j, hj, rfl⟩ := List.mem_iff_getElem.1 hx
      have := hall j hj
      rw [getElem!_pos l j hj] at this
      rw [this]; rfl)
    rw [hf]
    have HH := Aside0.mk h
    have HIF := Aside0.mk hIF
    rw [hn]
    clear h hc hB hBo hlt hcap hbig hall hf hn hIF e1 e2 hBl hBg hne
    go_enter Try.func57, Try.ntmps57
    go_wp2_with fail
    rw [← HN.out]
    refine HIF.out.mono ?_
    rintro e w2 ⟨rfl, hb⟩
    have HB2 := Aside0.mk hb
    clear hb
    go_wp2
    go_ret
    exact ⟨_, rfl, Kd.R_below HH.out HB2.out, rfl, FrO.of_below HB2.out⟩
  · have e2 : Lib.idxBy (fun _ y => gone rev y) l default = (k0 : Int) := by unfold Lib.idxBy; rw [e1]; simp
    rw [e2] at hIF
    have hI0 : DelI (fun x => !gone rev x) l k0 (k0 + 1) l := DelI.start hk0 (fun j hj => by show (!gone rev l[j]!) = true; rw [hall j hj]; rfl) (by show (!gone rev l[k0]!) = false; rw [show gone rev l[k0]! = true from ht]; rfl)
    have HI0 := Aside0.mk hI0
    have HH := Aside0.mk h
    have HIF := Aside0.mk hIF
    have HBB := Aside0.mk (And.intro hB (And.intro hBl hBg))
    have HBIG : Aside0 (n ≤ 1000000 ∧ g < w.heap.size ∧ n ≤ c) := ⟨by omega, hlt, by omega⟩
    have hk0n : k0 < n := by omega
    have z1 : ((k0 : Int) == -1) = false := beq_eq_false_iff_ne.2 (by omega)
    have z2 : decide ((k0 : Int) = -1) = false := decide_eq_false (by omega)
    have z3 : ((k0 : Int) = -1) = False := eq_false (by omega)
    have HW1 := Aside0.mk (wrap_succ k0 (by omega))
    obtain ⟨d, hd⟩ : ∃ d, k0 + 1 + d = n := ⟨n - (k0 + 1), Nat.add_sub_cancel' hk0n⟩
    have HD := Aside0.mk hd
    clear hd
    rw [hn]
    clear h hc hB hBo hlt hcap hbig hall hn hIF e1 e2 hBl hBg hne ht hk0 hI0 hk0n
    go_enter Try.func57, Try.ntmps57
    go_wp2_with fail
    rw [← HN.out]
    refine HIF.out.mono ?_
    rintro e w2 ⟨rfl, hb⟩
    rw [HN.out]
    have HB2 := Aside0.mk hb
    clear hb
    go_wp2_with fail
    go_loopg [5, 6, 7] d (fun gg s5 s6 _ wr => ∃ (i j : Nat) (dk : List Sp), s5 = .int .i64 i ∧ s6 = .int .i64 j ∧ Aside0 (j + gg = n) ∧ Aside0 (DelI (fun x => !gone rev x) l i j dk) ∧ Aside0 (RowOf wr (.slice (some ⟨g, 0, none⟩) n c) dk) ∧ Aside0 (FrO (fun m => (Value.slice (some ⟨g, 0, none⟩) n c).ownBlock = some m) w wr))
    case atStart => exact ⟨k0, k0 + 1, l, rfl, by rw [HW1.out], HD, HI0, ⟨by rw [← HN.out]; exact Kd.R_below HH.out HB2.out⟩, ⟨FrO.of_below HB2.out⟩⟩
    case round =>
      obtain ⟨i, j, dk, h5, h6, HJ, HI, HR, HF⟩ := hrel
      rename World => wr
      subst h5
      subst h6
      cases gk with
      | zero =>
        obtain rfl : j = n := by have := HJ.out; omega
        have p1 : decide ((j : Int) < (j : Int)) = false := decide_eq_false (by omega)
        have p2 : ((j : Int) < (j : Int)) = False := eq_false (by omega)
        have hij : i < j := HI.out.lt
        have q1 : ((i : Int) ≤ (j : Int)) = True := eq_true (by omega)
        have q2 : decide ((i : Int) ≤ (j : Int)) = true := decide_eq_true (by omega)
        have q3 : (i ≤ j) = True := eq_true (by omega)
        have q4 : decide (i ≤ j) = true := decide_eq_true (by omega)
        have q6 : ((i : Int) ≤ (c : Int)) = True := eq_true (by have := HBIG.out; omega)
        have q7 : decide ((i : Int) ≤ (c : Int)) = true := decide_eq_true (by have := HBIG.out; omega)
        have q8 : (i ≤ c) = True := eq_true (by have := HBIG.out; omega)
        have q9 : decide (i ≤ c) = true := decide_eq_true (by have := HBIG.out; omega)
        have q5 : (c = i) = False := eq_false (by have := HBIG.out; omega)
        have HIJ := Aside0.mk hij
        have hclr := run_clear2 wr 0 g (i * 2) (j - i) (c - i) (by omega) (fun t ht => by
          obtain ⟨cells, hc1, hc2⟩ := row_full HR.out
          rw [blk_cell hc1 (i * 2 + t), Array.getElem?_eq_getElem (by have := HBIG.out; omega)]; rfl) (fun t ht => by
          obtain ⟨cells, hc1, hc2⟩ := row_full HR.out
          exact blk_frozen hc1 _)
        have HCLR := Aside0.mk hclr
        clear hij hclr
        go_wp2_with fail
        rw [HCLR.out]
        go_wp2
        go_ret
        have hlow : dk.take i = l.filter fun x => !gone rev x := by
          rw [HI.out.low, List.take_of_length_le (by rw [HN.out]; exact Nat.le_refl _)]
        refine ⟨_, rfl, ?_, rfl, HF.out.trans ?_⟩
        · rw [← hlow]
          exact row_clear HR.out i (by have := HIJ.out; omega)
        · obtain ⟨s1, s2, s3, s4⟩ := setCells_same g (List.replicate ((j - i) * 2) (.int .i64 0)) (i * 2) wr
          exact ⟨s1, s2, s3, Nat.le_of_eq s4.symm, fun m _ hm => setCells_far _ _ m (fun e => hm (by rw [e]; rfl))⟩
      | succ kq =>
        have hjn : j < n := by have := HJ.out; omega
        have hjl : j < l.length := by rw [HN.out]; exact hjn
        have hij : i < j := HI.out.lt
        have p1 : decide ((j : Int) < (n : Int)) = true := decide_eq_true (by omega)
        have p2 : ((j : Int) < (n : Int)) = True := eq_true (by omega)
        have p3 : ((i : Int) < (n : Int)) = True := eq_true (by omega)
        have p4 : decide ((i : Int) < (n : Int)) = true := decide_eq_true (by omega)
        have p5 : decide ((j : Int) < 0) = false := decide_eq_false (by omega)
        have p6 : (0 ≤ (j : Int)) = True := eq_true (by omega)
        have p7 : decide ((i : Int) < 0) = false := decide_eq_false (by omega)
        have p8 : (0 ≤ (i : Int)) = True := eq_true (by omega)
        have p9 : (j < n) = True := eq_true hjn
        have p10 : (i < n) = True := eq_true (by omega)
        have e1 : (⟨g, 0, none⟩ : Addr).add (j * 2) = ⟨g, j * 2, none⟩ := by rw [Addr.add_mid, Nat.zero_add]
        have e2 : (⟨g, 0, none⟩ : Addr).add (i * 2) = ⟨g, i * 2, none⟩ := by rw [Addr.add_mid, Nat.zero_add]
        obtain ⟨x, hx⟩ : ∃ x, l[j]! = x := ⟨_, rfl⟩
        have hdj := HI.out.get hjl
        rw [hx] at hdj
        obtain ⟨-, g', hg', -, hcs⟩ := row_cells HR.out (by intro e; rw [e] at hdj; have := HI.out.len; rw [e] at this; simp at this; omega)
        obtain rfl : g = g' := by injection hg' with hg'; injection hg'
        have hc0 := hcs j (by rw [HI.out.len]; exact hjl) 0 (.int .i64 x.1) (by rw [hdj]; rfl)
        have hc1 := hcs j (by rw [HI.out.len]; exact hjl) 1 (.int .i64 x.2) (by rw [hdj]; rfl)
        rw [Nat.zero_add] at hc0 hc1
        rw [Nat.add_zero] at hc0
        have HXJ := Aside0.mk hx
        have HIJ := Aside0.mk (And.intro hij hjn)
        have HDJ := Aside0.mk hdj
        obtain ⟨wa, ea, hb2, bb, zb, kb⟩ : ∃ w1, wr.alloc (.cells #[.int .i64 x.1, .int .i64 x.2] 99) = w1 ∧ w1.heap[wr.heap.size]? = some (.cells #[.int .i64 x.1, .int .i64 x.2] 99 (0, 0)) ∧ Below wr.heap.size wr w1 ∧ w1.heap.size = wr.heap.size + 1 ∧ ∀ (k : Nat) (o : Obj), wr.heap[k]? = some o → w1.heap[k]? = some o :=
          ⟨_, rfl, (Go.MapKept.heap_alloc wr _).1, below_alloc (Below.refl _ _) _, by simp, fun k o h => blk_alloc h _⟩
        have HEA := Aside0.mk ea
        have HBB2 := Aside0.mk bb
        clear hcs hg' hij hjn hjl hx hdj ea bb kb zb
        go_wp2_with fail
        rw [HEA.out]
        have hBw : wr.cell? ⟨B, 0, none⟩ = some (.int .i64 rev) := by
          have h1 := HF.out.block B HBB.out.2.1 (fun e => HBB.out.2.2 (by injection e with e; exact e.symm))
          rw [← HBB.out.1]
          unfold World.cell?
          rw [h1]
        have hcall := gone_c x rev B wa ((HBB2.out.cell (p := ⟨B, 0, none⟩) (World.block_lt_of_cell? _ _ hBw)).trans hBw)
        refine hcall.mono ?_
        rintro e w4 ⟨rfl, hb4⟩
        have HB4 : Aside0 (Below wr.heap.size wr w4) := ⟨HBB2.out.trans (hb4.mono HBB2.out.size)⟩
        have hn4 := (hb4.block _ (blk_lt hb2)).trans hb2
        have d0 := blk_cell hn4 0
        have d1 := blk_cell hn4 1
        have HR4 : Aside0 (RowOf w4 (.slice (some ⟨g, 0, none⟩) n c) dk) := ⟨Kd.R_below HR.out HB4.out⟩
        obtain ⟨cells, hg4, hgs⟩ := row_full HR4.out
        have f0 := blk_frozen hg4 (i * 2)
        have f1 := blk_frozen hg4 (i * 2 + 1)
        obtain ⟨u0, k0⟩ : ∃ u, w4.cell? ⟨g, i * 2, none⟩ = some u := ⟨_, by rw [blk_cell hg4 (i * 2), Array.getElem?_eq_getElem (by have := HBIG.out; have := HIJ.out; omega)]⟩
        obtain ⟨u1, k1⟩ : ∃ u, w4.cell? ⟨g, i * 2 + 1, none⟩ = some u := ⟨_, by rw [blk_cell hg4 (i * 2 + 1), Array.getElem?_eq_getElem (by have := HBIG.out; have := HIJ.out; omega)]⟩
        obtain ⟨r, hr⟩ : ∃ r, gone rev x = r := ⟨_, rfl⟩
        rw [hr]
        have HRR := Aside0.mk hr
        clear hr hcall hBw hb4 hn4 hg4 hgs hb2 hc0 hc1
        cases r with
        | true =>
          go_wp2
          go_roundg kq
          case measure => omega
          case rel => exact ⟨i, j + 1, dk, rfl, by rw [wrap_succ j (by have := HBIG.out; have := HIJ.out; omega)], ⟨by have := HJ.out; omega⟩, ⟨HI.out.skip (by rw [HN.out]; exact HIJ.out.2) (by show (!gone rev l[j]!) = false; rw [HXJ.out, HRR.out]; rfl)⟩, HR4, ⟨HF.out.trans (FrO.of_below HB4.out)⟩⟩
        | false =>
          go_wp2_with fail
          have hset : (w4.setCell ⟨g, i * 2, none⟩ (.int .i64 x.1)).setCell ⟨g, i * 2 + 1, none⟩ (.int .i64 x.2) = w4.setCells g (i * 2) (encS x) := rfl
          go_roundg kq
          case measure => omega
          case rel =>
            refine ⟨i + 1, j + 1, dk.set i x, by rw [wrap_succ i (by have := HBIG.out; have := HIJ.out; omega)], by rw [wrap_succ j (by have := HBIG.out; have := HIJ.out; omega)], ⟨by have := HJ.out; omega⟩, ⟨?_⟩, ⟨row_store HR4.out i (by have := HIJ.out; omega) x⟩, ⟨(HF.out.trans (FrO.of_below HB4.out)).trans ?_⟩⟩
            · have := HI.out.keep (by rw [HN.out]; exact HIJ.out.2) (by show (!gone rev l[j]!) = true; rw [HXJ.out, HRR.out]; rfl)
              rwa [HXJ.out] at this
            · exact ⟨rfl, rfl, rfl, by simp, fun m _ hm => (setCells_far (encS x) (i * 2) m (fun e => hm (by rw [e]; rfl)))⟩
end Go.Proofs.Ythpcplpannbipaa.Sa
namespace Go.Proofs.Ythpcplpannbipaa.Sa
open Go.RowKit Go.Maps Go.MapKept Go.Sort Go.Proofs.YthpcplpannbipaaW.PrintWords Go.Proofs.YthpcplpannbipaaW.PrintLast Go.Proofs.Ythpcplpannbipaa.X Go.Proofs.Ythpcplpannbipaa.Kx Go.Proofs.Ythpcplpannbipaa.Mp Go.Proofs.Ythpcplpannbipaa.Mq Go.Proofs.Ythpcplpannbipaa.Sq Go.Proofs.Ythpcplpannbipaa.Mb Go.Proofs.Ythpcplpannbipaa.Maps
set_option maxHeartbeats 2000000 in
theorem trim2_c {W : World} {b m B2 : Nat} {ks : Value} {L : Ent} {last : Int} {F : ByteArray → List Sp} (hB2 : W.heap[B2]? = some (.cells #[.pointer (some ⟨b, 0, none⟩)] 50 (0, 0)))
    (hb : W.heap[b]? = some (.cells #[.map (some m), ks, .int .i64 last] 92 (0, 0))) (hm : MapSt W m L) (hl : ∀ k, ∃ A c, lookL L k nil_ = .slice A (F k).length c) (key : ByteArray) :
    Calls Try.prog 59 #[.string key, .pointer (some ⟨B2, 0, none⟩)] W fun e w' => e = .returned (.bool (F key).isEmpty) ∧ w' = W := by
  have cB := blk_cell hB2 0
  have c0 := blk_cell hb 0
  have hz : ∀ w, (zeroValue 97).run Try.prog w = .ok nil_ w := Try.zeroValue97
  have hlk := run_look (P := Try.prog) hm Try.underlying90 Try.underlying9 key hz
  obtain ⟨A, c, hA⟩ := hl key
  rw [hA] at hlk
  obtain ⟨n, hn⟩ : ∃ n, (F key).length = n := ⟨_, rfl⟩
  have HE : Aside0 ((F key).isEmpty = decide ((n : Int) = 0)) := ⟨by rw [← hn]; cases F key <;> simp; omega⟩
  rw [hn] at hlk
  obtain ⟨r, hr⟩ : ∃ r, decide ((n : Int) = 0) = r := ⟨_, rfl⟩
  have hr2 : ((n : Int) == 0) = r := by rw [← hr]; rfl
  rw [HE.out, hr]
  clear hm hl hA hn hb hB2 HE
  go_enter Try.func59, Try.ntmps59
  go_wp2
  go_ret
  exact ⟨rfl, rfl⟩
set_option maxHeartbeats 2000000 in
theorem index79_nil (f : Value) (w : World) : Calls Try.prog 79 #[.slice none 0 0, f] w fun e w' => e = .returned (.int .i64 (-1)) ∧ Below w.heap.size w w' := by
  go_enter Try.func79, Try.ntmps79
  go_wp2_with fail
  go_loopg [8] (0 : Nat) (fun kq v8 wr => v8 = .int .i64 0 ∧ wr = w)
  case atStart => exact ⟨rfl, rfl⟩
  case round =>
    obtain ⟨h4, hw⟩ := hrel
    subst h4
    subst hw
    go_wp2
    go_ret
    exact ⟨rfl, Below.refl _ _⟩
set_option maxHeartbeats 2000000 in
theorem del58_nil (f : Value) (w : World) : Calls Try.prog 58 #[.slice none 0 0, f] w fun e w' => e = .returned (.slice none 0 0) ∧ Below w.heap.size w w' := by
  go_enter Try.func58, Try.ntmps58
  go_wp2_with fail
  refine (index79_nil f w).mono ?_
  rintro e w' ⟨rfl, hb⟩
  have HB := Aside0.mk hb
  clear hb
  go_wp2
  go_ret
  exact ⟨rfl, HB.out⟩
theorem sort_heap {α : Type} [Inhabited α] (enc : α → Value) (w : World) (blk off n : Nat) (dk : Array α) (os : Array Obj) {k : Nat} (h1 : k ≠ blk) (h2 : k < w.heap.size) : (sortWorld enc w blk off n dk os).heap[k]? = w.heap[k]? := by
  have h3 : (putRow enc (Sort.ahead w n) blk off dk).heap[k]? = w.heap[k]? := by simp [putRow, mapBlock, Sort.ahead, Array.getElem?_modify, Ne.symm h1]
  have h4 := Sort.heap_grow_old (putRow enc (Sort.ahead w n) blk off dk) os (k := k) (by simpa [putRow, mapBlock, Sort.ahead] using h2)
  exact h4.trans h3
/-- The keys that have spans stay. -/
theorem delkeys_c {w : World} {b m B2 : Nat} {ks : Value} {L : Ent} {last : Int} {F : ByteArray → List Sp} {keys : List ByteArray} (hk : Kd.string.R 9 w 0 (fun k => ks.ownBlock = some k) ks keys)
    (hB2 : w.heap[B2]? = some (.cells #[.pointer (some ⟨b, 0, none⟩)] 50 (0, 0)))
    (hb : w.heap[b]? = some (.cells #[.map (some m), ks, .int .i64 last] 92 (0, 0))) (hm : MapSt w m L) (hl : ∀ k, ∃ A c, lookL L k nil_ = .slice A (F k).length c)
    (n1 : ks.ownBlock ≠ some b) (n2 : ks.ownBlock ≠ some m) (n3 : ks.ownBlock ≠ some B2) (hbig : keys.length ≤ 1000000) :
    Calls Try.prog 58 #[ks, .func (.func 59) #[] #[.pointer (some ⟨B2, 0, none⟩)]] w fun e w' =>
      ∃ v', e = .returned v' ∧ Kd.string.R 9 w' 0 (fun k => v'.ownBlock = some k) v' (keys.filter fun k => !(F k).isEmpty) ∧ v'.ownBlock = ks.ownBlock ∧ FrO (fun n => ks.ownBlock = some n) w w' := by
  by_cases hnil : ks = .slice none 0 0
  · subst hnil
    have h0 : keys = [] := by
      have := (Kd.R_reads' hk).1
      exact List.length_eq_zero_iff.1 this.symm
    subst h0
    refine (del58_nil _ w).mono ?_
    rintro e w' ⟨rfl, hb'⟩
    exact ⟨_, rfl, Kd.R_nil _ _ _ _ _, rfl, FrO.of_below hb'⟩
  · have hown : w.ownsRow 0 9 1 ks keys.length (keys.map Value.string) := Kd.own_of_R hk
    obtain ⟨g, cap, rfl, hbg, hgl, hncap, hcm, hlen, hH⟩ := Lib.holds_of_ownsRow hown hnil
    have hgb : b ≠ g := fun e => n1 (by rw [e]; rfl)
    have hgm : m ≠ g := fun e => n2 (by rw [e]; rfl)
    have hgB : B2 ≠ g := fun e => n3 (by rw [e]; rfl)
    have hgiv : ∀ (W : World) (x : ByteArray), W.heap[B2]? = w.heap[B2]? → W.heap[b]? = w.heap[b]? → W.heap[m]? = w.heap[m]? → FnGives Try.prog 59 #[.pointer (some ⟨B2, 0, none⟩)] #[.string x] (.bool (F x).isEmpty) W := fun W x h1 h2 h3 =>
      (trim2_c (h1.trans hB2) (h2.trans hb) (hm.of_block h3) hl x).mono fun e w' h => ⟨h.1, 0, h.2⟩
    have := AnyE.slices_DeleteFunc (P := Try.prog) Ythpcplpannbipaa.Sg.del58 Value.string (fun _ => rfl) (fun x => (F x).isEmpty) 59 #[.pointer (some ⟨B2, 0, none⟩)] (enters_of Try.func59 (by kernel_rfl) rfl) (ByteArray.mk #[]) Try.zeroValue9
      g 0 cap keys.toArray w (fun W x hB => hgiv W x (hB.block _ (blk_lt hB2)) (hB.block _ (blk_lt hb)) (hB.block _ hm.lt))
      (fun n os dk x _ => hgiv _ x (sort_heap _ w g 0 n dk os hgB (blk_lt hB2)) (sort_heap _ w g 0 n dk os hgb (blk_lt hb)) (sort_heap _ w g 0 n dk os hgm hm.lt)) hH (by simp; omega) (by simpa using hncap)
    simp only [List.size_toArray, List.toList_toArray] at this
    refine this.mono ?_
    rintro e w' ⟨rfl, q, rfl⟩
    obtain ⟨fl, hfl⟩ : ∃ fl, (keys.filter fun x => !(F x).isEmpty) = fl := ⟨_, rfl⟩
    have hfle : fl.length ≤ keys.length := by rw [← hfl]; exact List.length_filter_le _ _
    rw [hfl]
    have hc := Lib.ownsRow_putRow (q := q) (k := fl.length) (ys := fl ++ List.replicate (keys.length - fl.length) (ByteArray.mk #[])) hown (by simp; omega) hfle
    rw [List.take_left'  rfl] at hc
    refine ⟨_, rfl, Kd.R_of_own hc (fun _ h => h), rfl, ⟨rfl, rfl, rfl, by simp [putRow, mapBlock, Sort.ahead], fun n hn ho => ?_⟩⟩
    have hng : g ≠ n := fun e => ho (by rw [← e]; rfl)
    simp [putRow, mapBlock, Sort.ahead, Array.getElem?_modify, hng]
end Go.Proofs.Ythpcplpannbipaa.Sa
namespace Go.Proofs.Ythpcplpannbipaa.Sa
open Go.RowKit Go.Maps Go.MapKept Go.Proofs.YthpcplpannbipaaW.PrintWords Go.Proofs.YthpcplpannbipaaW.PrintLast Go.Proofs.Ythpcplpannbipaa.X Go.Proofs.Ythpcplpannbipaa.Kx Go.Proofs.Ythpcplpannbipaa.Mp Go.Proofs.Ythpcplpannbipaa.Mq Go.Proofs.Ythpcplpannbipaa.Sq Go.Proofs.Ythpcplpannbipaa.Mb Go.Proofs.Ythpcplpannbipaa.Maps
section
variable {w w1 w2 w3 : World} {ok : Nat → Prop} {b m : Nat} {ks ks' v' : Value} {L : Ent} {s s' : St ByteArray} {key : ByteArray} {l : List Sp}
/-- Only blocks that there are. -/
theorem At.tight (h : At w ok b m ks L s) : At w (fun n => ok n ∧ n < w.heap.size) b m ks L s :=
  ⟨h.hb, h.hm, h.hk, h.hr, h.sep, h.mem, ⟨h.okb, blk_lt h.hb⟩, ⟨h.okm, h.hm.lt⟩, fun n hn => ⟨h.okk n hn, (key_ty h.hk hn).1⟩, fun k n hn => ⟨h.okr k n hn, (row_ty (h.hr k) hn).1⟩⟩
theorem SpAt.tight (h : SpAt w ok b s) : SpAt w (fun n => ok n ∧ n < w.heap.size) b s := by
  obtain ⟨m, ks, L, h1, h2⟩ := h
  exact ⟨m, ks, L, h1.tight, h2⟩
theorem FrO.mono {ok ok' : Nat → Prop} (h : FrO ok w w1) (hf : ∀ n, n < w.heap.size → ok n → ok' n) : FrO ok' w w1 := ⟨h.os, h.tape, h.output, h.size, fun n hn ho => h.block n hn (fun e => ho (hf n hn e))⟩
theorem At.setRow (hA : At w ok b m ks L s) (hf : FrO (fun n => (lookL L key nil_).ownBlock = some n) w w2) (hr : RowOf w2 v' l) (ho : v'.ownBlock = (lookL L key nil_).ownBlock)
    (hm3 : MapSt w3 m (setL L key v')) (hf3 : But m w2 w3) (hl : s'.last = s.last) (hk : keysG s'.g = keysG s.g) (hkey : key ∈ keysG s.g) (hg : ∀ k, get s'.g k = if k = key then l else get s.g k) :
    At w3 ok b m ks (setL L key v') s' ∧ FrO ok w w3 := by
  have hbm := hA.ne
  have hvb : (lookL L key nil_).ownBlock ≠ some b := fun e => (hA.ne_row key e).1 rfl
  have hvm : (lookL L key nil_).ownBlock ≠ some m := fun e => (hA.ne_row key e).2.1 rfl
  have st : ∀ n, n < w.heap.size → n ≠ m → (lookL L key nil_).ownBlock ≠ some n → w3.heap[n]? = w.heap[n]? := fun n h1 h2 h3 => (hf3.block n h2).trans (hf.block n h1 h3)
  have own : ∀ k n, (lookL (setL L key v') k nil_).ownBlock = some n → (lookL L k nil_).ownBlock = some n := fun k n hn => by
    rw [lookL_set] at hn
    split at hn
    · rename_i e; subst e; rw [← ho]; exact hn
    · exact hn
  refine ⟨⟨?_, hm3, ?_, fun k => ?_, fun j k n h1 h2 => hA.sep j k n (own j n h1) (own k n h2), fun p hp => ?_, hA.okb, hA.okm, hA.okk, fun k n hn => hA.okr k n (own k n hn)⟩, ?_⟩
  · rw [hl]; exact (st b (blk_lt hA.hb) hbm hvb).trans hA.hb
  · rw [hk]
    exact Kd.R_step hA.hk (fun n hn hlt => st n hlt (hA.ne_key hn).2 (fun e => (hA.ne_row key e).2.2 hn))
  · rw [lookL_set, hg]
    split
    · exact Kd.R_step hr (fun n hn hlt => hf3.block n (fun e => hvm (by rw [← ho, hn, e])))
    · rename_i e
      exact Kd.R_step (hA.hr k) (fun n hn hlt => st n hlt (hA.ne_row k hn).2.1 (fun e2 => e (hA.sep k key n hn e2)))
  · rw [hk]
    have : ∀ {L : Ent} {p : ByteArray × Value}, p ∈ setL L key v' → p.1 = key ∨ p ∈ L := fun {L} => by
      induction L with
      | nil => intro p hp; exact .inl (by simp [setL] at hp; rw [hp])
      | cons q L ih =>
        intro p hp
        rw [setL] at hp
        split at hp
        · rename_i e
          rcases List.mem_cons.1 hp with h | h
          · exact .inl (by rw [h]; exact e)
          · exact .inr (List.mem_cons_of_mem _ h)
        · rcases List.mem_cons.1 hp with h | h
          · exact .inr (by rw [h]; exact List.mem_cons_self)
          · exact (ih h).imp id (List.mem_cons_of_mem _)
    rcases this hp with h | h
    · rw [h]; exact hkey
    · exact hA.mem p h
  · refine ⟨hf3.os.trans hf.os, hf3.tape.trans hf.tape, hf3.output.trans hf.output, by have := hf3.size; have := hf.size; omega, fun n hn hno => st n hn (fun e => hno (by rw [e]; exact hA.okm)) (fun e => hno (hA.okr key n e))⟩
theorem At.delRow (hA : At w ok b m ks L s) (hm3 : MapSt w3 m (delL L key)) (hf3 : But m w w3) (hg : get s.g key = []) : At w3 ok b m ks (delL L key) s ∧ FrO ok w w3 := by
  have hbm := hA.ne
  have own : ∀ k n, (lookL (delL L key) k nil_).ownBlock = some n → (lookL L k nil_).ownBlock = some n := fun k n hn => by
    rw [lookL_del] at hn
    split at hn
    · simp [Value.ownBlock] at hn
    · exact hn
  refine ⟨⟨(hf3.block b hbm).trans hA.hb, hm3, ?_, fun k => ?_, fun j k n h1 h2 => hA.sep j k n (own j n h1) (own k n h2), fun p hp => hA.mem p (List.mem_filter.1 hp).1, hA.okb, hA.okm, hA.okk, fun k n hn => hA.okr k n (own k n hn)⟩, ?_⟩
  · exact Kd.R_step hA.hk (fun n hn hlt => hf3.block n (hA.ne_key hn).2)
  · rw [lookL_del]
    split
    · rename_i e; rw [e, hg]; exact Kd.R_nil _ _ _ _ _
    · exact Kd.R_step (hA.hr k) (fun n hn hlt => hf3.block n (hA.ne_row k hn).2.1)
  · exact ⟨hf3.os, hf3.tape, hf3.output, Nat.le_of_eq hf3.size.symm, fun n hn hno => hf3.block n (fun e => hno (by rw [e]; exact hA.okm))⟩
theorem At.setKeys (hA : At w ok b m ks L s) (hf : FrO (fun n => ks.ownBlock = some n) w w2) (hr : Kd.string.R 9 w2 0 (fun k => ks'.ownBlock = some k) ks' (keysG s'.g)) (ho : ks'.ownBlock = ks.ownBlock)
    (hl : s'.last = s.last) (hg : ∀ k, get s'.g k = get s.g k) (hmem : ∀ p ∈ L, p.1 ∈ keysG s'.g) :
    At (w2.setCell ⟨b, 1, none⟩ ks') ok b m ks' L s' ∧ FrO ok w (w2.setCell ⟨b, 1, none⟩ ks') := by
  have hbm := hA.ne
  have hkb : ks.ownBlock ≠ some b := fun e => (hA.ne_key e).1 rfl
  have hkm : ks.ownBlock ≠ some m := fun e => (hA.ne_key e).2 rfl
  have st : ∀ n, n < w.heap.size → n ≠ b → ks.ownBlock ≠ some n → (w2.setCell ⟨b, 1, none⟩ ks').heap[n]? = w.heap[n]? := fun n h1 h2 h3 => (Below.heap_setCell w2 ⟨b, 1, none⟩ _ n h2).trans (hf.block n h1 h3)
  refine ⟨⟨?_, hA.hm.of_block (st m hA.hm.lt (Ne.symm hbm) hkm), ?_, fun k => ?_, hA.sep, hmem, hA.okb, hA.okm, fun n hn => hA.okk n (by rw [← ho]; exact hn), hA.okr⟩, ?_⟩
  · have h1 := (hf.block b (blk_lt hA.hb) hkb).trans hA.hb
    rw [hl]
    simpa using blk_set h1 1 ks'
  · exact Kd.R_step hr (fun n hn hlt => Below.heap_setCell w2 ⟨b, 1, none⟩ _ n (hA.ne_key (by rw [← ho]; exact hn)).1)
  · rw [hg]
    exact Kd.R_step (hA.hr k) (fun n hn hlt => st n hlt (hA.ne_row k hn).1 (hA.ne_row k hn).2.2)
  · exact ⟨hf.os, hf.tape, hf.output, by simpa using hf.size, fun n hn hno => st n hn (fun e => hno (by rw [e]; exact hA.okb)) (fun e => hno (hA.okk n e))⟩
end
/-! ### plain -/
def mid (rev : Int) (done : List ByteArray) (g : List (ByteArray × List Sp)) : List (ByteArray × List Sp) := g.map fun p => (p.1, if p.1 ∈ done then p.2.filter (fun x => !gone rev x) else p.2)
theorem mid_keys (rev : Int) (done : List ByteArray) (g : List (ByteArray × List Sp)) : keysG (mid rev done g) = keysG g := by
  unfold mid keysG; rw [List.map_map]; exact List.map_congr_left (fun p _ => rfl)
theorem mid_get (rev : Int) (done : List ByteArray) : ∀ (g : List (ByteArray × List Sp)) (k : ByteArray), get (mid rev done g) k = if k ∈ done then (get g k).filter (fun x => !gone rev x) else get g k
  | [], k => by show ([] : List Sp) = if k ∈ done then List.filter (fun x => !gone rev x) ([] : List Sp) else []; split <;> rfl
  | (a, l) :: r, k => by
    have ih := mid_get rev done r k
    show get ((a, if a ∈ done then l.filter (fun x => !gone rev x) else l) :: mid rev done r) k = _
    rw [Sq.get, Sq.get]
    by_cases h : a = k
    · subst h; rw [if_pos rfl, if_pos rfl]
    · rw [if_neg h, if_neg h]; exact ih
theorem mid_nil (rev : Int) (g : List (ByteArray × List Sp)) : mid rev [] g = g := by
  unfold mid
  have h : (g.map fun p : ByteArray × List Sp => (p.1, if p.1 ∈ ([] : List ByteArray) then p.2.filter (fun x => !gone rev x) else p.2)) = g.map id := List.map_congr_left (fun p _ => by simp)
  rw [h, List.map_id]
def cntG (rev : Int) (g : List (ByteArray × List Sp)) (ks : List ByteArray) : Nat := (ks.map fun k => (get g k).countP (gone rev)).sum
theorem cnt_snoc (rev : Int) (g : List (ByteArray × List Sp)) (ks : List ByteArray) (k : ByteArray) : cntG rev g (ks ++ [k]) = cntG rev g ks + (get g k).countP (gone rev) := by simp [cntG]
theorem len_filter (rev : Int) (l : List Sp) : l.length - (l.filter fun x => !gone rev x).length = l.countP (gone rev) ∧ (l.filter fun x => !gone rev x).length ≤ l.length := by
  have h1 := List.length_eq_countP_add_countP (gone rev) (l := l)
  have h2 : (l.filter fun x => !gone rev x).length = l.countP (fun x => !gone rev x) := (List.countP_eq_length_filter).symm
  have h3 : l.countP (fun x => !gone rev x) = l.countP (fun a => decide ¬gone rev a = true) := List.countP_congr (fun x _ => by simp)
  exact ⟨by omega, by omega⟩
theorem cnt_keys (rev : Int) : ∀ {g : List (ByteArray × List Sp)}, Srt blt (keysG g) → cntG rev g (keysG g) = (flat g).countP fun p => gone rev p.2
  | [], _ => rfl
  | (a, l) :: r, hs => by
    have hs' := List.pairwise_cons.1 (show ((a :: keysG r).Pairwise _) from hs)
    have ih := cnt_keys rev hs'.2
    rw [flat_cons, List.countP_append, ← ih]
    show ((a :: keysG r).map fun k => (get ((a, l) :: r) k).countP (gone rev)).sum = _
    rw [List.map_cons, List.sum_cons]
    have h1 : get ((a, l) :: r) a = l := by rw [Sq.get, if_pos rfl]
    rw [h1]
    have h2 : (keysG r).map (fun k => (get ((a, l) :: r) k).countP (gone rev)) = (keysG r).map fun k => (get r k).countP (gone rev) := List.map_congr_left (fun k hk => by
      rw [Sq.get, if_neg (fun e => blt_TO.ne (hs'.1 k hk) e)])
    rw [h2]
    show _ = (l.map fun x => (a, x)).countP _ + cntG rev r (keysG r)
    rw [List.countP_map]
    rfl
theorem keys_trim_eq (rev : Int) : ∀ {g : List (ByteArray × List Sp)}, Srt blt (keysG g) → keysG (trimG rev g) = (keysG g).filter fun k => !((get g k).filter fun x => !gone rev x).isEmpty
  | [], _ => rfl
  | (a, l) :: r, hs => by
    have hs' := List.pairwise_cons.1 (show ((a :: keysG r).Pairwise _) from hs)
    have ih := keys_trim_eq rev hs'.2
    have h1 : get ((a, l) :: r) a = l := by rw [Sq.get, if_pos rfl]
    have h2 : (keysG r).filter (fun k => !((get ((a, l) :: r) k).filter fun x => !gone rev x).isEmpty) = (keysG r).filter fun k => !((get r k).filter fun x => !gone rev x).isEmpty := List.filter_congr (fun k hk => by
      rw [Sq.get, if_neg (fun e => blt_TO.ne (hs'.1 k hk) e)])
    show _ = (a :: keysG r).filter _
    rw [List.filter_cons, h1, h2, ← ih]
    unfold trimG
    rw [List.map_cons, List.filter_cons]
    show keysG (if (!(l.filter fun x => !gone rev x).isEmpty) = true then _ else _) = _
    split <;> rfl
theorem cnt_perm (rev : Int) (g : List (ByteArray × List Sp)) {xs ys : List ByteArray} (h : xs.Perm ys) : cntG rev g xs = cntG rev g ys := (h.map _).sum_nat
theorem cnt_sub (rev : Int) (g : List (ByteArray × List Sp)) {xs ys zs : List ByteArray} (h : ys.Perm zs) (hs : xs.Sublist ys) : cntG rev g xs ≤ cntG rev g zs := by
  rw [← cnt_perm rev g h]
  clear h
  unfold cntG
  induction hs with
  | slnil => exact Nat.le_refl _
  | cons a _ ih => rw [List.map_cons, List.sum_cons]; exact Nat.le_trans ih (Nat.le_add_left _ _)
  | cons_cons a _ ih => rw [List.map_cons, List.sum_cons, List.map_cons, List.sum_cons]; exact Nat.add_le_add_left ih _
theorem mem_setL {key : ByteArray} {v' : Value} : ∀ {L : Ent} {p : ByteArray × Value}, p ∈ setL L key v' → p.1 = key ∨ p ∈ L
  | [], p, hp => .inl (by simp [setL] at hp; rw [hp])
  | q :: L, p, hp => by
    rw [setL] at hp
    split at hp
    · rename_i e
      rcases List.mem_cons.1 hp with h | h
      · exact .inl (by rw [h]; exact e)
      · exact .inr (List.mem_cons_of_mem _ h)
    · rcases List.mem_cons.1 hp with h | h
      · exact .inr (by rw [h]; exact List.mem_cons_self)
      · exact (mem_setL h).imp id (List.mem_cons_of_mem _)
theorem srt_nodup {xs : List ByteArray} (h : Srt blt xs) : xs.Nodup := List.Pairwise.imp (fun h => blt_TO.ne h) h
/-- The map's keys are the groups'. -/
theorem At.keysPerm {w : World} {ok : Nat → Prop} {b m : Nat} {ks : Value} {L : Ent} {s : St ByteArray} (hA : At w ok b m ks L s) (hI : Inv blt s) : (L.map (·.1)).Perm (keysG s.g) := by
  refine (List.perm_ext_iff_of_nodup hA.hm.nodup (srt_nodup hI.srt)).2 (fun k => ⟨fun h => ?_, fun h => ?_⟩)
  · obtain ⟨p, hp, rfl⟩ := List.mem_map.1 h
    exact hA.mem p hp
  · rcases look_spec L k nil_ with ⟨p, h1, h2, _⟩ | ⟨_, h2⟩
    · exact List.mem_map.2 ⟨p, h1, h2⟩
    · have hr := hA.hr k
      rw [h2] at hr
      have := (Kd.R_reads' hr).1
      rw [List.length_map] at this
      exact absurd (List.length_eq_zero_iff.1 this.symm) ((full_get blt_TO hI.srt hI.full k).1 h)
end Go.Proofs.Ythpcplpannbipaa.Sa
