/- slices.Insert at strings, walked; no condition. -/
import Derived.Test.YthpcplpannbipaaProg
import Derived.WalkKit
import Derived.KernelRfl
import Derived.Shelf.Spec.SlicesInsert
import Derived.Lib.AppendZerosOnto
import Derived.Lib.JoinLaws
import Derived.Laws.NewBlocks
import Derived.Shelf.Spec.SlicesInsertGrow
import Derived.Test.YthpcplpannbipaaX0
import Derived.Test.YthpcplpannbipaaSa
import Derived.Shelf.SlicesG.Delete
import Derived.Shelf.SlicesG.Clone
import Derived.Lib.OwnBridge
import Derived.Lib.RowBridge
set_option linter.unusedVariables false
set_option linter.unusedSimpArgs false
set_option linter.unusedSectionVars false
namespace Go.Proofs.Ythpcplpannbipaa.Jn_
open Go.RowKit Go.Lib Go.Shelf

theorem gate_cp {P : Program} {ops : Array Oper} {rest : List Oper} {o : Oper} {a : Act} {Q : Exit → Act → World → Prop} {W : World} (d s : Operand) (t t' : TypeId) (_h : o.op = .call { callee := .builtin .copy, args := #[d, s], argTypes := #[t, t'] }) (h : wpList P ops Q (o :: rest) a W) : wpList P ops Q (o :: rest) a W := h
structure Hid (p : Prop) : Prop where out : p
theorem info9 : (Try.prog.info? 9).map (fun i => (i.zero, i.size, i.bytes)) = some (some (.string ⟨#[]⟩), 1, 16) := by kernel_rfl
theorem size9 : (Try.prog.info? 9).map (·.size) = some 1 := by kernel_rfl
theorem one_get {vb : Nat} {k : ByteArray} {W : World} (hv : W.cell? ⟨vb, 0, none⟩ = some (.string k)) : ∀ j u, ([.string k] : List Value)[j]? = some u → W.cell? ((⟨vb, 0, none⟩ : Addr).add j) = some u := by
  intro j u h
  cases j with
  | zero => obtain rfl := Option.some.inj h; rw [Addr.add_lit]; exact hv
  | succ j => simp at h
theorem one_one {k : ByteArray} : ∀ u ∈ ([.string k] : List Value), u.oneCell' = true := fun u hu => by obtain rfl := List.mem_singleton.1 hu; rfl
theorem one_src {vb : Nat} {k : ByteArray} {W : World} (hv : W.cell? ⟨vb, 0, none⟩ = some (.string k)) : Src Try.prog 1 22 (.slice (some ⟨vb, 0, none⟩) 1 1) 1 [.string k] W :=
  Src.ofSlice W Try.underlying22 ⟨vb, 0, none⟩ 1 1 _ rfl (one_get hv) one_one
set_option maxHeartbeats 4000000 in
set_option maxRecDepth 100000 in
/-- At the end, with room. -/
theorem end_room (g n cap vb : Nat) (k : ByteArray) (W : World) (hroom : n + 1 ≤ cap) (hc63 : cap ≤ 9223372036854775807) (hsp : (W.cell? ⟨g, 0 + n + 0, none⟩).isSome = true) (hfz : W.frozen? ⟨g, 0 + n + 0, none⟩ = false) (hv : W.cell? ⟨vb, 0, none⟩ = some (.string k)) :
    Calls Try.prog 52 #[.slice (some ⟨g, 0, none⟩) n cap, .int .i64 n, .slice (some ⟨vb, 0, none⟩) 1 1] W fun e w' => e = .returned (.slice (some ⟨g, 0, none⟩) (n + 1) cap) ∧ w' = W.setCells g n [.string k] := by
  have hsrc := one_src hv
  have hA : ∀ j, j < ([.string k] : List Value).length → (W.cell? ⟨g, 0 + n + j, none⟩).isSome = true := fun j hj => by
    obtain rfl : j = 0 := by simpa using hj
    exact hsp
  have hB : ∀ j, j < ([.string k] : List Value).length → W.frozen? ⟨g, 0 + n + j, none⟩ = false := fun j hj => by
    obtain rfl : j = 0 := by simpa using hj
    exact hfz
  have HA := Hid.mk hA
  have HB := Hid.mk hB
  have HS := Hid.mk hsrc
  clear hA hB hsrc hsp hfz hv
  go_enter Try.func52, Try.ntmps52
  go_wp2_with (at_builtin; refine wpList_append_room1 _ rfl _ _ 22 22 rfl 9 _ _ Try.underlying22 info9 g 0 n cap rfl _ rfl 1 [.string k] HS.out hroom HA.out HB.out ?_)
  go_ret
  exact ⟨rfl, rfl⟩
set_option maxHeartbeats 4000000 in
set_option maxRecDepth 100000 in
/-- At the end, without room. -/
theorem end_grow (base : Option Addr) (n cap vb : Nat) (cs : List Value) (k : ByteArray) (W : World) (hnc : n ≤ cap) (hroom : cap < n + 1) (hbig : n ≤ 1000000) (hcl : cs.length = n) (hnil : base = none → n = 0)
    (hcs : ∀ a, base = some a → ∀ j u, cs[j]? = some u → W.cell? (a.add j) = some u) (hv : W.cell? ⟨vb, 0, none⟩ = some (.string k)) :
    Calls Try.prog 52 #[.slice base n cap, .int .i64 n, .slice (some ⟨vb, 0, none⟩) 1 1] W fun e w' =>
      e = .returned (.slice (some ⟨W.heap.size, 0, none⟩) (n + 1) (grownCap W (n + 1) cap 9)) ∧
      w' = W.drew.alloc (.cells ((cs ++ [Value.string k]).toArray ++ Builtin.zeroCells (Value.string ⟨#[]⟩).cells (grownCap W (n + 1) cap 9 - (n + 1))) 9) := by
  obtain ⟨i0, hi0, hz0, hzs, hzb⟩ := info_parts info9
  have hsrc : Src Try.prog i0.size 22 (.slice (some ⟨vb, 0, none⟩) 1 1) 1 [.string k] W := by rw [hzs]; exact one_src hv
  have hold : (Builtin.firstCells i0.size n (.slice base n cap)).run Try.prog W.drew = .ok cs.toArray W.drew := by
    rw [hzs]
    cases base with
    | none =>
      obtain rfl := hnil rfl
      rw [List.length_eq_zero_iff.1 hcl]
      exact run_firstCells_none W.drew 1 0 0 cap
    | some a => exact run_firstCells_some W.drew 1 n a n cap cs (by omega) (fun j u hj => hcs a rfl j u hj)
  have hrun : ∀ ty, (Builtin.append_ #[22, 22] ty #[.slice base n cap, .slice (some ⟨vb, 0, none⟩) 1 1]).run Try.prog W = _ := fun ty =>
    run_append_grow_src W 22 22 ty 9 i0 _ Try.underlying22 hi0 hz0 base n cap cs hold _ 1 [.string k] hsrc hroom (by omega) (by rw [hzb]; exact growslice_fits hroom (by omega))
  have HR := Hid.mk hrun
  clear hrun hold hsrc hv hcs hi0 hz0 hzs hzb hcl
  cases base with
  | none =>
    obtain rfl := hnil rfl
    clear hnil
    go_enter Try.func52, Try.ntmps52
    go_wp2_with (at_builtin; refine wpList_append_run _ rfl _ _ _ _ rfl _ _ rfl rfl _ _ (HR.out _) ?_)
    go_ret
    exact ⟨rfl, rfl⟩
  | some a =>
    obtain ⟨ab, ao, asp⟩ := a
    clear hnil
    go_enter Try.func52, Try.ntmps52
    go_wp2_with (at_builtin; refine wpList_append_run _ rfl _ _ _ _ rfl _ _ rfl rfl _ _ (HR.out _) ?_)
    all_goals (go_ret; exact ⟨rfl, rfl⟩)
/-- The tail of a row of cells. -/
theorem drop_get {W : World} {g n : Nat} {cs : List Value} {i : Nat} (hcs : ∀ j u, cs[j]? = some u → W.cell? ⟨g, j, none⟩ = some u) : ∀ j u, (cs.drop i)[j]? = some u → W.cell? ((⟨g, i, none⟩ : Addr).add j) = some u := by
  intro j u h
  rw [Addr.add_lit]
  exact hcs (i + j) u (by rwa [List.getElem?_drop] at h)
set_option maxHeartbeats 8000000 in
set_option maxRecDepth 100000 in
/-- In the midst, with room. -/
theorem mid_room (g n cap i vb : Nat) (cs : List Value) (k : ByteArray) (W : World) (hi : i < n) (hroom : n + 1 ≤ cap) (hc63 : cap ≤ 9223372036854775807) (hvb : vb ≠ g) (hcl : cs.length = n)
    (hcs : ∀ j u, cs[j]? = some u → W.cell? ⟨g, j, none⟩ = some u) (h1 : ∀ u ∈ cs, u.oneCell' = true) (hsp : ∀ j, j < n + 1 → (W.cell? ⟨g, j, none⟩).isSome = true) (hfz : ∀ j, W.frozen? ⟨g, j, none⟩ = false) (hv : W.cell? ⟨vb, 0, none⟩ = some (.string k))
    (tA tB : TypeId) (kA kB : Nat) (hsa : W.shape? vb = some (tA, kA)) (hsb : W.shape? g = some (tB, kB)) (hkB : kB ≠ 0) (hfa : W.frozen? ⟨vb, 0, none⟩ = false) (hfe : W.frozen? ⟨vb, kA, none⟩ = false) :
    Calls Try.prog 52 #[.slice (some ⟨g, 0, none⟩) n cap, .int .i64 i, .slice (some ⟨vb, 0, none⟩) 1 1] W fun e w' =>
      e = .returned (.slice (some ⟨g, 0, none⟩) (n + 1) cap) ∧ w' = (W.drew.setCells g (i + 1) (cs.drop i)).setCells g i [.string k] := by
  have hdl : (cs.drop i).length = n - i := by rw [List.length_drop, hcl]
  have hov : ∀ lb cb, (callFunc 74 #[.slice (some ⟨vb, 0, none⟩) 1 1, .slice (some ⟨g, i + 1, none⟩) lb cb]).run Try.prog W = .ok (.value (.bool false)) W := fun lb cb => by
    rw [run_callFunc_extern Try.func74 (by kernel_rfl) (by kernel_rfl) (by kernel_rfl) (e := Extern.SlicesOverlaps.overlaps #[22, 22] #[4]) (by kernel_rfl),
      run_overlaps_apart W 22 4 9 Try.underlying22 1 Try.sizeOf9 ⟨vb, 0, none⟩ ⟨g, i + 1, none⟩ 1 1 lb cb hvb tA tB kA kB hsa hsb hkB hfa hfe]
    rfl
  obtain ⟨W1, hW1⟩ : ∃ W1, W.drew.setCells g (i + 1) (cs.drop i) = W1 := ⟨_, rfl⟩
  have hcp1 : ∀ ty dc sc, (Builtin.copy_ #[22, 22] ty #[.slice (some ⟨g, i + 1, none⟩) (n - i) dc, .slice (some ⟨g, i, none⟩) (n + 1 - i) sc]).run Try.prog W.drew = .ok (goInt (cs.drop i).length) W1 := fun ty dc sc => by
    rw [← hW1]
    exact run_copy_cells W.drew 22 22 ty 9 g (i + 1) (n - i) dc ⟨g, i, none⟩ (n + 1 - i) sc (cs.drop i) Try.underlying22 size9 (by rw [hdl]; simp only [Nat.min_def]; split <;> omega)
      (drop_get (W := W.drew) (n := n) hcs) (fun j hj => hsp _ (by omega)) (fun j hj => hfz _) (fun u hu => h1 u (List.mem_of_mem_drop hu))
  have hs1 : ∀ j, j < n + 1 → (W1.cell? ⟨g, j, none⟩).isSome = true := fun j hj => by
    rw [← hW1]
    exact isSome_setCells g (cs.drop i) (i + 1) W.drew (fun t ht => hsp (i + 1 + t) (by omega)) j (hsp j hj)
  have hv1 : W1.cell? ⟨vb, 0, none⟩ = some (.string k) := by
    rw [← hW1, World.cell?_setCells_out g _ _ _ _ (fun h _ => absurd h hvb)]
    exact hv
  have hcp2 : ∀ (V : World), (∀ x, V.cell? x = W1.cell? x) → (∀ x, V.frozen? x = W1.frozen? x) → ∀ ty dc, (Builtin.copy_ #[22, 22] ty #[.slice (some ⟨g, i, none⟩) (n + 1 - i) dc, .slice (some ⟨vb, 0, none⟩) 1 1]).run Try.prog V = .ok (goInt ([.string k] : List Value).length) (V.setCells g i [.string k]) := fun V hc hf ty dc =>
    run_copy_cells V 22 22 ty 9 g i (n + 1 - i) dc ⟨vb, 0, none⟩ 1 1 [.string k] Try.underlying22 size9 (by show 1 = Nat.min 1 (n + 1 - i); simp only [Nat.min_def]; split <;> omega)
      (one_get (by rw [hc]; exact hv1)) (fun j hj => by rw [hc]; exact hs1 _ (by simp at hj; omega)) (fun j hj => by rw [hf, ← hW1, World.frozen?_setCells]; exact hfz _) one_one
  have mixed : Try.prog.follows .mixedOrders = true := by kernel_rfl
  have hw1 : IntKind.i64.wrap ((i : Int) + 1) = (i : Int) + 1 := by rw [IntKind.wrap_i64]; omega
  have hw2 : IntKind.i64.wrap ((n : Int) + 1) = (n : Int) + 1 := by rw [IntKind.wrap_i64]; omega
  have hb1 : (0 : Int) ≤ (i : Int) + 1 := by omega
  have hin : i ≤ n := by omega
  have htn : ((i : Int) + 1).toNat = i + 1 := by omega
  have hb2 : ¬ (cap = i + 1) := by omega
  have hb3 : (i : Int) ≤ (n : Int) + 1 := by omega
  have hb4 : ¬ (cap = i) := by omega
  have hz2 : ¬ ((i : Int) = (n : Int)) := by omega
  have HC1 := Hid.mk hcp1
  have HC2 := Hid.mk hcp2
  have HW := Hid.mk hW1
  clear hcp1 hcp2 hs1 hv1 hW1 hcs h1 hsp hfz hv hsa hsb hkB hfa hfe hdl hcl
  go_enter Try.func52, Try.ntmps52
  go_wp2_with (simp only [hov])
  go_region_law_o (refine step_copy_runI rfl _ _ 22 22 rfl (.slice (some ⟨g, i + 1, none⟩) (n - i) (cap - (i + 1))) (.slice (some ⟨g, i, none⟩) (n + 1 - i) (cap - i)) (by simp [Act.eval, Act.put]) (by simp [Act.eval, Act.put]) (HC1.out 3 (cap - (i + 1)) (cap - i)) ?_)
  go_wp2_with ((with_reducible refine gate_cp (.tmp 80) (.tmp 81) 22 22 rfl ?_); refine wpList_copy_runI _ rfl _ _ 22 22 rfl _ _ rfl rfl (HC2.out _ (fun _ => rfl) (fun _ => rfl) _ _) ?_)
  go_ret
  first | exact ⟨rfl, by rw [HW.out]⟩ | (rw [HW.out]; exact ⟨rfl, rfl⟩)
set_option maxHeartbeats 8000000 in
set_option maxRecDepth 100000 in
/-- In the midst, without room. -/
theorem mid_grow (g n cap i vb : Nat) (cs : List Value) (k : ByteArray) (W : World) (hi : i < n) (hnc : n ≤ cap) (hroom : cap < n + 1) (hbig : n ≤ 1000000) (hcl : cs.length = n) (hg : g < W.heap.size) (hvb : vb < W.heap.size)
    (hcs : ∀ j u, cs[j]? = some u → W.cell? ⟨g, j, none⟩ = some u) (h1 : ∀ u ∈ cs, u.oneCell' = true) (hv : W.cell? ⟨vb, 0, none⟩ = some (.string k)) :
    Calls Try.prog 52 #[.slice (some ⟨g, 0, none⟩) n cap, .int .i64 i, .slice (some ⟨vb, 0, none⟩) 1 1] W fun e w' =>
      e = .returned (.slice (some ⟨W.heap.size, 0, none⟩) (n + 1) (grownCap W (n + 1) cap 9)) ∧
      w' = (((W.alloc (.cells ((cs.take i).toArray ++ Builtin.zeroCells (Value.string ⟨#[]⟩).cells (n + 1 - i) ++ Builtin.zeroCells (Value.string ⟨#[]⟩).cells (grownCap W (n + 1) cap 9 - (n + 1))) 9)).setCells W.heap.size i [.string k]).drew.drew).setCells W.heap.size (i + 1) (cs.drop i) := by
  obtain ⟨i0, hi0, hz0, hzs, hzb⟩ := info_parts info9
  have hkk : (n : Int) + 1 - (i : Int) = ((n + 1 - i : Nat) : Int) := by omega
  have hik : i + (n + 1 - i) = n + 1 := by omega
  have hold : (Builtin.firstCells i0.size i (.slice (some ⟨g, 0, none⟩) i cap)).run Try.prog W.drew = .ok (cs.take i).toArray W.drew := by
    rw [hzs]
    exact run_firstCells_some W.drew 1 i ⟨g, 0, none⟩ i cap (cs.take i) (by rw [List.length_take]; omega) (fun j u hj => by
      rw [Addr.add_lit, Nat.zero_add]
      rw [List.getElem?_take] at hj
      split at hj
      · exact hcs j u hj
      · cases hj)
  obtain ⟨G, hG⟩ : ∃ G, grownCap W (n + 1) cap 9 = G := ⟨_, rfl⟩
  obtain ⟨ROW, hROW⟩ : ∃ ROW : Array Value, (cs.take i).toArray ++ Builtin.zeroCells (Value.string ⟨#[]⟩).cells (n + 1 - i) ++ Builtin.zeroCells (Value.string ⟨#[]⟩).cells (G - (n + 1)) = ROW := ⟨_, rfl⟩
  have hrz : ∀ ty, (Builtin.append_ #[22, 3] ty #[.slice (some ⟨g, 0, none⟩) i cap, .int .i64 ((n : Int) + 1 - (i : Int))]).run Try.prog W = .ok (.slice (some ⟨W.heap.size, 0, none⟩) (n + 1) G) (W.drew.alloc (.cells ROW 9)) := fun ty => by
    have h := run_append_grow_zeros W 22 3 ty 9 i0 _ .i64 .i64 Try.underlying22 Try.underlying3 hi0 hz0 (some ⟨g, 0, none⟩) i cap (cs.take i) hold (n + 1 - i) (by omega) (by omega) (by omega) (by omega) (by rw [hzb]; omega) (by rw [hzb, hik]; exact growslice_fits hroom (by omega))
    rw [hik, hG, hROW] at h
    rw [hkk]
    exact h
  have hGn : n + 1 ≤ G := by rw [← hG]; exact grownCap_ge W _ _ _
  have hG63 : G ≤ 9223372036854775807 := by
    have := grownCap_le_maxLen W (n + 1) cap 9 (by unfold maxLen; omega)
    rw [hG] at this
    unfold maxLen at this
    omega
  have hRl : n + 1 ≤ ROW.size := by
    rw [← hROW]
    simp [Builtin.zeroCells, Value.cells]
    omega
  obtain ⟨W1, hW1⟩ : ∃ W1, W.drew.alloc (.cells ROW 9) = W1 := ⟨_, rfl⟩
  have hN : ∀ j, j < n + 1 → (W1.cell? ⟨W.heap.size, j, none⟩).isSome = true := fun j hj => by
    rw [← hW1, World.cell?_alloc_at (w := W.drew) ROW _ W.heap.size j rfl, Array.getElem?_eq_getElem (by omega)]; rfl
  have hNf : ∀ j, W1.frozen? ⟨W.heap.size, j, none⟩ = false := fun j => by rw [← hW1]; exact World.frozen?_alloc_at (w := W.drew) ROW _ W.heap.size j rfl
  have hOb : ∀ j u, cs[j]? = some u → W1.cell? ⟨g, j, none⟩ = some u := fun j u h => by rw [← hW1, World.cell?_alloc_past (w := W.drew) _ g j hg]; exact hcs j u h
  have hOv : W1.cell? ⟨vb, 0, none⟩ = some (.string k) := by rw [← hW1, World.cell?_alloc_past (w := W.drew) _ vb 0 hvb]; exact hv
  have hdl : (cs.drop i).length = n - i := by rw [List.length_drop, hcl]
  have hgN : g ≠ W.heap.size := by omega
  have hcpA : ∀ (V : World), (∀ x, V.cell? x = W1.cell? x) → (∀ x, V.frozen? x = W1.frozen? x) → ∀ ty dc, (Builtin.copy_ #[22, 22] ty #[.slice (some ⟨W.heap.size, i, none⟩) (n + 1 - i) dc, .slice (some ⟨vb, 0, none⟩) 1 1]).run Try.prog V = .ok (goInt ([.string k] : List Value).length) (V.setCells W.heap.size i [.string k]) := fun V hc hf ty dc =>
    run_copy_cells V 22 22 ty 9 W.heap.size i (n + 1 - i) dc ⟨vb, 0, none⟩ 1 1 [.string k] Try.underlying22 size9 (by show 1 = Nat.min 1 (n + 1 - i); simp only [Nat.min_def]; split <;> omega)
      (one_get (by rw [hc]; exact hOv)) (fun j hj => by rw [hc]; exact hN _ (by simp at hj; omega)) (fun j hj => by rw [hf]; exact hNf _) one_one
  have hcpB : ∀ (V : World), (∀ x, V.cell? x = (W1.setCells W.heap.size i [.string k]).cell? x) → (∀ x, V.frozen? x = (W1.setCells W.heap.size i [.string k]).frozen? x) → ∀ ty dc sc, (Builtin.copy_ #[22, 22] ty #[.slice (some ⟨W.heap.size, i + 1, none⟩) (n - i) dc, .slice (some ⟨g, i, none⟩) (n - i) sc]).run Try.prog V = .ok (goInt (cs.drop i).length) (V.setCells W.heap.size (i + 1) (cs.drop i)) := fun V hc hf ty dc sc =>
    run_copy_cells V 22 22 ty 9 W.heap.size (i + 1) (n - i) dc ⟨g, i, none⟩ (n - i) sc (cs.drop i) Try.underlying22 size9 (by rw [hdl]; simp only [Nat.min_def]; split <;> omega)
      (drop_get (W := V) (n := n) (fun j u h => by rw [hc, World.cell?_setCells_out _ _ _ _ _ (fun e _ => absurd e hgN)]; exact hOb j u h))
      (fun j hj => by rw [hc]; exact isSome_setCells _ _ _ _ (fun t ht => hN _ (by simp at ht; omega)) _ (hN _ (by omega)))
      (fun j hj => by rw [hf, World.frozen?_setCells]; exact hNf _) (fun u hu => h1 u (List.mem_of_mem_drop hu))
  rw [hG, hROW]
  subst hW1
  have mixed : Try.prog.follows .mixedOrders = true := by kernel_rfl
  have hw1 : IntKind.i64.wrap ((i : Int) + 1) = (i : Int) + 1 := by rw [IntKind.wrap_i64]; omega
  have hw2 : IntKind.i64.wrap ((n : Int) + 1) = (n : Int) + 1 := by rw [IntKind.wrap_i64]; omega
  have hb1 : (0 : Int) ≤ (i : Int) + 1 := by omega
  have hin : i ≤ n := by omega
  have htn : ((i : Int) + 1).toNat = i + 1 := by omega
  have hb3 : (i : Int) ≤ (n : Int) := by omega
  have hz2 : ¬ ((i : Int) = (n : Int)) := by omega
  have hz3 : (cap : Int) < (n : Int) + 1 := by omega
  have hGi : ¬ (G = i) := by omega
  have hGim : ¬ (G = i + 1) := by omega
  have hci : ¬ (cap = i) := by omega
  have HR := Hid.mk hrz
  have HCA := Hid.mk hcpA
  have HCB := Hid.mk hcpB
  have hE1 : ∀ x, ((W.alloc (.cells ROW 9)).drew).cell? x = (W.drew.alloc (.cells ROW 9)).cell? x := fun x => rfl
  have hE2 : ∀ x, ((W.alloc (.cells ROW 9)).drew).frozen? x = (W.drew.alloc (.cells ROW 9)).frozen? x := fun x => rfl
  have hF1 : ∀ x, (((W.alloc (.cells ROW 9)).drew.setCells W.heap.size i [.string k]).drew).cell? x = ((W.drew.alloc (.cells ROW 9)).setCells W.heap.size i [.string k]).cell? x := fun x => rfl
  have hF2 : ∀ x, (((W.alloc (.cells ROW 9)).drew.setCells W.heap.size i [.string k]).drew).frozen? x = ((W.drew.alloc (.cells ROW 9)).setCells W.heap.size i [.string k]).frozen? x := fun x => rfl
  clear hrz hcpA hcpB hkk hik hold hROW hG hRl hN hNf hOb hOv hcs h1 hv hi0 hz0 hzs hzb hdl hcl
  go_enter Try.func52, Try.ntmps52
  go_wp2_with (first
    | (at_builtin; refine wpList_append_run _ rfl _ _ _ _ rfl _ _ rfl rfl _ _ (HR.out _) ?_)
    | ((with_reducible refine gate_cp (.tmp 43) (.tmp 44) 22 22 rfl ?_); refine wpList_copy_runI _ rfl _ _ 22 22 rfl _ _ rfl rfl (HCA.out _ hE1 hE2 _ _) ?_))
  go_region_law_o (refine step_copy_runI rfl _ _ 22 22 rfl (.slice (some ⟨W.heap.size, i + 1, none⟩) (n - i) (G - (i + 1))) (.slice (some ⟨g, i, none⟩) (n - i) (cap - i)) (by simp [Act.eval, Act.put]) (by simp [Act.eval, Act.put]) (HCB.out _ hF1 hF2 3 (G - (i + 1)) (cap - i)) ?_)
  go_wp2
  go_ret
  exact ⟨rfl, by simp only [drew_setCells]⟩
end Go.Proofs.Ythpcplpannbipaa.Jn_
namespace Go.Proofs.Ythpcplpannbipaa.Jn_
open Go.RowKit Go.Proofs.YthpcplpannbipaaW.PrintWords Go.Proofs.YthpcplpannbipaaW.PrintLast

theorem own_fresh {w : World} {base g cap n : Nat} {cur : Array Value} {xs : List ByteArray} (hx : xs.length = n) (hb : base ≤ g) (hh : w.heap[g]? = some (.cells cur 9 (0, 0))) (hn : n ≤ cap) (hc : cap ≤ 9223372036854775807) (hs : cur.size = cap) (ht : cur.toList.take n = xs.map Value.string) :
    Kd.string.R 9 w base (fun _ => True) (.slice (some ⟨g, 0, none⟩) n cap) xs := by
  subst hx
  exact Kd.R_of_own ⟨by simp [encs], .inr ⟨g, cap, cur, rfl, hb, hh, hn, by unfold maxLen; exact hc, by rw [hs, Nat.mul_one], by rw [Nat.mul_one]; exact ht⟩⟩ (fun _ _ => trivial)
theorem below_cells {base : Nat} {w0 W : World} (h : Below base w0 W) {g : Nat} (hg : base ≤ g) (o : Nat) (vs : List Value) : Below base w0 (W.setCells g o vs) := by
  obtain ⟨h1, h2, h3, h4⟩ := setCells_same g vs o W
  exact ⟨h1.trans h.os, h2.trans h.tape, h3.trans h.output, by rw [h4]; exact h.size, fun k hk => (setCells_far vs o k (by omega)).trans (h.block k hk)⟩
/-- A row keeps its block, or has a new one. -/
def Grew (v v' : Value) (w : World) : Prop := v'.ownBlock = v.ownBlock ∨ ∃ n, v'.ownBlock = some n ∧ w.heap.size ≤ n
theorem fr_cells {ok : Nat → Prop} {w0 W : World} (h : Sa.FrO ok w0 W) {g : Nat} (hg : ok g ∨ w0.heap.size ≤ g) (o : Nat) (vs : List Value) : Sa.FrO ok w0 (W.setCells g o vs) := by
  obtain ⟨h1, h2, h3, h4⟩ := setCells_same g vs o W
  exact ⟨h1.trans h.os, h2.trans h.tape, h3.trans h.output, by rw [h4]; exact h.size, fun k hk ho => (setCells_far vs o k (by rintro rfl; rcases hg with hg | hg; exact ho hg; omega)).trans (h.block k hk ho)⟩
theorem fr_drew {ok : Nat → Prop} {w0 W : World} (h : Sa.FrO ok w0 W) : Sa.FrO ok w0 W.drew := ⟨h.os, h.tape, h.output, h.size, h.block⟩
theorem fr_alloc {ok : Nat → Prop} {w0 W : World} (h : Sa.FrO ok w0 W) (o : Obj) : Sa.FrO ok w0 (W.alloc o) :=
  ⟨h.os, h.tape, h.output, Nat.le_trans h.size (by simp), fun k hk ho => ((Go.MapKept.heap_alloc W o).2 k (Nat.lt_of_lt_of_le hk h.size)).trans (h.block k hk ho)⟩
theorem take_mid {α : Type} {A B C : List α} {k : α} {n : Nat} (h : A.length + 1 + B.length = n) : (A ++ [k] ++ (B ++ C)).take n = A ++ k :: B := by
  have : A ++ [k] ++ (B ++ C) = (A ++ k :: B) ++ C := by simp
  rw [this]
  exact List.take_left' (by simp; omega)
set_option maxRecDepth 100000 in
theorem insert_calls (w : World) (base : Nat) (v : Value) (s : List ByteArray) (k : ByteArray) (i : Nat) (hi : i ≤ s.length) (hbig : s.length ≤ 1000000) (HO : Kd.string.R 9 w base (fun _ => True) v s) (hb : base ≤ w.heap.size) :
    Calls Try.prog 52 #[v, .int .i64 i, .slice (some ⟨w.heap.size, 0, none⟩) 1 1] (w.alloc (.cells #[.string k] 9)) fun e w' => ∃ v', e = .returned v' ∧ Kd.string.R 9 w' base (fun _ => True) v' (s.take i ++ k :: s.drop i) ∧ Sa.FrO (fun n => v.ownBlock = some n) w w' ∧ Grew v v' w := by
  obtain ⟨hwa, hws⟩ : (w.alloc (.cells #[.string k] 9)).heap[w.heap.size]? = some (.cells #[.string k] 9 (0, 0)) ∧ (w.alloc (.cells #[.string k] 9)).heap.size = w.heap.size + 1 := ⟨(Go.MapKept.heap_alloc w _).1, Array.size_push _⟩
  have hbA : Below base w (w.alloc (.cells #[.string k] 9)) := (Below.refl base w).alloc hb _
  have hfA : Sa.FrO (fun n => v.ownBlock = some n) w (w.alloc (.cells #[.string k] 9)) := Sa.FrO.of_below (below_alloc (Below.refl _ _) _)
  have hold : ∀ j, j < w.heap.size → (w.alloc (.cells #[.string k] 9)).heap[j]? = w.heap[j]? := fun j hj => (Go.MapKept.heap_alloc w _).2 j hj
  have hlen : (s.take i ++ k :: s.drop i).length = s.length + 1 := by simp; omega
  generalize w.alloc (.cells #[.string k] 9) = W at hwa hws hbA hfA hold ⊢
  have hv : W.cell? ⟨w.heap.size, 0, none⟩ = some (.string k) := blk_cell hwa 0
  have hown := Kd.own_of_R HO
  rcases hown.2 with ⟨rfl, h0⟩ | ⟨g, cap, cur, rfl, hbg, hh, hnc, hcm, hcs, htk⟩
  · have hs0 : s = [] := List.length_eq_zero_iff.1 h0
    subst hs0
    obtain rfl : i = 0 := by simpa using hi
    refine (end_grow none 0 0 w.heap.size [] k W (Nat.le_refl _) (by omega) (by omega) rfl (fun _ => rfl) (fun a h => by cases h) hv).mono ?_
    rintro e w' ⟨rfl, rfl⟩
    refine ⟨_, rfl, ?_, ?_⟩
    · have hge := grownCap_ge W (0 + 1) 0 9
      have hle : grownCap W (0 + 1) 0 9 ≤ 9223372036854775807 := by have := grownCap_le_maxLen W (0 + 1) 0 9 (by unfold maxLen; omega); unfold maxLen at this; exact this
      have hal : (W.drew.alloc (.cells (([] ++ [Value.string k]).toArray ++ Builtin.zeroCells (Value.string ⟨#[]⟩).cells (grownCap W (0 + 1) 0 9 - (0 + 1))) 9)).heap[W.heap.size]? = _ := (Go.MapKept.heap_alloc W.drew _).1
      generalize grownCap W (0 + 1) 0 9 = G at hge hle hal ⊢
      refine own_fresh (xs := [k]) rfl (g := W.heap.size) (by omega) hal hge hle (by simp [Builtin.zeroCells, Value.cells]; omega) (by simp)
    · exact ⟨fr_alloc (fr_drew hfA) _, .inr ⟨_, rfl, by show w.heap.size ≤ W.heap.size; omega⟩⟩
  · have hcm' : cap ≤ 9223372036854775807 := by unfold maxLen at hcm; omega
    rw [Nat.mul_one] at hcs htk
    have hgl : g < w.heap.size := (Array.getElem?_eq_some_iff.1 hh).1
    have hhW : W.heap[g]? = some (.cells cur 9 (0, 0)) := (hold g hgl).trans hh
    obtain ⟨cs, hcse⟩ : ∃ cs, encs Value.string s = cs := ⟨_, rfl⟩
    have hcl : cs.length = s.length := by rw [← hcse]; simp [encs]
    rw [hcse] at htk
    have hcurl : cur.toList.length = cap := by rw [Array.length_toList]; exact hcs
    have hget : ∀ j u, cs[j]? = some u → W.cell? ⟨g, j, none⟩ = some u := fun j u h => by
      have hj : j < s.length := by rw [← hcl]; exact (List.getElem?_eq_some_iff.1 h).1
      have h2 : cur.toList[j]? = some u := by rw [← htk, List.getElem?_take_of_lt hj] at h; exact h
      unfold World.cell?
      rw [hhW]
      simpa using h2
    have h1 : ∀ u ∈ cs, u.oneCell' = true := fun u hu => by
      rw [← hcse] at hu
      obtain ⟨x, _, rfl⟩ := List.mem_map.1 hu
      rfl
    have hsp : ∀ j, j < cap → (W.cell? ⟨g, j, none⟩).isSome = true := fun j hj => by
      unfold World.cell?
      rw [hhW]
      simp only [Option.isSome_none, Bool.false_eq_true, if_false]
      rw [Array.getElem?_eq_getElem (by omega)]; rfl
    have hfz : ∀ j, W.frozen? ⟨g, j, none⟩ = false := fun j => blk_frozen hhW j
    have hmap : cs.take i ++ .string k :: cs.drop i = (s.take i ++ k :: s.drop i).map Value.string := by
      rw [← hcse]; simp [encs, List.map_take, List.map_drop]
    by_cases hin : i = s.length
    · subst hin
      by_cases hroom : s.length + 1 ≤ cap
      · refine (end_room g s.length cap w.heap.size k W hroom hcm' (hsp _ (by omega)) (hfz _) hv).mono ?_
        rintro e w' ⟨rfl, rfl⟩
        obtain ⟨cur', h3, h4, h5⟩ := setCells_row [.string k] s.length W cur hhW (by simp; omega)
        refine ⟨_, rfl, ?_, fr_cells hfA (.inl rfl) _ _, .inl rfl⟩
        refine own_fresh hlen hbg h3 (by omega) hcm' (by omega) ?_
        rw [h5, ← hmap, htk, List.take_of_length_le (show cs.length ≤ s.length by omega), List.drop_of_length_le (show cs.length ≤ s.length by omega)]
        have := take_mid (A := cs) (B := []) (C := cur.toList.drop (s.length + 1)) (k := Value.string k) (n := s.length + 1) (by simp; omega)
        simpa using this
      · refine (end_grow (some ⟨g, 0, none⟩) s.length cap w.heap.size cs k W hnc (by omega) hbig hcl (fun h => by cases h) (fun a h j u hj => by obtain rfl := Option.some.inj h; rw [add_plain]; exact hget j u hj) hv).mono ?_
        rintro e w' ⟨rfl, rfl⟩
        have hge := grownCap_ge W (s.length + 1) cap 9
        have hle : grownCap W (s.length + 1) cap 9 ≤ 9223372036854775807 := by have := grownCap_le_maxLen W (s.length + 1) cap 9 (by unfold maxLen; omega); unfold maxLen at this; exact this
        have hal : (W.drew.alloc (.cells ((cs ++ [Value.string k]).toArray ++ Builtin.zeroCells (Value.string ⟨#[]⟩).cells (grownCap W (s.length + 1) cap 9 - (s.length + 1))) 9)).heap[W.heap.size]? = _ := (Go.MapKept.heap_alloc W.drew _).1
        refine ⟨_, rfl, ?_, fr_alloc (fr_drew hfA) _, .inr ⟨_, rfl, by show w.heap.size ≤ W.heap.size; omega⟩⟩
        refine own_fresh hlen (g := W.heap.size) (by omega) hal (by omega) hle (by simp [Builtin.zeroCells, Value.cells]; omega) ?_
        rw [← hmap, List.take_of_length_le (show cs.length ≤ s.length by omega), List.drop_of_length_le (show cs.length ≤ s.length by omega)]
        simp only [Array.toList_append]
        exact List.take_left' (by simp; omega)
    · have hi' : i < s.length := by omega
      by_cases hroom : s.length + 1 ≤ cap
      · refine (mid_room g s.length cap i w.heap.size cs k W hi' hroom hcm' (by omega) hcl hget h1 (fun j hj => hsp j (by omega)) hfz hv 9 9 1 cap (by unfold World.shape?; rw [hwa]; rfl) (by unfold World.shape?; rw [hhW]; simp [hcs]) (by omega) (blk_frozen hwa 0) (blk_frozen hwa 1)).mono ?_
        rintro e w' ⟨rfl, rfl⟩
        have hdl : (cs.drop i).length = s.length - i := by rw [List.length_drop, hcl]
        obtain ⟨cur1, h3, h4, h5⟩ := setCells_row (cs.drop i) (i + 1) W.drew cur hhW (by rw [hdl]; omega)
        obtain ⟨cur2, h6, h7, h8⟩ := setCells_row [.string k] i (W.drew.setCells g (i + 1) (cs.drop i)) cur1 h3 (by simp; omega)
        refine ⟨_, rfl, ?_, fr_cells (fr_cells (fr_drew hfA) (.inl rfl) _ _) (.inl rfl) _ _, .inl rfl⟩
        refine own_fresh hlen hbg h6 (by omega) hcm' (by omega) ?_
        have e1 : cur1.toList.take i = cs.take i := by
          rw [h5, List.append_assoc, List.take_append_of_le_length (by rw [List.length_take]; omega), List.take_take, Nat.min_eq_left (by omega), ← htk, List.take_take, Nat.min_eq_left (by omega)]
        have e2 : cur1.toList.drop (i + 1) = cs.drop i ++ cur.toList.drop (i + 1 + (cs.drop i).length) := by
          rw [h5, List.append_assoc]
          exact List.drop_left' (by rw [List.length_take]; omega)
        rw [h8, ← hmap, e1, show i + ([Value.string k] : List Value).length = i + 1 from rfl, e2]
        exact take_mid (by rw [List.length_take, hdl]; omega)
      · refine (mid_grow g s.length cap i w.heap.size cs k W hi' hnc (by omega) hbig hcl (by omega) (by omega) hget h1 hv).mono ?_
        rintro e w' ⟨rfl, rfl⟩
        have hge := grownCap_ge W (s.length + 1) cap 9
        have hle : grownCap W (s.length + 1) cap 9 ≤ 9223372036854775807 := by have := grownCap_le_maxLen W (s.length + 1) cap 9 (by unfold maxLen; omega); unfold maxLen at this; exact this
        have hdl : (cs.drop i).length = s.length - i := by rw [List.length_drop, hcl]
        have htl : (cs.take i).length = i := by rw [List.length_take, hcl]; omega
        obtain ⟨ROW, hR⟩ : ∃ ROW : Array Value, (cs.take i).toArray ++ Builtin.zeroCells (Value.string ⟨#[]⟩).cells (s.length + 1 - i) ++ Builtin.zeroCells (Value.string ⟨#[]⟩).cells (grownCap W (s.length + 1) cap 9 - (s.length + 1)) = ROW := ⟨_, rfl⟩
        have hRs : ROW.size = grownCap W (s.length + 1) cap 9 := by rw [← hR]; simp [Builtin.zeroCells, Value.cells]; omega
        have hRt : ROW.toList.take i = cs.take i := by
          rw [← hR]
          simp only [Array.toList_append, List.append_assoc]
          exact List.take_left' htl
        rw [hR]
        have hal := (Go.MapKept.heap_alloc W (.cells ROW 9)).1
        obtain ⟨cur1, h3, h4, h5⟩ := setCells_row [.string k] i (W.alloc (.cells ROW 9)) ROW hal (by simp; omega)
        obtain ⟨cur2, h6, h7, h8⟩ := setCells_row (cs.drop i) (i + 1) (((W.alloc (.cells ROW 9)).setCells W.heap.size i [.string k]).drew.drew) cur1 h3 (by rw [hdl]; omega)
        refine ⟨_, rfl, ?_, fr_cells (fr_drew (fr_drew (fr_cells (fr_alloc hfA _) (.inr (by omega)) _ _))) (.inr (by omega)) _ _, .inr ⟨_, rfl, by show w.heap.size ≤ W.heap.size; omega⟩⟩
        refine own_fresh hlen (g := W.heap.size) (by omega) h6 (by omega) hle (by omega) ?_
        have e1 : cur1.toList.take (i + 1) = cs.take i ++ [.string k] := by
          rw [h5, hRt]
          exact List.take_left' (by simp; omega)
        rw [h8, ← hmap, e1, List.append_assoc]
        exact take_mid (by rw [htl, hdl]; omega)
end Go.Proofs.Ythpcplpannbipaa.Jn_
