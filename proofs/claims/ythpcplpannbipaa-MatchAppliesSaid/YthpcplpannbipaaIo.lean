/- slices.Insert of one key into a row of one's own; no condition. -/
import Derived.Test.YthpcplpannbipaaX0
import Derived.Test.YthpcplpannbipaaIn
import Derived.Test.YthpcplpannbipaaSh
import Derived.Shelf.SlicesG.Delete
import Derived.Shelf.SlicesG.Clone
import Derived.Lib.OwnBridge
import Derived.Lib.RowBridge
set_option linter.unusedVariables false
set_option linter.unusedSimpArgs false
namespace Go.Proofs.Ythpcplpannbipaa.In_
open Go.RowKit Go.Proofs.YthpcplpannbipaaW.PrintWords Go.Proofs.YthpcplpannbipaaW.PrintLast

theorem own_fresh {w : World} {base g cap n : Nat} {cur : Array Value} {xs : List ByteArray} (hx : xs.length = n) (hb : base ≤ g) (hh : w.heap[g]? = some (.cells cur 9 (0, 0))) (hn : n ≤ cap) (hc : cap ≤ 9223372036854775807) (hs : cur.size = cap) (ht : cur.toList.take n = xs.map Value.string) :
    Kd.string.R 9 w base (fun _ => True) (.slice (some ⟨g, 0, none⟩) n cap) xs := by
  subst hx
  exact Kd.R_of_own ⟨by simp [encs], .inr ⟨g, cap, cur, rfl, hb, hh, hn, by unfold maxLen; exact hc, by rw [hs, Nat.mul_one], by rw [Nat.mul_one]; exact ht⟩⟩ (fun _ _ => trivial)
theorem below_cells {base : Nat} {w0 W : World} (h : Below base w0 W) {g : Nat} (hg : base ≤ g) (o : Nat) (vs : List Value) : Below base w0 (W.setCells g o vs) := by
  obtain ⟨h1, h2, h3, h4⟩ := setCells_same g vs o W
  exact ⟨h1.trans h.os, h2.trans h.tape, h3.trans h.output, by rw [h4]; exact h.size, fun k hk => (setCells_far vs o k (by omega)).trans (h.block k hk)⟩
theorem take_mid {α : Type} {A B C : List α} {k : α} {n : Nat} (h : A.length + 1 + B.length = n) : (A ++ [k] ++ (B ++ C)).take n = A ++ k :: B := by
  have : A ++ [k] ++ (B ++ C) = (A ++ k :: B) ++ C := by simp
  rw [this]
  exact List.take_left' (by simp; omega)
set_option maxRecDepth 100000 in
theorem insert_calls (w : World) (base : Nat) (v : Value) (s : List ByteArray) (k : ByteArray) (i : Nat) (hi : i ≤ s.length) (hbig : s.length ≤ 1000000) (HO : Kd.string.R 9 w base (fun _ => True) v s) (hb : base ≤ w.heap.size) :
    Calls Try.prog 71 #[v, .int .i64 i, .slice (some ⟨w.heap.size, 0, none⟩) 1 1] (w.alloc (.cells #[.string k] 9)) fun e w' => ∃ v', e = .returned v' ∧ Kd.string.R 9 w' base (fun _ => True) v' (s.take i ++ k :: s.drop i) ∧ Below base w w' := by
  obtain ⟨hwa, hws⟩ : (w.alloc (.cells #[.string k] 9)).heap[w.heap.size]? = some (.cells #[.string k] 9 (0, 0)) ∧ (w.alloc (.cells #[.string k] 9)).heap.size = w.heap.size + 1 := ⟨(Go.MapKept.heap_alloc w _).1, Array.size_push _⟩
  have hbA : Below base w (w.alloc (.cells #[.string k] 9)) := (Below.refl base w).alloc hb _
  have hold : ∀ j, j < w.heap.size → (w.alloc (.cells #[.string k] 9)).heap[j]? = w.heap[j]? := fun j hj => (Go.MapKept.heap_alloc w _).2 j hj
  have hlen : (s.take i ++ k :: s.drop i).length = s.length + 1 := by simp; omega
  generalize w.alloc (.cells #[.string k] 9) = W at hwa hws hbA hold ⊢
  have hv : W.cell? ⟨w.heap.size, 0, none⟩ = some (.string k) := blk_cell hwa 0
  have hown := Kd.own_of_R HO
  rcases hown.2 with ⟨rfl, h0⟩ | ⟨g, cap, cur, rfl, hbg, hh, hnc, hcm, hcs, htk⟩
  · have hs0 : s = [] := List.length_eq_zero_iff.1 h0
    subst hs0
    obtain rfl : i = 0 := by simpa using hi
    refine (end_grow none 0 0 w.heap.size [] k W (Nat.le_refl _) (by omega) (by omega) rfl (fun _ => rfl) (fun a h => by cases h) hv).mono ?_
    rintro e w' ⟨rfl, rfl⟩
    refine ⟨_, rfl, ?_, ?_⟩
    · have hge := grownCap_ge W (0 + 1) 0 9
      have hle : grownCap W (0 + 1) 0 9 ≤ 9223372036854775807 := by have := grownCap_le_maxLen W (0 + 1) 0 9 (by unfold maxLen; omega); unfold maxLen at this; exact this
      have hal : (W.drew.alloc (.cells (([] ++ [Value.string k]).toArray ++ Builtin.zeroCells (Value.string ⟨#[]⟩).cells (grownCap W (0 + 1) 0 9 - (0 + 1))) 9)).heap[W.heap.size]? = _ := (Go.MapKept.heap_alloc W.drew _).1
      generalize grownCap W (0 + 1) 0 9 = G at hge hle hal ⊢
      refine own_fresh (xs := [k]) rfl (g := W.heap.size) (by omega) hal hge hle (by simp [Builtin.zeroCells, Value.cells]; omega) (by simp)
    · exact hbA.drew.alloc (by show base ≤ W.heap.size; omega) _
  · have hcm' : cap ≤ 9223372036854775807 := by unfold maxLen at hcm; omega
    rw [Nat.mul_one] at hcs htk
    have hgl : g < w.heap.size := (Array.getElem?_eq_some_iff.1 hh).1
    have hhW : W.heap[g]? = some (.cells cur 9 (0, 0)) := (hold g hgl).trans hh
    obtain ⟨cs, hcse⟩ : ∃ cs, encs Value.string s = cs := ⟨_, rfl⟩
    have hcl : cs.length = s.length := by rw [← hcse]; simp [encs]
    rw [hcse] at htk
    have hcurl : cur.toList.length = cap := by rw [Array.length_toList]; exact hcs
    have hget : ∀ j u, cs[j]? = some u → W.cell? ⟨g, j, none⟩ = some u := fun j u h => by
      have hj : j < s.length := by rw [← hcl]; exact (List.getElem?_eq_some_iff.1 h).1
      have h2 : cur.toList[j]? = some u := by rw [← htk, List.getElem?_take_of_lt hj] at h; exact h
      unfold World.cell?
      rw [hhW]
      simpa using h2
    have h1 : ∀ u ∈ cs, u.oneCell' = true := fun u hu => by
      rw [← hcse] at hu
      obtain ⟨x, _, rfl⟩ := List.mem_map.1 hu
      rfl
    have hsp : ∀ j, j < cap → (W.cell? ⟨g, j, none⟩).isSome = true := fun j hj => by
      unfold World.cell?
      rw [hhW]
      simp only [Option.isSome_none, Bool.false_eq_true, if_false]
      rw [Array.getElem?_eq_getElem (by omega)]; rfl
    have hfz : ∀ j, W.frozen? ⟨g, j, none⟩ = false := fun j => blk_frozen hhW j
    have hmap : cs.take i ++ .string k :: cs.drop i = (s.take i ++ k :: s.drop i).map Value.string := by
      rw [← hcse]; simp [encs, List.map_take, List.map_drop]
    by_cases hin : i = s.length
    · subst hin
      by_cases hroom : s.length + 1 ≤ cap
      · refine (end_room g s.length cap w.heap.size k W hroom hcm' (hsp _ (by omega)) (hfz _) hv).mono ?_
        rintro e w' ⟨rfl, rfl⟩
        obtain ⟨cur', h3, h4, h5⟩ := setCells_row [.string k] s.length W cur hhW (by simp; omega)
        refine ⟨_, rfl, ?_, below_cells hbA (by omega) _ _⟩
        refine own_fresh hlen hbg h3 (by omega) hcm' (by omega) ?_
        rw [h5, ← hmap, htk, List.take_of_length_le (show cs.length ≤ s.length by omega), List.drop_of_length_le (show cs.length ≤ s.length by omega)]
        have := take_mid (A := cs) (B := []) (C := cur.toList.drop (s.length + 1)) (k := Value.string k) (n := s.length + 1) (by simp; omega)
        simpa using this
      · refine (end_grow (some ⟨g, 0, none⟩) s.length cap w.heap.size cs k W hnc (by omega) hbig hcl (fun h => by cases h) (fun a h j u hj => by obtain rfl := Option.some.inj h; rw [add_plain]; exact hget j u hj) hv).mono ?_
        rintro e w' ⟨rfl, rfl⟩
        have hge := grownCap_ge W (s.length + 1) cap 9
        have hle : grownCap W (s.length + 1) cap 9 ≤ 9223372036854775807 := by have := grownCap_le_maxLen W (s.length + 1) cap 9 (by unfold maxLen; omega); unfold maxLen at this; exact this
        have hal : (W.drew.alloc (.cells ((cs ++ [Value.string k]).toArray ++ Builtin.zeroCells (Value.string ⟨#[]⟩).cells (grownCap W (s.length + 1) cap 9 - (s.length + 1))) 9)).heap[W.heap.size]? = _ := (Go.MapKept.heap_alloc W.drew _).1
        refine ⟨_, rfl, ?_, hbA.drew.alloc (by show base ≤ W.heap.size; omega) _⟩
        refine own_fresh hlen (g := W.heap.size) (by omega) hal (by omega) hle (by simp [Builtin.zeroCells, Value.cells]; omega) ?_
        rw [← hmap, List.take_of_length_le (show cs.length ≤ s.length by omega), List.drop_of_length_le (show cs.length ≤ s.length by omega)]
        simp only [Array.toList_append]
        exact List.take_left' (by simp; omega)
    · have hi' : i < s.length := by omega
      by_cases hroom : s.length + 1 ≤ cap
      · refine (mid_room g s.length cap i w.heap.size cs k W hi' hroom hcm' (by omega) hcl hget h1 (fun j hj => hsp j (by omega)) hfz hv 9 9 1 cap (by unfold World.shape?; rw [hwa]; rfl) (by unfold World.shape?; rw [hhW]; simp [hcs]) (by omega) (blk_frozen hwa 0) (blk_frozen hwa 1)).mono ?_
        rintro e w' ⟨rfl, rfl⟩
        have hdl : (cs.drop i).length = s.length - i := by rw [List.length_drop, hcl]
        obtain ⟨cur1, h3, h4, h5⟩ := setCells_row (cs.drop i) (i + 1) W.drew cur hhW (by rw [hdl]; omega)
        obtain ⟨cur2, h6, h7, h8⟩ := setCells_row [.string k] i (W.drew.setCells g (i + 1) (cs.drop i)) cur1 h3 (by simp; omega)
        refine ⟨_, rfl, ?_, below_cells (below_cells hbA.drew (by omega) _ _) (by omega) _ _⟩
        refine own_fresh hlen hbg h6 (by omega) hcm' (by omega) ?_
        have e1 : cur1.toList.take i = cs.take i := by
          rw [h5, List.append_assoc, List.take_append_of_le_length (by rw [List.length_take]; omega), List.take_take, Nat.min_eq_left (by omega), ← htk, List.take_take, Nat.min_eq_left (by omega)]
        have e2 : cur1.toList.drop (i + 1) = cs.drop i ++ cur.toList.drop (i + 1 + (cs.drop i).length) := by
          rw [h5, List.append_assoc]
          exact List.drop_left' (by rw [List.length_take]; omega)
        rw [h8, ← hmap, e1, show i + ([Value.string k] : List Value).length = i + 1 from rfl, e2]
        exact take_mid (by rw [List.length_take, hdl]; omega)
      · refine (mid_grow g s.length cap i w.heap.size cs k W hi' hnc (by omega) hbig hcl (by omega) (by omega) hget h1 hv).mono ?_
        rintro e w' ⟨rfl, rfl⟩
        have hge := grownCap_ge W (s.length + 1) cap 9
        have hle : grownCap W (s.length + 1) cap 9 ≤ 9223372036854775807 := by have := grownCap_le_maxLen W (s.length + 1) cap 9 (by unfold maxLen; omega); unfold maxLen at this; exact this
        have hdl : (cs.drop i).length = s.length - i := by rw [List.length_drop, hcl]
        have htl : (cs.take i).length = i := by rw [List.length_take, hcl]; omega
        obtain ⟨ROW, hR⟩ : ∃ ROW : Array Value, (cs.take i).toArray ++ Builtin.zeroCells (Value.string ⟨#[]⟩).cells (s.length + 1 - i) ++ Builtin.zeroCells (Value.string ⟨#[]⟩).cells (grownCap W (s.length + 1) cap 9 - (s.length + 1)) = ROW := ⟨_, rfl⟩
        have hRs : ROW.size = grownCap W (s.length + 1) cap 9 := by rw [← hR]; simp [Builtin.zeroCells, Value.cells]; omega
        have hRt : ROW.toList.take i = cs.take i := by
          rw [← hR]
          simp only [Array.toList_append, List.append_assoc]
          exact List.take_left' htl
        rw [hR]
        have hal := (Go.MapKept.heap_alloc W (.cells ROW 9)).1
        obtain ⟨cur1, h3, h4, h5⟩ := setCells_row [.string k] i (W.alloc (.cells ROW 9)) ROW hal (by simp; omega)
        obtain ⟨cur2, h6, h7, h8⟩ := setCells_row (cs.drop i) (i + 1) (((W.alloc (.cells ROW 9)).setCells W.heap.size i [.string k]).drew.drew) cur1 h3 (by rw [hdl]; omega)
        refine ⟨_, rfl, ?_, below_cells ((below_cells (hbA.alloc (by omega) _) (by omega) _ _).drew.drew) (by omega) _ _⟩
        refine own_fresh hlen (g := W.heap.size) (by omega) h6 (by omega) hle (by omega) ?_
        have e1 : cur1.toList.take (i + 1) = cs.take i ++ [.string k] := by
          rw [h5, hRt]
          exact List.take_left' (by simp; omega)
        rw [h8, ← hmap, e1, List.append_assoc]
        exact take_mid (by rw [htl, hdl]; omega)
open Go.Shelf Go.Sort in
set_option maxHeartbeats 1000000 in
theorem delete_calls (w : World) (base : Nat) (v : Value) (s : List ByteArray) (i : Nat) (hi : i < s.length) (HO : Kd.string.R 9 w base (fun _ => True) v s) :
    Calls Try.prog 70 #[v, .int .i64 i, .int .i64 ((i + 1 : Nat) : Int)] w fun e w' => ∃ v', e = .returned v' ∧ Kd.string.R 9 w' base (fun _ => True) v' (s.take i ++ s.drop (i + 1)) ∧ Below base w w' := by
  have hown := Kd.own_of_R HO
  obtain ⟨ss, hss⟩ : ∃ ss, s.map (fun x => x.data.toList) = ss := ⟨_, rfl⟩
  have hse : ss.map encStr = encs Value.string s := by rw [← hss]; exact Lib.map_encStr s
  have hsl : ss.length = s.length := by rw [← hss, List.length_map]
  rw [← hse] at hown
  have hnn : v ≠ .slice none 0 0 := by
    rintro rfl
    rcases hown.2 with ⟨_, h0⟩ | ⟨g, cap, cur, hv, _⟩
    · omega
    · cases hv
  obtain ⟨g, cap, rfl, hbg, hgl, hncap, hcm, hlen, hH⟩ := Lib.holds_of_ownsRow hown hnn
  have h : Calls Try.prog 70 #[.slice (some ⟨g, 0, none⟩) ss.length cap, .int .i64 (i : Int), .int .i64 ((i + 1 : Nat) : Int)] w fun e w' => e = .returned (.slice (some ⟨g, 0, none⟩) (ss.length - (i + 1 - i)) cap) ∧ ∃ q, w' = putRow encStr (Sort.ahead w q) g 0 (ss.take i ++ ss.drop (i + 1) ++ List.replicate (i + 1 - i) []).toArray :=
    AnyG.slices_Delete_string Ythpcplpannbipaa.Sh.delete70 g 0 cap i (i + 1) ss w hH (by omega) (by unfold maxLen at hcm; omega) (by omega) (by omega)
  rw [hsl] at h
  refine h.mono ?_
  rintro e w' ⟨rfl, q, rfl⟩
  have hl2 : (s.take i ++ s.drop (i + 1)).length = s.length - (i + 1 - i) := by simp; omega
  refine ⟨_, rfl, ?_, Lib.below_putRow (Below.refl base w) hbg⟩
  have hc := Lib.ownsRow_putRow (q := q) (k := s.length - (i + 1 - i)) (ys := ss.take i ++ ss.drop (i + 1) ++ List.replicate (i + 1 - i) ([] : List UInt8)) hown (by simp; omega) (by omega)
  rw [List.take_left' (by simp; omega)] at hc
  rw [← hl2] at hc ⊢
  refine Kd.R_of_own ?_ (fun _ _ => trivial)
  have he : encs Value.string (s.take i ++ s.drop (i + 1)) = (ss.take i ++ ss.drop (i + 1)).map encStr := by
    rw [List.map_append, List.map_take, List.map_drop, hse]
    simp [encs, List.map_take, List.map_drop]
  rw [he]
  exact hc
theorem spot_none {w : World} {a : Addr} {v : Value} (h : w.cell? (a.add 0) = some v) : a.spot = none := by
  obtain ⟨b, o, s⟩ := a
  cases s with
  | none => rfl
  | some s =>
    simp only [Addr.add, if_true] at h
    unfold World.cell? at h
    split at h
    · simp at h
    · cases h
open Go.Shelf Go.Sort in
set_option maxHeartbeats 1000000 in
theorem clone_calls (w : World) (A : Option Addr) (c : Nat) (s : List ByteArray) (hl : s.length ≤ 1000000) (hC : Kd.string.C w A s.length s) :
    Calls Try.prog 45 #[.slice A s.length c] w fun e w' => ∃ v', e = .returned v' ∧ Kd.string.R 9 w' w.heap.size (fun _ => True) v' s ∧ Below w.heap.size w w' := by
  cases A with
  | none =>
    have h0 : s = [] := by
      cases s with
      | nil => rfl
      | cons x s => obtain ⟨ad, e, _⟩ := hC.2.2 (by simp); cases e
    subst h0
    have c1 : Calls Try.prog 45 #[.slice none 0 c] w fun e w' => e = .returned (.slice none 0 0) ∧ w' = w := AnyG.slices_Clone_string_nil Ythpcplpannbipaa.Sh.clone45 0 c w
    refine c1.mono ?_
    rintro e w' ⟨rfl, rfl⟩
    exact ⟨_, rfl, Kd.R_nil _ _ _ _ _, Below.refl _ _⟩
  | some ad =>
    have h : Calls Try.prog 45 #[.slice (some ad) s.length c] w fun e w' => ∃ v', e = .returned v' ∧ w'.ownsRow w.heap.size 9 1 v' s.length (s.map Value.string) ∧ v' ≠ .slice none 0 0 ∧ Below w.heap.size w w' := by
      cases hl0 : s with
      | nil => exact AnyG.slices_Clone_string_zero Ythpcplpannbipaa.Sh.clone45 ad c w
      | cons x t =>
        rw [← hl0]
        obtain ⟨ad', e, hc⟩ := hC.2.2 (by rw [hl0]; simp)
        obtain rfl := Option.some.inj e
        have hcell : ∀ j, ∀ hj : j < s.length, w.cell? (ad.add j) = some (.string s[j]) := fun j hj => by
          obtain ⟨c, _, hk, hcc⟩ := hc j s[j] (List.getElem?_eq_getElem hj)
          have := hcc 0 (.string s[j]) (by rw [show c = [.string s[j]] from hk]; rfl)
          simpa [show Kd.string.sz = 1 from rfl] using this
        have hsp : ad.spot = none := spot_none (hcell 0 (by rw [hl0]; simp))
        obtain ⟨b, o, sp⟩ := ad
        obtain rfl : sp = none := hsp
        have := AnyG.slices_Clone_string Ythpcplpannbipaa.Sh.clone45 b o s.length c s w (Nat.le_refl _) (by omega) (fun j hj => by
          have := hcell j hj
          rw [add_at] at this
          rw [this, List.getD_eq_getElem?_getD, List.getElem?_eq_getElem hj]; rfl)
        rw [List.take_length] at this
        exact this
    refine h.mono ?_
    rintro e w' ⟨v', rfl, ho, _, hb⟩
    exact ⟨_, rfl, Kd.R_of_own ho (fun _ _ => trivial), hb⟩
end Go.Proofs.Ythpcplpannbipaa.In_
