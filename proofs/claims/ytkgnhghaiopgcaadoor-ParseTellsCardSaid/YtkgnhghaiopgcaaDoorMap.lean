/- Maps on the heap as lists of pairs. -/
import Derived.Test.YtkgnhghaiopgcaaDoorProg
import Derived.MapKept
import Derived.WalkKit
set_option linter.unusedVariables false
set_option linter.unusedSimpArgs false
namespace Go.Proofs.YtkgnhghaiopgcaaDoor.Maps
open Go Go.MapKept

variable {P : Program} {K : Type}

/-- Block r is a map whose pairs are L, in the order in which they came. -/
def MapIs (κ : K → Value) (w : World) (r : Nat) (L : List (K × Value)) : Prop :=
  ∃ es clock, w.heap[r]? = some (.map es clock) ∧ es.toList.map (fun x => (x.key, x.val)) = L.map (fun p => (κ p.1, p.2))

/-- All but block r is as it was. -/
structure But (r : Nat) (w w' : World) : Prop where
  os : w'.os = w.os
  tape : w'.tape = w.tape
  output : w'.output = w.output
  size : w'.heap.size = w.heap.size
  block : ∀ k, k ≠ r → w'.heap[k]? = w.heap[k]?

theorem MapIs.of_block {κ : K → Value} {w w' : World} {r : Nat} {L : List (K × Value)} (h : MapIs κ w r L) (hb : w'.heap[r]? = w.heap[r]?) : MapIs κ w' r L := by
  obtain ⟨es, c, h1, h2⟩ := h
  exact ⟨es, c, hb.trans h1, h2⟩

theorem MapIs.lt {κ : K → Value} {w : World} {r : Nat} {L : List (K × Value)} (h : MapIs κ w r L) : r < w.heap.size := by
  obtain ⟨es, c, h1, h2⟩ := h
  exact (Array.getElem?_eq_some_iff.1 h1).1

theorem MapIs.new (κ : K → Value) (w : World) : MapIs κ (w.alloc (.map #[] 0)) w.heap.size [] := ⟨#[], 0, (heap_alloc w _).1, rfl⟩

theorem keys_of {κ : K → Value} {d : TypeDesc} (hκ : ∀ k, IsKey d (κ k)) {es : Array MapEntry} {L : List (K × Value)} (h2 : es.toList.map (fun x => (x.key, x.val)) = L.map (fun p => (κ p.1, p.2))) :
    ∀ x ∈ es.toList, IsKey d x.key := by
  intro x hx
  have : (x.key, x.val) ∈ es.toList.map (fun x => (x.key, x.val)) := List.mem_map.2 ⟨x, hx, rfl⟩
  rw [h2] at this
  obtain ⟨p, _, e⟩ := List.mem_map.1 this
  have := (Prod.mk.inj e).1
  rw [← this]; exact hκ _

theorem run_lookup_hit {κ : K → Value} {d : TypeDesc} (hκ : ∀ k, IsKey d (κ k)) (inj : ∀ a b, κ a = κ b → a = b) {w : World} {r : Nat} {L : List (K × Value)} (h : MapIs κ w r L)
    {mty kt et : TypeId} (hm : P.underlying mty = some (.map kt et)) (hd : P.underlying kt = some d) (k : K) (v : Value) (hin : (k, v) ∈ L) (hno : (L.map (·.1)).Nodup) (ok : Bool) :
    (Instr.lookup mty (.map (some r)) (κ k) ok).run P w = .ok (if ok then .tuple #[v, .bool true] else v) w := by
  obtain ⟨es, c, h1, h2⟩ := h
  rcases findNow_spec (hκ k) es.toList 0 (keys_of hκ h2) with ⟨f1, f2⟩ | ⟨j, e, f1, f2, f3⟩
  · exfalso
    have : (κ k, v) ∈ L.map (fun p => (κ p.1, p.2)) := List.mem_map.2 ⟨_, hin, rfl⟩
    rw [← h2] at this
    obtain ⟨x, hx, e⟩ := List.mem_map.1 this
    exact f2 x hx (Prod.mk.inj e).1
  · have hev : e.val = v := by
      have h3 : (e.key, e.val) ∈ es.toList.map (fun x => (x.key, x.val)) := List.mem_map.2 ⟨e, List.mem_of_getElem? f2, rfl⟩
      rw [h2] at h3
      obtain ⟨p, hp, q⟩ := List.mem_map.1 h3
      obtain ⟨q1, q2⟩ := Prod.mk.inj q
      have : p.1 = k := inj _ _ (q1.trans f3)
      obtain ⟨p1, p2⟩ := p
      simp only [] at this q2
      subst this
      rw [← q2]
      obtain ⟨i, hi⟩ := List.getElem?_of_mem hp
      obtain ⟨i', hi'⟩ := List.getElem?_of_mem hin
      have e1 : (L.map (·.1))[i]? = some p1 := by rw [List.getElem?_map, hi]; rfl
      have e2 : (L.map (·.1))[i']? = some p1 := by rw [List.getElem?_map, hi']; rfl
      have hli : i < (L.map (·.1)).length := (List.getElem?_eq_some_iff.1 e1).1
      have := (List.getElem?_inj hli hno).1 (e1.trans e2.symm)
      subst this
      rw [hi] at hi'
      exact (Prod.mk.inj (Option.some.inj hi')).2
    cases ok <;> simp [Instr.lookup, run_underlying hm, MapKept.run_getObj_map h1, run_checkKey hd (hκ k), run_findKey hd f1, Result.andThen, hev]

theorem run_lookup_miss {κ : K → Value} {d : TypeDesc} (hκ : ∀ k, IsKey d (κ k)) {w : World} {r : Nat} {L : List (K × Value)} (h : MapIs κ w r L)
    {mty kt et : TypeId} (hm : P.underlying mty = some (.map kt et)) (hd : P.underlying kt = some d) (k : K) {z : Value} (hz : (zeroValue et).run P w = .ok z w) (hno : ∀ p ∈ L, κ p.1 ≠ κ k) (ok : Bool) :
    (Instr.lookup mty (.map (some r)) (κ k) ok).run P w = .ok (if ok then .tuple #[z, .bool false] else z) w := by
  obtain ⟨es, c, h1, h2⟩ := h
  rcases findNow_spec (hκ k) es.toList 0 (keys_of hκ h2) with ⟨f1, f2⟩ | ⟨j, e, f1, f2, f3⟩
  · cases ok <;> simp [Instr.lookup, run_underlying hm, MapKept.run_getObj_map h1, run_checkKey hd (hκ k), run_findKey hd f1, Result.andThen, hz]
  · exfalso
    have h3 : (e.key, e.val) ∈ es.toList.map (fun x => (x.key, x.val)) := List.mem_map.2 ⟨e, List.mem_of_getElem? f2, rfl⟩
    rw [h2] at h3
    obtain ⟨p, hp, q⟩ := List.mem_map.1 h3
    exact hno p hp ((Prod.mk.inj q).1.trans f3)

theorem run_update_new {κ : K → Value} {d : TypeDesc} (hκ : ∀ k, IsKey d (κ k)) {w : World} {r : Nat} {L : List (K × Value)} (h : MapIs κ w r L)
    {mty kt et : TypeId} (hm : P.underlying mty = some (.map kt et)) (hd : P.underlying kt = some d) (k : K) (v : Value) (hno : ∀ p ∈ L, κ p.1 ≠ κ k) :
    ∃ w', (Instr.mapUpdate mty (.map (some r)) (κ k) v).run P w = .ok () w' ∧ MapIs κ w' r (L ++ [(k, v)]) ∧ But r w w' := by
  obtain ⟨es, c, h1, h2⟩ := h
  rcases findNow_spec (hκ k) es.toList 0 (keys_of hκ h2) with ⟨f1, f2⟩ | ⟨j, e, f1, f2, f3⟩
  · refine ⟨{ w with heap := w.heap.setIfInBounds r (.map (es.push { key := κ k, val := v, born := c }) (c + 1)) }, ?_, ⟨_, _, (heap_set h1).1, ?_⟩, ⟨rfl, rfl, rfl, by simp, fun j hj => (heap_set h1).2 j hj⟩⟩
    · simp [Instr.mapUpdate, run_underlying hm, MapKept.run_getObj_map h1, run_checkKey hd (hκ k), run_findKey hd f1, MapKept.run_setObj_map _ h1, Result.andThen]
    · simp [h2]
  · exfalso
    have h3 : (e.key, e.val) ∈ es.toList.map (fun x => (x.key, x.val)) := List.mem_map.2 ⟨e, List.mem_of_getElem? f2, rfl⟩
    rw [h2] at h3
    obtain ⟨p, hp, q⟩ := List.mem_map.1 h3
    exact hno p hp ((Prod.mk.inj q).1.trans f3)

/-- Keys of a kind of integers. -/
abbrev ik (kd : IntKind) : Int → Value := fun i => .int kd i
theorem ik_key (kd : IntKind) (i : Int) : IsKey (.int kd) (ik kd i) := rfl
theorem ik_inj (kd : IntKind) (a b : Int) (h : ik kd a = ik kd b) : a = b := by injection h
abbrev sk : ByteArray → Value := fun s => .string s
theorem sk_key (s : ByteArray) : IsKey .string (sk s) := trivial
theorem sk_inj (a b : ByteArray) (h : sk a = sk b) : a = b := by injection h

end Go.Proofs.YtkgnhghaiopgcaaDoor.Maps
