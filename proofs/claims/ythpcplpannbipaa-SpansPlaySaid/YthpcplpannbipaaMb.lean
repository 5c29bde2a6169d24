/- Maps from strings on the heap: entries told one by one; no condition. -/
import Derived.Test.YthpcplpannbipaaProg
import Derived.MapKept
import Derived.WalkKit
set_option linter.unusedVariables false
set_option linter.unusedSimpArgs false
set_option linter.unusedSectionVars false
namespace Go.Proofs.Ythpcplpannbipaa.Maps
open Go Go.MapKept

variable {P : Program} {K : Type}

/-- Block r is a map whose pairs are L, in the order in which they came. -/
def MapIs (κ : K → Value) (w : World) (r : Nat) (L : List (K × Value)) : Prop :=
  ∃ es clock, w.heap[r]? = some (.map es clock) ∧ es.toList.map (fun x => (x.key, x.val)) = L.map (fun p => (κ p.1, p.2))

/-- All but block r is as it was. -/
structure But (r : Nat) (w w' : World) : Prop where
  os : w'.os = w.os
  tape : w'.tape = w.tape
  output : w'.output = w.output
  size : w'.heap.size = w.heap.size
  block : ∀ k, k ≠ r → w'.heap[k]? = w.heap[k]?

theorem MapIs.of_block {κ : K → Value} {w w' : World} {r : Nat} {L : List (K × Value)} (h : MapIs κ w r L) (hb : w'.heap[r]? = w.heap[r]?) : MapIs κ w' r L := by
  obtain ⟨es, c, h1, h2⟩ := h
  exact ⟨es, c, hb.trans h1, h2⟩

theorem MapIs.lt {κ : K → Value} {w : World} {r : Nat} {L : List (K × Value)} (h : MapIs κ w r L) : r < w.heap.size := by
  obtain ⟨es, c, h1, h2⟩ := h
  exact (Array.getElem?_eq_some_iff.1 h1).1

theorem MapIs.new (κ : K → Value) (w : World) : MapIs κ (w.alloc (.map #[] 0)) w.heap.size [] := ⟨#[], 0, (heap_alloc w _).1, rfl⟩

theorem keys_of {κ : K → Value} {d : TypeDesc} (hκ : ∀ k, IsKey d (κ k)) {es : Array MapEntry} {L : List (K × Value)} (h2 : es.toList.map (fun x => (x.key, x.val)) = L.map (fun p => (κ p.1, p.2))) :
    ∀ x ∈ es.toList, IsKey d x.key := by
  intro x hx
  have : (x.key, x.val) ∈ es.toList.map (fun x => (x.key, x.val)) := List.mem_map.2 ⟨x, hx, rfl⟩
  rw [h2] at this
  obtain ⟨p, _, e⟩ := List.mem_map.1 this
  have := (Prod.mk.inj e).1
  rw [← this]; exact hκ _

theorem run_lookup_hit {κ : K → Value} {d : TypeDesc} (hκ : ∀ k, IsKey d (κ k)) (inj : ∀ a b, κ a = κ b → a = b) {w : World} {r : Nat} {L : List (K × Value)} (h : MapIs κ w r L)
    {mty kt et : TypeId} (hm : P.underlying mty = some (.map kt et)) (hd : P.underlying kt = some d) (k : K) (v : Value) (hin : (k, v) ∈ L) (hno : (L.map (·.1)).Nodup) (ok : Bool) :
    (Instr.lookup mty (.map (some r)) (κ k) ok).run P w = .ok (if ok then .tuple #[v, .bool true] else v) w := by
  obtain ⟨es, c, h1, h2⟩ := h
  rcases findNow_spec (hκ k) es.toList 0 (keys_of hκ h2) with ⟨f1, f2⟩ | ⟨j, e, f1, f2, f3⟩
  · exfalso
    have : (κ k, v) ∈ L.map (fun p => (κ p.1, p.2)) := List.mem_map.2 ⟨_, hin, rfl⟩
    rw [← h2] at this
    obtain ⟨x, hx, e⟩ := List.mem_map.1 this
    exact f2 x hx (Prod.mk.inj e).1
  · have hev : e.val = v := by
      have h3 : (e.key, e.val) ∈ es.toList.map (fun x => (x.key, x.val)) := List.mem_map.2 ⟨e, List.mem_of_getElem? f2, rfl⟩
      rw [h2] at h3
      obtain ⟨p, hp, q⟩ := List.mem_map.1 h3
      obtain ⟨q1, q2⟩ := Prod.mk.inj q
      have : p.1 = k := inj _ _ (q1.trans f3)
      obtain ⟨p1, p2⟩ := p
      simp only [] at this q2
      subst this
      rw [← q2]
      obtain ⟨i, hi⟩ := List.getElem?_of_mem hp
      obtain ⟨i', hi'⟩ := List.getElem?_of_mem hin
      have e1 : (L.map (·.1))[i]? = some p1 := by rw [List.getElem?_map, hi]; rfl
      have e2 : (L.map (·.1))[i']? = some p1 := by rw [List.getElem?_map, hi']; rfl
      have hli : i < (L.map (·.1)).length := (List.getElem?_eq_some_iff.1 e1).1
      have := (List.getElem?_inj hli hno).1 (e1.trans e2.symm)
      subst this
      rw [hi] at hi'
      exact (Prod.mk.inj (Option.some.inj hi')).2
    cases ok <;> simp [Instr.lookup, run_underlying hm, MapKept.run_getObj_map h1, run_checkKey hd (hκ k), run_findKey hd f1, Result.andThen, hev]

theorem run_lookup_miss {κ : K → Value} {d : TypeDesc} (hκ : ∀ k, IsKey d (κ k)) {w : World} {r : Nat} {L : List (K × Value)} (h : MapIs κ w r L)
    {mty kt et : TypeId} (hm : P.underlying mty = some (.map kt et)) (hd : P.underlying kt = some d) (k : K) {z : Value} (hz : (zeroValue et).run P w = .ok z w) (hno : ∀ p ∈ L, κ p.1 ≠ κ k) (ok : Bool) :
    (Instr.lookup mty (.map (some r)) (κ k) ok).run P w = .ok (if ok then .tuple #[z, .bool false] else z) w := by
  obtain ⟨es, c, h1, h2⟩ := h
  rcases findNow_spec (hκ k) es.toList 0 (keys_of hκ h2) with ⟨f1, f2⟩ | ⟨j, e, f1, f2, f3⟩
  · cases ok <;> simp [Instr.lookup, run_underlying hm, MapKept.run_getObj_map h1, run_checkKey hd (hκ k), run_findKey hd f1, Result.andThen, hz]
  · exfalso
    have h3 : (e.key, e.val) ∈ es.toList.map (fun x => (x.key, x.val)) := List.mem_map.2 ⟨e, List.mem_of_getElem? f2, rfl⟩
    rw [h2] at h3
    obtain ⟨p, hp, q⟩ := List.mem_map.1 h3
    exact hno p hp ((Prod.mk.inj q).1.trans f3)

theorem run_update_new {κ : K → Value} {d : TypeDesc} (hκ : ∀ k, IsKey d (κ k)) {w : World} {r : Nat} {L : List (K × Value)} (h : MapIs κ w r L)
    {mty kt et : TypeId} (hm : P.underlying mty = some (.map kt et)) (hd : P.underlying kt = some d) (k : K) (v : Value) (hno : ∀ p ∈ L, κ p.1 ≠ κ k) :
    ∃ w', (Instr.mapUpdate mty (.map (some r)) (κ k) v).run P w = .ok () w' ∧ MapIs κ w' r (L ++ [(k, v)]) ∧ But r w w' := by
  obtain ⟨es, c, h1, h2⟩ := h
  rcases findNow_spec (hκ k) es.toList 0 (keys_of hκ h2) with ⟨f1, f2⟩ | ⟨j, e, f1, f2, f3⟩
  · refine ⟨{ w with heap := w.heap.setIfInBounds r (.map (es.push { key := κ k, val := v, born := c }) (c + 1)) }, ?_, ⟨_, _, (heap_set h1).1, ?_⟩, ⟨rfl, rfl, rfl, by simp, fun j hj => (heap_set h1).2 j hj⟩⟩
    · simp [Instr.mapUpdate, run_underlying hm, MapKept.run_getObj_map h1, run_checkKey hd (hκ k), run_findKey hd f1, MapKept.run_setObj_map _ h1, Result.andThen]
    · simp [h2]
  · exfalso
    have h3 : (e.key, e.val) ∈ es.toList.map (fun x => (x.key, x.val)) := List.mem_map.2 ⟨e, List.mem_of_getElem? f2, rfl⟩
    rw [h2] at h3
    obtain ⟨p, hp, q⟩ := List.mem_map.1 h3
    exact hno p hp ((Prod.mk.inj q).1.trans f3)

/-- Keys of a kind of integers. -/
abbrev ik (kd : IntKind) : Int → Value := fun i => .int kd i
theorem ik_key (kd : IntKind) (i : Int) : IsKey (.int kd) (ik kd i) := rfl
theorem ik_inj (kd : IntKind) (a b : Int) (h : ik kd a = ik kd b) : a = b := by injection h
abbrev sk : ByteArray → Value := fun s => .string s
theorem sk_key (s : ByteArray) : IsKey .string (sk s) := trivial
theorem sk_inj (a b : ByteArray) (h : sk a = sk b) : a = b := by injection h

end Go.Proofs.Ythpcplpannbipaa.Maps
namespace Go.Proofs.Ythpcplpannbipaa.Mb
open Go Go.MapKept Go.Proofs.Ythpcplpannbipaa.Maps
variable {P : Program}
abbrev Ent := List (ByteArray × Value)
def MapSt (w : World) (r : Nat) (L : Ent) : Prop :=
  ∃ es clock, w.heap[r]? = some (.map es clock) ∧ es.toList.map (fun x => (x.key, x.val)) = L.map (fun p => (sk p.1, p.2)) ∧ Stamped es clock
theorem MapSt.is {w : World} {r : Nat} {L : Ent} (h : MapSt w r L) : MapIs sk w r L := by
  obtain ⟨es, c, h1, h2, _⟩ := h
  exact ⟨es, c, h1, h2⟩
theorem keys_eq {es : Array MapEntry} {L : Ent} (h2 : es.toList.map (fun x => (x.key, x.val)) = L.map (fun p => (sk p.1, p.2))) : es.toList.map (·.key) = L.map fun p => sk p.1 := by
  have := congrArg (List.map Prod.fst) h2
  rw [List.map_map, List.map_map] at this
  exact this
theorem MapSt.nodup {w : World} {r : Nat} {L : Ent} (h : MapSt w r L) : (L.map (·.1)).Nodup := by
  obtain ⟨es, c, _, h2, h3⟩ := h
  have := h3.2.2
  rw [keys_eq h2] at this
  have e : (L.map fun p => sk p.1) = (L.map (·.1)).map sk := by rw [List.map_map]; rfl
  rw [e] at this
  exact (List.pairwise_map.1 this).imp (fun h e => h (congrArg sk e))
theorem MapSt.of_block {w w' : World} {r : Nat} {L : Ent} (h : MapSt w r L) (hb : w'.heap[r]? = w.heap[r]?) : MapSt w' r L := by
  obtain ⟨es, c, h1, h2, h3⟩ := h
  exact ⟨es, c, hb.trans h1, h2, h3⟩
theorem MapSt.lt {w : World} {r : Nat} {L : Ent} (h : MapSt w r L) : r < w.heap.size := h.is.lt
theorem MapSt.new (w : World) : MapSt (w.alloc (.map #[] 0)) w.heap.size [] := ⟨#[], 0, (heap_alloc w _).1, rfl, stamped_empty 0⟩
def lookL : Ent → ByteArray → Value → Value
  | [], _, z => z
  | p :: L, k, z => if p.1 = k then p.2 else lookL L k z
def setL : Ent → ByteArray → Value → Ent
  | [], k, v => [(k, v)]
  | p :: L, k, v => if p.1 = k then (p.1, v) :: L else p :: setL L k v
def delL (L : Ent) (k : ByteArray) : Ent := L.filter fun p => !decide (p.1 = k)
theorem look_spec : ∀ (L : Ent) (k : ByteArray) (z : Value), (∃ p ∈ L, p.1 = k ∧ lookL L k z = p.2) ∨ ((∀ p ∈ L, p.1 ≠ k) ∧ lookL L k z = z)
  | [], k, z => .inr ⟨fun p hp => absurd hp (by simp), rfl⟩
  | p :: L, k, z => by
    rw [lookL]
    split
    · rename_i h; exact .inl ⟨p, by simp, h, rfl⟩
    · rename_i h
      rcases look_spec L k z with ⟨q, h1, h2, h3⟩ | ⟨h1, h2⟩
      · exact .inl ⟨q, List.mem_cons_of_mem _ h1, h2, h3⟩
      · refine .inr ⟨fun q hq => ?_, h2⟩
        rcases List.mem_cons.1 hq with rfl | hq
        · exact h
        · exact h1 q hq
theorem set_new : ∀ {L : Ent} {k : ByteArray} (v : Value), (∀ p ∈ L, p.1 ≠ k) → setL L k v = L ++ [(k, v)]
  | [], k, v, _ => rfl
  | p :: L, k, v, h => by
    rw [setL, if_neg (h p (by simp)), set_new v (fun q hq => h q (List.mem_cons_of_mem _ hq))]; rfl
theorem set_hit : ∀ {L : Ent} {k : ByteArray} (v : Value) (j : Nat) (h : j < L.length), (L.map (·.1)).Nodup → L[j].1 = k → setL L k v = L.set j (k, v)
  | p :: L, k, v, 0, _, _, h => by
    have h' : p.1 = k := h
    rw [setL, if_pos h', h']; rfl
  | p :: L, k, v, j + 1, hj, hn, h => by
    have hn' := List.nodup_cons.1 (show (p.1 :: L.map (·.1)).Nodup from hn)
    have hlt : j < L.length := by simpa using hj
    have h' : (L[j]).1 = k := h
    have hp : p.1 ≠ k := fun e => hn'.1 (by rw [e, ← h']; exact List.mem_map.2 ⟨_, List.getElem_mem hlt, rfl⟩)
    rw [setL, if_neg hp, set_hit v j hlt hn'.2 h']; rfl
theorem sk_ne {a b : ByteArray} (h : a ≠ b) : sk a ≠ sk b := fun e => h (sk_inj _ _ e)
theorem run_look {w : World} {r : Nat} {L : Ent} (h : MapSt w r L) {mty kt et : TypeId} (hm : P.underlying mty = some (.map kt et)) (hd : P.underlying kt = some .string) (k : ByteArray) {z : Value} (hz : ∀ w, (zeroValue et).run P w = .ok z w) :
    (Instr.lookup mty (.map (some r)) (.string k) false).run P w = .ok (lookL L k z) w := by
  rcases look_spec L k z with ⟨p, h2, h3, h1⟩ | ⟨h2, h1⟩
  · rw [h1]
    subst h3
    exact run_lookup_hit sk_key sk_inj h.is hm hd p.1 p.2 h2 h.nodup false
  · rw [h1]
    exact run_lookup_miss sk_key h.is hm hd k (hz w) (fun p hp => sk_ne (h2 p hp)) false
theorem lookL_set : ∀ (L : Ent) (k j : ByteArray) (v z : Value), lookL (setL L k v) j z = if j = k then v else lookL L j z
  | [], k, j, v, z => by
    show (if k = j then v else z) = if j = k then v else z
    by_cases h : j = k
    · rw [if_pos h, if_pos h.symm]
    · rw [if_neg h, if_neg (Ne.symm h)]
  | p :: L, k, j, v, z => by
    rw [setL, lookL]
    split
    · rename_i h
      rw [lookL]
      subst h
      by_cases hj : j = p.1
      · rw [if_pos hj, if_pos hj.symm]
      · rw [if_neg hj, if_neg (Ne.symm hj), if_neg (Ne.symm hj)]
    · rename_i h
      rw [lookL, lookL_set L k j v z]
      by_cases hp : p.1 = j
      · rw [if_pos hp, if_pos hp, if_neg (by rw [← hp]; exact h)]
      · rw [if_neg hp, if_neg hp]
theorem lookL_del : ∀ (L : Ent) (k j : ByteArray) (z : Value), lookL (delL L k) j z = if j = k then z else lookL L j z
  | [], k, j, z => by show z = if j = k then z else z; split <;> rfl
  | p :: L, k, j, z => by
    have ih := lookL_del L k j z
    unfold delL at ih ⊢
    rw [List.filter_cons]
    by_cases hp : p.1 = k
    · rw [if_neg (by simp [hp]), ih, lookL]
      by_cases hj : j = k
      · rw [if_pos hj, if_pos hj]
      · rw [if_neg hj, if_neg hj, if_neg (by rw [hp]; exact Ne.symm hj)]
    · rw [if_pos (by simpa using hp), lookL, ih, lookL]
      by_cases hpj : p.1 = j
      · rw [if_pos hpj, if_pos hpj, if_neg (by rw [← hpj]; exact hp)]
      · rw [if_neg hpj, if_neg hpj]
theorem erase_filter : ∀ (L : Ent) (j : Nat) (h : j < L.length), (L.map (·.1)).Nodup → L.eraseIdx j = delL L (L[j]).1
  | p :: L, 0, _, hn => by
    have hn' := List.nodup_cons.1 (show (p.1 :: L.map (·.1)).Nodup from hn)
    unfold delL
    rw [List.filter_cons]
    simp only [List.getElem_cons_zero, decide_true, Bool.not_true, List.eraseIdx_cons_zero]
    refine (List.filter_eq_self.2 (fun q hq => ?_)).symm
    have : q.1 ≠ p.1 := fun e => hn'.1 (by rw [← e]; exact List.mem_map.2 ⟨q, hq, rfl⟩)
    simpa using this
  | p :: L, j + 1, h, hn => by
    have hn' := List.nodup_cons.1 (show (p.1 :: L.map (·.1)).Nodup from hn)
    have hlt : j < L.length := by simpa using h
    have ih := erase_filter L j hlt hn'.2
    have : p.1 ≠ (L[j]).1 := fun e => hn'.1 (by rw [e]; exact List.mem_map.2 ⟨_, List.getElem_mem hlt, rfl⟩)
    rw [List.eraseIdx_cons_succ, ih]
    show p :: delL L _ = delL (p :: L) (L[j]).1
    unfold delL
    rw [List.filter_cons, if_pos (by simpa using this)]
theorem run_set {w : World} {r : Nat} {L : Ent} (h : MapSt w r L) {mty kt et : TypeId} (hm : P.underlying mty = some (.map kt et)) (hd : P.underlying kt = some .string) (k : ByteArray) (v : Value) :
    ∃ w', (Instr.mapUpdate mty (.map (some r)) (.string k) v).run P w = .ok () w' ∧ MapSt w' r (setL L k v) ∧ But r w w' := by
  have hn := h.nodup
  obtain ⟨es, c, h1, h2, h3⟩ := h
  have hk := keys_of sk_key h2
  rcases findNow_spec (sk_key k) es.toList 0 hk with ⟨f1, f2⟩ | ⟨j, e, f1, f2, f3⟩
  · refine ⟨{ w with heap := w.heap.setIfInBounds r (.map (es.push { key := sk k, val := v, born := c }) (c + 1)) }, ?_, ⟨_, _, (heap_set h1).1, ?_, stamped_push h3 f2⟩, ⟨rfl, rfl, rfl, by simp, fun j hj => (heap_set h1).2 j hj⟩⟩
    · have f1' := f1
      simp [Instr.mapUpdate, run_underlying hm, MapKept.run_getObj_map h1, run_checkKey hd (sk_key k), run_findKey hd f1, MapKept.run_setObj_map _ h1, Result.andThen]
    · have hno : ∀ p ∈ L, p.1 ≠ k := by
        intro p hp
        have h4 : (sk p.1, p.2) ∈ L.map (fun p => (sk p.1, p.2)) := List.mem_map.2 ⟨p, hp, rfl⟩
        rw [← h2] at h4
        obtain ⟨x, hx, q⟩ := List.mem_map.1 h4
        have := f2 x hx
        have e1 : x.key = sk p.1 := (Prod.mk.inj q).1
        rw [e1] at this
        exact fun e => this (by rw [e])
      rw [set_new v hno]
      simp [h2]
  · have hj : es[j]? = some e := by simpa using f2
    have hlen : es.toList.length = L.length := by have := congrArg List.length h2; simpa using this
    have hjl : j < L.length := by rw [← hlen]; exact (List.getElem?_eq_some_iff.1 f2).1
    have hLj : sk (L[j]).1 = e.key := by
      have := congrArg (fun l => l[j]?) h2
      simp only [List.getElem?_map, f2, List.getElem?_eq_getElem hjl, Option.map_some, Option.some.injEq, Prod.mk.injEq] at this
      exact this.1.symm
    have hLk : (L[j]).1 = k := sk_inj _ _ (hLj.trans f3)
    refine ⟨{ w with heap := w.heap.setIfInBounds r (.map (es.modify j fun e => { e with key := sk k, val := v }) c) }, ?_, ⟨_, _, (heap_set h1).1, ?_, ?_⟩, ⟨rfl, rfl, rfl, by simp, fun j hj => (heap_set h1).2 j hj⟩⟩
    · simp [Instr.mapUpdate, run_underlying hm, MapKept.run_getObj_map h1, run_checkKey hd (sk_key k), run_findKey hd f1, hj, f3, run_keyThatStays (sk_key k), MapKept.run_setObj_map _ h1, Result.andThen]
    · rw [set_hit v j hjl hn hLk]
      refine List.ext_getElem? (fun i => ?_)
      have hi := congrArg (fun l => l[i]?) h2
      simp only [List.getElem?_map] at hi
      rw [Array.toList_modify, List.getElem?_map, List.getElem?_map, List.getElem?_modify, List.getElem?_set]
      by_cases hij : j = i
      · subst hij
        rw [f2, if_pos rfl, if_pos hjl]
        simp
      · rw [if_neg hij, ← hi]
        cases es.toList[i]? with
        | none => rfl
        | some y => simp [hij]
    · refine stamped_modify h3 _ _ (fun _ _ => rfl) (fun e' _ he' => ?_)
      rw [hj] at he'
      cases he'
      exact f3.symm
theorem run_del {w : World} {r : Nat} {L : Ent} (h : MapSt w r L) {mty kt et ty : TypeId} (hm : P.underlying mty = some (.map kt et)) (hd : P.underlying kt = some .string) (k : ByteArray) :
    ∃ w', (Builtin.delete_ #[mty, kt] ty #[.map (some r), .string k]).run P w = .ok (.tuple #[]) w' ∧ MapSt w' r (delL L k) ∧ But r w w' := by
  have hn := h.nodup
  obtain ⟨es, c, h1, h2, h3⟩ := h
  have hk := keys_of sk_key h2
  rcases findNow_spec (sk_key k) es.toList 0 hk with ⟨f1, f2⟩ | ⟨j, e, f1, f2, f3⟩
  · refine ⟨{ w with heap := w.heap.setIfInBounds r (.map es c) }, ?_, ⟨_, _, (heap_set h1).1, ?_, h3⟩, ⟨rfl, rfl, rfl, by simp, fun j hj => (heap_set h1).2 j hj⟩⟩
    · simp [Builtin.delete_, run_underlying hm, MapKept.run_getObj_map h1, run_checkKey hd (sk_key k), run_findKey hd f1, MapKept.run_setObj_map _ h1, Result.andThen]
    · have : delL L k = L := List.filter_eq_self.2 (fun p hp => by
        have h4 : (sk p.1, p.2) ∈ L.map (fun p => (sk p.1, p.2)) := List.mem_map.2 ⟨p, hp, rfl⟩
        rw [← h2] at h4
        obtain ⟨x, hx, q⟩ := List.mem_map.1 h4
        have := f2 x hx
        have e1 : x.key = sk p.1 := (Prod.mk.inj q).1
        rw [e1] at this
        simpa using fun e : p.1 = k => this (by rw [e]))
      rw [this]; exact h2
  · have hlen : es.toList.length = L.length := by have := congrArg List.length h2; simpa using this
    have hjl : j < L.length := by rw [← hlen]; exact (List.getElem?_eq_some_iff.1 f2).1
    have hLj : sk (L[j]).1 = e.key := by
      have := congrArg (fun l => l[j]?) h2
      simp only [List.getElem?_map, f2, List.getElem?_eq_getElem hjl, Option.map_some, Option.some.injEq, Prod.mk.injEq] at this
      exact this.1.symm
    have hLk : (L[j]).1 = k := sk_inj _ _ (hLj.trans f3)
    have hje : j < es.size := by have : j < es.toList.length := by rw [hlen]; exact hjl
                                 simpa using this
    refine ⟨{ w with heap := w.heap.setIfInBounds r (.map (es.eraseIdxIfInBounds j) c) }, ?_, ⟨_, _, (heap_set h1).1, ?_, stamped_erase h3 _⟩, ⟨rfl, rfl, rfl, by simp, fun j hj => (heap_set h1).2 j hj⟩⟩
    · simp [Builtin.delete_, run_underlying hm, MapKept.run_getObj_map h1, run_checkKey hd (sk_key k), run_findKey hd f1, MapKept.run_setObj_map _ h1, Result.andThen]
    · rw [← hLk, ← erase_filter L j hjl hn]
      have e1 : (es.eraseIdxIfInBounds j).toList = es.toList.eraseIdx j := by
        unfold Array.eraseIdxIfInBounds
        rw [dif_pos hje, Array.toList_eraseIdx]
      rw [e1, List.eraseIdx_eq_take_drop_succ, List.eraseIdx_eq_take_drop_succ, List.map_append, List.map_append, List.map_take, List.map_drop, h2, List.map_take, List.map_drop]
theorem run_len {w : World} {r : Nat} {L : Ent} (h : MapSt w r L) {t k e ty : TypeId} (ht : P.underlying t = some (.map k e)) : (Builtin.len_ #[t] ty #[.map (some r)]).run P w = .ok (.int .i64 L.length) w := by
  obtain ⟨es, c, h1, h2, _⟩ := h
  have hlen : es.size = L.length := by have := congrArg List.length h2; simpa using this
  simp [Builtin.len_, run_underlying ht, MapKept.run_getObj_map h1, goInt, hlen]
end Go.Proofs.Ythpcplpannbipaa.Mb
