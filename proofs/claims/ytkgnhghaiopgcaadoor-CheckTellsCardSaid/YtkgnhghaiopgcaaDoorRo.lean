/- Arguments that are structs with rows in them, as the laws' walks read them: a kind opens a reading; no condition. -/
import Derived.Test.YtkgnhghaiopgcaaDoorX0
import Derived.Test.YtkgnhghaiopgcaaDoorPs
import Derived.ChangeMaps
import Derived.SliceStrings
import Derived.SizedLaws
import Derived.OpenShut
import Derived.DataElems
set_option linter.unusedVariables false
set_option linter.unusedSimpArgs false
namespace Go.Proofs.YtkgnhghaiopgcaaDoor.Ro
open Go.RowKit Go.Proofs.YtkgnhghaiopgcaaDoorW.PrintWords Go.Proofs.YtkgnhghaiopgcaaDoorW.PrintLast Go.ChangeMaps Go.ChangeShapes Go.WideShapes

section
variable {H : Type} {enc : TypeId × Value → H} {P : Program} {w : World} {base : Nat} {spare : Nat → Bool} {held : Bool}

/-- A kind opens a type: whatever is read at that type, in reach, is a value of the kind, with Z. -/
def Opens (enc : TypeId × Value → H) (P : Program) (w : World) (base : Nat) (spare : Nat → Bool) (held : Bool) {α : Type} (d : Kd α) (t : TypeId) (Z : α → Prop) : Prop :=
  d.sz = P.cellsOf t ∧ ∀ fuel cs y, DataW.trod enc P w base spare held fuel t cs = some y → (∀ n ∈ y.1.weights P t, n ≤ reachBytes) → ∃ x, d.K w x cs ∧ Z x
/-- The same of a struct's fields from one on. -/
def Fields (enc : TypeId × Value → H) (P : Program) (w : World) (base : Nat) (spare : Nat → Bool) (held : Bool) {α : Type} (d : Kd α) (fs : List (Nat × TypeId)) (o : Nat) (Z : α → Prop) : Prop :=
  ∀ (n : Nat) (cs : List Value) (xs : List (DataW H × List MemPlace)), cs.length = o + d.sz → xs.length = fs.length →
    (∀ (i : Nat) (f : Nat × TypeId), fs[i]? = some f → DataW.trod enc P w base spare held n f.2 ((cs.drop f.1).take (P.cellsOf f.2)) = xs[i]?) →
    (∀ m ∈ DataW.weightsEach P (fs.map (·.2)) (xs.map (·.1)), m ≤ reachBytes) → ∃ x, d.K w x (cs.drop o) ∧ Z x

theorem opens_string {t : TypeId} (ht : P.underlying t = some .string) (hc : P.cellsOf t = 1) : Opens enc P w base spare held Kd.string t (fun s => s.size ≤ 140737488351232) := by
  refine ⟨hc.symm, fun fuel cs y hy hw => ?_⟩
  obtain ⟨s, rfl, rfl, hm⟩ := DataW.trod_string ht hy
  refine ⟨s, rfl, ?_⟩
  have := hw s.data.toList.length (by simp [DataW.weights])
  simpa [reachBytes] using this
theorem opens_int {t : TypeId} {k : IntKind} (ht : P.underlying t = some (.int k)) (hc : P.cellsOf t = 1) : Opens enc P w base spare held (Kd.int k) t (fun n => (Lit.int k n).wf = true) := by
  refine ⟨hc.symm, fun fuel cs y hy hw => ?_⟩
  obtain ⟨n, rfl, rfl, hm⟩ := DataW.trod_int ht hy
  exact ⟨n, rfl, hm⟩
theorem choose_list {α : Type} {Q : Nat → α → Prop} : ∀ (n : Nat), (∀ i, i < n → ∃ x, Q i x) → ∃ xs : List α, xs.length = n ∧ ∀ i x, xs[i]? = some x → Q i x
  | 0, _ => ⟨[], rfl, fun i x h => by simp at h⟩
  | n + 1, h => by
    obtain ⟨xs, hl, hq⟩ := choose_list n (fun i hi => h i (by omega))
    obtain ⟨x, hx⟩ := h n (by omega)
    refine ⟨xs ++ [x], by simp [hl], fun i y hy => ?_⟩
    by_cases hi : i < n
    · rw [List.getElem?_append_left (by omega)] at hy; exact hq i y hy
    · rw [List.getElem?_append_right (by omega)] at hy
      obtain rfl : i = n := by
        have := (List.getElem?_eq_some_iff.1 hy).1
        simp at this
        omega
      simp [hl] at hy
      subst hy
      exact hx
theorem weightsAll_mem {e : TypeId} {x : DataW H} {n : Nat} : ∀ {l : List (DataW H)}, x ∈ l → n ∈ x.weights P e → n ∈ DataW.weightsAll P e l
  | [], h, _ => by simp at h
  | y :: l, h, hn => by
    rw [DataW.weightsAll, List.mem_append]
    rcases List.mem_cons.1 h with rfl | h
    · exact .inl hn
    · exact .inr (weightsAll_mem h hn)
theorem opens_slice {α : Type} {d : Kd α} {t e : TypeId} {Z : α → Prop} (ht : P.underlying t = some (.slice e)) (hc : P.cellsOf t = 1) (hd : Opens enc P w base spare held d e Z) :
    Opens enc P w base spare held (Kd.slice e d) t (fun xs => (∀ x ∈ xs, Z x) ∧ xs.length * P.bytesOf e ≤ 140737488351232) := by
  refine ⟨hc.symm, fun fuel cs y hy hw => ?_⟩
  rcases DataW.trod_slice ht hy with ⟨rfl, rfl⟩ | ⟨a, len, cap, elems, rest, n, _, rfl, rfl, hb, hl, hm, hlen, hel, hsp, hns⟩
  · exact ⟨[], ⟨none, 0, rfl, Nat.le_refl _, Kd.C_nil _ _⟩, fun x hx => by simp at hx, by simp⟩
  · have each : ∀ i, i < len → ∃ x, (∃ c, c.length = d.sz ∧ d.K w x c ∧ ∀ j u, c[j]? = some u → w.cell? (a.add (i * d.sz + j)) = some u) ∧ Z x := by
      intro i hi
      have h1 := hel i hi
      rw [List.getElem?_eq_getElem (by omega), Option.bind_eq_some_iff] at h1
      obtain ⟨c, hcs, h2⟩ := h1
      obtain ⟨x, hx, hz⟩ := hd.2 n c _ h2 (fun m hm' => hw m (by
        simp only [DataW.weights, ht, List.mem_cons, List.mem_append]
        exact .inr (.inl (weightsAll_mem (List.mem_map.2 ⟨_, List.getElem_mem (by omega), rfl⟩) hm'))))
      obtain ⟨_, hcl, hcell⟩ := World.cells?_some hcs
      refine ⟨x, ⟨c, Kd.K_len d hx, hx, fun j u hu => ?_⟩, hz⟩
      have hj := (List.getElem?_eq_some_iff.1 hu).1
      have := hcell j (by omega)
      rw [Addr.add_add, ← hd.1, hu] at this
      exact this
    obtain ⟨xs, hxl, hxq⟩ := choose_list len each
    have hbnd : len * P.bytesOf e ≤ 140737488351232 := by
      have h1 := hw _ (by simp only [DataW.weights, ht]; exact List.mem_cons_self)
      refine Nat.le_trans (Nat.mul_le_mul_right _ ?_) h1
      simp only [List.length_map, List.length_take]
      omega
    refine ⟨xs, ⟨some a, cap, by rw [hxl], by omega, rfl, by unfold maxLen at hm; omega, fun _ => ⟨a, rfl, fun j p hp => (hxq j p hp).1⟩⟩, fun x hx => ?_, by rw [hxl]; exact hbnd⟩
    obtain ⟨i, hi⟩ := List.getElem?_of_mem hx
    exact (hxq i x hi).2
theorem fields_one {α : Type} {d : Kd α} {t : TypeId} {o : Nat} {Z : α → Prop} (hd : Opens enc P w base spare held d t Z) : Fields enc P w base spare held d [(o, t)] o Z := by
  intro n cs xs hl hx hf hw
  match xs, hx with
  | [y], _ =>
    have h1 := hf 0 (o, t) rfl
    simp only [List.getElem?_cons_zero] at h1
    rw [← hd.1, List.take_of_length_le (by rw [List.length_drop]; omega)] at h1
    exact hd.2 n _ y h1 (fun m hm => hw m (by simpa [DataW.weightsEach] using hm))
theorem fields_cons {α β : Type} {d : Kd α} {k : Kd β} {t : TypeId} {o : Nat} {fs : List (Nat × TypeId)} {Z : α → Prop} {Y : β → Prop} (hd : Opens enc P w base spare held d t Z) (hk : Fields enc P w base spare held k fs (o + d.sz) Y) :
    Fields enc P w base spare held (Kd.pair d k) ((o, t) :: fs) o (fun x => Z x.1 ∧ Y x.2) := by
  intro n cs xs hl hx hf hw
  match xs, hx with
  | y :: ys, hx =>
    have hl' : cs.length = o + (d.sz + k.sz) := hl
    have h1 := hf 0 (o, t) rfl
    simp only [List.getElem?_cons_zero] at h1
    rw [← hd.1] at h1
    obtain ⟨x, hxk, hz⟩ := hd.2 n _ y h1 (fun m hm => hw m (by simp only [List.map_cons, DataW.weightsEach, List.mem_append]; exact .inl hm))
    obtain ⟨z, hzk, hy⟩ := hk n cs ys (by omega) (by simpa using hx) (fun i f hi => by simpa using hf (i + 1) f (by simpa using hi)) (fun m hm => hw m (by simp only [List.map_cons, DataW.weightsEach, List.mem_append]; exact .inr hm))
    refine ⟨(x, z), ⟨_, _, ?_, hxk, hzk⟩, hz, hy⟩
    rw [← List.drop_drop, List.take_append_drop]
theorem opens_struct {α β : Type} {d : Kd α} {t : TypeId} {fs : Array Field} {Z : α → Prop} {f : β → α} (g : α → β) (hg : ∀ y, f (g y) = y) (ht : P.underlying t = some (.struct fs)) (hs : d.sz = P.cellsOf t)
    (hd : Fields enc P w base spare held d (fs.toList.map fun x => (x.offset, x.type)) 0 Z) : Opens enc P w base spare held (Kd.iso d f) t (fun y => Z (f y)) := by
  refine ⟨hs, fun fuel cs y hy hw => ?_⟩
  obtain ⟨xs, n, _, rfl, hl, hx, hf⟩ := DataW.trod_struct ht hy
  obtain ⟨x, hk, hz⟩ := hd n cs xs (by omega) (by simpa using hx) (fun i f hi => by
    simp only [List.getElem?_map, Option.map_eq_some_iff] at hi
    obtain ⟨f0, h0, rfl⟩ := hi
    exact hf i f0 (by simpa using h0)) (fun m hm => hw m (by
    simp only [DataW.weights, ht]
    simpa [List.map_map, Function.comp_def] using hm))
  refine ⟨g x, ?_, ?_⟩
  · show d.K w (f (g x)) cs
    rw [hg]
    exact hk
  · show Z (f (g x))
    rw [hg]
    exact hz
end
end Go.Proofs.YtkgnhghaiopgcaaDoor.Ro

namespace Go.Proofs.YtkgnhghaiopgcaaDoor.Ro
open Go.RowKit Go.Proofs.YtkgnhghaiopgcaaDoorW.PrintWords Go.Proofs.YtkgnhghaiopgcaaDoorW.PrintLast Go.ChangeMaps Go.ChangeShapes Go.WideShapes Go.Proofs.YtkgnhghaiopgcaaDoor.X Go.Proofs.YtkgnhghaiopgcaaDoor.Kx Go.Proofs.YtkgnhghaiopgcaaDoor.Ps

abbrev rb : Nat := 140737488351232
section
variable {H : Type} {enc : TypeId × Value → H} {w : World} {base : Nat} {spare : Nat → Bool} {held : Bool}
theorem opensS : Opens enc Tryd.prog w base spare held k62 62 (fun x => x.f0.size ≤ rb ∧ x.f1.size ≤ rb) :=
  opens_struct (g := fun p => ⟨p.1, p.2⟩) (fun _ => rfl) Tryd.underlying62 (by kernel_rfl)
    (fields_cons (opens_string (by kernel_rfl) (by kernel_rfl)) (fields_one (opens_string (by kernel_rfl) (by kernel_rfl))))
theorem opensO : Opens enc Tryd.prog w base spare held k59 59 (fun x => (Lit.int .i64 x.f0).wf = true ∧ x.f1.size ≤ rb ∧ x.f2.size ≤ rb) :=
  opens_struct (g := fun p => ⟨p.1, p.2.1, p.2.2⟩) (fun _ => rfl) Tryd.underlying59 (by kernel_rfl)
    (fields_cons (opens_int (by kernel_rfl) (by kernel_rfl)) (fields_cons (opens_string (by kernel_rfl) (by kernel_rfl)) (fields_one (opens_string (by kernel_rfl) (by kernel_rfl)))))
def OkR (r : SR) : Prop := r.f0.size ≤ rb ∧ r.f1.size ≤ rb ∧ r.f2.size ≤ rb ∧ r.f3.size ≤ rb ∧ (∀ x ∈ r.f4, x.f0.size ≤ rb ∧ x.f1.size ≤ rb) ∧ ∀ x ∈ r.f5, (Lit.int .i64 x.f0).wf = true ∧ x.f1.size ≤ rb ∧ x.f2.size ≤ rb
def OkRw (r : SR) : Prop := r.f0.size ≤ rb ∧ r.f1.size ≤ rb ∧ r.f2.size ≤ rb ∧ r.f3.size ≤ rb ∧ ((∀ x ∈ r.f4, x.f0.size ≤ rb ∧ x.f1.size ≤ rb) ∧ r.f4.length * Tryd.prog.bytesOf 62 ≤ 140737488351232) ∧ (∀ x ∈ r.f5, (Lit.int .i64 x.f0).wf = true ∧ x.f1.size ≤ rb ∧ x.f2.size ≤ rb) ∧ r.f5.length * Tryd.prog.bytesOf 59 ≤ 140737488351232
theorem opensR : Opens enc Tryd.prog w base spare held k57 57 OkRw :=
  opens_struct (g := fun p => ⟨p.1, p.2.1, p.2.2.1, p.2.2.2.1, p.2.2.2.2.1, p.2.2.2.2.2⟩) (fun _ => rfl) Tryd.underlying57 (by kernel_rfl)
    (fields_cons (opens_string (by kernel_rfl) (by kernel_rfl)) (fields_cons (opens_string (by kernel_rfl) (by kernel_rfl)) (fields_cons (opens_string (by kernel_rfl) (by kernel_rfl)) (fields_cons (opens_string (by kernel_rfl) (by kernel_rfl))
      (fields_cons (opens_slice (by kernel_rfl) (by kernel_rfl) opensS) (fields_one (opens_slice (by kernel_rfl) (by kernel_rfl) opensO)))))))
def OkT (t : ST) : Prop := t.f0.size ≤ rb ∧ ∀ r ∈ t.f1, OkR r
def OkTw (t : ST) : Prop := t.f0.size ≤ rb ∧ (∀ r ∈ t.f1, OkRw r) ∧ t.f1.length * Tryd.prog.bytesOf 57 ≤ 140737488351232
/-- How wide rows may be. -/
def WideR (r : SR) : Prop := r.f4.length * 32 ≤ 140737488351232 ∧ r.f5.length * 40 ≤ 140737488351232
def WideT (t : ST) : Prop := t.f1.length * 112 ≤ 140737488351232 ∧ ∀ r ∈ t.f1, WideR r
def Wide (X : List ST) : Prop := X.length * 40 ≤ 140737488351232 ∧ ∀ t ∈ X, WideT t
theorem bySub : Tryd.prog.bytesOf 62 = 32 := by kernel_rfl
theorem byOp : Tryd.prog.bytesOf 59 = 40 := by kernel_rfl
theorem byRel : Tryd.prog.bytesOf 57 = 112 := by kernel_rfl
theorem byType : Tryd.prog.bytesOf 53 = 40 := by kernel_rfl
theorem OkRw.ok {r : SR} (h : OkRw r) : OkR r ∧ WideR r := by
  obtain ⟨h0, h1, h2, h3, ⟨h4, h5⟩, h6, h7⟩ := h
  rw [bySub] at h5
  rw [byOp] at h7
  exact ⟨⟨h0, h1, h2, h3, h4, h6⟩, h5, h7⟩
theorem OkTw.ok {t : ST} (h : OkTw t) : OkT t ∧ WideT t := by
  obtain ⟨h0, h1, h2⟩ := h
  rw [byRel] at h2
  exact ⟨⟨h0, fun r hr => (h1 r hr).ok.1⟩, h2, fun r hr => (h1 r hr).ok.2⟩
theorem opensT : Opens enc Tryd.prog w base spare held k53 53 OkTw :=
  opens_struct (g := fun p => ⟨p.1, p.2⟩) (fun _ => rfl) Tryd.underlying53 (by kernel_rfl)
    (fields_cons (opens_string (by kernel_rfl) (by kernel_rfl)) (fields_one (opens_slice (by kernel_rfl) (by kernel_rfl) opensR)))
theorem opensX : Opens enc Tryd.prog w base spare held k43 43 (fun s => (∀ t ∈ s.f0, OkTw t) ∧ s.f0.length * Tryd.prog.bytesOf 53 ≤ 140737488351232) :=
  opens_struct (g := fun p => ⟨p⟩) (fun _ => rfl) Tryd.underlying43 (by kernel_rfl) (fields_one (opens_slice (by kernel_rfl) (by kernel_rfl) opensT))
/-- A schema, as it lies. -/
structure SchRow (w : World) (A : Option Addr) (c : Nat) (X : List ST) : Prop where
  hl : X.length ≤ c
  hC : Kd.C k53 w A X.length X
  ok : ∀ t ∈ X, OkT t
  wide : Wide X
set_option maxRecDepth 100000 in
theorem schema_of {W : World} {ts : List TypeId} {ds : List (DataW H)} {j : Nat} {v : Value} {d : DataW H} {ps : List MemPlace} {r : Reach} {b0 : Nat}
    (hsz : (DataW.weightsEach Tryd.prog ts ds).all (· ≤ reachBytes) = true) (ht : ts[j]? = some 43) (hd : ds[j]? = some d) (hv : Value.okWide Tryd.prog W r b0 43 v)
    (h : DataW.Trod enc Tryd.prog W base spare held 43 v d ps) : ∃ A c X, v = .agg #[.slice A X.length c] ∧ SchRow W A c X := by
  obtain ⟨cs, rfl, hcs⟩ := okWide_struct Tryd.underlying43 hv
  obtain ⟨fuel, hf⟩ := h
  obtain ⟨x, hk, hz⟩ := opensX.2 fuel _ _ hf (fun n hn => of_decide_eq_true (List.all_eq_true.1 hsz n (DataW.weights_mem_each ht hd n hn)))
  obtain ⟨A, c, he, hl, hc⟩ := hk
  obtain ⟨hz1, hz2⟩ := hz
  rw [byType] at hz2
  refine ⟨A, c, x.f0, ?_, hl, hc, fun t ht => (hz1 t ht).ok.1, hz2, fun t ht => (hz1 t ht).ok.2⟩
  have : cs.toList = [.slice A x.f0.length c] := he
  rw [← Array.toArray_toList (xs := cs), this]
end
end Go.Proofs.YtkgnhghaiopgcaaDoor.Ro
