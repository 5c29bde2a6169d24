/- Rows of structs that come in as arguments, as the laws' walks read them: a kind opens a reading; no condition. -/
import Derived.ChangeArms
import Derived.Test.YthpcplpannbipaaKd
import Derived.ChangeMaps
import Derived.SliceStrings
import Derived.SizedLaws
import Derived.OpenShut
import Derived.DataElems
set_option linter.unusedVariables false
set_option linter.unusedSimpArgs false
namespace Go.Proofs.Ythpcplpannbipaa.Ro
open Go.RowKit Go.Proofs.YthpcplpannbipaaW.PrintWords Go.Proofs.YthpcplpannbipaaW.PrintLast Go.ChangeMaps Go.ChangeShapes Go.WideShapes

section
variable {H : Type} {enc : TypeId × Value → H} {P : Program} {w : World} {base : Nat} {spare : Nat → Bool} {held : Bool}

/-- A kind opens a type: whatever is read at that type, in reach, is a value of the kind, with Z. -/
def Opens (enc : TypeId × Value → H) (P : Program) (w : World) (base : Nat) (spare : Nat → Bool) (held : Bool) {α : Type} (d : Kd α) (t : TypeId) (Z : α → Prop) : Prop :=
  d.sz = P.cellsOf t ∧ ∀ fuel cs y, DataW.trod enc P w base spare held fuel t cs = some y → (∀ n ∈ y.1.weights P t, n ≤ reachBytes) → ∃ x, d.K w x cs ∧ Z x
/-- The same of a struct's fields from one on. -/
def Fields (enc : TypeId × Value → H) (P : Program) (w : World) (base : Nat) (spare : Nat → Bool) (held : Bool) {α : Type} (d : Kd α) (fs : List (Nat × TypeId)) (o : Nat) (Z : α → Prop) : Prop :=
  ∀ (n : Nat) (cs : List Value) (xs : List (DataW H × List MemPlace)), cs.length = o + d.sz → xs.length = fs.length →
    (∀ (i : Nat) (f : Nat × TypeId), fs[i]? = some f → DataW.trod enc P w base spare held n f.2 ((cs.drop f.1).take (P.cellsOf f.2)) = xs[i]?) →
    (∀ m ∈ DataW.weightsEach P (fs.map (·.2)) (xs.map (·.1)), m ≤ reachBytes) → ∃ x, d.K w x (cs.drop o) ∧ Z x

theorem opens_string {t : TypeId} (ht : P.underlying t = some .string) (hc : P.cellsOf t = 1) : Opens enc P w base spare held Kd.string t (fun s => s.size ≤ 140737488351232) := by
  refine ⟨hc.symm, fun fuel cs y hy hw => ?_⟩
  obtain ⟨s, rfl, rfl, hm⟩ := DataW.trod_string ht hy
  refine ⟨s, rfl, ?_⟩
  have := hw s.data.toList.length (by simp [DataW.weights])
  simpa [reachBytes] using this
theorem opens_int {t : TypeId} {k : IntKind} (ht : P.underlying t = some (.int k)) (hc : P.cellsOf t = 1) : Opens enc P w base spare held (Kd.int k) t (fun n => (Lit.int k n).wf = true) := by
  refine ⟨hc.symm, fun fuel cs y hy hw => ?_⟩
  obtain ⟨n, rfl, rfl, hm⟩ := DataW.trod_int ht hy
  exact ⟨n, rfl, hm⟩
theorem choose_list {α : Type} {Q : Nat → α → Prop} : ∀ (n : Nat), (∀ i, i < n → ∃ x, Q i x) → ∃ xs : List α, xs.length = n ∧ ∀ i x, xs[i]? = some x → Q i x
  | 0, _ => ⟨[], rfl, fun i x h => by simp at h⟩
  | n + 1, h => by
    obtain ⟨xs, hl, hq⟩ := choose_list n (fun i hi => h i (by omega))
    obtain ⟨x, hx⟩ := h n (by omega)
    refine ⟨xs ++ [x], by simp [hl], fun i y hy => ?_⟩
    by_cases hi : i < n
    · rw [List.getElem?_append_left (by omega)] at hy; exact hq i y hy
    · rw [List.getElem?_append_right (by omega)] at hy
      obtain rfl : i = n := by
        have := (List.getElem?_eq_some_iff.1 hy).1
        simp at this
        omega
      simp [hl] at hy
      subst hy
      exact hx
theorem weightsAll_mem {e : TypeId} {x : DataW H} {n : Nat} : ∀ {l : List (DataW H)}, x ∈ l → n ∈ x.weights P e → n ∈ DataW.weightsAll P e l
  | [], h, _ => by simp at h
  | y :: l, h, hn => by
    rw [DataW.weightsAll, List.mem_append]
    rcases List.mem_cons.1 h with rfl | h
    · exact .inl hn
    · exact .inr (weightsAll_mem h hn)
theorem opens_slice {α : Type} {d : Kd α} {t e : TypeId} {Z : α → Prop} (ht : P.underlying t = some (.slice e)) (hc : P.cellsOf t = 1) (hd : Opens enc P w base spare held d e Z) :
    Opens enc P w base spare held (Kd.slice e d) t (fun xs => ∀ x ∈ xs, Z x) := by
  refine ⟨hc.symm, fun fuel cs y hy hw => ?_⟩
  rcases DataW.trod_slice ht hy with ⟨rfl, rfl⟩ | ⟨a, len, cap, elems, rest, n, _, rfl, rfl, hb, hl, hm, hlen, hel, hsp, hns⟩
  · exact ⟨[], ⟨none, 0, rfl, Nat.le_refl _, Kd.C_nil _ _⟩, fun x hx => by simp at hx⟩
  · have each : ∀ i, i < len → ∃ x, (∃ c, c.length = d.sz ∧ d.K w x c ∧ ∀ j u, c[j]? = some u → w.cell? (a.add (i * d.sz + j)) = some u) ∧ Z x := by
      intro i hi
      have h1 := hel i hi
      rw [List.getElem?_eq_getElem (by omega), Option.bind_eq_some_iff] at h1
      obtain ⟨c, hcs, h2⟩ := h1
      obtain ⟨x, hx, hz⟩ := hd.2 n c _ h2 (fun m hm' => hw m (by
        simp only [DataW.weights, ht, List.mem_cons, List.mem_append]
        exact .inr (.inl (weightsAll_mem (List.mem_map.2 ⟨_, List.getElem_mem (by omega), rfl⟩) hm'))))
      obtain ⟨_, hcl, hcell⟩ := World.cells?_some hcs
      refine ⟨x, ⟨c, Kd.K_len d hx, hx, fun j u hu => ?_⟩, hz⟩
      have hj := (List.getElem?_eq_some_iff.1 hu).1
      have := hcell j (by omega)
      rw [Addr.add_add, ← hd.1, hu] at this
      exact this
    obtain ⟨xs, hxl, hxq⟩ := choose_list len each
    refine ⟨xs, ⟨some a, cap, by rw [hxl], by omega, rfl, by unfold maxLen at hm; omega, fun _ => ⟨a, rfl, fun j p hp => (hxq j p hp).1⟩⟩, fun x hx => ?_⟩
    obtain ⟨i, hi⟩ := List.getElem?_of_mem hx
    exact (hxq i x hi).2
theorem fields_one {α : Type} {d : Kd α} {t : TypeId} {o : Nat} {Z : α → Prop} (hd : Opens enc P w base spare held d t Z) : Fields enc P w base spare held d [(o, t)] o Z := by
  intro n cs xs hl hx hf hw
  match xs, hx with
  | [y], _ =>
    have h1 := hf 0 (o, t) rfl
    simp only [List.getElem?_cons_zero] at h1
    rw [← hd.1, List.take_of_length_le (by rw [List.length_drop]; omega)] at h1
    exact hd.2 n _ y h1 (fun m hm => hw m (by simpa [DataW.weightsEach] using hm))
theorem fields_cons {α β : Type} {d : Kd α} {k : Kd β} {t : TypeId} {o : Nat} {fs : List (Nat × TypeId)} {Z : α → Prop} {Y : β → Prop} (hd : Opens enc P w base spare held d t Z) (hk : Fields enc P w base spare held k fs (o + d.sz) Y) :
    Fields enc P w base spare held (Kd.pair d k) ((o, t) :: fs) o (fun x => Z x.1 ∧ Y x.2) := by
  intro n cs xs hl hx hf hw
  match xs, hx with
  | y :: ys, hx =>
    have hl' : cs.length = o + (d.sz + k.sz) := hl
    have h1 := hf 0 (o, t) rfl
    simp only [List.getElem?_cons_zero] at h1
    rw [← hd.1] at h1
    obtain ⟨x, hxk, hz⟩ := hd.2 n _ y h1 (fun m hm => hw m (by simp only [List.map_cons, DataW.weightsEach, List.mem_append]; exact .inl hm))
    obtain ⟨z, hzk, hy⟩ := hk n cs ys (by omega) (by simpa using hx) (fun i f hi => by simpa using hf (i + 1) f (by simpa using hi)) (fun m hm => hw m (by simp only [List.map_cons, DataW.weightsEach, List.mem_append]; exact .inr hm))
    refine ⟨(x, z), ⟨_, _, ?_, hxk, hzk⟩, hz, hy⟩
    rw [← List.drop_drop, List.take_append_drop]
theorem opens_struct {α β : Type} {d : Kd α} {t : TypeId} {fs : Array Field} {Z : α → Prop} {f : β → α} (g : α → β) (hg : ∀ y, f (g y) = y) (ht : P.underlying t = some (.struct fs)) (hs : d.sz = P.cellsOf t)
    (hd : Fields enc P w base spare held d (fs.toList.map fun x => (x.offset, x.type)) 0 Z) : Opens enc P w base spare held (Kd.iso d f) t (fun y => Z (f y)) := by
  refine ⟨hs, fun fuel cs y hy hw => ?_⟩
  obtain ⟨xs, n, _, rfl, hl, hx, hf⟩ := DataW.trod_struct ht hy
  obtain ⟨x, hk, hz⟩ := hd n cs xs (by omega) (by simpa using hx) (fun i f hi => by
    simp only [List.getElem?_map, Option.map_eq_some_iff] at hi
    obtain ⟨f0, h0, rfl⟩ := hi
    exact hf i f0 (by simpa using h0)) (fun m hm => hw m (by
    simp only [DataW.weights, ht]
    simpa [List.map_map, Function.comp_def] using hm))
  refine ⟨g x, ?_, ?_⟩
  · show d.K w (f (g x)) cs
    rw [hg]
    exact hk
  · show Z (f (g x))
    rw [hg]
    exact hz
theorem opens_bool {t : TypeId} (ht : P.underlying t = some .bool) (hc : P.cellsOf t = 1) : Opens enc P w base spare held Kd.bool t (fun _ => True) := by
  refine ⟨hc.symm, fun fuel cs y hy hw => ?_⟩
  obtain ⟨b, rfl, rfl⟩ := DataW.trod_bool ht hy
  exact ⟨b, rfl, trivial⟩
/-- A row that comes in. -/
structure Row {α : Type} (d : Kd α) (Z : α → Prop) (w : World) (a : Option Addr) (len cap : Nat) (xs : List α) : Prop where
  hl : xs.length = len
  hc : len ≤ cap
  hC : Kd.C d w a xs.length xs
  ok : ∀ x ∈ xs, Z x
theorem row_of {α : Type} {d : Kd α} {Z : α → Prop} {W : World} {t e : TypeId} {a : Option Addr} {len cap : Nat} {dd : DataW H} {ps : List MemPlace} {ts : List TypeId} {ds : List (DataW H)} {j : Nat}
    (hsz : (DataW.weightsEach P ts ds).all (· ≤ reachBytes) = true) (ht : ts[j]? = some t) (hd : ds[j]? = some dd) (hu : P.underlying t = some (.slice e)) (hc : P.cellsOf t = 1) (ho : Opens enc P W base spare held d e Z)
    (h : DataW.Trod enc P W base spare held t (.slice a len cap) dd ps) : ∃ xs, Row d Z W a len cap xs := by
  obtain ⟨fuel, hf⟩ := h
  obtain ⟨xs, hk, hz⟩ := (opens_slice hu hc ho).2 fuel _ _ hf (fun n hn => of_decide_eq_true (List.all_eq_true.1 hsz n (DataW.weights_mem_each ht hd n hn)))
  obtain ⟨A, c, he, hl, hC⟩ := hk
  simp only [Value.cells, List.cons.injEq, and_true, Value.slice.injEq] at he
  obtain ⟨rfl, rfl, rfl⟩ := he
  exact ⟨xs, rfl, hl, hC, hz⟩
end
open Go.Proofs.Ythpcplpannbipaa.Kx in
theorem opensP {H : Type} {enc : TypeId × Value → H} {w : World} {base : Nat} {spare : Nat → Bool} {held : Bool} : Opens enc Try.prog w base spare held k46 46 (fun x => x.f0.size ≤ 140737488351232 ∧ True) :=
  opens_struct (g := fun p => ⟨p.1, p.2⟩) (fun _ => rfl) Try.underlying46 (by kernel_rfl)
    (fields_cons (opens_string (by kernel_rfl) (by kernel_rfl)) (fields_one (opens_bool (by kernel_rfl) (by kernel_rfl))))
open Go.Proofs.Ythpcplpannbipaa.Kx in
theorem opensC {H : Type} {enc : TypeId × Value → H} {w : World} {base : Nat} {spare : Nat → Bool} {held : Bool} : Opens enc Try.prog w base spare held k40 40 (fun x => x.f0.size ≤ 140737488351232 ∧ True) :=
  opens_struct (g := fun p => ⟨p.1, p.2⟩) (fun _ => rfl) Try.underlying40 (by kernel_rfl)
    (fields_cons (opens_string (by kernel_rfl) (by kernel_rfl)) (fields_one (opens_bool (by kernel_rfl) (by kernel_rfl))))
end Go.Proofs.Ythpcplpannbipaa.Ro
