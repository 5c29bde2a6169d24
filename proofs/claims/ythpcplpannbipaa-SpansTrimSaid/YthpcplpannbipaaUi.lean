/- Spans trimmed: what stays, in plain Lean; two of them side by side on the heap; no condition. -/
import Derived.Test.YthpcplpannbipaaUh
set_option linter.unusedVariables false
set_option linter.unusedSimpArgs false
set_option linter.unusedSectionVars false
namespace Go.Proofs.Ythpcplpannbipaa.Sa
open Go.RowKit Go.Maps Go.MapKept Go.Proofs.YthpcplpannbipaaW.PrintWords Go.Proofs.YthpcplpannbipaaW.PrintLast Go.Proofs.Ythpcplpannbipaa.X Go.Proofs.Ythpcplpannbipaa.Kx Go.Proofs.Ythpcplpannbipaa.Mp Go.Proofs.Ythpcplpannbipaa.Mq Go.Proofs.Ythpcplpannbipaa.Sq Go.Proofs.Ythpcplpannbipaa.Mb Go.Proofs.Ythpcplpannbipaa.Maps
theorem trim_mem {rev : Int} {g : List (ByteArray × List Sp)} {p : ByteArray × List Sp} (h : p ∈ trimG rev g) : (∀ x ∈ p.2, gone rev x = false) ∧ p.2.isEmpty = false := by
  unfold trimG at h
  obtain ⟨h1, h2⟩ := List.mem_filter.1 h
  obtain ⟨q, _, rfl⟩ := List.mem_map.1 h1
  refine ⟨fun x hx => ?_, by simpa using h2⟩
  have := (List.mem_filter.1 hx).2
  simpa using this
theorem trim_idem (rev : Int) (g : List (ByteArray × List Sp)) : trimG rev (trimG rev g) = trimG rev g := by
  have h1 : ((trimG rev g).map fun p => (p.1, p.2.filter fun x => !gone rev x)) = trimG rev g := by
    have : ((trimG rev g).map fun p => (p.1, p.2.filter fun x => !gone rev x)) = (trimG rev g).map id := List.map_congr_left (fun p hp => by
      have h2 := (trim_mem hp).1
      rw [List.filter_eq_self.2 (fun x hx => by rw [h2 x hx]; rfl)]; rfl)
    rw [this, List.map_id]
  unfold trimG at h1 ⊢
  rw [h1]
  refine List.filter_eq_self.2 (fun p hp => ?_)
  have := (trim_mem (rev := rev) (g := g) hp).2
  rw [this]; rfl
theorem trim_twice (s : St ByteArray) (rev : Int) : (trimS (trimS s rev).1 rev).2 = 0 ∧ (trimS (trimS s rev).1 rev).1 = (trimS s rev).1 := by
  constructor
  · show (flat (trimG rev s.g)).countP (fun p => gone rev p.2) = 0
    rw [List.countP_eq_zero]
    intro p hp
    unfold flat at hp
    obtain ⟨q, hq, hp2⟩ := List.mem_flatMap.1 hp
    obtain ⟨x, hx, rfl⟩ := List.mem_map.1 hp2
    rw [(trim_mem hq).1 x hx]; decide
  · show (⟨trimG rev (trimG rev s.g), s.last⟩ : St ByteArray) = ⟨trimG rev s.g, s.last⟩
    rw [trim_idem]
theorem hold_gone {rev k : Int} (h : rev ≤ k) (x : Sp) : (holds k x && !gone rev x) = holds k x := by
  unfold holds gone
  by_cases h1 : x.2 = 0
  · simp [h1]
  · by_cases h2 : x.2 ≤ rev
    · simp [h1]; omega
    · simp [h1, h2]
theorem any_filter (p q : Sp → Bool) (l : List Sp) : (l.filter q).any p = l.any fun x => p x && q x := by
  rw [List.any_filter]; congr 1; funext x; exact Bool.and_comm _ _
theorem trim_has {s : St ByteArray} (h : Sq.Inv blt s) {rev k : Int} (hk : rev ≤ k) (key : ByteArray) : hasS (trimS s rev).1 key k = hasS s key k := by
  unfold hasS
  show (Sq.get (trimG rev s.g) key).any _ = _
  rw [get_trim blt_TO h.srt, any_filter]
  congr 1; funext x; exact hold_gone hk x
theorem trim_keys {s : St ByteArray} (h : Sq.Inv blt s) {rev k : Int} (hk : rev ≤ k) : keysOf (trimS s rev).1 k = keysOf s k :=
  srt_ext blt_TO (keysOf_srt (inv_trim h rev) k) (keysOf_srt h k) (fun x => by rw [keysOf_mem (inv_trim h rev), keysOf_mem h, trim_has h hk])
theorem trim_count {s : St ByteArray} (h : Sq.Inv blt s) {rev k : Int} (hk : rev ≤ k) : countS (trimS s rev).1 k = countS s k := by
  rw [← count_rel blt_TO (inv_trim h rev) (trim_rel blt_TO h (flat_rel h) rev).1, ← count_rel blt_TO h (flat_rel h)]
  unfold trimR
  rw [List.countP_filter]
  refine List.countP_congr (fun p _ => ?_)
  have := hold_gone hk p.2
  rw [this]
theorem ok_flat {s : St ByteArray} (h : Sq.Inv blt s) {p : ByteArray × Sp} (hp : p ∈ flat s.g) : 1 ≤ p.2.1 ∧ (p.2.2 = 0 ∨ p.2.1 < p.2.2) := by
  unfold flat at hp
  obtain ⟨q, hq, hp2⟩ := List.mem_flatMap.1 hp
  obtain ⟨x, hx, rfl⟩ := List.mem_map.1 hp2
  obtain ⟨h1, _, h3⟩ := (h.ok q hq).1 x hx
  exact ⟨h1, h3.imp id (·.1)⟩
theorem evs_gone {s : St ByteArray} (h : Sq.Inv blt s) {rev k : Int} : ∀ (L : List (ByteArray × Sp)), (∀ p ∈ L, 1 ≤ p.2.1 ∧ (p.2.2 = 0 ∨ p.2.1 < p.2.2)) → (trimR L rev).flatMap (evs rev k) = L.flatMap (evs rev k)
  | [], _ => rfl
  | p :: L, hL => by
    have ih := evs_gone h (rev := rev) (k := k) L (fun q hq => hL q (List.mem_cons_of_mem _ hq))
    have hp := hL p List.mem_cons_self
    unfold trimR at ih ⊢
    rw [List.filter_cons, List.flatMap_cons]
    split
    · rw [List.flatMap_cons, ih]
    · rename_i hg
      have hg2 : gone rev p.2 = true := by simpa using hg
      unfold gone at hg2
      simp only [Bool.and_eq_true, decide_eq_true_eq] at hg2
      have : evs rev k p = [] := by
        unfold evs
        rw [if_neg (by omega), if_neg (by omega)]; rfl
      rw [this, List.nil_append, ih]
theorem trim_events {s : St ByteArray} (h : Sq.Inv blt s) (rev k : Int) : eventsS blt (trimS s rev).1 rev k = eventsS blt s rev k := by
  have T := elt_TO blt_TO
  have hi := inv_trim h rev
  have hp := rel_perm blt_TO hi (trim_rel blt_TO h (flat_rel h) rev).1
  refine wk_ext T (wk_sort T _) (wk_sort T _) ?_
  refine (List.mergeSort_perm _ _).trans (List.Perm.trans ?_ (List.mergeSort_perm _ _).symm)
  refine (hp.symm.flatMap_right (evs rev k)).trans ?_
  rw [evs_gone h _ (fun p hp => ok_flat h hp)]
/-! ### two of them -/
/-- Two of them, in blocks apart, none below base. -/
def Pr (w : World) (bs bt : Nat) (s t : St ByteArray) (n base : Nat) : Prop := ∃ ok ok2, Hs w ok bs s n ∧ Hs w ok2 bt t n ∧ (∀ m, ok m → base ≤ m) ∧ (∀ m, ok2 m → base ≤ m) ∧ (∀ m, ok m → ¬ ok2 m) ∧ base ≤ w.heap.size
section
variable {w w' : World} {bs bt n base : Nat} {s t : St ByteArray}
theorem Pr.swap (h : Pr w bs bt s t n base) : Pr w bt bs t s n base := by
  obtain ⟨ok, ok2, h1, h2, h3, h4, h5, h6⟩ := h
  exact ⟨ok2, ok, h2, h1, h4, h3, fun m hm hm2 => h5 m hm2 hm, h6⟩
theorem Pr.below (h : Pr w bs bt s t n base) (hb : Below w.heap.size w w') : Pr w' bs bt s t n base := by
  obtain ⟨ok, ok2, h1, h2, h3, h4, h5, h6⟩ := h
  exact ⟨ok, ok2, h1.below hb, h2.below hb, h3, h4, h5, Nat.le_trans h6 hb.size⟩
theorem Pr.drew (h : Pr w bs bt s t n base) : Pr w.drew bs bt s t n base := h.below (Below.refl _ _).drew
theorem Hs.mono {ok : Nat → Prop} {b m : Nat} {s : St ByteArray} (h : Hs w ok b s n) (hm : n ≤ m) : Hs w ok b s m := ⟨h.at_, h.few.mono hm, h.lt⟩
theorem Pr.few (h : Pr w bs bt s t n base) : Few s n := by
  obtain ⟨ok, ok2, h1, h2, h3, h4, h5, h6⟩ := h
  exact h1.few
theorem pr_put (h : Pr w bs bt s t n base) (hn : n ≤ 900000) {key : ByteArray} (hk : key.size ≤ 1000) (rev : Int) : Calls Try.prog 26 #[.pointer (some ⟨bs, 0, none⟩), .string key, .int .i64 rev] w fun e w' =>
    e = .returned (.bool (putS blt s key rev).2) ∧ Pr w' bs bt (putS blt s key rev).1 t (n + 1) base ∧ Below base w w' := by
  obtain ⟨ok, ok2, h1, h2, h3, h4, h5, h6⟩ := h
  refine (put_h h1 hn hk rev).mono ?_
  rintro e w' ⟨he, ⟨ok', hs, hok⟩, hf⟩
  refine ⟨he, ⟨ok', ok2, hs, (h2.apart hf (fun m hm hm2 => h5 m hm2 hm)).mono (Nat.le_succ n), fun m hm => (hok m hm).elim (h3 m) (fun h => Nat.le_trans h6 h), h4, fun m hm hm2 => ?_, Nat.le_trans h6 hf.size⟩, hf.below_of h6 h3⟩
  rcases hok m hm with h | h
  · exact h5 m h hm2
  · have := h2.lt m hm2; omega
theorem pr_drop (h : Pr w bs bt s t n base) (hn : n ≤ 900000) {key : ByteArray} (hk : key.size ≤ 1000) (rev : Int) : Calls Try.prog 28 #[.pointer (some ⟨bs, 0, none⟩), .string key, .int .i64 rev] w fun e w' =>
    e = .returned (.bool (dropS blt s key rev).2) ∧ Pr w' bs bt (dropS blt s key rev).1 t n base ∧ Below base w w' := by
  obtain ⟨ok, ok2, h1, h2, h3, h4, h5, h6⟩ := h
  refine (drop_h h1 hn hk rev).mono ?_
  rintro e w' ⟨he, hs, hf⟩
  exact ⟨he, ⟨ok, ok2, hs, h2.apart hf (fun m hm hm2 => h5 m hm2 hm), h3, h4, h5, Nat.le_trans h6 hf.size⟩, hf.below_of h6 h3⟩
theorem pr_trim (h : Pr w bs bt s t n base) (hn : n ≤ 900000) (rev : Int) : Calls Try.prog 30 #[.pointer (some ⟨bs, 0, none⟩), .int .i64 rev] w fun e w' =>
    e = .returned (.int .i64 (trimS s rev).2) ∧ Pr w' bs bt (trimS s rev).1 t n base ∧ Below base w w' := by
  obtain ⟨ok, ok2, h1, h2, h3, h4, h5, h6⟩ := h
  refine (trim_h h1 hn rev).mono ?_
  rintro e w' ⟨he, hs, hf⟩
  exact ⟨he, ⟨ok, ok2, hs, h2.apart hf (fun m hm hm2 => h5 m hm2 hm), h3, h4, h5, Nat.le_trans h6 hf.size⟩, hf.below_of h6 h3⟩
theorem pr_count (h : Pr w bs bt s t n base) (hn : n ≤ 900000) (rev : Int) : Calls Try.prog 36 #[.pointer (some ⟨bs, 0, none⟩), .int .i64 rev] w fun e w' => e = .returned (.int .i64 (countS s rev : Int)) ∧ Below w.heap.size w w' := by
  obtain ⟨ok, ok2, h1, _⟩ := h
  exact count_h h1 hn rev
theorem pr_events (h : Pr w bs bt s t n base) (hn : n ≤ 900000) (f r : Int) : Calls Try.prog 38 #[.pointer (some ⟨bs, 0, none⟩), .int .i64 f, .int .i64 r] w fun e w' => ∃ v, e = .returned v ∧ EvRow w' w.heap.size v (eventsS blt s f r) ∧ Below w.heap.size w w' := by
  obtain ⟨ok, ok2, h1, _⟩ := h
  exact events_h h1 hn f r
theorem pr_keys (h : Pr w bs bt s t n base) (hn : n ≤ 150) (rev : Int) : Calls Try.prog 40 #[.pointer (some ⟨bs, 0, none⟩), .int .i64 rev] w fun e w' => ∃ v, e = .returned v ∧ Kd.string.R 9 w' w.heap.size (fun _ => True) v (keysOf s rev) ∧ Below w.heap.size w w' := by
  obtain ⟨ok, ok2, h1, _⟩ := h
  exact keys_h h1 hn rev
end
end Go.Proofs.Ythpcplpannbipaa.Sa
