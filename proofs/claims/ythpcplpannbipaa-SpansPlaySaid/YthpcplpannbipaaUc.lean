/- Spans, few of them, on the heap; the document's example; what the laws hand in; no condition. -/
import Derived.Test.YthpcplpannbipaaUb
import Derived.Test.YthpcplpannbipaaSv
import Derived.Test.YthpcplpannbipaaSj
import Derived.Test.YthpcplpannbipaaSa
import Derived.Test.YthpcplpannbipaaRp
set_option linter.unusedVariables false
set_option linter.unusedSimpArgs false
set_option linter.unusedSectionVars false
namespace Go.Proofs.Ythpcplpannbipaa.Sa
open Go.RowKit Go.Maps Go.MapKept Go.Proofs.YthpcplpannbipaaW.PrintWords Go.Proofs.YthpcplpannbipaaW.PrintLast Go.Proofs.Ythpcplpannbipaa.X Go.Proofs.Ythpcplpannbipaa.Kx Go.Proofs.Ythpcplpannbipaa.Mp Go.Proofs.Ythpcplpannbipaa.Mq Go.Proofs.Ythpcplpannbipaa.Sq Go.Proofs.Ythpcplpannbipaa.Mb Go.Proofs.Ythpcplpannbipaa.Maps
/-- Few spans, and short keys. -/
structure Few (s : St ByteArray) (n : Nat) : Prop where
  inv : Sq.Inv blt s
  len : (flat s.g).length ≤ n
  key : ∀ k ∈ keysG s.g, k.size ≤ 1000
theorem flat_rel {s : St ByteArray} (h : Sq.Inv blt s) : Rel s (flat s.g) := fun k => flat_get blt_TO h.srt k
section
variable {s : St ByteArray} {n : Nat}
theorem Few.mono {m : Nat} (h : Few s n) (hn : n ≤ m) : Few s m := ⟨h.inv, Nat.le_trans h.len hn, h.key⟩
theorem few_new : Few (⟨[], 0⟩ : St ByteArray) 0 := ⟨inv_new, Nat.le_refl _, fun k hk => by simp [keysG] at hk⟩
theorem key_upd {g : List (ByteArray × List Sp)} {k j : ByteArray} {l : List Sp} (h : j ∈ keysG (upd blt g k l)) : j = k ∨ j ∈ keysG g := by
  obtain ⟨l', hl⟩ := mem_keys h
  rcases mem_upd hl with e | h
  · injection e with e1 _; exact .inl e1
  · exact .inr (keysG_map g _ h)
theorem Few.put (h : Few s n) {k : ByteArray} (hk : k.size ≤ 1000) (rev : Int) : Few (putS blt s k rev).1 (n + 1) := by
  have hi := inv_put blt_TO h.inv k rev
  have hp := (rel_perm blt_TO hi (put_rel blt_TO h.inv (flat_rel h.inv) k rev).2.2).length_eq
  refine ⟨hi, ?_, ?_⟩
  · rw [← hp]
    have := h.len
    unfold putR
    split
    · show (flat s.g).length ≤ _; omega
    · show (flat s.g ++ _).length ≤ _; rw [List.length_append, List.length_cons, List.length_nil]; omega
  · unfold putS
    split
    · exact h.key
    · intro j hj
      rcases key_upd hj with rfl | hj
      · exact hk
      · exact h.key j hj
theorem Few.drop (h : Few s n) {k : ByteArray} (hk : k.size ≤ 1000) (rev : Int) : Few (dropS blt s k rev).1 n := by
  have hi := inv_drop blt_TO h.inv k rev
  have hp := (rel_perm blt_TO hi (drop_rel blt_TO h.inv (flat_rel h.inv) k rev).2.2).length_eq
  refine ⟨hi, ?_, ?_⟩
  · rw [← hp]
    have := h.len
    unfold dropR
    split
    · exact this
    · split
      · exact this
      · split
        · exact this
        · show (List.set _ _ _).length ≤ _; rw [List.length_set]; exact this
  · unfold dropS
    split
    · exact h.key
    · intro j hj
      rcases key_upd hj with rfl | hj
      · exact hk
      · exact h.key j hj
theorem Few.trim (h : Few s n) (rev : Int) : Few (trimS s rev).1 n := by
  have hi := inv_trim h.inv rev
  have hp := (rel_perm blt_TO hi (trim_rel blt_TO h.inv (flat_rel h.inv) rev).1).length_eq
  refine ⟨hi, ?_, fun j hj => h.key j ((keys_trim rev s.g).subset hj)⟩
  rw [← hp]
  exact Nat.le_trans (List.length_filter_le _ _) h.len
theorem keys_le : ∀ {g : List (ByteArray × List Sp)}, Full g → (keysG g).length ≤ (flat g).length
  | [], _ => Nat.le_refl _
  | (a, l) :: r, hf => by
    have ih := keys_le (g := r) (fun p hp => hf p (List.mem_cons_of_mem _ hp))
    have h1 : l ≠ [] := hf (a, l) List.mem_cons_self
    rw [flat_cons, List.length_append, List.length_map]
    have h2 : 0 < l.length := List.length_pos_iff.2 h1
    show (keysG r).length + 1 ≤ l.length + _
    omega
theorem Few.keys (h : Few s n) : (keysG s.g).length ≤ n := Nat.le_trans (keys_le h.inv.full) h.len
theorem Few.get (h : Few s n) (k : ByteArray) : (Sq.get s.g k).length ≤ n := by
  rw [← flat_get blt_TO h.inv.srt k, List.length_map]
  exact Nat.le_trans (List.length_filter_le _ _) h.len
end
/-- Spans at block b in blocks of their own, all of them there. -/
structure Hs (w : World) (ok : Nat → Prop) (b : Nat) (s : St ByteArray) (n : Nat) : Prop where
  at_ : SpAt w ok b s
  few : Few s n
  lt : ∀ m, ok m → m < w.heap.size
section
variable {w w' : World} {ok : Nat → Prop} {b n : Nat} {s : St ByteArray}
theorem Hs.move (h : Hs w ok b s n) (hm : ∀ m, ok m → w'.heap[m]? = w.heap[m]?) (hs : w.heap.size ≤ w'.heap.size) : Hs w' ok b s n := ⟨h.at_.move (fun m hm' _ => hm m hm'), h.few, fun m hm' => Nat.lt_of_lt_of_le (h.lt m hm') hs⟩
theorem Hs.below (h : Hs w ok b s n) (hb : Below w.heap.size w w') : Hs w' ok b s n := h.move (fun m hm => hb.block m (h.lt m hm)) hb.size
/-- .. what is not its own turns, and it stays. -/
theorem Hs.apart {ok2 : Nat → Prop} (h : Hs w ok b s n) (hf : FrO ok2 w w') (hd : ∀ m, ok m → ¬ ok2 m) : Hs w' ok b s n := h.move (fun m hm => hf.block m (h.lt m hm) (hd m hm)) hf.size
theorem FrO.below_of {ok : Nat → Prop} {B : Nat} (hf : FrO ok w w') (hB : B ≤ w.heap.size) (hd : ∀ m, ok m → B ≤ m) : Below B w w' := ⟨hf.os, hf.tape, hf.output, hf.size, fun m hm => hf.block m (Nat.lt_of_lt_of_le hm hB) (fun e => by have := hd m e; omega)⟩
theorem new_h (w : World) : Calls Try.prog 25 #[] w fun e w' => ∃ b ok, e = .returned (.pointer (some ⟨b, 0, none⟩)) ∧ Hs w' ok b ⟨[], 0⟩ 0 ∧ (∀ m, ok m → w.heap.size ≤ m) ∧ Below w.heap.size w w' :=
  (New_c w).mono fun e w' h => ⟨w.heap.size + 1, _, h.1, ⟨h.2.1.tight, few_new, fun m hm => hm.2⟩, fun m hm => hm.1, h.2.2⟩
theorem put_h (h : Hs w ok b s n) (hn : n ≤ 900000) {key : ByteArray} (hk : key.size ≤ 1000) (rev : Int) : Calls Try.prog 26 #[.pointer (some ⟨b, 0, none⟩), .string key, .int .i64 rev] w fun e w' =>
    e = .returned (.bool (putS blt s key rev).2) ∧ (∃ ok', Hs w' ok' b (putS blt s key rev).1 (n + 1) ∧ ∀ m, ok' m → ok m ∨ w.heap.size ≤ m) ∧ FrO ok w w' :=
  (Put_c h.at_ key rev (Nat.le_trans (h.few.get key) (by omega)) (Nat.le_trans h.few.keys (by omega))).mono fun e w' h1 => ⟨h1.1, ⟨_, ⟨h1.2.1.tight, h.few.put hk rev, fun m hm => hm.2⟩, fun m hm => hm.1⟩, h1.2.2⟩
theorem drop_h (h : Hs w ok b s n) (hn : n ≤ 900000) {key : ByteArray} (hk : key.size ≤ 1000) (rev : Int) : Calls Try.prog 28 #[.pointer (some ⟨b, 0, none⟩), .string key, .int .i64 rev] w fun e w' =>
    e = .returned (.bool (dropS blt s key rev).2) ∧ Hs w' ok b (dropS blt s key rev).1 n ∧ FrO ok w w' :=
  (Drop_c h.at_ key rev (Nat.le_trans (h.few.get key) (by omega))).mono fun e w' h1 => ⟨h1.1, ⟨h1.2.1, h.few.drop hk rev, fun m hm => Nat.lt_of_lt_of_le (h.lt m hm) h1.2.2.size⟩, h1.2.2⟩
theorem trim_h (h : Hs w ok b s n) (hn : n ≤ 900000) (rev : Int) : Calls Try.prog 30 #[.pointer (some ⟨b, 0, none⟩), .int .i64 rev] w fun e w' =>
    e = .returned (.int .i64 (trimS s rev).2) ∧ Hs w' ok b (trimS s rev).1 n ∧ FrO ok w w' :=
  (Trim_c h.at_ rev (Nat.le_trans h.few.keys (by omega)) (fun k => Nat.le_trans (h.few.get k) (by omega)) (fun k hk => Nat.le_trans (h.few.key k hk) (by decide)) (Nat.le_trans h.few.len (by omega))).mono fun e w' h1 => ⟨h1.1, ⟨h1.2.1, h.few.trim rev, fun m hm => Nat.lt_of_lt_of_le (h.lt m hm) h1.2.2.size⟩, h1.2.2⟩
theorem has_h (h : Hs w ok b s n) (key : ByteArray) (rev : Int) : Calls Try.prog 34 #[.pointer (some ⟨b, 0, none⟩), .string key, .int .i64 rev] w fun e w' => e = .returned (.bool (hasS s key rev)) ∧ Below w.heap.size w w' := Has_c h.at_ key rev
theorem next_h (h : Hs w ok b s n) (hn : n ≤ 900000) (rev : Int) (f t : ByteArray) : Calls Try.prog 32 #[.pointer (some ⟨b, 0, none⟩), .int .i64 rev, .string f, .string t] w fun e w' => e = .returned (nxV (nextS blt s rev f (toO t))) ∧ Below w.heap.size w w' :=
  Next_c h.at_ rev f t (Nat.le_trans h.few.keys (by omega))
theorem count_h (h : Hs w ok b s n) (hn : n ≤ 900000) (rev : Int) : Calls Try.prog 36 #[.pointer (some ⟨b, 0, none⟩), .int .i64 rev] w fun e w' => e = .returned (.int .i64 (countS s rev : Int)) ∧ Below w.heap.size w w' :=
  Count_c h.at_ (Nat.le_trans h.few.keys (by omega)) (fun k => Nat.le_trans (h.few.get k) (by omega)) (Nat.le_trans h.few.len (by omega)) rev
theorem events_h (h : Hs w ok b s n) (hn : n ≤ 900000) (f t : Int) : Calls Try.prog 38 #[.pointer (some ⟨b, 0, none⟩), .int .i64 f, .int .i64 t] w fun e w' => ∃ v, e = .returned v ∧ EvRow w' w.heap.size v (eventsS blt s f t) ∧ Below w.heap.size w w' :=
  Events_c h.at_ (Nat.le_trans h.few.keys (by omega)) (fun k => Nat.le_trans (h.few.get k) (by omega)) (Nat.le_trans h.few.len (by omega)) f t
end
end Go.Proofs.Ythpcplpannbipaa.Sa
namespace Go.Proofs.Ythpcplpannbipaa.Sa
open Go.RowKit Go.Maps Go.MapKept Go.Proofs.YthpcplpannbipaaW.PrintWords Go.Proofs.YthpcplpannbipaaW.PrintLast Go.Proofs.Ythpcplpannbipaa.X Go.Proofs.Ythpcplpannbipaa.Kx Go.Proofs.Ythpcplpannbipaa.Mp Go.Proofs.Ythpcplpannbipaa.Mq Go.Proofs.Ythpcplpannbipaa.Sq Go.Proofs.Ythpcplpannbipaa.Mb Go.Proofs.Ythpcplpannbipaa.Maps
abbrev kA : ByteArray := ⟨#[97]⟩
abbrev kB : ByteArray := ⟨#[98]⟩
def s1 : St ByteArray := ⟨[(kA, [(1, 0)])], 1⟩
def s2 : St ByteArray := ⟨[(kA, [(1, 3)])], 3⟩
def s3 : St ByteArray := ⟨[(kA, [(1, 3)]), (kB, [(3, 0)])], 3⟩
def s4 : St ByteArray := ⟨[(kB, [(3, 0)])], 3⟩
theorem e1 : putS blt ⟨[], 0⟩ kA 1 = (s1, true) := by kernel_rfl
theorem e2 : dropS blt s1 kA 3 = (s2, true) := by kernel_rfl
theorem e3 : putS blt s2 kB 3 = (s3, true) := by kernel_rfl
theorem e4 : nextS blt s3 3 ⟨#[]⟩ (toO ⟨#[]⟩) = some kB := by
  have h : toO ⟨#[]⟩ = none := if_pos rfl
  exact (congrArg (nextS blt s3 3 ⟨#[]⟩) h).trans (by kernel_rfl)
theorem e5 : hasS s3 kA 1 = true := by kernel_rfl
theorem e6 : hasS s3 kA 2 = true := by kernel_rfl
theorem e7 : hasS s3 kA 3 = false := by kernel_rfl
theorem e8 : countS s3 2 = 1 := by kernel_rfl
theorem e9 : trimS s3 3 = (s4, 1) := by kernel_rfl
theorem e10 : hasS s4 kA 2 = false := by kernel_rfl
theorem e11 : eventsS blt s3 1 3 = [(3, kA, false), (3, kB, true)] := by
  have h1 : (flat s3.g).flatMap (evs 1 3) = [(3, kA, false), (3, kB, true)] := by kernel_rfl
  unfold eventsS
  rw [h1]
  refine List.mergeSort_of_pairwise ?_
  refine List.pairwise_pair.2 ?_
  kernel_rfl
/-- Cells of a row of events. -/
theorem ev_cells {w : World} {base : Nat} {v : Value} {l : List (Evt ByteArray)} (h : EvRow w base v l) (hne : l ≠ []) : ∃ g c, v = .slice (some ⟨g, 0, none⟩) l.length c ∧ base ≤ g ∧ l.length ≤ c ∧ g < w.heap.size ∧
    ∀ (j : Nat) (e : Evt ByteArray), l[j]? = some e → w.cell? ⟨g, j * 3, none⟩ = some (.int .i64 e.1) ∧ w.cell? ⟨g, j * 3 + 1, none⟩ = some (.string e.2.1) ∧ w.cell? ⟨g, j * 3 + 2, none⟩ = some (.bool e.2.2) := by
  obtain ⟨hlen, h2⟩ := h
  rcases h2 with ⟨_, h0⟩ | ⟨g, c, cur, rfl, hb, hg, hn, hc, hs, ht⟩
  · exact absurd (List.length_eq_zero_iff.1 h0) hne
  · refine ⟨g, c, rfl, hb, hn, blk_lt hg, fun j e hj => ?_⟩
    have hjl := (List.getElem?_eq_some_iff.1 hj).1
    have key : ∀ i, i < 3 → w.cell? ⟨g, j * 3 + i, none⟩ = (enc3 e)[i]? := fun i hi => by
      have e1 : (cur.toList.take (l.length * 3))[j * 3 + i]? = (l.flatMap enc3)[j * 3 + i]? := by rw [ht]
      rw [List.getElem?_take, if_pos (by omega), Array.getElem?_toList] at e1
      rw [blk_cell hg (j * 3 + i), e1]
      clear e1 ht hs hg hn hc hb hlen hne
      induction l generalizing j with
      | nil => simp at hjl
      | cons x l ih =>
        rw [List.flatMap_cons]
        cases j with
        | zero =>
          obtain rfl : x = e := by simpa using hj
          rw [Nat.zero_mul, Nat.zero_add, List.getElem?_append_left (by exact hi)]
        | succ j =>
          rw [List.getElem?_append_right (by show 3 ≤ _; omega)]
          have h3 : (j + 1) * 3 + i - (enc3 x).length = j * 3 + i := by show (j + 1) * 3 + i - 3 = _; omega
          rw [h3]
          exact ih j (by simpa using hj) (by simpa using hjl)
    have k0 := key 0 (by omega)
    rw [Nat.add_zero] at k0
    exact ⟨k0, key 1 (by omega), key 2 (by omega)⟩
set_option maxHeartbeats 8000000 in
set_option maxRecDepth 100000 in
theorem awake_c (w : World) : Calls Try.prog 23 #[] w fun e w' => e = .returned (.bool true) ∧ Below w.heap.size w w' := by
  go_enter Try.func23, Try.ntmps23
  go_wp2_with fail
  refine (new_h w).mono ?_
  rintro e w1 ⟨b, ok, rfl, h0, hok, hb1⟩
  have H0 := Aside0.mk h0
  have HOK := Aside0.mk hok
  have HB1 := Aside0.mk hb1
  clear h0 hok hb1
  go_wp2_with fail
  refine (put_h H0.out (by omega) (key := kA) (by decide) 1).mono ?_
  rw [e1]
  rintro e w2 ⟨rfl, ⟨ok2, h2, hok2⟩, hf2⟩
  have H2 : Aside0 (Hs w2 ok2 b s1 1) := ⟨h2⟩
  have HB2 : Aside0 (Below w.heap.size w w2 ∧ ∀ m, ok2 m → w.heap.size ≤ m) := ⟨HB1.out.trans (hf2.below_of HB1.out.size HOK.out), fun m hm => (hok2 m hm).elim (HOK.out m) (fun h => Nat.le_trans HB1.out.size h)⟩
  clear h2 hok2 hf2
  go_wp2_with fail
  refine (drop_h H2.out (by omega) (key := kA) (by decide) 3).mono ?_
  rw [e2]
  rintro e w3 ⟨rfl, h3, hf3⟩
  have H3 : Aside0 (Hs w3 ok2 b s2 1) := ⟨h3⟩
  have HB3 : Aside0 (Below w.heap.size w w3) := ⟨HB2.out.1.trans (hf3.below_of HB2.out.1.size HB2.out.2)⟩
  clear h3 hf3
  go_wp2_with fail
  refine (put_h H3.out (by omega) (key := kB) (by decide) 3).mono ?_
  rw [e3]
  rintro e w4 ⟨rfl, ⟨ok4, h4, hok4⟩, hf4⟩
  have H4 : Aside0 (Hs w4 ok4 b s3 2) := ⟨h4⟩
  have HB4 : Aside0 (Below w.heap.size w w4 ∧ ∀ m, ok4 m → w.heap.size ≤ m) := ⟨HB3.out.trans (hf4.below_of HB3.out.size HB2.out.2), fun m hm => (hok4 m hm).elim (HB2.out.2 m) (fun h => Nat.le_trans HB3.out.size h)⟩
  clear h4 hok4 hf4
  go_wp2_with fail
  refine (next_h H4.out (by omega) 3 ⟨#[]⟩ ⟨#[]⟩).mono ?_
  rw [e4]
  rintro e w5 ⟨rfl, hb5⟩
  have H5 := Aside0.mk (H4.out.below hb5)
  have HB5 : Aside0 (Below w.heap.size w w5) := ⟨HB4.out.1.trans (hb5.mono HB4.out.1.size)⟩
  clear hb5
  rw [show nxV (some kB) = .tuple #[.string kB, .bool true] from rfl]
  go_wp2_with fail
  refine (events_h H5.out (by omega) 1 3).mono ?_
  rw [e11]
  rintro e w6 ⟨v6, rfl, hv6, hb6⟩
  have H6 := Aside0.mk (H5.out.below hb6)
  have HB6 : Aside0 (Below w.heap.size w w6) := ⟨HB5.out.trans (hb6.mono HB5.out.size)⟩
  obtain ⟨g, c, rfl, hbg, hlc, hgl, hcs⟩ := ev_cells hv6 (by simp)
  have q0 := hcs 0 _ rfl
  have q1 := hcs 1 _ rfl
  obtain ⟨q00, q01, q02⟩ := q0
  obtain ⟨q10, q11, q12⟩ := q1
  have HQ : Aside0 (∀ m, ok4 m → m ≠ g) := ⟨fun m hm e => by have := H5.out.lt m hm; omega⟩
  have HGL := Aside0.mk hgl
  have HD6 : Aside0 (Below w6.heap.size w6 w6) := ⟨Below.refl _ _⟩
  have HQC := Aside0.mk (And.intro q00 (And.intro q01 (And.intro q02 q12)))
  clear hb6 hv6 hcs hbg hlc hgl q00 q01 q02 q10 q11 q12
  go_wp2_with fail
  refine (has_h H6.out kA 1).mono ?_
  rw [e5]
  rintro e w7 ⟨rfl, hb7⟩
  have H7 := Aside0.mk (H6.out.below hb7)
  have HB7 : Aside0 (Below w.heap.size w w7) := ⟨HB6.out.trans (hb7.mono HB6.out.size)⟩
  have HD7 : Aside0 (Below w6.heap.size w6 w7) := ⟨HD6.out.trans (hb7.mono HD6.out.size)⟩
  clear hb7
  go_wp2_with fail
  refine (has_h H7.out kA 2).mono ?_
  rw [e6]
  rintro e w8 ⟨rfl, hb8⟩
  have H8 := Aside0.mk (H7.out.below hb8)
  have HB8 : Aside0 (Below w.heap.size w w8) := ⟨HB7.out.trans (hb8.mono HB7.out.size)⟩
  have HD8 : Aside0 (Below w6.heap.size w6 w8) := ⟨HD7.out.trans (hb8.mono HD7.out.size)⟩
  clear hb8
  go_wp2_with fail
  refine (has_h H8.out kA 3).mono ?_
  rw [e7]
  rintro e w9 ⟨rfl, hb9⟩
  have H9 := Aside0.mk (H8.out.below hb9)
  have HB9 : Aside0 (Below w.heap.size w w9) := ⟨HB8.out.trans (hb9.mono HB8.out.size)⟩
  have HD9 : Aside0 (Below w6.heap.size w6 w9) := ⟨HD8.out.trans (hb9.mono HD8.out.size)⟩
  clear hb9
  go_wp2_with fail
  refine (count_h H9.out (by omega) 2).mono ?_
  rw [e8]
  rintro e w10 ⟨rfl, hb10⟩
  have H10 := Aside0.mk (H9.out.below hb10)
  have HB10 : Aside0 (Below w.heap.size w w10) := ⟨HB9.out.trans (hb10.mono HB9.out.size)⟩
  have HD10 : Aside0 (Below w6.heap.size w6 w10) := ⟨HD9.out.trans (hb10.mono HD9.out.size)⟩
  clear hb10
  have q00 := (HD10.out.cell (p := ⟨g, 0 * 3, none⟩) HGL.out).trans HQC.out.1
  have q01 := (HD10.out.cell (p := ⟨g, 0 * 3 + 1, none⟩) HGL.out).trans HQC.out.2.1
  have q02 := (HD10.out.cell (p := ⟨g, 0 * 3 + 2, none⟩) HGL.out).trans HQC.out.2.2.1
  have q12 := (HD10.out.cell (p := ⟨g, 1 * 3 + 2, none⟩) HGL.out).trans HQC.out.2.2.2
  simp only [Nat.zero_mul, Nat.zero_add, Nat.one_mul, Nat.reduceAdd] at q00 q01 q02 q12
  go_wp2_with fail
  refine (trim_h H10.out (by omega) 3).mono ?_
  rw [e9]
  rintro e w11 ⟨rfl, h11, hf11⟩
  have H11 : Aside0 (Hs w11 ok4 b s4 2) := ⟨h11⟩
  have HB11 : Aside0 (Below w.heap.size w w11) := ⟨HB10.out.trans (hf11.below_of HB10.out.size HB4.out.2)⟩
  clear h11 hf11
  go_wp2_with fail
  refine (has_h H11.out kA 2).mono ?_
  rw [e10]
  rintro e w12 ⟨rfl, hb12⟩
  have HB12 : Aside0 (Below w.heap.size w w12) := ⟨HB11.out.trans (hb12.mono HB11.out.size)⟩
  clear hb12
  go_wp2
  go_ret
  exact ⟨rfl, HB12.out⟩
end Go.Proofs.Ythpcplpannbipaa.Sa
namespace Go.Proofs.Ythpcplpannbipaa.Ro
open Go.RowKit Go.Proofs.YthpcplpannbipaaW.PrintWords Go.Proofs.YthpcplpannbipaaW.PrintLast Go.ChangeMaps Go.ChangeShapes Go.WideShapes Go.Proofs.Ythpcplpannbipaa.Kx
abbrev ZA (x : S56) : Prop := (Lit.int .u8 x.f0).wf = true ∧ (x.f1.size ≤ 140737488351232 ∧ (Lit.int .i64 x.f2).wf = true)
theorem opensA {H : Type} {enc : TypeId × Value → H} {w : World} {base : Nat} {spare : Nat → Bool} {held : Bool} : Opens enc Try.prog w base spare held k56 56 ZA :=
  opens_struct (g := fun p => ⟨p.1, p.2.1, p.2.2⟩) (fun _ => rfl) Try.underlying56 (by kernel_rfl)
    (fields_cons (opens_int (by kernel_rfl) (by kernel_rfl)) (fields_cons (opens_string (by kernel_rfl) (by kernel_rfl)) (fields_one (opens_int (by kernel_rfl) (by kernel_rfl)))))
theorem opensI {H : Type} {enc : TypeId × Value → H} {w : World} {base : Nat} {spare : Nat → Bool} {held : Bool} : Opens enc Try.prog w base spare held (Kd.int .i64) 3 (fun n => (Lit.int .i64 n).wf = true) :=
  opens_int (by kernel_rfl) (by kernel_rfl)
end Go.Proofs.Ythpcplpannbipaa.Ro
namespace Go.Proofs.Ythpcplpannbipaa.Sa
open Go.RowKit Go.Maps Go.MapKept Go.Proofs.YthpcplpannbipaaW.PrintWords Go.Proofs.YthpcplpannbipaaW.PrintLast Go.Proofs.Ythpcplpannbipaa.X Go.Proofs.Ythpcplpannbipaa.Kx Go.Proofs.Ythpcplpannbipaa.Mp Go.Proofs.Ythpcplpannbipaa.Mq Go.Proofs.Ythpcplpannbipaa.Sq Go.Proofs.Ythpcplpannbipaa.Mb Go.Proofs.Ythpcplpannbipaa.Maps
abbrev Ac := S56
abbrev Acts (w : World) (A : Option Addr) (xs : List Ac) : Prop := Kd.C k56 w A xs.length xs
theorem addr_f (ad : Addr) (n k : Nat) : ad.add (n + (k + 1)) = ⟨(ad.add n).block, (ad.add n).off + (k + 1), none⟩ := by
  unfold Addr.add
  rw [if_neg (by omega)]
  split
  · rename_i h; rw [h, Nat.zero_add]
  · simp [Nat.add_assoc]
theorem act_cells {w : World} {A : Option Addr} {xs : List Ac} (h : Acts w A xs) (i : Nat) (hi : i < xs.length) : ∃ ad, A = some ad ∧ w.cell? (ad.add (i * 3)) = some (.int .u8 xs[i].f0) ∧ w.cell? ⟨(ad.add (i * 3)).block, (ad.add (i * 3)).off + 1, none⟩ = some (.string xs[i].f1) ∧ w.cell? ⟨(ad.add (i * 3)).block, (ad.add (i * 3)).off + 2, none⟩ = some (.int .i64 xs[i].f2) := by
  obtain ⟨ad, c, e, hl, hk, hc⟩ := Kd.C_get h (⟨0, ⟨#[]⟩, 0⟩ : Ac) (i : Int) (by omega) (by omega)
  rw [Int.toNat_natCast, List.getD_eq_getElem?_getD, List.getElem?_eq_getElem hi, Option.getD_some] at hk
  have := k56_open hk
  subst this
  refine ⟨ad, e, ?_, ?_, ?_⟩
  · exact hc 0 _ rfl
  · have h1 := hc 1 _ rfl
    rw [Int.toNat_natCast] at h1
    exact (congrArg w.cell? (addr_f ad (i * 3) 0)).symm.trans h1
  · have h1 := hc 2 _ rfl
    rw [Int.toNat_natCast] at h1
    exact (congrArg w.cell? (addr_f ad (i * 3) 1)).symm.trans h1
def fewA (x : Ac) : Bool := !decide (40 < (x.f1.size : Int)) && !decide (1000000 < x.f2)
def fewP (xs : List Ac) : Bool := xs.all fewA && decide (xs.length ≤ 60)
theorem few_not {xs : List Ac} {j : Nat} {x : Ac} (hx : xs[j]? = some x) (hf : fewA x = false) : fewP xs = false := by
  have h : xs.all fewA = false := List.all_eq_false.2 ⟨x, List.mem_of_getElem? hx, by rw [hf]; decide⟩
  unfold fewP
  rw [h]; rfl
set_option maxHeartbeats 4000000 in
set_option maxRecDepth 100000 in
theorem few_c {w : World} {A : Option Addr} {cap : Nat} {xs : List Ac} (h : Acts w A xs) (hc : xs.length ≤ cap) : Calls Try.prog 24 #[.slice A xs.length cap] w fun e w' => e = .returned (.bool (fewP xs)) ∧ Below w.heap.size w w' := by
  have HC := Aside0.mk h
  have hm := Kd.C_max h
  obtain ⟨n, hn⟩ : ∃ n, xs.length = n := ⟨_, rfl⟩
  have HN := Aside0.mk hn
  have HM : Aside0 (n ≤ 9223372036854775807) := ⟨by omega⟩
  rw [hn] at hc ⊢
  clear h hm hn
  go_enter Try.func24, Try.ntmps24
  go_wp2_with fail
  go_loopg [3] n (fun kq v3 wr => ∃ j : Nat, v3 = .int .i64 j ∧ Aside0 (j + kq = n) ∧ wr = w ∧ Aside0 ((xs.take j).all fewA = true))
  case atStart => exact ⟨0, rfl, ⟨by omega⟩, rfl, ⟨rfl⟩⟩
  case round =>
    obtain ⟨j, h3, HJ, hw, HA⟩ := hrel
    subst h3
    subst hw
    cases gk with
    | zero =>
      obtain rfl : j = n := by have := HJ.out; omega
      have p1 : decide ((j : Int) < (j : Int)) = false := decide_eq_false (by omega)
      have p2 : ((j : Int) < (j : Int)) = False := eq_false (by omega)
      obtain ⟨r, hr⟩ : ∃ r, decide ((j : Int) ≤ 60) = r := ⟨_, rfl⟩
      have HR : Aside0 (fewP xs = r) := ⟨by
        have := HA.out
        rw [List.take_of_length_le (by rw [HN.out]; exact Nat.le_refl _)] at this
        unfold fewP
        rw [this, HN.out, ← hr, Bool.true_and]
        exact decide_eq_decide.2 (by omega)⟩
      clear hc
      go_wp2
      go_ret
      exact ⟨by rw [HR.out]; rfl, Below.refl _ _⟩
    | succ kq =>
      have hj : j < n := by have := HJ.out; omega
      have p1 : decide ((j : Int) < (n : Int)) = true := decide_eq_true (by omega)
      have p2 : ((j : Int) < (n : Int)) = True := eq_true (by omega)
      have p5 : decide ((j : Int) < 0) = false := decide_eq_false (by omega)
      have p6 : (0 ≤ (j : Int)) = True := eq_true (by omega)
      have p9 : (j < n) = True := eq_true hj
      have hjx : j < xs.length := by rw [HN.out]; exact hj
      obtain ⟨ad, rfl, a0, a1, a2⟩ := act_cells HC.out j hjx
      obtain ⟨x, hx⟩ : ∃ x, xs[j] = x := ⟨_, rfl⟩
      rw [hx] at a0 a1 a2
      have hxj : xs[j]? = some x := by rw [List.getElem?_eq_getElem hjx, hx]
      have HX := Aside0.mk hxj
      obtain ⟨r1, hr1⟩ : ∃ r1, decide (40 < (x.f1.size : Int)) = r1 := ⟨_, rfl⟩
      obtain ⟨r2, hr2⟩ : ∃ r2, decide (1000000 < x.f2) = r2 := ⟨_, rfl⟩
      have HF : Aside0 (fewA x = (!r1 && !r2)) := ⟨by unfold fewA; rw [hr1, hr2]⟩
      have HJN := Aside0.mk hj
      clear hx hxj hjx hj
      cases r1 with
      | true =>
        go_wp2
        go_ret
        exact ⟨by rw [few_not HX.out HF.out]; rfl, Below.refl _ _⟩
      | false =>
        cases r2 with
        | true =>
          go_wp2
          go_ret
          exact ⟨by rw [few_not HX.out HF.out]; rfl, Below.refl _ _⟩
        | false =>
          go_wp2
          go_roundg kq
          case measure => omega
          case rel => exact ⟨j + 1, by have h2 : wrap64 ((j : Int) + 1) = ((j + 1 : Nat) : Int) := (by have := HM.out; have := HJN.out; unfold wrap64; omega); rw [h2], ⟨by have := HJ.out; omega⟩, rfl, ⟨by rw [List.take_add_one, HX.out, List.all_append, HA.out]; show ([x].all fewA) = true; rw [List.all_cons, HF.out]; rfl⟩⟩
theorem few_len {xs : List Ac} (h : fewP xs = true) : xs.length ≤ 60 := by
  unfold fewP at h
  rw [Bool.and_eq_true] at h
  exact of_decide_eq_true h.2
theorem few_at {xs : List Ac} (h : fewP xs = true) {x : Ac} (hx : x ∈ xs) : x.f1.size ≤ 40 ∧ x.f2 ≤ 1000000 := by
  unfold fewP at h
  rw [Bool.and_eq_true] at h
  have := List.all_eq_true.1 h.1 x hx
  unfold fewA at this
  simp only [Bool.and_eq_true, Bool.not_eq_true', decide_eq_false_iff_not] at this
  omega
end Go.Proofs.Ythpcplpannbipaa.Sa
