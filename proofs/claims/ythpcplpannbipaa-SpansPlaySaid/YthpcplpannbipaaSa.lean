/- Spans on the heap: what holds of them; Has, open, New, Drop walked; no condition. -/
import Derived.Test.YthpcplpannbipaaSq
import Derived.Test.YthpcplpannbipaaMb
import Derived.Test.YthpcplpannbipaaSg
import Derived.Shelf.SlicesQ.IndexFunc
import Derived.Test.YthpcplpannbipaaMq
import Derived.Test.YthpcplpannbipaaKd
import Derived.Test.YthpcplpannbipaaWWords
import Derived.Test.YthpcplpannbipaaWLast
import Derived.Deep.QuietTactic
import Derived.BigQuiet
set_option linter.unusedVariables false
set_option linter.unusedSimpArgs false
set_option linter.unusedSectionVars false
namespace Go.Proofs.Ythpcplpannbipaa.Sa
open Go.RowKit Go.Maps Go.MapKept Go.Proofs.YthpcplpannbipaaW.PrintWords Go.Proofs.YthpcplpannbipaaW.PrintLast Go.Proofs.Ythpcplpannbipaa.X Go.Proofs.Ythpcplpannbipaa.Kx Go.Proofs.Ythpcplpannbipaa.Mp Go.Proofs.Ythpcplpannbipaa.Mq Go.Proofs.Ythpcplpannbipaa.Sq Go.Proofs.Ythpcplpannbipaa.Mb Go.Proofs.Ythpcplpannbipaa.Maps

abbrev KSp := S99
def mk (x : Sp) : KSp := ⟨x.1, x.2⟩
abbrev nil_ : Value := .slice none 0 0
/-- A row of spans. -/
def RowOf (w : World) (v : Value) (l : List Sp) : Prop := k99.R 99 w 0 (fun k => v.ownBlock = some k) v (l.map mk)
/-- Spans at block b: the map is block m, its entries L; the keys' row ks; ok: the blocks that are its own. -/
structure At (w : World) (ok : Nat → Prop) (b m : Nat) (ks : Value) (L : Ent) (s : St ByteArray) : Prop where
  hb : w.heap[b]? = some (.cells #[.map (some m), ks, .int .i64 s.last] 92 (0, 0))
  hm : MapSt w m L
  hk : Kd.string.R 9 w 0 (fun k => ks.ownBlock = some k) ks (keysG s.g)
  hr : ∀ k, RowOf w (lookL L k nil_) (get s.g k)
  sep : ∀ j k n, (lookL L j nil_).ownBlock = some n → (lookL L k nil_).ownBlock = some n → j = k
  mem : ∀ p ∈ L, p.1 ∈ keysG s.g
  okb : ok b
  okm : ok m
  okk : ∀ n, ks.ownBlock = some n → ok n
  okr : ∀ k n, (lookL L k nil_).ownBlock = some n → ok n
def SpAt (w : World) (ok : Nat → Prop) (b : Nat) (s : St ByteArray) : Prop := ∃ m ks L, At w ok b m ks L s ∧ Inv blt s
section
variable {w w' : World} {ok ok' : Nat → Prop} {b m : Nat} {ks v : Value} {L : Ent} {s : St ByteArray} {l : List Sp}
theorem row_ty (h : RowOf w v l) {n : Nat} (hn : v.ownBlock = some n) : n < w.heap.size ∧ ∃ cells, w.heap[n]? = some (.cells cells 99) := by
  obtain ⟨h1, _⟩ := Kd.R_bound h
  obtain ⟨_, _, h3, q, hq, cells, h4⟩ := h1 n hn
  have : q = 99 := by simpa [k99, Kd.iso, Kd.pair, Kd.int, Kd.scalar] using hq
  subst this
  exact ⟨h3, cells, h4⟩
theorem key_ty {xs : List ByteArray} (h : Kd.string.R 9 w 0 (fun k => ks.ownBlock = some k) ks xs) {n : Nat} (hn : ks.ownBlock = some n) : n < w.heap.size ∧ ∃ cells, w.heap[n]? = some (.cells cells 9) := by
  obtain ⟨h1, _⟩ := Kd.R_bound h
  obtain ⟨_, _, h3, q, hq, cells, h4⟩ := h1 n hn
  have : q = 9 := by simpa [Kd.string, Kd.scalar] using hq
  subst this
  exact ⟨h3, cells, h4⟩
theorem At.move (h : At w ok b m ks L s) (hf : ∀ n, ok n → n < w.heap.size → w'.heap[n]? = w.heap[n]?) : At w' ok b m ks L s where
  hb := (hf b h.okb (blk_lt h.hb)).trans h.hb
  hm := h.hm.of_block (hf m h.okm h.hm.lt)
  hk := Kd.R_step h.hk (fun n hn hlt => hf n (h.okk n hn) hlt)
  hr k := Kd.R_step (h.hr k) (fun n hn hlt => hf n (h.okr k n hn) hlt)
  sep := h.sep
  mem := h.mem
  okb := h.okb
  okm := h.okm
  okk := h.okk
  okr := h.okr
theorem At.weak (h : At w ok b m ks L s) (hf : ∀ n, ok n → ok' n) : At w ok' b m ks L s :=
  ⟨h.hb, h.hm, h.hk, h.hr, h.sep, h.mem, hf _ h.okb, hf _ h.okm, fun n hn => hf _ (h.okk n hn), fun k n hn => hf _ (h.okr k n hn)⟩
theorem SpAt.move (h : SpAt w ok b s) (hf : ∀ n, ok n → n < w.heap.size → w'.heap[n]? = w.heap[n]?) : SpAt w' ok b s := by
  obtain ⟨m, ks, L, h1, h2⟩ := h
  exact ⟨m, ks, L, h1.move hf, h2⟩
theorem SpAt.below (h : SpAt w ok b s) (hb : Below w.heap.size w w') : SpAt w' ok b s := h.move (fun n _ hlt => hb.block n hlt)
theorem At.ne (h : At w ok b m ks L s) : b ≠ m := fun e => by
  obtain ⟨es, c, h1, _⟩ := h.hm
  rw [← e, h.hb] at h1
  exact absurd h1 (by simp)
end
def hld (rev : Int) (x : KSp) : Bool := holds rev (x.f0, x.f1)
set_option maxHeartbeats 2000000 in
theorem has1_c (x : KSp) (rev : Int) (w : World) : Calls Try.prog 63 #[.agg #[.int .i64 x.f0, .int .i64 x.f1], .int .i64 rev] w fun e w' => e = .returned (.bool (hld rev x)) ∧ Below w.heap.size w w' := by
  unfold hld holds
  obtain ⟨f, t⟩ := x
  dsimp only
  have HB : Below w.heap.size w (w.alloc (.cells #[.int .i64 f, .int .i64 t] 99)) := below_alloc (Below.refl _ _) _
  by_cases h1 : f ≤ rev
  · have a1 : decide (f ≤ rev) = true := decide_eq_true h1
    have a2 : (f ≤ rev) = True := eq_true h1
    have a3 : ¬ rev < f := by omega
    rw [a1]
    by_cases h2 : t = 0
    · have b1 : decide (t = 0) = true := decide_eq_true h2
      have b2 : (t == 0) = true := beq_iff_eq.mpr h2
      rw [b1]
      subst h2
      clear h1
      go_enter Try.func63, Try.ntmps63
      go_wp2
      go_ret
      exact ⟨rfl, HB⟩
    · have b1 : decide (t = 0) = false := decide_eq_false h2
      have b2 : (t == 0) = false := beq_eq_false_iff_ne.mpr h2
      have b3 : (t = 0) = False := eq_false h2
      rw [b1]
      by_cases h3 : rev < t
      · have c1 : decide (rev < t) = true := decide_eq_true h3
        rw [c1]
        clear h1 h2
        go_enter Try.func63, Try.ntmps63
        go_wp2
        go_ret
        exact ⟨rfl, HB⟩
      · have c1 : decide (rev < t) = false := decide_eq_false h3
        rw [c1]
        clear h1 h2
        go_enter Try.func63, Try.ntmps63
        go_wp2
        go_ret
        exact ⟨rfl, HB⟩
  · have a1 : decide (f ≤ rev) = false := decide_eq_false h1
    rw [a1]
    go_enter Try.func63, Try.ntmps63
    go_wp2
    go_ret
    exact ⟨rfl, HB⟩
set_option maxHeartbeats 2000000 in
theorem hasF_c (x : KSp) (rev : Int) (B : Nat) (w : World) (hB : w.cell? ⟨B, 0, none⟩ = some (.int .i64 rev)) : Calls Try.prog 62 #[.agg #[.int .i64 x.f0, .int .i64 x.f1], .pointer (some ⟨B, 0, none⟩)] w fun e w' => e = .returned (.bool (hld rev x)) ∧ Below w.heap.size w w' := by
  have HB : Aside0 (Below w.heap.size w (w.alloc (.cells #[.int .i64 x.f0, .int .i64 x.f1] 99))) := ⟨below_alloc (Below.refl _ _) _⟩
  have hlt : B < w.heap.size := World.block_lt_of_cell? _ _ hB
  have HLT := Aside0.mk hlt
  have hB2 : (w.alloc (.cells #[.int .i64 x.f0, .int .i64 x.f1] 99)).cell? ⟨B, 0, none⟩ = some (.int .i64 rev) := (World.cell?_alloc_lt _ _ _ hlt).trans hB
  clear hlt hB
  go_enter Try.func62, Try.ntmps62
  go_wp2_with fail
  refine (has1_c x rev _).mono ?_
  rintro e w2 ⟨rfl, hb⟩
  have HB2 : Aside0 (Below w.heap.size w w2) := ⟨HB.out.trans (hb.mono HB.out.size)⟩
  clear hb
  go_wp2
  go_ret
  exact ⟨rfl, HB2.out⟩
/-- A row's cells, for the library's words. -/
def encS (x : Sp) : List Value := [.int .i64 x.1, .int .i64 x.2]
theorem row_cells {w : World} {A : Option Addr} {n c : Nat} {l : List Sp} (h : RowOf w (.slice A n c) l) (hne : l ≠ []) :
    n = l.length ∧ ∃ g, A = some ⟨g, 0, none⟩ ∧ g < w.heap.size ∧ ∀ j, j < l.length → ∀ i v, (encS l[j]!)[i]? = some v → w.cell? ⟨g, 0 + j * 2 + i, none⟩ = some v := by
  obtain ⟨hn, hc, hC⟩ := Kd.R_reads' h
  rw [List.length_map] at hn hC
  obtain ⟨inner, hown⟩ := Kd.R_own h
  have hlen : 0 < l.length := List.length_pos_iff.mpr hne
  rcases hown.2 with ⟨_, h0⟩ | ⟨g, cap, cur, hv, hbase, hg, hcc, _⟩
  · rw [List.length_map] at h0; omega
  · injection hv with h1 h2 h3
    subst h1
    subst h3
    refine ⟨hn, g, rfl, blk_lt hg, fun j hj i v hi => ?_⟩
    obtain ⟨ad, had, a1, a2⟩ := at_T99 hC (j : Int) (by omega) (by omega)
    injection had with had
    subst had
    have hx : rd_T99 (l.map mk) (j : Int) = mk l[j]! := by
      unfold rd_T99
      rw [Int.toNat_natCast, List.getD_eq_getElem?_getD, List.getElem?_map, List.getElem?_eq_getElem hj, getElem!_pos l j hj]; rfl
    rw [hx, Int.toNat_natCast, Addr.add_mid] at a1 a2
    generalize l[j]! = y at hi a1 a2
    match i, hi with
    | 0, hi => simp only [encS, List.getElem?_cons_zero, Option.some.injEq] at hi; rw [← hi]; exact a1
    | 1, hi => simp only [encS, List.getElem?_cons_succ, List.getElem?_cons_zero, Option.some.injEq] at hi; rw [← hi]; exact a2
    | i + 2, hi => simp [encS] at hi
set_option maxHeartbeats 2000000 in
theorem index_nil (f : Value) (w : World) : Calls Try.prog 78 #[.slice none 0 0, f] w fun e w' => e = .returned (.int .i64 (-1)) ∧ Below w.heap.size w w' := by
  go_enter Try.func78, Try.ntmps78
  go_wp2_with fail
  go_loopg [8] (0 : Nat) (fun kq v8 wr => v8 = .int .i64 0 ∧ wr = w)
  case atStart => exact ⟨rfl, rfl⟩
  case round =>
    obtain ⟨h4, hw⟩ := hrel
    subst h4
    subst hw
    go_wp2
    go_ret
    exact ⟨rfl, Below.refl _ _⟩
set_option maxHeartbeats 2000000 in
theorem contains_nil (f : Value) (w : World) : Calls Try.prog 61 #[.slice none 0 0, f] w fun e w' => e = .returned (.bool false) ∧ Below w.heap.size w w' := by
  go_enter Try.func61, Try.ntmps61
  go_wp2_with fail
  refine (index_nil f w).mono ?_
  rintro e w' ⟨rfl, hb⟩
  have HB := Aside0.mk hb
  clear hb
  go_wp2
  go_ret
  exact ⟨rfl, HB.out⟩
/-- ContainsFunc at a row of spans. -/
theorem contains_c {w : World} {v : Value} {l : List Sp} (h : RowOf w v l) (p : Sp → Bool) (g : Nat) (lb : Array Value) (eg : ∀ args w, (callFunc g args).run Try.prog w = .ok (.enter g args) w)
    (hp : PredBelow Try.prog g lb (fun x => .agg (encS x).toArray) p w) (hv : l = [] → v = nil_) :
    Calls Try.prog 61 #[v, .func (.func g) #[] lb] w fun e w' => e = .returned (.bool (l.any p)) ∧ Below w.heap.size w w' := by
  by_cases hne : l = []
  · rw [hv hne, hne]
    exact contains_nil _ w
  · obtain ⟨A, c, rfl⟩ := Kd.R_slice h
    obtain ⟨_, gb, rfl, hlt, hc⟩ := row_cells h hne
    have := AnyQ.slices_ContainsFunc Ythpcplpannbipaa.Sg.contains61 2 Try.isAgg99 Try.sizeOf99 encS (fun _ => rfl) p g lb eg gb 0 l.length c l w hp (Nat.le_refl _) (by have := Kd.C_max (Kd.R_reads' h).2.2; simpa using this) hlt hc
    rw [List.take_length] at this
    rw [List.length_map]
    exact this
theorem nil_row {w : World} {ok : Nat → Prop} {b m : Nat} {ks : Value} {L : Ent} {s : St ByteArray} (T : TO blt) (h : At w ok b m ks L s) (hi : Inv blt s) (k : ByteArray) (he : get s.g k = []) : lookL L k nil_ = nil_ := by
  rcases look_spec L k nil_ with ⟨p, h1, h2, _⟩ | ⟨_, h2⟩
  · have hk := h.mem p h1
    rw [h2] at hk
    exact absurd he ((full_get T hi.srt hi.full k).1 hk)
  · exact h2
theorem blt_eq (x y : ByteArray) : blt x y = decide (x.data.toList < y.data.toList) := by
  unfold blt; rw [bytesLess_eq, Lib.toList_data, Lib.toList_data]
theorem blt_TO : TO blt where
  irr x := by rw [blt_eq]; exact decide_eq_false (List.lt_irrefl _)
  tr h1 h2 := by
    rw [blt_eq, decide_eq_true_eq] at h1 h2 ⊢
    exact List.lt_trans h1 h2
  tri h1 h2 := by
    rw [blt_eq, decide_eq_false_iff_not] at h1 h2
    have := List.le_antisymm (List.not_lt.1 h1) (List.not_lt.1 h2)
    exact (ByteArray.ext (Array.toList_inj.1 this)).symm
theorem pred_has (rev : Int) (B : Nat) (w : World) (hB : w.cell? ⟨B, 0, none⟩ = some (.int .i64 rev)) : PredBelow Try.prog 62 #[.pointer (some ⟨B, 0, none⟩)] (fun x => .agg (encS x).toArray) (holds rev) w := fun W x hb =>
  (hasF_c (mk x) rev B W ((hb.cell (p := ⟨B, 0, none⟩) (World.block_lt_of_cell? _ _ hB)).trans hB)).mono fun e w' h => ⟨h.1, hb.trans (h.2.mono hb.size)⟩
section
variable {w : World} {ok : Nat → Prop} {b : Nat} {s : St ByteArray}
set_option maxHeartbeats 4000000 in
theorem Has_c (h : SpAt w ok b s) (key : ByteArray) (rev : Int) : Calls Try.prog 34 #[.pointer (some ⟨b, 0, none⟩), .string key, .int .i64 rev] w fun e w' => e = .returned (.bool (hasS s key rev)) ∧ Below w.heap.size w w' := by
  obtain ⟨m, ks, L, hA, hI⟩ := h
  obtain ⟨wa, ea, hb2, bb, zb, kb⟩ : ∃ w1, w.alloc (.cells #[.int .i64 rev] 3) = w1 ∧ w1.heap[w.heap.size]? = some (.cells #[.int .i64 rev] 3 (0, 0)) ∧ Below w.heap.size w w1 ∧ w1.heap.size = w.heap.size + 1 ∧ ∀ (k : Nat) (o : Obj), w.heap[k]? = some o → w1.heap[k]? = some o :=
    ⟨_, rfl, (Go.MapKept.heap_alloc w _).1, below_alloc (Below.refl _ _) _, by simp, fun k o h => blk_alloc h _⟩
  have hA1 := hA.move (w' := wa) (fun n _ hlt => bb.block n hlt)
  have c0 := blk_cell hA1.hb 0
  have hz : ∀ w, (zeroValue 97).run Try.prog w = .ok nil_ w := Try.zeroValue97
  have hlk := run_look (P := Try.prog) hA1.hm Try.underlying90 Try.underlying9 key hz
  have hrow := hA1.hr key
  obtain ⟨v, hv⟩ : ∃ v, lookL L key nil_ = v := ⟨_, rfl⟩
  rw [hv] at hlk hrow
  have hmf : ∀ (fn : Fn) (first cap : Array Value) (w : World), (Instr.makeFunc fn first cap).run Try.prog w = .ok (.func fn first cap) w := fun _ _ _ _ => rfl
  have hcall := contains_c hrow (holds rev) 62 #[.pointer (some ⟨w.heap.size, 0, none⟩)] (enters_of Try.func62 (by kernel_rfl) rfl) (pred_has rev _ wa (blk_cell hb2 0)) (fun he => by rw [← hv]; exact nil_row blt_TO hA1 hI key he)
  have HC := Aside0.mk hcall
  have HW := Aside0.mk ea
  have HB := Aside0.mk bb
  obtain ⟨r, hr⟩ : ∃ r, (get s.g key).any (holds rev) = r := ⟨_, rfl⟩
  have HR := Aside0.mk hr
  clear hA hA1 hI hrow hv hcall hb2 bb zb kb ea hr
  go_enter Try.func34, Try.ntmps34
  go_upto_region 1 with (fail)
  rw [HW.out]
  clear HW
  go_wp2_with fail
  refine HC.out.mono ?_
  rintro e w2 ⟨rfl, hb⟩
  have HB2 : Aside0 (Below w.heap.size w w2) := ⟨HB.out.trans (hb.mono HB.out.size)⟩
  rw [HR.out]
  clear hb HC HB hlk
  go_wp2
  go_ret
  exact ⟨by rw [← HR.out]; rfl, HB2.out⟩
end
end Go.Proofs.Ythpcplpannbipaa.Sa
namespace Go.Proofs.Ythpcplpannbipaa.Sa
open Go.RowKit Go.Maps Go.MapKept Go.Proofs.YthpcplpannbipaaW.PrintWords Go.Proofs.YthpcplpannbipaaW.PrintLast Go.Proofs.Ythpcplpannbipaa.X Go.Proofs.Ythpcplpannbipaa.Kx Go.Proofs.Ythpcplpannbipaa.Mp Go.Proofs.Ythpcplpannbipaa.Mq Go.Proofs.Ythpcplpannbipaa.Sq Go.Proofs.Ythpcplpannbipaa.Mb Go.Proofs.Ythpcplpannbipaa.Maps
section
variable {w : World} {ok : Nat → Prop} {b m : Nat} {ks : Value} {L : Ent} {s : St ByteArray}
theorem row_last {w : World} {v : Value} {a : List Sp} {x : Sp} (h : RowOf w v (a ++ [x])) : ∃ g c, v = .slice (some ⟨g, 0, none⟩) (a.length + 1) c ∧ w.cell? ⟨g, a.length * 2, none⟩ = some (.int .i64 x.1) ∧ w.cell? ⟨g, a.length * 2 + 1, none⟩ = some (.int .i64 x.2) := by
  obtain ⟨A, c, rfl⟩ := Kd.R_slice h
  obtain ⟨hn, g, rfl, hlt, hc⟩ := row_cells h (by simp)
  have e : (a ++ [x])[a.length]! = x := by rw [getElem!_pos _ _ (by simp)]; simp
  have h0 := hc a.length (by simp) 0 (.int .i64 x.1) (by rw [e]; rfl)
  have h1 := hc a.length (by simp) 1 (.int .i64 x.2) (by rw [e]; rfl)
  rw [Nat.zero_add] at h0 h1
  exact ⟨g, c, by rw [List.length_map, List.length_append]; rfl, h0, h1⟩
def OpenP (v : Value) (l : List Sp) (e : Ending) : Prop :=
  (opn l = false ∧ e = .returned (.pointer none)) ∨ ∃ a x g c, l = a ++ [x] ∧ x.2 = 0 ∧ v = .slice (some ⟨g, 0, none⟩) (a.length + 1) c ∧ e = .returned (.pointer (some ⟨g, a.length * 2, none⟩))
set_option maxHeartbeats 4000000 in
set_option maxRecDepth 100000 in
theorem open_c (hA : At w ok b m ks L s) (hI : Inv blt s) (key : ByteArray) (hbig : (get s.g key).length ≤ 1000000) : Calls Try.prog 50 #[.pointer (some ⟨b, 0, none⟩), .string key] w fun e w' => OpenP (lookL L key nil_) (get s.g key) e ∧ w' = w := by
  have c0 := blk_cell hA.hb 0
  have hz : ∀ w, (zeroValue 97).run Try.prog w = .ok nil_ w := Try.zeroValue97
  have hlk := run_look (P := Try.prog) hA.hm Try.underlying90 Try.underlying9 key hz
  have hrow := hA.hr key
  have hnil := nil_row blt_TO hA hI key
  obtain ⟨v, hv⟩ : ∃ v, lookL L key nil_ = v := ⟨_, rfl⟩
  rw [hv] at hlk hrow hnil ⊢
  obtain ⟨l, hl⟩ : ∃ l, get s.g key = l := ⟨_, rfl⟩
  rw [hl] at hrow hnil hbig ⊢
  clear hA hI hv hl
  rcases List.eq_nil_or_concat l with rfl | ⟨a, x, rfl⟩
  · obtain rfl := hnil rfl
    clear hrow hnil
    go_enter Try.func50, Try.ntmps50
    go_wp2
    go_ret
    exact ⟨.inl ⟨rfl, rfl⟩, rfl⟩
  · simp only [List.concat_eq_append] at hrow hnil hbig ⊢
    obtain ⟨g, c, rfl, q0, q1⟩ := row_last hrow
    rw [List.length_append, List.length_cons, List.length_nil] at hbig
    obtain ⟨n, hn⟩ : ∃ n, a.length = n := ⟨_, rfl⟩
    have HN := Aside0.mk hn
    rw [hn] at hlk q0 q1 hbig
    have hw1 : IntKind.i64.wrap (((n + 1 : Nat) : Int) - 1) = (n : Int) := by rw [IntKind.wrap_i64]; omega
    have hw2 : IntKind.i64.wrap ((n : Int) + 1 - 1) = (n : Int) := by rw [IntKind.wrap_i64]; omega
    have hw3 : IntKind.i64.wrap (n : Int) = (n : Int) := by rw [IntKind.wrap_i64]; omega
    have z1 : (((n + 1 : Nat) : Int) == 0) = false := by simp; omega
    have z2 : decide (((n + 1 : Nat) : Int) = 0) = false := decide_eq_false (by omega)
    have z3 : ((n : Int) + 1 = 0) = False := eq_false (by omega)
    have p2 : decide ((n : Int) < (n : Int) + 1) = true := decide_eq_true (by omega)
    have p4 : (0 ≤ (n : Int)) = True := eq_true (by omega)
    have p5 : decide ((n : Int) < 0) = false := decide_eq_false (by omega)
    have e1 : (⟨g, 0, none⟩ : Addr).add (n * 2) = ⟨g, n * 2, none⟩ := by rw [Addr.add_mid, Nat.zero_add]
    clear hrow hnil hn hbig
    by_cases hx : x.2 = 0
    · have t1 : (x.2 != 0) = false := by simp [hx]
      have t2 : decide (x.2 = 0) = true := decide_eq_true hx
      have HX := Aside0.mk hx
      rw [hx] at q1
      clear hx t1 t2
      go_enter Try.func50, Try.ntmps50
      go_wp2
      go_ret
      exact ⟨.inr ⟨a, x, g, c, rfl, HX.out, by rw [HN.out], by rw [HN.out]; rfl⟩, rfl⟩
    · have t1 : (x.2 != 0) = true := bne_iff_ne.mpr hx
      have t2 : decide (x.2 = 0) = false := decide_eq_false hx
      have t3 : (x.2 = 0) = False := eq_false hx
      clear hx
      go_enter Try.func50, Try.ntmps50
      go_wp2
      go_ret
      exact ⟨.inl ⟨by rw [opn_snoc]; exact t2, rfl⟩, rfl⟩
end
end Go.Proofs.Ythpcplpannbipaa.Sa
namespace Go.Proofs.Ythpcplpannbipaa.Sa
open Go.RowKit Go.Maps Go.MapKept Go.Proofs.YthpcplpannbipaaW.PrintWords Go.Proofs.YthpcplpannbipaaW.PrintLast Go.Proofs.Ythpcplpannbipaa.X Go.Proofs.Ythpcplpannbipaa.Kx Go.Proofs.Ythpcplpannbipaa.Mp Go.Proofs.Ythpcplpannbipaa.Mq Go.Proofs.Ythpcplpannbipaa.Sq Go.Proofs.Ythpcplpannbipaa.Mb Go.Proofs.Ythpcplpannbipaa.Maps
theorem reps_flat {α : Type} {R : α → List Value → Prop} {enc : α → List Value} (hR : ∀ p c, R p c → c = enc p) (h2 : ∀ p, (enc p).length = 2) : ∀ {xs : List α} {inner : List Value}, Reps R 2 xs inner → inner = xs.flatMap enc
  | [], inner, h => List.length_eq_zero_iff.1 (by simpa using h.1)
  | x :: xs, inner, h => by
    have h0 := hR _ _ (h.2 0 x rfl)
    rw [Nat.zero_mul, List.drop_zero] at h0
    have ih : inner.drop 2 = xs.flatMap enc := reps_flat hR h2 ⟨by rw [List.length_drop, h.1, List.length_cons]; omega, fun j p hj => by
      have := h.2 (j + 1) p (by simpa using hj)
      rw [List.drop_drop]
      rwa [show 2 + j * 2 = (j + 1) * 2 by omega]⟩
    rw [List.flatMap_cons, ← ih, ← h0, List.take_append_drop]
theorem flat_reps {α : Type} {R : α → List Value → Prop} {enc : α → List Value} (hR : ∀ p, R p (enc p)) (h2 : ∀ p, (enc p).length = 2) : ∀ (xs : List α), Reps R 2 xs (xs.flatMap enc)
  | [] => Reps.none _ _
  | x :: xs => by
    have ih := flat_reps hR h2 xs
    refine ⟨by rw [List.flatMap_cons, List.length_append, h2, ih.1, List.length_cons]; omega, fun j p hj => ?_⟩
    rw [List.flatMap_cons]
    cases j with
    | zero =>
      obtain rfl : x = p := by simpa using hj
      rw [Nat.zero_mul, List.drop_zero, List.take_append_of_le_length (by rw [h2]; exact Nat.le_refl _), List.take_of_length_le (by rw [h2]; exact Nat.le_refl _)]
      exact hR x
    | succ j =>
      have h3 := ih.2 j p (by simpa using hj)
      rw [List.drop_append, h2, List.drop_eq_nil_of_le (by rw [h2]; omega), List.nil_append, show (j + 1) * 2 - 2 = j * 2 by omega]
      exact h3
theorem flat_map (l : List Sp) : (l.map mk).flatMap (fun x : KSp => [.int .i64 x.f0, .int .i64 x.f1]) = l.flatMap encS := by
  rw [List.flatMap_map]; rfl
theorem row_iff (w : World) (v : Value) (l : List Sp) : RowOf w v l ↔ w.ownsRow 0 99 2 v l.length (l.flatMap encS) := by
  constructor
  · rintro ⟨_, inner, ho, hr⟩
    have e := reps_flat (enc := fun x : KSp => [.int .i64 x.f0, .int .i64 x.f1]) (fun p c h => k99_openM h) (fun _ => rfl) hr
    rw [flat_map] at e
    subst e
    rw [List.length_map] at ho
    exact ho
  · intro ho
    refine ⟨fun _ h => h, l.flatMap encS, by rw [List.length_map]; exact ho, ?_⟩
    rw [← flat_map]
    exact flat_reps (fun p => k99_mkM _ _ _ p) (fun _ => rfl) _
theorem flat_len (l : List Sp) : (l.flatMap encS).length = l.length * 2 := by
  induction l with
  | nil => rfl
  | cons x l ih => rw [List.flatMap_cons, List.length_append, ih, List.length_cons]; show 2 + _ = _; omega
/-- The last span ends. -/
theorem row_shut {w : World} {v : Value} {a : List Sp} {x : Sp} (h : RowOf w v (a ++ [x])) {g c : Nat} (hv : v = .slice (some ⟨g, 0, none⟩) (a.length + 1) c) (rev : Int) :
    RowOf (w.setCell ⟨g, a.length * 2 + 1, none⟩ (.int .i64 rev)) v (a ++ [(x.1, rev)]) := by
  rw [row_iff] at h ⊢
  obtain ⟨hl, h2⟩ := h
  refine ⟨flat_len _, ?_⟩
  rcases h2 with ⟨_, h0⟩ | ⟨g', cap, cur, hv', hbase, hg, hn, hc, hs, ht⟩
  · rw [List.length_append, List.length_cons] at h0; omega
  · rw [hv] at hv'
    injection hv' with e1 e2 e3
    injection e1 with e1
    injection e1 with e1
    subst e1
    subst e3
    right
    refine ⟨g, c, cur.setIfInBounds (a.length * 2 + 1) (.int .i64 rev), by rw [hv, List.length_append]; rfl, Nat.zero_le _, by simpa using blk_set hg (a.length * 2 + 1) (.int .i64 rev), by rw [List.length_append] at hn ⊢; exact hn, hc, by rw [Array.size_setIfInBounds]; exact hs, ?_⟩
    rw [Array.toList_setIfInBounds, List.take_set]
    have e4 : (a ++ [(x.1, rev)]).length * 2 = (a ++ [x]).length * 2 := by rw [List.length_append, List.length_append]; rfl
    rw [e4, ht, List.flatMap_append, List.flatMap_append, List.set_append, if_neg (by rw [flat_len]; omega), flat_len, show a.length * 2 + 1 - a.length * 2 = 1 by omega]
    rfl
/-- What is not its own lies as it lay. -/
structure FrO (ok : Nat → Prop) (w w' : World) : Prop where
  os : w'.os = w.os
  tape : w'.tape = w.tape
  output : w'.output = w.output
  size : w.heap.size ≤ w'.heap.size
  block : ∀ n, n < w.heap.size → ¬ ok n → w'.heap[n]? = w.heap[n]?
theorem FrO.of_below {ok : Nat → Prop} {w w' : World} (h : Below w.heap.size w w') : FrO ok w w' := ⟨h.os, h.tape, h.output, h.size, fun n hn _ => h.block n hn⟩
theorem FrO.trans {ok : Nat → Prop} {w w1 w2 : World} (h : FrO ok w w1) (k : FrO ok w1 w2) : FrO ok w w2 :=
  ⟨k.os.trans h.os, k.tape.trans h.tape, k.output.trans h.output, Nat.le_trans h.size k.size, fun n hn ho => (k.block n (Nat.lt_of_lt_of_le hn h.size) ho).trans (h.block n hn ho)⟩
section
variable {w : World} {ok : Nat → Prop} {b m : Nat} {ks : Value} {L : Ent} {s : St ByteArray}
theorem At.ne_row (hA : At w ok b m ks L s) (k : ByteArray) {n : Nat} (hn : (lookL L k nil_).ownBlock = some n) : n ≠ b ∧ n ≠ m ∧ ks.ownBlock ≠ some n := by
  obtain ⟨_, cells, h1⟩ := row_ty (hA.hr k) hn
  refine ⟨fun e => ?_, fun e => ?_, fun e => ?_⟩
  · rw [e, hA.hb] at h1; injection h1 with h1; injection h1 with _ h1; exact absurd h1 (by decide)
  · obtain ⟨es, c, h2, _⟩ := hA.hm
    rw [e, h2] at h1; exact absurd h1 (by simp)
  · obtain ⟨_, cells2, h2⟩ := key_ty hA.hk e
    rw [h2] at h1; injection h1 with h1; injection h1 with _ h1; exact absurd h1 (by decide)
theorem At.ne_key (hA : At w ok b m ks L s) {n : Nat} (hn : ks.ownBlock = some n) : n ≠ b ∧ n ≠ m := by
  obtain ⟨_, cells, h1⟩ := key_ty hA.hk hn
  refine ⟨fun e => ?_, fun e => ?_⟩
  · rw [e, hA.hb] at h1; injection h1 with h1; injection h1 with _ h1; exact absurd h1 (by decide)
  · obtain ⟨es, c, h2, _⟩ := hA.hm
    rw [e, h2] at h1; exact absurd h1 (by simp)
theorem heap_two {w : World} {g b i j : Nat} {u v : Value} {n : Nat} (h1 : n ≠ g) (h2 : n ≠ b) : ((w.setCell ⟨g, i, none⟩ u).setCell ⟨b, j, none⟩ v).heap[n]? = w.heap[n]? :=
  (Below.heap_setCell _ ⟨b, j, none⟩ v n h2).trans (Below.heap_setCell w ⟨g, i, none⟩ u n h1)
theorem At.shut (hA : At w ok b m ks L s) (hI : Inv blt s) {key : ByteArray} {a : List Sp} {x : Sp} {g c : Nat} (hg : get s.g key = a ++ [x]) (hv : lookL L key nil_ = .slice (some ⟨g, 0, none⟩) (a.length + 1) c) (rev : Int) :
    At ((w.setCell ⟨g, a.length * 2 + 1, none⟩ (.int .i64 rev)).setCell ⟨b, 2, none⟩ (.int .i64 rev)) ok b m ks L ⟨upd blt s.g key (a ++ [(x.1, rev)]), rev⟩ ∧
    FrO ok w ((w.setCell ⟨g, a.length * 2 + 1, none⟩ (.int .i64 rev)).setCell ⟨b, 2, none⟩ (.int .i64 rev)) := by
  have hown : (lookL L key nil_).ownBlock = some g := by rw [hv]; rfl
  obtain ⟨n1, n2, n3⟩ := hA.ne_row key hown
  have hbm := hA.ne
  have hkey : key ∈ keysG s.g := (full_get blt_TO hI.srt hI.full key).2 (by rw [hg]; simp)
  have hks : keysG (upd blt s.g key (a ++ [(x.1, rev)])) = keysG s.g := by rw [keys_upd blt_TO _ _ _ hI.srt, if_pos hkey]
  have hokg := hA.okr key g hown
  refine ⟨⟨?_, ?_, ?_, fun k => ?_, hA.sep, fun p hp => by show p.1 ∈ keysG (upd blt s.g key _); rw [hks]; exact hA.mem p hp, hA.okb, hA.okm, hA.okk, hA.okr⟩, ⟨rfl, rfl, rfl, by simp, fun n hn ho => heap_two (fun e => ho (by rw [e]; exact hokg)) (fun e => ho (by rw [e]; exact hA.okb))⟩⟩
  · have h1 : (w.setCell ⟨g, a.length * 2 + 1, none⟩ (.int .i64 rev)).heap[b]? = some (.cells #[.map (some m), ks, .int .i64 s.last] 92 (0, 0)) := (Below.heap_setCell w ⟨g, _, none⟩ _ b (Ne.symm n1)).trans hA.hb
    simpa using blk_set h1 2 (.int .i64 rev)
  · exact hA.hm.of_block (heap_two (Ne.symm n2) (Ne.symm hbm))
  · show Kd.string.R _ _ 0 _ ks (keysG (upd blt s.g key _))
    rw [hks]
    exact Kd.R_step hA.hk (fun n hn hlt => heap_two (fun e => n3 (by rw [← e]; exact hn)) (hA.ne_key hn).1)
  · show RowOf _ _ (get (upd blt s.g key _) k)
    rw [upd_get blt_TO]
    split
    · rename_i e
      subst e
      have h1 := row_shut (by rw [← hg]; exact hA.hr k) hv rev
      exact Kd.R_step h1 (fun n hn hlt => Below.heap_setCell _ ⟨b, 2, none⟩ _ n (hA.ne_row k hn).1)
    · rename_i e
      exact Kd.R_step (hA.hr k) (fun n hn hlt => heap_two (fun e2 => e (hA.sep k key n hn (by rw [hown, e2]))) (hA.ne_row k hn).1)
end
end Go.Proofs.Ythpcplpannbipaa.Sa
namespace Go.Proofs.Ythpcplpannbipaa.Sa
open Go.RowKit Go.Maps Go.MapKept Go.Proofs.YthpcplpannbipaaW.PrintWords Go.Proofs.YthpcplpannbipaaW.PrintLast Go.Proofs.Ythpcplpannbipaa.X Go.Proofs.Ythpcplpannbipaa.Kx Go.Proofs.Ythpcplpannbipaa.Mp Go.Proofs.Ythpcplpannbipaa.Mq Go.Proofs.Ythpcplpannbipaa.Sq Go.Proofs.Ythpcplpannbipaa.Mb Go.Proofs.Ythpcplpannbipaa.Maps
section
variable {w : World} {ok : Nat → Prop} {b : Nat} {s : St ByteArray}
set_option maxHeartbeats 2000000 in
theorem New_c (w : World) : Calls Try.prog 25 #[] w fun e w' => e = .returned (.pointer (some ⟨w.heap.size + 1, 0, none⟩)) ∧ SpAt w' (fun n => w.heap.size ≤ n) (w.heap.size + 1) ⟨[], 0⟩ ∧ Below w.heap.size w w' := by
  have hmm := @run_makeMap Try.prog
  have hM := MapSt.new w
  obtain ⟨w1, e1⟩ : ∃ w1, w.alloc (.map #[] 0) = w1 := ⟨_, rfl⟩
  have z1 : w1.heap.size = w.heap.size + 1 := by rw [← e1]; simp
  have b1 : Below w.heap.size w w1 := by rw [← e1]; exact below_alloc (Below.refl _ _) _
  rw [e1] at hM
  obtain ⟨w2, e2⟩ : ∃ w2, w1.alloc (.cells #[.map (some w.heap.size), .slice none 0 0, .int .i64 0] 92) = w2 := ⟨_, rfl⟩
  have h2 : w2.heap[w.heap.size + 1]? = some (.cells #[.map (some w.heap.size), .slice none 0 0, .int .i64 0] 92 (0, 0)) := by rw [← e2, ← z1]; exact (Go.MapKept.heap_alloc w1 _).1
  have b2 : Below w1.heap.size w1 w2 := by rw [← e2]; exact below_alloc (Below.refl _ _) _
  have hA : At w2 (fun n => w.heap.size ≤ n) (w.heap.size + 1) w.heap.size nil_ [] ⟨[], 0⟩ :=
    ⟨h2, hM.of_block (b2.block _ (by omega)), Kd.R_nil _ _ _ _ _, fun k => Kd.R_nil _ _ _ _ _, fun j k n h => absurd h (by simp [lookL, Value.ownBlock]), fun p hp => absurd hp (by simp), Nat.le_succ _, Nat.le_refl _, fun n h => absurd h (by simp [Value.ownBlock]), fun k n h => absurd h (by simp [lookL, Value.ownBlock])⟩
  have HA := Aside0.mk hA
  have HB : Aside0 (Below w.heap.size w w2) := ⟨b1.trans (b2.mono b1.size)⟩
  have HW1 := Aside0.mk e1
  have HW2 := Aside0.mk e2
  have HZ := Aside0.mk z1
  clear hM h2 b1 b2 hA e1 e2 z1
  go_enter Try.func25, Try.ntmps25
  go_wp2
  go_ret
  refine ⟨by simp, ?_, ?_⟩
  · rw [HW1.out, HW2.out]; exact ⟨_, _, _, HA.out, inv_new⟩
  · rw [HW1.out, HW2.out]; exact HB.out
set_option maxHeartbeats 8000000 in
set_option maxRecDepth 100000 in
theorem Drop_c (h : SpAt w ok b s) (key : ByteArray) (rev : Int) (hbig : (get s.g key).length ≤ 1000000) : Calls Try.prog 28 #[.pointer (some ⟨b, 0, none⟩), .string key, .int .i64 rev] w fun e w' =>
    e = .returned (.bool (dropS blt s key rev).2) ∧ SpAt w' ok b (dropS blt s key rev).1 ∧ FrO ok w w' := by
  have HS := Aside0.mk h
  obtain ⟨m, ks, L, hA, hI⟩ := h
  have c2 := blk_cell hA.hb 2
  by_cases h1 : rev < s.last
  · have d1 : decide (rev < s.last) = true := decide_eq_true h1
    have HR : Aside0 (dropS blt s key rev = (s, false)) := ⟨by unfold dropS; rw [if_pos (.inl h1)]⟩
    clear hA hI h1
    go_enter Try.func28, Try.ntmps28
    go_wp2
    go_ret
    rw [HR.out]
    exact ⟨rfl, HS.out, FrO.of_below (Below.refl _ _)⟩
  have d1 : decide (rev < s.last) = false := decide_eq_false h1
  have hcall := open_c hA hI key hbig
  have HI := Aside0.mk hI
  have HAA := Aside0.mk hA
  have H1 := Aside0.mk h1
  clear hA hI h1 hbig
  go_enter Try.func28, Try.ntmps28
  go_wp2_with fail
  refine hcall.mono ?_
  rintro e w2 ⟨ho, rfl⟩
  rcases ho with ⟨h2, rfl⟩ | ⟨a, x, g, c, h3, h4, h5, rfl⟩
  · have HR : Aside0 (dropS blt s key rev = (s, false)) := ⟨by unfold dropS; rw [if_pos (.inr (.inl h2))]⟩
    clear h2 hcall
    go_wp2
    go_ret
    rw [HR.out]
    exact ⟨rfl, HS.out, FrO.of_below (Below.refl _ _)⟩
  · have hrow := HAA.out.hr key
    rw [h3] at hrow
    obtain ⟨g', c', h6, q0, q1⟩ := row_last hrow
    rw [h5] at h6
    injection h6 with e1 e2 e3
    injection e1 with e1
    injection e1 with e1
    subst e1
    have hop : opn (get s.g key) = true := by rw [h3, opn_snoc]; exact decide_eq_true h4
    have hlf : lastFrom (get s.g key) = x.1 := by rw [h3, last_snoc]
    by_cases h7 : rev ≤ x.1
    · have HR : Aside0 (dropS blt s key rev = (s, false)) := ⟨by unfold dropS; rw [if_pos (.inr (.inr (by rw [hlf]; exact h7)))]⟩
      have k1 : decide (rev ≤ x.1) = true := decide_eq_true h7
      clear hrow e2 e3 h3 h4 h5 hop hlf hcall h7
      go_wp2
      go_ret
      rw [HR.out]
      exact ⟨rfl, HS.out, FrO.of_below (Below.refl _ _)⟩
    · have HR : Aside0 (dropS blt s key rev = (⟨upd blt s.g key (a ++ [(x.1, rev)]), rev⟩, true)) := ⟨by
        unfold dropS
        rw [if_neg (by rw [hop, hlf]; rintro (h | h | h); (have := H1.out; omega); exact absurd h (by decide); exact h7 h), h3, shut_snoc]⟩
      have k1 : decide (rev ≤ x.1) = false := decide_eq_false h7
      have HN := Aside0.mk (HAA.out.shut HI.out h3 h5 rev)
      have hi := inv_drop blt_TO HI.out key rev
      rw [HR.out] at hi
      have HI2 := Aside0.mk hi
      obtain ⟨_, cells, hgc⟩ := row_ty (HAA.out.hr key) (show (lookL L key nil_).ownBlock = some g by rw [h5]; rfl)
      have f1 := blk_frozen hgc (a.length * 2 + 1)
      have hgb := (HAA.out.ne_row key (show (lookL L key nil_).ownBlock = some g by rw [h5]; rfl)).1
      have hb3 := (Below.heap_setCell w2 ⟨g, a.length * 2 + 1, none⟩ (.int .i64 rev) b (Ne.symm hgb)).trans HAA.out.hb
      have f2 := blk_frozen hb3 2
      have c22 := blk_cell hb3 2
      clear hrow e2 e3 h3 h4 h5 hop hlf hcall h7 hgc hgb hb3 hi
      go_wp2
      go_ret
      rw [HR.out]
      exact ⟨rfl, ⟨_, _, _, HN.out.1, HI2.out⟩, HN.out.2⟩
end
end Go.Proofs.Ythpcplpannbipaa.Sa
