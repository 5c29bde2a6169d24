/- Spans on the heap: Events walked; no condition. -/
import Derived.Maps.AppendAt
import Derived.Test.YthpcplpannbipaaSw
import Derived.Test.YthpcplpannbipaaSy
set_option linter.unusedVariables false
set_option linter.unusedSimpArgs false
set_option linter.unusedSectionVars false
namespace Go.Proofs.Ythpcplpannbipaa.Sa
open Go.RowKit Go.Shelf Go.Maps Go.MapKept Go.Proofs.YthpcplpannbipaaW.PrintWords Go.Proofs.YthpcplpannbipaaW.PrintLast Go.Proofs.Ythpcplpannbipaa.X Go.Proofs.Ythpcplpannbipaa.Kx Go.Proofs.Ythpcplpannbipaa.Mp Go.Proofs.Ythpcplpannbipaa.Mq Go.Proofs.Ythpcplpannbipaa.Sq Go.Proofs.Ythpcplpannbipaa.Mb Go.Proofs.Ythpcplpannbipaa.Maps
attribute [local go_sem] Oper.semAt_some
theorem cell_three_new (w : World) (a b c : Value) (t : TypeId) : ∀ j u, [a, b, c][j]? = some u → (w.alloc (.cells #[a, b, c] t)).cell? ((⟨w.heap.size, 0, none⟩ : Addr).add j) = some u := by
  intro j u hj
  have hn := (Go.MapKept.heap_alloc w (.cells #[a, b, c] t)).1
  rw [Addr.add_mid, Nat.zero_add, blk_cell hn j]
  simpa using hj
/-- In the middle of a round: the row so far, the boxes. -/
structure Evw (p : Option Addr) (w W : World) (f t : Int) (Bx : Nat) (x : Sp) (l : List (Evt ByteArray)) (v : Value) : Prop where
  box : Boxed W (w.heap.size + 1 + 1) 68 v
  row : W.ownsRow w.heap.size 73 3 v l.length (l.flatMap enc3)
  bf : Boxed W w.heap.size 3 (.int .i64 f)
  bt : Boxed W (w.heap.size + 1) 3 (.int .i64 t)
  be : Boxed W (w.heap.size + 1 + 1 + 1) 50 (.pointer p)
  below : Below w.heap.size w W
  size : w.heap.size + 4 ≤ W.heap.size
  bx : W.heap[Bx]? = some (.cells #[.int .i64 x.1, .int .i64 x.2] 99 (0, 0))
theorem own_ty {w : World} {base e size n : Nat} {v : Value} {xs : List Value} (h : w.ownsRow base e size v n xs) {k : Nat} (hk : v.ownBlock = some k) : ∃ cells, w.heap[k]? = some (.cells cells e (0, 0)) := by
  rcases h.2 with ⟨rfl, _⟩ | ⟨g, cap, cur, rfl, _, hg, _⟩
  · simp [Value.ownBlock] at hk
  · obtain rfl : g = k := by simpa [Value.ownBlock] using hk
    exact ⟨cur, hg⟩
theorem own_not {w : World} {base e size n : Nat} {v : Value} {xs : List Value} (h : w.ownsRow base e size v n xs) {k t : Nat} {cells : Array Value} (hk : w.heap[k]? = some (.cells cells t (0, 0))) (ht : t ≠ e) : some k ≠ v.ownBlock := fun e' => by
  obtain ⟨c2, h2⟩ := own_ty h e'.symm
  rw [hk] at h2
  injection h2 with h2
  injection h2 with _ h2
  exact ht h2
theorem Evw.app {p : Option Addr} {w W w1 : World} {f t : Int} {Bx : Nat} {x : Sp} {l : List (Evt ByteArray)} {v v' : Value} {ev : Evt ByteArray} {tmp : Obj} (h : Evw p w W f t Bx x l v) (hb : Bx ≠ w.heap.size + 1 + 1)
    (hown : w1.ownsRow w.heap.size 73 3 v' (l.length + 1) (l.flatMap enc3 ++ enc3 ev)) (hgrow : (W.alloc tmp).grownBy w1 v.ownBlock) :
    Boxed w1 (w.heap.size + 1 + 1) 68 v ∧ Evw p w (w1.setCell ⟨w.heap.size + 1 + 1, 0, none⟩ v') f t Bx x (l ++ [ev]) v' ∧ KeepsOthers W (w1.setCell ⟨w.heap.size + 1 + 1, 0, none⟩ v') ∧ Kb w.heap.size (w.heap.size + 1 + 1 + 1) W (w1.setCell ⟨w.heap.size + 1 + 1, 0, none⟩ v') := by
  obtain ⟨h1, h2, h3, h4, h5⟩ := h.box.appended (by decide) h.row h.below.size (by omega) hown hgrow
  have keep : ∀ {k : Nat} {o : Obj}, W.heap[k]? = some o → some k ≠ v.ownBlock → k ≠ w.heap.size + 1 + 1 → (w1.setCell ⟨w.heap.size + 1 + 1, 0, none⟩ v').heap[k]? = some o := fun {k o} hk hne hkb => by
    have a1 := (Below.heap_alloc W tmp k (Array.getElem?_eq_some_iff.1 hk).1).trans hk
    have a2 := (hgrow.block k (Array.getElem?_eq_some_iff.1 a1).1 hne).trans a1
    exact (Below.heap_setCell w1 ⟨w.heap.size + 1 + 1, 0, none⟩ v' k hkb).trans a2
  refine ⟨h1, ⟨h2, ?_, keep h.bf (own_not h.row h.bf (by decide)) (by omega), keep h.bt (own_not h.row h.bt (by decide)) (by omega), keep h.be (own_not h.row h.be (by decide)) (by omega), h.below.trans h5, ?_, keep h.bx (own_not h.row h.bx (by decide)) hb⟩, h4, h5, ?_⟩
  · rw [List.flatMap_append, List.length_append]
    simpa using h3
  · have := h4.size; have := h.size; omega
  · exact (keep h.be (own_not h.row h.be (by decide)) (by omega)).trans h.be.symm
def evsOf (f t : Int) (ys : List (ByteArray × Sp)) : List (Evt ByteArray) := ys.flatMap (evs f t)
theorem evs_snoc (f t : Int) (ys : List (ByteArray × Sp)) (x : ByteArray × Sp) : evsOf f t (ys ++ [x]) = evsOf f t ys ++ ((if f < x.2.1 ∧ x.2.1 ≤ t then [(x.2.1, x.1, true)] else []) ++ (if max f 0 < x.2.2 ∧ x.2.2 ≤ t then [(x.2.2, x.1, false)] else [])) := by
  unfold evsOf
  rw [List.flatMap_append]
  simp [evs]
theorem evs_len (f t : Int) : ∀ ys : List (ByteArray × Sp), (evsOf f t ys).length ≤ ys.length * 2
  | [] => Nat.le_refl _
  | y :: ys => by
    have ih := evs_len f t ys
    unfold evsOf at ih ⊢
    rw [List.flatMap_cons, List.length_append, List.length_cons]
    have : (evs f t y).length ≤ 2 := by unfold evs; split <;> split <;> simp
    omega
theorem info73 : (Try.prog.info? 73).map (fun i => (i.zero, i.size, i.bytes)) = some (some (.agg #[.int .i64 0, .string ⟨#[]⟩, .bool false]), 3, 32) := by kernel_rfl
theorem evw_own (p : Option Addr) (w : World) (f t : Int) (B : Nat) (hB : w.heap.size ≤ B) : OwnFrom B (fun (pre : List (ByteArray × Sp)) W => ∃ v, Boxed W (w.heap.size + 1 + 1) 68 v ∧ W.ownsRow w.heap.size 73 3 v (evsOf f t pre).length ((evsOf f t pre).flatMap enc3)) :=
  Own.from (fun pre X Y row hs hg hr => by
    obtain ⟨v, h1, h2⟩ := hs
    refine ⟨v, boxed_own (w.heap.size + 1 + 1) 68 (fun (_ : Unit) => v) () X Y row h1 hg hr, h2.kept hg ?_⟩
    by_cases h3 : v.ownBlock = none
    · exact .inl h3
    · right
      obtain ⟨k, hk⟩ := Option.ne_none_iff_exists'.1 h3
      obtain ⟨cells, hc⟩ := own_ty h2 hk
      intro e
      obtain ⟨o, ho, hno⟩ := hr k (by rw [← e, hk])
      rw [hc] at ho; cases ho; cases hno) B
end Go.Proofs.Ythpcplpannbipaa.Sa
namespace Go.Proofs.Ythpcplpannbipaa.Sa
open Go.RowKit Go.Shelf Go.Maps Go.MapKept Go.Proofs.YthpcplpannbipaaW.PrintWords Go.Proofs.YthpcplpannbipaaW.PrintLast Go.Proofs.Ythpcplpannbipaa.X Go.Proofs.Ythpcplpannbipaa.Kx Go.Proofs.Ythpcplpannbipaa.Mp Go.Proofs.Ythpcplpannbipaa.Mq Go.Proofs.Ythpcplpannbipaa.Sq Go.Proofs.Ythpcplpannbipaa.Mb Go.Proofs.Ythpcplpannbipaa.Maps
attribute [local go_sem] Oper.semAt_some
/-- The row of events that is handed back. -/
def EvRow (w : World) (base : Nat) (v : Value) (l : List (Evt ByteArray)) : Prop := w.ownsRow base 73 3 v l.length (l.flatMap enc3)
theorem max_if (f : Int) : max f 0 = if f < 0 then 0 else f := by split <;> omega
theorem cell_three_at (w : World) (n : Nat) (a b c : Value) (t : TypeId) (hn : n = w.heap.size) : ∀ j u, [a, b, c][j]? = some u → (w.alloc (.cells #[a, b, c] t)).cell? ((⟨n, 0, none⟩ : Addr).add j) = some u := by
  subst hn; exact cell_three_new w a b c t
theorem three_one {a : Int} {k : ByteArray} {c : Bool} : ∀ u ∈ [Value.int .i64 a, .string k, .bool c], u.oneCell' = true := by
  intro u hu
  simp only [List.mem_cons, List.not_mem_nil, or_false] at hu
  rcases hu with rfl | rfl | rfl <;> rfl
/-- .. and what the round has kept. -/
def EvS (p : Option Addr) (w W Wc : World) (f t : Int) (Bx : Nat) (x : Sp) (l : List (Evt ByteArray)) (v : Value) : Prop :=
  Evw p w Wc f t Bx x l v ∧ KeepsOthers W Wc ∧ Kb w.heap.size (w.heap.size + 1 + 1 + 1) W Wc
theorem EvS.app {p : Option Addr} {w W Wc w1 : World} {f t : Int} {Bx : Nat} {x : Sp} {l : List (Evt ByteArray)} {v v' : Value} {a : Int} {k : ByteArray} {c : Bool} {tmp : Obj} (h : EvS p w W Wc f t Bx x l v) (hb : w.heap.size + 1 + 1 < Bx)
    (hown : w1.ownsRow w.heap.size 73 3 v' (l.length + 1) (l.flatMap enc3 ++ [.int .i64 a, .string k, .bool c])) (hgrow : (Wc.alloc tmp).grownBy w1 v.ownBlock) :
    Boxed w1 (w.heap.size + 1 + 1) 68 v ∧ EvS p w W (w1.setCell ⟨w.heap.size + 1 + 1, 0, none⟩ v') f t Bx x (l ++ [(a, k, c)]) v' := by
  obtain ⟨h1, h2, h3, h4⟩ := h.1.app (ev := (a, k, c)) (by omega) hown hgrow
  exact ⟨h1, h2, h.2.1.trans h3, kb_t h.2.2 h4⟩
set_option maxRecDepth 100000 in
set_option maxHeartbeats 16000000 in
theorem Events_g {w : World} {p : Option Addr} {ys : List (ByteArray × Sp)} (hG : Gives w p ys) (hlen : ys.length ≤ 1000000) (f t : Int) :
    Calls Try.prog 38 #[.pointer p, .int .i64 f, .int .i64 t] w fun e w' => ∃ v, e = .returned v ∧ EvRow w' w.heap.size v (sorted (evsOf f t ys)) ∧ Below w.heap.size w w' := by
  refine (callsIn_wide (n := 6)).1 ?_
  have hro : Fence.wide.round = none := rfl
  have h1 : 1 ≤ 6 := by omega
  obtain ⟨i0, hi, hz0, hz1, hz2⟩ := info_parts info73
  refine callsIn_of_wp_marks Try.func38 rfl trivial ?_ hro
  simp only [Try.ntmps38, List.size_toArray, List.length_cons, List.length_nil, Nat.reduceAdd, Nat.reduceSub, Array.replicate_succ, Array.replicate_zero, List.push_toArray, List.append_toArray, List.nil_append, List.cons_append]
  gi_wp2
  refine ⟨trivial, ?_⟩
  refine (each_in Fence.wide 5 trivial hro _ _).mono ?_
  rintro e w' ⟨rfl, rfl⟩
  gi_wp2
  have bF := (((Boxed.new w 3 (.int .i64 f)).alloc (.cells #[.int .i64 t] 3)).alloc (.cells #[.slice none 0 0] 68)).alloc (.cells #[.pointer p] 50)
  have bT := ((Boxed.new (w.alloc (.cells #[.int .i64 f] 3)) 3 (.int .i64 t)).alloc (.cells #[.slice none 0 0] 68)).alloc (.cells #[.pointer p] 50)
  have bO := (Boxed.new ((w.alloc (.cells #[.int .i64 f] 3)).alloc (.cells #[.int .i64 t] 3)) 68 (.slice none 0 0)).alloc (.cells #[.pointer p] 50)
  have bE := Boxed.new (((w.alloc (.cells #[.int .i64 f] 3)).alloc (.cells #[.int .i64 t] 3)).alloc (.cells #[.slice none 0 0] 68)) 50 (.pointer p)
  simp only [World.size_alloc] at bT bO bE
  have hB0 : Below w.heap.size w ((((w.alloc (.cells #[.int .i64 f] 3)).alloc (.cells #[.int .i64 t] 3)).alloc (.cells #[.slice none 0 0] 68)).alloc (.cells #[.pointer p] 50)) := ((((Below.refl _ w).alloc (Nat.le_refl _) _).alloc (by simp) _).alloc (by simp; omega) _).alloc (by simp; omega) _
  have hsz : ((((w.alloc (.cells #[.int .i64 f] 3)).alloc (.cells #[.int .i64 t] 3)).alloc (.cells #[.slice none 0 0] 68)).alloc (.cells #[.pointer p] 50)).heap.size = w.heap.size + 4 := by simp
  obtain ⟨W0, hW0⟩ : ∃ W0, (((w.alloc (.cells #[.int .i64 f] 3)).alloc (.cells #[.int .i64 t] 3)).alloc (.cells #[.slice none 0 0] 68)).alloc (.cells #[.pointer p] 50) = W0 := ⟨_, rfl⟩
  rw [hW0] at bF bT bO bE hB0 hsz ⊢
  clear hW0
  refine wpIn_rangeFunc_ownH hro h1 (gf := 80) (lb := #[.pointer (some ⟨w.heap.size + 1 + 1 + 1, 0, none⟩)]) rfl trivial (enters_of Try.func80 (by kernel_rfl) rfl)
    (hG (6 - 1) (w.heap.size + 1 + 1 + 1) W0 (by omega) hB0 (by omega) bE.cell) kb_t (kb_b (by omega) (by omega)) (Below.refl _ _) (fun _ => rfl)
    (fun pre W => (∃ v, Boxed W (w.heap.size + 1 + 1) 68 v ∧ W.ownsRow w.heap.size 73 3 v (evsOf f t pre).length ((evsOf f t pre).flatMap enc3)) ∧ (Boxed W w.heap.size 3 (.int .i64 f) ∧ Boxed W (w.heap.size + 1) 3 (.int .i64 t) ∧ Boxed W (w.heap.size + 1 + 1 + 1) 50 (.pointer p)) ∧ (Below w.heap.size w W ∧ w.heap.size + 4 ≤ W.heap.size))
    (fun _ _ _ => False)
    (OwnFrom.and (evw_own p w f t _ (by omega)) (OwnFrom.and (OwnFrom.and (Own.from (boxed_own _ _ (fun _ => Value.int .i64 f)) _) (OwnFrom.and (Own.from (boxed_own _ _ (fun _ => Value.int .i64 t)) _) (Own.from (boxed_own _ _ (fun _ => Value.pointer p)) _))) (OwnFrom.and (ownFrom_below (Nat.le_refl _) (by omega)) (ownFrom_size _ _))))
    (fun _ _ _ _ _ hs _ _ => hs)
    ⟨⟨_, bO, World.ownsRow_nil _ _ _ _⟩, ⟨bF, bT, bE⟩, hB0, by omega⟩
    (fun x a' W => ∃ Bx, w.heap.size + 1 + 1 < Bx ∧ W.heap[Bx]? = some (.cells #[.int .i64 x.2.1, .int .i64 x.2.2] 99 (0, 0)) ∧ a' = { tmps := #[.pointer p, .int .i64 f, .int .i64 t, undef, .pointer (some ⟨w.heap.size, 0, none⟩), .pointer (some ⟨w.heap.size + 1, 0, none⟩), .slice none 0 0, .pointer (some ⟨w.heap.size + 1 + 1, 0, none⟩), .string x.1, .pointer (some ⟨Bx, 0, none⟩), .pointer p, .func (.func 80) #[] #[.pointer (some ⟨w.heap.size + 1 + 1 + 1, 0, none⟩)], .string x.1, .agg #[.int .i64 x.2.1, .int .i64 x.2.2], undef, undef, undef, undef, undef, undef, undef, undef, undef, undef, undef, undef, undef, undef, undef, undef, undef, undef, undef, undef, undef, undef, undef, undef, undef, undef, undef, undef, undef, undef, undef, undef, undef, undef, undef, undef, undef, undef], defers := [] })
    (fun x a' _ X Y row hs hg hr => by
      obtain ⟨Bx, h1, h2, h3⟩ := hs
      exact ⟨Bx, h1, (hg.block Bx (blk_lt h2) (fun e => by obtain ⟨_, o, ho, hc⟩ := hr Bx e.symm; rw [h2] at ho; cases ho; cases hc)).trans h2, h3⟩)
    ?assign ?body ?done ?stop
  case assign =>
    rintro l pre x W K ⟨⟨v, bO1, hrow⟩, ⟨bF1, bT1, bE1⟩, hB1, hS1⟩ hK
    unfold encYs
    gi_wp2
    have hnew := (Go.MapKept.heap_alloc W (.cells #[.int .i64 x.2.1, .int .i64 x.2.2] 99)).1
    refine hK _ _ ((KeepsOthers.alloc _ _).from _) ⟨(Below.refl _ W).alloc hB1.size _, (below_alloc (Below.refl _ W) _).block _ (by omega)⟩ ⟨⟨v, bO1.alloc _, hrow.alloc _⟩, ⟨bF1.alloc _, bT1.alloc _, bE1.alloc _⟩, hB1.alloc hB1.size _, by simp; omega⟩ ⟨W.heap.size, by omega, hnew, rfl⟩
  case body =>
    rintro l pre x a' W hl ⟨r, hr⟩ ⟨⟨v, bO1, hrow⟩, ⟨bF1, bT1, bE1⟩, hB1, hS1⟩ ⟨Bx, hBx, bX, rfl⟩ hlt
    have hE : EvS p w W W f t Bx x.2 (evsOf f t pre) v := ⟨⟨bO1, hrow, bF1, bT1, bE1, hB1, hS1, bX⟩, KeepsOthers.refl _, Below.refl _ _, rfl⟩
    have hl2 : (evsOf f t pre).length ≤ 2000000 := by have := evs_len f t pre; omega
    have hm : (3000000 : Nat) ≤ maxLen := by decide
    have hsn := evs_snoc f t pre x
    have HBX := Aside0.mk hBx
    have cF := bF1.cell
    have cT := bT1.cell
    have cO := bO1.cell
    have x0 := blk_cell bX 0
    have x1 := blk_cell bX 1
    clear bO1 hrow bF1 bT1 bE1 hB1 hS1 hr bX hBx
    obtain ⟨k, a, b⟩ := x
    dsimp only at *
    by_cases c1 : f < a
    · by_cases c2 : a ≤ t
      · by_cases c3 : max f 0 < b
        · by_cases c4 : b ≤ t
          · have d1 : decide (f < a) = true := decide_eq_true c1
            have d2 : decide (a ≤ t) = true := decide_eq_true c2
            have d3 : decide (max f 0 < b) = true := decide_eq_true c3
            have d5 : (max f 0 < b) = True := eq_true c3
            have d4 : decide (b ≤ t) = true := decide_eq_true c4
            rw [(if_pos ⟨c1, c2⟩), (if_pos ⟨c3, c4⟩)] at hsn
            rw [← List.append_assoc] at hsn
            have HSN := Aside0.mk hsn
            clear hsn c1 c2 c3 c4
            gi_wp2_with (gi_at_builtin; refine wpListIn_append_own _ rfl _ _ 68 rfl w.heap.size 73 i0 (.agg #[.int .i64 0, .string ⟨#[]⟩, .bool false]) 3 32 Try.underlying68 hi hz0 hz1 hz2 rfl (by decide) _ _ _ rfl (hE.1.row.alloc _) _ 1 1 _ rfl rfl (cell_three_at _ _ _ _ _ _ (by simp)) three_one (by (try simp only [List.length_append, List.length_cons, List.length_nil]); omega) (by (try simp only [List.length_append, List.length_cons, List.length_nil]); omega) (by have := hE.1.size; rw [World.size_alloc]; omega) ?_; intro v' w1 hown' hgrow _; obtain ⟨hb1, hE2⟩ := hE.app HBX.out hown' hgrow; obtain ⟨g', cap', rfl⟩ := ownsRow_succ hown'; clear hE hown' hgrow; have hE := hE2; clear hE2; have cO1 := hb1.cell; have fO1 := hb1.frozen; have cF2 := hE.1.bf.cell; have cT2 := hE.1.bt.cell; have cO2 := hE.1.box.cell; have y0 := blk_cell hE.1.bx 0; have y1 := blk_cell hE.1.bx 1)
            simp only [List.length_append, List.length_cons, List.length_nil, Nat.zero_add] at hE
            exact ⟨hE.2.1.from _, hE.2.2, ⟨⟨_, hE.1.box, by rw [HSN.out]; exact hE.1.row⟩, ⟨hE.1.bf, hE.1.bt, hE.1.be⟩, hE.1.below, hE.1.size⟩⟩
          · have d1 : decide (f < a) = true := decide_eq_true c1
            have d2 : decide (a ≤ t) = true := decide_eq_true c2
            have d3 : decide (max f 0 < b) = true := decide_eq_true c3
            have d5 : (max f 0 < b) = True := eq_true c3
            have d4 : decide (b ≤ t) = false := decide_eq_false c4
            rw [(if_pos ⟨c1, c2⟩), (if_neg (fun h => c4 h.2))] at hsn
            simp only [List.nil_append, List.append_nil] at hsn
            have HSN := Aside0.mk hsn
            clear hsn c1 c2 c3 c4
            gi_wp2_with (gi_at_builtin; refine wpListIn_append_own _ rfl _ _ 68 rfl w.heap.size 73 i0 (.agg #[.int .i64 0, .string ⟨#[]⟩, .bool false]) 3 32 Try.underlying68 hi hz0 hz1 hz2 rfl (by decide) _ _ _ rfl (hE.1.row.alloc _) _ 1 1 _ rfl rfl (cell_three_at _ _ _ _ _ _ (by simp)) three_one (by (try simp only [List.length_append, List.length_cons, List.length_nil]); omega) (by (try simp only [List.length_append, List.length_cons, List.length_nil]); omega) (by have := hE.1.size; rw [World.size_alloc]; omega) ?_; intro v' w1 hown' hgrow _; obtain ⟨hb1, hE2⟩ := hE.app HBX.out hown' hgrow; obtain ⟨g', cap', rfl⟩ := ownsRow_succ hown'; clear hE hown' hgrow; have hE := hE2; clear hE2; have cO1 := hb1.cell; have fO1 := hb1.frozen; have cF2 := hE.1.bf.cell; have cT2 := hE.1.bt.cell; have cO2 := hE.1.box.cell; have y0 := blk_cell hE.1.bx 0; have y1 := blk_cell hE.1.bx 1)
            exact ⟨hE.2.1.from _, hE.2.2, ⟨⟨_, hE.1.box, by rw [HSN.out]; exact hE.1.row⟩, ⟨hE.1.bf, hE.1.bt, hE.1.be⟩, hE.1.below, hE.1.size⟩⟩
        · have d1 : decide (f < a) = true := decide_eq_true c1
          have d2 : decide (a ≤ t) = true := decide_eq_true c2
          have d3 : decide (max f 0 < b) = false := decide_eq_false c3
          have d5 : (max f 0 < b) = False := eq_false c3
          rw [(if_pos ⟨c1, c2⟩), (if_neg (fun h => c3 h.1))] at hsn
          simp only [List.nil_append, List.append_nil] at hsn
          have HSN := Aside0.mk hsn
          clear hsn c1 c2 c3
          gi_wp2_with (gi_at_builtin; refine wpListIn_append_own _ rfl _ _ 68 rfl w.heap.size 73 i0 (.agg #[.int .i64 0, .string ⟨#[]⟩, .bool false]) 3 32 Try.underlying68 hi hz0 hz1 hz2 rfl (by decide) _ _ _ rfl (hE.1.row.alloc _) _ 1 1 _ rfl rfl (cell_three_at _ _ _ _ _ _ (by simp)) three_one (by (try simp only [List.length_append, List.length_cons, List.length_nil]); omega) (by (try simp only [List.length_append, List.length_cons, List.length_nil]); omega) (by have := hE.1.size; rw [World.size_alloc]; omega) ?_; intro v' w1 hown' hgrow _; obtain ⟨hb1, hE2⟩ := hE.app HBX.out hown' hgrow; obtain ⟨g', cap', rfl⟩ := ownsRow_succ hown'; clear hE hown' hgrow; have hE := hE2; clear hE2; have cO1 := hb1.cell; have fO1 := hb1.frozen; have cF2 := hE.1.bf.cell; have cT2 := hE.1.bt.cell; have cO2 := hE.1.box.cell; have y0 := blk_cell hE.1.bx 0; have y1 := blk_cell hE.1.bx 1)
          exact ⟨hE.2.1.from _, hE.2.2, ⟨⟨_, hE.1.box, by rw [HSN.out]; exact hE.1.row⟩, ⟨hE.1.bf, hE.1.bt, hE.1.be⟩, hE.1.below, hE.1.size⟩⟩
      · by_cases c3 : max f 0 < b
        · by_cases c4 : b ≤ t
          · have d1 : decide (f < a) = true := decide_eq_true c1
            have d2 : decide (a ≤ t) = false := decide_eq_false c2
            have d3 : decide (max f 0 < b) = true := decide_eq_true c3
            have d5 : (max f 0 < b) = True := eq_true c3
            have d4 : decide (b ≤ t) = true := decide_eq_true c4
            rw [(if_neg (fun h => c2 h.2)), (if_pos ⟨c3, c4⟩)] at hsn
            simp only [List.nil_append, List.append_nil] at hsn
            have HSN := Aside0.mk hsn
            clear hsn c1 c2 c3 c4
            gi_wp2_with (gi_at_builtin; refine wpListIn_append_own _ rfl _ _ 68 rfl w.heap.size 73 i0 (.agg #[.int .i64 0, .string ⟨#[]⟩, .bool false]) 3 32 Try.underlying68 hi hz0 hz1 hz2 rfl (by decide) _ _ _ rfl (hE.1.row.alloc _) _ 1 1 _ rfl rfl (cell_three_at _ _ _ _ _ _ (by simp)) three_one (by (try simp only [List.length_append, List.length_cons, List.length_nil]); omega) (by (try simp only [List.length_append, List.length_cons, List.length_nil]); omega) (by have := hE.1.size; rw [World.size_alloc]; omega) ?_; intro v' w1 hown' hgrow _; obtain ⟨hb1, hE2⟩ := hE.app HBX.out hown' hgrow; obtain ⟨g', cap', rfl⟩ := ownsRow_succ hown'; clear hE hown' hgrow; have hE := hE2; clear hE2; have cO1 := hb1.cell; have fO1 := hb1.frozen; have cF2 := hE.1.bf.cell; have cT2 := hE.1.bt.cell; have cO2 := hE.1.box.cell; have y0 := blk_cell hE.1.bx 0; have y1 := blk_cell hE.1.bx 1)
            exact ⟨hE.2.1.from _, hE.2.2, ⟨⟨_, hE.1.box, by rw [HSN.out]; exact hE.1.row⟩, ⟨hE.1.bf, hE.1.bt, hE.1.be⟩, hE.1.below, hE.1.size⟩⟩
          · have d1 : decide (f < a) = true := decide_eq_true c1
            have d2 : decide (a ≤ t) = false := decide_eq_false c2
            have d3 : decide (max f 0 < b) = true := decide_eq_true c3
            have d5 : (max f 0 < b) = True := eq_true c3
            have d4 : decide (b ≤ t) = false := decide_eq_false c4
            rw [(if_neg (fun h => c2 h.2)), (if_neg (fun h => c4 h.2))] at hsn
            simp only [List.nil_append, List.append_nil] at hsn
            have HSN := Aside0.mk hsn
            clear hsn c1 c2 c3 c4
            gi_wp2_with (gi_at_builtin; refine wpListIn_append_own _ rfl _ _ 68 rfl w.heap.size 73 i0 (.agg #[.int .i64 0, .string ⟨#[]⟩, .bool false]) 3 32 Try.underlying68 hi hz0 hz1 hz2 rfl (by decide) _ _ _ rfl (hE.1.row.alloc _) _ 1 1 _ rfl rfl (cell_three_at _ _ _ _ _ _ (by simp)) three_one (by (try simp only [List.length_append, List.length_cons, List.length_nil]); omega) (by (try simp only [List.length_append, List.length_cons, List.length_nil]); omega) (by have := hE.1.size; rw [World.size_alloc]; omega) ?_; intro v' w1 hown' hgrow _; obtain ⟨hb1, hE2⟩ := hE.app HBX.out hown' hgrow; obtain ⟨g', cap', rfl⟩ := ownsRow_succ hown'; clear hE hown' hgrow; have hE := hE2; clear hE2; have cO1 := hb1.cell; have fO1 := hb1.frozen; have cF2 := hE.1.bf.cell; have cT2 := hE.1.bt.cell; have cO2 := hE.1.box.cell; have y0 := blk_cell hE.1.bx 0; have y1 := blk_cell hE.1.bx 1)
            exact ⟨hE.2.1.from _, hE.2.2, ⟨⟨_, hE.1.box, by rw [HSN.out]; exact hE.1.row⟩, ⟨hE.1.bf, hE.1.bt, hE.1.be⟩, hE.1.below, hE.1.size⟩⟩
        · have d1 : decide (f < a) = true := decide_eq_true c1
          have d2 : decide (a ≤ t) = false := decide_eq_false c2
          have d3 : decide (max f 0 < b) = false := decide_eq_false c3
          have d5 : (max f 0 < b) = False := eq_false c3
          rw [(if_neg (fun h => c2 h.2)), (if_neg (fun h => c3 h.1))] at hsn
          simp only [List.nil_append, List.append_nil] at hsn
          have HSN := Aside0.mk hsn
          clear hsn c1 c2 c3
          gi_wp2_with (gi_at_builtin; refine wpListIn_append_own _ rfl _ _ 68 rfl w.heap.size 73 i0 (.agg #[.int .i64 0, .string ⟨#[]⟩, .bool false]) 3 32 Try.underlying68 hi hz0 hz1 hz2 rfl (by decide) _ _ _ rfl (hE.1.row.alloc _) _ 1 1 _ rfl rfl (cell_three_at _ _ _ _ _ _ (by simp)) three_one (by (try simp only [List.length_append, List.length_cons, List.length_nil]); omega) (by (try simp only [List.length_append, List.length_cons, List.length_nil]); omega) (by have := hE.1.size; rw [World.size_alloc]; omega) ?_; intro v' w1 hown' hgrow _; obtain ⟨hb1, hE2⟩ := hE.app HBX.out hown' hgrow; obtain ⟨g', cap', rfl⟩ := ownsRow_succ hown'; clear hE hown' hgrow; have hE := hE2; clear hE2; have cO1 := hb1.cell; have fO1 := hb1.frozen; have cF2 := hE.1.bf.cell; have cT2 := hE.1.bt.cell; have cO2 := hE.1.box.cell; have y0 := blk_cell hE.1.bx 0; have y1 := blk_cell hE.1.bx 1)
          exact ⟨hE.2.1.from _, hE.2.2, ⟨⟨_, hE.1.box, by rw [HSN.out]; exact hE.1.row⟩, ⟨hE.1.bf, hE.1.bt, hE.1.be⟩, hE.1.below, hE.1.size⟩⟩
    · by_cases c3 : max f 0 < b
      · by_cases c4 : b ≤ t
        · have d1 : decide (f < a) = false := decide_eq_false c1
          have d3 : decide (max f 0 < b) = true := decide_eq_true c3
          have d5 : (max f 0 < b) = True := eq_true c3
          have d4 : decide (b ≤ t) = true := decide_eq_true c4
          rw [(if_neg (fun h => c1 h.1)), (if_pos ⟨c3, c4⟩)] at hsn
          simp only [List.nil_append, List.append_nil] at hsn
          have HSN := Aside0.mk hsn
          clear hsn c1 c3 c4
          gi_wp2_with (gi_at_builtin; refine wpListIn_append_own _ rfl _ _ 68 rfl w.heap.size 73 i0 (.agg #[.int .i64 0, .string ⟨#[]⟩, .bool false]) 3 32 Try.underlying68 hi hz0 hz1 hz2 rfl (by decide) _ _ _ rfl (hE.1.row.alloc _) _ 1 1 _ rfl rfl (cell_three_at _ _ _ _ _ _ (by simp)) three_one (by (try simp only [List.length_append, List.length_cons, List.length_nil]); omega) (by (try simp only [List.length_append, List.length_cons, List.length_nil]); omega) (by have := hE.1.size; rw [World.size_alloc]; omega) ?_; intro v' w1 hown' hgrow _; obtain ⟨hb1, hE2⟩ := hE.app HBX.out hown' hgrow; obtain ⟨g', cap', rfl⟩ := ownsRow_succ hown'; clear hE hown' hgrow; have hE := hE2; clear hE2; have cO1 := hb1.cell; have fO1 := hb1.frozen; have cF2 := hE.1.bf.cell; have cT2 := hE.1.bt.cell; have cO2 := hE.1.box.cell; have y0 := blk_cell hE.1.bx 0; have y1 := blk_cell hE.1.bx 1)
          exact ⟨hE.2.1.from _, hE.2.2, ⟨⟨_, hE.1.box, by rw [HSN.out]; exact hE.1.row⟩, ⟨hE.1.bf, hE.1.bt, hE.1.be⟩, hE.1.below, hE.1.size⟩⟩
        · have d1 : decide (f < a) = false := decide_eq_false c1
          have d3 : decide (max f 0 < b) = true := decide_eq_true c3
          have d5 : (max f 0 < b) = True := eq_true c3
          have d4 : decide (b ≤ t) = false := decide_eq_false c4
          rw [(if_neg (fun h => c1 h.1)), (if_neg (fun h => c4 h.2))] at hsn
          simp only [List.nil_append, List.append_nil] at hsn
          have HSN := Aside0.mk hsn
          clear hsn c1 c3 c4
          gi_wp2_with (gi_at_builtin; refine wpListIn_append_own _ rfl _ _ 68 rfl w.heap.size 73 i0 (.agg #[.int .i64 0, .string ⟨#[]⟩, .bool false]) 3 32 Try.underlying68 hi hz0 hz1 hz2 rfl (by decide) _ _ _ rfl (hE.1.row.alloc _) _ 1 1 _ rfl rfl (cell_three_at _ _ _ _ _ _ (by simp)) three_one (by (try simp only [List.length_append, List.length_cons, List.length_nil]); omega) (by (try simp only [List.length_append, List.length_cons, List.length_nil]); omega) (by have := hE.1.size; rw [World.size_alloc]; omega) ?_; intro v' w1 hown' hgrow _; obtain ⟨hb1, hE2⟩ := hE.app HBX.out hown' hgrow; obtain ⟨g', cap', rfl⟩ := ownsRow_succ hown'; clear hE hown' hgrow; have hE := hE2; clear hE2; have cO1 := hb1.cell; have fO1 := hb1.frozen; have cF2 := hE.1.bf.cell; have cT2 := hE.1.bt.cell; have cO2 := hE.1.box.cell; have y0 := blk_cell hE.1.bx 0; have y1 := blk_cell hE.1.bx 1)
          exact ⟨hE.2.1.from _, hE.2.2, ⟨⟨_, hE.1.box, by rw [HSN.out]; exact hE.1.row⟩, ⟨hE.1.bf, hE.1.bt, hE.1.be⟩, hE.1.below, hE.1.size⟩⟩
      · have d1 : decide (f < a) = false := decide_eq_false c1
        have d3 : decide (max f 0 < b) = false := decide_eq_false c3
        have d5 : (max f 0 < b) = False := eq_false c3
        rw [(if_neg (fun h => c1 h.1)), (if_neg (fun h => c3 h.1))] at hsn
        simp only [List.nil_append, List.append_nil] at hsn
        have HSN := Aside0.mk hsn
        clear hsn c1 c3
        gi_wp2_with (gi_at_builtin; refine wpListIn_append_own _ rfl _ _ 68 rfl w.heap.size 73 i0 (.agg #[.int .i64 0, .string ⟨#[]⟩, .bool false]) 3 32 Try.underlying68 hi hz0 hz1 hz2 rfl (by decide) _ _ _ rfl (hE.1.row.alloc _) _ 1 1 _ rfl rfl (cell_three_at _ _ _ _ _ _ (by simp)) three_one (by (try simp only [List.length_append, List.length_cons, List.length_nil]); omega) (by (try simp only [List.length_append, List.length_cons, List.length_nil]); omega) (by have := hE.1.size; rw [World.size_alloc]; omega) ?_; intro v' w1 hown' hgrow _; obtain ⟨hb1, hE2⟩ := hE.app HBX.out hown' hgrow; obtain ⟨g', cap', rfl⟩ := ownsRow_succ hown'; clear hE hown' hgrow; have hE := hE2; clear hE2; have cO1 := hb1.cell; have fO1 := hb1.frozen; have cF2 := hE.1.bf.cell; have cT2 := hE.1.bt.cell; have cO2 := hE.1.box.cell; have y0 := blk_cell hE.1.bx 0; have y1 := blk_cell hE.1.bx 1)
        exact ⟨hE.2.1.from _, hE.2.2, ⟨⟨_, hE.1.box, by rw [HSN.out]; exact hE.1.row⟩, ⟨hE.1.bf, hE.1.bt, hE.1.be⟩, hE.1.below, hE.1.size⟩⟩
  case done =>
    rintro D zs W hD rfl ⟨⟨v, bO1, hrow⟩, ⟨bF1, bT1, bE1⟩, hB1, hS1⟩ hK
    have cO := bO1.cell
    gi_wp2
    refine ⟨trivial, ?_⟩
    have hl4 : (evsOf f t zs).length ≤ 4000000 := by have := evs_len f t zs; omega
    refine (callsIn_wide.2 (sort_c hrow hl4)).mono ?_
    rintro e w2 ⟨rfl, hs, hf⟩
    have hO2 : Boxed w2 (w.heap.size + 1 + 1) 68 v := (hf.block _ bO1.lt (own_not hrow bO1 (by decide)).symm).trans bO1
    have cO2 := hO2.cell
    have hK2 : w2.heap[D]? = some (.deferred (some [])) := (hf.block D (Array.getElem?_eq_some_iff.1 hK).1 (fun e => by
      obtain ⟨cells, hc⟩ := own_ty hrow e
      rw [hc] at hK
      exact absurd hK (by simp))).trans hK
    have hbase : ∀ n, v.ownBlock = some n → w.heap.size ≤ n := fun n hn => by
      rcases hrow.2 with ⟨rfl, _⟩ | ⟨g, cap, cur, rfl, hb, _⟩
      · simp [Value.ownBlock] at hn
      · have : g = n := by simpa [Value.ownBlock] using hn
        omega
    have hB2 : Below w.heap.size w w2 := hB1.trans ⟨hf.os, hf.tape, hf.output, hf.size, fun n hn => hf.block n (Nat.lt_of_lt_of_le hn hB1.size) (fun e => by have := hbase n e; omega)⟩
    clear hf cO
    gi_wp2
    refine ⟨by simp, .inl ⟨_, _, rfl, run_takeDeferred hK2, ?_⟩⟩
    refine ⟨_, results_tmp rfl _ _ _, v, rfl, ?_, hB2.trans (belowK_b (w := w) (Nat.le_refl _) w2 D _ _ (by omega) hK2 rfl rfl)⟩
    have h3 := ownsRow_putObj hs (.deferred none) hK2 rfl
    unfold EvRow
    rw [show (sorted (evsOf f t zs)).length = (evsOf f t zs).length from List.length_mergeSort _]
    exact h3
  case stop =>
    rintro D c pre W _ _ h _
    exact h.elim
theorem Events_c {w : World} {ok : Nat → Prop} {b : Nat} {s : St ByteArray} (h : SpAt w ok b s) (hkeys : (keysG s.g).length ≤ 1000000) (hbig : ∀ k, (get s.g k).length ≤ 1000000) (hlen : (flat s.g).length ≤ 1000000) (f t : Int) :
    Calls Try.prog 38 #[.pointer (some ⟨b, 0, none⟩), .int .i64 f, .int .i64 t] w fun e w' => ∃ v, e = .returned v ∧ EvRow w' w.heap.size v (eventsS blt s f t) ∧ Below w.heap.size w w' :=
  Events_g (gives_at h hkeys hbig) hlen f t
end Go.Proofs.Ythpcplpannbipaa.Sa
