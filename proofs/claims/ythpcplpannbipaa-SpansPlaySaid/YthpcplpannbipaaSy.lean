/- How two events stand, and the sort by it, walked; no condition. -/
import Derived.Test.YthpcplpannbipaaSp
import Derived.Test.YthpcplpannbipaaSf
import Derived.Lib.Strings
import Derived.Lib.Bytealg
import Derived.Sort.Grow
import Derived.Test.YthpcplpannbipaaSq
set_option linter.unusedVariables false
set_option linter.unusedSimpArgs false
set_option linter.unusedSectionVars false
namespace Go.Proofs.Ythpcplpannbipaa.Sa
open Go.RowKit Go.Maps Go.MapKept Go.Sort Go.Proofs.YthpcplpannbipaaW.PrintWords Go.Proofs.YthpcplpannbipaaW.PrintLast Go.Proofs.Ythpcplpannbipaa.X Go.Proofs.Ythpcplpannbipaa.Kx Go.Proofs.Ythpcplpannbipaa.Mp Go.Proofs.Ythpcplpannbipaa.Mq Go.Proofs.Ythpcplpannbipaa.Sq Go.Proofs.Ythpcplpannbipaa.Mb Go.Proofs.Ythpcplpannbipaa.Maps
/-- A world that has drawn on, with blocks more. -/
def Gr (w w' : World) : Prop := ∃ q os, w' = grow (w.drewN q) os
theorem Gr.refl (w : World) : Gr w w := ⟨0, #[], by rw [grow_empty]; rfl⟩
theorem Gr.drew {w w' : World} (h : Gr w w') : Gr w w'.drew := by
  obtain ⟨q, os, rfl⟩ := h
  exact ⟨q + 1, os, rfl⟩
theorem Gr.alloc {w w' : World} (h : Gr w w') (o : Obj) : Gr w (w'.alloc o) := by
  obtain ⟨q, os, rfl⟩ := h
  exact ⟨q, os ++ #[o], by rw [alloc_eq_grow, grow_grow]⟩
theorem Gr.trans {a b c : World} (h : Gr a b) (k : Gr b c) : Gr a c := by
  obtain ⟨q, os, rfl⟩ := h
  obtain ⟨r, ps, rfl⟩ := k
  exact ⟨q + r, os ++ ps, by rw [← grow_grow]; simp [grow, World.drewN, Nat.add_assoc]⟩
theorem Gr.below {w w' : World} (h : Gr w w') : Below w.heap.size w w' := by
  obtain ⟨q, os, rfl⟩ := h
  exact ⟨rfl, rfl, rfl, by show w.heap.size ≤ (w.heap ++ os).size; rw [Array.size_append]; omega, fun _ hj => heap_grow_old (w.drewN q) os hj⟩
set_option maxRecDepth 100000 in
theorem bytealg_c (a b : ByteArray) (w : World) :
    Calls Try.prog 108 #[.string a, .string b] w fun e w' => e = .returned (.int .i64 (Lib.compareBytes a.data.toList b.data.toList)) ∧ w' = w := by
  go_enter Try.func108, Try.ntmps108
  go_wp2
  rw [run_callFunc_extern Try.func118 (by kernel_rfl) (by kernel_rfl) (by kernel_rfl) (e := Extern.BytealgCompare.compare) (by kernel_rfl), Lib.run_compareString]
  simp only [Result.andThen]
  rw [Oper.upon_value]
  go_wp2
  go_ret
  exact ⟨rfl, rfl⟩
theorem strcmp_c (a b : ByteArray) (w : World) :
    Calls Try.prog 85 #[.string a, .string b] w fun e w' => e = .returned (.int .i64 (Lib.compareBytes a.data.toList b.data.toList)) ∧ w' = w := by
  go_enter Try.func85, Try.ntmps85
  go_wp2_with fail
  refine (bytealg_c _ _ _).mono ?_
  rintro e w' ⟨rfl, rfl⟩
  go_wp2
  go_ret
  exact ⟨rfl, rfl⟩
def cmpI (a b : Int) : Int := if a < b then -1 else if b < a then 1 else 0
theorem isnan_c (x : Int) (w : World) : Calls Try.prog 107 #[.int .i64 x] w fun e w' => e = .returned (.bool false) ∧ w' = w := by
  go_enter Try.func107, Try.ntmps107
  go_wp2
  go_ret
  exact ⟨rfl, rfl⟩
theorem cmpint_c (x y : Int) (w : World) : Calls Try.prog 84 #[.int .i64 x, .int .i64 y] w fun e w' => e = .returned (.int .i64 (cmpI x y)) ∧ w' = w := by
  unfold cmpI
  by_cases h1 : x < y
  · have p1 : decide (x < y) = true := decide_eq_true h1
    rw [if_pos h1]
    clear h1
    go_enter Try.func84, Try.ntmps84
    go_wp2_with fail
    refine (isnan_c _ _).mono ?_
    rintro e w' ⟨rfl, rfl⟩
    go_wp2_with fail
    refine (isnan_c _ _).mono ?_
    rintro e w' ⟨rfl, rfl⟩
    go_wp2
    go_ret
    exact ⟨rfl, rfl⟩
  · have p1 : decide (x < y) = false := decide_eq_false h1
    rw [if_neg h1]
    clear h1
    by_cases h2 : y < x
    · have p2 : decide (y < x) = true := decide_eq_true h2
      rw [if_pos h2]
      clear h2
      go_enter Try.func84, Try.ntmps84
      go_wp2_with fail
      refine (isnan_c _ _).mono ?_
      rintro e w' ⟨rfl, rfl⟩
      go_wp2_with fail
      refine (isnan_c _ _).mono ?_
      rintro e w' ⟨rfl, rfl⟩
      go_wp2
      go_ret
      exact ⟨rfl, rfl⟩
    · have p2 : decide (y < x) = false := decide_eq_false h2
      rw [if_neg h2]
      clear h2
      go_enter Try.func84, Try.ntmps84
      go_wp2_with fail
      refine (isnan_c _ _).mono ?_
      rintro e w' ⟨rfl, rfl⟩
      go_wp2_with fail
      refine (isnan_c _ _).mono ?_
      rintro e w' ⟨rfl, rfl⟩
      go_wp2
      go_ret
      exact ⟨rfl, rfl⟩
def enc3 (x : Evt ByteArray) : List Value := [.int .i64 x.1, .string x.2.1, .bool x.2.2]
def worth (a : Bool) : Int := if a = true then 1 else 0
theorem worth_c (x : Evt ByteArray) (w : World) : Calls Try.prog 82 #[.agg #[.int .i64 x.1, .string x.2.1, .bool x.2.2]] w fun e w' => e = .returned (.int .i64 (worth x.2.2)) ∧ Gr w w' := by
  obtain ⟨r, k, a⟩ := x
  have HG : Aside0 (Gr w (w.alloc (.cells #[.int .i64 r, .string k, .bool a] 73))) := ⟨(Gr.refl w).alloc _⟩
  dsimp only
  cases a with
  | true =>
    go_enter Try.func82, Try.ntmps82
    go_wp2
    go_ret
    exact ⟨rfl, HG.out⟩
  | false =>
    go_enter Try.func82, Try.ntmps82
    go_wp2
    go_ret
    exact ⟨rfl, HG.out⟩
def or3 (a b c : Int) : Int := if a ≠ 0 then a else if b ≠ 0 then b else c
set_option maxHeartbeats 4000000 in
theorem or_c {W : World} {g : Nat} {a b c : Int} (h : W.heap[g]? = some (.cells #[.int .i64 a, .int .i64 b, .int .i64 c] 3 (0, 0))) : Calls Try.prog 83 #[.slice (some ⟨g, 0, none⟩) 3 3] W fun e w' => e = .returned (.int .i64 (or3 a b c)) ∧ w' = W := by
  have c0 := blk_cell h 0
  have c1 := blk_cell h 1
  have c2 := blk_cell h 2
  unfold or3
  clear h
  by_cases ha : a = 0
  · subst ha
    rw [if_neg (by simp)]
    by_cases hb : b = 0
    · subst hb
      rw [if_neg (by simp)]
      by_cases hc : c = 0
      · subst hc
        go_enter Try.func83, Try.ntmps83
        go_wp2
        refine wp_loop_rounds 4 ?_
        rw [rounds_succ]
        go_wp2
        rw [rounds_succ]
        go_wp2
        rw [rounds_succ]
        go_wp2
        rw [rounds_succ]
        go_wp2
        go_ret
        exact ⟨rfl, rfl⟩
      · have p1 : decide (c = 0) = false := decide_eq_false hc
        have p2 : (c == 0) = false := beq_eq_false_iff_ne.2 hc
        have p3 : (c != 0) = true := bne_iff_ne.2 hc
        have p4 : (c = 0) = False := eq_false hc
        clear hc
        go_enter Try.func83, Try.ntmps83
        go_wp2
        refine wp_loop_rounds 3 ?_
        rw [rounds_succ]
        go_wp2
        rw [rounds_succ]
        go_wp2
        rw [rounds_succ]
        go_wp2
        go_ret
        exact ⟨rfl, rfl⟩
    · rw [if_pos hb]
      have p1 : decide (b = 0) = false := decide_eq_false hb
      have p2 : (b == 0) = false := beq_eq_false_iff_ne.2 hb
      have p3 : (b != 0) = true := bne_iff_ne.2 hb
      have p4 : (b = 0) = False := eq_false hb
      clear hb
      go_enter Try.func83, Try.ntmps83
      go_wp2
      refine wp_loop_rounds 2 ?_
      rw [rounds_succ]
      go_wp2
      rw [rounds_succ]
      go_wp2
      go_ret
      exact ⟨rfl, rfl⟩
  · rw [if_pos ha]
    have p1 : decide (a = 0) = false := decide_eq_false ha
    have p2 : (a == 0) = false := beq_eq_false_iff_ne.2 ha
    have p3 : (a != 0) = true := bne_iff_ne.2 ha
    have p4 : (a = 0) = False := eq_false ha
    clear ha
    go_enter Try.func83, Try.ntmps83
    go_wp2
    refine wp_loop_rounds 1 ?_
    rw [rounds_succ]
    go_wp2
    go_ret
    exact ⟨rfl, rfl⟩
theorem gr_eq {P : Program} {f : FuncId} {args : Array Value} {w : World} {v : Value} (h : Calls P f args w fun e w' => e = .returned v ∧ w' = w) : Calls P f args w fun e w' => e = .returned v ∧ Gr w w' :=
  h.mono fun e w' h => ⟨h.1, by rw [h.2]; exact Gr.refl _⟩
theorem cmpint_g (x y : Int) (w : World) : Calls Try.prog 84 #[.int .i64 x, .int .i64 y] w fun e w' => e = .returned (.int .i64 (cmpI x y)) ∧ Gr w w' := gr_eq (cmpint_c x y w)
theorem strcmp_g (a b : ByteArray) (w : World) : Calls Try.prog 85 #[.string a, .string b] w fun e w' => e = .returned (.int .i64 (Lib.compareBytes a.data.toList b.data.toList)) ∧ Gr w w' := gr_eq (strcmp_c a b w)
theorem or_g {W : World} {g : Nat} {a b c : Int} (h : W.heap[g]? = some (.cells #[.int .i64 a, .int .i64 b, .int .i64 c] 3 (0, 0))) : Calls Try.prog 83 #[.slice (some ⟨g, 0, none⟩) 3 3] W fun e w' => e = .returned (.int .i64 (or3 a b c)) ∧ Gr W w' := gr_eq (or_c h)
/-- A call through an operand that holds a Go function. -/
theorem goesV_ {P : Program} {ops : Array Oper} {Q : Exit → Act → World → Prop} {oi : Oper} {N : Option Tmp} {a : Act} {w : World} {K : Act → World → Prop} {f : FuncId} {fn : Func} {t : Operand} {ags : Array Operand} {ts : Array TypeId} (hf : P.funcs[f]? = some fn) (hname : (fn.name == "runtime.NumGoroutine") = false) (hb : fn.body.isSome = true) (args : Array Value)
    (hw : Region.wanted oi (yielded ops a.tmps) = true) (hN : oi.dst = N) (hop : oi.op = .call { callee := .value t, args := ags, argTypes := ts }) (ht : a.eval t = .func (.func f) #[] #[]) (hargs : ags.map a.eval = args)
    (h : Calls P f args w fun e w' => ∃ v, e = .returned v ∧ K (a.put N v) w') : if Region.wanted oi (yielded ops a.tmps) = true then Oper.wp P oi a w K Q else K (a.put N undef) w := by
  refine call_ f args hw hN ?_ h
  have he := enters_ hf hname hb args w
  unfold execOp
  simp [hop, resolve, Deferred.ofValue, invoke, hargs, he, ht]
/-- Both events in their boxes. -/
def Two (w : World) (B C : Nat) (x y : Evt ByteArray) (W : World) : Prop :=
  W.heap[B]? = some (.cells #[.int .i64 x.1, .string x.2.1, .bool x.2.2] 73 (0, 0)) ∧ W.heap[C]? = some (.cells #[.int .i64 y.1, .string y.2.1, .bool y.2.2] 73 (0, 0)) ∧ Gr w W
theorem Two.gr {w : World} {B C : Nat} {x y : Evt ByteArray} {W W' : World} (h : Two w B C x y W) (k : Gr W W') : Two w B C x y W' :=
  ⟨(k.below.block B (blk_lt h.1)).trans h.1, (k.below.block C (blk_lt h.2.1)).trans h.2.1, h.2.2.trans k⟩
def cmpEv (x y : Evt ByteArray) : Int := or3 (cmpI x.1 y.1) (Lib.compareBytes x.2.1.data.toList y.2.1.data.toList) (cmpI (worth x.2.2) (worth y.2.2))
set_option maxHeartbeats 8000000 in
set_option maxRecDepth 100000 in
theorem compare_c (x y : Evt ByteArray) (w : World) : Calls Try.prog 66 #[.agg (enc3 x).toArray, .agg (enc3 y).toArray] w fun e w' => e = .returned (.int .i64 (cmpEv x y)) ∧ Gr w w' := by
  obtain ⟨r1, k1, a1⟩ := x
  obtain ⟨r2, k2, a2⟩ := y
  show Calls _ _ #[.agg #[.int .i64 r1, .string k1, .bool a1], .agg #[.int .i64 r2, .string k2, .bool a2]] _ _
  obtain ⟨wa, ea, hb2, bb, zb, kb⟩ : ∃ w1, w.alloc (.cells #[.int .i64 r1, .string k1, .bool a1] 73) = w1 ∧ w1.heap[w.heap.size]? = some (.cells #[.int .i64 r1, .string k1, .bool a1] 73 (0, 0)) ∧ Gr w w1 ∧ w1.heap.size = w.heap.size + 1 ∧ ∀ (k : Nat) (o : Obj), w.heap[k]? = some o → w1.heap[k]? = some o :=
    ⟨_, rfl, (Go.MapKept.heap_alloc w _).1, (Gr.refl w).alloc _, by simp, fun k o h => blk_alloc h _⟩
  obtain ⟨wc, ec, hc2, bc, zc, kc⟩ : ∃ w1, wa.alloc (.cells #[.int .i64 r2, .string k2, .bool a2] 73) = w1 ∧ w1.heap[wa.heap.size]? = some (.cells #[.int .i64 r2, .string k2, .bool a2] 73 (0, 0)) ∧ Gr wa w1 ∧ w1.heap.size = wa.heap.size + 1 ∧ ∀ (k : Nat) (o : Obj), wa.heap[k]? = some o → w1.heap[k]? = some o :=
    ⟨_, rfl, (Go.MapKept.heap_alloc wa _).1, (Gr.refl wa).alloc _, by simp, fun k o h => blk_alloc h _⟩
  rw [zb] at hc2
  obtain ⟨B, hB⟩ : ∃ B, w.heap.size = B := ⟨_, rfl⟩
  obtain ⟨C, hC⟩ : ∃ C, B + 1 = C := ⟨_, rfl⟩
  have hX := kc _ _ hb2
  rw [hB] at hX hc2
  rw [hC] at hc2
  have HX7 : Aside0 (Two w B C (r1, k1, a1) (r2, k2, a2) wc.drew) := ⟨(show Two w B C (r1, k1, a1) (r2, k2, a2) wc from ⟨hX, hc2, bb.trans bc⟩).gr (Gr.refl wc).drew⟩
  have HEA := Aside0.mk ea
  have HEC := Aside0.mk ec
  clear hX hb2 bb zb kb hc2 bc zc kc ea ec
  go_enter Try.func66, Try.ntmps66
  go_upto_region 2 with (fail)
  rw [HEA.out, HEC.out]
  refine start_ (n := 20) (S := fun w' => w'.cell? ⟨B, 0, none⟩ = some (.int .i64 r1) ∧ w'.cell? ⟨B, 1, none⟩ = some (.string k1) ∧ w'.cell? ⟨B, 2, none⟩ = some (.bool a1) ∧ w'.cell? ⟨C, 0, none⟩ = some (.int .i64 r2) ∧ w'.cell? ⟨C, 1, none⟩ = some (.string k2) ∧ w'.cell? ⟨C, 2, none⟩ = some (.bool a2)) (ds := []) #[false, false, false, false, false, false, false, false, false, false, false, false, false, false, false, false, false, false, false, false] (by kernel_rfl) rfl rfl ⟨blk_cell HX7.out.1 0, blk_cell HX7.out.1 1, blk_cell HX7.out.1 2, blk_cell HX7.out.2.1 0, blk_cell HX7.out.2.1 1, blk_cell HX7.out.2.1 2⟩ (fun hHeld => ?_)
  generalize wc.drew = w7 at HX7 hHeld ⊢
  refine pure_ (i := 0) (N := some 6) (v := ?_) (a' := ?_) #[true, false, false, false, false, false, false, false, false, false, false, false, false, false, false, false, false, false, false, false] rfl rfl (by kernel_rfl) (fun _ _ _ h => h) (Or.inl ⟨by rfl, ?_⟩) ?_ ?_
  rotate_left
  · intro w'
    go_simp
    with_reducible rfl
  rotate_left
  · simp only [Act.put, List.setIfInBounds_toArray, List.set_cons_zero, List.set_cons_succ, i64_w, i32_w]
    rfl
  refine pure_ (i := 2) (N := some 8) (v := ?_) (a' := ?_) #[true, false, true, false, false, false, false, false, false, false, false, false, false, false, false, false, false, false, false, false] rfl rfl (by kernel_rfl) (fun _ _ _ h => h) (Or.inl ⟨by rfl, ?_⟩) ?_ ?_
  rotate_left
  · intro w'
    go_simp
    with_reducible rfl
  rotate_left
  · simp only [Act.put, List.setIfInBounds_toArray, List.set_cons_zero, List.set_cons_succ, i64_w, i32_w]
    rfl
  refine pure_ (i := 5) (N := some 11) (v := ?_) (a' := ?_) #[true, false, true, false, false, true, false, false, false, false, false, false, false, false, false, false, false, false, false, false] rfl rfl (by kernel_rfl) (fun _ _ _ h => h) (Or.inl ⟨by rfl, ?_⟩) ?_ ?_
  rotate_left
  · intro w'
    go_simp
    with_reducible rfl
  rotate_left
  · simp only [Act.put, List.setIfInBounds_toArray, List.set_cons_zero, List.set_cons_succ, i64_w, i32_w]
    rfl
  refine pure_ (i := 7) (N := some 13) (v := ?_) (a' := ?_) #[true, false, true, false, false, true, false, true, false, false, false, false, false, false, false, false, false, false, false, false] rfl rfl (by kernel_rfl) (fun _ _ _ h => h) (Or.inl ⟨by rfl, ?_⟩) ?_ ?_
  rotate_left
  · intro w'
    go_simp
    with_reducible rfl
  rotate_left
  · simp only [Act.put, List.setIfInBounds_toArray, List.set_cons_zero, List.set_cons_succ, i64_w, i32_w]
    rfl
  refine pure_ (i := 10) (N := some 16) (v := ?_) (a' := ?_) #[true, false, true, false, false, true, false, true, false, false, true, false, false, false, false, false, false, false, false, false] rfl rfl (by kernel_rfl) (fun _ _ _ h => h) (Or.inl ⟨by rfl, ?_⟩) ?_ ?_
  rotate_left
  · intro w'
    go_simp
    with_reducible rfl
  rotate_left
  · simp only [Act.put, List.setIfInBounds_toArray, List.set_cons_zero, List.set_cons_succ, i64_w, i32_w]
    rfl
  refine pure_ (i := 13) (N := some 19) (v := ?_) (a' := ?_) #[true, false, true, false, false, true, false, true, false, false, true, false, false, true, false, false, false, false, false, false] rfl rfl (by kernel_rfl) (fun _ _ _ h => h) (Or.inl ⟨by rfl, ?_⟩) ?_ ?_
  rotate_left
  · intro w'
    go_simp
    with_reducible rfl
  rotate_left
  · simp only [Act.put, List.setIfInBounds_toArray, List.set_cons_zero, List.set_cons_succ, i64_w, i32_w]
    rfl
  refine take_ (i := 1) (N := some 7) (v := ?_) (a' := ?_) #[true, true, true, false, false, true, false, true, false, false, true, false, false, true, false, false, false, false, false, false] rfl rfl (by kernel_rfl) (fun _ _ _ h => h) (Or.inl ⟨by rfl, ?_⟩) hHeld ?_ ?_
  rotate_left
  · rintro w' ⟨s0, s1, s2, s3, s4, s5⟩
    go_simp
    with_reducible rfl
  rotate_left
  · simp only [Act.put, List.setIfInBounds_toArray, List.set_cons_zero, List.set_cons_succ, i64_w, i32_w]
    rfl
  refine take_ (i := 3) (N := some 9) (v := ?_) (a' := ?_) #[true, true, true, true, false, true, false, true, false, false, true, false, false, true, false, false, false, false, false, false] rfl rfl (by kernel_rfl) (fun _ _ _ h => h) (Or.inl ⟨by rfl, ?_⟩) hHeld ?_ ?_
  rotate_left
  · rintro w' ⟨s0, s1, s2, s3, s4, s5⟩
    go_simp
    with_reducible rfl
  rotate_left
  · simp only [Act.put, List.setIfInBounds_toArray, List.set_cons_zero, List.set_cons_succ, i64_w, i32_w]
    rfl
  refine take_ (i := 6) (N := some 12) (v := ?_) (a' := ?_) #[true, true, true, true, false, true, true, true, false, false, true, false, false, true, false, false, false, false, false, false] rfl rfl (by kernel_rfl) (fun _ _ _ h => h) (Or.inl ⟨by rfl, ?_⟩) hHeld ?_ ?_
  rotate_left
  · rintro w' ⟨s0, s1, s2, s3, s4, s5⟩
    go_simp
    with_reducible rfl
  rotate_left
  · simp only [Act.put, List.setIfInBounds_toArray, List.set_cons_zero, List.set_cons_succ, i64_w, i32_w]
    rfl
  refine take_ (i := 8) (N := some 14) (v := ?_) (a' := ?_) #[true, true, true, true, false, true, true, true, true, false, true, false, false, true, false, false, false, false, false, false] rfl rfl (by kernel_rfl) (fun _ _ _ h => h) (Or.inl ⟨by rfl, ?_⟩) hHeld ?_ ?_
  rotate_left
  · rintro w' ⟨s0, s1, s2, s3, s4, s5⟩
    go_simp
    with_reducible rfl
  rotate_left
  · simp only [Act.put, List.setIfInBounds_toArray, List.set_cons_zero, List.set_cons_succ, i64_w, i32_w]
    rfl
  refine take_ (i := 11) (N := some 17) (v := ?_) (a' := ?_) #[true, true, true, true, false, true, true, true, true, false, true, true, false, true, false, false, false, false, false, false] rfl rfl (by kernel_rfl) (fun _ _ _ h => h) (Or.inl ⟨by rfl, ?_⟩) hHeld ?_ ?_
  rotate_left
  · rintro w' ⟨s0, s1, s2, s3, s4, s5⟩
    go_simp
    with_reducible rfl
  rotate_left
  · simp only [Act.put, List.setIfInBounds_toArray, List.set_cons_zero, List.set_cons_succ, i64_w, i32_w]
    rfl
  refine take_ (i := 14) (N := some 20) (v := ?_) (a' := ?_) #[true, true, true, true, false, true, true, true, true, false, true, true, false, true, true, false, false, false, false, false] rfl rfl (by kernel_rfl) (fun _ _ _ h => h) (Or.inl ⟨by rfl, ?_⟩) hHeld ?_ ?_
  rotate_left
  · rintro w' ⟨s0, s1, s2, s3, s4, s5⟩
    go_simp
    with_reducible rfl
  rotate_left
  · simp only [Act.put, List.setIfInBounds_toArray, List.set_cons_zero, List.set_cons_succ, i64_w, i32_w]
    rfl
  refine one_ (i := 4) (N := some 10) #[true, true, true, true, true, true, true, true, true, false, true, true, false, true, true, false, false, false, false, false] rfl rfl (by kernel_rfl) (by decide) (fun K hK => ?_)
  refine goes_ Try.func84 (by kernel_rfl) rfl #[.int .i64 r1, .int .i64 r2] (by rfl) rfl rfl (by simp only [List.map_toArray, List.map_cons, List.map_nil]; rfl) ?_
  with_reducible refine (cmpint_g _ _ _).mono ?_
  rintro e w8 ⟨rfl, g8⟩
  refine ⟨_, rfl, ?_⟩
  have HX8 : Aside0 (Two w B C (r1, k1, a1) (r2, k2, a2) w8) := ⟨HX7.out.gr g8⟩
  clear hHeld g8
  refine hK.out _ _ ⟨blk_cell HX8.out.1 0, blk_cell HX8.out.1 1, blk_cell HX8.out.1 2, blk_cell HX8.out.2.1 0, blk_cell HX8.out.2.1 1, blk_cell HX8.out.2.1 2⟩ (fun hHeld => ?_)
  clear hK K
  refine norm_ (a' := ?_) ?_ ?_
  rotate_left
  · show Act.put _ (some 10) _ = _
    simp only [Act.put, List.setIfInBounds_toArray, List.set_cons_zero, List.set_cons_succ, i64_w, i32_w]
    rfl
  refine one_ (i := 9) (N := some 15) #[true, true, true, true, true, true, true, true, true, true, true, true, false, true, true, false, false, false, false, false] rfl rfl (by kernel_rfl) (by decide) (fun K hK => ?_)
  refine goes_ Try.func85 (by kernel_rfl) rfl #[.string k1, .string k2] (by rfl) rfl rfl (by simp only [List.map_toArray, List.map_cons, List.map_nil]; rfl) ?_
  with_reducible refine (strcmp_g _ _ _).mono ?_
  rintro e w9 ⟨rfl, g9⟩
  refine ⟨_, rfl, ?_⟩
  have HX9 : Aside0 (Two w B C (r1, k1, a1) (r2, k2, a2) w9) := ⟨HX8.out.gr g9⟩
  clear hHeld g9
  refine hK.out _ _ ⟨blk_cell HX9.out.1 0, blk_cell HX9.out.1 1, blk_cell HX9.out.1 2, blk_cell HX9.out.2.1 0, blk_cell HX9.out.2.1 1, blk_cell HX9.out.2.1 2⟩ (fun hHeld => ?_)
  clear hK K
  refine norm_ (a' := ?_) ?_ ?_
  rotate_left
  · show Act.put _ (some 15) _ = _
    simp only [Act.put, List.setIfInBounds_toArray, List.set_cons_zero, List.set_cons_succ, i64_w, i32_w]
    rfl
  refine one_ (i := 12) (N := some 18) #[true, true, true, true, true, true, true, true, true, true, true, true, true, true, true, false, false, false, false, false] rfl rfl (by kernel_rfl) (by decide) (fun K hK => ?_)
  refine goesV_ Try.func82 (by kernel_rfl) rfl #[.agg #[.int .i64 r1, .string k1, .bool a1]] (by rfl) rfl rfl rfl (by simp only [List.map_toArray, List.map_cons, List.map_nil]; rfl) ?_
  with_reducible refine (worth_c (r1, k1, a1) _).mono ?_
  rintro e w10 ⟨rfl, g10⟩
  refine ⟨_, rfl, ?_⟩
  have HX10 : Aside0 (Two w B C (r1, k1, a1) (r2, k2, a2) w10) := ⟨HX9.out.gr g10⟩
  clear hHeld g10
  refine hK.out _ _ ⟨blk_cell HX10.out.1 0, blk_cell HX10.out.1 1, blk_cell HX10.out.1 2, blk_cell HX10.out.2.1 0, blk_cell HX10.out.2.1 1, blk_cell HX10.out.2.1 2⟩ (fun hHeld => ?_)
  clear hK K
  refine norm_ (a' := ?_) ?_ ?_
  rotate_left
  · show Act.put _ (some 18) _ = _
    simp only [Act.put, List.setIfInBounds_toArray, List.set_cons_zero, List.set_cons_succ, i64_w, i32_w]
    rfl
  refine one_ (i := 15) (N := some 21) #[true, true, true, true, true, true, true, true, true, true, true, true, true, true, true, true, false, false, false, false] rfl rfl (by kernel_rfl) (by decide) (fun K hK => ?_)
  refine goesV_ Try.func82 (by kernel_rfl) rfl #[.agg #[.int .i64 r2, .string k2, .bool a2]] (by rfl) rfl rfl rfl (by simp only [List.map_toArray, List.map_cons, List.map_nil]; rfl) ?_
  with_reducible refine (worth_c (r2, k2, a2) _).mono ?_
  rintro e w11 ⟨rfl, g11⟩
  refine ⟨_, rfl, ?_⟩
  have HX11 : Aside0 (Two w B C (r1, k1, a1) (r2, k2, a2) w11) := ⟨HX10.out.gr g11⟩
  clear hHeld g11
  refine hK.out _ _ ⟨blk_cell HX11.out.1 0, blk_cell HX11.out.1 1, blk_cell HX11.out.1 2, blk_cell HX11.out.2.1 0, blk_cell HX11.out.2.1 1, blk_cell HX11.out.2.1 2⟩ (fun hHeld => ?_)
  clear hK K
  refine norm_ (a' := ?_) ?_ ?_
  rotate_left
  · show Act.put _ (some 21) _ = _
    simp only [Act.put, List.setIfInBounds_toArray, List.set_cons_zero, List.set_cons_succ, i64_w, i32_w]
    rfl
  refine one_ (i := 16) (N := some 22) #[true, true, true, true, true, true, true, true, true, true, true, true, true, true, true, true, true, false, false, false] rfl rfl (by kernel_rfl) (by decide) (fun K hK => ?_)
  refine goes_ Try.func84 (by kernel_rfl) rfl #[.int .i64 (worth a1), .int .i64 (worth a2)] (by rfl) rfl rfl (by simp only [List.map_toArray, List.map_cons, List.map_nil]; rfl) ?_
  with_reducible refine (cmpint_g _ _ _).mono ?_
  rintro e w12 ⟨rfl, g12⟩
  refine ⟨_, rfl, ?_⟩
  have HX12 : Aside0 (Two w B C (r1, k1, a1) (r2, k2, a2) w12) := ⟨HX11.out.gr g12⟩
  clear hHeld g12
  refine hK.out _ _ ⟨blk_cell HX12.out.1 0, blk_cell HX12.out.1 1, blk_cell HX12.out.1 2, blk_cell HX12.out.2.1 0, blk_cell HX12.out.2.1 1, blk_cell HX12.out.2.1 2⟩ (fun hHeld => ?_)
  clear hK K
  refine norm_ (a' := ?_) ?_ ?_
  rotate_left
  · show Act.put _ (some 22) _ = _
    simp only [Act.put, List.setIfInBounds_toArray, List.set_cons_zero, List.set_cons_succ, i64_w, i32_w]
    rfl
  refine one_ (i := 17) (N := some 23) #[true, true, true, true, true, true, true, true, true, true, true, true, true, true, true, true, true, true, false, false] rfl rfl (by kernel_rfl) (by decide) (fun K hK => ?_)
  refine value_ (w1 := ?_) (v := ?_) (by rfl) rfl ?_ ?_
  rotate_left 2
  · go_simp
    constructor
    · rfl
    · rfl
  refine hK.out _ _ ⟨blk_cell (blk_alloc HX12.out.1 _) 0, blk_cell (blk_alloc HX12.out.1 _) 1, blk_cell (blk_alloc HX12.out.1 _) 2, blk_cell (blk_alloc HX12.out.2.1 _) 0, blk_cell (blk_alloc HX12.out.2.1 _) 1, blk_cell (blk_alloc HX12.out.2.1 _) 2⟩ (fun hHeld => ?_)
  clear hK K
  refine norm_ (a' := ?_) ?_ ?_
  rotate_left
  · show Act.put _ (some 23) _ = _
    simp only [Act.put, List.setIfInBounds_toArray, List.set_cons_zero, List.set_cons_succ, i64_w, i32_w]
    rfl
  refine one_ (i := 18) (N := some 24) #[true, true, true, true, true, true, true, true, true, true, true, true, true, true, true, true, true, true, true, false] rfl rfl (by kernel_rfl) (by decide) (fun K hK => ?_)
  refine goes_ Try.func83 (by kernel_rfl) rfl #[.slice (some ⟨w12.heap.size, 0, none⟩) 3 3] (by rfl) rfl rfl (by simp only [List.map_toArray, List.map_cons, List.map_nil]; rfl) ?_
  with_reducible refine (or_g (Go.MapKept.heap_alloc w12 _).1).mono ?_
  rintro e w14 ⟨rfl, g14⟩
  refine ⟨_, rfl, ?_⟩
  have HX14 : Aside0 (Two w B C (r1, k1, a1) (r2, k2, a2) w14) := ⟨(HX12.out.gr ((Gr.refl _).alloc _)).gr g14⟩
  clear hHeld g14
  refine hK.out _ _ ⟨blk_cell HX14.out.1 0, blk_cell HX14.out.1 1, blk_cell HX14.out.1 2, blk_cell HX14.out.2.1 0, blk_cell HX14.out.2.1 1, blk_cell HX14.out.2.1 2⟩ (fun hHeld => ?_)
  clear hK K
  refine norm_ (a' := ?_) ?_ ?_
  rotate_left
  · show Act.put _ (some 24) _ = _
    simp only [Act.put, List.setIfInBounds_toArray, List.set_cons_zero, List.set_cons_succ, i64_w, i32_w]
    rfl
  refine pure_ (i := 19) (N := some 4) (v := ?_) (a' := ?_) #[true, true, true, true, true, true, true, true, true, true, true, true, true, true, true, true, true, true, true, true] rfl rfl (by kernel_rfl) (fun _ _ _ h => h) (Or.inl ⟨by rfl, ?_⟩) ?_ ?_
  rotate_left
  · intro w'
    go_simp
    with_reducible rfl
  rotate_left
  · simp only [Act.put, List.setIfInBounds_toArray, List.set_cons_zero, List.set_cons_succ, i64_w, i32_w]
    rfl
  refine done_ (by kernel_rfl) ?_
  go_wp2
  go_ret
  exact ⟨rfl, HX14.out.2.2⟩
end Go.Proofs.Ythpcplpannbipaa.Sa
namespace Go.Proofs.Ythpcplpannbipaa.Sa
open Go.RowKit Go.Maps Go.MapKept Go.Sort Go.Proofs.YthpcplpannbipaaW.PrintWords Go.Proofs.YthpcplpannbipaaW.PrintLast Go.Proofs.Ythpcplpannbipaa.X Go.Proofs.Ythpcplpannbipaa.Kx Go.Proofs.Ythpcplpannbipaa.Mp Go.Proofs.Ythpcplpannbipaa.Mq Go.Proofs.Ythpcplpannbipaa.Sq Go.Proofs.Ythpcplpannbipaa.Mb Go.Proofs.Ythpcplpannbipaa.Maps
theorem cmpB_lt : ∀ (a b : List UInt8), (Lib.compareBytes a b < 0 ↔ a < b) ∧ (Lib.compareBytes a b = 0 ↔ a = b)
  | [], [] => by simp [Lib.compareBytes]
  | [], _ :: _ => by simp [Lib.compareBytes]
  | _ :: _, [] => by simp [Lib.compareBytes]
  | a :: ax, b :: bx => by
    have ih := cmpB_lt ax bx
    unfold Lib.compareBytes
    by_cases h1 : a < b
    · have : a ≠ b := fun e => by rw [e] at h1; exact absurd h1 (UInt8.lt_irrefl _)
      simp [h1, List.cons_lt_cons_iff, this]
    · by_cases h2 : b < a
      · have : a ≠ b := fun e => by rw [e] at h2; exact absurd h2 (UInt8.lt_irrefl _)
        simp [h1, h2, List.cons_lt_cons_iff, this]
      · have e : a = b := UInt8.le_antisymm (UInt8.not_lt.1 h2) (UInt8.not_lt.1 h1)
        subst e
        simp [h1, List.cons_lt_cons_iff, ih.1, ih.2]
theorem or3_neg (a b c : Int) : or3 a b c < 0 ↔ a < 0 ∨ (a = 0 ∧ (b < 0 ∨ (b = 0 ∧ c < 0))) := by
  unfold or3
  split
  · rename_i h; exact ⟨.inl, fun h2 => h2.elim id (fun h3 => absurd h3.1 h)⟩
  · rename_i h
    have ha : a = 0 := Decidable.not_not.1 h
    split
    · rename_i h2; constructor
      · intro h3; exact .inr ⟨ha, .inl h3⟩
      · rintro (h3 | ⟨_, h3 | h3⟩)
        · omega
        · exact h3
        · exact absurd h3.1 h2
    · rename_i h2
      have hb : b = 0 := Decidable.not_not.1 h2
      constructor
      · intro h3; exact .inr ⟨ha, .inr ⟨hb, h3⟩⟩
      · rintro (h3 | ⟨_, h3 | h3⟩)
        · omega
        · omega
        · exact h3.2
theorem cmpI_neg (a b : Int) : (cmpI a b < 0 ↔ a < b) ∧ (cmpI a b = 0 ↔ a = b) := by
  unfold cmpI
  split
  · constructor <;> constructor <;> intro h <;> omega
  · split
    · constructor <;> constructor <;> intro h <;> omega
    · constructor <;> constructor <;> intro h <;> omega
theorem worth_lt (a b : Bool) : worth a < worth b ↔ a = false ∧ b = true := by cases a <;> cases b <;> simp [worth]
theorem blt_lt (a b : ByteArray) : blt a b = true ↔ a.data.toList < b.data.toList := by rw [blt_eq]; simp
theorem lt_elt : ltOf cmpEv = elt blt := by
  funext x y
  rw [Bool.eq_iff_iff, elt_iff]
  unfold ltOf cmpEv
  rw [decide_eq_true_eq, or3_neg, (cmpI_neg _ _).1, (cmpI_neg _ _).2, (cmpB_lt _ _).1, (cmpB_lt _ _).2, (cmpI_neg _ _).1, worth_lt, blt_lt]
  constructor
  · rintro (h | ⟨h, h2 | ⟨h2, h3⟩⟩)
    · exact .inl h
    · exact .inr ⟨h, .inl h2⟩
    · exact .inr ⟨h, .inr ⟨ByteArray.ext (Array.toList_inj.1 h2), h3⟩⟩
  · rintro (h | ⟨h, h2 | ⟨h2, h3⟩⟩)
    · exact .inl h
    · exact .inr ⟨h, .inl h2⟩
    · exact .inr ⟨h, .inr ⟨by rw [h2], h3⟩⟩
theorem elt_SWO : SWO (elt blt) where
  irrefl := (elt_TO blt_TO).irr
  trans _ _ _ h1 h2 := (elt_TO blt_TO).tr h1 h2
  ntrans _ _ _ h1 h2 := le_tr (elt_TO blt_TO) h2 h1
theorem flat_arr (l : List (Evt ByteArray)) (i : Nat) (h : i < l.length * 3) : (flatK enc3 3 l.toArray)[i]? = (l.flatMap enc3)[i]? := by
  rw [Array.getElem?_eq_getElem (by rw [size_flatK]; simpa using h), ← getElem!_pos]
  rw [get_flatK enc3 3 l.toArray i (by simpa using h)]
  have e : ∀ (l : List (Evt ByteArray)) (i : Nat), i < l.length * 3 → (l.flatMap enc3)[i]? = (enc3 l[i / 3]!)[i % 3]? := by
    intro l
    induction l with
    | nil => intro i h; simp at h
    | cons x l ih =>
      intro i h
      rw [List.flatMap_cons]
      by_cases h3 : i < 3
      · rw [List.getElem?_append_left (by exact h3), Nat.div_eq_of_lt h3, Nat.mod_eq_of_lt h3]
        rfl
      · rw [List.getElem?_append_right (by show 3 ≤ i; omega)]
        show (l.flatMap enc3)[i - 3]? = _
        rw [ih (i - 3) (by rw [List.length_cons] at h; omega)]
        have h4 : i / 3 = (i - 3) / 3 + 1 := by omega
        have h5 : i % 3 = (i - 3) % 3 := by omega
        rw [h4, h5]
        congr 2
  rw [e l i h]
  have h6 : i % 3 < (enc3 l[i / 3]!).length := Nat.mod_lt _ (by decide)
  rw [List.getElem?_eq_getElem h6, getElem!_pos (enc3 _) _ (by simpa using h6)]
  simp
theorem flat3_len (l : List (Evt ByteArray)) : (l.flatMap enc3).length = l.length * 3 := by
  induction l with
  | nil => rfl
  | cons x l ih => rw [List.flatMap_cons, List.length_append, ih, List.length_cons]; show 3 + _ = _; omega
/-- A row of events laid anew. -/
theorem ev_laid {w : World} {g n c base m : Nat} {os : Array Obj} {l l' : List (Evt ByteArray)} (h : w.ownsRow base 73 3 (.slice (some ⟨g, 0, none⟩) n c) l.length (l.flatMap enc3)) (hl : l'.length = l.length) :
    (sortWorldK enc3 3 w g 0 m l'.toArray os).ownsRow base 73 3 (.slice (some ⟨g, 0, none⟩) n c) l.length (l'.flatMap enc3) := by
  obtain ⟨hlen, h2⟩ := h
  rcases h2 with ⟨h0, _⟩ | ⟨g', cap, cur, hv, hb, hg, hn, hc, hs, ht⟩
  · injection h0 with h0; exact absurd h0 (by simp)
  · injection hv with e1 e2 e3
    injection e1 with e1
    injection e1 with e1
    subst e1
    subst e3
    refine ⟨by rw [flat3_len, hl], .inr ⟨g, c, putCells id 0 (flatK enc3 3 l'.toArray) cur, by rw [e2], hb, ?_, hn, hc, by simpa [putCells] using hs, ?_⟩⟩
    · have h3 : (putRowK enc3 3 (Sort.ahead w m) g 0 l'.toArray).heap[g]? = some (.cells (putCells id 0 (flatK enc3 3 l'.toArray) cur) 73 (0, 0)) := by
        simp [putRowK, putRow, mapBlock, Sort.ahead, Array.getElem?_modify, hg, onCells]
      exact (heap_grow_old _ os (blk_lt h3)).trans h3
    · apply List.ext_getElem?
      intro j
      rw [List.getElem?_take]
      by_cases hj : j < l.length * 3
      · have hjc : j < cur.size := by omega
        rw [if_pos hj, ← flat_arr l' j (by rw [hl]; exact hj), Array.getElem?_toList]
        have hF : j < (flatK enc3 3 l'.toArray).size := by rw [size_flatK]; simp; omega
        simp only [putCells, Array.getElem?_mapIdx, Array.getElem?_eq_getElem hjc, Option.map_some]
        rw [if_pos (by omega), Array.getElem?_eq_getElem hF, Nat.sub_zero, getElem!_pos _ j hF]
        rfl
      · rw [if_neg hj, List.getElem?_eq_none (by rw [flat3_len, hl]; omega)]
def sorted (l : List (Evt ByteArray)) : List (Evt ByteArray) := l.mergeSort fun x y => !elt blt y x
theorem sort_c {W : World} {base : Nat} {v : Value} {l : List (Evt ByteArray)} (h : W.ownsRow base 73 3 v l.length (l.flatMap enc3)) (hl : l.length ≤ 4000000) :
    Calls Try.prog 65 #[v, .func (.func 66) #[] #[]] W fun e w' => e = .returned (.tuple #[]) ∧ w'.ownsRow base 73 3 v l.length ((sorted l).flatMap enc3) ∧ FrO (fun n => v.ownBlock = some n) W w' := by
  have hsl : (sorted l).length = l.length := List.length_mergeSort _
  have h' := h
  obtain ⟨hlen, h2⟩ := h'
  rcases h2 with ⟨rfl, h0⟩ | ⟨g, c, cur, rfl, hb, hg, hn, hc, hs, ht⟩
  · obtain rfl := List.length_eq_zero_iff.1 h0
    refine (AnyF.slices_SortFunc_none Ythpcplpannbipaa.Sg.sort65 none 0 _ W).mono ?_
    rintro e w' ⟨rfl, rfl⟩
    have he : sorted [] = [] := by simp [sorted]
    exact ⟨rfl, by rw [he]; exact h, FrO.of_below (Below.refl _ _)⟩
  · have hH : HoldsK enc3 3 W g 0 l.toArray := fun j hj => by
      rw [size_flatK] at hj
      have hj' : j < l.length * 3 := by simpa using hj
      rw [Nat.zero_add]
      refine ⟨?_, blk_frozen hg _⟩
      have e1 : (cur.toList.take (l.length * 3))[j]? = (l.flatMap enc3)[j]? := by rw [ht]
      rw [List.getElem?_take, if_pos hj', Array.getElem?_toList] at e1
      rw [blk_cell hg j, e1, ← flat_arr l j hj']
      have hF : j < (flatK enc3 3 l.toArray).size := by rw [size_flatK]; exact hj
      rw [Array.getElem?_eq_getElem hF, getElem!_pos _ j hF]
      rfl
    have hcmp : CmpLays Try.prog 66 #[] enc3 3 cmpEv g 0 l.toArray.size W := fun m os dk _ x y => (compare_c x y _).mono fun e w' h => h
    have := AnyQ.slices_SortFunc_total (P := Try.prog) Ythpcplpannbipaa.Sg.sort65 3 Try.isAgg73 Try.sizeOf73 enc3 (fun _ => rfl) (fun x v hv => by
      simp only [enc3, List.mem_cons, List.not_mem_nil, or_false] at hv
      rcases hv with rfl | rfl | rfl <;> rfl) cmpEv (by rw [lt_elt]; exact elt_SWO) 66 #[] g 0 c l.toArray W (enters_of Try.func66 (by kernel_rfl) rfl) hcmp hH (blk_lt hg) (by simp; omega) (fun x y h1 h2 => by
      rw [lt_elt] at h1 h2
      exact (elt_TO blt_TO).tri h1 h2)
    rw [lt_elt] at this
    simp only [List.size_toArray, List.toList_toArray] at this
    refine this.mono ?_
    rintro e w' ⟨rfl, m, os, rfl⟩
    refine ⟨rfl, ev_laid h hsl, ⟨rfl, rfl, rfl, ?_, fun k hk hno => ?_⟩⟩
    · show W.heap.size ≤ ((putRowK enc3 3 (Sort.ahead W m) g 0 (sorted l).toArray).heap ++ os).size
      rw [Array.size_append]
      have : (putRowK enc3 3 (Sort.ahead W m) g 0 (sorted l).toArray).heap.size = W.heap.size := by simp [putRowK, putRow, mapBlock, Sort.ahead]
      omega
    · have hng : g ≠ k := fun e => hno (by rw [← e]; rfl)
      have h3 : (putRowK enc3 3 (Sort.ahead W m) g 0 (sorted l).toArray).heap[k]? = W.heap[k]? := by simp [putRowK, putRow, mapBlock, Sort.ahead, Array.getElem?_modify, hng]
      have h4 := heap_grow_old (putRowK enc3 3 (Sort.ahead W m) g 0 (sorted l).toArray) os (k := k) (by simpa [putRowK, putRow, mapBlock, Sort.ahead] using hk)
      exact h4.trans h3
end Go.Proofs.Ythpcplpannbipaa.Sa
