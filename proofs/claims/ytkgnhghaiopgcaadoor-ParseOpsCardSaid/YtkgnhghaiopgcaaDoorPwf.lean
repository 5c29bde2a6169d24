/- The walk of Parse and of its deferred closure; no condition. -/
import Derived.Test.YtkgnhghaiopgcaaDoorPwe
import Derived.Defers
import Derived.Deep.WholeRow
import Derived.Recover
import Derived.Laws.Pointers
set_option linter.unusedVariables false
set_option linter.unusedSimpArgs false
namespace Go.Proofs.YtkgnhghaiopgcaaDoor.Pw
open Go.RowKit Go.Maps Go.Proofs.YtkgnhghaiopgcaaDoorW.PrintWords Go.Proofs.YtkgnhghaiopgcaaDoorW.PrintLast Go.Proofs.YtkgnhghaiopgcaaDoor.X Go.Proofs.YtkgnhghaiopgcaaDoor.Kx Go.Proofs.YtkgnhghaiopgcaaDoor.Gl Go.Proofs.YtkgnhghaiopgcaaDoor.GlFn Go.Proofs.YtkgnhghaiopgcaaDoor.Tk Go.Proofs.YtkgnhghaiopgcaaDoor.Ps

theorem ta_hit {P : Program} {t : TypeId} {d : TypeDesc} (x : TypeId) (v : Value) (w : World) (hu : P.underlying t = some d) (hd : d.isRow = true) :
    (Instr.typeAssert (.iface t v) x t true).run P w = .ok (.tuple #[v, .bool true]) w := by
  cases d <;> first | (simp [Instr.typeAssert, underlying, hu, go_sem]; done) | (exact absurd hd (by simp))
theorem ta_miss {P : Program} {t : TypeId} {d : TypeDesc} (x : TypeId) (z : Value) (w : World) (hu : P.underlying t = some d) (hd : d.isRow = true) (hz : (zeroValue t).run P w = .ok z w) :
    (Instr.typeAssert .nilIface x t true).run P w = .ok (.tuple #[z, .bool false]) w := by
  cases d <;> first | (simp [Instr.typeAssert, underlying, hu, go_sem, hz]; done) | (exact absurd hd (by simp))
theorem row99 : (Tryd.prog.underlying 99).map TypeDesc.isRow = some true := by kernel_rfl
theorem info99 : (Tryd.prog.info? 99).map (fun i => (i.zero, i.size)) = some (some (.agg #[.int .i64 0, .int .i64 0]), 2) := by kernel_rfl
theorem ta_nil (w : World) : (Instr.typeAssert .nilIface 20 99 true).run Tryd.prog w = .ok (.tuple #[.agg #[.int .i64 0, .int .i64 0], .bool false]) w := by
  cases hq : Tryd.prog.underlying 99 with
  | none => have := row99; rw [hq] at this; exact absurd this (by simp)
  | some d =>
    have h1 := row99
    rw [hq] at h1
    refine ta_miss 20 _ w hq (by simpa using h1) ?_
    exact (zero_of_info info99).1 w
theorem ta_ok (v : Value) (w : World) : (Instr.typeAssert (.iface 99 v) 20 99 true).run Tryd.prog w = .ok (.tuple #[v, .bool true]) w := by
  cases hq : Tryd.prog.underlying 99 with
  | none => have := row99; rw [hq] at this; exact absurd this (by simp)
  | some d =>
    have h1 := row99
    rw [hq] at h1
    exact ta_hit 20 v w hq (by simpa using h1)
set_option maxHeartbeats 4000000 in
set_option maxRecDepth 100000 in
theorem catch_idle (p pe pa : Nat) (w : World) :
    CallsD Tryd.prog 66 #[.pointer (some ⟨p, 0, none⟩), .pointer (some ⟨pe, 0, none⟩), .pointer (some ⟨pa, 0, none⟩)] .returning w fun e u' w' => e = .returned (.tuple #[]) ∧ u' = .returning ∧ Below w.heap.size w w' := by
  refine callsD_of_wpS Tryd.func66 rfl fun c₀ cs hu => ?_
  apply wpS_seq
  apply wpS_region
  simp [wpOpsS, go_sem, recoverD, hu, Tryd.ntmps66, Exit.thenS]
  refine wpS_of_wp ?_
  simp only [Array.replicate_succ, Array.replicate_zero, List.push_toArray, List.append_toArray, List.nil_append, List.cons_append, List.setIfInBounds_toArray, List.set_cons_zero, List.set_cons_succ]
  have hta := ta_nil
  go_wp2
  exact ⟨rfl, .returning, by rw [← hu], _, results_none rfl _ _ _, rfl, rfl, below_alloc (Below.refl _ _) _⟩
set_option maxHeartbeats 4000000 in
set_option maxRecDepth 100000 in
theorem catch_fault (p pe pa : Nat) (en : Int) (pz : Nat) (older : List PanicEntry) (w : World) (hp : w.heap[p]? = some (.cells #[.slice none 0 0] 43 (0, 0))) (he : w.heap[pe]? = some (.cells #[.int .i64 0] 24 (0, 0))) (ha : w.heap[pa]? = some (.cells #[.int .i64 0] 3 (0, 0))) (h1 : p < pe) (h2 : pe < pa) :
    CallsD Tryd.prog 66 #[.pointer (some ⟨p, 0, none⟩), .pointer (some ⟨pe, 0, none⟩), .pointer (some ⟨pa, 0, none⟩)] (.panicking ({ v := fault en pz, recovered := false } :: older)) w fun e u' w' =>
      e = .returned (.tuple #[]) ∧ u' = .panicking ({ v := fault en pz, recovered := true } :: older) ∧ w'.cell? ⟨p, 0, none⟩ = some (.slice none 0 0) ∧ w'.cell? ⟨pe, 0, none⟩ = some (.int .i64 en) ∧ w'.cell? ⟨pa, 0, none⟩ = some (.int .i64 pz) ∧ Below p w w' := by
  have c0 := blk_cell hp 0
  have c1 := blk_cell he 0
  have c2 := blk_cell ha 0
  have z0 := blk_frozen hp 0
  have z1 := blk_frozen he 0
  have z2 := blk_frozen ha 0
  have l0 := blk_lt hp
  have l1 := blk_lt he
  have l2 := blk_lt ha
  unfold fault
  refine callsD_of_wpS Tryd.func66 rfl fun c₀ cs hu => ?_
  apply wpS_seq
  apply wpS_region
  simp [wpOpsS, go_sem, recoverD, hu, Tryd.ntmps66, Exit.thenS]
  refine wpS_of_wp ?_
  simp only [Array.replicate_succ, Array.replicate_zero, List.push_toArray, List.append_toArray, List.nil_append, List.cons_append, List.setIfInBounds_toArray, List.set_cons_zero, List.set_cons_succ]
  have hta := fun v w => ta_ok v w
  go_wp2
  obtain ⟨n, hn⟩ : ∃ n, w.heap.size = n := ⟨_, rfl⟩
  have HN : (w.alloc (.cells #[.int .i64 en, .int .i64 pz] 99)).drew.heap[n]? = some (.cells #[.int .i64 en, .int .i64 pz] 99 (0, 0)) := by rw [← hn]; exact (Go.MapKept.heap_alloc w _).1
  have HP : (w.alloc (.cells #[.int .i64 en, .int .i64 pz] 99)).drew.heap[p]? = some (.cells #[.slice none 0 0] 43 (0, 0)) := (Below.heap_alloc w _ p l0).trans hp
  have HE : (w.alloc (.cells #[.int .i64 en, .int .i64 pz] 99)).drew.heap[pe]? = some (.cells #[.int .i64 0] 24 (0, 0)) := (Below.heap_alloc w _ pe l1).trans he
  have HA : (w.alloc (.cells #[.int .i64 en, .int .i64 pz] 99)).drew.heap[pa]? = some (.cells #[.int .i64 0] 3 (0, 0)) := (Below.heap_alloc w _ pa l2).trans ha
  have HB : Below p w (w.alloc (.cells #[.int .i64 en, .int .i64 pz] 99)).drew := ((below_alloc (Below.refl _ _) _).mono (Nat.le_of_lt l0)).drew
  have hq0 : n ≠ p := by omega
  have hq1 : n ≠ pe := by omega
  have hq2 : n ≠ pa := by omega
  clear c0 c1 c2 z0 z1 z2
  rw [hn]
  refine start_ (n := 8) (S := fun w' => w'.cell? ⟨n, 0, none⟩ = some (.int .i64 en) ∧ w'.cell? ⟨n, 1, none⟩ = some (.int .i64 pz)) (ds := [7]) #[false, false, false, false, false, false, false, false] (by kernel_rfl) rfl rfl ⟨blk_cell HN 0, blk_cell HN 1⟩ (fun hHeld => ?_)
  generalize (w.alloc (.cells #[.int .i64 en, .int .i64 pz] 99)).drew = w3 at HN HP HE HA HB hHeld ⊢
  have c0 := blk_cell HP 0
  have z0 := blk_frozen HP 0
  refine pure_ (i := 0) (N := some 13) (v := ?_) (a' := ?_) #[true, false, false, false, false, false, false, false] rfl rfl (by kernel_rfl) (fun _ _ _ h => h) (Or.inl ⟨by rfl, ?_⟩) ?_ ?_
  rotate_left
  · intro w'
    go_simp
    with_reducible rfl
  rotate_left
  · simp only [Act.put, List.setIfInBounds_toArray, List.set_cons_zero, List.set_cons_succ, i64_w, i32_w]
    rfl
  refine pure_ (i := 1) (N := some 14) (v := ?_) (a' := ?_) #[true, true, false, false, false, false, false, false] rfl rfl (by kernel_rfl) (fun _ _ _ h => h) (Or.inl ⟨by rfl, ?_⟩) ?_ ?_
  rotate_left
  · intro w'
    go_simp
    with_reducible rfl
  rotate_left
  · simp only [Act.put, List.setIfInBounds_toArray, List.set_cons_zero, List.set_cons_succ, i64_w, i32_w]
    rfl
  refine pure_ (i := 3) (N := some 16) (v := ?_) (a' := ?_) #[true, true, false, true, false, false, false, false] rfl rfl (by kernel_rfl) (fun _ _ _ h => h) (Or.inl ⟨by rfl, ?_⟩) ?_ ?_
  rotate_left
  · intro w'
    go_simp
    with_reducible rfl
  rotate_left
  · simp only [Act.put, List.setIfInBounds_toArray, List.set_cons_zero, List.set_cons_succ, i64_w, i32_w]
    rfl
  refine take_ (i := 2) (N := some 15) (v := ?_) (a' := ?_) #[true, true, true, true, false, false, false, false] rfl rfl (by kernel_rfl) (fun _ _ _ h => h) (Or.inl ⟨by rfl, ?_⟩) hHeld ?_ ?_
  rotate_left
  · rintro w' ⟨s0, s1⟩
    go_simp
    with_reducible rfl
  rotate_left
  · simp only [Act.put, List.setIfInBounds_toArray, List.set_cons_zero, List.set_cons_succ, i64_w, i32_w]
    rfl
  refine take_ (i := 4) (N := some 17) (v := ?_) (a' := ?_) #[true, true, true, true, true, false, false, false] rfl rfl (by kernel_rfl) (fun _ _ _ h => h) (Or.inl ⟨by rfl, ?_⟩) hHeld ?_ ?_
  rotate_left
  · rintro w' ⟨s0, s1⟩
    go_simp
    with_reducible rfl
  rotate_left
  · simp only [Act.put, List.setIfInBounds_toArray, List.set_cons_zero, List.set_cons_succ, i64_w, i32_w]
    rfl
  refine one_ (i := 5) (N := none) #[true, true, true, true, true, true, false, false] rfl rfl (by kernel_rfl) (by decide) (fun K hK => ?_)
  refine skip_ (w1 := ?_) (by rfl) rfl ?_ ?_
  rotate_left
  · go_simp
    rfl
  have HN4 := (Below.heap_setCell w3 ⟨p, 0, none⟩ (.slice none 0 0) n hq0).trans HN
  have HE4 := (Below.heap_setCell w3 ⟨p, 0, none⟩ (.slice none 0 0) pe (show pe ≠ p by omega)).trans HE
  have HA4 := (Below.heap_setCell w3 ⟨p, 0, none⟩ (.slice none 0 0) pa (show pa ≠ p by omega)).trans HA
  have HP4 : (w3.setCell ⟨p, 0, none⟩ (.slice none 0 0)).heap[p]? = some (.cells #[.slice none 0 0] 43 (0, 0)) := by simpa using blk_set HP 0 (.slice none 0 0)
  have HB4 : Below p w (w3.setCell ⟨p, 0, none⟩ (.slice none 0 0)) := HB.setCell (Nat.le_refl _) _
  generalize w3.setCell ⟨p, 0, none⟩ (.slice none 0 0) = w4 at HN4 HE4 HA4 HP4 HB4 ⊢
  clear HN HE HA HP HB c0 z0
  have c1 := blk_cell HE4 0
  have z1 := blk_frozen HE4 0
  refine hK.out _ _ ⟨blk_cell HN4 0, blk_cell HN4 1⟩ (fun hHeld => ?_)
  clear hK K
  refine one_ (i := 6) (N := none) #[true, true, true, true, true, true, true, false] rfl rfl (by kernel_rfl) (by decide) (fun K hK => ?_)
  refine skip_ (w1 := ?_) (by rfl) rfl ?_ ?_
  rotate_left
  · go_simp
    rfl
  have HN5 := (Below.heap_setCell w4 ⟨pe, 0, none⟩ (.int .i64 en) n hq1).trans HN4
  have HP5 := (Below.heap_setCell w4 ⟨pe, 0, none⟩ (.int .i64 en) p (show p ≠ pe by omega)).trans HP4
  have HA5 := (Below.heap_setCell w4 ⟨pe, 0, none⟩ (.int .i64 en) pa (show pa ≠ pe by omega)).trans HA4
  have HE5 : (w4.setCell ⟨pe, 0, none⟩ (.int .i64 en)).heap[pe]? = some (.cells #[.int .i64 en] 24 (0, 0)) := by simpa using blk_set HE4 0 (.int .i64 en)
  have HB5 : Below p w (w4.setCell ⟨pe, 0, none⟩ (.int .i64 en)) := HB4.setCell (Nat.le_of_lt h1) _
  generalize w4.setCell ⟨pe, 0, none⟩ (.int .i64 en) = w5 at HN5 HE5 HA5 HP5 HB5 ⊢
  clear HN4 HE4 HA4 HP4 HB4 c1 z1
  have c2 := blk_cell HA5 0
  have z2 := blk_frozen HA5 0
  refine hK.out _ _ ⟨blk_cell HN5 0, blk_cell HN5 1⟩ (fun hHeld => ?_)
  clear hK K
  refine last_ (i := 7) (N := none) #[true, true, true, true, true, true, true, true] rfl rfl (by kernel_rfl) (by decide) (fun K hK => ?_)
  refine skip_ (w1 := ?_) (by rfl) rfl ?_ ?_
  rotate_left
  · go_simp
    rfl
  refine hK.out _ _ ?_
  clear hK K
  refine done_ (by kernel_rfl) ?_
  exact ⟨rfl, _, rfl, _, results_none rfl _ _ _, rfl, rfl, blk_cell ((Below.heap_setCell w5 ⟨pa, 0, none⟩ (.int .i64 pz) p (show p ≠ pa by omega)).trans HP5) 0, blk_cell ((Below.heap_setCell w5 ⟨pa, 0, none⟩ (.int .i64 pz) pe (show pe ≠ pa by omega)).trans HE5) 0, by simpa using blk_cell (blk_set HA5 0 (.int .i64 pz)) 0, HB5.setCell (by show p ≤ pa; omega) _⟩

end Go.Proofs.YtkgnhghaiopgcaaDoor.Pw
namespace Go.Proofs.YtkgnhghaiopgcaaDoor.Pw
open Go.RowKit Go.Maps Go.Proofs.YtkgnhghaiopgcaaDoorW.PrintWords Go.Proofs.YtkgnhghaiopgcaaDoorW.PrintLast Go.Proofs.YtkgnhghaiopgcaaDoor.X Go.Proofs.YtkgnhghaiopgcaaDoor.Kx Go.Proofs.YtkgnhghaiopgcaaDoor.Gl Go.Proofs.YtkgnhghaiopgcaaDoor.GlFn Go.Proofs.YtkgnhghaiopgcaaDoor.Tk Go.Proofs.YtkgnhghaiopgcaaDoor.Ps
def ParsePost (w : World) (res : Except Er (List ST)) (e : Ending) (w' : World) : Prop :=
  match res with
  | .ok x => ∃ v, e = .returned (.tuple #[.agg #[v], .int .i64 0, .int .i64 0]) ∧ k53.R 53 w' w.heap.size (fun _ => True) v x ∧ Below w.heap.size w w'
  | .error (n, p) => e = .returned (.tuple #[.agg #[.slice none 0 0], .int .i64 n, .int .i64 p]) ∧ Below w.heap.size w w'
theorem toks_of {w : World} {base : Nat} {ts : List Tok} {A : Option Addr} {c : Nat} (hR : Kd.R k32 32 w base (fun _ => True) (.slice A (ts.map TkFn.toS).length c) (ts.map TkFn.toS)) (hne : ts ≠ []) :
    ∃ g, A = some ⟨g, 0, none⟩ ∧ base ≤ g ∧ g < w.heap.size ∧ ts.length ≤ c ∧ ∀ i t, ts[i]? = some t → w.cell? ⟨g, 0 + 3 * i, none⟩ = some (.int .i64 t.kind) ∧ w.cell? ⟨g, 0 + 3 * i + 1, none⟩ = some (.string (B t.text)) ∧ w.cell? ⟨g, 0 + 3 * i + 2, none⟩ = some (.int .i64 t.at_) := by
  obtain ⟨inner, hown⟩ := Kd.R_own hR
  have hlen : 0 < ts.length := List.length_pos_iff.mpr hne
  rcases hown.2 with ⟨_, h0⟩ | ⟨g, cap, cur, hv, hbase, hg, hc, _⟩
  · rw [List.length_map] at h0; omega
  · injection hv with h1 h2 h3
    subst h1
    subst h3
    refine ⟨g, rfl, hbase, blk_lt hg, by rw [List.length_map] at hc; exact hc, ?_⟩
    intro i t ht
    obtain ⟨hi, ht'⟩ := List.getElem?_eq_some_iff.1 ht
    obtain ⟨ad, had, a1, a2, a3⟩ := at_T32 (Kd.R_reads' hR).2.2 (i : Int) (by omega) (by rw [List.length_map]; omega)
    injection had with had
    subst had
    rw [TkKey.rd_S ts i hi, ht', Int.toNat_natCast, Addr.add_mid, Nat.mul_comm i 3] at a1 a2 a3
    exact ⟨a1, a2, a3⟩
theorem three (w : World) : ∃ wa, ((w.alloc (.cells #[.slice none 0 0] 43)).alloc (.cells #[.int .i64 0] 24)).alloc (.cells #[.int .i64 0] 3) = wa ∧ wa.heap[w.heap.size]? = some (.cells #[.slice none 0 0] 43 (0, 0)) ∧ wa.heap[w.heap.size + 1]? = some (.cells #[.int .i64 0] 24 (0, 0)) ∧ wa.heap[w.heap.size + 2]? = some (.cells #[.int .i64 0] 3 (0, 0)) ∧ Below w.heap.size w wa ∧ wa.heap.size = w.heap.size + 3 := by
  have h1 : (w.alloc (.cells #[.slice none 0 0] 43)).heap.size = w.heap.size + 1 := by simp
  have h2 : ((w.alloc (.cells #[.slice none 0 0] 43)).alloc (.cells #[.int .i64 0] 24)).heap.size = w.heap.size + 2 := by simp
  refine ⟨_, rfl, ?_, ?_, ?_, ?_, by simp⟩
  · rw [Below.heap_alloc _ _ _ (by rw [h2]; omega), Below.heap_alloc _ _ _ (by rw [h1]; omega)]
    exact (Go.MapKept.heap_alloc w _).1
  · rw [Below.heap_alloc _ _ _ (by rw [h2]; omega)]
    have := (Go.MapKept.heap_alloc (w.alloc (.cells #[.slice none 0 0] 43)) (.cells #[.int .i64 0] 24)).1
    rwa [h1] at this
  · have := (Go.MapKept.heap_alloc ((w.alloc (.cells #[.slice none 0 0] 43)).alloc (.cells #[.int .i64 0] 24)) (.cells #[.int .i64 0] 3)).1
    rwa [h2] at this
  · exact ((below_alloc (Below.refl _ _) _).trans ((below_alloc (Below.refl _ _) _).mono (by rw [h1]; omega))).trans ((below_alloc (Below.refl _ _) _).mono (by rw [h2]; omega))

set_option maxHeartbeats 8000000 in
set_option maxRecDepth 100000 in
theorem Parse_calls (s : ByteArray) {l : List UInt8} (hl : L s = l) {res : Except Er (List ST)} (hr : Ps.parse l = some res) (w : World) (hK : Aside0 (Aid.KeysIn w)) :
    Calls Tryd.prog 33 #[.string s] w (ParsePost w res) := by
  subst hl
  obtain ⟨wa, hwa, hp, he, ha, hbl, hsz⟩ := three w
  obtain ⟨p, hpp⟩ : ∃ p, w.heap.size = p := ⟨_, rfl⟩
  obtain ⟨pe, hpe⟩ : ∃ q, p + 1 = q := ⟨_, rfl⟩
  obtain ⟨pa, hpa⟩ : ∃ q, pe + 1 = q := ⟨_, rfl⟩
  have HQ : Aside0 (w.heap.size = p ∧ pe = p + 1 ∧ pa = p + 2 ∧ wa.heap.size = p + 3) := ⟨by omega⟩
  have HW := Aside0.mk hwa
  rw [hpp] at hp
  rw [hpp, hpe] at he
  rw [hpp, show p + 2 = pa by omega] at ha
  have HP := Aside0.mk hp
  have HE := Aside0.mk he
  have HA := Aside0.mk ha
  have HB := Aside0.mk hbl
  have hmf : ∀ (fn : Fn) (first cap : Array Value) (w : World), (Instr.makeFunc fn first cap).run Tryd.prog w = .ok (.func fn first cap) w := fun _ _ _ _ => rfl
  have HR := Aside0.mk hr
  clear hwa hp he ha hbl hsz hr
  cases hall : all (L s) with
  | error er =>
    obtain ⟨en, pz⟩ := er
    have HALL := Aside0.mk hall
    have hres : res = .error (en, pz) := by
      have := HR.out
      unfold Ps.parse at this
      rw [hall] at this
      exact (Option.some.inj this).symm
    subst hres
    clear HR hall
    go_enter_defers Tryd.func33, Tryd.ntmps33
    go_wp2_with fail
    rw [HW.out]
    refine (TkKey.All_err s en pz HALL.out wa).mono ?_
    rintro e w1 ⟨A, c, rfl, hb⟩
    have hq := HQ.out
    have HP1 := (hb.block p (by omega)).trans HP.out
    have HE1 := (hb.block pe (by omega)).trans HE.out
    have HA1 := (hb.block pa (by omega)).trans HA.out
    have HA2 := (Below.heap_setCell w1 ⟨pe, 0, none⟩ (.int .i64 en) pa (show pa ≠ pe by omega)).trans HA1
    have HE2 : (w1.setCell ⟨pe, 0, none⟩ (.int .i64 en)).heap[pe]? = some (.cells #[.int .i64 en] 24 (0, 0)) := by simpa using blk_set HE1 0 (.int .i64 en)
    have HP2 := (Below.heap_setCell w1 ⟨pe, 0, none⟩ (.int .i64 en) p (show p ≠ pe by omega)).trans HP1
    have HE3 := (Below.heap_setCell (w1.setCell ⟨pe, 0, none⟩ (.int .i64 en)) ⟨pa, 0, none⟩ (.int .i64 pz) pe (show pe ≠ pa by omega)).trans HE2
    have HP3 := (Below.heap_setCell (w1.setCell ⟨pe, 0, none⟩ (.int .i64 en)) ⟨pa, 0, none⟩ (.int .i64 pz) p (show p ≠ pa by omega)).trans HP2
    have HA3 : ((w1.setCell ⟨pe, 0, none⟩ (.int .i64 en)).setCell ⟨pa, 0, none⟩ (.int .i64 pz)).heap[pa]? = some (.cells #[.int .i64 pz] 3 (0, 0)) := by simpa using blk_set HA2 0 (.int .i64 pz)
    have HBB : Below p w ((w1.setCell ⟨pe, 0, none⟩ (.int .i64 en)).setCell ⟨pa, 0, none⟩ (.int .i64 pz)) := (((hq.1 ▸ HB.out : Below p w wa).trans (hb.mono (by omega))).setCell (by show p ≤ pe; omega) _).setCell (by show p ≤ pa; omega) _
    have H3 := Aside0.mk (And.intro HP3 (And.intro HE3 (And.intro HA3 HBB)))
    have d0 := blk_cell HE1 0
    have d1 := blk_frozen HE1 0
    have d2 := blk_cell HA2 0
    have d3 := blk_frozen HA2 0
    clear hq HP1 HE1 HA1 HA2 HE2 HP2 HE3 HP3 HA3 HBB hb
    go_upto_region 2 with (fail)
    obtain ⟨w3, hw3⟩ : ∃ w3, (w1.setCell ⟨pe, 0, none⟩ (.int .i64 en)).setCell ⟨pa, 0, none⟩ (.int .i64 pz) = w3 := ⟨_, rfl⟩
    rw [hw3] at H3 ⊢
    clear hw3 d0 d1 d2 d3
    obtain ⟨HP3, HE3, HA3, HB3⟩ := H3.out
    have d0 := blk_cell HE3 0
    have ht : (en != 0) = true := by rcases TkKey.all_err_ne HALL.out with h | h | h <;> (obtain ⟨h, _⟩ := h; first | (subst h; rfl) | (rcases h with rfl | rfl <;> rfl))
    clear H3
    go_wp2_with fail
    have HP4 : w3.drew.heap[p]? = _ := HP3
    have HE4 : w3.drew.heap[pe]? = _ := HE3
    have HA4 : w3.drew.heap[pa]? = _ := HA3
    have HB4 := HB3.drew
    have hlt1 : p < pe := by have := HQ.out; omega
    have hlt2 : pe < pa := by have := HQ.out; omega
    clear d0 HP3 HE3 HA3 HB3 hpe hpa hpp
    refine wp_region_noPanic ?_
    refine start_ (n := 6) (S := fun w' => w'.cell? ⟨pe, 0, none⟩ = some (.int .i64 en) ∧ w'.cell? ⟨pa, 0, none⟩ = some (.int .i64 pz)) (ds := [5]) #[false, false, false, false, false, false] (by kernel_rfl) rfl rfl ⟨blk_cell HE4 0, blk_cell HA4 0⟩ (fun hHeld => ?_)
    generalize w3.drew = w4 at HP4 HE4 HA4 HB4 hHeld ⊢
    have c0 := blk_cell HP4 0
    have z0 := blk_frozen HP4 0
    refine pure_ (i := 0) (N := some 15) (v := ?_) (a' := ?_) #[true, false, false, false, false, false] rfl rfl (by kernel_rfl) (fun _ _ _ h => h) (Or.inl ⟨by rfl, ?_⟩) ?_ ?_
    rotate_left
    · intro w'
      go_simp
      with_reducible rfl
    rotate_left
    · simp only [Act.put, List.setIfInBounds_toArray, List.set_cons_zero, List.set_cons_succ, i64_w, i32_w]
      rfl
    refine take_ (i := 1) (N := some 16) (v := ?_) (a' := ?_) #[true, true, false, false, false, false] rfl rfl (by kernel_rfl) (fun _ _ _ h => h) (Or.inl ⟨by rfl, ?_⟩) hHeld ?_ ?_
    rotate_left
    · rintro w' ⟨s0, s1⟩
      go_simp
      with_reducible rfl
    rotate_left
    · simp only [Act.put, List.setIfInBounds_toArray, List.set_cons_zero, List.set_cons_succ, i64_w, i32_w]
      rfl
    refine take_ (i := 2) (N := some 17) (v := ?_) (a' := ?_) #[true, true, true, false, false, false] rfl rfl (by kernel_rfl) (fun _ _ _ h => h) (Or.inl ⟨by rfl, ?_⟩) hHeld ?_ ?_
    rotate_left
    · rintro w' ⟨s0, s1⟩
      go_simp
      with_reducible rfl
    rotate_left
    · simp only [Act.put, List.setIfInBounds_toArray, List.set_cons_zero, List.set_cons_succ, i64_w, i32_w]
      rfl
    refine one_ (i := 3) (N := none) #[true, true, true, true, false, false] rfl rfl (by kernel_rfl) (by decide) (fun K hK => ?_)
    refine skip_ (w1 := ?_) (by rfl) rfl ?_ ?_
    rotate_left
    · go_simp
      rfl
    have HE5 := (Below.heap_setCell w4 ⟨p, 0, none⟩ (.slice none 0 0) pe (show pe ≠ p by omega)).trans HE4
    have HA5 := (Below.heap_setCell w4 ⟨p, 0, none⟩ (.slice none 0 0) pa (show pa ≠ p by omega)).trans HA4
    have HP5 : (w4.setCell ⟨p, 0, none⟩ (.slice none 0 0)).heap[p]? = some (.cells #[.slice none 0 0] 43 (0, 0)) := by simpa using blk_set HP4 0 (.slice none 0 0)
    have HB5 : Below p w (w4.setCell ⟨p, 0, none⟩ (.slice none 0 0)) := HB4.setCell (Nat.le_refl _) _
    generalize w4.setCell ⟨p, 0, none⟩ (.slice none 0 0) = w5 at HE5 HA5 HP5 HB5 ⊢
    clear HP4 HE4 HA4 HB4 c0 z0
    have c1 := blk_cell HE5 0
    have z1 := blk_frozen HE5 0
    refine hK.out _ _ ⟨blk_cell HE5 0, blk_cell HA5 0⟩ (fun hHeld => ?_)
    clear hK K
    refine one_ (i := 4) (N := none) #[true, true, true, true, true, false] rfl rfl (by kernel_rfl) (by decide) (fun K hK => ?_)
    refine skip_ (w1 := ?_) (by rfl) rfl ?_ ?_
    rotate_left
    · go_simp
      rfl
    have HP6 := (Below.heap_setCell w5 ⟨pe, 0, none⟩ (.int .i64 en) p (show p ≠ pe by omega)).trans HP5
    have HA6 := (Below.heap_setCell w5 ⟨pe, 0, none⟩ (.int .i64 en) pa (show pa ≠ pe by omega)).trans HA5
    have HE6 : (w5.setCell ⟨pe, 0, none⟩ (.int .i64 en)).heap[pe]? = some (.cells #[.int .i64 en] 24 (0, 0)) := by simpa using blk_set HE5 0 (.int .i64 en)
    have HB6 : Below p w (w5.setCell ⟨pe, 0, none⟩ (.int .i64 en)) := HB5.setCell (by show p ≤ pe; omega) _
    generalize w5.setCell ⟨pe, 0, none⟩ (.int .i64 en) = w6 at HE6 HA6 HP6 HB6 ⊢
    clear HP5 HE5 HA5 HB5 c1 z1
    have c2 := blk_cell HA6 0
    have z2 := blk_frozen HA6 0
    refine hK.out _ _ ⟨blk_cell HE6 0, blk_cell HA6 0⟩ (fun hHeld => ?_)
    clear hK K
    refine last_ (i := 5) (N := none) #[true, true, true, true, true, true] rfl rfl (by kernel_rfl) (by decide) (fun K hK => ?_)
    refine skip_ (w1 := ?_) (by rfl) rfl ?_ ?_
    rotate_left
    · go_simp
      rfl
    refine hK.out _ _ ?_
    clear hK K
    refine done_ (by kernel_rfl) ?_
    have r0 : (w6.setCell ⟨pa, 0, none⟩ (.int .i64 pz)).cell? ⟨p, 0, none⟩ = some (.slice none 0 0) := blk_cell ((Below.heap_setCell w6 ⟨pa, 0, none⟩ (.int .i64 pz) p (show p ≠ pa by omega)).trans HP6) 0
    have r1 : (w6.setCell ⟨pa, 0, none⟩ (.int .i64 pz)).cell? ⟨pe, 0, none⟩ = some (.int .i64 en) := blk_cell ((Below.heap_setCell w6 ⟨pa, 0, none⟩ (.int .i64 pz) pe (show pe ≠ pa by omega)).trans HE6) 0
    have r2 : (w6.setCell ⟨pa, 0, none⟩ (.int .i64 pz)).cell? ⟨pa, 0, none⟩ = some (.int .i64 pz) := by simpa using blk_cell (blk_set HA6 0 (.int .i64 pz)) 0
    have HB7 : Below p w (w6.setCell ⟨pa, 0, none⟩ (.int .i64 pz)) := HB6.setCell (by show p ≤ pa; omega) _
    generalize w6.setCell ⟨pa, 0, none⟩ (.int .i64 pz) = w7 at r0 r1 r2 HB7 ⊢
    clear c2 z2 HP6 HE6 HA6 HB6 hHeld ht hlt1 hlt2
    unfold NoPanic
    dsimp only
    go_wp2
    exact ⟨.tuple #[.agg #[.slice none 0 0], .int .i64 en, .int .i64 pz], by simp [results, Tryd.results33, go_sem, r0, r1, r2], rfl, HQ.out.1.symm ▸ HB7⟩
  | ok ts =>
    have HALL := Aside0.mk hall
    have hsch : schemaT (3 * ts.length + 9) ts = some res := by
      have := HR.out
      unfold Ps.parse at this
      rw [hall] at this
      exact this
    have HS := Aside0.mk hsch
    clear HR hall hsch
    go_enter_defers Tryd.func33, Tryd.ntmps33
    go_wp2_with fail
    rw [HW.out]
    refine (TkKey.All_ok s ts HALL.out wa).mono ?_
    rintro e w1 ⟨A, c, rfl, hR, hb⟩
    have hends := all_ends HALL.out
    obtain ⟨g, rfl, hgb, hgl, hcap, htoks⟩ := toks_of hR hends.ne
    rw [List.length_map]
    have hq := HQ.out
    have hsm := (TkKey.all_len HALL.out).1
    have HP1 := (hb.block p (by omega)).trans HP.out
    have HE1 := (hb.block pe (by omega)).trans HE.out
    have HA1 := (hb.block pa (by omega)).trans HA.out
    have HA2 := (Below.heap_setCell w1 ⟨pe, 0, none⟩ (.int .i64 0) pa (show pa ≠ pe by omega)).trans HA1
    have HE2 : (w1.setCell ⟨pe, 0, none⟩ (.int .i64 0)).heap[pe]? = some (.cells #[.int .i64 0] 24 (0, 0)) := by simpa using blk_set HE1 0 (.int .i64 0)
    have HP2 := (Below.heap_setCell w1 ⟨pe, 0, none⟩ (.int .i64 0) p (show p ≠ pe by omega)).trans HP1
    have HE3 := (Below.heap_setCell (w1.setCell ⟨pe, 0, none⟩ (.int .i64 0)) ⟨pa, 0, none⟩ (.int .i64 0) pe (show pe ≠ pa by omega)).trans HE2
    have HP3 := (Below.heap_setCell (w1.setCell ⟨pe, 0, none⟩ (.int .i64 0)) ⟨pa, 0, none⟩ (.int .i64 0) p (show p ≠ pa by omega)).trans HP2
    have HA3 : ((w1.setCell ⟨pe, 0, none⟩ (.int .i64 0)).setCell ⟨pa, 0, none⟩ (.int .i64 0)).heap[pa]? = some (.cells #[.int .i64 0] 3 (0, 0)) := by simpa using blk_set HA2 0 (.int .i64 0)
    have HG3 : ((w1.setCell ⟨pe, 0, none⟩ (.int .i64 0)).setCell ⟨pa, 0, none⟩ (.int .i64 0)).heap[g]? = w1.heap[g]? := (Below.heap_setCell _ ⟨pa, 0, none⟩ _ g (show g ≠ pa by omega)).trans (Below.heap_setCell w1 ⟨pe, 0, none⟩ _ g (show g ≠ pe by omega))
    have HBB : Below p w ((w1.setCell ⟨pe, 0, none⟩ (.int .i64 0)).setCell ⟨pa, 0, none⟩ (.int .i64 0)) := (((hq.1 ▸ HB.out : Below p w wa).trans (hb.mono (by omega))).setCell (by show p ≤ pe; omega) _).setCell (by show p ≤ pa; omega) _
    have hsz3 : g < ((w1.setCell ⟨pe, 0, none⟩ (.int .i64 0)).setCell ⟨pa, 0, none⟩ (.int .i64 0)).heap.size := by simpa [World.setCell] using hgl
    have HT : Aside0 (∀ i t, ts[i]? = some t → ((w1.setCell ⟨pe, 0, none⟩ (.int .i64 0)).setCell ⟨pa, 0, none⟩ (.int .i64 0)).cell? ⟨g, 0 + 3 * i, none⟩ = some (.int .i64 t.kind) ∧ ((w1.setCell ⟨pe, 0, none⟩ (.int .i64 0)).setCell ⟨pa, 0, none⟩ (.int .i64 0)).cell? ⟨g, 0 + 3 * i + 1, none⟩ = some (.string (B t.text)) ∧ ((w1.setCell ⟨pe, 0, none⟩ (.int .i64 0)).setCell ⟨pa, 0, none⟩ (.int .i64 0)).cell? ⟨g, 0 + 3 * i + 2, none⟩ = some (.int .i64 t.at_)) :=
      ⟨fun i t ht => by
        obtain ⟨a1, a2, a3⟩ := htoks i t ht
        exact ⟨(World.cell?_of_block (a := ⟨g, _, none⟩) HG3).trans a1, (World.cell?_of_block (a := ⟨g, _, none⟩) HG3).trans a2, (World.cell?_of_block (a := ⟨g, _, none⟩) HG3).trans a3⟩⟩
    have H3 := Aside0.mk (And.intro HP3 (And.intro HE3 (And.intro HA3 (And.intro HBB hsz3))))
    have HCAP : Aside0 (ts.length ≤ c ∧ ts.length ≤ 4096 ∧ EndsT ts) := ⟨hcap, by omega, hends⟩
    have HG : Aside0 (pa < g) := ⟨by omega⟩
    have d0 := blk_cell HE1 0
    have d1 := blk_frozen HE1 0
    have d2 := blk_cell HA2 0
    have d3 := blk_frozen HA2 0
    clear hq HP1 HE1 HA1 HA2 HE2 HP2 HE3 HP3 HA3 HG3 HBB hb hR hends hgb hgl hcap htoks hsm hsz3
    go_upto_region 2 with (fail)
    obtain ⟨w3, hw3⟩ : ∃ w3, (w1.setCell ⟨pe, 0, none⟩ (.int .i64 0)).setCell ⟨pa, 0, none⟩ (.int .i64 0) = w3 := ⟨_, rfl⟩
    rw [hw3] at H3 HT ⊢
    clear hw3 d0 d1 d2 d3
    have hlt1 : p < pe := by have := HQ.out; omega
    have hlt2 : pe < pa := by have := HQ.out; omega
    have d0 := blk_cell H3.out.2.1 0
    clear hpe hpa hpp
    go_wp2_with fail
    obtain ⟨HP3, HE3, HA3, HB3, hg3⟩ := H3.out
    obtain ⟨hcap, hsm, hends⟩ := HCAP.out
    have hsz3 : w3.heap.size ≠ g := by omega
    have HX : Sx w3 (w3.alloc (.cells #[.slice (some ⟨g, 0, none⟩) ts.length c, .int .i64 0] 103)) w3.heap.size g ts 0 :=
      ⟨0, c, ⟨Nat.le_refl _, hK.out.go (HQ.out.1.symm ▸ HB3), below_alloc (Below.refl _ _) _, (Go.MapKept.heap_alloc w3 _).1, hcap, hsm, fun i t ht => by
        obtain ⟨a1, a2, a3⟩ := HT.out i t ht
        exact ⟨(World.cell?_alloc_lt _ _ _ (World.block_lt_of_cell? _ _ a1)).trans a1, (World.cell?_alloc_lt _ _ _ (World.block_lt_of_cell? _ _ a2)).trans a2, (World.cell?_alloc_lt _ _ _ (World.block_lt_of_cell? _ _ a3)).trans a3⟩, Ne.symm hsz3, hends⟩⟩
    have henter : ∀ args w, (callFunc 66 args).run Tryd.prog w = .ok (.enter 66 args) w := fun args w => enters_ Tryd.func66 (by kernel_rfl) rfl args w
    clear d0 hsz3 hcap hsm hends
    refine (schema_calls (3 * ts.length + 9) HX HS.out).mono ?_
    intro e wq he
    have hq := HQ.out
    have hg := HG.out
    have hp3 : p < w3.heap.size := blk_lt HP3
    have he3 : pe < w3.heap.size := blk_lt HE3
    have ha3 : pa < w3.heap.size := blk_lt HA3
    cases res with
    | error er =>
      obtain ⟨en, pz⟩ := er
      obtain ⟨rfl, hb⟩ := he
      have HPq := (hb.block p hp3).trans HP3
      have HEq := (hb.block pe he3).trans HE3
      have HAq := (hb.block pa ha3).trans HA3
      have HBq : Below p w wq := HB3.trans (hb.mono (Nat.le_of_lt hp3))
      have HZ := Aside0.mk (And.intro HPq (And.intro HEq (And.intro HAq HBq)))
      clear HX HP3 HE3 HA3 HB3 H3 HT hb hq hg HPq HEq HAq HBq
      go_wp2
      obtain ⟨HPq, HEq, HAq, HBq⟩ := HZ.out
      refine leaves_cons (f := 66) (args := #[.pointer (some ⟨p, 0, none⟩), .pointer (some ⟨pe, 0, none⟩), .pointer (some ⟨pa, 0, none⟩)]) (by simp) (by simp [go_sem, invoke, henter]) ?_
      refine (catch_fault p pe pa en pz [] wq HPq HEq HAq hlt1 hlt2).mono ?_
      rintro e u' w'' ⟨rfl, rfl, c0, c1, c2, hb2⟩
      exact ⟨.tuple #[.agg #[.slice none 0 0], .int .i64 en, .int .i64 pz], by simp [results, Tryd.results33, go_sem, c0, c1, c2], rfl, HQ.out.1.symm ▸ HBq.trans hb2⟩
    | ok x =>
      obtain ⟨v, rfl, hv, hb, hf⟩ := he
      obtain ⟨A, cv, rfl⟩ := Kd.R_slice hv
      have HPq := (hb.block p hp3).trans HP3
      have HEq := (hb.block pe he3).trans HE3
      have HAq := (hb.block pa ha3).trans HA3
      have HBq : Below p w wq := HB3.trans (hb.mono (Nat.le_of_lt hp3))
      have hsq : (w3.alloc (.cells #[.slice (some ⟨g, 0, none⟩) ts.length c, .int .i64 0] 103)).heap.size = w3.heap.size + 1 := by simp
      rw [hsq] at hv
      have HV : Aside0 (k53.R 53 wq (pa + 1) (fun _ => True) (.slice A x.length cv) x) := ⟨Kd.R_lower hv (by omega)⟩
      clear HX HP3 HE3 HA3 HB3 H3 HT hb hq hg hv hf hsq
      have m0 := blk_cell HPq 0
      have f0 := blk_frozen HPq 0
      have HP5 : (wq.setCell ⟨p, 0, none⟩ (.slice A x.length cv)).heap[p]? = some (.cells #[.slice A x.length cv] 43 (0, 0)) := by simpa using blk_set HPq 0 (.slice A x.length cv)
      have HE5 := (Below.heap_setCell wq ⟨p, 0, none⟩ (.slice A x.length cv) pe (show pe ≠ p by omega)).trans HEq
      have HA5 := (Below.heap_setCell wq ⟨p, 0, none⟩ (.slice A x.length cv) pa (show pa ≠ p by omega)).trans HAq
      have m1 := blk_cell HE5 0
      have f1 := blk_frozen HE5 0
      have HE6 : ((wq.setCell ⟨p, 0, none⟩ (.slice A x.length cv)).setCell ⟨pe, 0, none⟩ (.int .i64 0)).heap[pe]? = some (.cells #[.int .i64 0] 24 (0, 0)) := by simpa using blk_set HE5 0 (.int .i64 0)
      have HP6 := (Below.heap_setCell (wq.setCell ⟨p, 0, none⟩ (.slice A x.length cv)) ⟨pe, 0, none⟩ (.int .i64 0) p (show p ≠ pe by omega)).trans HP5
      have HA6 := (Below.heap_setCell (wq.setCell ⟨p, 0, none⟩ (.slice A x.length cv)) ⟨pe, 0, none⟩ (.int .i64 0) pa (show pa ≠ pe by omega)).trans HA5
      have m2 := blk_cell HA6 0
      have f2 := blk_frozen HA6 0
      have HA7 : (((wq.setCell ⟨p, 0, none⟩ (.slice A x.length cv)).setCell ⟨pe, 0, none⟩ (.int .i64 0)).setCell ⟨pa, 0, none⟩ (.int .i64 0)).heap[pa]? = some (.cells #[.int .i64 0] 3 (0, 0)) := by simpa using blk_set HA6 0 (.int .i64 0)
      have HP7 := (Below.heap_setCell ((wq.setCell ⟨p, 0, none⟩ (.slice A x.length cv)).setCell ⟨pe, 0, none⟩ (.int .i64 0)) ⟨pa, 0, none⟩ (.int .i64 0) p (show p ≠ pa by omega)).trans HP6
      have HE7 := (Below.heap_setCell ((wq.setCell ⟨p, 0, none⟩ (.slice A x.length cv)).setCell ⟨pe, 0, none⟩ (.int .i64 0)) ⟨pa, 0, none⟩ (.int .i64 0) pe (show pe ≠ pa by omega)).trans HE6
      have HB7 : Below p w (((wq.setCell ⟨p, 0, none⟩ (.slice A x.length cv)).setCell ⟨pe, 0, none⟩ (.int .i64 0)).setCell ⟨pa, 0, none⟩ (.int .i64 0)) := ((HBq.setCell (Nat.le_refl _) _).setCell (by show p ≤ pe; omega) _).setCell (by show p ≤ pa; omega) _
      have HV7 : k53.R 53 (((wq.setCell ⟨p, 0, none⟩ (.slice A x.length cv)).setCell ⟨pe, 0, none⟩ (.int .i64 0)).setCell ⟨pa, 0, none⟩ (.int .i64 0)) (pa + 1) (fun _ => True) (.slice A x.length cv) x :=
        Kd.R_mono (Kd.R_far (p := ⟨pa, 0, none⟩) (Kd.R_far (p := ⟨pe, 0, none⟩) (Kd.R_far (p := ⟨p, 0, none⟩) (Kd.R_mono (Kd.R_bound HV.out) (fun k hk => (hk.2.1 : pa + 1 ≤ k))) (fun k hk => by show k ≠ p; omega) _) (fun k hk => by show k ≠ pe; omega) _) (fun k hk => by show k ≠ pa; omega) _) (fun _ _ => trivial)
      have HZ := Aside0.mk (And.intro HP7 (And.intro HE7 (And.intro HA7 (And.intro HB7 HV7))))
      clear HPq HEq HAq HBq HP5 HE5 HA5 HE6 HP6 HA6 HA7 HP7 HE7 HB7 HV7 HV
      go_wp2
      obtain ⟨HP7, HE7, HA7, HB7, HV7⟩ := HZ.out
      refine leaves_cons (f := 66) (args := #[.pointer (some ⟨p, 0, none⟩), .pointer (some ⟨pe, 0, none⟩), .pointer (some ⟨pa, 0, none⟩)]) (by simp) (by simp [go_sem, invoke, henter]) ?_
      generalize (((wq.setCell ⟨p, 0, none⟩ (.slice A x.length cv)).setCell ⟨pe, 0, none⟩ (.int .i64 0)).setCell ⟨pa, 0, none⟩ (.int .i64 0)) = wz at HP7 HE7 HA7 HB7 HV7 ⊢
      refine (catch_idle p pe pa wz).mono ?_
      rintro e u' w'' ⟨rfl, rfl, hb2⟩
      have c0 : w''.cell? ⟨p, 0, none⟩ = some (.slice A x.length cv) := blk_cell ((hb2.block p (blk_lt HP7)).trans HP7) 0
      have c1 : w''.cell? ⟨pe, 0, none⟩ = some (.int .i64 0) := blk_cell ((hb2.block pe (blk_lt HE7)).trans HE7) 0
      have c2 : w''.cell? ⟨pa, 0, none⟩ = some (.int .i64 0) := blk_cell ((hb2.block pa (blk_lt HA7)).trans HA7) 0
      have hq := HQ.out
      have hpz := blk_lt HP7
      exact ⟨.tuple #[.agg #[.slice A x.length cv], .int .i64 0, .int .i64 0], by simp [results, Tryd.results33, go_sem, c0, c1, c2], .slice A x.length cv, rfl, Kd.R_lower (Kd.R_below HV7 hb2) (by omega), hq.1.symm ▸ HB7.trans (hb2.mono (by omega))⟩
end Go.Proofs.YtkgnhghaiopgcaaDoor.Pw
