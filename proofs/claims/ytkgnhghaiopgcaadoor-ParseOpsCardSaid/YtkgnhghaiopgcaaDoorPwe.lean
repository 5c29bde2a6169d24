/- The walk of the reader's schema; no condition. -/
import Derived.Test.YtkgnhghaiopgcaaDoorPwd
set_option linter.unusedVariables false
set_option linter.unusedSimpArgs false
namespace Go.Proofs.YtkgnhghaiopgcaaDoor.Pw
open Go.RowKit Go.Maps Go.Proofs.YtkgnhghaiopgcaaDoorW.PrintWords Go.Proofs.YtkgnhghaiopgcaaDoorW.PrintLast Go.Proofs.YtkgnhghaiopgcaaDoor.X Go.Proofs.YtkgnhghaiopgcaaDoor.Kx Go.Proofs.YtkgnhghaiopgcaaDoor.Gl Go.Proofs.YtkgnhghaiopgcaaDoor.GlFn Go.Proofs.YtkgnhghaiopgcaaDoor.Tk Go.Proofs.YtkgnhghaiopgcaaDoor.Ps

def finT (x : List ST × List Tok) : Option (Except Er (List ST)) :=
  match x.2 with
    | [] => some (.error (30, 0))
    | t :: _ => if t.kind = 3 then some (.ok x.1) else some (.error (30, t.at_))
theorem schemaT_fin (k : Nat) (ts : List Tok) : schemaT k ts = bnd (typesL k [] ts) finT := rfl
theorem bnd_assoc {α β γ : Type} (x : Option (Except Er α)) (f : α → Option (Except Er β)) (g : β → Option (Except Er γ)) : bnd (bnd x f) g = bnd x (fun a => bnd (f a) g) := by
  cases x with
  | none => rfl
  | some y => cases y <;> rfl
theorem bnd_some_ok {α β : Type} (a : α) (f : α → Option (Except Er β)) : bnd (some (.ok a)) f = f a := rfl
theorem subsL_len : ∀ (k : Nat) (acc : List SS) (ts : List Tok) (x : List SS × List Tok), subsL k acc ts = some (.ok x) → x.2.length ≤ ts.length
  | 0, _, _, _, h => absurd h (by simp [subsL])
  | k + 1, acc, ts, x, h => by
    rw [subsL] at h
    obtain ⟨y, h1, h2⟩ := bnd_ok h
    have h3 : y.2.length ≤ ts.length := by
      have h1 := Option.some.inj h1
      unfold subT at h1
      cases hn : nameT ts with
      | error e => rw [hn] at h1; exact absurd h1 (by simp)
      | ok a =>
        obtain ⟨n, r⟩ := a
        have l1 := nameT_len hn
        rw [hn] at h1
        dsimp only at h1
        split at h1
        · rename_i hh
          have l2 := isT_len hh
          cases hn2 : nameT r.tail with
          | error e => rw [hn2] at h1; exact absurd h1 (by simp)
          | ok a2 =>
            obtain ⟨n2, r2⟩ := a2
            have l3 := nameT_len hn2
            rw [hn2] at h1
            simp only [Except.ok.injEq] at h1
            subst h1
            show r2.length ≤ _
            omega
        · simp only [Except.ok.injEq] at h1
          subst h1
          show r.length ≤ _
          omega
    split at h2
    · rename_i hh
      have := subsL_len k _ _ _ h2
      have := isT_len hh
      omega
    · obtain rfl := Except.ok.inj (Option.some.inj h2)
      exact h3
theorem relT_len {k : Nat} {ts : List Tok} {x : SR × List Tok} (h : relT k ts = some (.ok x)) : x.2.length + 1 ≤ ts.length := by
  unfold relT at h
  obtain ⟨a, h1, h⟩ := bnd_ok h
  obtain ⟨t2, h2, h⟩ := bnd_ok h
  obtain ⟨b, h3, h⟩ := bnd_ok h
  obtain ⟨t4, h4, h⟩ := bnd_ok h
  obtain ⟨c, h5, h⟩ := bnd_ok h
  obtain ⟨t6, h6, h⟩ := bnd_ok h
  obtain ⟨d, h7, h⟩ := bnd_ok h
  obtain ⟨t8, h8, h⟩ := bnd_ok h
  obtain ⟨t9, h9, h⟩ := bnd_ok h
  obtain ⟨su, h10, h⟩ := bnd_ok h
  obtain ⟨ops, h11, h⟩ := bnd_ok h
  obtain ⟨t12, h12, h⟩ := bnd_ok h
  obtain rfl := Except.ok.inj (Option.some.inj h)
  have l1 := nameT_len (Option.some.inj h1)
  have l2 := needT_len (Option.some.inj h2)
  have l3 := nameT_len (Option.some.inj h3)
  have l4 := needT_len (Option.some.inj h4)
  have l5 := nameT_len (Option.some.inj h5)
  have l6 := needT_len (Option.some.inj h6)
  have l7 := nameT_len (Option.some.inj h7)
  have l8 := needT_len (Option.some.inj h8)
  have l9 := needT_len (Option.some.inj h9)
  have l12 := needT_len (Option.some.inj h12)
  have l10 : su.2.length ≤ t9.length := by
    split at h10
    · exact subsL_len _ _ _ _ h10
    · obtain rfl := Except.ok.inj (Option.some.inj h10)
      exact Nat.le_refl _
  have l11 : ops.2.length ≤ su.2.length := by
    split at h11
    · rename_i hh
      have l := (sizes k).2.1 _ _ _ _ h11
      have := isT_len hh
      omega
    · obtain rfl := Except.ok.inj (Option.some.inj h11)
      exact Nat.le_refl _
  show t12.length + 1 ≤ _
  omega
theorem row_b {α : Type} {d : Kd α} {t : Nat} {w w' : World} {base b m : Nat} {v : Value} {xs : List α} (h : d.R t w base (fun k => k < m) v xs) (hf : Fr b w.heap.size w w') (hb : b < base) : d.R t w' base (fun k => k < m) v xs :=
  Kd.R_mono (Kd.R_step (Kd.R_bound h) (fun k ho hk => hf.block k hk (by have := ho.2.1; omega))) (fun k hk => hk.1)
theorem row_t {α : Type} {d : Kd α} {t : Nat} {w w' : World} {base b : Nat} {v : Value} {xs : List α} (h : d.R t w base (fun _ => True) v xs) (hf : Fr b w.heap.size w w') (hb : b < base) : d.R t w' base (fun _ => True) v xs :=
  Kd.R_mono (Kd.R_step (Kd.R_bound h) (fun k ho hk => hf.block k hk (by have := ho.2.1; omega))) (fun _ _ => trivial)
theorem row_lt {α : Type} {d : Kd α} {t : Nat} {w : World} {base m : Nat} {v : Value} {xs : List α} (h : d.R t w base (fun _ => True) v xs) (hm : w.heap.size ≤ m) : d.R t w base (fun k => k < m) v xs :=
  Kd.R_mono (Kd.R_bound h) (fun k hk => by have := hk.2.2.1; omega)
theorem row_any {α : Type} {d : Kd α} {t : Nat} {w : World} {base m : Nat} {v : Value} {xs : List α} (h : d.R t w base (fun k => k < m) v xs) : d.R t w base (fun _ => True) v xs :=
  Kd.R_mono h (fun _ _ => trivial)
theorem row_setr {α : Type} {d : Kd α} {t : Nat} {w : World} {base q : Nat} {v : Value} {xs : List α} (h : d.R t w base (fun _ => True) v xs) (hq : q < base) (cs : Array Value) : d.R t (w.setRow q cs) base (fun _ => True) v xs :=
  Kd.R_mono (Kd.R_step (w1 := w.setRow q cs) (Kd.R_bound h) (fun k ho hk => setRow_other w q k cs (by have := ho.2.1; omega))) (fun _ _ => trivial)
def SchPost (w0 w : World) (b : Nat) (x : List ST) (e : Ending) (w' : World) : Prop :=
  ∃ v, e = .returned (.agg #[v]) ∧ k53.R 53 w' w.heap.size (fun _ => True) v x ∧ Below w0.heap.size w0 w' ∧ Fr b w.heap.size w w'
theorem row43 : (Tryd.prog.underlying 43).map TypeDesc.isRow = some true := by kernel_rfl
theorem size43 : (Tryd.prog.info? 43).map (·.size) = some 1 := by
  have := info43
  cases h : Tryd.prog.info? 43 with
  | none => rw [h] at this; exact absurd this (by simp)
  | some i => rw [h] at this; simp at this ⊢; exact this.2.1
theorem goesQ_ {P : Program} {ops : Array Oper} {Q : Exit → Act → World → Prop} {oi : Oper} {N : Option Tmp} {a : Act} {w : World} {K : Act → World → Prop} {f : FuncId} {fn : Func} {xs : Array Operand} {ts : Array TypeId} (hf : P.funcs[f]? = some fn) (hname : (fn.name == "runtime.NumGoroutine") = false) (hb : fn.body.isSome = true) (args : Array Value)
    (hw : Region.wanted oi (yielded ops a.tmps) = true) (hN : oi.dst = N) (hop : oi.op = .call { callee := .value (.func f), args := xs, argTypes := ts }) (hargs : xs.map a.eval = args)
    (h : Calls P f args w fun e w' => (∃ v, e = .returned v ∧ K (a.put N v) w') ∨ ∃ c, e = .panicked c ∧ Q (.panic c) a w') : if Region.wanted oi (yielded ops a.tmps) = true then Oper.wp P oi a w K Q else K (a.put N undef) w := by
  rw [if_pos hw]
  have he := enters_ hf hname hb args w
  have hrun : (execOp a.eval oi).run P w = .ok (.enter f args) w := by
    unfold execOp
    simp [hop, resolve, Deferred.ofValue, invoke, Act.eval, hargs, he]
  unfold Oper.wp
  rw [hrun, Oper.upon_enter]
  refine h.mono fun e w'' hh => ?_
  subst hN
  rcases hh with ⟨v, rfl, hk⟩ | ⟨c, rfl, hk⟩
  · exact hk
  · exact hk

set_option maxHeartbeats 8000000 in
set_option maxRecDepth 100000 in
theorem schema_calls (k : Nat) {w0 w : World} {b g : Nat} {ts : List Tok} {res : Except Er (List ST)} (h : Sx w0 w b g ts 0) (hp : schemaT k ts = some res) :
    Calls Tryd.prog 67 #[.pointer (some ⟨b, 0, none⟩)] w (EndX res (SchPost w0 w b) w0) := by
  rw [schemaT_fin] at hp
  have HP := Aside0.mk hp
  have HL := Aside0.mk h.lt
  have HSM : Aside0 (([] : List ST).length + ts.length ≤ 4096) := ⟨by simpa using h.small⟩
  have hX1 := h.below (below_alloc (Below.refl _ _) (.cells #[.slice none 0 0] 43))
  have hX2 := hX1.below (below_alloc (Below.refl _ _) (.cells #[.slice none 0 0] 43))
  have h1 : (w.alloc (.cells #[.slice none 0 0] 43)).heap.size = w.heap.size + 1 := by simp
  have hF : Fr b w.heap.size w ((w.alloc (.cells #[.slice none 0 0] 43)).alloc (.cells #[.slice none 0 0] 43)) :=
    ((Fr.refl b w.heap.size w).alloc (Nat.le_refl _) _).alloc (by rw [h1]; omega) _
  have hB : ((w.alloc (.cells #[.slice none 0 0] 43)).alloc (.cells #[.slice none 0 0] 43)).heap[w.heap.size + 1]? = some (.cells #[.slice none 0 0] 43 (0, 0)) := by
    have := (Go.MapKept.heap_alloc (w.alloc (.cells #[.slice none 0 0] 43)) (.cells #[.slice none 0 0] 43)).1
    rwa [h1] at this
  have hC : ((w.alloc (.cells #[.slice none 0 0] 43)).alloc (.cells #[.slice none 0 0] 43)).heap[w.heap.size]? = some (.cells #[.slice none 0 0] 43 (0, 0)) := by
    rw [Below.heap_alloc _ _ _ (by rw [h1]; omega)]
    exact (Go.MapKept.heap_alloc w _).1
  obtain ⟨wa, hwa⟩ : ∃ wa, ((w.alloc (.cells #[.slice none 0 0] 43)).alloc (.cells #[.slice none 0 0] 43)) = wa := ⟨_, rfl⟩
  rw [hwa] at hX2 hF hB hC
  have HW := Aside0.mk hwa
  have HX := Aside0.mk hX2
  have HF := Aside0.mk hF
  have HB := Aside0.mk hB
  have HC := Aside0.mk hC
  clear hX1 hX2 hF hB hC h1 hwa h hp
  go_enter Tryd.func67, Tryd.ntmps67
  go_wp2_with fail
  rw [HW.out]
  clear HW
  obtain ⟨p, hp⟩ : ∃ p, w.heap.size = p := ⟨_, rfl⟩
  obtain ⟨q, hq⟩ : ∃ q, w.heap.size + 1 = q := ⟨_, rfl⟩
  rw [hq] at HB ⊢
  rw [hp] at HC
  rw [hp]
  have HQ : Aside0 (b < p ∧ g < p ∧ w0.heap.size ≤ p ∧ p < q ∧ w.heap.size = p) := ⟨by have := HL.out; omega⟩
  clear hp hq
  go_loopg [] k (fun kq wr => ∃ (acc : List ST) (ts : List Tok) (v : Value), Aside0 (bnd (typesL kq acc ts) finT = some res) ∧ Aside0 (k53.R 53 wr (q + 1) (fun _ => True) v acc) ∧ Aside0 (Sx w0 wr b g ts 0) ∧ Aside0 (Fr b w.heap.size w wr) ∧ Aside0 (wr.heap[q]? = some (.cells #[v] 43 (0, 0))) ∧ Aside0 (wr.heap[p]? = some (.cells #[.slice none 0 0] 43 (0, 0))) ∧ Aside0 (acc.length + ts.length ≤ 4096))
  case atStart => exact ⟨[], ts, _, HP, ⟨Kd.R_nil _ _ _ _ _⟩, HX, HF, HB, HC, HSM⟩
  case round =>
    clear HP HX HF HB HC HSM
    obtain ⟨acc, ts1, v, HA, HV, HX, HF, HB, HC, HSM⟩ := hrel
    rename World => wr
    cases gk with
    | zero => exact absurd HA.out (by simp [typesL, bnd])
    | succ k1 =>
      have ha := HA.out
      rw [typesL] at ha
      have HA1 := Aside0.mk ha
      clear HA ha
      go_wp2_with fail
      refine (pass_calls HX.out ⟨#[116, 121, 112, 101]⟩ sType rfl (by decide)).mono ?_
      rintro e w1 ⟨rfl, hx, hf⟩
      have hl := HQ.out
      have HF1 := Aside0.mk (fr_then HF.out hf)
      have HB1 : Aside0 (w1.heap[q]? = some (.cells #[v] 43 (0, 0))) := ⟨(hf.block q (blk_lt HB.out) (by omega)).trans HB.out⟩
      have HC1 : Aside0 (w1.heap[p]? = some (.cells #[.slice none 0 0] 43 (0, 0))) := ⟨(hf.block p (blk_lt HC.out) (by omega)).trans HC.out⟩
      have HV1 := Aside0.mk (row_t HV.out hf (by omega))
      have HXx := Aside0.mk hx
      clear hx hf hl HX HF HB HC HV
      cases hh : isT sType ts1 with
      | false =>
        have HX1 : Aside0 (Sx w0 w1 b g ts1 0) := ⟨by have := HXx.out; unfold goT at this; rwa [if_neg (by rw [hh]; decide)] at this⟩
        have hfin : finT (acc, ts1) = some res := by
          have := HA1.out
          rw [if_neg (by rw [hh]; decide)] at this
          exact this
        clear hh HXx HA1
        cases ts1 with
        | nil => obtain ⟨oo, cc, hs⟩ := HX1.out; exact absurd rfl hs.ends.ne
        | cons t r =>
          obtain ⟨oo, cc, hs⟩ := HX1.out
          have q0 := hs.c0
          obtain ⟨q1, q2, q3⟩ := hs.toks 0 t rfl
          simp only [Nat.mul_zero, Nat.add_zero] at q1 q2 q3
          have p1 : decide ((0 : Int) < (((t :: r).length : Nat) : Int)) = true := decide_eq_true (by simp only [List.length_cons]; omega)
          have p2 : ((0 : Int) < (((t :: r).length : Nat) : Int)) = True := eq_true (by simp only [List.length_cons]; omega)
          have p3 : decide (0 < (t :: r).length) = true := decide_eq_true (by simp)
          have p4 : 0 < (t :: r).length := by simp
          clear hs
          by_cases e2 : t.kind = 3
          · have t2 : (t.kind != 3) = false := by simp [e2]
            have t3 : (t.kind == 3) = true := beq_iff_eq.mpr e2
            have hr : res = .ok acc := by
              unfold finT at hfin
              dsimp only at hfin
              rw [if_pos e2] at hfin
              exact (Option.some.inj hfin).symm
            subst hr
            clear hfin e2
            generalize (t :: r).length = n at q0 p1 p2 p3 p4
            go_upto_region 11 with (fail)
            clear q0 q1 q2 q3 p1 p2 p3 p4 t2 t3
            have hl := HQ.out
            have HBe : Aside0 (Below w0.heap.size w0 (w1.setRow p #[v])) := ⟨by obtain ⟨oo, cc, hs⟩ := HX1.out; exact below_setRow hs.bel (by omega) _⟩
            have HFe : Aside0 (Fr b w.heap.size w (w1.setRow p #[v])) := ⟨fr_setRow HF1.out (by omega) _⟩
            have HVe := Aside0.mk (row_setr (q := p) HV1.out (by omega) #[v])
            have HCe := setRow_heap w1 p #[.slice none 0 0] #[v] 43 (0, 0) HC1.out
            have h1c : (#[v] : Array Value).all (·.oneCell') = true := by obtain ⟨A, c, rfl⟩ := Kd.R_slice HV1.out; simp [Value.oneCell']
            refine wp_region_lit ?_
            refine wpList_load_row rfl 43 (.tmp 3) rfl q rfl _ _ _ HB1.out row43 size43 ?_
            refine wpList_store_row rfl 43 (.tmp 2) (.tmp 39) rfl p #[.slice none 0 0] #[v] 43 rfl rfl HC1.out size43 rfl h1c ?_
            have r0 := blk_cell HCe 0
            obtain ⟨wz, hwz⟩ : ∃ wz, w1.setRow p #[v] = wz := ⟨_, rfl⟩
            rw [hwz] at HBe HFe HVe r0 ⊢
            clear HCe HB1 HC1 HX1 HF1 HV1 hl hwz h1c
            go_wp2
            exact bodyPost_ret (v := .agg #[v]) (by simp [results, Tryd.results67, go_sem, r0]) rfl ⟨_, rfl, Kd.R_lower HVe.out (by have := HQ.out; omega), HBe.out, HFe.out⟩
          · have t2 : (t.kind != 3) = true := by simp [e2]
            have t3 : (t.kind == 3) = false := beq_eq_false_iff_ne.mpr e2
            have hr : res = .error (30, t.at_) := by
              unfold finT at hfin
              dsimp only at hfin
              rw [if_neg e2] at hfin
              exact (Option.some.inj hfin).symm
            subst hr
            clear hfin e2
            generalize (t :: r).length = n at q0 p1 p2 p3 p4
            go_wp2_with fail
            refine (fail_calls HX1.out 30).mono ?_
            rintro e wz ⟨rfl, hb⟩
            go_wp2
            exact ⟨rfl, rfl, hb⟩
      | true =>
        have HX2 : Aside0 (Sx w0 w1 b g ts1.tail 0) := ⟨by have := HXx.out; unfold goT at this; rwa [if_pos hh] at this⟩
        have ha2 := HA1.out
        rw [if_pos hh] at ha2
        unfold typeT at ha2
        simp only [bnd_assoc, bnd_some_ok] at ha2
        have HA2 := Aside0.mk ha2
        have HLT := Aside0.mk (isT_len hh)
        clear ha2 hh HXx HA1
        rcases bnd_some HA2.out with ⟨er, h1, rfl⟩ | ⟨nm, h1, h2⟩
        · injection h1 with h1
          have HE := Aside0.mk h1
          clear h1
          go_wp2_with fail
          refine (name_calls HX2.out).mono ?_
          intro e wz he
          rw [HE.out] at he
          obtain ⟨en, pz⟩ := er
          obtain ⟨rfl, hb⟩ := he
          go_wp2
          exact ⟨rfl, rfl, hb⟩
        injection h1 with h1
        have HE := Aside0.mk h1
        have HA3 := Aside0.mk h2
        clear h1 h2 HA2
        go_wp2_with fail
        refine (name_calls HX2.out).mono ?_
        intro e w2 he
        rw [HE.out] at he
        obtain ⟨rfl, hx, hf⟩ := he
        have hl := HQ.out
        have HF2 := Aside0.mk (fr_then HF1.out hf)
        have HB2 : Aside0 (w2.heap[q]? = some (.cells #[v] 43 (0, 0))) := ⟨(hf.block q (blk_lt HB1.out) (by omega)).trans HB1.out⟩
        have HC2 : Aside0 (w2.heap[p]? = some (.cells #[.slice none 0 0] 43 (0, 0))) := ⟨(hf.block p (blk_lt HC1.out) (by omega)).trans HC1.out⟩
        have HV2 := Aside0.mk (row_t HV1.out hf (by omega))
        have HLN := Aside0.mk (nameT_len HE.out)
        have hq2 := blk_lt HB2.out
        have HX3 : Aside0 (Sx w0 (w2.alloc (.cells #[.string nm.1, .slice none 0 0] 53)) b g nm.2 0) := ⟨hx.below (below_alloc (Below.refl _ _) _)⟩
        have HF3 : Aside0 (Fr b w.heap.size w (w2.alloc (.cells #[.string nm.1, .slice none 0 0] 53))) := ⟨HF2.out.alloc HF2.out.size _⟩
        have HB3 : Aside0 ((w2.alloc (.cells #[.string nm.1, .slice none 0 0] 53)).heap[q]? = some (.cells #[v] 43 (0, 0))) := ⟨by rw [Below.heap_alloc _ _ _ hq2]; exact HB2.out⟩
        have HC3 : Aside0 ((w2.alloc (.cells #[.string nm.1, .slice none 0 0] 53)).heap[p]? = some (.cells #[.slice none 0 0] 43 (0, 0))) := ⟨by rw [Below.heap_alloc _ _ _ (by omega)]; exact HC2.out⟩
        have HV3 : Aside0 (k53.R 53 (w2.alloc (.cells #[.string nm.1, .slice none 0 0] 53)) (q + 1) (fun k => k < w2.heap.size) v acc) := ⟨Kd.R_alloc (row_lt HV2.out (Nat.le_refl _)) _⟩
        have HR3 : Aside0 ((w2.alloc (.cells #[.string nm.1, .slice none 0 0] 53)).heap[w2.heap.size]? = some (.cells #[.string nm.1, .slice none 0 0] 53 (0, 0))) := ⟨(Go.MapKept.heap_alloc w2 _).1⟩
        obtain ⟨r, hr⟩ : ∃ r, w2.heap.size = r := ⟨_, rfl⟩
        rw [hr] at HV3 HR3
        have HQ2 : Aside0 (q < r) := ⟨by omega⟩
        clear hx hf hl hq2 HX2 HF1 HF2 HB1 HB2 HC1 HC2 HV1 HV2 HE
        rcases bnd_some HA3.out with ⟨er, h1, rfl⟩ | ⟨t3, h1, h2⟩
        · injection h1 with h1
          have HE := Aside0.mk h1
          clear h1
          go_wp2_with fail
          refine (need_calls HX3.out ⟨#[123]⟩ [123] rfl (by decide)).mono ?_
          intro e wz he
          rw [HE.out] at he
          obtain ⟨en, pz⟩ := er
          obtain ⟨rfl, hb⟩ := he
          go_wp2
          exact ⟨rfl, rfl, hb⟩
        injection h1 with h1
        have HE := Aside0.mk h1
        have HA4 := Aside0.mk h2
        clear h1 h2 HA3
        go_wp2_with fail
        refine (need_calls HX3.out ⟨#[123]⟩ [123] rfl (by decide)).mono ?_
        intro e w4 he
        rw [HE.out] at he
        obtain ⟨rfl, hx, hf⟩ := he
        have hl := HQ.out
        have hl2 := HQ2.out
        have HX4 := Aside0.mk hx
        have HF4 := Aside0.mk (fr_then HF3.out hf)
        have HB4 : Aside0 (w4.heap[q]? = some (.cells #[v] 43 (0, 0))) := ⟨(hf.block q (blk_lt HB3.out) (by omega)).trans HB3.out⟩
        have HC4 : Aside0 (w4.heap[p]? = some (.cells #[.slice none 0 0] 43 (0, 0))) := ⟨(hf.block p (blk_lt HC3.out) (by omega)).trans HC3.out⟩
        have HR4 : Aside0 (w4.heap[r]? = some (.cells #[.string nm.1, .slice none 0 0] 53 (0, 0))) := ⟨(hf.block r (blk_lt HR3.out) (by omega)).trans HR3.out⟩
        have HV4 := Aside0.mk (row_b HV3.out hf (by omega))
        have HS4 : Aside0 (([] : List SR).length + t3.length ≤ ts1.length) := ⟨by have := needT_len HE.out; have := HLN.out; have := HLT.out; simp only [List.length_nil]; omega⟩
        obtain ⟨Fk, hFk⟩ : ∃ Fk : List SR × List Tok → Option (Except Er (List ST)), (fun l : List SR × List Tok => bnd (some (needT [125] l.2)) fun t4 => bnd (typesL k1 (acc ++ [(⟨nm.1, l.1⟩ : ST)]) t4) finT) = Fk := ⟨_, rfl⟩
        have HFK := Aside0.mk hFk
        have ha5 : bnd (relsL k1 [] t3) Fk = some res := by rw [← hFk]; exact HA4.out
        have HA5 := Aside0.mk ha5
        clear hx hf hl hl2 hr hFk ha5 HA4 HX3 HF3 HB3 HC3 HV3 HR3 HE HLN HLT
        go_wp2_with fail
        go_loopg [] k1 (fun kq wr => ∃ (ar : List SR) (ts : List Tok) (u : Value), Aside0 (bnd (relsL kq ar ts) Fk = some res) ∧ Aside0 (k57.R 57 wr (r + 1) (fun _ => True) u ar) ∧ Aside0 (k53.R 53 wr (q + 1) (fun k => k < r) v acc) ∧ Aside0 (Sx w0 wr b g ts 0) ∧ Aside0 (Fr b w.heap.size w wr) ∧ Aside0 (wr.heap[r]? = some (.cells #[.string nm.1, u] 53 (0, 0))) ∧ Aside0 (wr.heap[q]? = some (.cells #[v] 43 (0, 0))) ∧ Aside0 (wr.heap[p]? = some (.cells #[.slice none 0 0] 43 (0, 0))) ∧ Aside0 (ar.length + ts.length ≤ ts1.length))
        case atStart => exact ⟨[], t3, _, HA5, ⟨Kd.R_nil _ _ _ _ _⟩, HV4, HX4, HF4, HR4, HB4, HC4, HS4⟩
        case round =>
          clear HA5 HV4 HX4 HF4 HR4 HB4 HC4 HS4
          obtain ⟨ar, ts2, u, HA, HU, HV, HX, HF, HR, HB, HC, HS⟩ := hrel
          rename World => wi
          cases gk with
          | zero => exact absurd HA.out (by simp [relsL, bnd])
          | succ k2 =>
            have ha := HA.out
            rw [relsL] at ha
            have HA1 := Aside0.mk ha
            clear HA ha
            go_wp2_with fail
            refine (pass_calls HX.out ⟨#[114, 101, 108]⟩ sRel rfl (by decide)).mono ?_
            rintro e w5 ⟨rfl, hx, hf⟩
            have hl := HQ.out
            have hl2 := HQ2.out
            have HF5 := Aside0.mk (fr_then HF.out hf)
            have HB5 : Aside0 (w5.heap[q]? = some (.cells #[v] 43 (0, 0))) := ⟨(hf.block q (blk_lt HB.out) (by omega)).trans HB.out⟩
            have HC5 : Aside0 (w5.heap[p]? = some (.cells #[.slice none 0 0] 43 (0, 0))) := ⟨(hf.block p (blk_lt HC.out) (by omega)).trans HC.out⟩
            have HR5 : Aside0 (w5.heap[r]? = some (.cells #[.string nm.1, u] 53 (0, 0))) := ⟨(hf.block r (blk_lt HR.out) (by omega)).trans HR.out⟩
            have HV5 := Aside0.mk (row_b HV.out hf (by omega))
            have HU5 := Aside0.mk (row_t HU.out hf (by omega))
            have HXx := Aside0.mk hx
            clear hx hf hl hl2 HX HF HB HC HR HV HU
            cases hh : isT sRel ts2 with
            | false =>
              have HX5 : Aside0 (Sx w0 w5 b g ts2 0) := ⟨by have := HXx.out; unfold goT at this; rwa [if_neg (by rw [hh]; decide)] at this⟩
              have ha6 := HA1.out
              rw [if_neg (by rw [hh]; decide), bnd_some_ok, ← HFK.out] at ha6
              have HA6 := Aside0.mk ha6
              clear ha6 hh HXx HA1
              rcases bnd_some HA6.out with ⟨er, h1, rfl⟩ | ⟨t6, h1, h2⟩
              · injection h1 with h1
                have HE := Aside0.mk h1
                clear h1
                go_wp2_with fail
                refine (need_calls HX5.out ⟨#[125]⟩ [125] rfl (by decide)).mono ?_
                intro e wz he
                rw [HE.out] at he
                obtain ⟨en, pz⟩ := er
                obtain ⟨rfl, hb⟩ := he
                go_wp2
                exact ⟨rfl, rfl, hb⟩
              injection h1 with h1
              have HE := Aside0.mk h1
              have HA7 := Aside0.mk h2
              clear h1 h2 HA6
              go_wp2_with fail
              refine (need_calls HX5.out ⟨#[125]⟩ [125] rfl (by decide)).mono ?_
              intro e w6 he
              rw [HE.out] at he
              obtain ⟨rfl, hx, hf⟩ := he
              have hl := HQ.out
              have hl2 := HQ2.out
              have HX6 := Aside0.mk hx
              have HF6 := Aside0.mk (fr_then HF5.out hf)
              have HB6 : Aside0 (w6.heap[q]? = some (.cells #[v] 43 (0, 0))) := ⟨(hf.block q (blk_lt HB5.out) (by omega)).trans HB5.out⟩
              have HC6 : Aside0 (w6.heap[p]? = some (.cells #[.slice none 0 0] 43 (0, 0))) := ⟨(hf.block p (blk_lt HC5.out) (by omega)).trans HC5.out⟩
              have HR6 : Aside0 (w6.heap[r]? = some (.cells #[.string nm.1, u] 53 (0, 0))) := ⟨(hf.block r (blk_lt HR5.out) (by omega)).trans HR5.out⟩
              have HV6 := Aside0.mk (row_b HV5.out hf (by omega))
              have HU6 := Aside0.mk (row_t HU5.out hf (by omega))
              have HLN6 := Aside0.mk (needT_len HE.out)
              clear hx hf hl hl2 HX5 HF5 HB5 HC5 HR5 HV5 HU5 HE
              go_upto_region 8 with (fail)
              obtain ⟨Av, cv, rfl⟩ := Kd.R_slice HV6.out
              obtain ⟨Au, cu, rfl⟩ := Kd.R_slice HU6.out
              have j0 := blk_cell HB6.out 0
              have fz0 := blk_frozen HB6.out 0
              have j1 := blk_cell HR6.out 0
              have j2 := blk_cell HR6.out 1
              have HG : Aside0 (k57.R 57 w6 (q + 1) (fun k => r < k) (.slice Au ar.length cu) ar) := ⟨Kd.R_lower (Kd.R_mono (Kd.R_bound HU6.out) (fun k hk => by have := hk.2.1; omega)) (by have := HQ2.out; omega)⟩
              have HAV : Aside0 (k53.R 53 w6 (q + 1) (fun _ => True) (.slice Av acc.length cv) acc) := ⟨row_any HV6.out⟩
              have HOV : Aside0 (∀ k, r < k → True ∧ some k ≠ (Value.slice Av acc.length cv).ownBlock) := ⟨fun k hk => ⟨trivial, fun e => by have := HV6.out.1 k e.symm; omega⟩⟩
              have HSZ : Aside0 (q + 1 ≤ w6.heap.size) := ⟨blk_lt HB6.out⟩
              clear HU6
              go_wp2_with (first | ((with_reducible refine gate_builtin (b := .append) (xs := #[.tmp 24, .tmp 26]) rfl ?_); (try (refine gate_guard (by rfl) ?_; dsimp only)); at_builtin; go_must (refine Kd.R_append k53 (w0 := w6) (q + 1) rfl (.tmp 24) (.tmp 26) 41 53 (.agg #[(.string ⟨#[]⟩), (.slice none 0 0)]) 40 rfl Tryd.underlying41 info53 rfl (by decide) (by omega) (.slice Av acc.length cv) acc (⟨nm.1, ar⟩ : ST) [.string nm.1, .slice Au ar.length cu] (fun _ => True) (fun k => r < k) rfl rfl ?bP HOV.out (fun _ _ => trivial) HAV.out ?bB HSZ.out ?bL ?_); (case bP => exact k53_mkM _ _ _ (⟨nm.1, ar⟩ : ST) HG.out); (case bB => exact Below.refl _ _); (case bL => have := HSM.out; have := HLN6.out; have := HS.out; omega); intro v7 w7 ho7 hb7 hg7 hat7; obtain ⟨A7, c7, rfl⟩ := Kd.R_slice ho7; (obtain ⟨n7, hn7⟩ : ∃ n7, (acc ++ [(⟨nm.1, ar⟩ : ST)]).length = n7 := ⟨_, rfl⟩); rw [hn7] at ho7 ⊢; have hqq := hb7.block q (Nat.lt_succ_self q); have HB7 := Aside0.mk (hqq.trans HB6.out); have j7 := blk_cell HB7.out 0; have fz7 := blk_frozen HB7.out 0; have HO7 := Aside0.mk ho7; have HBL := Aside0.mk hb7; have HN7 := Aside0.mk hn7; clear ho7 hb7 hg7 hat7 hqq hn7 j0 fz0 j1 j2))
              go_roundg k1
              case measure => omega
              case rel =>
                have hl := HQ.out
                have hl2 := HQ2.out
                refine ⟨acc ++ [(⟨nm.1, ar⟩ : ST)], t6, .slice A7 n7 c7, HA7, ?_, ?_, ?_, ?_, ?_, ?_⟩
                · exact ⟨Kd.R_mono (Kd.R_far (p := ⟨q, 0, none⟩) (Kd.R_bound HO7.out) (fun k hk => by show k ≠ q; have := hk.2.1; omega) _) (fun _ _ => trivial)⟩
                · exact ⟨(HX6.out.belowB HBL.out (by omega) (by omega) (by omega)).set (by omega) (by omega) (by omega) _ _⟩
                · exact ⟨fr_setFar (HF6.out.trans (Fr.below_ (HBL.out.mono (by omega)))) (by omega) _ _⟩
                · exact ⟨by simpa using blk_set HB7.out 0 (.slice A7 n7 c7)⟩
                · exact ⟨(Below.heap_setCell w7 ⟨q, 0, none⟩ _ p (show p ≠ q by omega)).trans ((HBL.out.block p (by omega)).trans HC6.out)⟩
                · exact ⟨by have := HSM.out; have := HLN6.out; have := HS.out; simp only [List.length_append, List.length_cons, List.length_nil]; omega⟩
            | true =>
              have HX5 : Aside0 (Sx w0 w5 b g ts2.tail 0) := ⟨by have := HXx.out; unfold goT at this; rwa [if_pos hh] at this⟩
              have ha6 := HA1.out
              rw [if_pos hh, bnd_assoc] at ha6
              have HA6 := Aside0.mk ha6
              have HLT2 := Aside0.mk (isT_len hh)
              clear ha6 hh HXx HA1
              obtain ⟨Au, cu, rfl⟩ := Kd.R_slice HU5.out
              have HXd : Aside0 (Sx w0 w5.drew b g ts2.tail 0) := ⟨by obtain ⟨oo, cc, hs⟩ := HX5.out; exact ⟨oo, cc, hs.drewN 1⟩⟩
              have HFd : Aside0 (Fr b w.heap.size w w5.drew) := ⟨HF5.out.drew⟩
              have HBd : Aside0 (w5.drew.heap[q]? = some (.cells #[v] 43 (0, 0))) := ⟨HB5.out⟩
              have HCd : Aside0 (w5.drew.heap[p]? = some (.cells #[.slice none 0 0] 43 (0, 0))) := ⟨HC5.out⟩
              have HRd : Aside0 (w5.drew.heap[r]? = some (.cells #[.string nm.1, .slice Au ar.length cu] 53 (0, 0))) := ⟨HR5.out⟩
              have HVd := Aside0.mk (Kd.R_drew HV5.out)
              have HUd := Aside0.mk (Kd.R_drew HU5.out)
              clear HX5 HF5 HB5 HC5 HR5 HV5 HU5
              go_wp2_with fail
              refine start_ (n := 8) (S := fun w' => w'.cell? ⟨r, 1, none⟩ = some (.slice Au ar.length cu)) (ds := [5, 7]) #[false, false, false, false, false, false, false, false] (by kernel_rfl) rfl rfl (blk_cell HRd.out 1) (fun hHeld => ?_)
              generalize w5.drew = w6 at HXd HFd HBd HCd HRd HVd HUd hHeld ⊢
              refine pure_ (i := 0) (N := some 14) (v := ?_) (a' := ?_) #[true, false, false, false, false, false, false, false] rfl rfl (by kernel_rfl) (fun _ _ _ h => h) (Or.inl ⟨by rfl, ?_⟩) ?_ ?_
              rotate_left
              · intro w'
                go_simp
                with_reducible rfl
              rotate_left
              · simp only [Act.put, List.setIfInBounds_toArray, List.set_cons_zero, List.set_cons_succ, i64_w, i32_w]
                rfl
              refine pure_ (i := 2) (N := some 16) (v := ?_) (a' := ?_) #[true, false, true, false, false, false, false, false] rfl rfl (by kernel_rfl) (fun _ _ _ h => h) (Or.inl ⟨by rfl, ?_⟩) ?_ ?_
              rotate_left
              · intro w'
                go_simp
                with_reducible rfl
              rotate_left
              · simp only [Act.put, List.setIfInBounds_toArray, List.set_cons_zero, List.set_cons_succ, i64_w, i32_w]
                rfl
              refine take_ (i := 1) (N := some 15) (v := ?_) (a' := ?_) #[true, true, true, false, false, false, false, false] rfl rfl (by kernel_rfl) (fun _ _ _ h => h) (Or.inl ⟨by rfl, ?_⟩) hHeld ?_ ?_
              rotate_left
              · intro w' s0
                go_simp
                with_reducible rfl
              rotate_left
              · simp only [Act.put, List.setIfInBounds_toArray, List.set_cons_zero, List.set_cons_succ, i64_w, i32_w]
                rfl
              refine one_ (i := 3) (N := some 17) #[true, true, true, true, false, false, false, false] rfl rfl (by kernel_rfl) (by decide) (fun K hK => ?_)
              refine goesQ_ Tryd.func102 (by kernel_rfl) rfl #[.pointer (some ⟨b, 0, none⟩)] (by rfl) rfl rfl (by simp only [List.map_toArray, List.map_cons, List.map_nil]; rfl) ?_
              rcases bnd_some HA6.out with ⟨er, h1, rfl⟩ | ⟨y, h1, h2⟩
              · refine (rel_calls k2 HXd.out rfl h1).mono ?_
                intro e wz he
                obtain ⟨en, pz⟩ := er
                obtain ⟨rfl, hb⟩ := he
                exact .inr ⟨_, rfl, rfl, rfl, hb⟩
              have HA7 := Aside0.mk h2
              have HLR := Aside0.mk (relT_len h1)
              refine (rel_calls k2 HXd.out rfl h1).mono ?_
              rintro e w7 ⟨v4, v5, rfl, g4, g5, hx, hf⟩
              refine .inl ⟨_, rfl, ?_⟩
              obtain ⟨A4, c4, rfl⟩ := Kd.R_slice g4
              obtain ⟨A5, c5, rfl⟩ := Kd.R_slice g5
              have hl := HQ.out
              have hl2 := HQ2.out
              have HX7 := Aside0.mk hx
              have HF7 := Aside0.mk (fr_then HFd.out hf)
              have HB7 := Aside0.mk ((hf.block q (blk_lt HBd.out) (by omega)).trans HBd.out)
              have HC7 := Aside0.mk ((hf.block p (blk_lt HCd.out) (by omega)).trans HCd.out)
              have HR7 := Aside0.mk ((hf.block r (blk_lt HRd.out) (by omega)).trans HRd.out)
              have HV7 := Aside0.mk (row_b HVd.out hf (by omega))
              have HU7 := Aside0.mk (row_t HUd.out hf (by omega))
              have hr6 := blk_lt HRd.out
              have HG4 : Aside0 (k62.R 62 w7 (r + 1) (fun k => w6.heap.size ≤ k) (.slice A4 y.1.f4.length c4) y.1.f4) := ⟨Kd.R_lower (Kd.R_mono (Kd.R_bound g4) (fun k hk => hk.2.1)) (by omega)⟩
              have HG5 : Aside0 (k59.R 59 w7 (r + 1) (fun k => w6.heap.size ≤ k) (.slice A5 y.1.f5.length c5) y.1.f5) := ⟨Kd.R_lower (Kd.R_mono (Kd.R_bound g5) (fun k hk => hk.2.1)) (by omega)⟩
              have HOU : Aside0 (∀ k, w6.heap.size ≤ k → True ∧ some k ≠ (Value.slice Au ar.length cu).ownBlock) := ⟨fun k hk => ⟨trivial, fun e => by have := (row_lt HUd.out (Nat.le_refl _)).1 k e.symm; omega⟩⟩
              have HSZ : Aside0 (r + 1 ≤ w7.heap.size) := ⟨blk_lt HR7.out⟩
              clear g4 g5 hx hf hl hl2 hr6 h1 h2
              refine hK.out _ _ (blk_cell HR7.out 1) (fun hHeld => ?_)
              clear hK K
              refine norm_ (a' := ?_) ?_ ?_
              rotate_left
              · show Act.put _ (some 17) _ = _
                simp only [Act.put, List.setIfInBounds_toArray, List.set_cons_zero, List.set_cons_succ, i64_w, i32_w]
                rfl
              refine one_ (i := 4) (N := some 18) #[true, true, true, true, true, false, false, false] rfl rfl (by kernel_rfl) (by decide) (fun K hK => ?_)
              refine value_ (w1 := ?_) (v := ?_) (by rfl) rfl ?_ ?_
              rotate_left 2
              · go_simp
                constructor
                · rfl
                · rfl
              refine hK.out _ _ ((World.cell?_alloc_lt _ _ _ (World.block_lt_of_cell? _ _ (hHeld))).trans (hHeld)) (fun hHeld => ?_)
              clear hK K
              refine norm_ (a' := ?_) ?_ ?_
              rotate_left
              · show Act.put _ (some 18) _ = _
                simp only [Act.put, List.setIfInBounds_toArray, List.set_cons_zero, List.set_cons_succ, i64_w, i32_w]
                rfl
              refine last_ (i := 5) (N := some 19) #[true, true, true, true, true, true, false, false] rfl rfl (by kernel_rfl) (by decide) (fun K hK => ?_)
              refine Kd.R_append_step k57 (W := w7) (w0 := w7) (r + 1) (by rfl) (.tmp 15) (.tmp 18) 51 57 (.agg #[(.string ⟨#[]⟩), (.string ⟨#[]⟩), (.string ⟨#[]⟩), (.string ⟨#[]⟩), (.slice none 0 0), (.slice none 0 0)]) 112 (by rfl) Tryd.underlying51 info57 rfl (by decide) (by omega) (.slice Au ar.length cu) ar y.1 [.string y.1.f0, .string y.1.f1, .string y.1.f2, .string y.1.f3, .slice A4 y.1.f4.length c4, .slice A5 y.1.f5.length c5] (fun _ => True) (fun k => w6.heap.size ≤ k) (by rfl) (by rfl) (k57_mkM _ _ _ y.1 HG4.out HG5.out) HOU.out (fun _ _ => trivial) HU7.out (Below.refl _ _) HSZ.out (by have := HSM.out; have := HS.out; have := HLT2.out; omega) ?_
              intro v8 w8 ho8 hb8 hg8 hat8
              obtain ⟨A8, c8, rfl⟩ := Kd.R_slice ho8
              obtain ⟨n8, hn8⟩ : ∃ n8, (ar ++ [y.1]).length = n8 := ⟨_, rfl⟩
              rw [hn8] at ho8 ⊢
              have HR8 := Aside0.mk ((hb8.block r (Nat.lt_succ_self r)).trans HR7.out)
              have HO8 := Aside0.mk ho8
              have HBL := Aside0.mk hb8
              have j8 := blk_cell HR8.out 1
              have fz8 := blk_frozen HR8.out 1
              clear ho8 hb8 hg8 hat8 hn8 hHeld
              refine hK.out _ _ ?_
              clear hK K
              refine norm_ (a' := ?_) ?_ ?_
              rotate_left
              · show Act.put _ (some 19) _ = _
                simp only [Act.put, List.setIfInBounds_toArray, List.set_cons_zero, List.set_cons_succ, i64_w, i32_w]
                rfl
              refine pure_ (i := 6) (N := some 20) (v := ?_) (a' := ?_) #[true, true, true, true, true, true, true, false] rfl rfl (by kernel_rfl) (fun _ _ _ h => h) (Or.inl ⟨by rfl, ?_⟩) ?_ ?_
              rotate_left
              · intro w'
                go_simp
                with_reducible rfl
              rotate_left
              · simp only [Act.put, List.setIfInBounds_toArray, List.set_cons_zero, List.set_cons_succ, i64_w, i32_w]
                rfl
              refine last_ (i := 7) (N := none) #[true, true, true, true, true, true, true, true] rfl rfl (by kernel_rfl) (by decide) (fun K hK => ?_)
              refine skip_ (w1 := ?_) (by rfl) rfl ?_ ?_
              rotate_left
              · go_simp
                rfl
              refine hK.out _ _ ?_
              clear hK K
              refine done_ (by kernel_rfl) ?_
              go_wp2
              go_roundg k2
              case measure => omega
              case rel =>
                have hl := HQ.out
                have hl2 := HQ2.out
                refine ⟨ar ++ [y.1], y.2, .slice A8 n8 c8, HA7, ?_, ?_, ?_, ?_, ?_, ?_, ?_, ?_⟩
                · exact ⟨Kd.R_mono (Kd.R_far (p := ⟨r, 1, none⟩) (Kd.R_bound HO8.out) (fun k hk => by show k ≠ r; have := hk.2.1; omega) _) (fun _ _ => trivial)⟩
                · exact ⟨Kd.R_far (p := ⟨r, 1, none⟩) (Kd.R_step HV7.out (fun k ho hk => HBL.out.block k (by omega))) (fun k hk => by show k ≠ r; omega) _⟩
                · exact ⟨(HX7.out.belowB HBL.out (by omega) (by omega) (by omega)).set (by omega) (by omega) (by omega) _ _⟩
                · exact ⟨fr_setFar (HF7.out.trans (Fr.below_ (HBL.out.mono (by omega)))) (by omega) _ _⟩
                · exact ⟨by simpa using blk_set HR8.out 1 (.slice A8 n8 c8)⟩
                · exact ⟨(Below.heap_setCell w8 ⟨r, 1, none⟩ _ q (show q ≠ r by omega)).trans ((HBL.out.block q (by omega)).trans HB7.out)⟩
                · exact ⟨(Below.heap_setCell w8 ⟨r, 1, none⟩ _ p (show p ≠ r by omega)).trans ((HBL.out.block p (by omega)).trans HC7.out)⟩
                · exact ⟨by have := HS.out; have := HLT2.out; have := HLR.out; simp only [List.length_append, List.length_cons, List.length_nil]; omega⟩
end Go.Proofs.YtkgnhghaiopgcaaDoor.Pw
