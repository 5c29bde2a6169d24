/- For every input ParseTells returns true: the program's reader and the document's say the same. No condition. -/
import Derived.Test.YtkgnhghaiopgcaaDoorPa
import Derived.Test.YtkgnhghaiopgcaaDoorRz
import Derived.Test.YtkgnhghaiopgcaaDoorTk6
import Derived.Test.YtkgnhghaiopgcaaDoorO7
import Derived.Test.YtkgnhghaiopgcaaDoorSm
set_option linter.unusedVariables false
set_option linter.unusedSimpArgs false
namespace Go.Proofs.YtkgnhghaiopgcaaDoor.Rw
open Go.RowKit Go.Maps Go.Proofs.YtkgnhghaiopgcaaDoorW.PrintWords Go.Proofs.YtkgnhghaiopgcaaDoorW.PrintLast Go.Proofs.YtkgnhghaiopgcaaDoor.X Go.Proofs.YtkgnhghaiopgcaaDoor.Kx Go.Proofs.YtkgnhghaiopgcaaDoor.Gl Go.Proofs.YtkgnhghaiopgcaaDoor.GlFn Go.Proofs.YtkgnhghaiopgcaaDoor.Tk Go.Proofs.YtkgnhghaiopgcaaDoor.Ps Go.Proofs.YtkgnhghaiopgcaaDoor.Pw Go.Proofs.YtkgnhghaiopgcaaDoor.Of Go.Proofs.YtkgnhghaiopgcaaDoor.Rq

def outX : Except Er (List ST) → List ST
  | .ok X => X
  | .error _ => []
def outE : Except Er (List ST) → Int
  | .ok _ => 0
  | .error e => e.1
def outA : Except Er (List ST) → Int
  | .ok _ => 0
  | .error e => e.2
theorem toK_eq : toK = TkRef.toR := rfl
theorem all_c (s : ByteArray) {ts : List Tok} (h : all (L s) = .ok ts) (w : World) : Calls Tryd.prog 26 #[.string s] w fun e w' => ∃ A c, e = .returned (.tuple #[.slice A ts.length c, .int .i64 0, .int .i64 0]) ∧ Kd.R k33 33 w' w.heap.size (fun _ => True) (.slice A ts.length c) (ts.map toK) ∧ Below w.heap.size w w' := by
  have e : Nq.doormanref06_All.f (11 * s.size + 30) s = some (ts.map toK, 0, 0) := by rw [TkRef.RAll_f s _ (.inl (Nat.le_refl _)), h, toK_eq]; rfl
  refine (Nq.doormanref06_All.calls _ s _ _ _ w e).mono ?_
  rintro e w' ⟨v, rfl, hR, hb⟩
  obtain ⟨A, c, rfl⟩ := Kd.R_slice hR
  rw [List.length_map] at hR ⊢
  exact ⟨A, c, rfl, hR, hb⟩
theorem all_e (s : ByteArray) {en : Int} {p : Nat} (h : all (L s) = .error (en, p)) (w : World) : Calls Tryd.prog 26 #[.string s] w fun e w' => ∃ A c, e = .returned (.tuple #[.slice A 0 c, .int .i64 en, .int .i64 p]) ∧ Below w.heap.size w w' := by
  have e : Nq.doormanref06_All.f (11 * s.size + 30) s = some ([], en, (p : Int)) := by rw [TkRef.RAll_f s _ (.inl (Nat.le_refl _)), h]; rfl
  refine (Nq.doormanref06_All.calls _ s _ _ _ w e).mono ?_
  rintro e w' ⟨v, rfl, hR, hb⟩
  obtain ⟨A, c, rfl⟩ := Kd.R_slice hR
  exact ⟨A, c, rfl, hb⟩
def RefP (w : World) (res : Except Er (List ST)) (e : Ending) (w' : World) : Prop :=
  ∃ A c, e = .returned (.tuple #[.slice A (outX res).length c, .int .i64 (outE res), .int .i64 (outA res)]) ∧ k74.R 74 w' w.heap.size (fun _ => True) (.slice A (outX res).length c) ((outX res).map toT) ∧ Below w.heap.size w w'
theorem post_out {w : World} {res : Except Er (List ST)} {e : Ending} {w' : World} (h : ParsePost w res e w') :
    ∃ A c, e = .returned (.tuple #[.agg #[.slice A (outX res).length c], .int .i64 (outE res), .int .i64 (outA res)]) ∧ k53.R 53 w' w.heap.size (fun _ => True) (.slice A (outX res).length c) (outX res) ∧ Below w.heap.size w w' := by
  cases res with
  | ok X =>
    obtain ⟨v, rfl, hr, hb⟩ := h
    obtain ⟨A, c, rfl⟩ := Kd.R_slice hr
    exact ⟨A, c, rfl, hr, hb⟩
  | error er =>
    obtain ⟨rfl, hb⟩ := h
    exact ⟨none, 0, rfl, Kd.R_nil _ _ _ _ _, hb⟩
set_option maxHeartbeats 4000000 in
set_option maxRecDepth 100000 in
theorem Parse_e (s : ByteArray) {en : Int} {p : Nat} (h : all (L s) = .error (en, p)) (w : World) : Calls Tryd.prog 34 #[.string s] w (RefP w (.error (en, p))) := by
  have hc := all_e s h w
  have hne : en ≠ 0 := by rcases TkKey.all_err_ne h with ⟨rfl, _⟩ | ⟨rfl, _⟩ | ⟨h1 | h1, _⟩ <;> first | decide | (rw [h1]; decide)
  have n1 : (en != 0) = true := bne_iff_ne.mpr hne
  have n2 : decide (en = 0) = false := decide_eq_false hne
  have n3 : (en = 0) = False := eq_false hne
  clear h hne
  go_enter Tryd.func34, Tryd.ntmps34
  go_wp2_with fail
  refine hc.mono ?_
  rintro e_ w1 ⟨A, c, rfl, hb⟩
  have HB := Aside0.mk hb
  clear hb hc
  go_wp2_with fail
  go_ret3
  exact ⟨none, 0, rfl, Kd.R_nil _ _ _ _ _, HB.out⟩
theorem ref_c (s : ByteArray) {res : Except Er (List ST)} (h : Ps.parse (L s) = some res) (w : World) : Calls Tryd.prog 34 #[.string s] w (RefP w res) := by
  unfold Ps.parse at h
  cases hall : all (L s) with
  | error er =>
    rw [hall] at h
    obtain rfl := Option.some.inj h
    exact Parse_e s hall w
  | ok ts =>
    rw [hall] at h
    obtain ⟨y, h1, h2⟩ := schema_up _ _ _ h (3 * ts.length + 9 + 1) (Nat.lt_succ_self _)
    have hl := (TkKey.all_len hall).1
    refine (Parse_c s w ts (all_ends hall) (by omega) _ y h1 (all_c s hall w)).mono ?_
    rintro e w' ⟨v, en, a, rfl, ho, he, hb⟩
    cases res with
    | ok X =>
      obtain ⟨h3, h4⟩ := h2
      obtain ⟨rfl, rfl, hr⟩ := ho h4
      rw [h3] at hr
      obtain ⟨A, c, rfl⟩ := Kd.R_slice hr
      rw [List.length_map] at hr ⊢
      exact ⟨A, c, rfl, hr, hb⟩
    | error er =>
      obtain ⟨e', a'⟩ := er
      obtain ⟨rfl, rfl, rfl⟩ := he e' a' h2
      exact ⟨none, 0, rfl, Kd.R_nil _ _ _ _ _, hb⟩
theorem out_small {l : List UInt8} {res : Except Er (List ST)} (h : Ps.parse l = some res) : Small (outX res) := by
  cases res with
  | ok X => exact parse_small h
  | error e => exact ⟨by show 0 * 40 ≤ _; omega, fun t ht => absurd ht (by simp [outX])⟩
end Go.Proofs.YtkgnhghaiopgcaaDoor.Rw
namespace Go.Proofs.YtkgnhghaiopgcaaDoor.Wk
open Go.RowKit Go.Maps Go.Proofs.YtkgnhghaiopgcaaDoorW.PrintWords Go.Proofs.YtkgnhghaiopgcaaDoorW.PrintLast Go.Proofs.YtkgnhghaiopgcaaDoor.X Go.Proofs.YtkgnhghaiopgcaaDoor.Kx Go.Proofs.YtkgnhghaiopgcaaDoor.Gl Go.Proofs.YtkgnhghaiopgcaaDoor.GlFn Go.Proofs.YtkgnhghaiopgcaaDoor.Tk Go.Proofs.YtkgnhghaiopgcaaDoor.Ps Go.Proofs.YtkgnhghaiopgcaaDoor.Pw Go.Proofs.YtkgnhghaiopgcaaDoor.Of Go.Proofs.YtkgnhghaiopgcaaDoor.Rq Go.Proofs.YtkgnhghaiopgcaaDoor.Rw

set_option maxHeartbeats 8000000 in
set_option maxRecDepth 100000 in
theorem ParseTells (a0 : ByteArray) (w : World) (hK : Aside0 (Aid.KeysIn w)) (w0 : a0.size ≤ 140737488351232) :
    Calls Tryd.prog 9 #[.string a0] w fun e w' => e = .returned (.bool true) ∧ Below w.heap.size w w' := by
  by_cases c1 : (a0.size : Int) > 2100
  · have d1 : decide ((2100 : Int) < (a0.size : Int)) = true := decide_eq_true c1
    have d2 : decide (2100 < a0.size) = true := decide_eq_true (by omega)
    clear c1
    go_enter Tryd.func9, Tryd.ntmps9
    go_wp2_with fail
    refine (Pu.awake_calls _ hK).mono ?_
    rintro e w2 ⟨rfl, hb⟩
    go_wp2
    go_ret
    exact ⟨rfl, hb⟩
  have d1 : decide ((2100 : Int) < (a0.size : Int)) = false := decide_eq_false c1
  have d2 : decide (2100 < a0.size) = false := decide_eq_false (by omega)
  obtain ⟨res, hres⟩ := Pv.parse_some (L a0)
  have HR := Aside0.mk hres
  have HSMALL := Aside0.mk (out_small hres)
  clear hres c1
  go_enter Tryd.func9, Tryd.ntmps9
  go_wp2_with fail
  refine (Pu.awake_calls _ hK).mono ?_
  rintro e w2 ⟨rfl, hb⟩
  have HB := Aside0.mk hb
  have HK2 : Aside0 (Aid.KeysIn w2) := ⟨hK.out.go hb⟩
  clear hb
  have hcall := Parse_calls a0 rfl HR.out w2 HK2
  have href := fun w => ref_c a0 HR.out w
  obtain ⟨en, hen⟩ : ∃ x, outE res = x := ⟨_, rfl⟩
  obtain ⟨at_, hat⟩ : ∃ x, outA res = x := ⟨_, rfl⟩
  obtain ⟨X, hX⟩ : ∃ x, outX res = x := ⟨_, rfl⟩
  have hc2 : Calls Tryd.prog 33 #[.string a0] w2 fun e w' => ∃ A c, e = .returned (.tuple #[.agg #[.slice A X.length c], .int .i64 en, .int .i64 at_]) ∧ k53.R 53 w' w2.heap.size (fun _ => True) (.slice A X.length c) X ∧ Below w2.heap.size w2 w' :=
    hcall.mono fun e w' h => by have := post_out h; rwa [hen, hat, hX] at this
  have hr2 : ∀ w, Calls Tryd.prog 34 #[.string a0] w fun e w' => ∃ A c, e = .returned (.tuple #[.slice A X.length c, .int .i64 en, .int .i64 at_]) ∧ k74.R 74 w' w.heap.size (fun _ => True) (.slice A X.length c) (X.map toT) ∧ Below w.heap.size w w' :=
    fun w => (href w).mono fun e w' h => by have h' := h; unfold RefP at h'; rwa [hen, hat, hX] at h'
  rw [hX] at HSMALL
  have HR2 := Aside0.mk hr2
  clear hcall href hen hat hX hr2 HR
  go_wp2_with fail
  refine hc2.mono ?_
  rintro e w3 ⟨A, c, rfl, hr, hb⟩
  have HC3 := Aside0.mk (Kd.R_reads' hr).2.2
  have HB3 := Aside0.mk (HB.out.trans (hb.mono HB.out.size))
  clear hr hb hc2 HB HK2
  obtain ⟨w4, e4, h4, b4, z4, k4⟩ := Rw.al1 w3 #[.slice A X.length c] 43
  obtain ⟨q, hq⟩ : ∃ q, w3.heap.size = q := ⟨_, rfl⟩
  have HB4 : Aside0 (Below w.heap.size w w4) := ⟨HB3.out.trans (b4.mono HB3.out.size)⟩
  have HC4 := Aside0.mk (Kd.C_below HC3.out b4)
  rw [hq] at h4
  have H4 := Aside0.mk h4
  have HW4 := Aside0.mk e4
  have HQ := Aside0.mk hq
  clear h4 e4 b4 z4 k4 hq HB3 HC3
  go_upto_region 7 with (fail)
  rw [HW4.out, HQ.out]
  clear HW4 HQ
  go_wp2_with fail
  refine (HR2.out w4).mono ?_
  rintro e w5 ⟨A1, c1, rfl, hr, hb⟩
  have HC5 := Aside0.mk (Kd.C_below HC4.out hb)
  have HB5 := Aside0.mk (HB4.out.trans (hb.mono HB4.out.size))
  have H5 := Aside0.mk ((hb.block q (blk_lt H4.out)).trans H4.out)
  have HD5 : Aside0 (Kd.C k74 w5 A1 (X.map toT).length (X.map toT)) := ⟨(Kd.R_reads' hr).2.2⟩
  clear hr hb HR2 HC4 HB4 H4
  have t0 := blk_cell H5.out 0
  go_wp2_with fail
  refine (O7.doormanlaw07_of.walk_ A c X w5 HC5.out HSMALL.out).mono ?_
  rintro e w6 ⟨v, rfl, hr, hb⟩
  obtain ⟨A2, c2, rfl⟩ := Kd.R_slice hr
  have HD6 := Aside0.mk (Kd.C_below HD5.out hb)
  have HE6 : Aside0 (Kd.C k74 w6 A2 (X.map toT).length (X.map toT)) := ⟨(Kd.R_reads' hr).2.2⟩
  have HB6 := Aside0.mk (HB5.out.trans (hb.mono HB5.out.size))
  have hsame := Sm.Same_c (X.map toT) A2 c2 A1 c1 w6 HE6.out HD6.out
  rw [List.length_map] at hsame ⊢
  clear hr hb HC5 HB5 H5 HD5 t0
  go_wp2_with fail
  refine hsame.mono ?_
  rintro e w7 ⟨rfl, hb⟩
  have HB7 := Aside0.mk (HB6.out.trans (hb.mono HB6.out.size))
  clear hb hsame HB6
  go_wp2
  go_ret
  exact ⟨rfl, HB7.out⟩
end Go.Proofs.YtkgnhghaiopgcaaDoor.Wk
