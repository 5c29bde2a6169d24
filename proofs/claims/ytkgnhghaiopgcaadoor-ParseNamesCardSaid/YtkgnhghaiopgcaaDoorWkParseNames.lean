/- For every row of texts ParseNames returns true: whatever names stand in a relation are told in their places; a key in place of any of them is refused, there. No condition. -/
import Derived.Test.YtkgnhghaiopgcaaDoorWkStr
import Derived.Test.YtkgnhghaiopgcaaDoorPu
import Derived.Test.YtkgnhghaiopgcaaDoorPq
import Derived.Deep.QuietTactic
import Derived.BigQuiet
set_option linter.unusedVariables false
set_option linter.unusedSimpArgs false
namespace Go.Proofs.YtkgnhghaiopgcaaDoor.Wk
open Go.RowKit Go.Maps Go.Proofs.YtkgnhghaiopgcaaDoorW.PrintWords Go.Proofs.YtkgnhghaiopgcaaDoorW.PrintLast Go.Proofs.YtkgnhghaiopgcaaDoor.X Go.Proofs.YtkgnhghaiopgcaaDoor.Kx Go.Proofs.YtkgnhghaiopgcaaDoor.Gl Go.Proofs.YtkgnhghaiopgcaaDoor.GlFn Go.Proofs.YtkgnhghaiopgcaaDoor.Tk Go.Proofs.YtkgnhghaiopgcaaDoor.Ps Go.Proofs.YtkgnhghaiopgcaaDoor.Pw Go.Proofs.YtkgnhghaiopgcaaDoor.Pn Go.Proofs.YtkgnhghaiopgcaaDoor.Pq

def okS (s : ByteArray) : Prop := s.size ≤ 96 ∧ name (L s) = true ∧ TkKey.key (L s) = false
theorem infoS : (Tryd.prog.info? 9).map (fun i => (i.zero, i.size, i.bytes)) = some (some (.string ⟨#[]⟩), 1, 16) := by kernel_rfl
theorem pick8 {z : List ByteArray} {k j : Nat} (hl : 8 ≤ z.length) (hk : k < 8) (hj : j < 8) (hg : okS (z.getD j ByteArray.empty)) {m : ByteArray} (hm : rdOf ByteArray.empty ((z.take 8).set k ⟨#[116, 121, 112, 101]⟩) (j : Int) = m) :
    (if k = j then m = ⟨#[116, 121, 112, 101]⟩ else name (L m) = true ∧ TkKey.key (L m) = false) ∧ m.size ≤ 96 := by
  unfold rdOf at hm
  rw [Int.toNat_natCast, List.getD_eq_getElem?_getD, List.getElem?_set] at hm
  split at hm
  · rename_i e
    rw [if_pos (by rw [List.length_take]; omega)] at hm
    obtain rfl : ⟨#[116, 121, 112, 101]⟩ = m := hm
    rw [if_pos e]
    exact ⟨rfl, by decide⟩
  · rename_i e
    rw [List.getElem?_take, if_pos hj, ← List.getD_eq_getElem?_getD] at hm
    subst hm
    rw [if_neg e]
    exact ⟨hg.2, hg.1⟩
theorem take8 {w : World} {a : Option Addr} {len cap : Nat} {z : List ByteArray} (h : StrRow w a len cap z) (hl : 8 ≤ len) : Kd.string.C w a 8 (z.take 8) := by
  refine ⟨by rw [List.length_take, h.hl]; omega, by omega, fun _ => ?_⟩
  obtain ⟨ad, e, _⟩ := h.cells 0 (by omega)
  refine ⟨ad, e, fun j p hj => ?_⟩
  have hlt : j < 8 := by have := (List.getElem?_eq_some_iff.1 hj).1; rw [List.length_take] at this; omega
  obtain ⟨ad', e', hc⟩ := h.cells j (by omega)
  obtain rfl := Option.some.inj (e.symm.trans e')
  rw [List.getElem?_take, if_pos hlt] at hj
  refine ⟨[.string p], rfl, rfl, fun i u hu => ?_⟩
  have hi : i = 0 := by have := (List.getElem?_eq_some_iff.1 hu).1; simpa using this
  subst hi
  obtain rfl := Option.some.inj hu
  rw [List.getD_eq_getElem?_getD, hj] at hc
  simpa [Kd.string, Kd.scalar] using hc
set_option maxHeartbeats 8000000 in
set_option maxRecDepth 100000 in
theorem ParseNames (a0 : Option Addr) (len0 cap0 : Nat) (z0 : List ByteArray) (a1 : Int) (w : World) (hK : Aside0 (Aid.KeysIn w)) (w0 : StrRow w a0 len0 cap0 z0) (w1 : (Lit.int .u8 a1).wf = true) :
    Calls Tryd.prog 13 #[.slice a0 len0 cap0, .int .u8 a1] w fun e w' => e = .returned (.bool true) ∧ Below w.heap.size w w' := by
  have r1 : 0 ≤ a1 ∧ a1 ≤ 255 := by
    rw [Lit.wf, Bool.and_eq_true, decide_eq_true_eq, decide_eq_true_eq] at w1
    exact w1
  have W0 := Aside0.mk w0
  clear w0 w1
  by_cases c1 : (len0 : Int) < 8
  · have d1 : decide ((len0 : Int) < (8 : Int)) = true := decide_eq_true c1
    have d2 : decide (len0 < 8) = true := decide_eq_true (by omega)
    clear c1 r1
    go_enter Tryd.func13, Tryd.ntmps13
    go_wp2_with fail
    refine (Pu.awake_calls _ hK).mono ?_
    rintro e w2 ⟨rfl, hb⟩
    go_wp2
    go_ret
    exact ⟨rfl, hb⟩
  have d1 : decide ((len0 : Int) < (8 : Int)) = false := decide_eq_false c1
  have d2 : decide (len0 < 8) = false := decide_eq_false (by omega)
  have HL8 : Aside0 (8 ≤ len0) := ⟨by omega⟩
  have HA1 := Aside0.mk r1
  clear c1 r1
  go_enter Tryd.func13, Tryd.ntmps13
  go_wp2_with fail
  refine (Pu.awake_calls _ hK).mono ?_
  rintro e w2 ⟨rfl, hb⟩
  have HB := Aside0.mk hb
  have W2 := Aside0.mk (W0.out.below hb)
  have HK2 : Aside0 (Aid.KeysIn w2) := ⟨hK.out.go hb⟩
  clear hb
  go_wp2
  clear d1 d2
  go_loopg [6] 9 (fun g v6 wx => ∃ (i : Nat), v6 = .int .i64 i ∧ i + g = 9 ∧ i ≤ 8 ∧ Aside0 (∀ j, j < i → okS (z0.getD j ByteArray.empty)) ∧ Aside0 (Below w.heap.size w wx))
  case atStart => exact ⟨0, rfl, by omega, Nat.zero_le _, ⟨by omega⟩, HB⟩
  case round =>
    clear HB W2 HK2
    obtain ⟨i, rfl, hi, hil, HG, HB⟩ := hrel
    rename World => wx
    have W2 := Aside0.mk (W0.out.below HB.out)
    have HK2 : Aside0 (Aid.KeysIn wx) := ⟨hK.out.go HB.out⟩
    cases gk with
    | zero => omega
    | succ g1 =>
      by_cases hlt : i < 8
      · have e1 : decide ((i : Int) < (8 : Int)) = true := decide_eq_true (by omega)
        have e2 : ((i : Int) < (8 : Int)) = True := eq_true (by omega)
        have e3 : decide (i < 8) = true := decide_eq_true hlt
        have e4 : (0 ≤ (i : Int)) = True := eq_true (by omega)
        have e5 : decide (i < len0) = true := decide_eq_true (by have := HL8.out; omega)
        have e6 : ((i : Int) < (len0 : Int)) = True := eq_true (by have := HL8.out; omega)
        have e7 : decide ((i : Int) < (len0 : Int)) = true := decide_eq_true (by have := HL8.out; omega)
        have e8 : decide (0 ≤ (i : Int)) = true := decide_eq_true (by omega)
        obtain ⟨ad, ea, c0⟩ := W2.out.cells i (by have := HL8.out; omega)
        subst ea
        obtain ⟨s, hs⟩ : ∃ s, z0.getD i ByteArray.empty = s := ⟨_, rfl⟩
        rw [hs] at c0
        have hw : IntKind.i64.wrap ((i : Int) + 1) = ((i + 1 : Nat) : Int) := by rw [IntKind.wrap_i64]; omega
        have HI := Aside0.mk (And.intro hi (And.intro hil hlt))
        have HS := Aside0.mk hs
        clear hs hi hil hlt
        by_cases h96 : 96 < s.size
        · have t1 : decide ((96 : Int) < (s.size : Int)) = true := decide_eq_true (by omega)
          have t2 : decide (96 < s.size) = true := decide_eq_true h96
          clear h96
          go_wp2_with fail
          go_ret
          exact ⟨rfl, HB.out⟩
        have t1 : decide ((96 : Int) < (s.size : Int)) = false := decide_eq_false (by omega)
        have t2 : decide (96 < s.size) = false := decide_eq_false h96
        obtain ⟨b, hb1, hb2⟩ := name_f s (by omega)
        have H96 : Aside0 (s.size ≤ 96) := ⟨by omega⟩
        have HN := Aside0.mk hb1
        have HN2 := Aside0.mk hb2
        clear h96 hb1 hb2
        cases b with
        | false =>
          go_wp2_with fail
          refine (Nm.doormanlaw07_name.calls 200 s false _ HK2 HN.out).mono ?_
          rintro e w5 ⟨rfl, h5⟩
          go_wp2
          go_ret
          exact ⟨rfl, TkKey.below2 HB.out h5⟩
        | true =>
          go_wp2_with fail
          refine (Nm.doormanlaw07_name.calls 200 s true _ HK2 HN.out).mono ?_
          rintro e w5 ⟨rfl, h5⟩
          have HB5 := Aside0.mk (TkKey.below2 HB.out h5)
          clear h5
          go_wp2
          go_roundg g1
          case measure => omega
          case rel => exact ⟨i + 1, by simp, by have := HI.out; omega, by have := HI.out; omega, ⟨fun j hj => by
            by_cases e : j = i
            · subst e; rw [HS.out]; exact ⟨H96.out, HN2.out (by trivial)⟩
            · exact HG.out j (by omega)⟩, HB5⟩
      · as_aux_lemma =>
        obtain rfl : i = 8 := by omega
        obtain ⟨ad, ea, _⟩ := W2.out.cells 0 (by have := HL8.out; omega)
        subst ea
        have hcell : ∀ j, j < 8 → wx.cell? (ad.add j) = some (.string (z0.getD j ByteArray.empty)) := fun j hj => by
          obtain ⟨ad', e, h⟩ := W2.out.cells j (by have := HL8.out; omega)
          obtain rfl := Option.some.inj e
          exact h
        clear hlt hi hil
        obtain ⟨s0, hs0⟩ : ∃ s, z0.getD 0 ByteArray.empty = s := ⟨_, rfl⟩
        have c0 := hcell 0 (by omega)
        have g0 := HG.out 0 (by omega)
        rw [hs0] at c0 g0
        obtain ⟨s1, hs1⟩ : ∃ s, z0.getD 1 ByteArray.empty = s := ⟨_, rfl⟩
        have c1 := hcell 1 (by omega)
        have g1 := HG.out 1 (by omega)
        rw [hs1] at c1 g1
        obtain ⟨s2, hs2⟩ : ∃ s, z0.getD 2 ByteArray.empty = s := ⟨_, rfl⟩
        have c2 := hcell 2 (by omega)
        have g2 := HG.out 2 (by omega)
        rw [hs2] at c2 g2
        obtain ⟨s3, hs3⟩ : ∃ s, z0.getD 3 ByteArray.empty = s := ⟨_, rfl⟩
        have c3 := hcell 3 (by omega)
        have g3 := HG.out 3 (by omega)
        rw [hs3] at c3 g3
        obtain ⟨s4, hs4⟩ : ∃ s, z0.getD 4 ByteArray.empty = s := ⟨_, rfl⟩
        have c4 := hcell 4 (by omega)
        have g4 := HG.out 4 (by omega)
        rw [hs4] at c4 g4
        obtain ⟨s5, hs5⟩ : ∃ s, z0.getD 5 ByteArray.empty = s := ⟨_, rfl⟩
        have c5 := hcell 5 (by omega)
        have g5 := HG.out 5 (by omega)
        rw [hs5] at c5 g5
        obtain ⟨s6, hs6⟩ : ∃ s, z0.getD 6 ByteArray.empty = s := ⟨_, rfl⟩
        have c6 := hcell 6 (by omega)
        have g6 := HG.out 6 (by omega)
        rw [hs6] at c6 g6
        obtain ⟨s7, hs7⟩ : ∃ s, z0.getD 7 ByteArray.empty = s := ⟨_, rfl⟩
        have c7 := hcell 7 (by omega)
        have g7 := HG.out 7 (by omega)
        rw [hs7] at c7 g7
        have HG8 : Aside0 (okS s0 ∧ okS s1 ∧ okS s2 ∧ okS s3 ∧ okS s4 ∧ okS s5 ∧ okS s6 ∧ okS s7) := ⟨⟨g0, g1, g2, g3, g4, g5, g6, g7⟩⟩
        have ez : ad.add 0 = ad := by unfold Addr.add; split <;> simp_all
        rw [ez] at c0
        have eq1 : ad.add 1 = ⟨ad.block, ad.off + 1, none⟩ := by simp [Addr.add]
        rw [eq1] at c1
        have eq2 : ad.add 2 = ⟨ad.block, ad.off + 2, none⟩ := by simp [Addr.add]
        rw [eq2] at c2
        have eq3 : ad.add 3 = ⟨ad.block, ad.off + 3, none⟩ := by simp [Addr.add]
        rw [eq3] at c3
        have eq4 : ad.add 4 = ⟨ad.block, ad.off + 4, none⟩ := by simp [Addr.add]
        rw [eq4] at c4
        have eq5 : ad.add 5 = ⟨ad.block, ad.off + 5, none⟩ := by simp [Addr.add]
        rw [eq5] at c5
        have eq6 : ad.add 6 = ⟨ad.block, ad.off + 6, none⟩ := by simp [Addr.add]
        rw [eq6] at c6
        have eq7 : ad.add 7 = ⟨ad.block, ad.off + 7, none⟩ := by simp [Addr.add]
        rw [eq7] at c7
        clear ez eq1 eq2 eq3 eq4 eq5 eq6 eq7
        have HC8 : Aside0 (wx.cell? ad = some (.string s0) ∧ wx.cell? ⟨ad.block, ad.off + 1, none⟩ = some (.string s1) ∧ wx.cell? ⟨ad.block, ad.off + 2, none⟩ = some (.string s2) ∧ wx.cell? ⟨ad.block, ad.off + 3, none⟩ = some (.string s3) ∧ wx.cell? ⟨ad.block, ad.off + 4, none⟩ = some (.string s4) ∧ wx.cell? ⟨ad.block, ad.off + 5, none⟩ = some (.string s5) ∧ wx.cell? ⟨ad.block, ad.off + 6, none⟩ = some (.string s6) ∧ wx.cell? ⟨ad.block, ad.off + 7, none⟩ = some (.string s7)) := ⟨⟨c0, c1, c2, c3, c4, c5, c6, c7⟩⟩
        have HZ8 : Aside0 (z0.getD 0 ByteArray.empty = s0 ∧ z0.getD 1 ByteArray.empty = s1 ∧ z0.getD 2 ByteArray.empty = s2 ∧ z0.getD 3 ByteArray.empty = s3 ∧ z0.getD 4 ByteArray.empty = s4 ∧ z0.getD 5 ByteArray.empty = s5 ∧ z0.getD 6 ByteArray.empty = s6 ∧ z0.getD 7 ByteArray.empty = s7) := ⟨⟨hs0, hs1, hs2, hs3, hs4, hs5, hs6, hs7⟩⟩
        have HTZ : Aside0 ((txt s0 s1 s2 s3 s4 s5 s6 s7).size ≤ 2048) := ⟨by rw [txt_size]; have := HG8.out; unfold okS at this; omega⟩
        have l8 : ∀ j : Int, j < 8 → (j < (len0 : Int)) = True := fun j hj => eq_true (by have := HL8.out; omega)
        have m0 : decide (0 < len0) = true := decide_eq_true (by have := HL8.out; omega)
        have n0 : (0 < len0) = True := eq_true (by have := HL8.out; omega)
        have o0 : ((0 : Int) < (len0 : Int)) = True := eq_true (by have := HL8.out; omega)
        have p0 : decide ((0 : Int) < (len0 : Int)) = true := decide_eq_true (by have := HL8.out; omega)
        have m1 : decide (1 < len0) = true := decide_eq_true (by have := HL8.out; omega)
        have n1 : (1 < len0) = True := eq_true (by have := HL8.out; omega)
        have o1 : ((1 : Int) < (len0 : Int)) = True := eq_true (by have := HL8.out; omega)
        have p1 : decide ((1 : Int) < (len0 : Int)) = true := decide_eq_true (by have := HL8.out; omega)
        have m2 : decide (2 < len0) = true := decide_eq_true (by have := HL8.out; omega)
        have n2 : (2 < len0) = True := eq_true (by have := HL8.out; omega)
        have o2 : ((2 : Int) < (len0 : Int)) = True := eq_true (by have := HL8.out; omega)
        have p2 : decide ((2 : Int) < (len0 : Int)) = true := decide_eq_true (by have := HL8.out; omega)
        have m3 : decide (3 < len0) = true := decide_eq_true (by have := HL8.out; omega)
        have n3 : (3 < len0) = True := eq_true (by have := HL8.out; omega)
        have o3 : ((3 : Int) < (len0 : Int)) = True := eq_true (by have := HL8.out; omega)
        have p3 : decide ((3 : Int) < (len0 : Int)) = true := decide_eq_true (by have := HL8.out; omega)
        have m4 : decide (4 < len0) = true := decide_eq_true (by have := HL8.out; omega)
        have n4 : (4 < len0) = True := eq_true (by have := HL8.out; omega)
        have o4 : ((4 : Int) < (len0 : Int)) = True := eq_true (by have := HL8.out; omega)
        have p4 : decide ((4 : Int) < (len0 : Int)) = true := decide_eq_true (by have := HL8.out; omega)
        have m5 : decide (5 < len0) = true := decide_eq_true (by have := HL8.out; omega)
        have n5 : (5 < len0) = True := eq_true (by have := HL8.out; omega)
        have o5 : ((5 : Int) < (len0 : Int)) = True := eq_true (by have := HL8.out; omega)
        have p5 : decide ((5 : Int) < (len0 : Int)) = true := decide_eq_true (by have := HL8.out; omega)
        have m6 : decide (6 < len0) = true := decide_eq_true (by have := HL8.out; omega)
        have n6 : (6 < len0) = True := eq_true (by have := HL8.out; omega)
        have o6 : ((6 : Int) < (len0 : Int)) = True := eq_true (by have := HL8.out; omega)
        have p6 : decide ((6 : Int) < (len0 : Int)) = true := decide_eq_true (by have := HL8.out; omega)
        have m7 : decide (7 < len0) = true := decide_eq_true (by have := HL8.out; omega)
        have n7 : (7 < len0) = True := eq_true (by have := HL8.out; omega)
        have o7 : ((7 : Int) < (len0 : Int)) = True := eq_true (by have := HL8.out; omega)
        have p7 : decide ((7 : Int) < (len0 : Int)) = true := decide_eq_true (by have := HL8.out; omega)
        have z0 : (9223372036854775807 < 5 + s0.size) = False := eq_false (by have := HG8.out; unfold okS at this; omega)
        have z1 : (9223372036854775807 < 5 + s0.size + 7) = False := eq_false (by have := HG8.out; unfold okS at this; omega)
        have z2 : (9223372036854775807 < 5 + s0.size + 7 + s1.size) = False := eq_false (by have := HG8.out; unfold okS at this; omega)
        have z3 : (9223372036854775807 < 5 + s0.size + 7 + s1.size + 3) = False := eq_false (by have := HG8.out; unfold okS at this; omega)
        have z4 : (9223372036854775807 < 5 + s0.size + 7 + s1.size + 3 + s2.size) = False := eq_false (by have := HG8.out; unfold okS at this; omega)
        have z5 : (9223372036854775807 < 5 + s0.size + 7 + s1.size + 3 + s2.size + 3) = False := eq_false (by have := HG8.out; unfold okS at this; omega)
        have z6 : (9223372036854775807 < 5 + s0.size + 7 + s1.size + 3 + s2.size + 3 + s3.size) = False := eq_false (by have := HG8.out; unfold okS at this; omega)
        have z7 : (9223372036854775807 < 5 + s0.size + 7 + s1.size + 3 + s2.size + 3 + s3.size + 3) = False := eq_false (by have := HG8.out; unfold okS at this; omega)
        have z8 : (9223372036854775807 < 5 + s0.size + 7 + s1.size + 3 + s2.size + 3 + s3.size + 3 + s4.size) = False := eq_false (by have := HG8.out; unfold okS at this; omega)
        have z9 : (9223372036854775807 < 5 + s0.size + 7 + s1.size + 3 + s2.size + 3 + s3.size + 3 + s4.size + 5) = False := eq_false (by have := HG8.out; unfold okS at this; omega)
        have z10 : (9223372036854775807 < 5 + s0.size + 7 + s1.size + 3 + s2.size + 3 + s3.size + 3 + s4.size + 5 + s5.size) = False := eq_false (by have := HG8.out; unfold okS at this; omega)
        have z11 : (9223372036854775807 < 5 + s0.size + 7 + s1.size + 3 + s2.size + 3 + s3.size + 3 + s4.size + 5 + s5.size + 3) = False := eq_false (by have := HG8.out; unfold okS at this; omega)
        have z12 : (9223372036854775807 < 5 + s0.size + 7 + s1.size + 3 + s2.size + 3 + s3.size + 3 + s4.size + 5 + s5.size + 3 + s6.size) = False := eq_false (by have := HG8.out; unfold okS at this; omega)
        have z13 : (9223372036854775807 < 5 + s0.size + 7 + s1.size + 3 + s2.size + 3 + s3.size + 3 + s4.size + 5 + s5.size + 3 + s6.size + 4) = False := eq_false (by have := HG8.out; unfold okS at this; omega)
        have z14 : (9223372036854775807 < 5 + s0.size + 7 + s1.size + 3 + s2.size + 3 + s3.size + 3 + s4.size + 5 + s5.size + 3 + s6.size + 4 + s7.size) = False := eq_false (by have := HG8.out; unfold okS at this; omega)
        have z15 : (9223372036854775807 < 5 + s0.size + 7 + s1.size + 3 + s2.size + 3 + s3.size + 3 + s4.size + 5 + s5.size + 3 + s6.size + 4 + s7.size + 4) = False := eq_false (by have := HG8.out; unfold okS at this; omega)
        clear hcell hs0 g0 hs1 g1 hs2 g2 hs3 g3 hs4 g4 hs5 g5 hs6 g6 hs7 g7 l8
        clear W2
        as_aux_lemma =>
        go_wp2_with fail
        go_quiet (fail)
        as_aux_lemma =>
        have HBq : Aside0 (Below w.heap.size w (wx.drewN nq)) := ⟨pw_below_drewN HB.out nq⟩
        have HBxq : Aside0 (Below wx.heap.size wx (wx.drewN nq)) := ⟨pw_below_drewN (Below.refl _ _) nq⟩
        obtain ⟨wq, hwq⟩ : ∃ wq, wx.drewN nq = wq := ⟨_, rfl⟩
        rw [hwq] at HBq HBxq ⊢
        have HCq : Aside0 (wq.cell? ad = some (.string s0) ∧ wq.cell? ⟨ad.block, ad.off + 1, none⟩ = some (.string s1) ∧ wq.cell? ⟨ad.block, ad.off + 2, none⟩ = some (.string s2) ∧ wq.cell? ⟨ad.block, ad.off + 3, none⟩ = some (.string s3) ∧ wq.cell? ⟨ad.block, ad.off + 4, none⟩ = some (.string s4) ∧ wq.cell? ⟨ad.block, ad.off + 5, none⟩ = some (.string s5) ∧ wq.cell? ⟨ad.block, ad.off + 6, none⟩ = some (.string s6) ∧ wq.cell? ⟨ad.block, ad.off + 7, none⟩ = some (.string s7)) := ⟨by obtain ⟨c0, c1, c2, c3, c4, c5, c6, c7⟩ := HC8.out; exact ⟨pw_cell_below HBxq.out c0, pw_cell_below HBxq.out c1, pw_cell_below HBxq.out c2, pw_cell_below HBxq.out c3, pw_cell_below HBxq.out c4, pw_cell_below HBxq.out c5, pw_cell_below HBxq.out c6, pw_cell_below HBxq.out c7⟩⟩
        have HKq : Aside0 (Aid.KeysIn wq) := ⟨hK.out.go HBq.out⟩
        clear hwq HBxq HC8 HK2 HB c0 c1 c2 c3 c4 c5 c6 c7 z0 z1 z2 z3 z4 z5 z6 z7 z8 z9 z10 z11 z12 z13 z14 z15 m0 n0 o0 p0 m1 n1 o1 p1 m2 n2 o2 p2 m3 n3 o3 p3 m4 n4 o4 p4 m5 n5 o5 p5 m6 n6 o6 p6 m7 n7 o7 p7
        go_wp2_with fail
        as_aux_lemma =>
        refine (Parse_calls _ (l := L (txt s0 s1 s2 s3 s4 s5 s6 s7)) rfl (txt_ok HG8.out.1.2 HG8.out.2.1.2 HG8.out.2.2.1.2 HG8.out.2.2.2.1.2 HG8.out.2.2.2.2.1.2 HG8.out.2.2.2.2.2.1.2 HG8.out.2.2.2.2.2.2.1.2 HG8.out.2.2.2.2.2.2.2.2 HTZ.out) wq HKq).mono ?_
        intro e w3 he
        obtain ⟨v, rfl, hv, hb⟩ := he
        obtain ⟨A, c, rfl⟩ := Kd.R_slice hv
        have hC0 := (Kd.R_reads' hv).2.2
        have HS4 : Aside0 ((w3.alloc (.cells #[.slice A 1 c] 43)).heap[w3.heap.size]? = some (.cells #[.slice A 1 c] 43 (0, 0))) := ⟨(Go.MapKept.heap_alloc w3 _).1⟩
        have HB3 : Below wq.heap.size wq (w3.alloc (.cells #[.slice A 1 c] 43)) := hb.trans ((below_alloc (Below.refl _ _) _).mono hb.size)
        have HB4 : Aside0 (Below wq.heap.size wq (w3.alloc (.cells #[.slice A 1 c] 43))) := ⟨HB3⟩
        have hC := Kd.C_alloc hC0 (.cells #[.slice A 1 c] 43)
        obtain ⟨w4, hw4⟩ : ∃ w4, w3.alloc (.cells #[.slice A 1 c] 43) = w4 := ⟨_, rfl⟩
        have HW := Aside0.mk hw4
        rw [hw4] at HS4 HB4 hC
        clear hb hv hC0 HB3 hw4
        go_upto_region 13 with (fail)
        rw [HW.out]
        obtain ⟨p, hp⟩ : ∃ p, w3.heap.size = p := ⟨_, rfl⟩
        rw [hp] at HS4 ⊢
        clear HW hp
        obtain ⟨dt, A1, cc1, rfl, t0, t1, t2, hC1⟩ := at_T53 hC 0 (by decide) (show (0 : Int) < ((1 : Nat) : Int) from by decide)
        obtain ⟨dr, A2, cc2, A3, cc3, rfl, r0, r1, r2, r3, r4, r5, r6, hC2, r7, hC3⟩ := at_T57 hC1 0 (by decide) (show (0 : Int) < ((1 : Nat) : Int) from by decide)
        obtain ⟨ds, rfl, b0, b1⟩ := at_T62 hC2 0 (by decide) (show (0 : Int) < ((1 : Nat) : Int) from by decide)
        obtain ⟨dq, rfl, o0, o1, o2⟩ := at_T59 hC3 0 (by decide) (show (0 : Int) < ((1 : Nat) : Int) from by decide)
        have ez : ∀ a : Addr, a.add 0 = a := fun a => by unfold Addr.add; split <;> simp_all
        have x0 : w4.cell? dt = some (.string s0) := by have h : w4.cell? (dt.add 0) = some (.string s0) := t0; rwa [ez] at h
        have x1 : w4.cell? ⟨dt.block, dt.off + 1, none⟩ = some (.slice (some dr) 1 cc1) := by have h : w4.cell? ⟨(dt.add 0).block, (dt.add 0).off + 1, none⟩ = some (.slice (some dr) 1 cc1) := t1; rwa [ez] at h
        have y0 : w4.cell? dr = some (.string s1) := by have h : w4.cell? (dr.add 0) = some (.string s1) := r0; rwa [ez] at h
        have y1 : w4.cell? ⟨dr.block, dr.off + 1, none⟩ = some (.string s2) := by have h : w4.cell? ⟨(dr.add 0).block, (dr.add 0).off + 1, none⟩ = some (.string s2) := r1; rwa [ez] at h
        have y2 : w4.cell? ⟨dr.block, dr.off + 2, none⟩ = some (.string s3) := by have h : w4.cell? ⟨(dr.add 0).block, (dr.add 0).off + 2, none⟩ = some (.string s3) := r2; rwa [ez] at h
        have y3 : w4.cell? ⟨dr.block, dr.off + 3, none⟩ = some (.string s4) := by have h : w4.cell? ⟨(dr.add 0).block, (dr.add 0).off + 3, none⟩ = some (.string s4) := r3; rwa [ez] at h
        have y4 : w4.cell? ⟨dr.block, dr.off + 4, none⟩ = some (.slice (some ds) 1 cc2) := by have h : w4.cell? ⟨(dr.add 0).block, (dr.add 0).off + 4, none⟩ = some (.slice (some ds) 1 cc2) := r4; rwa [ez] at h
        have y5 : w4.cell? ⟨dr.block, dr.off + 5, none⟩ = some (.slice (some dq) 1 cc3) := by have h : w4.cell? ⟨(dr.add 0).block, (dr.add 0).off + 5, none⟩ = some (.slice (some dq) 1 cc3) := r5; rwa [ez] at h
        have v0 : w4.cell? ds = some (.string s5) := by have h : w4.cell? (ds.add 0) = some (.string s5) := b0; rwa [ez] at h
        have v1 : w4.cell? ⟨ds.block, ds.off + 1, none⟩ = some (.string s6) := by have h : w4.cell? ⟨(ds.add 0).block, (ds.add 0).off + 1, none⟩ = some (.string s6) := b1; rwa [ez] at h
        have v2 : w4.cell? ⟨dq.block, dq.off + 1, none⟩ = some (.string s7) := by have h : w4.cell? ⟨(dq.add 0).block, (dq.add 0).off + 1, none⟩ = some (.string s7) := o1; rwa [ez] at h
        have HX0 := Aside0.mk x0
        have HV0 := Aside0.mk v0
        have HV1 := Aside0.mk v1
        have HV2 := Aside0.mk v2
        clear hC t0 t1 t2 hC1 r0 r1 r2 r3 r4 r5 r6 r7 hC2 hC3 b0 b1 o0 o1 o2 x0 v0 v1 v2 ez
        have t0 := blk_cell HS4.out 0
        as_aux_lemma =>
        go_upto_region 16 with (fail)
        as_aux_lemma =>
        have HT6 : Aside0 ((w4.alloc (.cells #[.string s1, .string s2, .string s3, .string s4, .slice (some ds) 1 cc2, .slice (some dq) 1 cc3] 57)).heap[w4.heap.size]? = some (.cells #[.string s1, .string s2, .string s3, .string s4, .slice (some ds) 1 cc2, .slice (some dq) 1 cc3] 57 (0, 0))) := ⟨(Go.MapKept.heap_alloc w4 _).1⟩
        have b6 : Below w4.heap.size w4 (w4.alloc (.cells #[.string s1, .string s2, .string s3, .string s4, .slice (some ds) 1 cc2, .slice (some dq) 1 cc3] 57)) := below_alloc (Below.refl _ _) _
        have HS6 : Aside0 ((w4.alloc (.cells #[.string s1, .string s2, .string s3, .string s4, .slice (some ds) 1 cc2, .slice (some dq) 1 cc3] 57)).heap[p]? = some (.cells #[.slice (some dt) 1 c] 43 (0, 0))) := ⟨by rw [Below.heap_alloc _ _ _ (blk_lt HS4.out)]; exact HS4.out⟩
        obtain ⟨w6, hw6⟩ : ∃ w6, (w4.alloc (.cells #[.string s1, .string s2, .string s3, .string s4, .slice (some ds) 1 cc2, .slice (some dq) 1 cc3] 57)) = w6 := ⟨_, rfl⟩
        rw [hw6] at HT6 HS6 b6 ⊢
        have HB6 : Below wq.heap.size wq w6 := HB4.out.trans (b6.mono HB4.out.size)
        obtain ⟨c0, c1, c2, c3, c4, c5, c6, c7⟩ := HCq.out
        replace c0 := pw_cell_below HB6 c0
        replace c1 := pw_cell_below HB6 c1
        replace c2 := pw_cell_below HB6 c2
        replace c3 := pw_cell_below HB6 c3
        replace c4 := pw_cell_below HB6 c4
        replace c5 := pw_cell_below HB6 c5
        replace c6 := pw_cell_below HB6 c6
        replace c7 := pw_cell_below HB6 c7
        have HC6 : Aside0 (w6.cell? ad = some (.string s0) ∧ w6.cell? ⟨ad.block, ad.off + 1, none⟩ = some (.string s1) ∧ w6.cell? ⟨ad.block, ad.off + 2, none⟩ = some (.string s2) ∧ w6.cell? ⟨ad.block, ad.off + 3, none⟩ = some (.string s3) ∧ w6.cell? ⟨ad.block, ad.off + 4, none⟩ = some (.string s4) ∧ w6.cell? ⟨ad.block, ad.off + 5, none⟩ = some (.string s5) ∧ w6.cell? ⟨ad.block, ad.off + 6, none⟩ = some (.string s6) ∧ w6.cell? ⟨ad.block, ad.off + 7, none⟩ = some (.string s7)) := ⟨⟨c0, c1, c2, c3, c4, c5, c6, c7⟩⟩
        have HBw6 : Aside0 (Below w.heap.size w w6) := ⟨HBq.out.trans (HB6.mono HBq.out.size)⟩
        have x0 := pw_cell_below b6 HX0.out
        have v0 := pw_cell_below b6 HV0.out
        have v1 := pw_cell_below b6 HV1.out
        have v2 := pw_cell_below b6 HV2.out
        clear t0 hw6 b6 HB6 HB4 HS4 HX0 HV0 HV1 HV2 x1 y0 y1 y2 y3 y4 y5 HCq HBq HKq
        have t0 := blk_cell HS6.out 0
        have u0 := blk_cell HT6.out 0
        have u1 := blk_cell HT6.out 1
        have u2 := blk_cell HT6.out 2
        have u3 := blk_cell HT6.out 3
        have u4 := blk_cell HT6.out 4
        have u5 := blk_cell HT6.out 5
        have o0 : ((0 : Int) < (len0 : Int)) = True := eq_true (by have := HL8.out; omega)
        have n0 : (0 < len0) = True := eq_true (by have := HL8.out; omega)
        have p0 : decide ((0 : Int) < (len0 : Int)) = true := decide_eq_true (by have := HL8.out; omega)
        have o1 : ((1 : Int) < (len0 : Int)) = True := eq_true (by have := HL8.out; omega)
        have n1 : (1 < len0) = True := eq_true (by have := HL8.out; omega)
        have p1 : decide ((1 : Int) < (len0 : Int)) = true := decide_eq_true (by have := HL8.out; omega)
        have o2 : ((2 : Int) < (len0 : Int)) = True := eq_true (by have := HL8.out; omega)
        have n2 : (2 < len0) = True := eq_true (by have := HL8.out; omega)
        have p2 : decide ((2 : Int) < (len0 : Int)) = true := decide_eq_true (by have := HL8.out; omega)
        have o3 : ((3 : Int) < (len0 : Int)) = True := eq_true (by have := HL8.out; omega)
        have n3 : (3 < len0) = True := eq_true (by have := HL8.out; omega)
        have p3 : decide ((3 : Int) < (len0 : Int)) = true := decide_eq_true (by have := HL8.out; omega)
        have o4 : ((4 : Int) < (len0 : Int)) = True := eq_true (by have := HL8.out; omega)
        have n4 : (4 < len0) = True := eq_true (by have := HL8.out; omega)
        have p4 : decide ((4 : Int) < (len0 : Int)) = true := decide_eq_true (by have := HL8.out; omega)
        have o5 : ((5 : Int) < (len0 : Int)) = True := eq_true (by have := HL8.out; omega)
        have n5 : (5 < len0) = True := eq_true (by have := HL8.out; omega)
        have p5 : decide ((5 : Int) < (len0 : Int)) = true := decide_eq_true (by have := HL8.out; omega)
        have o6 : ((6 : Int) < (len0 : Int)) = True := eq_true (by have := HL8.out; omega)
        have n6 : (6 < len0) = True := eq_true (by have := HL8.out; omega)
        have p6 : decide ((6 : Int) < (len0 : Int)) = true := decide_eq_true (by have := HL8.out; omega)
        have o7 : ((7 : Int) < (len0 : Int)) = True := eq_true (by have := HL8.out; omega)
        have n7 : (7 < len0) = True := eq_true (by have := HL8.out; omega)
        have p7 : decide ((7 : Int) < (len0 : Int)) = true := decide_eq_true (by have := HL8.out; omega)
        as_aux_lemma =>
        go_quiet (fail)
        as_aux_lemma =>
        have HB7 : Aside0 (Below w.heap.size w (w6.drewN nq)) := ⟨pw_below_drewN HBw6.out nq⟩
        obtain ⟨w7, hw7⟩ : ∃ w7, w6.drewN nq = w7 := ⟨_, rfl⟩
        rw [hw7] at HB7 ⊢
        clear hw7 HT6 HS6 HC6 HBw6 x0 v0 v1 v2 t0 u0 u1 u2 u3 u4 u5 c0 c1 c2 c3 c4 c5 c6 c7 o0 n0 p0 o1 n1 p1 o2 n2 p2 o3 n3 p3 o4 n4 p4 o5 n5 p5 o6 n6 p6 o7 n7 p7
        have W7 := W0.out.below HB7.out
        have HK7 : Aside0 (Aid.KeysIn w7) := ⟨hK.out.go HB7.out⟩
        have HCz : Aside0 (Kd.string.C w7 (some ad) 8 (z0.take 8)) := ⟨take8 W7 HL8.out⟩
        have HZl : Aside0 ((z0.take 8).length = 8) := ⟨by rw [List.length_take, W7.hl]; have := HL8.out; omega⟩
        have hcap : 8 ≤ cap0 := Nat.le_trans HL8.out W7.hc
        have hcm : cap0 ≤ 9223372036854775807 := W7.hm
        obtain ⟨ha0, ha1⟩ := HA1.out
        obtain ⟨k, hk⟩ : ∃ k : Nat, a1.toNat % 8 = k := ⟨_, rfl⟩
        have hk8 : k < 8 := by omega
        have HK8 := Aside0.mk hk8
        have hwr : IntKind.i64.wrap a1 = a1 := by rw [IntKind.wrap_i64]; omega
        have hm1 : a1 % 8 = (k : Int) := by omega
        have hm2 : a1.tmod 8 = (k : Int) := by obtain ⟨m, rfl⟩ := Int.eq_ofNat_of_zero_le ha0; rw [← hk]; rfl
        have hwr2 : IntKind.i64.wrap (k : Int) = (k : Int) := by rw [IntKind.wrap_i64]; omega
        have q1 : decide ((8 : Int) ≤ (cap0 : Int)) = true := decide_eq_true (by omega)
        have q2 : ((8 : Int) ≤ (cap0 : Int)) = True := eq_true (by omega)
        have q3 : (8 ≤ cap0) = True := eq_true hcap
        have q4 : decide (8 ≤ cap0) = true := decide_eq_true hcap
        have q5 : ((cap0 : Int) < 8) = False := eq_false (by omega)
        have q6 : decide (cap0 < 8) = false := decide_eq_false (by omega)
        have q7 : (cap0 = 0) = False := eq_false (by omega)
        clear W7 hk hk8 ha0 ha1
        go_upto_region 20 with (fail)
        go_upto_region 21 with ((with_reducible refine gate_builtin (b := .append) (xs := #[.tmp 201, .tmp 203]) rfl ?_); (try (refine gate_guard (by rfl) ?_; dsimp only)); at_builtin; go_must (refine Kd.R_append_rows Kd.string (w0 := w7) w7.heap.size rfl (.tmp 201) (.tmp 203) 39 9 (.string ⟨#[]⟩) 16 rfl Tryd.underlying39 infoS rfl (by decide) (by omega) (.slice none 0 0) [] (z0.take 8) (some ad) 8 cap0 (fun _ => True) (fun _ => False) rfl rfl ?aO ?aR (fun _ _ h => h) (fun _ h => h.elim) (fun _ _ => trivial) (Below.refl _ _) (Nat.le_refl _) ?aL ?_); (case aO => exact Kd.R_nil _ _ _ _ _); (case aR => exact HCz.out); (case aL => simp only [List.length_nil]; omega); intro v8 w8 ho8 hb8 hg8 hat8; rw [List.nil_append] at ho8; have HO8 := Aside0.mk ho8; have HB8 := Aside0.mk hb8; clear ho8 hb8 hg8 hat8)
        as_aux_lemma =>
        obtain ⟨g, c8, e8, hg1, hg2, cells8, hg3⟩ := Kd.R_form HO8.out (by rw [HZl.out]; decide)
        rw [HZl.out] at e8
        subst e8
        have HG1 := Aside0.mk hg1
        have hk8 := HK8.out
        have e1 : decide ((k : Int) < (8 : Int)) = true := decide_eq_true (by omega)
        have e2 : ((k : Int) < (8 : Int)) = True := eq_true (by omega)
        have e3 : decide (k < 8) = true := decide_eq_true (by omega)
        have e9 : (k < 8) = True := eq_true (by omega)
        have e4 : (0 ≤ (k : Int)) = True := eq_true (by omega)
        have e5 : decide ((k : Int) < 0) = false := decide_eq_false (by omega)
        have e6 : ((k : Int) < 0) = False := eq_false (by omega)
        have hcell := Kd.R_celln (enc := Value.string) ByteArray.empty HO8.out (k : Int) (by omega) (by omega)
        rw [Int.toNat_natCast] at hcell
        obtain ⟨x0, x1⟩ := hcell
        clear hg1 hg2 hg3 hk8 hcap hcm hwr hm1 hm2 hwr2 q1 q2 q3 q4 q5 q6 q7
        go_upto_region 22 with (fail)
        have hp9 := Kd.R_putn (enc := Value.string) HO8.out (k : Int) ⟨#[116, 121, 112, 101]⟩
        rw [Int.toNat_natCast] at hp9
        have HB9 : Aside0 (Below w.heap.size w (w8.setCell ⟨g, k, none⟩ (.string ⟨#[116, 121, 112, 101]⟩))) := ⟨TkKey.below2 HB7.out (below_set HB8.out HG1.out)⟩
        obtain ⟨w9, hw9⟩ : ∃ w9, w8.setCell ⟨g, k, none⟩ (.string ⟨#[116, 121, 112, 101]⟩) = w9 := ⟨_, rfl⟩
        rw [hw9] at hp9 HB9 ⊢
        have HP9 := Aside0.mk hp9
        have HZ9 : Aside0 (z0.length = len0) := ⟨W0.out.hl⟩
        clear hw9 hp9 x0 x1 HO8 HB8 HB7 HG1 HCz HK7 e1 e2 e3 e4 e5 e6 e9
        have c0 := (Kd.R_celln (enc := Value.string) ByteArray.empty HP9.out (0 : Int) (by omega) (by omega)).1
        obtain ⟨m0, hm0⟩ : ∃ m, rdOf ByteArray.empty ((z0.take 8).set k ⟨#[116, 121, 112, 101]⟩) (0 : Int) = m := ⟨_, rfl⟩
        rw [hm0] at c0
        change w9.cell? ⟨g, 0, none⟩ = some (.string m0) at c0
        have HM0 := Aside0.mk (pick8 (by rw [HZ9.out]; exact HL8.out) HK8.out (by decide) (HG.out 0 (by decide)) hm0)
        clear hm0
        have c1 := (Kd.R_celln (enc := Value.string) ByteArray.empty HP9.out (1 : Int) (by omega) (by omega)).1
        obtain ⟨m1, hm1⟩ : ∃ m, rdOf ByteArray.empty ((z0.take 8).set k ⟨#[116, 121, 112, 101]⟩) (1 : Int) = m := ⟨_, rfl⟩
        rw [hm1] at c1
        change w9.cell? ⟨g, 1, none⟩ = some (.string m1) at c1
        have HM1 := Aside0.mk (pick8 (by rw [HZ9.out]; exact HL8.out) HK8.out (by decide) (HG.out 1 (by decide)) hm1)
        clear hm1
        have c2 := (Kd.R_celln (enc := Value.string) ByteArray.empty HP9.out (2 : Int) (by omega) (by omega)).1
        obtain ⟨m2, hm2⟩ : ∃ m, rdOf ByteArray.empty ((z0.take 8).set k ⟨#[116, 121, 112, 101]⟩) (2 : Int) = m := ⟨_, rfl⟩
        rw [hm2] at c2
        change w9.cell? ⟨g, 2, none⟩ = some (.string m2) at c2
        have HM2 := Aside0.mk (pick8 (by rw [HZ9.out]; exact HL8.out) HK8.out (by decide) (HG.out 2 (by decide)) hm2)
        clear hm2
        have c3 := (Kd.R_celln (enc := Value.string) ByteArray.empty HP9.out (3 : Int) (by omega) (by omega)).1
        obtain ⟨m3, hm3⟩ : ∃ m, rdOf ByteArray.empty ((z0.take 8).set k ⟨#[116, 121, 112, 101]⟩) (3 : Int) = m := ⟨_, rfl⟩
        rw [hm3] at c3
        change w9.cell? ⟨g, 3, none⟩ = some (.string m3) at c3
        have HM3 := Aside0.mk (pick8 (by rw [HZ9.out]; exact HL8.out) HK8.out (by decide) (HG.out 3 (by decide)) hm3)
        clear hm3
        have c4 := (Kd.R_celln (enc := Value.string) ByteArray.empty HP9.out (4 : Int) (by omega) (by omega)).1
        obtain ⟨m4, hm4⟩ : ∃ m, rdOf ByteArray.empty ((z0.take 8).set k ⟨#[116, 121, 112, 101]⟩) (4 : Int) = m := ⟨_, rfl⟩
        rw [hm4] at c4
        change w9.cell? ⟨g, 4, none⟩ = some (.string m4) at c4
        have HM4 := Aside0.mk (pick8 (by rw [HZ9.out]; exact HL8.out) HK8.out (by decide) (HG.out 4 (by decide)) hm4)
        clear hm4
        have c5 := (Kd.R_celln (enc := Value.string) ByteArray.empty HP9.out (5 : Int) (by omega) (by omega)).1
        obtain ⟨m5, hm5⟩ : ∃ m, rdOf ByteArray.empty ((z0.take 8).set k ⟨#[116, 121, 112, 101]⟩) (5 : Int) = m := ⟨_, rfl⟩
        rw [hm5] at c5
        change w9.cell? ⟨g, 5, none⟩ = some (.string m5) at c5
        have HM5 := Aside0.mk (pick8 (by rw [HZ9.out]; exact HL8.out) HK8.out (by decide) (HG.out 5 (by decide)) hm5)
        clear hm5
        have c6 := (Kd.R_celln (enc := Value.string) ByteArray.empty HP9.out (6 : Int) (by omega) (by omega)).1
        obtain ⟨m6, hm6⟩ : ∃ m, rdOf ByteArray.empty ((z0.take 8).set k ⟨#[116, 121, 112, 101]⟩) (6 : Int) = m := ⟨_, rfl⟩
        rw [hm6] at c6
        change w9.cell? ⟨g, 6, none⟩ = some (.string m6) at c6
        have HM6 := Aside0.mk (pick8 (by rw [HZ9.out]; exact HL8.out) HK8.out (by decide) (HG.out 6 (by decide)) hm6)
        clear hm6
        have c7 := (Kd.R_celln (enc := Value.string) ByteArray.empty HP9.out (7 : Int) (by omega) (by omega)).1
        obtain ⟨m7, hm7⟩ : ∃ m, rdOf ByteArray.empty ((z0.take 8).set k ⟨#[116, 121, 112, 101]⟩) (7 : Int) = m := ⟨_, rfl⟩
        rw [hm7] at c7
        change w9.cell? ⟨g, 7, none⟩ = some (.string m7) at c7
        have HM7 := Aside0.mk (pick8 (by rw [HZ9.out]; exact HL8.out) HK8.out (by decide) (HG.out 7 (by decide)) hm7)
        clear hm7
        have z0 : (9223372036854775807 < 5 + m0.size) = False := eq_false (by have a0 := HM0.out.2; have a1 := HM1.out.2; have a2 := HM2.out.2; have a3 := HM3.out.2; have a4 := HM4.out.2; have a5 := HM5.out.2; have a6 := HM6.out.2; have a7 := HM7.out.2; omega)
        have z1 : (9223372036854775807 < 5 + m0.size + 7) = False := eq_false (by have a0 := HM0.out.2; have a1 := HM1.out.2; have a2 := HM2.out.2; have a3 := HM3.out.2; have a4 := HM4.out.2; have a5 := HM5.out.2; have a6 := HM6.out.2; have a7 := HM7.out.2; omega)
        have z2 : (9223372036854775807 < 5 + m0.size + 7 + m1.size) = False := eq_false (by have a0 := HM0.out.2; have a1 := HM1.out.2; have a2 := HM2.out.2; have a3 := HM3.out.2; have a4 := HM4.out.2; have a5 := HM5.out.2; have a6 := HM6.out.2; have a7 := HM7.out.2; omega)
        have z3 : (9223372036854775807 < 5 + m0.size + 7 + m1.size + 3) = False := eq_false (by have a0 := HM0.out.2; have a1 := HM1.out.2; have a2 := HM2.out.2; have a3 := HM3.out.2; have a4 := HM4.out.2; have a5 := HM5.out.2; have a6 := HM6.out.2; have a7 := HM7.out.2; omega)
        have z4 : (9223372036854775807 < 5 + m0.size + 7 + m1.size + 3 + m2.size) = False := eq_false (by have a0 := HM0.out.2; have a1 := HM1.out.2; have a2 := HM2.out.2; have a3 := HM3.out.2; have a4 := HM4.out.2; have a5 := HM5.out.2; have a6 := HM6.out.2; have a7 := HM7.out.2; omega)
        have z5 : (9223372036854775807 < 5 + m0.size + 7 + m1.size + 3 + m2.size + 3) = False := eq_false (by have a0 := HM0.out.2; have a1 := HM1.out.2; have a2 := HM2.out.2; have a3 := HM3.out.2; have a4 := HM4.out.2; have a5 := HM5.out.2; have a6 := HM6.out.2; have a7 := HM7.out.2; omega)
        have z6 : (9223372036854775807 < 5 + m0.size + 7 + m1.size + 3 + m2.size + 3 + m3.size) = False := eq_false (by have a0 := HM0.out.2; have a1 := HM1.out.2; have a2 := HM2.out.2; have a3 := HM3.out.2; have a4 := HM4.out.2; have a5 := HM5.out.2; have a6 := HM6.out.2; have a7 := HM7.out.2; omega)
        have z7 : (9223372036854775807 < 5 + m0.size + 7 + m1.size + 3 + m2.size + 3 + m3.size + 3) = False := eq_false (by have a0 := HM0.out.2; have a1 := HM1.out.2; have a2 := HM2.out.2; have a3 := HM3.out.2; have a4 := HM4.out.2; have a5 := HM5.out.2; have a6 := HM6.out.2; have a7 := HM7.out.2; omega)
        have z8 : (9223372036854775807 < 5 + m0.size + 7 + m1.size + 3 + m2.size + 3 + m3.size + 3 + m4.size) = False := eq_false (by have a0 := HM0.out.2; have a1 := HM1.out.2; have a2 := HM2.out.2; have a3 := HM3.out.2; have a4 := HM4.out.2; have a5 := HM5.out.2; have a6 := HM6.out.2; have a7 := HM7.out.2; omega)
        have z9 : (9223372036854775807 < 5 + m0.size + 7 + m1.size + 3 + m2.size + 3 + m3.size + 3 + m4.size + 5) = False := eq_false (by have a0 := HM0.out.2; have a1 := HM1.out.2; have a2 := HM2.out.2; have a3 := HM3.out.2; have a4 := HM4.out.2; have a5 := HM5.out.2; have a6 := HM6.out.2; have a7 := HM7.out.2; omega)
        have z10 : (9223372036854775807 < 5 + m0.size + 7 + m1.size + 3 + m2.size + 3 + m3.size + 3 + m4.size + 5 + m5.size) = False := eq_false (by have a0 := HM0.out.2; have a1 := HM1.out.2; have a2 := HM2.out.2; have a3 := HM3.out.2; have a4 := HM4.out.2; have a5 := HM5.out.2; have a6 := HM6.out.2; have a7 := HM7.out.2; omega)
        have z11 : (9223372036854775807 < 5 + m0.size + 7 + m1.size + 3 + m2.size + 3 + m3.size + 3 + m4.size + 5 + m5.size + 3) = False := eq_false (by have a0 := HM0.out.2; have a1 := HM1.out.2; have a2 := HM2.out.2; have a3 := HM3.out.2; have a4 := HM4.out.2; have a5 := HM5.out.2; have a6 := HM6.out.2; have a7 := HM7.out.2; omega)
        have z12 : (9223372036854775807 < 5 + m0.size + 7 + m1.size + 3 + m2.size + 3 + m3.size + 3 + m4.size + 5 + m5.size + 3 + m6.size) = False := eq_false (by have a0 := HM0.out.2; have a1 := HM1.out.2; have a2 := HM2.out.2; have a3 := HM3.out.2; have a4 := HM4.out.2; have a5 := HM5.out.2; have a6 := HM6.out.2; have a7 := HM7.out.2; omega)
        have z13 : (9223372036854775807 < 5 + m0.size + 7 + m1.size + 3 + m2.size + 3 + m3.size + 3 + m4.size + 5 + m5.size + 3 + m6.size + 4) = False := eq_false (by have a0 := HM0.out.2; have a1 := HM1.out.2; have a2 := HM2.out.2; have a3 := HM3.out.2; have a4 := HM4.out.2; have a5 := HM5.out.2; have a6 := HM6.out.2; have a7 := HM7.out.2; omega)
        have z14 : (9223372036854775807 < 5 + m0.size + 7 + m1.size + 3 + m2.size + 3 + m3.size + 3 + m4.size + 5 + m5.size + 3 + m6.size + 4 + m7.size) = False := eq_false (by have a0 := HM0.out.2; have a1 := HM1.out.2; have a2 := HM2.out.2; have a3 := HM3.out.2; have a4 := HM4.out.2; have a5 := HM5.out.2; have a6 := HM6.out.2; have a7 := HM7.out.2; omega)
        have z15 : (9223372036854775807 < 5 + m0.size + 7 + m1.size + 3 + m2.size + 3 + m3.size + 3 + m4.size + 5 + m5.size + 3 + m6.size + 4 + m7.size + 4) = False := eq_false (by have a0 := HM0.out.2; have a1 := HM1.out.2; have a2 := HM2.out.2; have a3 := HM3.out.2; have a4 := HM4.out.2; have a5 := HM5.out.2; have a6 := HM6.out.2; have a7 := HM7.out.2; omega)
        as_aux_lemma =>
        go_wp2_with fail
        go_quiet (fail)
        as_aux_lemma =>
        clear z0 z1 z2 z3 z4 z5 z6 z7 z8 z9 z10 z11 z12 z13 z14 z15 c0 c1 c2 c3 c4 c5 c6 c7
        have HBz : Aside0 (Below w.heap.size w (w9.drewN nq)) := ⟨pw_below_drewN HB9.out nq⟩
        obtain ⟨wz, hwz⟩ : ∃ wz, w9.drewN nq = wz := ⟨_, rfl⟩
        rw [hwz] at HBz ⊢
        have HKz : Aside0 (Aid.KeysIn wz) := ⟨hK.out.go HBz.out⟩
        have HTS : Aside0 ((txt m0 m1 m2 m3 m4 m5 m6 m7).size ≤ 2048) := ⟨by rw [txt_size]; have a0 := HM0.out.2; have a1 := HM1.out.2; have a2 := HM2.out.2; have a3 := HM3.out.2; have a4 := HM4.out.2; have a5 := HM5.out.2; have a6 := HM6.out.2; have a7 := HM7.out.2; omega⟩
        obtain ⟨p, hp1, hp2, hp3, hp4⟩ := txt_err k HK8.out HM0.out.1 HM1.out.1 HM2.out.1 HM3.out.1 HM4.out.1 HM5.out.1 HM6.out.1 HM7.out.1 HTS.out
        obtain ⟨tx, htx⟩ : ∃ tx, txt m0 m1 m2 m3 m4 m5 m6 m7 = tx := ⟨_, rfl⟩
        rw [htx] at hp1 hp2 hp3
        have htx2 := htx
        unfold txt at htx2
        rw [htx2]
        have HP1 := Aside0.mk hp1
        have HTS2 : Aside0 (tx.size ≤ 2048) := ⟨by rw [← htx]; exact HTS.out⟩
        have hts := HTS2.out
        clear hwz hp1 htx htx2 HP9 HM0 HM1 HM2 HM3 HM4 HM5 HM6 HM7 HTS HB9
        go_wp2_with fail
        refine (Parse_calls _ (l := L tx) rfl HP1.out wz HKz).mono ?_
        intro e wy he
        obtain ⟨rfl, hb⟩ := he
        have HBy := Aside0.mk (TkKey.below2 HBz.out hb)
        have hw4 : IntKind.i64.wrap ((p : Int) + 4) = (p : Int) + 4 := by rw [IntKind.wrap_i64]; omega
        have y1 : decide ((tx.size : Int) < (p : Int) + 4) = false := decide_eq_false (by omega)
        have y2 : ((tx.size : Int) < (p : Int) + 4) = False := eq_false (by omega)
        have y3 : (0 ≤ (p : Int)) = True := eq_true (by omega)
        have y4 : ((p : Int) ≤ (p : Int) + 4) = True := eq_true (by omega)
        have y5 : ((p : Int) + 4 ≤ (tx.size : Int)) = True := eq_true (by omega)
        have y6 : ((p : Int) + 4).toNat = p + 4 := by omega
        have y7 : decide ((0 : Int) < (p : Int)) = true := decide_eq_true (by omega)
        have y8 : ((0 : Int) < (p : Int)) = True := eq_true (by omega)
        have y9 : decide (0 < p) = true := decide_eq_true hp4
        have y10 : decide (tx.size < p + 4) = false := decide_eq_false (by omega)
        have y11 : (tx.size < p + 4) = False := eq_false (by omega)
        have y12 : (p + 4 ≤ tx.size) = True := eq_true (by omega)
        have y13 : (0 < p) = True := eq_true hp4
        have y14 : decide (p + 4 ≤ tx.size) = true := decide_eq_true (by omega)
        have y15 : decide ((p : Int) + 4 ≤ (tx.size : Int)) = true := decide_eq_true (by omega)
        clear hb hp2 hp4 hts HTS2
        go_upto_region 24 with (fail)
        as_aux_lemma =>
        by_cases hk0 : k = 0
        · have u1 : ((k : Int) == 0) = true := by rw [hk0]; rfl
          have u2 : decide ((k : Int) = 0) = true := decide_eq_true (by omega)
          have u3 : ((k : Int) = 0) = True := eq_true (by omega)
          have u4 : (k = 0) = True := eq_true hk0
          clear hk0
          go_wp2_with fail
          go_ret
          exact ⟨rfl, by first | exact HBy.out | exact HBy.out.alloc HBy.out.size _ | exact (below_alloc HBy.out _) | exact below_set (below_alloc HBy.out _) HBy.out.size⟩
        · have u1 : ((k : Int) == 0) = false := by simp; exact hk0
          have u2 : decide ((k : Int) = 0) = false := decide_eq_false (by omega)
          have u3 : ((k : Int) = 0) = False := eq_false (by omega)
          have u4 : (k = 0) = False := eq_false hk0
          clear hk0
          go_wp2_with fail
          go_ret
          exact ⟨rfl, by first | exact HBy.out | exact HBy.out.alloc HBy.out.size _ | exact (below_alloc HBy.out _) | exact below_set (below_alloc HBy.out _) HBy.out.size⟩
end Go.Proofs.YtkgnhghaiopgcaaDoor.Wk
