/- The walk of the parse laws' awake, and what it reads; no condition. -/
import Derived.Test.YtkgnhghaiopgcaaDoorPwd
import Derived.Test.YtkgnhghaiopgcaaDoorPk
set_option linter.unusedVariables false
set_option linter.unusedSimpArgs false
namespace Go.Proofs.YtkgnhghaiopgcaaDoor.Pt
open Go.Proofs.YtkgnhghaiopgcaaDoor.Gl Go.Proofs.YtkgnhghaiopgcaaDoor.X Go.Proofs.YtkgnhghaiopgcaaDoor.Kx Go.Proofs.YtkgnhghaiopgcaaDoor.Tk Go.Proofs.YtkgnhghaiopgcaaDoor.Tp Go.Proofs.YtkgnhghaiopgcaaDoor.Ps
def awakeT : List UInt8 := [116, 121, 112, 101, 32, 100, 111, 99, 32, 123, 32, 114, 101, 108, 32, 114, 32, 40, 118, 44, 32, 101, 44, 32, 99, 41, 58, 32, 117, 115, 101, 114, 44, 32, 103, 114, 111, 117, 112, 35, 109, 32, 105, 115, 32, 116, 104, 105, 115, 32, 124, 32, 97, 46, 98, 32, 45, 32, 99, 59, 32, 125]
theorem awake1 : parse awakeT = some (.ok [⟨⟨#[100, 111, 99]⟩, [⟨b1 114, b1 118, b1 101, b1 99, [⟨⟨#[117, 115, 101, 114]⟩, ⟨#[]⟩⟩, ⟨⟨#[103, 114, 111, 117, 112]⟩, b1 109⟩], [op1 1, ⟨3, b1 97, b1 98⟩, op1 4, ⟨2, b1 99, ⟨#[]⟩⟩, op1 6]⟩]⟩]) := by
  exact parse_lex (k := 100) (ts := (lexA 100 awakeT 0).getD []) (by decide +kernel) (by decide) (by kernel_rfl)
theorem awake2 : parse [116, 121, 112, 101, 32, 100, 111, 99, 32, 123, 32, 114, 101, 108] = some (.error (30, 14)) := by
  exact parse_lex (k := 100) (ts := (lexA 100 [116, 121, 112, 101, 32, 100, 111, 99, 32, 123, 32, 114, 101, 108] 0).getD []) (by decide +kernel) (by decide) (by kernel_rfl)
end Go.Proofs.YtkgnhghaiopgcaaDoor.Pt
namespace Go.Proofs.YtkgnhghaiopgcaaDoor.Pu
open Go.RowKit Go.Maps Go.Proofs.YtkgnhghaiopgcaaDoorW.PrintWords Go.Proofs.YtkgnhghaiopgcaaDoorW.PrintLast Go.Proofs.YtkgnhghaiopgcaaDoor.X Go.Proofs.YtkgnhghaiopgcaaDoor.Kx Go.Proofs.YtkgnhghaiopgcaaDoor.Gl Go.Proofs.YtkgnhghaiopgcaaDoor.GlFn Go.Proofs.YtkgnhghaiopgcaaDoor.Tk Go.Proofs.YtkgnhghaiopgcaaDoor.Ps Go.Proofs.YtkgnhghaiopgcaaDoor.Pw Go.Proofs.YtkgnhghaiopgcaaDoor.Pt

set_option maxHeartbeats 8000000 in
set_option maxRecDepth 100000 in
theorem awake_calls (w : World) (hK : Aside0 (Aid.KeysIn w)) : Calls Tryd.prog 32 #[] w fun e w' => e = .returned (.bool true) ∧ Below w.heap.size w w' := by
  go_enter Tryd.func32, Tryd.ntmps32
  go_wp2_with fail
  refine (Parse_calls _ (l := awakeT) rfl awake1 w hK).mono ?_
  intro e w1 he
  obtain ⟨v, rfl, hv, hb⟩ := he
  obtain ⟨A, c, rfl⟩ := Kd.R_slice hv
  have HK1 : Aside0 (Aid.KeysIn (w1.alloc (.cells #[.slice A 1 c] 43))) := ⟨hK.out.go (hb.trans ((below_alloc (Below.refl _ _) _).mono hb.size))⟩
  have HV : Aside0 (k53.R 53 w1 w.heap.size (fun _ => True) (.slice A 1 c) _) := ⟨hv⟩
  have HB := Aside0.mk hb
  have HS : Aside0 ((w1.alloc (.cells #[.slice A 1 c] 43)).heap[w1.heap.size]? = some (.cells #[.slice A 1 c] 43 (0, 0))) := ⟨(Go.MapKept.heap_alloc w1 _).1⟩
  have hsz : w.heap.size ≤ w1.heap.size := hb.size
  have HSZ := Aside0.mk hsz
  clear hv hb hsz
  go_wp2_with fail
  refine (Parse_calls _ (l := [116, 121, 112, 101, 32, 100, 111, 99, 32, 123, 32, 114, 101, 108]) rfl awake2 _ HK1).mono ?_
  intro e w2 he
  obtain ⟨rfl, hb⟩ := he
  have hs1 : (w1.alloc (.cells #[.slice A 1 c] 43)).heap.size = w1.heap.size + 1 := by simp
  rw [hs1] at hb
  have HS2 : Aside0 (w2.heap[w1.heap.size]? = some (.cells #[.slice A 1 c] 43 (0, 0))) := ⟨(hb.block _ (Nat.lt_succ_self _)).trans HS.out⟩
  have HB2 : Aside0 (Below w1.heap.size w1 w2) := ⟨(below_alloc (Below.refl _ _) _).trans (hb.mono (by omega))⟩
  clear hb hs1 HS HK1
  go_upto_region 3 with (fail)
  obtain ⟨w3, hw3⟩ : ∃ w3, w2.alloc (.cells #[.slice none 0 0] 43) = w3 := ⟨_, rfl⟩
  have HS3 : Aside0 (w3.heap[w1.heap.size]? = some (.cells #[.slice A 1 c] 43 (0, 0))) := ⟨by rw [← hw3, Below.heap_alloc _ _ _ (blk_lt HS2.out)]; exact HS2.out⟩
  have HB3 : Aside0 (Below w1.heap.size w1 w3) := ⟨by rw [← hw3]; exact HB2.out.trans ((below_alloc (Below.refl _ _) _).mono HB2.out.size)⟩
  rw [hw3]
  clear hw3 HS2 HB2
  have hC := (Kd.R_reads' (Kd.R_below HV.out HB3.out)).2.2
  obtain ⟨ad, A1, c1, rfl, t0, t1, t2, hC1⟩ := at_T53 hC 0 (by decide) (by decide)
  obtain ⟨ad1, A2, c2, A3, c3, rfl, r0, r1, r2, r3, r4, r5, r6, hC2, r7, hC3⟩ := at_T57 hC1 0 (by decide) (by decide)
  have s0 := blk_cell HS3.out 0
  have e0 : ad.add ((0 : Int).toNat * 2) = ad := by unfold Addr.add; split <;> simp_all
  have e1 : ad1.add ((0 : Int).toNat * 6) = ad1 := by unfold Addr.add; split <;> simp_all
  rw [e0] at t1
  rw [e1] at r0 r1 r2 r3 r4 r5
  have t1' : w3.cell? ⟨ad.block, ad.off + 1, none⟩ = some (.slice (some ad1) 1 c1) := t1
  have HR := Aside0.mk (And.intro r0 (And.intro r1 (And.intro r2 (And.intro r3 (And.intro r4 r5)))))
  have HC2 := Aside0.mk hC2
  have HC3 := Aside0.mk hC3
  clear hC hC1 hC2 hC3 e0 e1 t1 t0 t2 r0 r1 r2 r3 r4 r5 r6 r7
  go_upto_region 5 with (fail)
  obtain ⟨r0, r1, r2, r3, r4, r5⟩ := HR.out
  have r0' : w3.cell? ad1 = some (.string (b1 114)) := r0
  have r1' : w3.cell? ⟨ad1.block, ad1.off + 1, none⟩ = some (.string (b1 118)) := r1
  have r2' : w3.cell? ⟨ad1.block, ad1.off + 2, none⟩ = some (.string (b1 101)) := r2
  have r3' : w3.cell? ⟨ad1.block, ad1.off + 3, none⟩ = some (.string (b1 99)) := r3
  have r4' : w3.cell? ⟨ad1.block, ad1.off + 4, none⟩ = some (.slice A2 2 c2) := r4
  have r5' : w3.cell? ⟨ad1.block, ad1.off + 5, none⟩ = some (.slice A3 5 c3) := r5
  clear r0 r1 r2 r3 r4 r5 HR
  go_upto_region 6 with (fail)
  have HT6 : Aside0 ((w3.alloc (.cells #[.string (b1 114), .string (b1 118), .string (b1 101), .string (b1 99), .slice A2 2 c2, .slice A3 5 c3] 57)).heap[w3.heap.size]? = some (.cells #[.string (b1 114), .string (b1 118), .string (b1 101), .string (b1 99), .slice A2 2 c2, .slice A3 5 c3] 57 (0, 0))) := ⟨(Go.MapKept.heap_alloc w3 _).1⟩
  have HC26 := Aside0.mk (Kd.C_alloc HC2.out (.cells #[.string (b1 114), .string (b1 118), .string (b1 101), .string (b1 99), .slice A2 2 c2, .slice A3 5 c3] 57))
  have HC36 := Aside0.mk (Kd.C_alloc HC3.out (.cells #[.string (b1 114), .string (b1 118), .string (b1 101), .string (b1 99), .slice A2 2 c2, .slice A3 5 c3] 57))
  have HB6 : Aside0 (Below w.heap.size w (w3.alloc (.cells #[.string (b1 114), .string (b1 118), .string (b1 101), .string (b1 99), .slice A2 2 c2, .slice A3 5 c3] 57))) := ⟨(HB.out.trans (HB3.out.mono HSZ.out)).trans ((below_alloc (Below.refl _ _) _).mono (by have := HB3.out.size; have := HSZ.out; omega))⟩
  obtain ⟨w6, hw6⟩ : ∃ w6, (w3.alloc (.cells #[.string (b1 114), .string (b1 118), .string (b1 101), .string (b1 99), .slice A2 2 c2, .slice A3 5 c3] 57)) = w6 := ⟨_, rfl⟩
  rw [hw6] at HT6 HC26 HC36 HB6 ⊢
  clear hw6 r0' r1' r2' r3' r4' r5' HC2 HC3 s0 t1'
  have u3 := blk_cell HT6.out 3
  have u4 := blk_cell HT6.out 4
  have u5 := blk_cell HT6.out 5
  obtain ⟨ad2, rfl, a0, a1⟩ := at_T62 HC26.out 1 (by decide) (by decide)
  obtain ⟨ad3, rfl, o10, o11, o12⟩ := at_T59 HC36.out 1 (by decide) (by decide)
  obtain ⟨ad3', e3, o20, _⟩ := at_T59 HC36.out 2 (by decide) (by decide)
  obtain rfl : ad3 = ad3' := by injection e3
  obtain ⟨ad3', e3, o30, _⟩ := at_T59 HC36.out 3 (by decide) (by decide)
  obtain rfl : ad3 = ad3' := by injection e3
  obtain ⟨ad3', e3, o40, _⟩ := at_T59 HC36.out 4 (by decide) (by decide)
  obtain rfl : ad3 = ad3' := by injection e3
  have a0' : w6.cell? ⟨ad2.block, ad2.off + 2, none⟩ = some (.string ⟨#[103, 114, 111, 117, 112]⟩) := by
    have h : w6.cell? (ad2.add 2) = some (.string ⟨#[103, 114, 111, 117, 112]⟩) := a0
    have e : ad2.add 2 = ⟨ad2.block, ad2.off + 2, none⟩ := by simp [Addr.add]
    rw [e] at h
    exact h
  have a1' : w6.cell? ⟨ad2.block, ad2.off + 2 + 1, none⟩ = some (.string ⟨#[109]⟩) := by
    have h : w6.cell? ⟨(ad2.add 2).block, (ad2.add 2).off + 1, none⟩ = some (.string ⟨#[109]⟩) := a1
    have e : ad2.add 2 = ⟨ad2.block, ad2.off + 2, none⟩ := by simp [Addr.add]
    rw [e] at h
    exact h
  have o10' : w6.cell? ⟨ad3.block, ad3.off + 3, none⟩ = some (.int .i64 3) := by
    have h : w6.cell? (ad3.add 3) = some (.int .i64 3) := o10
    have e : ad3.add 3 = ⟨ad3.block, ad3.off + 3, none⟩ := by simp [Addr.add]
    rw [e] at h
    exact h
  have o11' : w6.cell? ⟨ad3.block, ad3.off + 3 + 1, none⟩ = some (.string ⟨#[97]⟩) := by
    have h : w6.cell? ⟨(ad3.add 3).block, (ad3.add 3).off + 1, none⟩ = some (.string ⟨#[97]⟩) := o11
    have e : ad3.add 3 = ⟨ad3.block, ad3.off + 3, none⟩ := by simp [Addr.add]
    rw [e] at h
    exact h
  have o12' : w6.cell? ⟨ad3.block, ad3.off + 3 + 2, none⟩ = some (.string ⟨#[98]⟩) := by
    have h : w6.cell? ⟨(ad3.add 3).block, (ad3.add 3).off + 2, none⟩ = some (.string ⟨#[98]⟩) := o12
    have e : ad3.add 3 = ⟨ad3.block, ad3.off + 3, none⟩ := by simp [Addr.add]
    rw [e] at h
    exact h
  have o20' : w6.cell? ⟨ad3.block, ad3.off + 6, none⟩ = some (.int .i64 4) := by
    have h : w6.cell? (ad3.add 6) = some (.int .i64 4) := o20
    have e : ad3.add 6 = ⟨ad3.block, ad3.off + 6, none⟩ := by simp [Addr.add]
    rw [e] at h
    exact h
  have o30' : w6.cell? ⟨ad3.block, ad3.off + 9, none⟩ = some (.int .i64 2) := by
    have h : w6.cell? (ad3.add 9) = some (.int .i64 2) := o30
    have e : ad3.add 9 = ⟨ad3.block, ad3.off + 9, none⟩ := by simp [Addr.add]
    rw [e] at h
    exact h
  have o40' : w6.cell? ⟨ad3.block, ad3.off + 12, none⟩ = some (.int .i64 6) := by
    have h : w6.cell? (ad3.add 12) = some (.int .i64 6) := o40
    have e : ad3.add 12 = ⟨ad3.block, ad3.off + 12, none⟩ := by simp [Addr.add]
    rw [e] at h
    exact h
  clear a0 a1 o10 o11 o12 o20 o30 o40
  unfold b1 at u3
  go_wp2
  go_ret
  exact ⟨rfl, HB6.out⟩
end Go.Proofs.YtkgnhghaiopgcaaDoor.Pu
