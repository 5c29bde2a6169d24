/- For every row of signs ParseLeft returns true: signs bind alike, from the left on. No condition. -/
import Derived.Test.YtkgnhghaiopgcaaDoorWkByte
import Derived.Test.YtkgnhghaiopgcaaDoorPu
import Derived.Test.YtkgnhghaiopgcaaDoorPt
import Derived.Deep.QuietTactic
import Derived.BigQuiet
set_option linter.unusedVariables false
set_option linter.unusedSimpArgs false
namespace Go.Proofs.YtkgnhghaiopgcaaDoor.Wk
open Go.RowKit Go.Maps Go.Proofs.YtkgnhghaiopgcaaDoorW.PrintWords Go.Proofs.YtkgnhghaiopgcaaDoorW.PrintLast Go.Proofs.YtkgnhghaiopgcaaDoor.X Go.Proofs.YtkgnhghaiopgcaaDoor.Kx Go.Proofs.YtkgnhghaiopgcaaDoor.Gl Go.Proofs.YtkgnhghaiopgcaaDoor.GlFn Go.Proofs.YtkgnhghaiopgcaaDoor.Tk Go.Proofs.YtkgnhghaiopgcaaDoor.Ps Go.Proofs.YtkgnhghaiopgcaaDoor.Pw Go.Proofs.YtkgnhghaiopgcaaDoor.Pn

def gsOf (zs : List Int) : List Nat := zs.map Int.toNat
def opsL (gs : List Nat) : List SO := ⟨2, B [112, 48], ⟨#[]⟩⟩ :: lops gs
theorem lops_len : ∀ gs : List Nat, (lops gs).length = 2 * gs.length
  | [] => rfl
  | g :: gs => by
    have := lops_len gs
    unfold lops at this ⊢
    rw [List.map_cons, List.flatten_cons, List.length_append, this]
    simp only [List.length_cons, List.length_nil]; omega
theorem lops_at : ∀ (gs : List Nat) (i : Nat) (h : i < gs.length), (lops gs)[2 * i]? = some (op1 1) ∧ (lops gs)[2 * i + 1]? = some (op1 (4 + ((gs[i] % 3 : Nat) : Int)))
  | [], i, h => by simp at h
  | g :: gs, 0, h => by unfold lops; exact ⟨rfl, rfl⟩
  | g :: gs, i + 1, h => by
    obtain ⟨a, b⟩ := lops_at gs i (by simpa using h)
    have e : lops (g :: gs) = op1 1 :: op1 (4 + ((g % 3 : Nat) : Int)) :: lops gs := by unfold lops; rfl
    rw [e]
    refine ⟨?_, ?_⟩
    · rw [show 2 * (i + 1) = 2 * i + 1 + 1 by omega, List.getElem?_cons_succ, List.getElem?_cons_succ]; exact a
    · rw [show 2 * (i + 1) + 1 = (2 * i + 1) + 1 + 1 by omega, List.getElem?_cons_succ, List.getElem?_cons_succ]; exact b
theorem rd_some {l : List SO} {i : Nat} {o : SO} (h : l[i]? = some o) : rd_T59 l (i : Int) = o := by
  unfold rd_T59; rw [Int.toNat_natCast, List.getD_eq_getElem?_getD, h]; rfl
theorem opsL_at (gs : List Nat) (i : Nat) (h : i < gs.length) : rd_T59 (opsL gs) ((2 * i + 1 : Nat) : Int) = op1 1 ∧ rd_T59 (opsL gs) ((2 * i + 2 : Nat) : Int) = op1 (4 + ((gs[i] % 3 : Nat) : Int)) := by
  obtain ⟨a, b⟩ := lops_at gs i h
  exact ⟨rd_some (by unfold opsL; rw [List.getElem?_cons_succ]; exact a), rd_some (by unfold opsL; rw [show 2 * i + 2 = (2 * i + 1) + 1 by omega, List.getElem?_cons_succ]; exact b)⟩
def bHead : ByteArray := ⟨#[116, 121, 112, 101, 32, 116, 32, 123, 32, 114, 101, 108, 32, 114, 32, 40, 114, 44, 32, 114, 44, 32, 114, 41, 58, 32, 116, 32, 105, 115, 32, 112, 48]⟩
theorem L_append2 (a b : ByteArray) : L (a ++ b) = L a ++ L b := by simp [L, ByteArray.data_append]
theorem left_text (T : ByteArray) (gs : List Nat) (h : L T = lhead ++ (gs.map lpiece).flatten) : L (T ++ (⟨#[59, 32, 125]⟩ : ByteArray)) = lhead ++ ltext gs := by
  rw [L_append2, h]
  unfold ltext
  rw [← List.append_assoc]; rfl
theorem left_snoc (T s : ByteArray) (gs : List Nat) (i : Nat) (hi : i < gs.length) (h : L T = lhead ++ ((gs.take i).map lpiece).flatten) (hs : L s = lpiece gs[i]) : L (T ++ s) = lhead ++ ((gs.take (i + 1)).map lpiece).flatten := by
  rw [L_append2, h, hs, ← List.take_append_getElem hi, List.map_append, List.flatten_append, List.append_assoc]; rfl

def RL (gs : List Nat) : SR := ⟨B [114], B [114], B [114], B [114], [⟨B [116], ⟨#[]⟩⟩], opsL gs⟩
structure OpsAt (ol : List SO) (zs : List Int) (n : Nat) : Prop where
  len : ol.length = 2 * n + 1
  h0 : rd_T59 ol 0 = ⟨2, ⟨#[112, 48]⟩, ⟨#[]⟩⟩
  hi : ∀ (x z : Int), 0 ≤ x → zs[x.toNat]? = some z → 0 ≤ z → (rd_T59 ol (2 * x + 1)).f0 = 1 ∧ (rd_T59 ol (2 * x + 2)).f0 = 4 + z % 3
theorem opsAt (zs : List Int) : OpsAt (opsL (gsOf zs)) zs zs.length := by
  refine ⟨?_, rfl, ?_⟩
  · unfold opsL gsOf; rw [List.length_cons, lops_len, List.length_map]
  · intro x z hx hz hz0
    obtain ⟨i, rfl⟩ := Int.eq_ofNat_of_zero_le hx
    rw [Int.toNat_natCast] at hz
    have hi : i < (gsOf zs).length := by unfold gsOf; rw [List.length_map]; exact (List.getElem?_eq_some_iff.1 hz).1
    have hg : (gsOf zs)[i] = z.toNat := by
      have : (gsOf zs)[i]? = some z.toNat := by unfold gsOf; rw [List.getElem?_map, hz]; rfl
      rw [List.getElem?_eq_getElem hi] at this; exact Option.some.inj this
    obtain ⟨a, b⟩ := opsL_at (gsOf zs) i hi
    rw [hg] at b
    rw [show (2 * (i : Int) + 1) = ((2 * i + 1 : Nat) : Int) by omega, show (2 * (i : Int) + 2) = ((2 * i + 2 : Nat) : Int) by omega, a, b]
    refine ⟨rfl, ?_⟩
    show (4 : Int) + ((z.toNat % 3 : Nat) : Int) = _
    omega
set_option maxHeartbeats 8000000 in
set_option maxRecDepth 100000 in
theorem ParseLeft (a0 : Option Addr) (len0 cap0 : Nat) (z0 : List Int) (w : World) (hK : Aside0 (Aid.KeysIn w)) (w0 : ByteRow w a0 len0 cap0 z0) :
    Calls Tryd.prog 14 #[.slice a0 len0 cap0] w fun e w' => e = .returned (.bool true) ∧ Below w.heap.size w w' := by
  have W0 := Aside0.mk w0
  clear w0
  by_cases c1 : (len0 : Int) > 14
  · have d1 : decide ((14 : Int) < (len0 : Int)) = true := decide_eq_true c1
    have d2 : decide (14 < len0) = true := decide_eq_true (by omega)
    clear c1
    go_enter Tryd.func14, Tryd.ntmps14
    go_wp2_with fail
    refine (Pu.awake_calls _ hK).mono ?_
    rintro e w2 ⟨rfl, hb⟩
    go_wp2
    go_ret
    exact ⟨rfl, hb⟩
  have d1 : decide ((14 : Int) < (len0 : Int)) = false := decide_eq_false c1
  have d2 : decide (14 < len0) = false := decide_eq_false (by omega)
  have hl14 : len0 ≤ 14 := by omega
  obtain ⟨gs, hgs⟩ : ∃ gs, gsOf z0 = gs := ⟨_, rfl⟩
  have hgl : gs.length = len0 := by rw [← hgs]; unfold gsOf; rw [List.length_map]; exact W0.out.hl
  have HG := Aside0.mk hgs
  have HGL := Aside0.mk hgl
  clear c1 hgs hgl
  go_enter Tryd.func14, Tryd.ntmps14
  go_wp2_with fail
  refine (Pu.awake_calls _ hK).mono ?_
  rintro e w2 ⟨rfl, hb⟩
  have HB := Aside0.mk hb
  have W2 := Aside0.mk (W0.out.below hb)
  have HK2 : Aside0 (Aid.KeysIn w2) := ⟨hK.out.go hb⟩
  clear hb W0
  go_wp2
  go_loopg [4, 5] (len0 + 1) (fun g v4 v5 wx => ∃ (i : Nat) (T : ByteArray), v5 = .int .i64 i ∧ v4 = .string T ∧ i + g = len0 + 1 ∧ i ≤ len0 ∧ Aside0 (L T = lhead ++ ((gs.take i).map lpiece).flatten ∧ T.size = 33 + 7 * i) ∧ Aside0 (Below w2.heap.size w2 wx))
  case atStart => exact ⟨0, _, rfl, rfl, by omega, Nat.zero_le _, ⟨rfl, rfl⟩, ⟨Below.refl _ _⟩⟩
  case round =>
    obtain ⟨i, T, rfl, rfl, hi, hil, HT, HBx⟩ := hrel
    rename World => wx
    cases gk with
    | zero => omega
    | succ g1 =>
      by_cases hlt : i < len0
      · have e1 : decide ((i : Int) < (len0 : Int)) = true := decide_eq_true (by omega)
        have e2 : ((i : Int) < (len0 : Int)) = True := eq_true (by omega)
        have e3 : decide (i < len0) = true := decide_eq_true hlt
        have e4 : (0 ≤ (i : Int)) = True := eq_true (by omega)
        obtain ⟨ad, ea, c0⟩ := (W2.out.below HBx.out).cells i hlt
        subst ea
        obtain ⟨z, hz⟩ : ∃ z, z0.getD i 0 = z := ⟨_, rfl⟩
        have hzl : i < z0.length := by rw [W2.out.hl]; exact hlt
        have hzm : z ∈ z0 := by rw [← hz, List.getD_eq_getElem?_getD, List.getElem?_eq_getElem hzl]; exact List.getElem_mem hzl
        have hgl : i < gs.length := by rw [HGL.out]; exact hlt
        have hgz : gs[i] = z.toNat := by
          have : gs[i]? = some z.toNat := by rw [← HG.out]; unfold gsOf; rw [List.getElem?_map, List.getElem?_eq_getElem hzl, ← hz, List.getD_eq_getElem?_getD, List.getElem?_eq_getElem hzl]; rfl
          rw [List.getElem?_eq_getElem hgl] at this
          exact Option.some.inj this
        obtain ⟨hz1, hz2⟩ := W2.out.wf z hzm
        rw [hz] at c0
        have hw : IntKind.i64.wrap ((i : Int) + 1) = ((i + 1 : Nat) : Int) := by rw [IntKind.wrap_i64]; omega
        have hsz : (9223372036854775807 < T.size + 7) = False := eq_false (by have := HT.out.2; omega)
        have HI := Aside0.mk (And.intro hi (And.intro hil hlt))
        have HS : ∀ s : ByteArray, L s = lpiece gs[i] → s.size = 7 → Aside0 (L (T ++ s) = lhead ++ ((gs.take (i + 1)).map lpiece).flatten ∧ (T ++ s).size = 33 + 7 * (i + 1)) := fun s h1 h2 => ⟨left_snoc T s gs i hgl HT.out.1 h1, by rw [ByteArray.size_append, h2, HT.out.2]; omega⟩
        rw [hgz] at HS
        have hcase : z % 3 = 0 ∨ z % 3 = 1 ∨ z % 3 = 2 := by omega
        have hz3 : (z.toNat : Nat) % 3 = (z % 3).toNat := by omega
        have HC : Aside0 (wx.cell? (ad.add i) = some (.int .u8 z)) := ⟨c0⟩
        have c1 := pw_cell_below (below_alloc (Below.refl wx.heap.size wx) (.cells #[.string ⟨#[32, 124, 32]⟩, .string ⟨#[32, 38, 32]⟩, .string ⟨#[32, 45, 32]⟩] 9)) HC.out
        have HK : (wx.alloc (.cells #[.string ⟨#[32, 124, 32]⟩, .string ⟨#[32, 38, 32]⟩, .string ⟨#[32, 45, 32]⟩] 9)).heap[wx.heap.size]? = some (.cells #[.string ⟨#[32, 124, 32]⟩, .string ⟨#[32, 38, 32]⟩, .string ⟨#[32, 45, 32]⟩] 9 (0, 0)) := (Go.MapKept.heap_alloc wx _).1
        have k0 := blk_cell HK 0
        have k1 := blk_cell HK 1
        have k2 := blk_cell HK 2
        have HBn : Aside0 (Below w2.heap.size w2 (wx.alloc (.cells #[.string ⟨#[32, 124, 32]⟩, .string ⟨#[32, 38, 32]⟩, .string ⟨#[32, 45, 32]⟩] 9))) := ⟨HBx.out.trans ((below_alloc (Below.refl _ _) _).mono HBx.out.size)⟩
        clear HK HC
        rcases hcase with h | h | h
        · have H1 := HS ⟨#[32, 124, 32, 116, 104, 105, 115]⟩ (by unfold lpiece sgn; rw [hz3, h]; rfl) rfl
          clear HS hz3 hz hzl hzm hgl hgz hi hil hlt HT c0
          go_wp2
          go_roundg g1
          case measure => omega
          case rel => exact ⟨i + 1, _, by simp, rfl, by have := HI.out; omega, by have := HI.out; omega, H1, HBn⟩
        · have H1 := HS ⟨#[32, 38, 32, 116, 104, 105, 115]⟩ (by unfold lpiece sgn; rw [hz3, h]; rfl) rfl
          clear HS hz3 hz hzl hzm hgl hgz hi hil hlt HT c0
          go_wp2
          go_roundg g1
          case measure => omega
          case rel => exact ⟨i + 1, _, by simp, rfl, by have := HI.out; omega, by have := HI.out; omega, H1, HBn⟩
        · have H1 := HS ⟨#[32, 45, 32, 116, 104, 105, 115]⟩ (by unfold lpiece sgn; rw [hz3, h]; rfl) rfl
          clear HS hz3 hz hzl hzm hgl hgz hi hil hlt HT c0
          go_wp2
          go_roundg g1
          case measure => omega
          case rel => exact ⟨i + 1, _, by simp, rfl, by have := HI.out; omega, by have := HI.out; omega, H1, HBn⟩
      · have e1 : decide ((i : Int) < (len0 : Int)) = false := decide_eq_false (by omega)
        have e2 : ((i : Int) < (len0 : Int)) = False := eq_false (by omega)
        have e3 : decide (i < len0) = false := decide_eq_false hlt
        have hii : i = len0 := by omega
        have HTx : Aside0 (L T = lhead ++ (gs.map lpiece).flatten ∧ T.size ≤ 131) := ⟨by have := HT.out.1; rwa [hii, ← HGL.out, List.take_length] at this, by have := HT.out.2; omega⟩
        have hsz : (9223372036854775807 < T.size + 3) = False := eq_false (by have := HTx.out.2; omega)
        have HKx : Aside0 (Aid.KeysIn wx) := ⟨HK2.out.go HBx.out⟩
        have HPz : Aside0 (parse (L (T ++ (⟨#[59, 32, 125]⟩ : ByteArray))) = _) := ⟨(congrArg parse (left_text T gs HTx.out.1)).trans (left_parse gs (by rw [HGL.out]; exact hl14))⟩
        have HBw : Aside0 (Below w.heap.size w wx) := ⟨HB.out.trans (HBx.out.mono HB.out.size)⟩
        have Wx := Aside0.mk (W2.out.below HBx.out)
        clear hlt hi hil hii HT HBx W2 HB
        go_wp2_with fail
        refine (Parse_calls _ rfl HPz.out wx HKx).mono ?_
        intro e w3 he
        obtain ⟨v, rfl, hv, hb⟩ := he
        obtain ⟨A, c, rfl⟩ := Kd.R_slice hv
        have hC0 := (Kd.R_reads' hv).2.2
        have HS4 : Aside0 ((w3.alloc (.cells #[.slice A 1 c] 43)).heap[w3.heap.size]? = some (.cells #[.slice A 1 c] 43 (0, 0))) := ⟨(Go.MapKept.heap_alloc w3 _).1⟩
        have HB3 : Below wx.heap.size wx (w3.alloc (.cells #[.slice A 1 c] 43)) := hb.trans ((below_alloc (Below.refl _ _) _).mono hb.size)
        have HB4 : Aside0 (Below w.heap.size w (w3.alloc (.cells #[.slice A 1 c] 43))) := ⟨HBw.out.trans (HB3.mono HBw.out.size)⟩
        have W4 := Aside0.mk (Wx.out.below HB3)
        have hC := Kd.C_alloc hC0 (.cells #[.slice A 1 c] 43)
        obtain ⟨w4, hw4⟩ : ∃ w4, w3.alloc (.cells #[.slice A 1 c] 43) = w4 := ⟨_, rfl⟩
        have HW := Aside0.mk hw4
        rw [hw4] at HS4 HB4 W4 hC
        clear hb hv hC0 HB3 Wx hw4 HBw HKx
        go_upto_region 12 with (fail)
        rw [HW.out]
        obtain ⟨p, hp⟩ : ∃ p, w3.heap.size = p := ⟨_, rfl⟩
        rw [hp] at HS4 ⊢
        clear HW hp
        obtain ⟨ad, A1, c1, rfl, t0, t1, t2, hC1⟩ := at_T53 hC 0 (by decide) (show (0 : Int) < ((1 : Nat) : Int) from by decide)
        obtain ⟨ad1, A2, c2, A3, c3, rfl, r0, r1, r2, r3, r4, r5, r6, hC2, r7, hC3⟩ := at_T57 hC1 0 (by decide) (show (0 : Int) < ((1 : Nat) : Int) from by decide)
        have hOA : OpsAt (opsL gs) z0 len0 := by have := opsAt z0; rw [HG.out, W4.out.hl] at this; exact this
        have t1' : w4.cell? ⟨ad.block, ad.off + 1, none⟩ = some (.slice (some ad1) 1 c1) := by
          have h : w4.cell? ⟨(ad.add 0).block, (ad.add 0).off + 1, none⟩ = some (.slice (some ad1) 1 c1) := t1
          have e : ad.add 0 = ad := by unfold Addr.add; split <;> simp_all
          rwa [e] at h
        have r5' : w4.cell? ⟨ad1.block, ad1.off + 5, none⟩ = some (.slice A3 (opsL gs).length c3) := by
          have h : w4.cell? ⟨(ad1.add 0).block, (ad1.add 0).off + 5, none⟩ = some (.slice A3 (opsL gs).length c3) := r5
          have e : ad1.add 0 = ad1 := by unfold Addr.add; split <;> simp_all
          rwa [e] at h
        have hC3' : Kd.C k59 w4 A3 (opsL gs).length (opsL gs) := hC3
        obtain ⟨ol, hol⟩ : ∃ ol, opsL gs = ol := ⟨_, rfl⟩
        rw [hol] at hOA r5' hC3'
        have HOA := Aside0.mk hOA
        have HC3 := Aside0.mk hC3'
        have hol1 := hOA.len
        obtain ⟨ad3, rfl, o0, o1, o2⟩ := at_T59 hC3' 0 (by decide) (by omega)
        have o1' : w4.cell? ⟨ad3.block, ad3.off + 1, none⟩ = some (.string ⟨#[112, 48]⟩) := by
          rw [hOA.h0] at o1
          have h : w4.cell? ⟨(ad3.add 0).block, (ad3.add 0).off + 1, none⟩ = some (.string ⟨#[112, 48]⟩) := o1
          have e : ad3.add 0 = ad3 := by unfold Addr.add; split <;> simp_all
          rwa [e] at h
        have HL0 := Aside0.mk hol1
        clear hol1 hol HG HGL HTx t0 t1 t2 r0 r1 r2 r3 r4 r5 r6 r7 hC hC1 hC2 hC3 hC3' o0 o1 o2 hOA HPz hsz
        have s0 := blk_cell HS4.out 0
        go_upto_region 15 with (fail)
        have hol1 := HL0.out
        have q1 : ((ol.length : Int) != 2 * (len0 : Int) + 1) = false := by rw [bne_eq_false_iff_eq]; omega
        have q2 : decide ((0 : Int) < (ol.length : Int)) = true := decide_eq_true (by omega)
        have q3 : ((0 : Int) < (ol.length : Int)) = True := eq_true (by omega)
        have q4 : decide (0 < ol.length) = true := decide_eq_true (by omega)
        have q5 : (0 < ol.length) = True := eq_true (by omega)
        have HL1 := Aside0.mk hol1
        clear hol1 s0 t1' r5'
        go_wp2
        clear q1 q2 q3 q4 q5 o1'
        go_loopg [10] len0 (fun kq v10 wr => ∃ x : Int, v10 = .int .i64 x ∧ Aside0 (0 ≤ x ∧ x + kq = len0) ∧ Aside0 (Below w4.heap.size w4 wr))
        case atStart => exact ⟨0, rfl, ⟨by omega, by omega⟩, ⟨Below.refl _ _⟩⟩
        case round =>
          obtain ⟨x, rfl, Hx, HBr⟩ := hrel
          rename World => wr
          obtain ⟨hx0, hx1⟩ := Hx.out
          cases gk with
          | zero =>
            have t1 : decide (x < (len0 : Int)) = false := decide_eq_false (by omega)
            have t2 : (x < (len0 : Int)) = False := eq_false (by omega)
            clear hx0 hx1
            go_wp2
            go_ret
            exact ⟨rfl, HB4.out.trans (HBr.out.mono HB4.out.size)⟩
          | succ k1 =>
            have u1 : decide (x < (len0 : Int)) = true := decide_eq_true (by omega)
            have b1 : decide (0 ≤ x) = true := decide_eq_true hx0
            have b2 : (0 ≤ x) = True := eq_true hx0
            have b3 : (x < (len0 : Int)) = True := eq_true (by omega)
            have Wr := W4.out.below HBr.out
            obtain ⟨az, ez, c0⟩ := Wr.cells x.toNat (by omega)
            subst ez
            obtain ⟨z, hz⟩ : ∃ z, z0.getD x.toNat 0 = z := ⟨_, rfl⟩
            have hzl : x.toNat < z0.length := by rw [Wr.hl]; omega
            have hz' : z0[x.toNat]? = some z := by rw [← hz, List.getD_eq_getElem?_getD, List.getElem?_eq_getElem hzl]; rfl
            obtain ⟨hz1, hz2⟩ := Wr.wf z (List.mem_of_getElem? hz')
            obtain ⟨v1, v2⟩ := HOA.out.hi x z hx0 hz' hz1
            have hLL := HL1.out
            obtain ⟨ae1, y1, o10, o11, o12⟩ := at_T59 (Kd.C_below HC3.out HBr.out) (2 * x + 1) (by omega) (by omega)
            obtain ⟨ae2, y2, o20, o21, o22⟩ := at_T59 (Kd.C_below HC3.out HBr.out) (2 * x + 2) (by omega) (by omega)
            obtain rfl : ad3 = ae1 := by injection y1
            obtain rfl : ad3 = ae2 := by injection y2
            rw [v1] at o10
            rw [v2] at o20
            rw [hz] at c0
            have b4 : (0 ≤ 2 * x + 1) = True := eq_true (by omega)
            have b5 : (2 * x + 1 < (ol.length : Int)) = True := eq_true (by omega)
            have b6 : (0 ≤ 2 * x + 2) = True := eq_true (by omega)
            have b7 : (2 * x + 2 < (ol.length : Int)) = True := eq_true (by omega)
            have t8 : IntKind.i64.wrap (x + 1) = x + 1 := by rw [IntKind.wrap_i64]; omega
            have t9 : IntKind.i64.wrap (2 * x) = 2 * x := by rw [IntKind.wrap_i64]; omega
            have t10 : IntKind.i64.wrap (2 * x + 1) = 2 * x + 1 := by rw [IntKind.wrap_i64]; omega
            have t11 : IntKind.i64.wrap (2 * x + 2) = 2 * x + 2 := by rw [IntKind.wrap_i64]; omega
            have t12 : IntKind.i64.wrap (4 + z % 3) = 4 + z % 3 := by rw [IntKind.wrap_i64]; omega
            clear hz hz' hzl hLL v1 v2 hx0 hx1 y1 y2 o11 o12 o21 o22 Wr
            go_wp2
            go_quiet (fail)
            go_wp2
            go_roundg k1
            case measure => omega
            case rel => exact ⟨x + 1, rfl, ⟨by have := Hx.out; omega, by have := Hx.out; omega⟩, ⟨pw_below_drewN HBr.out _⟩⟩
end Go.Proofs.YtkgnhghaiopgcaaDoor.Wk
