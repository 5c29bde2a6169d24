/- The walk of doormanlaw07.of: the schema as the references have it; no condition but the reach. -/
import Derived.Test.YtkgnhghaiopgcaaDoorOf
import Derived.Test.YtkgnhghaiopgcaaDoorPwd
set_option linter.unusedVariables false
set_option linter.unusedSimpArgs false
namespace Go.Proofs.YtkgnhghaiopgcaaDoor.O7
open Go.RowKit Go.Maps Go.Proofs.YtkgnhghaiopgcaaDoorW.PrintWords Go.Proofs.YtkgnhghaiopgcaaDoorW.PrintLast Go.Proofs.YtkgnhghaiopgcaaDoor.X Go.Proofs.YtkgnhghaiopgcaaDoor.Kx
open Go.Maps Go.Proofs.YtkgnhghaiopgcaaDoor.Of Go.Proofs.YtkgnhghaiopgcaaDoor.Pw

theorem take_map_snoc {α β : Type} (f : α → β) (l : List α) (i : Nat) (h : i < l.length) : (l.take (i + 1)).map f = (l.take i).map f ++ [f l[i]] := by
  rw [← List.take_append_getElem h, List.map_append]; rfl
theorem row_alloc {α : Type} {d : Kd α} {t : Nat} {w : World} {base : Nat} {v : Value} {xs : List α} (h : d.R t w base (fun _ => True) v xs) (o : Obj) : d.R t (w.alloc o) base (fun k => k < w.heap.size) v xs := Kd.R_alloc (row_lt h (Nat.le_refl _)) o
set_option maxHeartbeats 16000000 in
set_option maxRecDepth 100000 in
theorem doormanlaw07_of.walk_ (A : Option Addr) (c : Nat) (X : List S53) (w : World) (hr : Kd.C k53 w A X.length X) (hX : Small X) :
    Calls Tryd.prog 36 #[.agg #[.slice A X.length c]] w fun e w' => ∃ v0_ : Value, e = .returned v0_ ∧ Kd.R k74 74 w' w.heap.size (fun _ => True) v0_ (X.map toT) ∧ Below w.heap.size w w' := by
  have HC1 := Aside0.mk (Kd.C_alloc hr (.cells #[.slice A X.length c] 43))
  have HS1 : Aside0 ((w.alloc (.cells #[.slice A X.length c] 43)).heap[w.heap.size]? = some (.cells #[.slice A X.length c] 43 (0, 0))) := ⟨(Go.MapKept.heap_alloc w _).1⟩
  have HB1 : Aside0 (Below w.heap.size w (w.alloc (.cells #[.slice A X.length c] 43))) := ⟨below_alloc (Below.refl _ _) _⟩
  have HZ1 : Aside0 ((w.alloc (.cells #[.slice A X.length c] 43)).heap.size = w.heap.size + 1) := ⟨by simp⟩
  have HX := Aside0.mk hX
  have HXl := Aside0.mk hX.1
  obtain ⟨w1, hw1⟩ : ∃ w1, w.alloc (.cells #[.slice A X.length c] 43) = w1 := ⟨_, rfl⟩
  rw [hw1] at HC1 HS1 HB1 HZ1
  obtain ⟨q, hq⟩ : ∃ q, w.heap.size = q := ⟨_, rfl⟩
  rw [hq] at HS1 HB1 HZ1 ⊢
  have UP : Aside0 (∀ wx, Below (q + 1) w1 wx → Below w1.heap.size w1 wx) := ⟨fun wx h => by rw [HZ1.out]; exact h⟩
  have HW := Aside0.mk hw1
  have HQ := Aside0.mk hq
  clear hr hX hw1 hq
  go_enter Tryd.func36, Tryd.ntmps36
  go_wp2
  rw [HW.out, HQ.out]
  clear HW
  go_loopg [3, 4] (X.length + 1) (fun g v3 v4 wx => ∃ (i : Nat) (acc : List RT), v4 = .int .i64 i ∧ i + g = X.length + 1 ∧ i ≤ X.length ∧ Aside0 (acc = (X.take i).map toT) ∧ Aside0 (Below (q + 1) w1 wx) ∧ Aside0 (Kd.R k74 74 wx (q + 1) (fun _ => True) v3 acc))
  case atStart => exact ⟨0, [], rfl, by omega, Nat.zero_le _, ⟨rfl⟩, ⟨Below.refl _ _⟩, ⟨Kd.R_nil _ _ _ _ _⟩⟩
  case round =>
    obtain ⟨i, acc, rfl, hi, hil, HA, HBx, HO⟩ := hrel
    rename World => wx
    obtain ⟨Ao, co, rfl⟩ := Kd.R_slice HO.out
    cases gk with
    | zero => omega
    | succ g1 =>
      have HSx : Aside0 (wx.heap[q]? = some (.cells #[.slice A X.length c] 43 (0, 0))) := ⟨(HBx.out.block q (by omega)).trans HS1.out⟩
      have s0 := blk_cell HSx.out 0
      by_cases hlt : i < X.length
      · have e1 : decide ((i : Int) < (X.length : Int)) = true := decide_eq_true (by omega)
        have e2 : ((i : Int) < (X.length : Int)) = True := eq_true (by omega)
        have e3 : decide (i < X.length) = true := decide_eq_true (by omega)
        have e4 : (0 ≤ (i : Int)) = True := eq_true (by omega)
        obtain ⟨T, hT⟩ : ∃ T, rd_T53 X (i : Int) = T := ⟨_, rfl⟩
        have hTi : X[i] = T := by rw [← hT]; unfold rd_T53; rw [Int.toNat_natCast, List.getD_eq_getElem?_getD, List.getElem?_eq_getElem hlt]; rfl
        have HTi := Aside0.mk hTi
        have HTs : Aside0 (SmallT T) := ⟨HX.out.2 T (by rw [← hTi]; exact List.getElem_mem hlt)⟩
        obtain ⟨ad, P, cp, ea, t0, t1, t2, hP⟩ := at_T53 HC1.out (i : Int) (by omega) (by omega)
        rw [hT, Int.toNat_natCast] at t0 t1
        rw [hT] at t2 hP
        have T0 := Aside0.mk t0
        have T1 := Aside0.mk t1
        have HPw := Aside0.mk hP
        have HI := Aside0.mk (And.intro hi (And.intro hil hlt))
        subst ea
        clear hT hTi hi hil t1 t2 hP t0
        have t0 := pw_cell_below (UP.out _ HBx.out) T0.out
        go_upto_region 6 with (fail)
        have hq2 : q + 1 ≤ wx.heap.size := by have := HBx.out.size; have := HZ1.out; omega
        have HR2 : Aside0 ((wx.alloc (.cells #[.string T.f0, .slice none 0 0] 74)).heap[wx.heap.size]? = some (.cells #[.string T.f0, .slice none 0 0] 74 (0, 0))) := ⟨(Go.MapKept.heap_alloc wx _).1⟩
        have HB2 : Aside0 (Below (q + 1) w1 (wx.alloc (.cells #[.string T.f0, .slice none 0 0] 74))) := ⟨HBx.out.alloc hq2 _⟩
        have HO2 := Aside0.mk (row_alloc HO.out (.cells #[.string T.f0, .slice none 0 0] 74))
        obtain ⟨w2, hw2⟩ : ∃ w2, wx.alloc (.cells #[.string T.f0, .slice none 0 0] 74) = w2 := ⟨_, rfl⟩
        obtain ⟨p1, hp1⟩ : ∃ p1, wx.heap.size = p1 := ⟨_, rfl⟩
        rw [hw2] at HR2 HB2 HO2 ⊢
        rw [hp1] at HR2 HO2 hq2 ⊢
        have HP1 := Aside0.mk hq2
        clear hw2 hp1 hq2 t0 s0 HSx HBx HO
        go_wp2
        go_loopg [6] (T.f1.length + 1) (fun g v6 wy => ∃ (j : Nat) (al : List RR) (v1 : Value), v6 = .int .i64 j ∧ j + g = T.f1.length + 1 ∧ j ≤ T.f1.length ∧ Aside0 (al = (T.f1.take j).map toR) ∧ Aside0 (Below (q + 1) w1 wy) ∧ Aside0 (Kd.R k74 74 wy (q + 1) (fun k => k < p1) (.slice Ao acc.length co) acc) ∧ Aside0 (wy.heap[p1]? = some (.cells #[.string T.f0, v1] 74 (0, 0))) ∧ Aside0 (Kd.R k78 78 wy (p1 + 1) (fun _ => True) v1 al))
        case atStart => exact ⟨0, [], _, rfl, by omega, Nat.zero_le _, ⟨rfl⟩, HB2, HO2, HR2, ⟨Kd.R_nil _ _ _ _ _⟩⟩
        case round =>
          clear HB2 HO2 HR2
          obtain ⟨j, al, v1, rfl, hj, hjl, HAl, HBy, HOy, HPy, HVy⟩ := hrel
          rename World => wy
          obtain ⟨Av, cv, rfl⟩ := Kd.R_slice HVy.out
          cases gk with
          | zero => omega
          | succ g2 =>
            have HSy : Aside0 (wy.heap[q]? = some (.cells #[.slice (some ad) X.length c] 43 (0, 0))) := ⟨(HBy.out.block q (by omega)).trans HS1.out⟩
            have s0 := blk_cell HSy.out 0
            have t1 := pw_cell_below (UP.out _ HBy.out) T1.out
            by_cases hjt : j < T.f1.length
            · have f1 : decide ((j : Int) < (T.f1.length : Int)) = true := decide_eq_true (by omega)
              have f2 : ((j : Int) < (T.f1.length : Int)) = True := eq_true (by omega)
              have f3 : decide (j < T.f1.length) = true := decide_eq_true (by omega)
              have f4 : (0 ≤ (j : Int)) = True := eq_true (by omega)
              obtain ⟨R, hR⟩ : ∃ R, rd_T57 T.f1 (j : Int) = R := ⟨_, rfl⟩
              have hRi : T.f1[j] = R := by rw [← hR]; unfold rd_T57; rw [Int.toNat_natCast, List.getD_eq_getElem?_getD, List.getElem?_eq_getElem hjt]; rfl
              have HRs : Aside0 (SmallR R) := ⟨HTs.out.2 R (by rw [← hRi]; exact List.getElem_mem hjt)⟩
              obtain ⟨ad1, P2, k2, P3, k3, rfl, r0, r1, r2, r3, r4, r5, r6, hP2, r7, hP3⟩ := at_T57 HPw.out (j : Int) (by omega) (by omega)
              rw [hR] at r0 r1 r2 r3 r4 r5 r6 r7 hP2 hP3
              rw [Int.toNat_natCast] at r0 r1 r2 r3 r4 r5
              have HP2 := Aside0.mk hP2
              have HP3 := Aside0.mk hP3
              have HRi := Aside0.mk hRi
              have HJ := Aside0.mk (And.intro hj (And.intro hjl hjt))
              replace r0 := pw_cell_below (UP.out _ HBy.out) r0
              replace r1 := pw_cell_below (UP.out _ HBy.out) r1
              replace r2 := pw_cell_below (UP.out _ HBy.out) r2
              replace r3 := pw_cell_below (UP.out _ HBy.out) r3
              replace r4 := pw_cell_below (UP.out _ HBy.out) r4
              replace r5 := pw_cell_below (UP.out _ HBy.out) r5
              clear hR hP2 hP3 r6 r7 hj hjl hRi
              go_upto_region 10 with (fail)
              have hpy := blk_lt HPy.out
              have hqy : q + 1 ≤ wy.heap.size := by have := HP1.out; omega
              have HR3 : Aside0 ((wy.alloc (.cells #[.string R.f0, .string R.f1, .string R.f2, .string R.f3, .slice P2 R.f4.length k2, .slice P3 R.f5.length k3] 57)).heap[wy.heap.size]? = some (.cells #[.string R.f0, .string R.f1, .string R.f2, .string R.f3, .slice P2 R.f4.length k2, .slice P3 R.f5.length k3] 57 (0, 0))) := ⟨(Go.MapKept.heap_alloc wy _).1⟩
              have HB3 : Aside0 (Below (q + 1) w1 (wy.alloc (.cells #[.string R.f0, .string R.f1, .string R.f2, .string R.f3, .slice P2 R.f4.length k2, .slice P3 R.f5.length k3] 57))) := ⟨HBy.out.alloc hqy _⟩
              have HO3 := Aside0.mk (Kd.R_alloc HOy.out (.cells #[.string R.f0, .string R.f1, .string R.f2, .string R.f3, .slice P2 R.f4.length k2, .slice P3 R.f5.length k3] 57))
              have HP3' := Aside0.mk (blk_alloc HPy.out (.cells #[.string R.f0, .string R.f1, .string R.f2, .string R.f3, .slice P2 R.f4.length k2, .slice P3 R.f5.length k3] 57))
              have HV3 := Aside0.mk (row_alloc HVy.out (.cells #[.string R.f0, .string R.f1, .string R.f2, .string R.f3, .slice P2 R.f4.length k2, .slice P3 R.f5.length k3] 57))
              obtain ⟨wa, hwa⟩ : ∃ wa, wy.alloc (.cells #[.string R.f0, .string R.f1, .string R.f2, .string R.f3, .slice P2 R.f4.length k2, .slice P3 R.f5.length k3] 57) = wa := ⟨_, rfl⟩
              have hwz : wa.heap.size = wy.heap.size + 1 := by rw [← hwa]; simp
              obtain ⟨p2, hp2⟩ : ∃ p2, wy.heap.size = p2 := ⟨_, rfl⟩
              rw [hwa] at HR3 HB3 HO3 HP3' HV3 ⊢
              rw [hp2] at HR3 HV3 hpy hwz ⊢
              have HL2 : Aside0 (p1 < p2 ∧ wa.heap.size = p2 + 1) := ⟨hpy, hwz⟩
              clear hwa hp2 hpy hqy hwz r0 r1 r2 r3 r4 r5 t1 s0 HSy HBy HOy HPy HVy
              have r0 := blk_cell HR3.out 0
              have r1 := blk_cell HR3.out 1
              have r2 := blk_cell HR3.out 2
              have r3 := blk_cell HR3.out 3
              go_upto_region 11 with (fail)
              have HR4 := Aside0.mk (blk_alloc HR3.out (.cells #[.string R.f0, .string R.f1, .string R.f2, .string R.f3, .slice none 0 0, .slice none 0 0] 78))
              have HN4 : Aside0 ((wa.alloc (.cells #[.string R.f0, .string R.f1, .string R.f2, .string R.f3, .slice none 0 0, .slice none 0 0] 78)).heap[wa.heap.size]? = some (.cells #[.string R.f0, .string R.f1, .string R.f2, .string R.f3, .slice none 0 0, .slice none 0 0] 78 (0, 0))) := ⟨(Go.MapKept.heap_alloc wa _).1⟩
              have HB4 : Aside0 (Below (q + 1) w1 (wa.alloc (.cells #[.string R.f0, .string R.f1, .string R.f2, .string R.f3, .slice none 0 0, .slice none 0 0] 78))) := ⟨HB3.out.alloc (by have := HL2.out; have := HP1.out; omega) _⟩
              have HO4 := Aside0.mk (Kd.R_alloc HO3.out (.cells #[.string R.f0, .string R.f1, .string R.f2, .string R.f3, .slice none 0 0, .slice none 0 0] 78))
              have HP4 := Aside0.mk (blk_alloc HP3'.out (.cells #[.string R.f0, .string R.f1, .string R.f2, .string R.f3, .slice none 0 0, .slice none 0 0] 78))
              have HV4 := Aside0.mk (Kd.R_alloc HV3.out (.cells #[.string R.f0, .string R.f1, .string R.f2, .string R.f3, .slice none 0 0, .slice none 0 0] 78))
              obtain ⟨wb, hwb⟩ : ∃ wb, wa.alloc (.cells #[.string R.f0, .string R.f1, .string R.f2, .string R.f3, .slice none 0 0, .slice none 0 0] 78) = wb := ⟨_, rfl⟩
              have hwz : wb.heap.size = wa.heap.size + 1 := by rw [← hwb]; simp
              obtain ⟨p3, hp3⟩ : ∃ p3, wa.heap.size = p3 := ⟨_, rfl⟩
              rw [hwb] at HR4 HN4 HB4 HO4 HP4 HV4 ⊢
              rw [hp3] at HN4 hwz ⊢
              have HL3 : Aside0 (p2 < p3 ∧ wb.heap.size = p3 + 1) := ⟨by have := HL2.out; omega, hwz⟩
              clear hwb hp3 hwz r0 r1 r2 r3 HR3 HB3 HO3 HP3' HV3
              go_wp2
              go_loopg [9] (R.f4.length + 1) (fun g v9 wu => ∃ (m : Nat) (sa : List RS) (va : Value), v9 = .int .i64 m ∧ m + g = R.f4.length + 1 ∧ m ≤ R.f4.length ∧ Aside0 (sa = (R.f4.take m).map toS) ∧ Aside0 (Below (q + 1) w1 wu) ∧ Aside0 (Kd.R k74 74 wu (q + 1) (fun k => k < p1) (.slice Ao acc.length co) acc) ∧ Aside0 (wu.heap[p1]? = some (.cells #[.string T.f0, .slice Av al.length cv] 74 (0, 0))) ∧ Aside0 (Kd.R k78 78 wu (p1 + 1) (fun k => k < p2) (.slice Av al.length cv) al) ∧ Aside0 (wu.heap[p2]? = some (.cells #[.string R.f0, .string R.f1, .string R.f2, .string R.f3, .slice P2 R.f4.length k2, .slice P3 R.f5.length k3] 57 (0, 0))) ∧ Aside0 (wu.heap[p3]? = some (.cells #[.string R.f0, .string R.f1, .string R.f2, .string R.f3, va, .slice none 0 0] 78 (0, 0))) ∧ Aside0 (Kd.R k113 113 wu (p3 + 1) (fun _ => True) va sa))
              case atStart => exact ⟨0, [], _, rfl, by omega, Nat.zero_le _, ⟨rfl⟩, HB4, HO4, HP4, HV4, HR4, HN4, ⟨Kd.R_nil _ _ _ _ _⟩⟩
              case round =>
                clear HB4 HO4 HP4 HV4 HR4 HN4
                obtain ⟨m, sa, va, rfl, hm, hml, HSa, HBu, HOu, HPu, HVu, HRu, HNu, HAu⟩ := hrel
                rename World => wu
                obtain ⟨Aa, ca, rfl⟩ := Kd.R_slice HAu.out
                cases gk with
                | zero => omega
                | succ g3 =>
                  have r4 := blk_cell HRu.out 4
                  by_cases hmt : m < R.f4.length
                  · have h1 : decide ((m : Int) < (R.f4.length : Int)) = true := decide_eq_true (by omega)
                    have h2 : ((m : Int) < (R.f4.length : Int)) = True := eq_true (by omega)
                    have h3 : decide (m < R.f4.length) = true := decide_eq_true (by omega)
                    have h4 : (0 ≤ (m : Int)) = True := eq_true (by omega)
                    obtain ⟨U, hU⟩ : ∃ U, rd_T62 R.f4 (m : Int) = U := ⟨_, rfl⟩
                    have hUi : R.f4[m] = U := by rw [← hU]; unfold rd_T62; rw [Int.toNat_natCast, List.getD_eq_getElem?_getD, List.getElem?_eq_getElem hmt]; rfl
                    obtain ⟨ad2, rfl, a0, a1⟩ := at_T62 HP2.out (m : Int) (by omega) (by omega)
                    rw [hU, Int.toNat_natCast] at a0 a1
                    have A0 := Aside0.mk (pw_cell_below (UP.out _ HBu.out) a0)
                    have A1 := Aside0.mk (pw_cell_below (UP.out _ HBu.out) a1)
                    have HM := Aside0.mk (And.intro hm (And.intro hml hmt))
                    have HSn : Aside0 (sa ++ [toS U] = (R.f4.take (m + 1)).map toS) := ⟨by rw [take_map_snoc toS R.f4 m hmt, hUi, HSa.out]⟩
                    have HSl : Aside0 (sa.length * 32 ≤ 140737488351232) := ⟨by rw [HSa.out, List.length_map, List.length_take]; have := HRs.out.1; omega⟩
                    clear hU hUi a0 a1 hm hml
                    have n4 := blk_cell HNu.out 4
                    go_wp2_with fail
                    have HBd : Aside0 (Below (q + 1) w1 wu.drew) := ⟨HBu.out.drew⟩
                    have HOd := Aside0.mk (Kd.R_drew HOu.out)
                    have HPd : Aside0 (wu.drew.heap[p1]? = some (.cells #[.string T.f0, .slice Av al.length cv] 74 (0, 0))) := ⟨HPu.out⟩
                    have HVd := Aside0.mk (Kd.R_drew HVu.out)
                    have HRd : Aside0 (wu.drew.heap[p2]? = some (.cells #[.string R.f0, .string R.f1, .string R.f2, .string R.f3, .slice (some ad2) R.f4.length k2, .slice P3 R.f5.length k3] 57 (0, 0))) := ⟨HRu.out⟩
                    have HNd : Aside0 (wu.drew.heap[p3]? = some (.cells #[.string R.f0, .string R.f1, .string R.f2, .string R.f3, .slice Aa sa.length ca, .slice none 0 0] 78 (0, 0))) := ⟨HNu.out⟩
                    have HAd := Aside0.mk (Kd.R_drew HAu.out)
                    have A0d : Aside0 (wu.drew.cell? (ad2.add (m * 2)) = some (.string U.f0)) := ⟨A0.out⟩
                    have A1d : Aside0 (wu.drew.cell? ⟨(ad2.add (m * 2)).block, (ad2.add (m * 2)).off + 1, none⟩ = some (.string U.f1)) := ⟨A1.out⟩
                    clear HBu HOu HPu HVu HRu HNu HAu A0 A1 r4 n4
                    refine start_ (n := 19) (S := fun w' => w'.cell? ⟨p3, 4, none⟩ = some (.slice Aa sa.length ca) ∧ w'.cell? ⟨p2, 4, none⟩ = some (.slice (some ad2) R.f4.length k2) ∧ w'.cell? (ad2.add (m * 2)) = some (.string U.f0) ∧ w'.cell? ⟨(ad2.add (m * 2)).block, (ad2.add (m * 2)).off + 1, none⟩ = some (.string U.f1)) (ds := [16, 18]) #[false, false, false, false, false, false, false, false, false, false, false, false, false, false, false, false, false, false, false] (by kernel_rfl) rfl rfl ⟨blk_cell HNd.out 4, blk_cell HRd.out 4, A0d.out, A1d.out⟩ (fun hHeld => ?_)
                    generalize wu.drew = w7 at HBd HOd HPd HVd HRd HNd HAd A0d A1d hHeld ⊢
                    have hz7 : p3 + 1 ≤ w7.heap.size := blk_lt HNd.out
                    refine pure_ (i := 0) (N := some 61) (v := ?_) (a' := ?_) #[true, false, false, false, false, false, false, false, false, false, false, false, false, false, false, false, false, false, false] rfl rfl (by kernel_rfl) (fun _ _ _ h => h) (Or.inl ⟨by rfl, ?_⟩) ?_ ?_
                    rotate_left
                    · intro w'
                      go_simp
                      with_reducible rfl
                    rotate_left
                    · simp only [Act.put, List.setIfInBounds_toArray, List.set_cons_zero, List.set_cons_succ, i64_w, i32_w]
                      rfl
                    refine pure_ (i := 2) (N := some 63) (v := ?_) (a' := ?_) #[true, false, true, false, false, false, false, false, false, false, false, false, false, false, false, false, false, false, false] rfl rfl (by kernel_rfl) (fun _ _ _ h => h) (Or.inl ⟨by rfl, ?_⟩) ?_ ?_
                    rotate_left
                    · intro w'
                      go_simp
                      with_reducible rfl
                    rotate_left
                    · simp only [Act.put, List.setIfInBounds_toArray, List.set_cons_zero, List.set_cons_succ, i64_w, i32_w]
                      rfl
                    refine pure_ (i := 4) (N := some 65) (v := ?_) (a' := ?_) #[true, false, true, false, true, false, false, false, false, false, false, false, false, false, false, false, false, false, false] rfl rfl (by kernel_rfl) (fun _ _ _ h => h) (Or.inl ⟨by rfl, ?_⟩) ?_ ?_
                    rotate_left
                    · intro w'
                      go_simp
                      with_reducible rfl
                    rotate_left
                    · simp only [Act.put, List.setIfInBounds_toArray, List.set_cons_zero, List.set_cons_succ, i64_w, i32_w]
                      rfl
                    refine pure_ (i := 8) (N := some 69) (v := ?_) (a' := ?_) #[true, false, true, false, true, false, false, false, true, false, false, false, false, false, false, false, false, false, false] rfl rfl (by kernel_rfl) (fun _ _ _ h => h) (Or.inl ⟨by rfl, ?_⟩) ?_ ?_
                    rotate_left
                    · intro w'
                      go_simp
                      with_reducible rfl
                    rotate_left
                    · simp only [Act.put, List.setIfInBounds_toArray, List.set_cons_zero, List.set_cons_succ, i64_w, i32_w]
                      rfl
                    refine pure_ (i := 10) (N := some 71) (v := ?_) (a' := ?_) #[true, false, true, false, true, false, false, false, true, false, true, false, false, false, false, false, false, false, false] rfl rfl (by kernel_rfl) (fun _ _ _ h => h) (Or.inl ⟨by rfl, ?_⟩) ?_ ?_
                    rotate_left
                    · intro w'
                      go_simp
                      with_reducible rfl
                    rotate_left
                    · simp only [Act.put, List.setIfInBounds_toArray, List.set_cons_zero, List.set_cons_succ, i64_w, i32_w]
                      rfl
                    refine take_ (i := 1) (N := some 62) (v := ?_) (a' := ?_) #[true, true, true, false, true, false, false, false, true, false, true, false, false, false, false, false, false, false, false] rfl rfl (by kernel_rfl) (fun _ _ _ h => h) (Or.inl ⟨by rfl, ?_⟩) hHeld ?_ ?_
                    rotate_left
                    · rintro w' ⟨s0, s1, s2, s3⟩
                      go_simp
                      with_reducible rfl
                    rotate_left
                    · simp only [Act.put, List.setIfInBounds_toArray, List.set_cons_zero, List.set_cons_succ, i64_w, i32_w]
                      rfl
                    refine take_ (i := 3) (N := some 64) (v := ?_) (a' := ?_) #[true, true, true, true, true, false, false, false, true, false, true, false, false, false, false, false, false, false, false] rfl rfl (by kernel_rfl) (fun _ _ _ h => h) (Or.inl ⟨by rfl, ?_⟩) hHeld ?_ ?_
                    rotate_left
                    · rintro w' ⟨s0, s1, s2, s3⟩
                      go_simp
                      with_reducible rfl
                    rotate_left
                    · simp only [Act.put, List.setIfInBounds_toArray, List.set_cons_zero, List.set_cons_succ, i64_w, i32_w]
                      rfl
                    refine pure_ (i := 5) (N := some 66) (v := ?_) (a' := ?_) #[true, true, true, true, true, true, false, false, true, false, true, false, false, false, false, false, false, false, false] rfl rfl (by kernel_rfl) (fun _ _ _ h => h) (Or.inl ⟨by rfl, ?_⟩) ?_ ?_
                    rotate_left
                    · intro w'
                      go_simp
                      with_reducible rfl
                    rotate_left
                    · simp only [Act.put, List.setIfInBounds_toArray, List.set_cons_zero, List.set_cons_succ, i64_w, i32_w]
                      rfl
                    refine pure_ (i := 6) (N := some 67) (v := ?_) (a' := ?_) #[true, true, true, true, true, true, true, false, true, false, true, false, false, false, false, false, false, false, false] rfl rfl (by kernel_rfl) (fun _ _ _ h => h) (Or.inl ⟨by rfl, ?_⟩) ?_ ?_
                    rotate_left
                    · intro w'
                      go_simp
                      with_reducible rfl
                    rotate_left
                    · simp only [Act.put, List.setIfInBounds_toArray, List.set_cons_zero, List.set_cons_succ, i64_w, i32_w]
                      rfl
                    refine take_ (i := 7) (N := some 68) (v := ?_) (a' := ?_) #[true, true, true, true, true, true, true, true, true, false, true, false, false, false, false, false, false, false, false] rfl rfl (by kernel_rfl) (fun _ _ _ h => h) (Or.inl ⟨by rfl, ?_⟩) hHeld ?_ ?_
                    rotate_left
                    · rintro w' ⟨s0, s1, s2, s3⟩
                      go_simp
                      with_reducible rfl
                    rotate_left
                    · simp only [Act.put, List.setIfInBounds_toArray, List.set_cons_zero, List.set_cons_succ, i64_w, i32_w]
                      rfl
                    refine take_ (i := 9) (N := some 70) (v := ?_) (a' := ?_) #[true, true, true, true, true, true, true, true, true, true, true, false, false, false, false, false, false, false, false] rfl rfl (by kernel_rfl) (fun _ _ _ h => h) (Or.inl ⟨by rfl, ?_⟩) hHeld ?_ ?_
                    rotate_left
                    · rintro w' ⟨s0, s1, s2, s3⟩
                      go_simp
                      with_reducible rfl
                    rotate_left
                    · simp only [Act.put, List.setIfInBounds_toArray, List.set_cons_zero, List.set_cons_succ, i64_w, i32_w]
                      rfl
                    refine pure_ (i := 11) (N := some 72) (v := ?_) (a' := ?_) #[true, true, true, true, true, true, true, true, true, true, true, true, false, false, false, false, false, false, false] rfl rfl (by kernel_rfl) (fun _ _ _ h => h) (Or.inl ⟨by rfl, ?_⟩) ?_ ?_
                    rotate_left
                    · intro w'
                      go_simp
                      with_reducible rfl
                    rotate_left
                    · simp only [Act.put, List.setIfInBounds_toArray, List.set_cons_zero, List.set_cons_succ, i64_w, i32_w]
                      rfl
                    refine pure_ (i := 12) (N := some 73) (v := ?_) (a' := ?_) #[true, true, true, true, true, true, true, true, true, true, true, true, true, false, false, false, false, false, false] rfl rfl (by kernel_rfl) (fun _ _ _ h => h) (Or.inl ⟨by rfl, ?_⟩) ?_ ?_
                    rotate_left
                    · intro w'
                      go_simp
                      with_reducible rfl
                    rotate_left
                    · simp only [Act.put, List.setIfInBounds_toArray, List.set_cons_zero, List.set_cons_succ, i64_w, i32_w]
                      rfl
                    refine take_ (i := 13) (N := some 74) (v := ?_) (a' := ?_) #[true, true, true, true, true, true, true, true, true, true, true, true, true, true, false, false, false, false, false] rfl rfl (by kernel_rfl) (fun _ _ _ h => h) (Or.inl ⟨by rfl, ?_⟩) hHeld ?_ ?_
                    rotate_left
                    · rintro w' ⟨s0, s1, s2, s3⟩
                      go_simp
                      with_reducible rfl
                    rotate_left
                    · simp only [Act.put, List.setIfInBounds_toArray, List.set_cons_zero, List.set_cons_succ, i64_w, i32_w]
                      rfl
                    refine pure_ (i := 14) (N := some 75) (v := ?_) (a' := ?_) #[true, true, true, true, true, true, true, true, true, true, true, true, true, true, true, false, false, false, false] rfl rfl (by kernel_rfl) (fun _ _ _ h => h) (Or.inl ⟨by rfl, ?_⟩) ?_ ?_
                    rotate_left
                    · intro w'
                      go_simp
                      with_reducible rfl
                    rotate_left
                    · simp only [Act.put, List.setIfInBounds_toArray, List.set_cons_zero, List.set_cons_succ, i64_w, i32_w]
                      rfl
                    refine one_ (i := 15) (N := some 76) #[true, true, true, true, true, true, true, true, true, true, true, true, true, true, true, true, false, false, false] rfl rfl (by kernel_rfl) (by decide) (fun K hK => ?_)
                    refine value_ (w1 := ?_) (v := ?_) (by rfl) rfl ?_ ?_
                    rotate_left 2
                    · go_simp
                      constructor
                      · rfl
                      · rfl
                    refine hK.out _ _ ⟨(World.cell?_alloc_lt _ _ _ (World.block_lt_of_cell? _ _ (hHeld.1))).trans (hHeld.1), (World.cell?_alloc_lt _ _ _ (World.block_lt_of_cell? _ _ (hHeld.2.1))).trans (hHeld.2.1), (World.cell?_alloc_lt _ _ _ (World.block_lt_of_cell? _ _ (hHeld.2.2.1))).trans (hHeld.2.2.1), (World.cell?_alloc_lt _ _ _ (World.block_lt_of_cell? _ _ (hHeld.2.2.2))).trans (hHeld.2.2.2)⟩ (fun hHeld => ?_)
                    clear hK K
                    refine norm_ (a' := ?_) ?_ ?_
                    rotate_left
                    · show Act.put _ (some 76) _ = _
                      simp only [Act.put, List.setIfInBounds_toArray, List.set_cons_zero, List.set_cons_succ, i64_w, i32_w]
                      rfl
                    refine last_ (i := 16) (N := some 77) #[true, true, true, true, true, true, true, true, true, true, true, true, true, true, true, true, true, false, false] rfl rfl (by kernel_rfl) (by decide) (fun K hK => ?_)
                    refine Kd.R_append_step k113 (W := w7) (w0 := w7) (p3 + 1) (by rfl) (.tmp 62) (.tmp 76) 75 113 (.agg #[(.string ⟨#[]⟩), (.string ⟨#[]⟩)]) 32 (by rfl) Tryd.underlying75 info113 rfl (by decide) (by omega) (.slice Aa sa.length ca) sa (toS U) [.string U.f0, .string U.f1] (fun _ => True) (fun _ => False) (by rfl) (by rfl) (k113_mkM _ _ _ (toS U)) (fun _ hk => hk.elim) (fun _ _ => trivial) HAd.out (Below.refl _ _) hz7 (by have := HSl.out; omega) ?_
                    intro v8 w8 ho8 hb8 hg8 hat8
                    obtain ⟨A8, c8, rfl⟩ := Kd.R_slice ho8
                    obtain ⟨n8, hn8⟩ : ∃ n8, (sa ++ [toS U]).length = n8 := ⟨_, rfl⟩
                    rw [hn8] at ho8 ⊢
                    have HN8 := Aside0.mk ((hb8.block p3 (Nat.lt_succ_self p3)).trans HNd.out)
                    have HO8 := Aside0.mk ho8
                    have HBL := Aside0.mk hb8
                    have HNn := Aside0.mk hn8
                    have j8 := blk_cell HN8.out 4
                    have fz8 := blk_frozen HN8.out 4
                    clear ho8 hb8 hg8 hat8 hn8 hHeld
                    refine hK.out _ _ ?_
                    clear hK K
                    refine norm_ (a' := ?_) ?_ ?_
                    rotate_left
                    · show Act.put _ (some 77) _ = _
                      simp only [Act.put, List.setIfInBounds_toArray, List.set_cons_zero, List.set_cons_succ, i64_w, i32_w]
                      rfl
                    refine pure_ (i := 17) (N := some 78) (v := ?_) (a' := ?_) #[true, true, true, true, true, true, true, true, true, true, true, true, true, true, true, true, true, true, false] rfl rfl (by kernel_rfl) (fun _ _ _ h => h) (Or.inl ⟨by rfl, ?_⟩) ?_ ?_
                    rotate_left
                    · intro w'
                      go_simp
                      with_reducible rfl
                    rotate_left
                    · simp only [Act.put, List.setIfInBounds_toArray, List.set_cons_zero, List.set_cons_succ, i64_w, i32_w]
                      rfl
                    refine last_ (i := 18) (N := none) #[true, true, true, true, true, true, true, true, true, true, true, true, true, true, true, true, true, true, true] rfl rfl (by kernel_rfl) (by decide) (fun K hK => ?_)
                    refine skip_ (w1 := ?_) (by rfl) rfl ?_ ?_
                    rotate_left
                    · go_simp
                      rfl
                    refine hK.out _ _ ?_
                    clear hK K
                    refine done_ (by kernel_rfl) ?_
                    have hw : IntKind.i64.wrap ((m : Int) + 1) = ((m + 1 : Nat) : Int) := by have := HRs.out.1; have := HM.out; rw [IntKind.wrap_i64]; omega
                    clear j8 fz8
                    go_wp2
                    go_roundg g3
                    case measure => omega
                    case rel =>
                      have hl2 := HL2.out
                      have hl3 := HL3.out
                      have hp1 := HP1.out
                      refine ⟨m + 1, sa ++ [toS U], .slice A8 n8 c8, by simp, by have := HM.out; omega, by have := HM.out; omega, HSn, ⟨?_⟩, ⟨?_⟩, ⟨?_⟩, ⟨?_⟩, ⟨?_⟩, ⟨?_⟩, ⟨?_⟩⟩
                      · exact (HBd.out.trans (HBL.out.mono (by omega))).setCell (p := ⟨p3, 4, none⟩) (by show q + 1 ≤ p3; omega) _
                      · exact Kd.R_far (p := ⟨p3, 4, none⟩) (Kd.R_step HOd.out (fun k ho hk => HBL.out.block k (by omega))) (fun k hk => by show k ≠ p3; omega) _
                      · exact (Below.heap_setCell w8 ⟨p3, 4, none⟩ _ p1 (show p1 ≠ p3 by omega)).trans ((HBL.out.block p1 (by omega)).trans HPd.out)
                      · exact Kd.R_far (p := ⟨p3, 4, none⟩) (Kd.R_step HVd.out (fun k ho hk => HBL.out.block k (by omega))) (fun k hk => by show k ≠ p3; omega) _
                      · exact (Below.heap_setCell w8 ⟨p3, 4, none⟩ _ p2 (show p2 ≠ p3 by omega)).trans ((HBL.out.block p2 (by omega)).trans HRd.out)
                      · simpa using blk_set HN8.out 4 (.slice A8 n8 c8)
                      · exact Kd.R_mono (Kd.R_far (p := ⟨p3, 4, none⟩) (Kd.R_bound HO8.out) (fun k hk => by show k ≠ p3; have := hk.2.1; omega) _) (fun _ _ => trivial)
                  · have h1 : decide ((m : Int) < (R.f4.length : Int)) = false := decide_eq_false (by omega)
                    have h2 : ((m : Int) < (R.f4.length : Int)) = False := eq_false (by omega)
                    have h3 : decide (m < R.f4.length) = false := decide_eq_false (by omega)
                    have hmm : m = R.f4.length := by omega
                    have HSf : Aside0 (sa = R.f4.map toS) := ⟨by rw [HSa.out, hmm, List.take_length]⟩
                    clear hmt hm hml hmm HSa
                    obtain ⟨p4, hp4⟩ : ∃ p4, wu.heap.size = p4 := ⟨_, rfl⟩
                    have HA4 : Aside0 (Kd.R k113 113 wu (p3 + 1) (fun k => k < p4) (.slice Aa sa.length ca) sa) := ⟨row_lt HAu.out (by omega)⟩
                    have HL4 : Aside0 (p3 < p4 ∧ wu.heap.size = p4) := ⟨by have := blk_lt HNu.out; omega, hp4⟩
                    clear hp4 HAu
                    go_wp2
                    go_loopg [10] (R.f5.length + 1) (fun g v10 wv => ∃ (m : Nat) (oa : List RO) (vb : Value), v10 = .int .i64 m ∧ m + g = R.f5.length + 1 ∧ m ≤ R.f5.length ∧ Aside0 (oa = (R.f5.take m).map toO) ∧ Aside0 (Below (q + 1) w1 wv) ∧ Aside0 (Kd.R k74 74 wv (q + 1) (fun k => k < p1) (.slice Ao acc.length co) acc) ∧ Aside0 (wv.heap[p1]? = some (.cells #[.string T.f0, .slice Av al.length cv] 74 (0, 0))) ∧ Aside0 (Kd.R k78 78 wv (p1 + 1) (fun k => k < p2) (.slice Av al.length cv) al) ∧ Aside0 (wv.heap[p2]? = some (.cells #[.string R.f0, .string R.f1, .string R.f2, .string R.f3, .slice P2 R.f4.length k2, .slice P3 R.f5.length k3] 57 (0, 0))) ∧ Aside0 (wv.heap[p3]? = some (.cells #[.string R.f0, .string R.f1, .string R.f2, .string R.f3, .slice Aa sa.length ca, vb] 78 (0, 0))) ∧ Aside0 (Kd.R k113 113 wv (p3 + 1) (fun k => k < p4) (.slice Aa sa.length ca) sa) ∧ Aside0 (Kd.R k114 114 wv p4 (fun _ => True) vb oa) ∧ Aside0 (p4 ≤ wv.heap.size))
                    case atStart => exact ⟨0, [], _, rfl, by omega, Nat.zero_le _, ⟨rfl⟩, HBu, HOu, HPu, HVu, HRu, HNu, HA4, ⟨Kd.R_nil _ _ _ _ _⟩, ⟨by have := HL4.out; omega⟩⟩
                    case round =>
                      clear HBu HOu HPu HVu HRu HNu HA4
                      obtain ⟨m, oa, vb, rfl, hm, hml, HSo, HBv, HOv, HPv, HVv, HRv, HNv, HAv, HOa, HZv⟩ := hrel
                      rename World => wv
                      obtain ⟨Ab, cb, rfl⟩ := Kd.R_slice HOa.out
                      cases gk with
                      | zero => omega
                      | succ g4 =>
                        have r5 := blk_cell HRv.out 5
                        by_cases hmt : m < R.f5.length
                        · have h1 : decide ((m : Int) < (R.f5.length : Int)) = true := decide_eq_true (by omega)
                          have h2 : ((m : Int) < (R.f5.length : Int)) = True := eq_true (by omega)
                          have h3 : decide (m < R.f5.length) = true := decide_eq_true (by omega)
                          have h4 : (0 ≤ (m : Int)) = True := eq_true (by omega)
                          obtain ⟨U, hU⟩ : ∃ U, rd_T59 R.f5 (m : Int) = U := ⟨_, rfl⟩
                          have hUi : R.f5[m] = U := by rw [← hU]; unfold rd_T59; rw [Int.toNat_natCast, List.getD_eq_getElem?_getD, List.getElem?_eq_getElem hmt]; rfl
                          obtain ⟨ad3, rfl, a0, a1, a2⟩ := at_T59 HP3.out (m : Int) (by omega) (by omega)
                          rw [hU, Int.toNat_natCast] at a0 a1 a2
                          have A0 := Aside0.mk (pw_cell_below (UP.out _ HBv.out) a0)
                          have A1 := Aside0.mk (pw_cell_below (UP.out _ HBv.out) a1)
                          have A2 := Aside0.mk (pw_cell_below (UP.out _ HBv.out) a2)
                          have HM := Aside0.mk (And.intro hm (And.intro hml hmt))
                          have HSn : Aside0 (oa ++ [toO U] = (R.f5.take (m + 1)).map toO) := ⟨by rw [take_map_snoc toO R.f5 m hmt, hUi, HSo.out]⟩
                          have HSl : Aside0 (oa.length * 40 ≤ 140737488351232) := ⟨by rw [HSo.out, List.length_map, List.length_take]; have := HRs.out.2; omega⟩
                          clear hU hUi a0 a1 a2 hm hml
                          have n5 := blk_cell HNv.out 5
                          go_wp2_with fail
                          have HBd : Aside0 (Below (q + 1) w1 wv.drew) := ⟨HBv.out.drew⟩
                          have HOd := Aside0.mk (Kd.R_drew HOv.out)
                          have HPd : Aside0 (wv.drew.heap[p1]? = some (.cells #[.string T.f0, .slice Av al.length cv] 74 (0, 0))) := ⟨HPv.out⟩
                          have HVd := Aside0.mk (Kd.R_drew HVv.out)
                          have HRd : Aside0 (wv.drew.heap[p2]? = some (.cells #[.string R.f0, .string R.f1, .string R.f2, .string R.f3, .slice P2 R.f4.length k2, .slice (some ad3) R.f5.length k3] 57 (0, 0))) := ⟨HRv.out⟩
                          have HNd : Aside0 (wv.drew.heap[p3]? = some (.cells #[.string R.f0, .string R.f1, .string R.f2, .string R.f3, .slice Aa sa.length ca, .slice Ab oa.length cb] 78 (0, 0))) := ⟨HNv.out⟩
                          have HAd := Aside0.mk (Kd.R_drew HAv.out)
                          have HOad := Aside0.mk (Kd.R_drew HOa.out)
                          have HZd : Aside0 (p4 ≤ wv.drew.heap.size) := ⟨HZv.out⟩
                          have A0d : Aside0 (wv.drew.cell? (ad3.add (m * 3)) = some (.int .i64 U.f0)) := ⟨A0.out⟩
                          have A1d : Aside0 (wv.drew.cell? ⟨(ad3.add (m * 3)).block, (ad3.add (m * 3)).off + 1, none⟩ = some (.string U.f1)) := ⟨A1.out⟩
                          have A2d : Aside0 (wv.drew.cell? ⟨(ad3.add (m * 3)).block, (ad3.add (m * 3)).off + 2, none⟩ = some (.string U.f2)) := ⟨A2.out⟩
                          clear HBv HOv HPv HVv HRv HNv HAv HOa HZv A0 A1 A2 r5 n5
                          refine start_ (n := 25) (S := fun w' => w'.cell? ⟨p3, 5, none⟩ = some (.slice Ab oa.length cb) ∧ w'.cell? ⟨p2, 5, none⟩ = some (.slice (some ad3) R.f5.length k3) ∧ w'.cell? (ad3.add (m * 3)) = some (.int .i64 U.f0) ∧ w'.cell? ⟨(ad3.add (m * 3)).block, (ad3.add (m * 3)).off + 1, none⟩ = some (.string U.f1) ∧ w'.cell? ⟨(ad3.add (m * 3)).block, (ad3.add (m * 3)).off + 2, none⟩ = some (.string U.f2)) (ds := [22, 24]) #[false, false, false, false, false, false, false, false, false, false, false, false, false, false, false, false, false, false, false, false, false, false, false, false, false] (by kernel_rfl) rfl rfl ⟨blk_cell HNd.out 5, blk_cell HRd.out 5, A0d.out, A1d.out, A2d.out⟩ (fun hHeld => ?_)
                          generalize wv.drew = w7 at HBd HOd HPd HVd HRd HNd HAd HOad HZd A0d A1d A2d hHeld ⊢
                          refine pure_ (i := 0) (N := some 86) (v := ?_) (a' := ?_) #[true, false, false, false, false, false, false, false, false, false, false, false, false, false, false, false, false, false, false, false, false, false, false, false, false] rfl rfl (by kernel_rfl) (fun _ _ _ h => h) (Or.inl ⟨by rfl, ?_⟩) ?_ ?_
                          rotate_left
                          · intro w'
                            go_simp
                            with_reducible rfl
                          rotate_left
                          · simp only [Act.put, List.setIfInBounds_toArray, List.set_cons_zero, List.set_cons_succ, i64_w, i32_w]
                            rfl
                          refine pure_ (i := 2) (N := some 88) (v := ?_) (a' := ?_) #[true, false, true, false, false, false, false, false, false, false, false, false, false, false, false, false, false, false, false, false, false, false, false, false, false] rfl rfl (by kernel_rfl) (fun _ _ _ h => h) (Or.inl ⟨by rfl, ?_⟩) ?_ ?_
                          rotate_left
                          · intro w'
                            go_simp
                            with_reducible rfl
                          rotate_left
                          · simp only [Act.put, List.setIfInBounds_toArray, List.set_cons_zero, List.set_cons_succ, i64_w, i32_w]
                            rfl
                          refine pure_ (i := 4) (N := some 90) (v := ?_) (a' := ?_) #[true, false, true, false, true, false, false, false, false, false, false, false, false, false, false, false, false, false, false, false, false, false, false, false, false] rfl rfl (by kernel_rfl) (fun _ _ _ h => h) (Or.inl ⟨by rfl, ?_⟩) ?_ ?_
                          rotate_left
                          · intro w'
                            go_simp
                            with_reducible rfl
                          rotate_left
                          · simp only [Act.put, List.setIfInBounds_toArray, List.set_cons_zero, List.set_cons_succ, i64_w, i32_w]
                            rfl
                          refine pure_ (i := 8) (N := some 94) (v := ?_) (a' := ?_) #[true, false, true, false, true, false, false, false, true, false, false, false, false, false, false, false, false, false, false, false, false, false, false, false, false] rfl rfl (by kernel_rfl) (fun _ _ _ h => h) (Or.inl ⟨by rfl, ?_⟩) ?_ ?_
                          rotate_left
                          · intro w'
                            go_simp
                            with_reducible rfl
                          rotate_left
                          · simp only [Act.put, List.setIfInBounds_toArray, List.set_cons_zero, List.set_cons_succ, i64_w, i32_w]
                            rfl
                          refine pure_ (i := 10) (N := some 96) (v := ?_) (a' := ?_) #[true, false, true, false, true, false, false, false, true, false, true, false, false, false, false, false, false, false, false, false, false, false, false, false, false] rfl rfl (by kernel_rfl) (fun _ _ _ h => h) (Or.inl ⟨by rfl, ?_⟩) ?_ ?_
                          rotate_left
                          · intro w'
                            go_simp
                            with_reducible rfl
                          rotate_left
                          · simp only [Act.put, List.setIfInBounds_toArray, List.set_cons_zero, List.set_cons_succ, i64_w, i32_w]
                            rfl
                          refine pure_ (i := 14) (N := some 100) (v := ?_) (a' := ?_) #[true, false, true, false, true, false, false, false, true, false, true, false, false, false, true, false, false, false, false, false, false, false, false, false, false] rfl rfl (by kernel_rfl) (fun _ _ _ h => h) (Or.inl ⟨by rfl, ?_⟩) ?_ ?_
                          rotate_left
                          · intro w'
                            go_simp
                            with_reducible rfl
                          rotate_left
                          · simp only [Act.put, List.setIfInBounds_toArray, List.set_cons_zero, List.set_cons_succ, i64_w, i32_w]
                            rfl
                          refine pure_ (i := 16) (N := some 102) (v := ?_) (a' := ?_) #[true, false, true, false, true, false, false, false, true, false, true, false, false, false, true, false, true, false, false, false, false, false, false, false, false] rfl rfl (by kernel_rfl) (fun _ _ _ h => h) (Or.inl ⟨by rfl, ?_⟩) ?_ ?_
                          rotate_left
                          · intro w'
                            go_simp
                            with_reducible rfl
                          rotate_left
                          · simp only [Act.put, List.setIfInBounds_toArray, List.set_cons_zero, List.set_cons_succ, i64_w, i32_w]
                            rfl
                          refine take_ (i := 1) (N := some 87) (v := ?_) (a' := ?_) #[true, true, true, false, true, false, false, false, true, false, true, false, false, false, true, false, true, false, false, false, false, false, false, false, false] rfl rfl (by kernel_rfl) (fun _ _ _ h => h) (Or.inl ⟨by rfl, ?_⟩) hHeld ?_ ?_
                          rotate_left
                          · rintro w' ⟨s0, s1, s2, s3, s4⟩
                            go_simp
                            with_reducible rfl
                          rotate_left
                          · simp only [Act.put, List.setIfInBounds_toArray, List.set_cons_zero, List.set_cons_succ, i64_w, i32_w]
                            rfl
                          refine take_ (i := 3) (N := some 89) (v := ?_) (a' := ?_) #[true, true, true, true, true, false, false, false, true, false, true, false, false, false, true, false, true, false, false, false, false, false, false, false, false] rfl rfl (by kernel_rfl) (fun _ _ _ h => h) (Or.inl ⟨by rfl, ?_⟩) hHeld ?_ ?_
                          rotate_left
                          · rintro w' ⟨s0, s1, s2, s3, s4⟩
                            go_simp
                            with_reducible rfl
                          rotate_left
                          · simp only [Act.put, List.setIfInBounds_toArray, List.set_cons_zero, List.set_cons_succ, i64_w, i32_w]
                            rfl
                          refine pure_ (i := 5) (N := some 91) (v := ?_) (a' := ?_) #[true, true, true, true, true, true, false, false, true, false, true, false, false, false, true, false, true, false, false, false, false, false, false, false, false] rfl rfl (by kernel_rfl) (fun _ _ _ h => h) (Or.inl ⟨by rfl, ?_⟩) ?_ ?_
                          rotate_left
                          · intro w'
                            go_simp
                            with_reducible rfl
                          rotate_left
                          · simp only [Act.put, List.setIfInBounds_toArray, List.set_cons_zero, List.set_cons_succ, i64_w, i32_w]
                            rfl
                          refine pure_ (i := 6) (N := some 92) (v := ?_) (a' := ?_) #[true, true, true, true, true, true, true, false, true, false, true, false, false, false, true, false, true, false, false, false, false, false, false, false, false] rfl rfl (by kernel_rfl) (fun _ _ _ h => h) (Or.inl ⟨by rfl, ?_⟩) ?_ ?_
                          rotate_left
                          · intro w'
                            go_simp
                            with_reducible rfl
                          rotate_left
                          · simp only [Act.put, List.setIfInBounds_toArray, List.set_cons_zero, List.set_cons_succ, i64_w, i32_w]
                            rfl
                          refine take_ (i := 7) (N := some 93) (v := ?_) (a' := ?_) #[true, true, true, true, true, true, true, true, true, false, true, false, false, false, true, false, true, false, false, false, false, false, false, false, false] rfl rfl (by kernel_rfl) (fun _ _ _ h => h) (Or.inl ⟨by rfl, ?_⟩) hHeld ?_ ?_
                          rotate_left
                          · rintro w' ⟨s0, s1, s2, s3, s4⟩
                            go_simp
                            with_reducible rfl
                          rotate_left
                          · simp only [Act.put, List.setIfInBounds_toArray, List.set_cons_zero, List.set_cons_succ, i64_w, i32_w]
                            rfl
                          refine take_ (i := 9) (N := some 95) (v := ?_) (a' := ?_) #[true, true, true, true, true, true, true, true, true, true, true, false, false, false, true, false, true, false, false, false, false, false, false, false, false] rfl rfl (by kernel_rfl) (fun _ _ _ h => h) (Or.inl ⟨by rfl, ?_⟩) hHeld ?_ ?_
                          rotate_left
                          · rintro w' ⟨s0, s1, s2, s3, s4⟩
                            go_simp
                            with_reducible rfl
                          rotate_left
                          · simp only [Act.put, List.setIfInBounds_toArray, List.set_cons_zero, List.set_cons_succ, i64_w, i32_w]
                            rfl
                          refine pure_ (i := 11) (N := some 97) (v := ?_) (a' := ?_) #[true, true, true, true, true, true, true, true, true, true, true, true, false, false, true, false, true, false, false, false, false, false, false, false, false] rfl rfl (by kernel_rfl) (fun _ _ _ h => h) (Or.inl ⟨by rfl, ?_⟩) ?_ ?_
                          rotate_left
                          · intro w'
                            go_simp
                            with_reducible rfl
                          rotate_left
                          · simp only [Act.put, List.setIfInBounds_toArray, List.set_cons_zero, List.set_cons_succ, i64_w, i32_w]
                            rfl
                          refine pure_ (i := 12) (N := some 98) (v := ?_) (a' := ?_) #[true, true, true, true, true, true, true, true, true, true, true, true, true, false, true, false, true, false, false, false, false, false, false, false, false] rfl rfl (by kernel_rfl) (fun _ _ _ h => h) (Or.inl ⟨by rfl, ?_⟩) ?_ ?_
                          rotate_left
                          · intro w'
                            go_simp
                            with_reducible rfl
                          rotate_left
                          · simp only [Act.put, List.setIfInBounds_toArray, List.set_cons_zero, List.set_cons_succ, i64_w, i32_w]
                            rfl
                          refine take_ (i := 13) (N := some 99) (v := ?_) (a' := ?_) #[true, true, true, true, true, true, true, true, true, true, true, true, true, true, true, false, true, false, false, false, false, false, false, false, false] rfl rfl (by kernel_rfl) (fun _ _ _ h => h) (Or.inl ⟨by rfl, ?_⟩) hHeld ?_ ?_
                          rotate_left
                          · rintro w' ⟨s0, s1, s2, s3, s4⟩
                            go_simp
                            with_reducible rfl
                          rotate_left
                          · simp only [Act.put, List.setIfInBounds_toArray, List.set_cons_zero, List.set_cons_succ, i64_w, i32_w]
                            rfl
                          refine take_ (i := 15) (N := some 101) (v := ?_) (a' := ?_) #[true, true, true, true, true, true, true, true, true, true, true, true, true, true, true, true, true, false, false, false, false, false, false, false, false] rfl rfl (by kernel_rfl) (fun _ _ _ h => h) (Or.inl ⟨by rfl, ?_⟩) hHeld ?_ ?_
                          rotate_left
                          · rintro w' ⟨s0, s1, s2, s3, s4⟩
                            go_simp
                            with_reducible rfl
                          rotate_left
                          · simp only [Act.put, List.setIfInBounds_toArray, List.set_cons_zero, List.set_cons_succ, i64_w, i32_w]
                            rfl
                          refine pure_ (i := 17) (N := some 103) (v := ?_) (a' := ?_) #[true, true, true, true, true, true, true, true, true, true, true, true, true, true, true, true, true, true, false, false, false, false, false, false, false] rfl rfl (by kernel_rfl) (fun _ _ _ h => h) (Or.inl ⟨by rfl, ?_⟩) ?_ ?_
                          rotate_left
                          · intro w'
                            go_simp
                            with_reducible rfl
                          rotate_left
                          · simp only [Act.put, List.setIfInBounds_toArray, List.set_cons_zero, List.set_cons_succ, i64_w, i32_w]
                            rfl
                          refine pure_ (i := 18) (N := some 104) (v := ?_) (a' := ?_) #[true, true, true, true, true, true, true, true, true, true, true, true, true, true, true, true, true, true, true, false, false, false, false, false, false] rfl rfl (by kernel_rfl) (fun _ _ _ h => h) (Or.inl ⟨by rfl, ?_⟩) ?_ ?_
                          rotate_left
                          · intro w'
                            go_simp
                            with_reducible rfl
                          rotate_left
                          · simp only [Act.put, List.setIfInBounds_toArray, List.set_cons_zero, List.set_cons_succ, i64_w, i32_w]
                            rfl
                          refine take_ (i := 19) (N := some 105) (v := ?_) (a' := ?_) #[true, true, true, true, true, true, true, true, true, true, true, true, true, true, true, true, true, true, true, true, false, false, false, false, false] rfl rfl (by kernel_rfl) (fun _ _ _ h => h) (Or.inl ⟨by rfl, ?_⟩) hHeld ?_ ?_
                          rotate_left
                          · rintro w' ⟨s0, s1, s2, s3, s4⟩
                            go_simp
                            with_reducible rfl
                          rotate_left
                          · simp only [Act.put, List.setIfInBounds_toArray, List.set_cons_zero, List.set_cons_succ, i64_w, i32_w]
                            rfl
                          refine pure_ (i := 20) (N := some 106) (v := ?_) (a' := ?_) #[true, true, true, true, true, true, true, true, true, true, true, true, true, true, true, true, true, true, true, true, true, false, false, false, false] rfl rfl (by kernel_rfl) (fun _ _ _ h => h) (Or.inl ⟨by rfl, ?_⟩) ?_ ?_
                          rotate_left
                          · intro w'
                            go_simp
                            with_reducible rfl
                          rotate_left
                          · simp only [Act.put, List.setIfInBounds_toArray, List.set_cons_zero, List.set_cons_succ, i64_w, i32_w]
                            rfl
                          refine one_ (i := 21) (N := some 107) #[true, true, true, true, true, true, true, true, true, true, true, true, true, true, true, true, true, true, true, true, true, true, false, false, false] rfl rfl (by kernel_rfl) (by decide) (fun K hK => ?_)
                          refine value_ (w1 := ?_) (v := ?_) (by rfl) rfl ?_ ?_
                          rotate_left 2
                          · go_simp
                            constructor
                            · rfl
                            · rfl
                          refine hK.out _ _ ⟨(World.cell?_alloc_lt _ _ _ (World.block_lt_of_cell? _ _ (hHeld.1))).trans (hHeld.1), (World.cell?_alloc_lt _ _ _ (World.block_lt_of_cell? _ _ (hHeld.2.1))).trans (hHeld.2.1), (World.cell?_alloc_lt _ _ _ (World.block_lt_of_cell? _ _ (hHeld.2.2.1))).trans (hHeld.2.2.1), (World.cell?_alloc_lt _ _ _ (World.block_lt_of_cell? _ _ (hHeld.2.2.2.1))).trans (hHeld.2.2.2.1), (World.cell?_alloc_lt _ _ _ (World.block_lt_of_cell? _ _ (hHeld.2.2.2.2))).trans (hHeld.2.2.2.2)⟩ (fun hHeld => ?_)
                          clear hK K
                          refine norm_ (a' := ?_) ?_ ?_
                          rotate_left
                          · show Act.put _ (some 107) _ = _
                            simp only [Act.put, List.setIfInBounds_toArray, List.set_cons_zero, List.set_cons_succ, i64_w, i32_w]
                            rfl
                          refine last_ (i := 22) (N := some 108) #[true, true, true, true, true, true, true, true, true, true, true, true, true, true, true, true, true, true, true, true, true, true, true, false, false] rfl rfl (by kernel_rfl) (by decide) (fun K hK => ?_)
                          refine Kd.R_append_step k114 (W := w7) (w0 := w7) p4 (by rfl) (.tmp 87) (.tmp 107) 76 114 (.agg #[(.int .i64 0), (.string ⟨#[]⟩), (.string ⟨#[]⟩)]) 40 (by rfl) Tryd.underlying76 info114 rfl (by decide) (by omega) (.slice Ab oa.length cb) oa (toO U) [.int .i64 U.f0, .string U.f1, .string U.f2] (fun _ => True) (fun _ => False) (by rfl) (by rfl) (k114_mkM _ _ _ (toO U)) (fun _ hk => hk.elim) (fun _ _ => trivial) HOad.out (Below.refl _ _) HZd.out (by have := HSl.out; omega) ?_
                          intro v8 w8 ho8 hb8 hg8 hat8
                          obtain ⟨A8, c8, rfl⟩ := Kd.R_slice ho8
                          obtain ⟨n8, hn8⟩ : ∃ n8, (oa ++ [toO U]).length = n8 := ⟨_, rfl⟩
                          rw [hn8] at ho8 ⊢
                          have hl4 := HL4.out
                          have HN8 := Aside0.mk ((hb8.block p3 (by omega)).trans HNd.out)
                          have HO8 := Aside0.mk ho8
                          have HBL := Aside0.mk hb8
                          have HNn := Aside0.mk hn8
                          have j8 := blk_cell HN8.out 5
                          have fz8 := blk_frozen HN8.out 5
                          clear ho8 hb8 hg8 hat8 hn8 hHeld hl4
                          refine hK.out _ _ ?_
                          clear hK K
                          refine norm_ (a' := ?_) ?_ ?_
                          rotate_left
                          · show Act.put _ (some 108) _ = _
                            simp only [Act.put, List.setIfInBounds_toArray, List.set_cons_zero, List.set_cons_succ, i64_w, i32_w]
                            rfl
                          refine pure_ (i := 23) (N := some 109) (v := ?_) (a' := ?_) #[true, true, true, true, true, true, true, true, true, true, true, true, true, true, true, true, true, true, true, true, true, true, true, true, false] rfl rfl (by kernel_rfl) (fun _ _ _ h => h) (Or.inl ⟨by rfl, ?_⟩) ?_ ?_
                          rotate_left
                          · intro w'
                            go_simp
                            with_reducible rfl
                          rotate_left
                          · simp only [Act.put, List.setIfInBounds_toArray, List.set_cons_zero, List.set_cons_succ, i64_w, i32_w]
                            rfl
                          refine last_ (i := 24) (N := none) #[true, true, true, true, true, true, true, true, true, true, true, true, true, true, true, true, true, true, true, true, true, true, true, true, true] rfl rfl (by kernel_rfl) (by decide) (fun K hK => ?_)
                          refine skip_ (w1 := ?_) (by rfl) rfl ?_ ?_
                          rotate_left
                          · go_simp
                            rfl
                          refine hK.out _ _ ?_
                          clear hK K
                          refine done_ (by kernel_rfl) ?_
                          have hw : IntKind.i64.wrap ((m : Int) + 1) = ((m + 1 : Nat) : Int) := by have := HRs.out.2; have := HM.out; rw [IntKind.wrap_i64]; omega
                          clear j8 fz8
                          go_wp2
                          go_roundg g4
                          case measure => omega
                          case rel =>
                            have hl2 := HL2.out
                            have hl3 := HL3.out
                            have hl4 := HL4.out
                            have hp1 := HP1.out
                            refine ⟨m + 1, oa ++ [toO U], .slice A8 n8 c8, by simp, by have := HM.out; omega, by have := HM.out; omega, HSn, ⟨?_⟩, ⟨?_⟩, ⟨?_⟩, ⟨?_⟩, ⟨?_⟩, ⟨?_⟩, ⟨?_⟩, ⟨?_⟩, ⟨?_⟩⟩
                            · exact (HBd.out.trans (HBL.out.mono (by omega))).setCell (p := ⟨p3, 5, none⟩) (by show q + 1 ≤ p3; omega) _
                            · exact Kd.R_far (p := ⟨p3, 5, none⟩) (Kd.R_step HOd.out (fun k ho hk => HBL.out.block k (by omega))) (fun k hk => by show k ≠ p3; omega) _
                            · exact (Below.heap_setCell w8 ⟨p3, 5, none⟩ _ p1 (show p1 ≠ p3 by omega)).trans ((HBL.out.block p1 (by omega)).trans HPd.out)
                            · exact Kd.R_far (p := ⟨p3, 5, none⟩) (Kd.R_step HVd.out (fun k ho hk => HBL.out.block k (by omega))) (fun k hk => by show k ≠ p3; omega) _
                            · exact (Below.heap_setCell w8 ⟨p3, 5, none⟩ _ p2 (show p2 ≠ p3 by omega)).trans ((HBL.out.block p2 (by omega)).trans HRd.out)
                            · simpa using blk_set HN8.out 5 (.slice A8 n8 c8)
                            · exact Kd.R_mono (Kd.R_far (p := ⟨p3, 5, none⟩) (Kd.R_step (Kd.R_bound HAd.out) (fun k ho hk => HBL.out.block k (by have := ho.1; omega))) (fun k hk => by show k ≠ p3; have := hk.2.1; omega) _) (fun k hk => hk.1)
                            · exact Kd.R_mono (Kd.R_far (p := ⟨p3, 5, none⟩) (Kd.R_bound HO8.out) (fun k hk => by show k ≠ p3; have := hk.2.1; omega) _) (fun _ _ => trivial)
                            · have := HBL.out.size; have := HZd.out; rw [World.size_setCell]; omega
                        · have h1 : decide ((m : Int) < (R.f5.length : Int)) = false := decide_eq_false (by omega)
                          have h2 : ((m : Int) < (R.f5.length : Int)) = False := eq_false (by omega)
                          have h3 : decide (m < R.f5.length) = false := decide_eq_false (by omega)
                          have hmm : m = R.f5.length := by omega
                          have HSg : Aside0 (oa = R.f5.map toO) := ⟨by rw [HSo.out, hmm, List.take_length]⟩
                          clear hmt hm hml hmm HSo
                          have j0 := blk_cell HPv.out 1
                          have n0 := blk_cell HNv.out 0
                          have n1 := blk_cell HNv.out 1
                          have n2 := blk_cell HNv.out 2
                          have n3 := blk_cell HNv.out 3
                          have n4 := blk_cell HNv.out 4
                          have n5 := blk_cell HNv.out 5
                          have fz0 := blk_frozen HPv.out 1
                          have HGa : Aside0 (Kd.R k113 113 wv (p1 + 1) (fun k => p3 < k) (.slice Aa sa.length ca) sa) := ⟨Kd.R_lower (Kd.R_mono (Kd.R_bound HAv.out) (fun k hk => by have := hk.2.1; omega)) (by have := HL2.out; have := HL3.out; omega)⟩
                          have HGb : Aside0 (Kd.R k114 114 wv (p1 + 1) (fun k => p3 < k) (.slice Ab oa.length cb) oa) := ⟨Kd.R_lower (Kd.R_mono (Kd.R_bound HOa.out) (fun k hk => by have := hk.2.1; have := HL4.out; omega)) (by have := HL2.out; have := HL3.out; have := HL4.out; omega)⟩
                          have HAV : Aside0 (Kd.R k78 78 wv (p1 + 1) (fun _ => True) (.slice Av al.length cv) al) := ⟨row_any HVv.out⟩
                          have HOV : Aside0 (∀ k, p3 < k → True ∧ some k ≠ (Value.slice Av al.length cv).ownBlock) := ⟨fun k hk => ⟨trivial, fun e => by have := HVv.out.1 k e.symm; have := HL3.out; omega⟩⟩
                          have HSZ : Aside0 (p1 + 1 ≤ wv.heap.size) := ⟨blk_lt HPv.out⟩
                          have HAl2 : Aside0 (al.length * 112 ≤ 140737488351232) := ⟨by rw [HAl.out, List.length_map, List.length_take]; have := HTs.out.1; omega⟩
                          have HXr : Aside0 (al ++ [(⟨R.f0, R.f1, R.f2, R.f3, sa, oa⟩ : RR)] = (T.f1.take (j + 1)).map toR) := ⟨by rw [take_map_snoc toR T.f1 j HJ.out.2.2, HRi.out, HAl.out, HSf.out, HSg.out]; rfl⟩
                          have hw : IntKind.i64.wrap ((j : Int) + 1) = ((j + 1 : Nat) : Int) := by have := HTs.out.1; have := HJ.out; rw [IntKind.wrap_i64]; omega
                          go_wp2_with (first | ((with_reducible refine gate_builtin (b := .append) (xs := #[.tmp 111, .tmp 113]) rfl ?_); (try (refine gate_guard (by rfl) ?_; dsimp only)); at_builtin; go_must (refine Kd.R_append k78 (w0 := wv) (p1 + 1) rfl (.tmp 111) (.tmp 113) 72 78 (.agg #[(.string ⟨#[]⟩), (.string ⟨#[]⟩), (.string ⟨#[]⟩), (.string ⟨#[]⟩), (.slice none 0 0), (.slice none 0 0)]) 112 rfl Tryd.underlying72 info78 rfl (by decide) (by omega) (.slice Av al.length cv) al (⟨R.f0, R.f1, R.f2, R.f3, sa, oa⟩ : RR) [.string R.f0, .string R.f1, .string R.f2, .string R.f3, .slice Aa sa.length ca, .slice Ab oa.length cb] (fun _ => True) (fun k => p3 < k) rfl rfl ?bP HOV.out (fun _ _ => trivial) HAV.out ?bB HSZ.out ?bL ?_); (case bP => exact k78_mkM _ _ _ (⟨R.f0, R.f1, R.f2, R.f3, sa, oa⟩ : RR) HGa.out HGb.out); (case bB => exact Below.refl _ _); (case bL => have := HAl2.out; omega); intro v7 w7 ho7 hb7 hg7 hat7; obtain ⟨A7, c7, rfl⟩ := Kd.R_slice ho7; (obtain ⟨n7, hn7⟩ : ∃ n7, (al ++ [(⟨R.f0, R.f1, R.f2, R.f3, sa, oa⟩ : RR)]).length = n7 := ⟨_, rfl⟩); rw [hn7] at ho7 ⊢; have HP7 := Aside0.mk ((hb7.block p1 (Nat.lt_succ_self p1)).trans HPv.out); have j7 := blk_cell HP7.out 1; have fz7 := blk_frozen HP7.out 1; have HO7 := Aside0.mk ho7; have HBL := Aside0.mk hb7; have HN7 := Aside0.mk hn7; clear ho7 hb7 hg7 hat7 hn7 j0 fz0 n0 n1 n2 n3 n4 n5))
                          go_roundg g2
                          case measure => omega
                          case rel =>
                            have hp1 := HP1.out
                            refine ⟨j + 1, al ++ [(⟨R.f0, R.f1, R.f2, R.f3, sa, oa⟩ : RR)], .slice A7 n7 c7, by simp, by have := HJ.out; omega, HJ.out.2.2, HXr, ⟨?_⟩, ⟨?_⟩, ⟨?_⟩, ⟨?_⟩⟩
                            · exact (HBv.out.trans (HBL.out.mono (by omega))).setCell (p := ⟨p1, 1, none⟩) (by show q + 1 ≤ p1; omega) _
                            · exact Kd.R_far (p := ⟨p1, 1, none⟩) (Kd.R_step HOv.out (fun k ho hk => HBL.out.block k (by omega))) (fun k hk => by show k ≠ p1; omega) _
                            · simpa using blk_set HP7.out 1 (.slice A7 n7 c7)
                            · exact Kd.R_mono (Kd.R_far (p := ⟨p1, 1, none⟩) (Kd.R_bound HO7.out) (fun k hk => by show k ≠ p1; have := hk.2.1; omega) _) (fun _ _ => trivial)
            · have f1 : decide ((j : Int) < (T.f1.length : Int)) = false := decide_eq_false (by omega)
              have f2 : ((j : Int) < (T.f1.length : Int)) = False := eq_false (by omega)
              have f3 : decide (j < T.f1.length) = false := decide_eq_false (by omega)
              have hjj : j = T.f1.length := by omega
              have HAf : Aside0 (al = T.f1.map toR) := ⟨by rw [HAl.out, hjj, List.take_length]⟩
              clear hjt hj hjl hjj HAl
              have j0 := blk_cell HPy.out 0
              have j1 := blk_cell HPy.out 1
              have HG : Aside0 (Kd.R k78 78 wy (q + 1) (fun k => p1 < k) (.slice Av al.length cv) al) := ⟨Kd.R_lower (Kd.R_mono (Kd.R_bound HVy.out) (fun k hk => by have := hk.2.1; omega)) (by have := HP1.out; omega)⟩
              have HAV : Aside0 (Kd.R k74 74 wy (q + 1) (fun _ => True) (.slice Ao acc.length co) acc) := ⟨row_any HOy.out⟩
              have HOV : Aside0 (∀ k, p1 < k → True ∧ some k ≠ (Value.slice Ao acc.length co).ownBlock) := ⟨fun k hk => ⟨trivial, fun e => by have := HOy.out.1 k e.symm; omega⟩⟩
              have HSZ : Aside0 (q + 1 ≤ wy.heap.size) := ⟨by have := blk_lt HPy.out; have := HP1.out; omega⟩
              have HA2 : Aside0 (acc.length * 40 ≤ 140737488351232) := ⟨by rw [HA.out, List.length_map, List.length_take]; have := HXl.out; omega⟩
              have HXr : Aside0 (acc ++ [(⟨T.f0, al⟩ : RT)] = (X.take (i + 1)).map toT) := ⟨by rw [take_map_snoc toT X i HI.out.2.2, HTi.out, HA.out, HAf.out]; rfl⟩
              have hw : IntKind.i64.wrap ((i : Int) + 1) = ((i + 1 : Nat) : Int) := by have := HXl.out; have := HI.out; rw [IntKind.wrap_i64]; omega
              go_wp2_with (first | ((with_reducible refine gate_builtin (b := .append) (xs := #[.tmp 116, .tmp 118]) rfl ?_); (try (refine gate_guard (by rfl) ?_; dsimp only)); at_builtin; go_must (refine Kd.R_append k74 (w0 := wy) (q + 1) rfl (.tmp 116) (.tmp 118) 46 74 (.agg #[(.string ⟨#[]⟩), (.slice none 0 0)]) 40 rfl Tryd.underlying46 info74 rfl (by decide) (by omega) (.slice Ao acc.length co) acc (⟨T.f0, al⟩ : RT) [.string T.f0, .slice Av al.length cv] (fun _ => True) (fun k => p1 < k) rfl rfl ?bP HOV.out (fun _ _ => trivial) HAV.out ?bB HSZ.out ?bL ?_); (case bP => exact k74_mkM _ _ _ (⟨T.f0, al⟩ : RT) HG.out); (case bB => exact Below.refl _ _); (case bL => have := HA2.out; omega); intro v7 w7 ho7 hb7 hg7 hat7; obtain ⟨A7, c7, rfl⟩ := Kd.R_slice ho7; have HO7 := Aside0.mk ho7; have HBL := Aside0.mk hb7; clear ho7 hb7 hg7 hat7 j0 j1))
              go_roundg g1
              case measure => omega
              case rel => exact ⟨i + 1, acc ++ [(⟨T.f0, al⟩ : RT)], by simp, by have := HI.out; omega, HI.out.2.2, HXr, ⟨HBy.out.trans HBL.out⟩, ⟨by have h := HO7.out; rw [List.length_append, List.length_singleton] at h; exact h⟩⟩
      · have e1 : decide ((i : Int) < (X.length : Int)) = false := decide_eq_false (by omega)
        have e2 : ((i : Int) < (X.length : Int)) = False := eq_false (by omega)
        have e3 : decide (i < X.length) = false := decide_eq_false (by omega)
        have hii : i = X.length := by omega
        have HF : Aside0 (Kd.R k74 74 wx q (fun _ => True) (.slice Ao acc.length co) (X.map toT)) := ⟨by have h := HA.out; rw [hii, List.take_length] at h; rw [← h]; exact Kd.R_lower HO.out (by omega)⟩
        have HG : Aside0 (Below q w wx) := ⟨HB1.out.trans (HBx.out.mono (by omega))⟩
        clear hlt hi hii hil
        go_wp2
        go_ret
        exact ⟨_, rfl, HF.out, HG.out⟩
end Go.Proofs.YtkgnhghaiopgcaaDoor.O7
