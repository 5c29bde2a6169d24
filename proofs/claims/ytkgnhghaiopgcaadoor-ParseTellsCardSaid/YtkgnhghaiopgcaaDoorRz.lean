/- The walk of doormanref07's Parse; no condition. -/
import Derived.Test.YtkgnhghaiopgcaaDoorRy
set_option linter.unusedVariables false
set_option linter.unusedSimpArgs false
namespace Go.Proofs.YtkgnhghaiopgcaaDoor.Rq
open Go.Proofs.YtkgnhghaiopgcaaDoor.Gl Go.Proofs.YtkgnhghaiopgcaaDoor.X Go.Proofs.YtkgnhghaiopgcaaDoor.Kx Go.Proofs.YtkgnhghaiopgcaaDoor.Tk Go.Proofs.YtkgnhghaiopgcaaDoor.Ps Go.Proofs.YtkgnhghaiopgcaaDoor.Of
theorem subs_le : ∀ (k : Nat) (acc : List RS) (σ : Sg) (y : List RS × Sg), subsR k acc σ = some y → lenS y.2 ≤ lenS σ
  | 0, _, _, _, h => absurd h (by simp [subsR])
  | k + 1, acc, σ, y, h => by
    rw [subsR] at h
    have a1 := sub_le σ
    split at h
    · rename_i g
      have a2 := pop_len g
      have a3 := subs_le k _ _ _ h
      omega
    · obtain rfl := Option.some.inj h
      exact a1
theorem rel_le (k : Nat) (σ : Sg) (y : RR × Sg) (h : relR k σ = some y) : lenS y.2 ≤ lenS σ := by
  unfold relR at h
  obtain ⟨su, h1, h2⟩ := Option.bind_eq_some_iff.1 h
  obtain ⟨ops, h3, h4⟩ := Option.bind_eq_some_iff.1 h2
  obtain rfl := Option.some.inj h4
  have a0 := h5_le σ
  have a1 : lenS su.2 ≤ lenS (h5 σ) := by
    split at h1
    · exact subs_le _ _ _ _ h1
    · obtain rfl := Option.some.inj h1
      exact Nat.le_refl _
  have a2 : lenS ops.2 ≤ lenS su.2 := by
    split at h3
    · rename_i g
      have b1 := pop_len g
      have b2 := (sizesR k).2.1 _ _ _ h3
      omega
    · obtain rfl := Option.some.inj h3
      exact Nat.le_refl _
  have a3 := need_len [59] ops.2
  show lenS (needR [59] ops.2) ≤ _
  omega
theorem rels_le : ∀ (k : Nat) (acc : List RR) (σ : Sg) (y : List RR × Sg), relsR k acc σ = some y → lenS y.2 ≤ lenS σ
  | 0, _, _, _, h => absurd h (by simp [relsR])
  | k + 1, acc, σ, y, h => by
    rw [relsR] at h
    split at h
    · rename_i g
      have a2 := pop_len g
      obtain ⟨x, h1, h2⟩ := Option.bind_eq_some_iff.1 h
      have a1 := rel_le _ _ _ h1
      have a3 := rels_le k _ _ _ h2
      omega
    · obtain rfl := Option.some.inj h
      exact Nat.le_refl _
end Go.Proofs.YtkgnhghaiopgcaaDoor.Rq
namespace Go.Proofs.YtkgnhghaiopgcaaDoor.Rw
open Go.RowKit Go.Maps Go.Proofs.YtkgnhghaiopgcaaDoorW.PrintWords Go.Proofs.YtkgnhghaiopgcaaDoorW.PrintLast Go.Proofs.YtkgnhghaiopgcaaDoor.X Go.Proofs.YtkgnhghaiopgcaaDoor.Kx Go.Proofs.YtkgnhghaiopgcaaDoor.Gl Go.Proofs.YtkgnhghaiopgcaaDoor.GlFn Go.Proofs.YtkgnhghaiopgcaaDoor.Tk Go.Proofs.YtkgnhghaiopgcaaDoor.Ps Go.Proofs.YtkgnhghaiopgcaaDoor.Pw Go.Proofs.YtkgnhghaiopgcaaDoor.Of Go.Proofs.YtkgnhghaiopgcaaDoor.Rq

/-- A type that is being read: its block r, the types before it, its relations so far. -/
structure IN (w0 : World) (A : Option Addr) (c : Nat) (TS : List Tok) (b r : Nat) (nm : ByteArray) (v : Value) (acc : List RT) (x : Value) (ar : List RR) (u : World) (σ : Sg) : Prop where
  ps : PS w0 A c TS b u σ
  hr : u.heap[r]? = some (.cells #[.string nm, x] 74 (0, 0))
  out : k74.R 74 u (b + 1) (fun k => b < k ∧ k < r) v acc
  inn : k78.R 78 u (r + 1) (fun k => r < k) x ar
  lt : b < r ∧ w0.heap.size ≤ b
section
variable {w0 w u u' : World} {A : Option Addr} {c : Nat} {TS : List Tok} {b r : Nat} {σ σ' : Sg} {nm : ByteArray} {v x : Value} {acc : List RT} {ar : List RR}
theorem IN.call (h : IN w0 A c TS b r nm v acc x ar u σ) (hs : PS w0 A c TS b u' σ') (hf : Fr b u.heap.size u u') : IN w0 A c TS b r nm v acc x ar u' σ' :=
  ⟨hs, (hf.block r (blk_lt h.hr) (by have := h.lt; omega)).trans h.hr, Kd.R_step h.out (fun k ho hk => hf.block k hk (by omega)), Kd.R_step h.inn (fun k ho hk => hf.block k hk (by have := h.lt; omega)), h.lt⟩
theorem IN.drew (h : IN w0 A c TS b r nm v acc x ar u σ) : IN w0 A c TS b r nm v acc x ar u.drew σ :=
  ⟨h.ps.below (Below.refl _ _).drew, h.hr, Kd.R_drew h.out, Kd.R_drew h.inn, h.lt⟩
theorem IN.step (E : Env w0 A TS) (h : IN w0 A c TS b r nm v acc x ar u σ) {s : List UInt8} (hne : s ≠ []) (hq : isR s σ = true) : ∃ i : Nat, u.cell? ⟨b, 1, none⟩ = some (.int .i64 i) ∧ u.frozen? ⟨b, 1, none⟩ = false ∧ i ≤ 4096 ∧ IN w0 A c TS b r nm v acc x ar (u.setCell ⟨b, 1, none⟩ (.int .i64 ((i : Int) + 1))) (Rq.pop σ) := by
  obtain ⟨i, h1, h2, h3, h4⟩ := h.ps.step E hne hq
  have hf : Fr b u.heap.size u (u.setCell ⟨b, 1, none⟩ (.int .i64 ((i : Int) + 1))) := (Fr.refl b u.heap.size u).set _ _
  exact ⟨i, h1, h2, h3, h.call h4 hf⟩
theorem rowb_fr {α : Type} {d : Kd α} {t base : Nat} {xs : List α} (h : d.R t u base (fun k => b < k) v xs) (hf : Fr b u.heap.size u u') : d.R t u' base (fun k => b < k) v xs :=
  Kd.R_step h (fun k ho hk => hf.block k hk (by omega))
end
/-- What Parse says. -/
def PaP (w : World) (y : List RT × Sg) (e : Ending) (w' : World) : Prop :=
  ∃ v en at_, e = .returned (.tuple #[v, .int .i64 en, .int .i64 at_]) ∧ (okB (endR y.2) = true → en = 0 ∧ at_ = 0 ∧ k74.R 74 w' w.heap.size (fun _ => True) v y.1) ∧ (∀ (e' : Int) (a' : Nat), endR y.2 = .bad e' a' → v = .slice none 0 0 ∧ en = e' ∧ at_ = a') ∧ Below w.heap.size w w'
set_option maxHeartbeats 16000000 in
set_option maxRecDepth 100000 in
theorem Parse_c (s : ByteArray) (w : World) (TS : List Tok) (hends : EndsT TS) (hsm : TS.length ≤ 4096) (k : Nat) (y : List RT × Sg) (hp : typesR k [] (.ok TS) = some y)
    (hAll : Calls Tryd.prog 26 #[.string s] w fun e w' => ∃ A c, e = .returned (.tuple #[.slice A TS.length c, .int .i64 0, .int .i64 0]) ∧ Kd.R k33 33 w' w.heap.size (fun _ => True) (.slice A TS.length c) (TS.map toK) ∧ Below w.heap.size w w') :
    Calls Tryd.prog 34 #[.string s] w (PaP w y) := by
  go_enter Tryd.func34, Tryd.ntmps34
  go_wp2_with fail
  refine hAll.mono ?_
  rintro e_ w1 ⟨A, c, rfl, hr, hb⟩
  have E : Env w1 A TS := ⟨(by have := (Kd.R_reads' hr).2.2; rwa [List.length_map] at this), hends, hsm⟩
  have hpos : 0 < TS.length := by cases TS with | nil => exact absurd hends (by simp [EndsT]) | cons t r => simp
  obtain ⟨w2, e2, h2, b2, z2, k2⟩ := al1 w1 #[.slice A TS.length c, .int .i64 0, .int .i64 0, .int .i64 0] 107
  obtain ⟨b, hbb⟩ : ∃ x, w1.heap.size = x := ⟨_, rfl⟩
  rw [hbb] at h2
  have HS0 : Aside0 (PS w1 A c TS b w2 (.ok TS)) := ⟨⟨b2, by omega, 0, 0, 0, h2, hpos, rfl, rfl, rfl⟩⟩
  have HE := Aside0.mk E
  have HW2 := Aside0.mk e2
  have HBB := Aside0.mk hbb
  have HB1 := Aside0.mk hb
  have HP := Aside0.mk hp
  have HW := Aside0.mk (show w.heap.size ≤ b from by rw [← hbb]; exact hb.size)
  have HSM : Aside0 (([] : List RT).length + lenS (.ok TS) ≤ 4096) := ⟨by simpa [lenS] using hsm⟩
  have HSB : Aside0 (∀ (s : List UInt8) (τ : Sg), isR s τ = true → lenS (pop τ) + 1 ≤ lenS τ) := ⟨fun s τ h => pop_len h⟩
  clear hr hb E hpos e2 h2 b2 z2 k2 hbb hp hsm hends hAll
  go_upto_region 5 with (fail)
  rw [HW2.out, HBB.out]
  clear HW2 HBB
  go_wp2_with fail
  go_loopg [9] k (fun kq v9 wr => ∃ (acc : List RT) (σ : Sg), Aside0 (typesR kq acc σ = some y) ∧ Aside0 (k74.R 74 wr (b + 1) (fun k => b < k) v9 acc) ∧ Aside0 (PS w1 A c TS b wr σ) ∧ Aside0 (acc.length + lenS σ ≤ 4096))
  case atStart => exact ⟨[], _, HP, ⟨Kd.R_nil _ _ _ _ _⟩, HS0, HSM⟩
  case round =>
    clear HP HS0 HSM
    obtain ⟨acc, σ, HA, HV, HS, HSM⟩ := hrel
    rename World => wr
    cases gk with
    | zero => exact absurd HA.out (by simp [typesR])
    | succ k1 =>
      have ha := HA.out
      rw [typesR] at ha
      clear HA
      obtain ⟨Av, cv, rfl⟩ := Kd.R_slice HV.out
      cases g1 : isR sType σ with
      | false =>
        rw [if_neg (by rw [g1]; decide)] at ha
        obtain rfl := Option.some.inj ha
        have hcall := is_c HE.out HS.out (⟨#[116, 121, 112, 101]⟩ : ByteArray)
        rw [show L (⟨#[116, 121, 112, 101]⟩ : ByteArray) = sType from rfl, g1] at hcall
        clear ha g1 HSB HSM
        go_wp2_with fail
        refine hcall.mono ?_
        rintro e_ u1 ⟨rfl, hs, hb⟩
        have HS1 := Aside0.mk hs
        have HV1 := Aside0.mk (rowb_fr HV.out (fr_self b hb))
        clear hs hb hcall HS HV
        obtain ⟨ad, i, e, a, t, hAd, v⟩ := HS1.out.view HE.out
        subst hAd
        obtain ⟨m, hm⟩ : ∃ m, TS.length = m := ⟨_, rfl⟩
        have V := Aside0.mk v
        have hbk : u1.heap[b]? = some (.cells #[.slice (some ad) m c, .int .i64 i, .int .i64 e, .int .i64 a] 107 (0, 0)) := by rw [← hm]; exact v.blk
        have HBK := Aside0.mk hbk
        have c0 := blk_cell hbk 0
        have c1 := blk_cell hbk 1
        have q0 := v.q0
        have p1 : decide ((i : Int) < (m : Int)) = true := decide_eq_true (by have := v.lt; omega)
        have p2 : ((i : Int) < (m : Int)) = True := eq_true (by have := v.lt; omega)
        have p3 : decide (i < m) = true := decide_eq_true (by have := v.lt; omega)
        have p4 : (0 ≤ (i : Int)) = True := eq_true (by omega)
        have p5 : decide ((i : Int) < 0) = false := decide_eq_false (by omega)
        have p6 : ((i : Int) < 0) = False := eq_false (by omega)
        have p7 : decide (0 ≤ (i : Int)) = true := decide_eq_true (by omega)
        clear hbk hm v
        go_upto_region 15 with (fail)
        go_quiet (fail)
        have hbz : Below u1.heap.size u1 (u1.drewN nq) := pw_below_drewN (Below.refl _ _) nq
        have HS2 := Aside0.mk (HS1.out.below hbz)
        have HV2 := Aside0.mk (rowb_fr HV1.out (fr_self b hbz))
        have HBK2 := Aside0.mk ((hbz.block b (blk_lt HBK.out)).trans HBK.out)
        obtain ⟨u2, hu2⟩ : ∃ x, u1.drewN nq = x := ⟨_, rfl⟩
        rw [hu2] at HS2 HV2 HBK2 ⊢
        clear hu2 hbz HS1 HV1 HBK c0 c1 q0 p1 p2 p3 p4 p5 p6 p7
        have hst := V.out.st
        by_cases e3 : t.kind = 3
        · have t2 : (t.kind != 3) = false := by simp [e3]
          have t3 : (t.kind == 3) = true := beq_iff_eq.mpr e3
          have t4 : decide (t.kind = 3) = true := decide_eq_true e3
          cases σ with
          | ok ts =>
            obtain ⟨h1, rfl, rfl⟩ := hst
            have HEN : Aside0 (endR (.ok ts) = .ok ts) := ⟨by rw [h1, V.out.tk]; show (if t.kind = 3 then _ else _) = _; rw [if_pos e3]⟩
            have c2 := blk_cell HBK2.out 2
            clear h1 e3
            go_wp2_with fail
            go_ret3
            exact ⟨_, _, _, rfl, fun _ => ⟨rfl, rfl, Kd.R_mono (Kd.R_lower HV2.out (by have := HW.out; omega)) (fun _ _ => trivial)⟩, fun e' a' h => by rw [HEN.out] at h; exact absurd h (by simp), HB1.out.trans (HS2.out.1.mono HB1.out.size)⟩
          | bad en p =>
            have HEN : Aside0 (endR (.bad en p) = .bad en p) := ⟨rfl⟩
            clear hst e3
            have hP3 := HS2.out
            obtain ⟨_, _, i3, e3, a3, hb3, hi3, hs3⟩ := hP3
            obtain ⟨rfl, hne, rfl⟩ := hs3
            have c2 : u2.cell? ⟨b, 2, none⟩ = some (.int .i64 e3) := blk_cell hb3 2
            have n1 : ((e3 : Int) != 0) = true := bne_iff_ne.mpr hne
            have n2 : decide ((e3 : Int) = 0) = false := decide_eq_false hne
            have n3 : ((e3 : Int) = 0) = False := eq_false hne
            have HB3 := Aside0.mk hb3
            clear hb3 hi3 hne
            go_upto_region 18 with (fail)
            have c3 := blk_cell HB3.out 3
            go_quiet (fail)
            have HBz : Aside0 (Below w1.heap.size w1 (u2.drewN nq)) := ⟨HS2.out.1.trans (pw_below_drewN (Below.refl _ _) nq)⟩
            go_wp2_with fail
            go_ret3
            exact ⟨_, _, _, rfl, fun h => by rw [HEN.out] at h; exact absurd h (by simp [okB]), fun e' a' h => by rw [HEN.out] at h; injection h with h1 h2; exact ⟨rfl, h1, by rw [← h2]⟩, HB1.out.trans (HBz.out.mono HB1.out.size)⟩
        · have t2 : (t.kind != 3) = true := bne_iff_ne.mpr e3
          have t3 : (t.kind == 3) = false := beq_eq_false_iff_ne.mpr e3
          have t4 : (t.kind = 3) = False := eq_false e3
          cases σ with
          | ok ts =>
            obtain ⟨h1, rfl, rfl⟩ := hst
            have HEN : Aside0 (endR (.ok ts) = .bad 30 t.at_) := ⟨by rw [h1, V.out.tk]; show (if t.kind = 3 then _ else _) = _; rw [if_neg e3]⟩
            have hfr : failR 30 (.ok ts) = .bad 30 t.at_ := by rw [h1, V.out.tk]; rfl
            have hfc := fail_c HE.out HS2.out 30 (by decide)
            rw [hfr] at hfc
            clear h1 e3 hfr
            go_wp2_with fail
            refine hfc.mono ?_
            rintro e_ u3 ⟨rfl, hs, hf⟩
            have HS3 := Aside0.mk hs
            clear hs hf t2 t3 t4 hfc
            have hP3 := HS3.out
            obtain ⟨_, _, i3, e3, a3, hb3, hi3, hs3⟩ := hP3
            obtain ⟨rfl, hne, rfl⟩ := hs3
            have c2 : u3.cell? ⟨b, 2, none⟩ = some (.int .i64 30) := blk_cell hb3 2
            have n1 : ((30 : Int) != 0) = true := bne_iff_ne.mpr hne
            have n2 : decide ((30 : Int) = 0) = false := decide_eq_false hne
            have n3 : ((30 : Int) = 0) = False := eq_false hne
            have HB3 := Aside0.mk hb3
            clear hb3 hi3 hne
            go_upto_region 18 with (fail)
            have c3 := blk_cell HB3.out 3
            go_quiet (fail)
            have HBz : Aside0 (Below w1.heap.size w1 (u3.drewN nq)) := ⟨HS3.out.1.trans (pw_below_drewN (Below.refl _ _) nq)⟩
            go_wp2_with fail
            go_ret3
            exact ⟨_, _, _, rfl, fun h => by rw [HEN.out] at h; exact absurd h (by simp [okB]), fun e' a' h => by rw [HEN.out] at h; injection h with h1 h2; exact ⟨rfl, h1, by rw [← h2]⟩, HB1.out.trans (HBz.out.mono HB1.out.size)⟩
          | bad en p =>
            have HEN : Aside0 (endR (.bad en p) = .bad en p) := ⟨rfl⟩
            have hfc := fail_c HE.out HS2.out 30 (by decide)
            rw [show failR 30 (.bad en p) = .bad en p from rfl] at hfc
            clear hst e3
            go_wp2_with fail
            refine hfc.mono ?_
            rintro e_ u3 ⟨rfl, hs, hf⟩
            have HS3 := Aside0.mk hs
            clear hs hf t2 t3 t4 hfc
            have hP3 := HS3.out
            obtain ⟨_, _, i3, e3, a3, hb3, hi3, hs3⟩ := hP3
            obtain ⟨rfl, hne, rfl⟩ := hs3
            have c2 : u3.cell? ⟨b, 2, none⟩ = some (.int .i64 e3) := blk_cell hb3 2
            have n1 : ((e3 : Int) != 0) = true := bne_iff_ne.mpr hne
            have n2 : decide ((e3 : Int) = 0) = false := decide_eq_false hne
            have n3 : ((e3 : Int) = 0) = False := eq_false hne
            have HB3 := Aside0.mk hb3
            clear hb3 hi3 hne
            go_upto_region 18 with (fail)
            have c3 := blk_cell HB3.out 3
            go_quiet (fail)
            have HBz : Aside0 (Below w1.heap.size w1 (u3.drewN nq)) := ⟨HS3.out.1.trans (pw_below_drewN (Below.refl _ _) nq)⟩
            go_wp2_with fail
            go_ret3
            exact ⟨_, _, _, rfl, fun h => by rw [HEN.out] at h; exact absurd h (by simp [okB]), fun e' a' h => by rw [HEN.out] at h; injection h with h1 h2; exact ⟨rfl, h1, by rw [← h2]⟩, HB1.out.trans (HBz.out.mono HB1.out.size)⟩
      | true =>
        rw [if_pos g1] at ha
        have hcall := is_c HE.out HS.out (⟨#[116, 121, 112, 101]⟩ : ByteArray)
        rw [show L (⟨#[116, 121, 112, 101]⟩ : ByteArray) = sType from rfl, g1] at hcall
        obtain ⟨yt, hyt, ha2⟩ := Option.bind_eq_some_iff.1 ha
        unfold typeR at hyt
        obtain ⟨⟨nm, σ2⟩, hnm⟩ : ∃ x, nameR (pop σ) = x := ⟨_, rfl⟩
        rw [hnm] at hyt
        dsimp only at hyt
        obtain ⟨z, hz, hyt2⟩ := Option.bind_eq_some_iff.1 hyt
        obtain rfl := Option.some.inj hyt2
        have hl1 := HSB.out _ _ g1
        have hl2 := name_le (pop σ)
        rw [hnm] at hl2
        dsimp only at hl2 ha2
        have hl3 := need_len [123] σ2
        have HSM2 : Aside0 (acc.length + 1 + lenS (needR [123] σ2) ≤ 4096) := ⟨by have := HSM.out; omega⟩
        have HLZ : Aside0 (lenS (needR [125] z.2) ≤ lenS (needR [123] σ2)) := ⟨Nat.le_trans (need_len _ _) (rels_le _ _ _ _ hz)⟩
        have HNM := Aside0.mk hnm
        have HZ := Aside0.mk hz
        have HA2 := Aside0.mk ha2
        clear ha ha2 hyt hyt2 hz hnm hl1 hl2 hl3 HSM
        go_wp2_with fail
        refine hcall.mono ?_
        rintro e_ u1 ⟨rfl, hs, hb⟩
        have HS1 := Aside0.mk hs
        have HV1 := Aside0.mk (rowb_fr HV.out (fr_self b hb))
        clear hs hb hcall HS HV
        obtain ⟨i, c1, f1, hi, hpop⟩ := PS.step HE.out HS1.out (by decide) g1
        have hwi : IntKind.i64.wrap ((i : Int) + 1) = (i : Int) + 1 := by rw [IntKind.wrap_i64]; omega
        have HS2 := Aside0.mk hpop
        have HV2 := Aside0.mk (rowb_fr HV1.out ((Fr.refl b u1.heap.size u1).set 1 (.int .i64 ((i : Int) + 1))))
        clear hi hpop g1 HS1 HV1
        go_upto_region 8 with (fail)
        obtain ⟨u2, hu2⟩ : ∃ x, u1.setCell ⟨b, 1, none⟩ (.int .i64 ((i : Int) + 1)) = x := ⟨_, rfl⟩
        rw [hu2] at HS2 HV2 ⊢
        clear hu2 c1 f1 hwi
        have hnm := name_c HE.out HS2.out
        rw [HNM.out] at hnm
        dsimp only at hnm
        clear HNM
        go_wp2_with fail
        refine hnm.mono ?_
        rintro e_ u3 ⟨rfl, hs, hf⟩
        obtain ⟨u4, e4, h4, b4, z4, k4⟩ := al1 u3 #[.string nm, .slice none 0 0] 74
        obtain ⟨r, hr⟩ : ∃ x, u3.heap.size = x := ⟨_, rfl⟩
        have hV3 := rowb_fr HV2.out hf
        have hbr := hs.lt
        rw [hr] at hbr h4
        have HI4 : Aside0 (IN w1 A c TS b r nm (.slice Av acc.length cv) acc (.slice none 0 0) [] u4 σ2) := ⟨⟨hs.below b4, h4, Kd.R_step (Kd.R_mono (Kd.R_bound hV3) (fun k hk => ⟨hk.1, by have := hk.2.2.1; omega⟩)) (fun k ho hk => b4.block k hk), Kd.R_nil _ _ _ _ _, hbr, hs.2.1⟩⟩
        have HW4 := Aside0.mk e4
        have HRR := Aside0.mk hr
        clear hs hf hnm hV3 hbr h4 e4 b4 z4 k4 hr HS2 HV2
        go_upto_region 9 with (fail)
        rw [HW4.out, HRR.out]
        clear HW4 HRR
        go_wp2_with fail
        refine (need_c HE.out HI4.out.ps (⟨#[123]⟩ : ByteArray) (by decide)).mono ?_
        rintro e_ u5 ⟨rfl, hs, hf⟩
        have HI5 : Aside0 (IN w1 A c TS b r nm (.slice Av acc.length cv) acc (.slice none 0 0) [] u5 (needR [123] σ2)) := ⟨HI4.out.call hs hf⟩
        have HLT := Aside0.mk HI4.out.lt
        clear hs hf HI4
        go_wp2_with fail
        go_loopg [] k1 (fun kq wr => ∃ (ar : List RR) (τ : Sg) (x : Value), Aside0 (relsR kq ar τ = some z) ∧ Aside0 (IN w1 A c TS b r nm (.slice Av acc.length cv) acc x ar wr τ) ∧ Aside0 (ar.length + lenS τ ≤ 4096))
        case atStart => exact ⟨[], _, _, HZ, HI5, ⟨by have := HSM2.out; simp only [List.length_nil]; omega⟩⟩
        case round =>
          clear HZ HI5
          obtain ⟨ar, τ, x, HA, HI, HSI⟩ := hrel
          rename World => wi
          cases gk with
          | zero => exact absurd HA.out (by simp [relsR])
          | succ k2 =>
            have ha := HA.out
            rw [relsR] at ha
            clear HA
            obtain ⟨Au, cu, rfl⟩ := Kd.R_slice HI.out.inn
            cases g2 : isR sRel τ with
            | false =>
              rw [if_neg (by rw [g2]; decide)] at ha
              obtain rfl := Option.some.inj ha
              have hcall := is_c HE.out HI.out.ps (⟨#[114, 101, 108]⟩ : ByteArray)
              rw [show L (⟨#[114, 101, 108]⟩ : ByteArray) = sRel from rfl, g2] at hcall
              clear ha g2
              go_wp2_with fail
              refine hcall.mono ?_
              rintro e_ u6 ⟨rfl, hs, hb⟩
              have HI6 : Aside0 (IN w1 A c TS b r nm (.slice Av acc.length cv) acc (.slice Au ar.length cu) ar u6 τ) := ⟨HI.out.call hs (fr_self b hb)⟩
              clear hs hb hcall HI
              go_wp2_with fail
              refine (need_c HE.out HI6.out.ps (⟨#[125]⟩ : ByteArray) (by decide)).mono ?_
              rintro e_ u7 ⟨rfl, hs, hf⟩
              have HI7 : Aside0 (IN w1 A c TS b r nm (.slice Av acc.length cv) acc (.slice Au ar.length cu) ar u7 (needR [125] τ)) := ⟨HI6.out.call hs hf⟩
              clear hs hf HI6
              have j1 := blk_cell HI7.out.hr 0
              have j2 := blk_cell HI7.out.hr 1
              have HG : Aside0 (k78.R 78 u7 (b + 1) (fun k => r < k) (.slice Au ar.length cu) ar) := ⟨Kd.R_lower HI7.out.inn (by have := HLT.out; omega)⟩
              have HAV : Aside0 (k74.R 74 u7 (b + 1) (fun k => b < k) (.slice Av acc.length cv) acc) := ⟨Kd.R_mono HI7.out.out (fun k hk => hk.1)⟩
              have HOV : Aside0 (∀ k, r < k → b < k ∧ some k ≠ (Value.slice Av acc.length cv).ownBlock) := ⟨fun k hk => ⟨by have := HLT.out; omega, fun e => by have := (HI7.out.out.1 k e.symm).2; omega⟩⟩
              have HZ7 : Aside0 (b + 1 ≤ u7.heap.size) := ⟨HI7.out.ps.lt⟩
              have HS7 := Aside0.mk HI7.out.ps
              clear HI7
              go_wp2_with (first | ((with_reducible refine gate_builtin (b := .append) (xs := #[.tmp 56, .tmp 58]) rfl ?_); (try (refine gate_guard (by rfl) ?_; dsimp only)); at_builtin; go_must (refine Kd.R_append k74 (w0 := u7) (b + 1) rfl (.tmp 56) (.tmp 58) 46 74 (.agg #[(.string ⟨#[]⟩), (.slice none 0 0)]) 40 rfl Tryd.underlying46 info74 rfl (by decide) (by omega) (.slice Av acc.length cv) acc (⟨nm, ar⟩ : RT) [.string nm, (.slice Au ar.length cu)] (fun k => b < k) (fun k => r < k) rfl rfl ?bP HOV.out ?bF HAV.out ?bB HZ7.out ?bL ?_); (case bP => exact k74_mkM _ _ _ (⟨nm, ar⟩ : RT) HG.out); (case bF => exact (fun k hk => by have := HZ7.out; omega)); (case bB => exact Below.refl _ _); (case bL => have := HSM2.out; omega); intro v7 w7 ho7 hb7 hg7 hat7; have HO7 := Aside0.mk ho7; have HBL := Aside0.mk hb7; clear ho7 hb7 hg7 hat7))
              go_roundg k1
              case measure => omega
              case rel => exact ⟨_, _, HA2, HO7, ⟨HS7.out.belowB HBL.out (by omega) (by have := HLT.out; omega)⟩, ⟨by have := HSM2.out; have := HLZ.out; simp only [List.length_append, List.length_cons, List.length_nil]; omega⟩⟩
            | true =>
              rw [if_pos g2] at ha
              have hcall := is_c HE.out HI.out.ps (⟨#[114, 101, 108]⟩ : ByteArray)
              rw [show L (⟨#[114, 101, 108]⟩ : ByteArray) = sRel from rfl, g2] at hcall
              obtain ⟨y1, hy1, ha2⟩ := Option.bind_eq_some_iff.1 ha
              have hl1 := HSB.out _ _ g2
              have hl2 := rel_le _ _ _ hy1
              have HSJ : Aside0 (ar.length + 1 + lenS y1.2 ≤ 4096) := ⟨by have := HSI.out; omega⟩
              have HA3 := Aside0.mk ha2
              have HY1 := Aside0.mk hy1
              clear ha ha2 hy1 hl1 hl2 HSI
              go_wp2_with fail
              refine hcall.mono ?_
              rintro e_ u6 ⟨rfl, hs, hb⟩
              have HI6 : Aside0 (IN w1 A c TS b r nm (.slice Av acc.length cv) acc (.slice Au ar.length cu) ar u6 τ) := ⟨HI.out.call hs (fr_self b hb)⟩
              clear hs hb hcall HI
              obtain ⟨i, c1, f1, hi, hpop⟩ := IN.step HE.out HI6.out (by decide) g2
              have hwi : IntKind.i64.wrap ((i : Int) + 1) = (i : Int) + 1 := by rw [IntKind.wrap_i64]; omega
              have HI7 := Aside0.mk hpop
              clear hi hpop g2 HI6
              go_upto_region 12 with (fail)
              obtain ⟨u7, hu7⟩ : ∃ x, u6.setCell ⟨b, 1, none⟩ (.int .i64 ((i : Int) + 1)) = x := ⟨_, rfl⟩
              rw [hu7] at HI7 ⊢
              clear hu7 c1 f1 hwi
              have HId := Aside0.mk HI7.out.drew
              clear HI7
              refine start_ (n := 8) (S := fun w' => w'.cell? ⟨r, 1, none⟩ = some (.slice Au ar.length cu)) (ds := [5, 7]) #[false, false, false, false, false, false, false, false] (by kernel_rfl) rfl rfl (blk_cell HId.out.hr 1) (fun hHeld => ?_)
              generalize u7.drew = w6 at HId hHeld ⊢
              refine pure_ (i := 0) (N := some 47) (v := ?_) (a' := ?_) #[true, false, false, false, false, false, false, false] rfl rfl (by kernel_rfl) (fun _ _ _ h => h) (Or.inl ⟨by rfl, ?_⟩) ?_ ?_
              rotate_left
              · intro w'
                go_simp
                with_reducible rfl
              rotate_left
              · simp only [Act.put, List.setIfInBounds_toArray, List.set_cons_zero, List.set_cons_succ, i64_w, i32_w]
                rfl
              refine pure_ (i := 2) (N := some 49) (v := ?_) (a' := ?_) #[true, false, true, false, false, false, false, false] rfl rfl (by kernel_rfl) (fun _ _ _ h => h) (Or.inl ⟨by rfl, ?_⟩) ?_ ?_
              rotate_left
              · intro w'
                go_simp
                with_reducible rfl
              rotate_left
              · simp only [Act.put, List.setIfInBounds_toArray, List.set_cons_zero, List.set_cons_succ, i64_w, i32_w]
                rfl
              refine take_ (i := 1) (N := some 48) (v := ?_) (a' := ?_) #[true, true, true, false, false, false, false, false] rfl rfl (by kernel_rfl) (fun _ _ _ h => h) (Or.inl ⟨by rfl, ?_⟩) hHeld ?_ ?_
              rotate_left
              · intro w' s0
                go_simp
                with_reducible rfl
              rotate_left
              · simp only [Act.put, List.setIfInBounds_toArray, List.set_cons_zero, List.set_cons_succ, i64_w, i32_w]
                rfl
              refine one_ (i := 3) (N := some 50) #[true, true, true, true, false, false, false, false] rfl rfl (by kernel_rfl) (by decide) (fun K hK => ?_)
              refine goes_ Tryd.func71 (by kernel_rfl) rfl #[.pointer (some ⟨b, 0, none⟩)] (by rfl) rfl rfl (by simp only [List.map_toArray, List.map_cons, List.map_nil]; rfl) ?_
              refine (rel_c HE.out k2 w6 (pop τ) y1 HId.out.ps HY1.out).mono ?_
              rintro e w8 ⟨v4, v5, rfl, g4, g5, hs, hf⟩
              refine ⟨_, rfl, ?_⟩
              obtain ⟨A4, c4, rfl⟩ := Kd.R_slice g4
              obtain ⟨A5, c5, rfl⟩ := Kd.R_slice g5
              have HI8 := Aside0.mk (HId.out.call hs hf)
              have hr6 := blk_lt HId.out.hr
              have hr8 := blk_lt HI8.out.hr
              have HG4 : Aside0 (k113.R 113 w8 (r + 1) (fun k => w6.heap.size ≤ k) (.slice A4 y1.1.f4.length c4) y1.1.f4) := ⟨Kd.R_lower (Kd.R_mono (Kd.R_bound g4) (fun k hk => hk.2.1)) (by omega)⟩
              have HG5 : Aside0 (k114.R 114 w8 (r + 1) (fun k => w6.heap.size ≤ k) (.slice A5 y1.1.f5.length c5) y1.1.f5) := ⟨Kd.R_lower (Kd.R_mono (Kd.R_bound g5) (fun k hk => hk.2.1)) (by omega)⟩
              have HOU : Aside0 (∀ k, w6.heap.size ≤ k → r < k ∧ some k ≠ (Value.slice Au ar.length cu).ownBlock) := ⟨fun k hk => ⟨by omega, fun e => by have := ((Kd.R_bound HId.out.inn).1 k e.symm).2.2.1; omega⟩⟩
              have HSZ : Aside0 (r + 1 ≤ w8.heap.size) := ⟨hr8⟩
              have HW8 : Aside0 (∀ k, w8.heap.size ≤ k → r < k) := ⟨fun k hk => by omega⟩
              clear g4 g5 hs hf hr6 hr8
              refine hK.out _ _ (blk_cell HI8.out.hr 1) (fun hHeld => ?_)
              clear hK K
              refine norm_ (a' := ?_) ?_ ?_
              rotate_left
              · show Act.put _ (some 50) _ = _
                simp only [Act.put, List.setIfInBounds_toArray, List.set_cons_zero, List.set_cons_succ, i64_w, i32_w]
                rfl
              refine one_ (i := 4) (N := some 51) #[true, true, true, true, true, false, false, false] rfl rfl (by kernel_rfl) (by decide) (fun K hK => ?_)
              refine value_ (w1 := ?_) (v := ?_) (by rfl) rfl ?_ ?_
              rotate_left 2
              · go_simp
                constructor
                · rfl
                · rfl
              refine hK.out _ _ ((World.cell?_alloc_lt _ _ _ (World.block_lt_of_cell? _ _ (hHeld))).trans (hHeld)) (fun hHeld => ?_)
              clear hK K
              refine norm_ (a' := ?_) ?_ ?_
              rotate_left
              · show Act.put _ (some 51) _ = _
                simp only [Act.put, List.setIfInBounds_toArray, List.set_cons_zero, List.set_cons_succ, i64_w, i32_w]
                rfl
              refine last_ (i := 5) (N := some 52) #[true, true, true, true, true, true, false, false] rfl rfl (by kernel_rfl) (by decide) (fun K hK => ?_)
              refine Kd.R_append_step k78 (W := w8) (w0 := w8) (r + 1) (by rfl) (.tmp 48) (.tmp 51) 72 78 (.agg #[(.string ⟨#[]⟩), (.string ⟨#[]⟩), (.string ⟨#[]⟩), (.string ⟨#[]⟩), (.slice none 0 0), (.slice none 0 0)]) 112 (by rfl) Tryd.underlying72 info78 rfl (by decide) (by omega) (.slice Au ar.length cu) ar y1.1 [.string y1.1.f0, .string y1.1.f1, .string y1.1.f2, .string y1.1.f3, .slice A4 y1.1.f4.length c4, .slice A5 y1.1.f5.length c5] (fun k => r < k) (fun k => w6.heap.size ≤ k) (by rfl) (by rfl) (k78_mkM _ _ _ y1.1 HG4.out HG5.out) HOU.out HW8.out HI8.out.inn (Below.refl _ _) HSZ.out (by have := HSJ.out; omega) ?_
              intro v9 w9 ho9 hb9 hg9 hat9
              obtain ⟨A9, c9, rfl⟩ := Kd.R_slice ho9
              obtain ⟨n9, hn9⟩ : ∃ n9, (ar ++ [y1.1]).length = n9 := ⟨_, rfl⟩
              rw [hn9] at ho9 ⊢
              have HR9 := Aside0.mk ((hb9.block r (Nat.lt_succ_self r)).trans HI8.out.hr)
              have HO9 := Aside0.mk ho9
              have HB9 := Aside0.mk hb9
              have j8 := blk_cell HR9.out 1
              have fz8 := blk_frozen HR9.out 1
              clear ho9 hb9 hg9 hat9 hn9 hHeld
              refine hK.out _ _ ?_
              clear hK K
              refine norm_ (a' := ?_) ?_ ?_
              rotate_left
              · show Act.put _ (some 52) _ = _
                simp only [Act.put, List.setIfInBounds_toArray, List.set_cons_zero, List.set_cons_succ, i64_w, i32_w]
                rfl
              refine pure_ (i := 6) (N := some 53) (v := ?_) (a' := ?_) #[true, true, true, true, true, true, true, false] rfl rfl (by kernel_rfl) (fun _ _ _ h => h) (Or.inl ⟨by rfl, ?_⟩) ?_ ?_
              rotate_left
              · intro w'
                go_simp
                with_reducible rfl
              rotate_left
              · simp only [Act.put, List.setIfInBounds_toArray, List.set_cons_zero, List.set_cons_succ, i64_w, i32_w]
                rfl
              refine last_ (i := 7) (N := none) #[true, true, true, true, true, true, true, true] rfl rfl (by kernel_rfl) (by decide) (fun K hK => ?_)
              refine skip_ (w1 := ?_) (by rfl) rfl ?_ ?_
              rotate_left
              · go_simp
                rfl
              refine hK.out _ _ ?_
              clear hK K
              refine done_ (by kernel_rfl) ?_
              go_wp2
              go_roundg k2
              case measure => omega
              case rel =>
                have hl := HLT.out
                refine ⟨ar ++ [y1.1], y1.2, .slice A9 n9 c9, HA3, ⟨⟨?_, ?_, ?_, ?_, hl⟩⟩, ⟨by have := HSJ.out; simp only [List.length_append, List.length_cons, List.length_nil]; omega⟩⟩
                · exact (HI8.out.ps.belowB HB9.out (by omega) (by omega)).set (by omega) (by omega) 1 _
                · simpa using blk_set HR9.out 1 (.slice A9 n9 c9)
                · exact Kd.R_far (p := ⟨r, 1, none⟩) (Kd.R_step HI8.out.out (fun k ho hk => HB9.out.block k (by omega))) (fun k hk => by show k ≠ r; omega) _
                · exact Kd.R_far (p := ⟨r, 1, none⟩) HO9.out (fun k hk => by show k ≠ r; omega) _
end Go.Proofs.YtkgnhghaiopgcaaDoor.Rw
