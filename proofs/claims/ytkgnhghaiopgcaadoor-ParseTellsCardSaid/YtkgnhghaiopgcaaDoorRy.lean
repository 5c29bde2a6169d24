/- The walk of doormanref07's rel; no condition. -/
import Derived.Test.YtkgnhghaiopgcaaDoorRx
import Derived.Test.YtkgnhghaiopgcaaDoorPwd
set_option linter.unusedVariables false
set_option linter.unusedSimpArgs false
namespace Go.Proofs.YtkgnhghaiopgcaaDoor.Rq
open Go.Proofs.YtkgnhghaiopgcaaDoor.Gl Go.Proofs.YtkgnhghaiopgcaaDoor.X Go.Proofs.YtkgnhghaiopgcaaDoor.Kx Go.Proofs.YtkgnhghaiopgcaaDoor.Tk Go.Proofs.YtkgnhghaiopgcaaDoor.Ps Go.Proofs.YtkgnhghaiopgcaaDoor.Of
theorem name_le (σ : Sg) : lenS (nameR σ).2 ≤ lenS σ := by
  have := name_len σ
  omega
theorem sub_le (σ : Sg) : lenS (subR σ).2 ≤ lenS σ := by
  unfold subR
  split
  · rename_i h
    have a1 := name_le σ
    have a2 := pop_len h
    have a3 := name_le (pop (nameR σ).2)
    show lenS (nameR (pop (nameR σ).2)).2 ≤ _
    omega
  · exact name_le σ
theorem h5_le (σ : Sg) : lenS (h5 σ) ≤ lenS σ := by
  have a1 := name_le σ
  have a2 := need_len [40] (nameR σ).2
  have a3 := name_le (needR [40] (nameR σ).2)
  have a4 := need_len [44] (h2 σ).2
  have a5 := name_le (needR [44] (h2 σ).2)
  have a6 := need_len [44] (h3 σ).2
  have a7 := name_le (needR [44] (h3 σ).2)
  have a8 := need_len [41] (h4 σ).2
  have a9 := need_len [58] (needR [41] (h4 σ).2)
  show lenS (needR [58] (needR [41] (h4 σ).2)) ≤ _
  have b1 : lenS (h2 σ).2 = lenS (nameR (needR [40] (nameR σ).2)).2 := rfl
  have b2 : lenS (h3 σ).2 = lenS (nameR (needR [44] (h2 σ).2)).2 := rfl
  have b3 : lenS (h4 σ).2 = lenS (nameR (needR [44] (h3 σ).2)).2 := rfl
  omega
end Go.Proofs.YtkgnhghaiopgcaaDoor.Rq
namespace Go.Proofs.YtkgnhghaiopgcaaDoor.Rw
open Go.RowKit Go.Maps Go.Proofs.YtkgnhghaiopgcaaDoorW.PrintWords Go.Proofs.YtkgnhghaiopgcaaDoorW.PrintLast Go.Proofs.YtkgnhghaiopgcaaDoor.X Go.Proofs.YtkgnhghaiopgcaaDoor.Kx Go.Proofs.YtkgnhghaiopgcaaDoor.Gl Go.Proofs.YtkgnhghaiopgcaaDoor.GlFn Go.Proofs.YtkgnhghaiopgcaaDoor.Tk Go.Proofs.YtkgnhghaiopgcaaDoor.Ps Go.Proofs.YtkgnhghaiopgcaaDoor.Pw Go.Proofs.YtkgnhghaiopgcaaDoor.Of Go.Proofs.YtkgnhghaiopgcaaDoor.Rq

theorem row78 : (Tryd.prog.underlying 78).map TypeDesc.isRow = some true := by kernel_rfl
theorem size78 : (Tryd.prog.info? 78).map (·.size) = some 6 := by
  have := info78
  cases h : Tryd.prog.info? 78 with
  | none => rw [h] at this; exact absurd this (by simp)
  | some i => rw [h] at this; simp at this ⊢; exact this.2.1
/-- The blocks of rel: the answer's p, the relation's q. -/
structure RB (w0 : World) (A : Option Addr) (c : Nat) (TS : List Tok) (b : Nat) (w : World) (p q : Nat) (cs : Array Value) (u : World) (σ : Sg) : Prop where
  ps : PS w0 A c TS b u σ
  fr : Fr b w.heap.size w u
  hq : u.heap[q]? = some (.cells cs 78 (0, 0))
  hp : u.heap[p]? = some (.cells zeroR 78 (0, 0))
  lt : b < p ∧ p < q ∧ w.heap.size = p ∧ w0.heap.size ≤ p
section
variable {w0 w u u' : World} {A : Option Addr} {c : Nat} {TS : List Tok} {b p q : Nat} {σ σ' : Sg} {cs : Array Value}
theorem RB.call (h : RB w0 A c TS b w p q cs u σ) (hs : PS w0 A c TS b u' σ') (hf : Fr b u.heap.size u u') : RB w0 A c TS b w p q cs u' σ' :=
  ⟨hs, fr_two h.fr hf, (hf.block q (blk_lt h.hq) (by have := h.lt; omega)).trans h.hq, (hf.block p (blk_lt h.hp) (by have := h.lt; omega)).trans h.hp, h.lt⟩
theorem RB.set {cs' : Array Value} (h : RB w0 A c TS b w p q cs u σ) (j : Nat) (v : Value) (hc : (u.setCell ⟨q, j, none⟩ v).heap[q]? = some (.cells cs' 78 (0, 0))) : RB w0 A c TS b w p q cs' (u.setCell ⟨q, j, none⟩ v) σ :=
  ⟨h.ps.set (by have := h.lt; omega) (by have := h.lt; omega) j v, fr_setFar h.fr (by have := h.lt; omega) j v, hc, (Below.heap_setCell u ⟨q, j, none⟩ v p (show p ≠ q by have := h.lt; omega)).trans h.hp, h.lt⟩
theorem RB.setT (h : RB w0 A c TS b w p q cs u σ) (m : Nat) (hm : q < m) (j : Nat) (v : Value) : RB w0 A c TS b w p q cs (u.setCell ⟨m, j, none⟩ v) σ :=
  ⟨h.ps.set (by have := h.lt; omega) (by have := h.lt; omega) j v, fr_setFar h.fr (by have := h.lt; omega) j v, (Below.heap_setCell u ⟨m, j, none⟩ v q (show q ≠ m by omega)).trans h.hq, (Below.heap_setCell u ⟨m, j, none⟩ v p (show p ≠ m by have := h.lt; omega)).trans h.hp, h.lt⟩
theorem RB.belowB {B : Nat} (h : RB w0 A c TS b w p q cs u σ) (hb : Below B u u') (hB : q < B) : RB w0 A c TS b w p q cs u' σ :=
  ⟨h.ps.belowB hb (by have := h.lt; omega) (by have := h.lt; omega), h.fr.trans (Fr.below_ (hb.mono (by have := h.lt; omega))), (hb.block q hB).trans h.hq, (hb.block p (by have := h.lt; omega)).trans h.hp, h.lt⟩
theorem RB.step (E : Env w0 A TS) (h : RB w0 A c TS b w p q cs u σ) {s : List UInt8} (hne : s ≠ []) (hq : isR s σ = true) : ∃ i : Nat, u.cell? ⟨b, 1, none⟩ = some (.int .i64 i) ∧ u.frozen? ⟨b, 1, none⟩ = false ∧ i ≤ 4096 ∧ RB w0 A c TS b w p q cs (u.setCell ⟨b, 1, none⟩ (.int .i64 ((i : Int) + 1))) (Rq.pop σ) := by
  obtain ⟨i, h1, h2, h3, h4⟩ := h.ps.step E hne hq
  have hf : Fr b u.heap.size u (u.setCell ⟨b, 1, none⟩ (.int .i64 ((i : Int) + 1))) := (Fr.refl b u.heap.size u).set _ _
  exact ⟨i, h1, h2, h3, h.call h4 hf⟩
theorem rowq_fr {α : Type} {d : Kd α} {t base : Nat} {v : Value} {xs : List α} (h : d.R t u base (fun k => q < k) v xs) (hq : b < q) (hf : Fr b u.heap.size u u') : d.R t u' base (fun k => q < k) v xs :=
  Kd.R_step h (fun k ho hk => hf.block k hk (by omega))
theorem rowq_set {α : Type} {d : Kd α} {t base : Nat} {v : Value} {xs : List α} (h : d.R t u base (fun k => q < k) v xs) (j : Nat) (x : Value) : d.R t (u.setCell ⟨q, j, none⟩ x) base (fun k => q < k) v xs :=
  Kd.R_far h (p := ⟨q, j, none⟩) (fun k hk => Nat.ne_of_gt hk) x
theorem rowt_fr {α : Type} {d : Kd α} {t base m : Nat} {v : Value} {xs : List α} (h : d.R t u base (fun k => q < k ∧ k ≠ m) v xs) (hq : b < q) (hf : Fr b u.heap.size u u') : d.R t u' base (fun k => q < k ∧ k ≠ m) v xs :=
  Kd.R_step h (fun k ho hk => hf.block k hk (by omega))
theorem rowq_new {α : Type} {d : Kd α} {t base n : Nat} {v : Value} {xs : List α} (h : d.R t u' n (fun k => b < k) v xs) (hq : q < n) (hb : base ≤ n) : d.R t u' base (fun k => q < k) v xs :=
  Kd.R_lower (Kd.R_mono (Kd.R_bound h) (fun k hk => by have := hk.2.1; omega)) hb
theorem rowq_out {α : Type} {d : Kd α} {t base m : Nat} {v : Value} {xs : List α} (h : d.R t u base (fun k => q < k) v xs) (hp : p < q) (hb : b < q) (hm : m ≤ base) (cs : Array Value) : d.R t (u.setRow p cs) m (fun k => b < k) v xs :=
  Kd.R_lower (Kd.R_mono (Kd.R_step (w1 := u.setRow p cs) h (fun k ho hk => setRow_other u p k cs (by omega))) (fun k hk => by omega)) hm
theorem RB.row (h : RB w0 A c TS b w p q cs u σ) (cs' : Array Value) : PS w0 A c TS b (u.setRow p cs') σ ∧ Fr b w.heap.size w (u.setRow p cs') :=
  ⟨h.ps.keep (below_setRow h.ps.1 (by have := h.lt; omega) cs') (setRow_other u p b cs' (by have := h.lt; omega)), fr_setRow h.fr (by have := h.lt; omega) cs'⟩
def RelP (w0 : World) (A : Option Addr) (c : Nat) (TS : List Tok) (b : Nat) (w : World) (y : RR × Sg) (e : Ending) (w' : World) : Prop :=
  ∃ v4 v5, e = .returned (.agg #[.string y.1.f0, .string y.1.f1, .string y.1.f2, .string y.1.f3, v4, v5]) ∧ k113.R 113 w' w.heap.size (fun k => b < k) v4 y.1.f4 ∧ k114.R 114 w' w.heap.size (fun k => b < k) v5 y.1.f5 ∧ PS w0 A c TS b w' y.2 ∧ Fr b w.heap.size w w'
set_option maxHeartbeats 16000000 in
set_option maxRecDepth 100000 in
theorem rel_c (E : Env w0 A TS) (k : Nat) (w : World) (σ : Sg) (y : RR × Sg) : PS w0 A c TS b w σ → relR k σ = some y → Calls Tryd.prog 71 #[.pointer (some ⟨b, 0, none⟩)] w (RelP w0 A c TS b w y) := by
  intro h hp
  unfold relR at hp
  obtain ⟨su, hsu, hp2⟩ := Option.bind_eq_some_iff.1 hp
  obtain ⟨ops, hops, hp3⟩ := Option.bind_eq_some_iff.1 hp2
  obtain rfl := Option.some.inj hp3
  clear hp hp2 hp3
  obtain ⟨⟨n1, s1⟩, hn1⟩ : ∃ x, h1 σ = x := ⟨_, rfl⟩
  obtain ⟨⟨n2, s2⟩, hn2⟩ : ∃ x, h2 σ = x := ⟨_, rfl⟩
  obtain ⟨⟨n3, s3⟩, hn3⟩ : ∃ x, h3 σ = x := ⟨_, rfl⟩
  obtain ⟨⟨n4, s4⟩, hn4⟩ : ∃ x, h4 σ = x := ⟨_, rfl⟩
  obtain ⟨s5, hn5⟩ : ∃ x, h5 σ = x := ⟨_, rfl⟩
  have hle := h5_le σ
  have hll := lenS_le h
  have hsm := E.small
  rw [hn5] at hsu hle
  have HLE : Aside0 (lenS s5 ≤ 4096) := ⟨by omega⟩
  have HN1 : Aside0 (nameR σ = (n1, s1)) := ⟨hn1⟩
  have HN2 : Aside0 (nameR (needR [40] s1) = (n2, s2)) := ⟨by have : nameR (needR [40] (h1 σ).2) = (n2, s2) := hn2; rwa [hn1] at this⟩
  have HN3 : Aside0 (nameR (needR [44] s2) = (n3, s3)) := ⟨by have : nameR (needR [44] (h2 σ).2) = (n3, s3) := hn3; rwa [hn2] at this⟩
  have HN4 : Aside0 (nameR (needR [44] s3) = (n4, s4)) := ⟨by have : nameR (needR [44] (h3 σ).2) = (n4, s4) := hn4; rwa [hn3] at this⟩
  have HN5 : Aside0 (needR [58] (needR [41] s4) = s5) := ⟨by have : needR [58] (needR [41] (h4 σ).2) = s5 := hn5; rwa [hn4] at this⟩
  rw [hn1, hn2, hn3, hn4]
  dsimp only
  have HSU := Aside0.mk hsu
  have HOPS := Aside0.mk hops
  have HE := Aside0.mk E
  have hbl := h.lt
  have hsz := h.size
  obtain ⟨wa, ea, ha, ba, za, ka⟩ := al1 w zeroR 78
  obtain ⟨wb, eb, hb, bb, zb, kb⟩ := al1 wa zeroR 78
  have hp1 : wb.heap[w.heap.size]? = some (.cells zeroR 78 (0, 0)) := kb _ _ ha
  obtain ⟨p, hp⟩ : ∃ p, w.heap.size = p := ⟨_, rfl⟩
  obtain ⟨q, hq⟩ : ∃ q, w.heap.size + 1 = q := ⟨_, rfl⟩
  have HWA := Aside0.mk ea
  have HWB := Aside0.mk eb
  have HPP := Aside0.mk hp
  have HQQ := Aside0.mk hq
  have HB0 : Aside0 (RB w0 A c TS b w p q zeroR wb σ) := ⟨⟨(h.below ba).below bb, fr_two (fr_self b ba) (fr_self b bb), by rw [← hq, ← za]; exact hb, by rw [← hp]; exact hp1, by omega⟩⟩
  have HSB : Aside0 (∀ (s : List UInt8) (τ : Sg), isR s τ = true → lenS (pop τ) + 1 ≤ lenS τ) := ⟨fun s τ h => pop_len h⟩
  have HBC := Aside0.mk (both_c (w0 := w0) (A := A) (c := c) (TS := TS) (b := b) E k).2
  clear h hsu hops E hn1 hn2 hn3 hn4 hn5 hle hll hsm hbl hsz ea ha ba za ka eb hb bb zb kb hp1 hp hq
  go_enter Tryd.func71, Tryd.ntmps71
  go_upto_region 2 with (fail)
  rw [show (Obj.cells #[.string ⟨#[]⟩, .string ⟨#[]⟩, .string ⟨#[]⟩, .string ⟨#[]⟩, .slice none 0 0, .slice none 0 0] 78) = .cells zeroR 78 from rfl, HWA.out, HWB.out, HQQ.out, HPP.out]
  clear HWA HWB HQQ
  unfold zeroR at HB0
  have hnm := name_c HE.out HB0.out.ps
  rw [HN1.out] at hnm
  dsimp only at hnm
  go_wp2_with fail
  refine hnm.mono ?_
  rintro e_ u1 ⟨rfl, hs, hf⟩
  have hb : RB w0 A c TS b w p q #[.string ⟨#[]⟩, .string ⟨#[]⟩, .string ⟨#[]⟩, .string ⟨#[]⟩, .slice none 0 0, .slice none 0 0] u1 s1 := HB0.out.call hs hf
  have fz := blk_frozen hb.hq 0
  have ce := blk_cell hb.hq 0
  have HB1 : Aside0 (RB w0 A c TS b w p q #[.string n1, .string ⟨#[]⟩, .string ⟨#[]⟩, .string ⟨#[]⟩, .slice none 0 0, .slice none 0 0] (u1.setCell ⟨q, 0, none⟩ (.string n1)) s1) := ⟨hb.set 0 _ (by simpa using blk_set hb.hq 0 (.string n1))⟩
  clear hs hf hb hnm HB0
  go_wp2_with fail
  refine (need_c HE.out HB1.out.ps (⟨#[40]⟩ : ByteArray) (by decide)).mono ?_
  rintro e_ u2 ⟨rfl, hs, hf⟩
  have HB2 : Aside0 (RB w0 A c TS b w p q #[.string n1, .string ⟨#[]⟩, .string ⟨#[]⟩, .string ⟨#[]⟩, .slice none 0 0, .slice none 0 0] u2 (needR [40] s1)) := ⟨HB1.out.call hs hf⟩
  try clear fz ce
  clear hs hf HB1
  have hnm := name_c HE.out HB2.out.ps
  rw [HN2.out] at hnm
  dsimp only at hnm
  go_wp2_with fail
  refine hnm.mono ?_
  rintro e_ u3 ⟨rfl, hs, hf⟩
  have hb : RB w0 A c TS b w p q #[.string n1, .string ⟨#[]⟩, .string ⟨#[]⟩, .string ⟨#[]⟩, .slice none 0 0, .slice none 0 0] u3 s2 := HB2.out.call hs hf
  have fz := blk_frozen hb.hq 1
  have ce := blk_cell hb.hq 1
  have HB3 : Aside0 (RB w0 A c TS b w p q #[.string n1, .string n2, .string ⟨#[]⟩, .string ⟨#[]⟩, .slice none 0 0, .slice none 0 0] (u3.setCell ⟨q, 1, none⟩ (.string n2)) s2) := ⟨hb.set 1 _ (by simpa using blk_set hb.hq 1 (.string n2))⟩
  clear hs hf hb hnm HB2
  go_wp2_with fail
  refine (need_c HE.out HB3.out.ps (⟨#[44]⟩ : ByteArray) (by decide)).mono ?_
  rintro e_ u4 ⟨rfl, hs, hf⟩
  have HB4 : Aside0 (RB w0 A c TS b w p q #[.string n1, .string n2, .string ⟨#[]⟩, .string ⟨#[]⟩, .slice none 0 0, .slice none 0 0] u4 (needR [44] s2)) := ⟨HB3.out.call hs hf⟩
  try clear fz ce
  clear hs hf HB3
  have hnm := name_c HE.out HB4.out.ps
  rw [HN3.out] at hnm
  dsimp only at hnm
  go_wp2_with fail
  refine hnm.mono ?_
  rintro e_ u5 ⟨rfl, hs, hf⟩
  have hb : RB w0 A c TS b w p q #[.string n1, .string n2, .string ⟨#[]⟩, .string ⟨#[]⟩, .slice none 0 0, .slice none 0 0] u5 s3 := HB4.out.call hs hf
  have fz := blk_frozen hb.hq 2
  have ce := blk_cell hb.hq 2
  have HB5 : Aside0 (RB w0 A c TS b w p q #[.string n1, .string n2, .string n3, .string ⟨#[]⟩, .slice none 0 0, .slice none 0 0] (u5.setCell ⟨q, 2, none⟩ (.string n3)) s3) := ⟨hb.set 2 _ (by simpa using blk_set hb.hq 2 (.string n3))⟩
  clear hs hf hb hnm HB4
  go_wp2_with fail
  refine (need_c HE.out HB5.out.ps (⟨#[44]⟩ : ByteArray) (by decide)).mono ?_
  rintro e_ u6 ⟨rfl, hs, hf⟩
  have HB6 : Aside0 (RB w0 A c TS b w p q #[.string n1, .string n2, .string n3, .string ⟨#[]⟩, .slice none 0 0, .slice none 0 0] u6 (needR [44] s3)) := ⟨HB5.out.call hs hf⟩
  try clear fz ce
  clear hs hf HB5
  have hnm := name_c HE.out HB6.out.ps
  rw [HN4.out] at hnm
  dsimp only at hnm
  go_wp2_with fail
  refine hnm.mono ?_
  rintro e_ u7 ⟨rfl, hs, hf⟩
  have hb : RB w0 A c TS b w p q #[.string n1, .string n2, .string n3, .string ⟨#[]⟩, .slice none 0 0, .slice none 0 0] u7 s4 := HB6.out.call hs hf
  have fz := blk_frozen hb.hq 3
  have ce := blk_cell hb.hq 3
  have HB7 : Aside0 (RB w0 A c TS b w p q #[.string n1, .string n2, .string n3, .string n4, .slice none 0 0, .slice none 0 0] (u7.setCell ⟨q, 3, none⟩ (.string n4)) s4) := ⟨hb.set 3 _ (by simpa using blk_set hb.hq 3 (.string n4))⟩
  clear hs hf hb hnm HB6
  go_wp2_with fail
  refine (need_c HE.out HB7.out.ps (⟨#[41]⟩ : ByteArray) (by decide)).mono ?_
  rintro e_ u8 ⟨rfl, hs, hf⟩
  have HB8 : Aside0 (RB w0 A c TS b w p q #[.string n1, .string n2, .string n3, .string n4, .slice none 0 0, .slice none 0 0] u8 (needR [41] s4)) := ⟨HB7.out.call hs hf⟩
  try clear fz ce
  clear hs hf HB7
  go_wp2_with fail
  refine (need_c HE.out HB8.out.ps (⟨#[58]⟩ : ByteArray) (by decide)).mono ?_
  rintro e_ u9 ⟨rfl, hs, hf⟩
  have HB9 : Aside0 (RB w0 A c TS b w p q #[.string n1, .string n2, .string n3, .string n4, .slice none 0 0, .slice none 0 0] u9 (needR [58] (needR [41] s4))) := ⟨HB8.out.call hs hf⟩
  try clear fz ce
  clear hs hf HB8
  rw [HN5.out] at HB9
  clear HN1 HN2 HN3 HN4 HN5
  have HLT := Aside0.mk HB9.out.lt
  have HR0 : Aside0 (k113.R 113 u9 (q + 1) (fun k => q < k) (.slice none 0 0) []) := ⟨Kd.R_nil _ _ _ _ _⟩
  obtain ⟨ad, iv, ev, av, tv, hA, v⟩ := HB9.out.ps.view HE.out
  have c2 := blk_cell v.blk 2
  have hst := v.st
  clear v hA
  cases s5 with
  | bad ebad ep =>
    obtain ⟨rfl, h2, rfl⟩ := hst
    have k1 : (ev == 0) = false := by simpa using h2
    have k2 : decide (ev = 0) = false := decide_eq_false h2
    have k3 : (ev = 0) = False := eq_false h2
    have hmo : moreR (.bad ev ep) = false := rfl
    have hsu := HSU.out
    rw [hmo, if_neg (by decide)] at hsu
    obtain rfl := Option.some.inj hsu
    clear hsu HSU hmo
    have g1 : isR sIs (.bad ev ep) = false := rfl
    clear h2
    go_wp2_with fail
    clear k1 k2 k3 c2
    go_loopg [4] (0 : Nat) (fun kq v4 wr => v4 = .bool false ∧ wr = u9)
    case atStart => exact ⟨rfl, rfl⟩
    case round =>
      obtain ⟨h4, hw⟩ := hrel
      subst h4
      subst hw
      have hops := HOPS.out
      rw [if_neg (by rw [g1]; decide)] at hops
      obtain rfl := Option.some.inj hops
      have hcall := is_c HE.out HB9.out.ps (⟨#[105, 115]⟩ : ByteArray)
      rw [show L (⟨#[105, 115]⟩ : ByteArray) = sIs from rfl, g1] at hcall
      clear hops HOPS
      go_wp2_with fail
      refine hcall.mono ?_
      rintro e_ v1 ⟨rfl, hs, hb⟩
      have HT1 : Aside0 (RB w0 A c TS b w p q #[.string n1, .string n2, .string n3, .string n4, .slice none 0 0, .slice none 0 0] v1 (Sg.bad ev ep)) := ⟨HB9.out.call hs (fr_self b hb)⟩
      have HS1 := Aside0.mk (rowq_fr HR0.out (by have := HLT.out; omega) (fr_self b hb))
      clear hs hb hcall HB9 HR0
      clear g1
      have fz := blk_frozen HT1.out.hq 5
      have ce := blk_cell HT1.out.hq 5
      go_upto_region 25 with (first | ((with_reducible refine gate_builtin (b := .append) (xs := #[.tmp 89, .tmp 91]) rfl ?_); (try (refine gate_guard (by rfl) ?_; dsimp only)); at_builtin; go_must (refine Kd.R_append k114 (w0 := v1) (q + 1) rfl (.tmp 89) (.tmp 91) 76 114 (.agg #[(.int .i64 0), (.string ⟨#[]⟩), (.string ⟨#[]⟩)]) 40 rfl Tryd.underlying76 info114 rfl (by decide) (by omega) _ [] (oR 1) [.int .i64 1, .string ⟨#[]⟩, .string ⟨#[]⟩] (fun k => q < k) (fun _ => False) rfl rfl ?oP (fun _ hk => hk.elim) ?oF ?oO ?oB ?oS ?oL ?_); (case oP => exact k114_mkM _ _ _ (oR 1)); (case oF => exact (fun k hk => by have := blk_lt HT1.out.hq; omega)); (case oO => exact Kd.R_nil _ _ _ _ _); (case oB => exact Below.refl _ _); (case oS => exact blk_lt HT1.out.hq); (case oL => decide); intro v_ w_ ho_ hb_ hg_ hat_; obtain ⟨A5, c5, rfl⟩ := Kd.R_slice ho_; have HR5a := Aside0.mk ho_; have hbn := HT1.out.belowB hb_ (Nat.lt_succ_self _); have HBn := Aside0.mk hb_; clear fz ce; have fz := blk_frozen hbn.hq 5; have ce := blk_cell hbn.hq 5; have HT2 := Aside0.mk hbn; have HSn := Aside0.mk (Kd.R_step (w1 := w_) HS1.out (fun k hk hlt => hg_.block k hlt (fun h => by cases h))); clear hbn HS1; clear ho_ hb_ hg_ hat_))
      have HT3 : Aside0 (RB w0 A c TS b w p q #[.string n1, .string n2, .string n3, .string n4, .slice none 0 0, (.slice A5 1 c5)] (w_.setCell ⟨q, 5, none⟩ (.slice A5 1 c5)) _) := ⟨HT2.out.set 5 _ (by simpa using blk_set HT2.out.hq 5 (.slice A5 1 c5))⟩
      have HR5 := Aside0.mk (rowq_set HR5a.out 5 (.slice A5 1 c5))
      have HS3 := Aside0.mk (rowq_set HSn.out 5 (.slice A5 1 c5))
      clear HT2 HSn HR5a HBn
      go_wp2_with fail
      refine (need_c HE.out HT3.out.ps (⟨#[59]⟩ : ByteArray) (by decide)).mono ?_
      rintro e_ ue ⟨rfl, hs, hf⟩
      have HBe : Aside0 (RB w0 A c TS b w p q #[.string n1, .string n2, .string n3, .string n4, .slice none 0 0, (.slice A5 1 c5)] ue _) := ⟨HT3.out.call hs hf⟩
      have HR4e := Aside0.mk (rowq_fr HS3.out (by have := HLT.out; omega) hf)
      have HR5e := Aside0.mk (rowq_fr HR5.out (by have := HLT.out; omega) hf)
      try clear fz ce
      clear hs hf HT3 HS3 HR5
      go_upto_region 26 with (fail)
      have hl := HLT.out
      have hrw := HBe.out.row #[.string n1, .string n2, .string n3, .string n4, .slice none 0 0, (.slice A5 1 c5)]
      have HRW := Aside0.mk hrw
      have HR4f := Aside0.mk (rowq_out (b := b) (p := p) (q := q) (m := w.heap.size) HR4e.out (by omega) (by omega) (by omega) #[.string n1, .string n2, .string n3, .string n4, .slice none 0 0, (.slice A5 1 c5)])
      have HR5f := Aside0.mk (rowq_out (b := b) (p := p) (q := q) (m := w.heap.size) HR5e.out (by omega) (by omega) (by omega) #[.string n1, .string n2, .string n3, .string n4, .slice none 0 0, (.slice A5 1 c5)])
      have HCe := setRow_heap ue p zeroR #[.string n1, .string n2, .string n3, .string n4, .slice none 0 0, (.slice A5 1 c5)] 78 (0, 0) HBe.out.hp
      refine wp_region_lit ?_
      refine Pw.wpList_load_row rfl 78 (.tmp 3) rfl q rfl _ _ _ HBe.out.hq row78 size78 ?_
      refine Pw.wpList_store_row rfl 78 (.tmp 2) (.tmp 96) rfl p zeroR #[.string n1, .string n2, .string n3, .string n4, .slice none 0 0, (.slice A5 1 c5)] 78 rfl rfl HBe.out.hp size78 rfl (by simp [Value.oneCell']) ?_
      have r0 := blk_cell HCe 0
      have r1 := blk_cell HCe 1
      have r2 := blk_cell HCe 2
      have r3 := blk_cell HCe 3
      have r4 := blk_cell HCe 4
      have r5 := blk_cell HCe 5
      obtain ⟨wz, hwz⟩ : ∃ wz, ue.setRow p #[.string n1, .string n2, .string n3, .string n4, .slice none 0 0, (.slice A5 1 c5)] = wz := ⟨_, rfl⟩
      rw [hwz] at HRW HR4f HR5f r0 r1 r2 r3 r4 r5 ⊢
      clear HCe HBe HR4e HR5e hl hwz hrw
      go_wp2
      exact bodyPost_ret (v := .agg #[.string n1, .string n2, .string n3, .string n4, .slice none 0 0, (.slice A5 1 c5)]) (by simp [results, Tryd.results71, go_sem, r0, r1, r2, r3, r4, r5]) rfl ⟨_, _, rfl, HR4f.out, HR5f.out, HRW.out.1, HRW.out.2⟩
  | ok ts =>
    obtain ⟨h1, rfl, rfl⟩ := hst
    clear h1
    obtain ⟨s5, hs5⟩ : ∃ x, Sg.ok ts = x := ⟨_, rfl⟩
    have hok : okB s5 = true := by rw [← hs5]; rfl
    rw [hs5] at HB9 HSU HLE
    clear hs5
    cases g1 : isR sIs s5 with
    | true =>
      have hmo : moreR s5 = false := by unfold moreR; rw [g1]; simp
      have hsu := HSU.out
      rw [hmo, if_neg (by decide)] at hsu
      obtain rfl := Option.some.inj hsu
      clear hsu HSU hmo
      have hcall := is_c HE.out HB9.out.ps (⟨#[105, 115]⟩ : ByteArray)
      rw [show L (⟨#[105, 115]⟩ : ByteArray) = sIs from rfl, g1] at hcall
      go_wp2_with fail
      refine hcall.mono ?_
      rintro e_ ua ⟨rfl, hs, hb⟩
      have HBa : Aside0 (RB w0 A c TS b w p q #[.string n1, .string n2, .string n3, .string n4, .slice none 0 0, .slice none 0 0] ua s5) := ⟨HB9.out.call hs (fr_self b hb)⟩
      have HRa := Aside0.mk (rowq_fr HR0.out (by have := HLT.out; omega) (fr_self b hb))
      clear hs hb hcall HB9 HR0
      go_wp2_with fail
      clear c2
      go_loopg [4] (0 : Nat) (fun kq v4 wr => v4 = .bool false ∧ wr = ua)
      case atStart => exact ⟨rfl, rfl⟩
      case round =>
        obtain ⟨h4, hw⟩ := hrel
        subst h4
        subst hw
        have hops := HOPS.out
        rw [if_pos g1] at hops
        have HOP2 := Aside0.mk hops
        have hcall := is_c HE.out HBa.out.ps (⟨#[105, 115]⟩ : ByteArray)
        rw [show L (⟨#[105, 115]⟩ : ByteArray) = sIs from rfl, g1] at hcall
        clear hops HOPS
        go_wp2_with fail
        refine hcall.mono ?_
        rintro e_ v1 ⟨rfl, hs, hb⟩
        have HT1 : Aside0 (RB w0 A c TS b w p q #[.string n1, .string n2, .string n3, .string n4, .slice none 0 0, .slice none 0 0] v1 s5) := ⟨HBa.out.call hs (fr_self b hb)⟩
        have HS1 := Aside0.mk (rowq_fr HRa.out (by have := HLT.out; omega) (fr_self b hb))
        clear hs hb hcall HBa HRa
        obtain ⟨i, c1, f1, hi, hpop⟩ := RB.step HE.out HT1.out (by decide) g1
        have hwi : IntKind.i64.wrap ((i : Int) + 1) = (i : Int) + 1 := by rw [IntKind.wrap_i64]; omega
        have HT2 := Aside0.mk hpop
        have HS2 := Aside0.mk (rowq_fr HS1.out (by have := HLT.out; omega) ((Fr.refl b v1.heap.size v1).set 1 (.int .i64 ((i : Int) + 1))))
        clear hi hpop
        clear HT1 HS1 g1
        go_upto_region 23 with (fail)
        obtain ⟨v2, hv2⟩ : ∃ v2, v1.setCell ⟨b, 1, none⟩ (.int .i64 ((i : Int) + 1)) = v2 := ⟨_, rfl⟩
        rw [hv2] at HT2 HS2 ⊢
        clear hv2 c1 f1 hwi
        have hcall := HBC.out v2 (pop s5) 0 ops HT2.out.ps (by decide) HOP2.out
        go_wp2_with fail
        refine hcall.mono ?_
        rintro e_ v3 ⟨v5, rfl, hr5, hs, hf⟩
        have hb := HT2.out.call hs hf
        obtain ⟨A5, c5, rfl⟩ := Kd.R_slice hr5
        have hr5' := rowq_new (q := q) (base := q + 1) hr5 (blk_lt HT2.out.hq) (blk_lt HT2.out.hq)
        have fz := blk_frozen hb.hq 5
        have ce := blk_cell hb.hq 5
        have HT3 : Aside0 (RB w0 A c TS b w p q #[.string n1, .string n2, .string n3, .string n4, .slice none 0 0, (.slice A5 ops.1.length c5)] (v3.setCell ⟨q, 5, none⟩ (.slice A5 ops.1.length c5)) ops.2) := ⟨hb.set 5 _ (by simpa using blk_set hb.hq 5 (.slice A5 ops.1.length c5))⟩
        have HS3 := Aside0.mk (rowq_set (rowq_fr HS2.out (by have := HLT.out; omega) hf) 5 (.slice A5 ops.1.length c5))
        have HR5 := Aside0.mk (rowq_set hr5' 5 (.slice A5 ops.1.length c5))
        clear hr5 hr5' hs hf hb hcall HT2 HS2 HOP2
        go_wp2_with fail
        refine (need_c HE.out HT3.out.ps (⟨#[59]⟩ : ByteArray) (by decide)).mono ?_
        rintro e_ ue ⟨rfl, hs, hf⟩
        have HBe : Aside0 (RB w0 A c TS b w p q #[.string n1, .string n2, .string n3, .string n4, .slice none 0 0, (.slice A5 ops.1.length c5)] ue _) := ⟨HT3.out.call hs hf⟩
        have HR4e := Aside0.mk (rowq_fr HS3.out (by have := HLT.out; omega) hf)
        have HR5e := Aside0.mk (rowq_fr HR5.out (by have := HLT.out; omega) hf)
        try clear fz ce
        clear hs hf HT3 HS3 HR5
        go_upto_region 26 with (fail)
        have hl := HLT.out
        have hrw := HBe.out.row #[.string n1, .string n2, .string n3, .string n4, .slice none 0 0, (.slice A5 ops.1.length c5)]
        have HRW := Aside0.mk hrw
        have HR4f := Aside0.mk (rowq_out (b := b) (p := p) (q := q) (m := w.heap.size) HR4e.out (by omega) (by omega) (by omega) #[.string n1, .string n2, .string n3, .string n4, .slice none 0 0, (.slice A5 ops.1.length c5)])
        have HR5f := Aside0.mk (rowq_out (b := b) (p := p) (q := q) (m := w.heap.size) HR5e.out (by omega) (by omega) (by omega) #[.string n1, .string n2, .string n3, .string n4, .slice none 0 0, (.slice A5 ops.1.length c5)])
        have HCe := setRow_heap ue p zeroR #[.string n1, .string n2, .string n3, .string n4, .slice none 0 0, (.slice A5 ops.1.length c5)] 78 (0, 0) HBe.out.hp
        refine wp_region_lit ?_
        refine Pw.wpList_load_row rfl 78 (.tmp 3) rfl q rfl _ _ _ HBe.out.hq row78 size78 ?_
        refine Pw.wpList_store_row rfl 78 (.tmp 2) (.tmp 96) rfl p zeroR #[.string n1, .string n2, .string n3, .string n4, .slice none 0 0, (.slice A5 ops.1.length c5)] 78 rfl rfl HBe.out.hp size78 rfl (by simp [Value.oneCell']) ?_
        have r0 := blk_cell HCe 0
        have r1 := blk_cell HCe 1
        have r2 := blk_cell HCe 2
        have r3 := blk_cell HCe 3
        have r4 := blk_cell HCe 4
        have r5 := blk_cell HCe 5
        obtain ⟨wz, hwz⟩ : ∃ wz, ue.setRow p #[.string n1, .string n2, .string n3, .string n4, .slice none 0 0, (.slice A5 ops.1.length c5)] = wz := ⟨_, rfl⟩
        rw [hwz] at HRW HR4f HR5f r0 r1 r2 r3 r4 r5 ⊢
        clear HCe HBe HR4e HR5e hl hwz hrw
        go_wp2
        exact bodyPost_ret (v := .agg #[.string n1, .string n2, .string n3, .string n4, .slice none 0 0, (.slice A5 ops.1.length c5)]) (by simp [results, Tryd.results71, go_sem, r0, r1, r2, r3, r4, r5]) rfl ⟨_, _, rfl, HR4f.out, HR5f.out, HRW.out.1, HRW.out.2⟩
    | false =>
      have hcall := is_c HE.out HB9.out.ps (⟨#[105, 115]⟩ : ByteArray)
      rw [show L (⟨#[105, 115]⟩ : ByteArray) = sIs from rfl, g1] at hcall
      go_wp2_with fail
      refine hcall.mono ?_
      rintro e_ ua ⟨rfl, hs, hb⟩
      have HBa : Aside0 (RB w0 A c TS b w p q #[.string n1, .string n2, .string n3, .string n4, .slice none 0 0, .slice none 0 0] ua s5) := ⟨HB9.out.call hs (fr_self b hb)⟩
      have HRa := Aside0.mk (rowq_fr HR0.out (by have := HLT.out; omega) (fr_self b hb))
      clear hs hb hcall HB9 HR0
      cases g2 : isR [59] s5 with
      | true =>
        have hmo : moreR s5 = false := by unfold moreR; rw [g2]; simp
        have hsu := HSU.out
        rw [hmo, if_neg (by decide)] at hsu
        obtain rfl := Option.some.inj hsu
        clear hsu HSU hmo
        have hcall := is_c HE.out HBa.out.ps (⟨#[59]⟩ : ByteArray)
        rw [show L (⟨#[59]⟩ : ByteArray) = [59] from rfl, g2] at hcall
        go_wp2_with fail
        refine hcall.mono ?_
        rintro e_ ub ⟨rfl, hs, hb⟩
        have HBb : Aside0 (RB w0 A c TS b w p q #[.string n1, .string n2, .string n3, .string n4, .slice none 0 0, .slice none 0 0] ub s5) := ⟨HBa.out.call hs (fr_self b hb)⟩
        have HRb := Aside0.mk (rowq_fr HRa.out (by have := HLT.out; omega) (fr_self b hb))
        clear hs hb hcall HBa HRa
        go_wp2_with fail
        clear c2 g2
        go_loopg [4] (0 : Nat) (fun kq v4 wr => v4 = .bool false ∧ wr = ub)
        case atStart => exact ⟨rfl, rfl⟩
        case round =>
          obtain ⟨h4, hw⟩ := hrel
          subst h4
          subst hw
          have hops := HOPS.out
          rw [if_neg (by rw [g1]; decide)] at hops
          obtain rfl := Option.some.inj hops
          have hcall := is_c HE.out HBb.out.ps (⟨#[105, 115]⟩ : ByteArray)
          rw [show L (⟨#[105, 115]⟩ : ByteArray) = sIs from rfl, g1] at hcall
          clear hops HOPS
          go_wp2_with fail
          refine hcall.mono ?_
          rintro e_ v1 ⟨rfl, hs, hb⟩
          have HT1 : Aside0 (RB w0 A c TS b w p q #[.string n1, .string n2, .string n3, .string n4, .slice none 0 0, .slice none 0 0] v1 s5) := ⟨HBb.out.call hs (fr_self b hb)⟩
          have HS1 := Aside0.mk (rowq_fr HRb.out (by have := HLT.out; omega) (fr_self b hb))
          clear hs hb hcall HBb HRb
          clear g1
          have fz := blk_frozen HT1.out.hq 5
          have ce := blk_cell HT1.out.hq 5
          go_upto_region 25 with (first | ((with_reducible refine gate_builtin (b := .append) (xs := #[.tmp 89, .tmp 91]) rfl ?_); (try (refine gate_guard (by rfl) ?_; dsimp only)); at_builtin; go_must (refine Kd.R_append k114 (w0 := v1) (q + 1) rfl (.tmp 89) (.tmp 91) 76 114 (.agg #[(.int .i64 0), (.string ⟨#[]⟩), (.string ⟨#[]⟩)]) 40 rfl Tryd.underlying76 info114 rfl (by decide) (by omega) _ [] (oR 1) [.int .i64 1, .string ⟨#[]⟩, .string ⟨#[]⟩] (fun k => q < k) (fun _ => False) rfl rfl ?oP (fun _ hk => hk.elim) ?oF ?oO ?oB ?oS ?oL ?_); (case oP => exact k114_mkM _ _ _ (oR 1)); (case oF => exact (fun k hk => by have := blk_lt HT1.out.hq; omega)); (case oO => exact Kd.R_nil _ _ _ _ _); (case oB => exact Below.refl _ _); (case oS => exact blk_lt HT1.out.hq); (case oL => decide); intro v_ w_ ho_ hb_ hg_ hat_; obtain ⟨A5, c5, rfl⟩ := Kd.R_slice ho_; have HR5a := Aside0.mk ho_; have hbn := HT1.out.belowB hb_ (Nat.lt_succ_self _); have HBn := Aside0.mk hb_; clear fz ce; have fz := blk_frozen hbn.hq 5; have ce := blk_cell hbn.hq 5; have HT2 := Aside0.mk hbn; have HSn := Aside0.mk (Kd.R_step (w1 := w_) HS1.out (fun k hk hlt => hg_.block k hlt (fun h => by cases h))); clear hbn HS1; clear ho_ hb_ hg_ hat_))
          have HT3 : Aside0 (RB w0 A c TS b w p q #[.string n1, .string n2, .string n3, .string n4, .slice none 0 0, (.slice A5 1 c5)] (w_.setCell ⟨q, 5, none⟩ (.slice A5 1 c5)) _) := ⟨HT2.out.set 5 _ (by simpa using blk_set HT2.out.hq 5 (.slice A5 1 c5))⟩
          have HR5 := Aside0.mk (rowq_set HR5a.out 5 (.slice A5 1 c5))
          have HS3 := Aside0.mk (rowq_set HSn.out 5 (.slice A5 1 c5))
          clear HT2 HSn HR5a HBn
          go_wp2_with fail
          refine (need_c HE.out HT3.out.ps (⟨#[59]⟩ : ByteArray) (by decide)).mono ?_
          rintro e_ ue ⟨rfl, hs, hf⟩
          have HBe : Aside0 (RB w0 A c TS b w p q #[.string n1, .string n2, .string n3, .string n4, .slice none 0 0, (.slice A5 1 c5)] ue _) := ⟨HT3.out.call hs hf⟩
          have HR4e := Aside0.mk (rowq_fr HS3.out (by have := HLT.out; omega) hf)
          have HR5e := Aside0.mk (rowq_fr HR5.out (by have := HLT.out; omega) hf)
          try clear fz ce
          clear hs hf HT3 HS3 HR5
          go_upto_region 26 with (fail)
          have hl := HLT.out
          have hrw := HBe.out.row #[.string n1, .string n2, .string n3, .string n4, .slice none 0 0, (.slice A5 1 c5)]
          have HRW := Aside0.mk hrw
          have HR4f := Aside0.mk (rowq_out (b := b) (p := p) (q := q) (m := w.heap.size) HR4e.out (by omega) (by omega) (by omega) #[.string n1, .string n2, .string n3, .string n4, .slice none 0 0, (.slice A5 1 c5)])
          have HR5f := Aside0.mk (rowq_out (b := b) (p := p) (q := q) (m := w.heap.size) HR5e.out (by omega) (by omega) (by omega) #[.string n1, .string n2, .string n3, .string n4, .slice none 0 0, (.slice A5 1 c5)])
          have HCe := setRow_heap ue p zeroR #[.string n1, .string n2, .string n3, .string n4, .slice none 0 0, (.slice A5 1 c5)] 78 (0, 0) HBe.out.hp
          refine wp_region_lit ?_
          refine Pw.wpList_load_row rfl 78 (.tmp 3) rfl q rfl _ _ _ HBe.out.hq row78 size78 ?_
          refine Pw.wpList_store_row rfl 78 (.tmp 2) (.tmp 96) rfl p zeroR #[.string n1, .string n2, .string n3, .string n4, .slice none 0 0, (.slice A5 1 c5)] 78 rfl rfl HBe.out.hp size78 rfl (by simp [Value.oneCell']) ?_
          have r0 := blk_cell HCe 0
          have r1 := blk_cell HCe 1
          have r2 := blk_cell HCe 2
          have r3 := blk_cell HCe 3
          have r4 := blk_cell HCe 4
          have r5 := blk_cell HCe 5
          obtain ⟨wz, hwz⟩ : ∃ wz, ue.setRow p #[.string n1, .string n2, .string n3, .string n4, .slice none 0 0, (.slice A5 1 c5)] = wz := ⟨_, rfl⟩
          rw [hwz] at HRW HR4f HR5f r0 r1 r2 r3 r4 r5 ⊢
          clear HCe HBe HR4e HR5e hl hwz hrw
          go_wp2
          exact bodyPost_ret (v := .agg #[.string n1, .string n2, .string n3, .string n4, .slice none 0 0, (.slice A5 1 c5)]) (by simp [results, Tryd.results71, go_sem, r0, r1, r2, r3, r4, r5]) rfl ⟨_, _, rfl, HR4f.out, HR5f.out, HRW.out.1, HRW.out.2⟩
      | false =>
        have hmo : moreR s5 = true := by unfold moreR; rw [g1, g2, hok]; rfl
        have hsu := HSU.out
        rw [hmo, if_pos rfl] at hsu
        have HSU2 := Aside0.mk hsu
        clear hsu HSU hmo
        have hcall := is_c HE.out HBa.out.ps (⟨#[59]⟩ : ByteArray)
        rw [show L (⟨#[59]⟩ : ByteArray) = [59] from rfl, g2] at hcall
        go_wp2_with fail
        refine hcall.mono ?_
        rintro e_ ub ⟨rfl, hs, hb⟩
        have HBb : Aside0 (RB w0 A c TS b w p q #[.string n1, .string n2, .string n3, .string n4, .slice none 0 0, .slice none 0 0] ub s5) := ⟨HBa.out.call hs (fr_self b hb)⟩
        have HRb := Aside0.mk (rowq_fr HRa.out (by have := HLT.out; omega) (fr_self b hb))
        clear hs hb hcall HBa HRa
        go_wp2_with fail
        clear c2 g1 g2 hok
        go_loopg [4] k (fun kq v4 wr => ∃ (m : Bool) (acc : List RS) (τ : Sg) (A4 : Option Addr) (c4 : Nat), v4 = .bool m ∧ Aside0 (m = true → subsR kq acc τ = some su) ∧ Aside0 (m = false → su = (acc, τ)) ∧ Aside0 (m = true → acc.length + lenS τ ≤ 4096) ∧ Aside0 (RB w0 A c TS b w p q #[.string n1, .string n2, .string n3, .string n4, (.slice A4 acc.length c4), .slice none 0 0] wr τ) ∧ Aside0 (k113.R 113 wr (q + 1) (fun k => q < k) (.slice A4 acc.length c4) acc))
        case atStart => exact ⟨true, [], s5, none, 0, rfl, ⟨fun _ => HSU2.out⟩, ⟨fun h => absurd h (by decide)⟩, ⟨fun _ => by have := HLE.out; simpa using this⟩, HBb, HRb⟩
        case round =>
          clear HBb HRb HSU2 HLE
          obtain ⟨m, acc, τ, A4, c4, h4, HM1, HM2, HSZ, HB, HR⟩ := hrel
          rename World => wr
          subst h4
          cases m with
          | false =>
            obtain rfl := HM2.out rfl
            clear HM1 HM2 HSZ
            cases g1 : isR sIs τ with
            | true =>
              have hops := HOPS.out
              rw [if_pos g1] at hops
              have HOP2 := Aside0.mk hops
              have hcall := is_c HE.out HB.out.ps (⟨#[105, 115]⟩ : ByteArray)
              rw [show L (⟨#[105, 115]⟩ : ByteArray) = sIs from rfl, g1] at hcall
              clear hops HOPS
              go_wp2_with fail
              refine hcall.mono ?_
              rintro e_ v1 ⟨rfl, hs, hb⟩
              have HT1 : Aside0 (RB w0 A c TS b w p q #[.string n1, .string n2, .string n3, .string n4, (.slice A4 acc.length c4), .slice none 0 0] v1 τ) := ⟨HB.out.call hs (fr_self b hb)⟩
              have HS1 := Aside0.mk (rowq_fr HR.out (by have := HLT.out; omega) (fr_self b hb))
              clear hs hb hcall HB HR
              obtain ⟨i, c1, f1, hi, hpop⟩ := RB.step HE.out HT1.out (by decide) g1
              have hwi : IntKind.i64.wrap ((i : Int) + 1) = (i : Int) + 1 := by rw [IntKind.wrap_i64]; omega
              have HT2 := Aside0.mk hpop
              have HS2 := Aside0.mk (rowq_fr HS1.out (by have := HLT.out; omega) ((Fr.refl b v1.heap.size v1).set 1 (.int .i64 ((i : Int) + 1))))
              clear hi hpop
              clear HT1 HS1 g1
              go_upto_region 23 with (fail)
              obtain ⟨v2, hv2⟩ : ∃ v2, v1.setCell ⟨b, 1, none⟩ (.int .i64 ((i : Int) + 1)) = v2 := ⟨_, rfl⟩
              rw [hv2] at HT2 HS2 ⊢
              clear hv2 c1 f1 hwi
              have hcall := HBC.out v2 (pop τ) 0 ops HT2.out.ps (by decide) HOP2.out
              go_wp2_with fail
              refine hcall.mono ?_
              rintro e_ v3 ⟨v5, rfl, hr5, hs, hf⟩
              have hb := HT2.out.call hs hf
              obtain ⟨A5, c5, rfl⟩ := Kd.R_slice hr5
              have hr5' := rowq_new (q := q) (base := q + 1) hr5 (blk_lt HT2.out.hq) (blk_lt HT2.out.hq)
              have fz := blk_frozen hb.hq 5
              have ce := blk_cell hb.hq 5
              have HT3 : Aside0 (RB w0 A c TS b w p q #[.string n1, .string n2, .string n3, .string n4, (.slice A4 acc.length c4), (.slice A5 ops.1.length c5)] (v3.setCell ⟨q, 5, none⟩ (.slice A5 ops.1.length c5)) ops.2) := ⟨hb.set 5 _ (by simpa using blk_set hb.hq 5 (.slice A5 ops.1.length c5))⟩
              have HS3 := Aside0.mk (rowq_set (rowq_fr HS2.out (by have := HLT.out; omega) hf) 5 (.slice A5 ops.1.length c5))
              have HR5 := Aside0.mk (rowq_set hr5' 5 (.slice A5 ops.1.length c5))
              clear hr5 hr5' hs hf hb hcall HT2 HS2 HOP2
              go_wp2_with fail
              refine (need_c HE.out HT3.out.ps (⟨#[59]⟩ : ByteArray) (by decide)).mono ?_
              rintro e_ ue ⟨rfl, hs, hf⟩
              have HBe : Aside0 (RB w0 A c TS b w p q #[.string n1, .string n2, .string n3, .string n4, (.slice A4 acc.length c4), (.slice A5 ops.1.length c5)] ue _) := ⟨HT3.out.call hs hf⟩
              have HR4e := Aside0.mk (rowq_fr HS3.out (by have := HLT.out; omega) hf)
              have HR5e := Aside0.mk (rowq_fr HR5.out (by have := HLT.out; omega) hf)
              try clear fz ce
              clear hs hf HT3 HS3 HR5
              go_upto_region 26 with (fail)
              have hl := HLT.out
              have hrw := HBe.out.row #[.string n1, .string n2, .string n3, .string n4, (.slice A4 acc.length c4), (.slice A5 ops.1.length c5)]
              have HRW := Aside0.mk hrw
              have HR4f := Aside0.mk (rowq_out (b := b) (p := p) (q := q) (m := w.heap.size) HR4e.out (by omega) (by omega) (by omega) #[.string n1, .string n2, .string n3, .string n4, (.slice A4 acc.length c4), (.slice A5 ops.1.length c5)])
              have HR5f := Aside0.mk (rowq_out (b := b) (p := p) (q := q) (m := w.heap.size) HR5e.out (by omega) (by omega) (by omega) #[.string n1, .string n2, .string n3, .string n4, (.slice A4 acc.length c4), (.slice A5 ops.1.length c5)])
              have HCe := setRow_heap ue p zeroR #[.string n1, .string n2, .string n3, .string n4, (.slice A4 acc.length c4), (.slice A5 ops.1.length c5)] 78 (0, 0) HBe.out.hp
              refine wp_region_lit ?_
              refine Pw.wpList_load_row rfl 78 (.tmp 3) rfl q rfl _ _ _ HBe.out.hq row78 size78 ?_
              refine Pw.wpList_store_row rfl 78 (.tmp 2) (.tmp 96) rfl p zeroR #[.string n1, .string n2, .string n3, .string n4, (.slice A4 acc.length c4), (.slice A5 ops.1.length c5)] 78 rfl rfl HBe.out.hp size78 rfl (by simp [Value.oneCell']) ?_
              have r0 := blk_cell HCe 0
              have r1 := blk_cell HCe 1
              have r2 := blk_cell HCe 2
              have r3 := blk_cell HCe 3
              have r4 := blk_cell HCe 4
              have r5 := blk_cell HCe 5
              obtain ⟨wz, hwz⟩ : ∃ wz, ue.setRow p #[.string n1, .string n2, .string n3, .string n4, (.slice A4 acc.length c4), (.slice A5 ops.1.length c5)] = wz := ⟨_, rfl⟩
              rw [hwz] at HRW HR4f HR5f r0 r1 r2 r3 r4 r5 ⊢
              clear HCe HBe HR4e HR5e hl hwz hrw
              go_wp2
              exact bodyPost_ret (v := .agg #[.string n1, .string n2, .string n3, .string n4, (.slice A4 acc.length c4), (.slice A5 ops.1.length c5)]) (by simp [results, Tryd.results71, go_sem, r0, r1, r2, r3, r4, r5]) rfl ⟨_, _, rfl, HR4f.out, HR5f.out, HRW.out.1, HRW.out.2⟩
            | false =>
              have hops := HOPS.out
              rw [if_neg (by rw [g1]; decide)] at hops
              obtain rfl := Option.some.inj hops
              have hcall := is_c HE.out HB.out.ps (⟨#[105, 115]⟩ : ByteArray)
              rw [show L (⟨#[105, 115]⟩ : ByteArray) = sIs from rfl, g1] at hcall
              clear hops HOPS
              go_wp2_with fail
              refine hcall.mono ?_
              rintro e_ v1 ⟨rfl, hs, hb⟩
              have HT1 : Aside0 (RB w0 A c TS b w p q #[.string n1, .string n2, .string n3, .string n4, (.slice A4 acc.length c4), .slice none 0 0] v1 τ) := ⟨HB.out.call hs (fr_self b hb)⟩
              have HS1 := Aside0.mk (rowq_fr HR.out (by have := HLT.out; omega) (fr_self b hb))
              clear hs hb hcall HB HR
              clear g1
              have fz := blk_frozen HT1.out.hq 5
              have ce := blk_cell HT1.out.hq 5
              go_upto_region 25 with (first | ((with_reducible refine gate_builtin (b := .append) (xs := #[.tmp 89, .tmp 91]) rfl ?_); (try (refine gate_guard (by rfl) ?_; dsimp only)); at_builtin; go_must (refine Kd.R_append k114 (w0 := v1) (q + 1) rfl (.tmp 89) (.tmp 91) 76 114 (.agg #[(.int .i64 0), (.string ⟨#[]⟩), (.string ⟨#[]⟩)]) 40 rfl Tryd.underlying76 info114 rfl (by decide) (by omega) _ [] (oR 1) [.int .i64 1, .string ⟨#[]⟩, .string ⟨#[]⟩] (fun k => q < k) (fun _ => False) rfl rfl ?oP (fun _ hk => hk.elim) ?oF ?oO ?oB ?oS ?oL ?_); (case oP => exact k114_mkM _ _ _ (oR 1)); (case oF => exact (fun k hk => by have := blk_lt HT1.out.hq; omega)); (case oO => exact Kd.R_nil _ _ _ _ _); (case oB => exact Below.refl _ _); (case oS => exact blk_lt HT1.out.hq); (case oL => decide); intro v_ w_ ho_ hb_ hg_ hat_; obtain ⟨A5, c5, rfl⟩ := Kd.R_slice ho_; have HR5a := Aside0.mk ho_; have hbn := HT1.out.belowB hb_ (Nat.lt_succ_self _); have HBn := Aside0.mk hb_; clear fz ce; have fz := blk_frozen hbn.hq 5; have ce := blk_cell hbn.hq 5; have HT2 := Aside0.mk hbn; have HSn := Aside0.mk (Kd.R_step (w1 := w_) HS1.out (fun k hk hlt => hg_.block k hlt (fun h => by cases h))); clear hbn HS1; clear ho_ hb_ hg_ hat_))
              have HT3 : Aside0 (RB w0 A c TS b w p q #[.string n1, .string n2, .string n3, .string n4, (.slice A4 acc.length c4), (.slice A5 1 c5)] (w_.setCell ⟨q, 5, none⟩ (.slice A5 1 c5)) _) := ⟨HT2.out.set 5 _ (by simpa using blk_set HT2.out.hq 5 (.slice A5 1 c5))⟩
              have HR5 := Aside0.mk (rowq_set HR5a.out 5 (.slice A5 1 c5))
              have HS3 := Aside0.mk (rowq_set HSn.out 5 (.slice A5 1 c5))
              clear HT2 HSn HR5a HBn
              go_wp2_with fail
              refine (need_c HE.out HT3.out.ps (⟨#[59]⟩ : ByteArray) (by decide)).mono ?_
              rintro e_ ue ⟨rfl, hs, hf⟩
              have HBe : Aside0 (RB w0 A c TS b w p q #[.string n1, .string n2, .string n3, .string n4, (.slice A4 acc.length c4), (.slice A5 1 c5)] ue _) := ⟨HT3.out.call hs hf⟩
              have HR4e := Aside0.mk (rowq_fr HS3.out (by have := HLT.out; omega) hf)
              have HR5e := Aside0.mk (rowq_fr HR5.out (by have := HLT.out; omega) hf)
              try clear fz ce
              clear hs hf HT3 HS3 HR5
              go_upto_region 26 with (fail)
              have hl := HLT.out
              have hrw := HBe.out.row #[.string n1, .string n2, .string n3, .string n4, (.slice A4 acc.length c4), (.slice A5 1 c5)]
              have HRW := Aside0.mk hrw
              have HR4f := Aside0.mk (rowq_out (b := b) (p := p) (q := q) (m := w.heap.size) HR4e.out (by omega) (by omega) (by omega) #[.string n1, .string n2, .string n3, .string n4, (.slice A4 acc.length c4), (.slice A5 1 c5)])
              have HR5f := Aside0.mk (rowq_out (b := b) (p := p) (q := q) (m := w.heap.size) HR5e.out (by omega) (by omega) (by omega) #[.string n1, .string n2, .string n3, .string n4, (.slice A4 acc.length c4), (.slice A5 1 c5)])
              have HCe := setRow_heap ue p zeroR #[.string n1, .string n2, .string n3, .string n4, (.slice A4 acc.length c4), (.slice A5 1 c5)] 78 (0, 0) HBe.out.hp
              refine wp_region_lit ?_
              refine Pw.wpList_load_row rfl 78 (.tmp 3) rfl q rfl _ _ _ HBe.out.hq row78 size78 ?_
              refine Pw.wpList_store_row rfl 78 (.tmp 2) (.tmp 96) rfl p zeroR #[.string n1, .string n2, .string n3, .string n4, (.slice A4 acc.length c4), (.slice A5 1 c5)] 78 rfl rfl HBe.out.hp size78 rfl (by simp [Value.oneCell']) ?_
              have r0 := blk_cell HCe 0
              have r1 := blk_cell HCe 1
              have r2 := blk_cell HCe 2
              have r3 := blk_cell HCe 3
              have r4 := blk_cell HCe 4
              have r5 := blk_cell HCe 5
              obtain ⟨wz, hwz⟩ : ∃ wz, ue.setRow p #[.string n1, .string n2, .string n3, .string n4, (.slice A4 acc.length c4), (.slice A5 1 c5)] = wz := ⟨_, rfl⟩
              rw [hwz] at HRW HR4f HR5f r0 r1 r2 r3 r4 r5 ⊢
              clear HCe HBe HR4e HR5e hl hwz hrw
              go_wp2
              exact bodyPost_ret (v := .agg #[.string n1, .string n2, .string n3, .string n4, (.slice A4 acc.length c4), (.slice A5 1 c5)]) (by simp [results, Tryd.results71, go_sem, r0, r1, r2, r3, r4, r5]) rfl ⟨_, _, rfl, HR4f.out, HR5f.out, HRW.out.1, HRW.out.2⟩
          | true =>
            have hsu := HM1.out rfl
            have HSZ2 : Aside0 (acc.length + lenS τ ≤ 4096) := ⟨HSZ.out rfl⟩
            clear HM1 HM2 HOPS HSZ
            have HSZ := HSZ2
            clear HSZ2
            cases gk with
            | zero => exact absurd hsu (by simp [subsR])
            | succ k1 =>
              rw [subsR] at hsu
              obtain ⟨⟨m1, τ1⟩, hm1⟩ : ∃ x, nameR τ = x := ⟨_, rfl⟩
              have hnm := name_c HE.out HB.out.ps
              rw [hm1] at hnm
              dsimp only at hnm
              have HM1 := Aside0.mk hm1
              have HSUB := Aside0.mk hsu
              clear hsu hm1
              go_wp2_with fail
              refine hnm.mono ?_
              rintro e_ u1 ⟨rfl, hs, hf⟩
              obtain ⟨u2, e2, h2, b2, z2, k2⟩ := al1 u1 #[.string m1, .string ⟨#[]⟩] 113
              have hb := HB.out.call hs hf
              have HB2 : Aside0 (RB w0 A c TS b w p q #[.string n1, .string n2, .string n3, .string n4, (.slice A4 acc.length c4), .slice none 0 0] u2 τ1) := ⟨hb.call (hs.below b2) (fr_self b b2)⟩
              obtain ⟨tt, htt⟩ : ∃ x, u1.heap.size = x := ⟨_, rfl⟩
              have HR2 := Aside0.mk (rowt_fr (m := tt) (Kd.R_mono (Kd.R_bound (rowq_fr HR.out (by have := HLT.out; omega) hf)) (fun k hk => ⟨hk.1, by have := hk.2.2.1; omega⟩)) (by have := HLT.out; omega) (fr_self b b2))
              have hqt : q < tt := by rw [← htt]; exact blk_lt hb.hq
              have HQT := Aside0.mk hqt
              have HW2 := Aside0.mk e2
              have HTT := Aside0.mk htt
              rw [htt] at h2
              have HO2 := Aside0.mk h2
              clear hs hf hnm hb h2 b2 z2 k2 e2 htt hqt HB HR
              go_upto_region 14 with (fail)
              rw [HW2.out, HTT.out]
              clear HW2 HTT
              cases g3 : isR [35] τ1 with
              | false =>
                have HSQ : Aside0 (subR τ = (⟨m1, ⟨#[]⟩⟩, τ1)) := ⟨by unfold subR; rw [HM1.out, if_neg (by show ¬ isR [35] τ1 = true; rw [g3]; decide)]⟩
                have hcall := is_c HE.out HB2.out.ps (⟨#[35]⟩ : ByteArray)
                rw [show L (⟨#[35]⟩ : ByteArray) = [35] from rfl, g3] at hcall
                go_wp2_with fail
                refine hcall.mono ?_
                rintro e_ u3 ⟨rfl, hs, hb⟩
                have HB3 : Aside0 (RB w0 A c TS b w p q #[.string n1, .string n2, .string n3, .string n4, (.slice A4 acc.length c4), .slice none 0 0] u3 τ1) := ⟨HB2.out.call hs (fr_self b hb)⟩
                have HR3 := Aside0.mk (rowt_fr HR2.out (by have := HLT.out; omega) (fr_self b hb))
                have HO3 := Aside0.mk ((hb.block _ (blk_lt HO2.out)).trans HO2.out)
                clear hs hb hcall HB2 HR2 HO2
                clear g3
                have o0 := blk_cell HO3.out 0
                have o1 := blk_cell HO3.out 1
                have fz := blk_frozen HB3.out.hq 4
                have ce := blk_cell HB3.out.hq 4
                go_upto_region 18 with (first | ((with_reducible refine gate_builtin (b := .append) (xs := #[.tmp 61, .tmp 63]) rfl ?_); (try (refine gate_guard (by rfl) ?_; dsimp only)); at_builtin; go_must (refine Kd.R_append k113 (w0 := u3) (q + 1) rfl (.tmp 61) (.tmp 63) 75 113 (.agg #[(.string ⟨#[]⟩), (.string ⟨#[]⟩)]) 32 rfl Tryd.underlying75 info113 rfl (by decide) (by omega) _ acc (⟨m1, ⟨#[]⟩⟩ : RS) [.string m1, .string ⟨#[]⟩] (fun k => q < k) (fun _ => False) rfl rfl ?pP (fun _ hk => hk.elim) ?pF ?pO ?pB ?pS ?pL ?_); (case pP => exact k113_mkM _ _ _ (⟨m1, ⟨#[]⟩⟩ : RS)); (case pF => exact (fun k hk => by have := blk_lt HB3.out.hq; omega)); (case pO => exact (Kd.R_mono HR3.out (fun k hk => hk.1))); (case pB => exact Below.refl _ _); (case pS => exact blk_lt HB3.out.hq); (case pL => have := HSZ.out; omega); intro v_ w_ ho_ hb_ hg_ hat_; obtain ⟨acc2, hac⟩ : ∃ a, acc ++ [(⟨m1, ⟨#[]⟩⟩ : RS)] = a := ⟨_, rfl⟩; rw [hac] at ho_; have HAC := Aside0.mk hac; clear hac; obtain ⟨A6, c6, rfl⟩ := Kd.R_slice ho_; have HR5 := Aside0.mk ho_; have hbn := HB3.out.belowB hb_ (Nat.lt_succ_self _); clear fz ce; have fz := blk_frozen hbn.hq 4; have ce := blk_cell hbn.hq 4; have HB5 := Aside0.mk hbn; clear hbn; clear ho_ hb_ hg_ hat_))
                clear o0 o1 HB3 HR3 HO3
                have HB6 : Aside0 (RB w0 A c TS b w p q #[.string n1, .string n2, .string n3, .string n4, (.slice A6 acc2.length c6), .slice none 0 0] (w_.setCell ⟨q, 4, none⟩ (.slice A6 acc2.length c6)) τ1) := ⟨HB5.out.set 4 _ (by simpa using blk_set HB5.out.hq 4 (.slice A6 acc2.length c6))⟩
                have HR6 := Aside0.mk (rowq_set HR5.out 4 (.slice A6 acc2.length c6))
                obtain ⟨u6, hu6⟩ : ∃ u, w_.setCell ⟨q, 4, none⟩ (.slice A6 acc2.length c6) = u := ⟨_, rfl⟩
                rw [hu6] at HB6 HR6 ⊢
                clear hu6 fz ce HB5 HR5
                have hal : acc2.length = acc.length + 1 := by rw [← HAC.out]; simp
                have hsl := sub_le τ
                rw [HSQ.out] at hsl
                dsimp only at hsl
                have HLL : Aside0 (acc2.length + lenS τ1 ≤ 4097) := ⟨by have := HSZ.out; omega⟩
                have hsu := HSUB.out
                rw [HSQ.out] at hsu
                dsimp only at hsu
                rw [HAC.out] at hsu
                clear hal hsl HSUB HSQ HSZ
                cases g4 : isR [44] τ1 with
                | true =>
                  rw [if_pos g4] at hsu
                  have HSU3 := Aside0.mk hsu
                  clear hsu
                  have hcall := is_c HE.out HB6.out.ps (⟨#[44]⟩ : ByteArray)
                  rw [show L (⟨#[44]⟩ : ByteArray) = [44] from rfl, g4] at hcall
                  go_wp2_with fail
                  refine hcall.mono ?_
                  rintro e_ u7 ⟨rfl, hs, hb⟩
                  have HB7 : Aside0 (RB w0 A c TS b w p q #[.string n1, .string n2, .string n3, .string n4, (.slice A6 acc2.length c6), .slice none 0 0] u7 τ1) := ⟨HB6.out.call hs (fr_self b hb)⟩
                  have HR7 := Aside0.mk (rowq_fr HR6.out (by have := HLT.out; omega) (fr_self b hb))
                  clear hs hb hcall HB6 HR6
                  have HL2 : Aside0 (acc2.length + lenS (pop τ1) ≤ 4096) := ⟨by have := HLL.out; have := HSB.out _ _ g4; omega⟩
                  obtain ⟨i, c1, f1, hi, hpop⟩ := RB.step HE.out HB7.out (by decide) g4
                  have hwi : IntKind.i64.wrap ((i : Int) + 1) = (i : Int) + 1 := by rw [IntKind.wrap_i64]; omega
                  have HB8 := Aside0.mk hpop
                  have HR8 := Aside0.mk (rowq_fr HR7.out (by have := HLT.out; omega) ((Fr.refl b u7.heap.size u7).set 1 (.int .i64 ((i : Int) + 1))))
                  clear hi hpop
                  clear g4 HB7 HR7
                  go_wp2_with fail
                  go_roundg k1
                  case measure => omega
                  case rel => exact ⟨true, acc2, _, A6, c6, rfl, ⟨fun _ => HSU3.out⟩, ⟨fun h => absurd h (by decide)⟩, ⟨fun _ => HL2.out⟩, HB8, HR8⟩
                | false =>
                  rw [if_neg (by rw [g4]; decide)] at hsu
                  have HSU3 := Aside0.mk (Option.some.inj hsu).symm
                  clear hsu
                  have hcall := is_c HE.out HB6.out.ps (⟨#[44]⟩ : ByteArray)
                  rw [show L (⟨#[44]⟩ : ByteArray) = [44] from rfl, g4] at hcall
                  go_wp2_with fail
                  refine hcall.mono ?_
                  rintro e_ u7 ⟨rfl, hs, hb⟩
                  have HB7 : Aside0 (RB w0 A c TS b w p q #[.string n1, .string n2, .string n3, .string n4, (.slice A6 acc2.length c6), .slice none 0 0] u7 τ1) := ⟨HB6.out.call hs (fr_self b hb)⟩
                  have HR7 := Aside0.mk (rowq_fr HR6.out (by have := HLT.out; omega) (fr_self b hb))
                  clear hs hb hcall HB6 HR6
                  have HL2 : Aside0 (false = true → acc2.length + lenS τ1 ≤ 4096) := ⟨fun h => absurd h (by decide)⟩
                  clear g4
                  go_wp2_with fail
                  go_roundg k1
                  case measure => omega
                  case rel => exact ⟨false, acc2, _, A6, c6, rfl, ⟨fun h => absurd h (by decide)⟩, ⟨fun _ => HSU3.out⟩, HL2, HB7, HR7⟩
              | true =>
                obtain ⟨⟨m2, τ2⟩, hm2⟩ : ∃ x, nameR (pop τ1) = x := ⟨_, rfl⟩
                have HM2 := Aside0.mk hm2
                clear hm2
                have HSQ : Aside0 (subR τ = (⟨m1, m2⟩, τ2)) := ⟨by unfold subR; rw [HM1.out, if_pos (show isR [35] τ1 = true from g3), HM2.out]⟩
                have hcall := is_c HE.out HB2.out.ps (⟨#[35]⟩ : ByteArray)
                rw [show L (⟨#[35]⟩ : ByteArray) = [35] from rfl, g3] at hcall
                go_wp2_with fail
                refine hcall.mono ?_
                rintro e_ u3 ⟨rfl, hs, hb⟩
                have HB3 : Aside0 (RB w0 A c TS b w p q #[.string n1, .string n2, .string n3, .string n4, (.slice A4 acc.length c4), .slice none 0 0] u3 τ1) := ⟨HB2.out.call hs (fr_self b hb)⟩
                have HR3 := Aside0.mk (rowt_fr HR2.out (by have := HLT.out; omega) (fr_self b hb))
                have HO3 := Aside0.mk ((hb.block _ (blk_lt HO2.out)).trans HO2.out)
                clear hs hb hcall HB2 HR2 HO2
                obtain ⟨i, c1, f1, hi, hpop⟩ := RB.step HE.out HB3.out (by decide) g3
                have hwi : IntKind.i64.wrap ((i : Int) + 1) = (i : Int) + 1 := by rw [IntKind.wrap_i64]; omega
                have HB4 := Aside0.mk hpop
                have HR4 := Aside0.mk (rowt_fr HR3.out (by have := HLT.out; omega) ((Fr.refl b u3.heap.size u3).set 1 (.int .i64 ((i : Int) + 1))))
                clear hi hpop
                have HO4 := Aside0.mk ((Below.heap_setCell u3 ⟨b, 1, none⟩ (.int .i64 ((i : Int) + 1)) tt (show tt ≠ b from by have := HLT.out; have := HQT.out; omega)).trans HO3.out)
                clear g3 HB3 HR3 HO3
                go_upto_region 16 with (fail)
                obtain ⟨u4, hu4⟩ : ∃ u, u3.setCell ⟨b, 1, none⟩ (.int .i64 ((i : Int) + 1)) = u := ⟨_, rfl⟩
                rw [hu4] at HB4 HR4 HO4 ⊢
                clear hu4 c1 f1 hwi
                have hnm := name_c HE.out HB4.out.ps
                rw [HM2.out] at hnm
                dsimp only at hnm
                go_wp2_with fail
                refine hnm.mono ?_
                rintro e_ u5 ⟨rfl, hs, hf⟩
                have HB5 : Aside0 (RB w0 A c TS b w p q #[.string n1, .string n2, .string n3, .string n4, (.slice A4 acc.length c4), .slice none 0 0] u5 τ2) := ⟨HB4.out.call hs hf⟩
                have HR5 := Aside0.mk (rowt_fr HR4.out (by have := HLT.out; omega) hf)
                have HO5 := Aside0.mk ((hf.block _ (blk_lt HO4.out) (show tt ≠ b from by have := HLT.out; have := HQT.out; omega)).trans HO4.out)
                clear hs hf hnm HB4 HR4 HO4
                have o1 := blk_cell HO5.out 1
                have f1 := blk_frozen HO5.out 1
                go_upto_region 17 with (fail)
                have HO6 : Aside0 ((u5.setCell ⟨tt, 1, none⟩ (.string m2)).heap[tt]? = some (.cells #[.string m1, .string m2] 113 (0, 0))) := ⟨by simpa using blk_set HO5.out 1 (.string m2)⟩
                have HBS : Aside0 (RB w0 A c TS b w p q #[.string n1, .string n2, .string n3, .string n4, (.slice A4 acc.length c4), .slice none 0 0] (u5.setCell ⟨tt, 1, none⟩ (.string m2)) τ2) := ⟨HB5.out.setT tt (by have := HLT.out; have := HQT.out; omega) 1 (.string m2)⟩
                have HRS := Aside0.mk (Kd.R_far HR5.out (p := ⟨tt, 1, none⟩) (fun k hk => hk.2) (.string m2))
                obtain ⟨u6, hu6⟩ : ∃ u, u5.setCell ⟨tt, 1, none⟩ (.string m2) = u := ⟨_, rfl⟩
                rw [hu6] at HO6 HBS HRS ⊢
                clear hu6 o1 f1 HB5 HR5 HO5
                have o0 := blk_cell HO6.out 0
                have o1 := blk_cell HO6.out 1
                have fz := blk_frozen HBS.out.hq 4
                have ce := blk_cell HBS.out.hq 4
                go_upto_region 18 with (first | ((with_reducible refine gate_builtin (b := .append) (xs := #[.tmp 61, .tmp 63]) rfl ?_); (try (refine gate_guard (by rfl) ?_; dsimp only)); at_builtin; go_must (refine Kd.R_append k113 (w0 := u6) (q + 1) rfl (.tmp 61) (.tmp 63) 75 113 (.agg #[(.string ⟨#[]⟩), (.string ⟨#[]⟩)]) 32 rfl Tryd.underlying75 info113 rfl (by decide) (by omega) _ acc (⟨m1, m2⟩ : RS) [.string m1, .string m2] (fun k => q < k) (fun _ => False) rfl rfl ?pP (fun _ hk => hk.elim) ?pF ?pO ?pB ?pS ?pL ?_); (case pP => exact k113_mkM _ _ _ (⟨m1, m2⟩ : RS)); (case pF => exact (fun k hk => by have := blk_lt HBS.out.hq; omega)); (case pO => exact (Kd.R_mono HRS.out (fun k hk => hk.1))); (case pB => exact Below.refl _ _); (case pS => exact blk_lt HBS.out.hq); (case pL => have := HSZ.out; omega); intro v_ w_ ho_ hb_ hg_ hat_; obtain ⟨acc2, hac⟩ : ∃ a, acc ++ [(⟨m1, m2⟩ : RS)] = a := ⟨_, rfl⟩; rw [hac] at ho_; have HAC := Aside0.mk hac; clear hac; obtain ⟨A6, c6, rfl⟩ := Kd.R_slice ho_; have HR5 := Aside0.mk ho_; have hbn := HBS.out.belowB hb_ (Nat.lt_succ_self _); clear fz ce; have fz := blk_frozen hbn.hq 4; have ce := blk_cell hbn.hq 4; have HB5 := Aside0.mk hbn; clear hbn; clear ho_ hb_ hg_ hat_))
                clear o0 o1 HBS HRS HO6
                have HB6 : Aside0 (RB w0 A c TS b w p q #[.string n1, .string n2, .string n3, .string n4, (.slice A6 acc2.length c6), .slice none 0 0] (w_.setCell ⟨q, 4, none⟩ (.slice A6 acc2.length c6)) τ2) := ⟨HB5.out.set 4 _ (by simpa using blk_set HB5.out.hq 4 (.slice A6 acc2.length c6))⟩
                have HR6 := Aside0.mk (rowq_set HR5.out 4 (.slice A6 acc2.length c6))
                obtain ⟨u6, hu6⟩ : ∃ u, w_.setCell ⟨q, 4, none⟩ (.slice A6 acc2.length c6) = u := ⟨_, rfl⟩
                rw [hu6] at HB6 HR6 ⊢
                clear hu6 fz ce HB5 HR5
                have hal : acc2.length = acc.length + 1 := by rw [← HAC.out]; simp
                have hsl := sub_le τ
                rw [HSQ.out] at hsl
                dsimp only at hsl
                have HLL : Aside0 (acc2.length + lenS τ2 ≤ 4097) := ⟨by have := HSZ.out; omega⟩
                have hsu := HSUB.out
                rw [HSQ.out] at hsu
                dsimp only at hsu
                rw [HAC.out] at hsu
                clear hal hsl HSUB HSQ HSZ
                cases g4 : isR [44] τ2 with
                | true =>
                  rw [if_pos g4] at hsu
                  have HSU3 := Aside0.mk hsu
                  clear hsu
                  have hcall := is_c HE.out HB6.out.ps (⟨#[44]⟩ : ByteArray)
                  rw [show L (⟨#[44]⟩ : ByteArray) = [44] from rfl, g4] at hcall
                  go_wp2_with fail
                  refine hcall.mono ?_
                  rintro e_ u7 ⟨rfl, hs, hb⟩
                  have HB7 : Aside0 (RB w0 A c TS b w p q #[.string n1, .string n2, .string n3, .string n4, (.slice A6 acc2.length c6), .slice none 0 0] u7 τ2) := ⟨HB6.out.call hs (fr_self b hb)⟩
                  have HR7 := Aside0.mk (rowq_fr HR6.out (by have := HLT.out; omega) (fr_self b hb))
                  clear hs hb hcall HB6 HR6
                  have HL2 : Aside0 (acc2.length + lenS (pop τ2) ≤ 4096) := ⟨by have := HLL.out; have := HSB.out _ _ g4; omega⟩
                  obtain ⟨i, c1, f1, hi, hpop⟩ := RB.step HE.out HB7.out (by decide) g4
                  have hwi : IntKind.i64.wrap ((i : Int) + 1) = (i : Int) + 1 := by rw [IntKind.wrap_i64]; omega
                  have HB8 := Aside0.mk hpop
                  have HR8 := Aside0.mk (rowq_fr HR7.out (by have := HLT.out; omega) ((Fr.refl b u7.heap.size u7).set 1 (.int .i64 ((i : Int) + 1))))
                  clear hi hpop
                  clear g4 HB7 HR7
                  go_wp2_with fail
                  go_roundg k1
                  case measure => omega
                  case rel => exact ⟨true, acc2, _, A6, c6, rfl, ⟨fun _ => HSU3.out⟩, ⟨fun h => absurd h (by decide)⟩, ⟨fun _ => HL2.out⟩, HB8, HR8⟩
                | false =>
                  rw [if_neg (by rw [g4]; decide)] at hsu
                  have HSU3 := Aside0.mk (Option.some.inj hsu).symm
                  clear hsu
                  have hcall := is_c HE.out HB6.out.ps (⟨#[44]⟩ : ByteArray)
                  rw [show L (⟨#[44]⟩ : ByteArray) = [44] from rfl, g4] at hcall
                  go_wp2_with fail
                  refine hcall.mono ?_
                  rintro e_ u7 ⟨rfl, hs, hb⟩
                  have HB7 : Aside0 (RB w0 A c TS b w p q #[.string n1, .string n2, .string n3, .string n4, (.slice A6 acc2.length c6), .slice none 0 0] u7 τ2) := ⟨HB6.out.call hs (fr_self b hb)⟩
                  have HR7 := Aside0.mk (rowq_fr HR6.out (by have := HLT.out; omega) (fr_self b hb))
                  clear hs hb hcall HB6 HR6
                  have HL2 : Aside0 (false = true → acc2.length + lenS τ2 ≤ 4096) := ⟨fun h => absurd h (by decide)⟩
                  clear g4
                  go_wp2_with fail
                  go_roundg k1
                  case measure => omega
                  case rel => exact ⟨false, acc2, _, A6, c6, rfl, ⟨fun h => absurd h (by decide)⟩, ⟨fun _ => HSU3.out⟩, HL2, HB7, HR7⟩
end
end Go.Proofs.YtkgnhghaiopgcaaDoor.Rw
