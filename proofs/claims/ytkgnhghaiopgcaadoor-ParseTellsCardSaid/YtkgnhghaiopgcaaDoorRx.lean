/- The walks of doormanref07's reader, second part: part and rewrite; no condition. -/
import Derived.Test.YtkgnhghaiopgcaaDoorRw
set_option linter.unusedVariables false
set_option linter.unusedSimpArgs false
namespace Go.Proofs.YtkgnhghaiopgcaaDoor.Rq
open Go.Proofs.YtkgnhghaiopgcaaDoor.Gl Go.Proofs.YtkgnhghaiopgcaaDoor.X Go.Proofs.YtkgnhghaiopgcaaDoor.Kx Go.Proofs.YtkgnhghaiopgcaaDoor.Tk Go.Proofs.YtkgnhghaiopgcaaDoor.Ps Go.Proofs.YtkgnhghaiopgcaaDoor.Of
def lenS : Sg → Nat
  | .ok ts => ts.length
  | .bad _ _ => 0
theorem pop_len {s : List UInt8} {σ : Sg} (h : isR s σ = true) : lenS (pop σ) + 1 ≤ lenS σ := by
  cases σ with
  | bad e a => exact absurd h (by simp [isR])
  | ok ts => exact isT_len h
theorem need_len (s : List UInt8) (σ : Sg) : lenS (needR s σ) ≤ lenS σ := by
  unfold needR
  split
  · rename_i h; have := pop_len h; omega
  · cases σ with
    | bad e a => exact Nat.le_refl _
    | ok ts => exact Nat.zero_le _
theorem name_len (σ : Sg) : lenS (nameR σ).2 + 1 ≤ lenS σ ∨ lenS (nameR σ).2 = 0 := by
  cases σ with
  | bad e a => exact .inr rfl
  | ok ts =>
    cases ts with
    | nil => exact .inr rfl
    | cons t r =>
      show lenS (if t.kind = 1 ∧ TkKey.key t.text = false then (B t.text, Sg.ok r) else _).2 + 1 ≤ _ ∨ lenS (if t.kind = 1 ∧ TkKey.key t.text = false then (B t.text, Sg.ok r) else _).2 = 0
      split
      · exact .inl (Nat.le_refl _)
      · exact .inr rfl
theorem sign_len {σ : Sg} (h : signR σ ≠ 0) : lenS (pop σ) + 1 ≤ lenS σ := by
  unfold signR at h
  split at h
  · exact pop_len (by assumption)
  split at h
  · exact pop_len (by assumption)
  split at h
  · exact pop_len (by assumption)
  · exact absurd rfl h
theorem sizesR : ∀ k : Nat, (∀ d σ y, partR k d σ = some y → y.1.length + 2 * lenS y.2 ≤ 2 * lenS σ + 1) ∧ (∀ d σ y, rewR k d σ = some y → y.1.length + 2 * lenS y.2 ≤ 2 * lenS σ + 1) ∧ (∀ d acc σ y, rewRL k d acc σ = some y → y.1.length + 2 * lenS y.2 ≤ acc.length + 2 * lenS σ) := by
  intro k
  induction k with
  | zero => exact ⟨fun d σ y h => by simp [partR] at h, fun d σ y h => by simp [rewR] at h, fun d acc σ y h => by simp [rewRL] at h⟩
  | succ k ih =>
    obtain ⟨ip, ir, il⟩ := ih
    refine ⟨fun d σ y h => ?_, fun d σ y h => ?_, fun d acc σ y h => ?_⟩
    · rw [partR] at h
      split at h
      · rename_i h1
        obtain rfl := Option.some.inj h
        have := pop_len h1
        show 1 + 2 * lenS (pop σ) ≤ _
        omega
      split at h
      · rename_i h2
        have hp := pop_len h2
        split at h
        · obtain rfl := Option.some.inj h
          have : lenS (failR 13 σ) = 0 := by cases σ <;> rfl
          show 0 + 2 * lenS (failR 13 σ) ≤ _
          omega
        · obtain ⟨x, h3, h4⟩ := Option.bind_eq_some_iff.1 h
          obtain rfl := Option.some.inj h4
          have a1 := ir _ _ _ h3
          have a2 := need_len [41] x.2
          show x.1.length + 2 * lenS (needR [41] x.2) ≤ _
          omega
      have n1 := name_len σ
      split at h
      · rename_i h3
        obtain rfl := Option.some.inj h
        have n2 := pop_len h3
        have n3 := name_len (pop (nameR σ).2)
        show 1 + 2 * lenS (nameR (pop (nameR σ).2)).2 ≤ _
        omega
      · obtain rfl := Option.some.inj h
        show 1 + 2 * lenS (nameR σ).2 ≤ _
        omega
    · rw [rewR] at h
      obtain ⟨x, h1, h2⟩ := Option.bind_eq_some_iff.1 h
      have a1 := ip _ _ _ h1
      have a2 := il _ _ _ _ h2
      omega
    · rw [rewRL] at h
      split at h
      · obtain rfl := Option.some.inj h
        exact Nat.le_refl _
      · rename_i h0
        obtain ⟨x, h1, h2⟩ := Option.bind_eq_some_iff.1 h
        have a1 := ip _ _ _ h1
        have a2 := il _ _ _ _ h2
        have a3 := sign_len h0
        simp only [List.length_append, List.length_cons, List.length_nil] at a2
        omega
end Go.Proofs.YtkgnhghaiopgcaaDoor.Rq
namespace Go.Proofs.YtkgnhghaiopgcaaDoor.Rw
open Go.RowKit Go.Maps Go.Proofs.YtkgnhghaiopgcaaDoorW.PrintWords Go.Proofs.YtkgnhghaiopgcaaDoorW.PrintLast Go.Proofs.YtkgnhghaiopgcaaDoor.X Go.Proofs.YtkgnhghaiopgcaaDoor.Kx Go.Proofs.YtkgnhghaiopgcaaDoor.Gl Go.Proofs.YtkgnhghaiopgcaaDoor.GlFn Go.Proofs.YtkgnhghaiopgcaaDoor.Tk Go.Proofs.YtkgnhghaiopgcaaDoor.Ps Go.Proofs.YtkgnhghaiopgcaaDoor.Pw Go.Proofs.YtkgnhghaiopgcaaDoor.Of Go.Proofs.YtkgnhghaiopgcaaDoor.Rq

theorem lit1 (w : World) (x : RO) (b : Nat) (hb : b < w.heap.size) : k114.R 114 (w.alloc (.cells #[.int .i64 x.f0, .string x.f1, .string x.f2] 114)) w.heap.size (fun k => b < k) (.slice (some ⟨w.heap.size, 0, none⟩) 1 1) [x] := by
  refine ⟨fun k hk => ?_, [.int .i64 x.f0, .string x.f1, .string x.f2], ?_, ?_⟩
  · have : w.heap.size = k := by simpa [Value.ownBlock] using hk
    subst this
    exact hb
  · have h2 := World.ownsRow_lit (base := w.heap.size) (e := 114) (size := 3) w #[.int .i64 x.f0, .string x.f1, .string x.f2] 1 (Nat.le_refl _) (by simp [maxLen]) (by simp)
    exact h2
  · exact Reps.snoc (Reps.none _ _) (k114_mkM _ _ _ x) rfl
theorem row_move {α : Type} {d : Kd α} {t : Nat} {w w' : World} {base b : Nat} {v : Value} {xs : List α} (h : d.R t w base (fun k => b < k) v xs) (hf : Fr b w.heap.size w w') : d.R t w' base (fun k => b < k) v xs :=
  Kd.R_step h (fun k ho hk => hf.block k hk (by omega))
section
variable {w0 w : World} {A : Option Addr} {c : Nat} {TS : List Tok} {b : Nat} {σ : Sg}
theorem PS.step (E : Env w0 A TS) (h : PS w0 A c TS b w σ) {s : List UInt8} (hne : s ≠ []) (hq : isR s σ = true) : ∃ i : Nat, w.cell? ⟨b, 1, none⟩ = some (.int .i64 i) ∧ w.frozen? ⟨b, 1, none⟩ = false ∧ i ≤ 4096 ∧ PS w0 A c TS b (w.setCell ⟨b, 1, none⟩ (.int .i64 ((i : Int) + 1))) (Rq.pop σ) := by
  obtain ⟨ad, i, e, a, t, rfl, v⟩ := h.view E
  cases σ with
  | bad en p => exact absurd hq (by simp [isR])
  | ok ts =>
    obtain ⟨h1, rfl, rfl⟩ := v.st
    exact ⟨i, blk_cell v.blk 1, blk_frozen v.blk 1, by have := v.lt; have := E.small; omega, PS.pop E h v.blk v.tk v.lt h1 (.inr (is_more hne hq (h1.trans v.tk)))⟩
theorem PS.belowB {w' : World} {B : Nat} (h : PS w0 A c TS b w σ) (hb : Below B w w') (h1 : b < B) (h3 : w0.heap.size ≤ B) : PS w0 A c TS b w' σ := h.keep (h.1.trans (hb.mono h3)) (hb.block b h1)
theorem PS.set {q : Nat} (h : PS w0 A c TS b w σ) (h1 : b ≠ q) (h3 : w0.heap.size ≤ q) (j : Nat) (u : Value) : PS w0 A c TS b (w.setCell ⟨q, j, none⟩ u) σ := h.keep (h.1.setCell h3 _) (Below.heap_setCell w ⟨q, j, none⟩ u b h1)
/-- What a part of a rewrite leaves. -/
def OpsP (w0 : World) (A : Option Addr) (c : Nat) (TS : List Tok) (b : Nat) (w : World) (y : List RO × Sg) (e : Ending) (w' : World) : Prop :=
  ∃ v, e = .returned v ∧ k114.R 114 w' w.heap.size (fun k => b < k) v y.1 ∧ PS w0 A c TS b w' y.2 ∧ Fr b w.heap.size w w'
def PartC (w0 : World) (A : Option Addr) (c : Nat) (TS : List Tok) (b k : Nat) : Prop := ∀ (w : World) (σ : Sg) (d : Nat) (y : List RO × Sg), PS w0 A c TS b w σ → d ≤ 8 → partR k d σ = some y →
  Calls Tryd.prog 124 #[.pointer (some ⟨b, 0, none⟩), .int .i64 d] w (OpsP w0 A c TS b w y)
def RewC (w0 : World) (A : Option Addr) (c : Nat) (TS : List Tok) (b k : Nat) : Prop := ∀ (w : World) (σ : Sg) (d : Nat) (y : List RO × Sg), PS w0 A c TS b w σ → d ≤ 8 → rewR k d σ = some y →
  Calls Tryd.prog 104 #[.pointer (some ⟨b, 0, none⟩), .int .i64 d] w (OpsP w0 A c TS b w y)
theorem lenS_le (h : PS w0 A c TS b w σ) : lenS σ ≤ TS.length := by
  obtain ⟨_, _, i, e, a, _, _, hs⟩ := h
  cases σ with
  | bad en p => exact Nat.zero_le _
  | ok ts => rw [show lenS (.ok ts) = ts.length from rfl, hs.1, List.length_drop]; omega
set_option maxHeartbeats 8000000 in
set_option maxRecDepth 100000 in
theorem part_c (E : Env w0 A TS) (k : Nat) (ih : RewC w0 A c TS b k) : PartC w0 A c TS b (k + 1) := by
  intro w σ d y h hd8 hp
  rw [partR] at hp
  have HP := Aside0.mk hp
  have HE := Aside0.mk E
  have HS := Aside0.mk h
  have HD := Aside0.mk hd8
  have hbl := h.lt
  have HL := Aside0.mk hbl
  have HZ := Aside0.mk h.size
  have HF : Aside0 (Fr b w.heap.size w w) := ⟨Fr.refl _ _ _⟩
  clear h hp hd8 hbl E
  go_enter Tryd.func124, Tryd.ntmps124
  cases g1 : isR sThis σ with
  | true =>
    have hp := HP.out
    rw [if_pos g1] at hp
    obtain rfl := Option.some.inj hp
    have hcall := is_c HE.out HS.out (⟨#[116, 104, 105, 115]⟩ : ByteArray)
    rw [show L (⟨#[116, 104, 105, 115]⟩ : ByteArray) = sThis from rfl, g1] at hcall
    clear hp HP
    go_wp2_with fail
    refine hcall.mono ?_
    rintro e_ w2 ⟨rfl, hs, hb⟩
    have HS2 := Aside0.mk hs
    have HF2 := Aside0.mk (fr_two HF.out (fr_self b hb))
    clear hs hb hcall
    obtain ⟨i, c1, f1, hi, hpop⟩ := PS.step HE.out HS2.out (by decide) g1
    have hwi : IntKind.i64.wrap ((i : Int) + 1) = (i : Int) + 1 := by rw [IntKind.wrap_i64]; omega
    have HS3 := Aside0.mk hpop
    have HF3 : Aside0 (Fr b w.heap.size w (w2.setCell ⟨b, 1, none⟩ (.int .i64 ((i : Int) + 1)))) := ⟨HF2.out.set _ _⟩
    clear hi hpop
    obtain ⟨w3, hw3⟩ : ∃ w3, w2.setCell ⟨b, 1, none⟩ (.int .i64 ((i : Int) + 1)) = w3 := ⟨_, rfl⟩
    rw [hw3] at HS3 HF3
    have HW3 := Aside0.mk hw3
    clear hw3 g1
    go_upto_region 3 with (fail)
    rw [HW3.out]
    clear c1 f1
    go_wp2_with fail
    go_ret
    exact ⟨_, rfl, Kd.R_lower (lit1 w3 (oR 1) b HS3.out.lt) HF3.out.size, HS3.out.below (below_alloc (Below.refl _ _) _), HF3.out.alloc HF3.out.size _⟩
  | false =>
    have hcall := is_c HE.out HS.out (⟨#[116, 104, 105, 115]⟩ : ByteArray)
    rw [show L (⟨#[116, 104, 105, 115]⟩ : ByteArray) = sThis from rfl, g1] at hcall
    go_wp2_with fail
    refine hcall.mono ?_
    rintro e_ w2 ⟨rfl, hs, hb⟩
    have HS2 := Aside0.mk hs
    have HF2 := Aside0.mk (fr_two HF.out (fr_self b hb))
    clear hs hb hcall
    cases g2 : isR [40] σ with
    | true =>
      have hcall := is_c HE.out HS2.out (⟨#[40]⟩ : ByteArray)
      rw [show L (⟨#[40]⟩ : ByteArray) = [40] from rfl, g2] at hcall
      go_wp2_with fail
      refine hcall.mono ?_
      rintro e_ w3 ⟨rfl, hs, hb⟩
      have HS3 := Aside0.mk hs
      have HF3 := Aside0.mk (fr_two HF2.out (fr_self b hb))
      clear hs hb hcall
      by_cases h8 : d = 8
      · have hp := HP.out
        rw [if_neg (by rw [g1]; decide), if_pos g2, if_pos h8] at hp
        obtain rfl := Option.some.inj hp
        subst h8
        clear hp HP g1 g2
        go_wp2_with fail
        refine (fail_c HE.out HS3.out 13 (by decide)).mono ?_
        rintro e_ w4 ⟨rfl, hs, hf⟩
        have HS4 := Aside0.mk hs
        have HF4 := Aside0.mk (fr_two HF3.out hf)
        clear hs hf
        go_wp2_with fail
        go_ret
        exact ⟨_, rfl, Kd.R_nil _ _ _ _ _, HS4.out, HF4.out⟩
      have hp := HP.out
      rw [if_neg (by rw [g1]; decide), if_pos g2, if_neg h8] at hp
      obtain ⟨x, hx, hp2⟩ := Option.bind_eq_some_iff.1 hp
      obtain rfl := Option.some.inj hp2
      have HX := Aside0.mk hx
      have k1 : ((d : Int) == 8) = false := by simp; omega
      have k2 : decide ((d : Int) = 8) = false := decide_eq_false (by omega)
      have k3 : ((d : Int) = 8) = False := eq_false (by omega)
      have k4 : (d = 8) = False := eq_false h8
      have hwd : IntKind.i64.wrap ((d : Int) + 1) = ((d + 1 : Nat) : Int) := by have := HD.out; rw [IntKind.wrap_i64]; omega
      have HD1 : Aside0 (d + 1 ≤ 8) := ⟨by have := HD.out; omega⟩
      obtain ⟨i, c1, f1, hi, hpop⟩ := PS.step HE.out HS3.out (by decide) g2
      have hwi : IntKind.i64.wrap ((i : Int) + 1) = (i : Int) + 1 := by rw [IntKind.wrap_i64]; omega
      have HS4 := Aside0.mk hpop
      have HF4 : Aside0 (Fr b w.heap.size w (w3.setCell ⟨b, 1, none⟩ (.int .i64 ((i : Int) + 1)))) := ⟨HF3.out.set _ _⟩
      clear hi hpop
      clear hp hp2 hx h8 HP
      obtain ⟨w4, hw4⟩ : ∃ w4, w3.setCell ⟨b, 1, none⟩ (.int .i64 ((i : Int) + 1)) = w4 := ⟨_, rfl⟩
      rw [hw4] at HS4 HF4
      have HW4 := Aside0.mk hw4
      have hrw := ih w4 (pop σ) (d + 1) x HS4.out HD1.out HX.out
      clear hw4 g1 g2
      go_upto_region 9 with (fail)
      rw [HW4.out]
      clear c1 f1
      go_wp2_with fail
      refine hrw.mono ?_
      rintro e_ w5 ⟨v5, rfl, hr5, hs, hf⟩
      have HR5 := Aside0.mk (Kd.R_lower hr5 HF4.out.size)
      have HS5 := Aside0.mk hs
      have HF5 := Aside0.mk (fr_two HF4.out hf)
      clear hr5 hs hf hrw
      go_wp2_with fail
      refine (need_c HE.out HS5.out (⟨#[41]⟩ : ByteArray) (by decide)).mono ?_
      rintro e_ w6 ⟨rfl, hs, hf⟩
      have HR6 := Aside0.mk (row_move HR5.out hf)
      have HS6 := Aside0.mk hs
      have HF6 := Aside0.mk (fr_two HF5.out hf)
      clear hs hf
      go_wp2_with fail
      go_ret
      exact ⟨_, rfl, HR6.out, HS6.out, HF6.out⟩
    | false =>
      have hcall := is_c HE.out HS2.out (⟨#[40]⟩ : ByteArray)
      rw [show L (⟨#[40]⟩ : ByteArray) = [40] from rfl, g2] at hcall
      go_wp2_with fail
      refine hcall.mono ?_
      rintro e_ w3 ⟨rfl, hs, hb⟩
      have HS3 := Aside0.mk hs
      have HF3 := Aside0.mk (fr_two HF2.out (fr_self b hb))
      clear hs hb hcall
      have hp := HP.out
      rw [if_neg (by rw [g1]; decide), if_neg (by rw [g2]; decide)] at hp
      obtain ⟨N, hN⟩ : ∃ N, nameR σ = N := ⟨_, rfl⟩
      rw [hN] at hp
      have hnm := name_c HE.out HS3.out
      rw [hN] at hnm
      obtain ⟨n, σ1⟩ := N
      have HP2 := Aside0.mk hp
      clear hp HP hN g1 g2
      go_wp2_with fail
      refine hnm.mono ?_
      rintro e_ w4 ⟨rfl, hs, hf⟩
      obtain ⟨w5, e5, h5, b5, z5, k5⟩ := al1 w4 #[.int .i64 2, .string n, .string ⟨#[]⟩] 114
      have HO5 := Aside0.mk h5
      have HS5 := Aside0.mk (hs.below b5)
      have HF5 := Aside0.mk (fr_two (fr_two HF3.out hf) (fr_self b b5))
      have HW5 := Aside0.mk e5
      have hy1 := hs.lt
      have hy2 : w.heap.size ≤ w4.heap.size := Nat.le_trans HF3.out.size hf.size
      obtain ⟨q, hq⟩ : ∃ q, w4.heap.size = q := ⟨_, rfl⟩
      have HQ4 := Aside0.mk hq
      rw [hq] at HO5 hy1 hy2
      have HY := Aside0.mk (And.intro hy1 hy2)
      clear hs hf hnm h5 b5 z5 k5 e5 hq hy1 hy2
      go_upto_region 13 with (fail)
      rw [HW5.out, HQ4.out]
      clear HW5 HQ4
      have o0 := blk_cell HO5.out 0
      have o1 := blk_cell HO5.out 1
      have o2 := blk_cell HO5.out 2
      cases g3 : isR [46] σ1 with
      | false =>
        have hp := HP2.out
        rw [if_neg (by rw [g3]; decide)] at hp
        obtain rfl := Option.some.inj hp
        have hcall := is_c HE.out HS5.out (⟨#[46]⟩ : ByteArray)
        rw [show L (⟨#[46]⟩ : ByteArray) = [46] from rfl, g3] at hcall
        clear hp HP2
        go_wp2_with fail
        refine hcall.mono ?_
        rintro e_ w6 ⟨rfl, hs, hb⟩
        have HO6 := Aside0.mk ((hb.block _ (blk_lt HO5.out)).trans HO5.out)
        have HS6 := Aside0.mk hs
        have HF6 := Aside0.mk (fr_two HF5.out (fr_self b hb))
        clear hs hb hcall o0 o1 o2
        have o0 := blk_cell HO6.out 0
        have o1 := blk_cell HO6.out 1
        have o2 := blk_cell HO6.out 2
        go_wp2_with fail
        go_ret
        exact ⟨_, rfl, Kd.R_lower (lit1 w6 (⟨2, n, ⟨#[]⟩⟩ : RO) b HS6.out.lt) HF6.out.size, HS6.out.below (below_alloc (Below.refl _ _) _), HF6.out.alloc HF6.out.size _⟩
      | true =>
        have hp := HP2.out
        rw [if_pos g3] at hp
        obtain ⟨M, hM⟩ : ∃ M, nameR (pop σ1) = M := ⟨_, rfl⟩
        rw [hM] at hp
        obtain rfl := Option.some.inj hp
        have hcall := is_c HE.out HS5.out (⟨#[46]⟩ : ByteArray)
        rw [show L (⟨#[46]⟩ : ByteArray) = [46] from rfl, g3] at hcall
        have HM := Aside0.mk hM
        clear hp HP2 hM
        go_wp2_with fail
        refine hcall.mono ?_
        rintro e_ w6 ⟨rfl, hs, hb⟩
        have HO6 := Aside0.mk ((hb.block _ (blk_lt HO5.out)).trans HO5.out)
        have HS6 := Aside0.mk hs
        have HF6 := Aside0.mk (fr_two HF5.out (fr_self b hb))
        clear hs hb hcall o0 o1 o2
        obtain ⟨i, c1, f1, hi, hpop⟩ := PS.step HE.out HS6.out (by decide) g3
        have hwi : IntKind.i64.wrap ((i : Int) + 1) = (i : Int) + 1 := by rw [IntKind.wrap_i64]; omega
        have HS7 := Aside0.mk hpop
        have HF7 : Aside0 (Fr b w.heap.size w (w6.setCell ⟨b, 1, none⟩ (.int .i64 ((i : Int) + 1)))) := ⟨HF6.out.set _ _⟩
        clear hi hpop
        have HO7 := Aside0.mk ((Below.heap_setCell w6 ⟨b, 1, none⟩ (.int .i64 ((i : Int) + 1)) q (show q ≠ b from by have := HY.out.1; omega)).trans HO6.out)
        obtain ⟨w7, hw7⟩ : ∃ w7, w6.setCell ⟨b, 1, none⟩ (.int .i64 ((i : Int) + 1)) = w7 := ⟨_, rfl⟩
        rw [hw7] at HS7 HF7 HO7
        have HW7 := Aside0.mk hw7
        clear hw7 g3 HS6 HF6 HO6
        go_upto_region 15 with (fail)
        rw [HW7.out]
        clear c1 f1
        have o0 := blk_cell HO7.out 0
        have g0 := blk_frozen HO7.out 0
        go_upto_region 16 with (fail)
        have HO8 : Aside0 ((w7.setCell ⟨q, 0, none⟩ (.int .i64 3)).heap[q]? = some (.cells #[.int .i64 3, .string n, .string ⟨#[]⟩] 114 (0, 0))) := ⟨by simpa using blk_set HO7.out 0 (.int .i64 3)⟩
        have HS8 : Aside0 (PS w0 A c TS b (w7.setCell ⟨q, 0, none⟩ (.int .i64 3)) (pop σ1)) := ⟨HS7.out.set (by have := HY.out.1; omega) (by have := HY.out.2; have := HZ.out; omega) 0 _⟩
        have HF8 : Aside0 (Fr b w.heap.size w (w7.setCell ⟨q, 0, none⟩ (.int .i64 3))) := ⟨fr_setFar HF7.out HY.out.2 0 _⟩
        obtain ⟨w8, hw8⟩ : ∃ w8, w7.setCell ⟨q, 0, none⟩ (.int .i64 3) = w8 := ⟨_, rfl⟩
        rw [hw8] at HO8 HS8 HF8 ⊢
        clear hw8 HO7 HS7 HF7 HW7 o0 g0
        have hnm := name_c HE.out HS8.out
        rw [HM.out] at hnm
        clear HM
        go_wp2_with fail
        refine hnm.mono ?_
        rintro e_ w9 ⟨rfl, hs, hf⟩
        have HO9 := Aside0.mk ((hf.block _ (blk_lt HO8.out) (show q ≠ b from by have := HY.out.1; omega)).trans HO8.out)
        have HS9 := Aside0.mk hs
        have HF9 := Aside0.mk (fr_two HF8.out hf)
        clear hs hf hnm HO8 HS8 HF8
        have o2 := blk_cell HO9.out 2
        have g2' := blk_frozen HO9.out 2
        go_upto_region 17 with (fail)
        have HO10 : Aside0 ((w9.setCell ⟨q, 2, none⟩ (.string M.1)).heap[q]? = some (.cells #[.int .i64 3, .string n, .string M.1] 114 (0, 0))) := ⟨by simpa using blk_set HO9.out 2 (.string M.1)⟩
        have HS10 : Aside0 (PS w0 A c TS b (w9.setCell ⟨q, 2, none⟩ (.string M.1)) M.2) := ⟨HS9.out.set (by have := HY.out.1; omega) (by have := HY.out.2; have := HZ.out; omega) 2 _⟩
        have HF10 : Aside0 (Fr b w.heap.size w (w9.setCell ⟨q, 2, none⟩ (.string M.1))) := ⟨fr_setFar HF9.out HY.out.2 2 _⟩
        obtain ⟨w10, hw10⟩ : ∃ w10, w9.setCell ⟨q, 2, none⟩ (.string M.1) = w10 := ⟨_, rfl⟩
        rw [hw10] at HO10 HS10 HF10 ⊢
        clear hw10 HO9 HS9 HF9 o2 g2'
        have o0 := blk_cell HO10.out 0
        have o1 := blk_cell HO10.out 1
        have o2 := blk_cell HO10.out 2
        go_wp2_with fail
        go_ret
        exact ⟨_, rfl, Kd.R_lower (lit1 w10 (⟨3, n, M.1⟩ : RO) b HS10.out.lt) HF10.out.size, HS10.out.below (below_alloc (Below.refl _ _) _), HF10.out.alloc HF10.out.size _⟩
set_option maxHeartbeats 16000000 in
set_option maxRecDepth 100000 in
theorem rew_c (E : Env w0 A TS) (k : Nat) (ih : ∀ j, j ≤ k → PartC w0 A c TS b j) : RewC w0 A c TS b (k + 1) := by
  intro w σ d y h hd8 hp
  rw [rewR] at hp
  obtain ⟨x, hx, hp2⟩ := Option.bind_eq_some_iff.1 hp
  have HX := Aside0.mk hx
  have HP := Aside0.mk hp2
  have HE := Aside0.mk E
  have HS := Aside0.mk h
  have HD := Aside0.mk hd8
  have HL := Aside0.mk h.lt
  have HZ := Aside0.mk h.size
  have hsz := (sizesR k).1 _ _ _ hx
  have hle := lenS_le h
  have hsm := E.small
  have HSZ : Aside0 (x.1.length + 2 * lenS x.2 ≤ 8193) := ⟨by omega⟩
  have hcall := ih k (Nat.le_refl _) w σ d x h hd8 hx
  clear h hp hp2 hx hd8 E hsz hle hsm
  go_enter Tryd.func104, Tryd.ntmps104
  go_wp2_with fail
  refine hcall.mono ?_
  rintro e_ w2 ⟨v2, rfl, hr2, hs, hf⟩
  obtain ⟨A2, c2, rfl⟩ := Kd.R_slice hr2
  have HC2 := Aside0.mk (Kd.R_reads' hr2).2.2
  have HS2 := Aside0.mk hs
  have HF2 := Aside0.mk hf
  clear hr2 hs hf hcall
  go_wp2_with (first | ((with_reducible refine gate_builtin (b := .append) (xs := #[.tmp 7, .tmp 10]) rfl ?_); (try (refine gate_guard (by rfl) ?_; dsimp only)); at_builtin; go_must (refine Kd.R_append_rows k114 (w0 := w2) w.heap.size rfl (.tmp 7) (.tmp 10) 76 114 (.agg #[(.int .i64 0), (.string ⟨#[]⟩), (.string ⟨#[]⟩)]) 40 rfl Tryd.underlying76 info114 rfl (by decide) (by omega) _ [] x.1 _ _ _ (fun k => b < k) (fun _ => False) rfl rfl ?aO ?aR (fun _ _ h => h) (fun _ h => h.elim) ?aF ?aB ?aS ?aL ?_); (case aR => exact HC2.out); (case aO => exact Kd.R_nil _ _ _ _ _); (case aF => exact (fun k hk => by have := HF2.out.size; have := HL.out; omega)); (case aB => exact Below.refl _ _); (case aS => exact HF2.out.size); (case aL => have := HSZ.out; simp only [List.length_nil]; omega); intro v3 w3 ho_ hb_ hg_ hat_; have HO3 := Aside0.mk ho_; have HB3 := Aside0.mk hb_; clear ho_ hb_ hg_ hat_))
  have hn3 : ([] : List RO) ++ x.1 = x.1 := rfl
  rw [hn3] at HO3
  have HS3 : Aside0 (PS w0 A c TS b w3 x.2) := ⟨HS2.out.belowB HB3.out HL.out HZ.out⟩
  have HF3 : Aside0 (Fr b w.heap.size w w3) := ⟨HF2.out.trans (Fr.below_ HB3.out)⟩
  clear hn3 HS2 HF2 HC2 HB3
  go_loopg [5] k (fun kq v5 wr => ∃ (acc : List RO) (τ : Sg), Aside0 (rewRL kq d acc τ = some y) ∧ Aside0 (kq ≤ k) ∧ Aside0 (k114.R 114 wr w.heap.size (fun k => b < k) v5 acc) ∧ Aside0 (PS w0 A c TS b wr τ) ∧ Aside0 (Fr b w.heap.size w wr) ∧ Aside0 (acc.length + 2 * lenS τ ≤ 8193))
  case atStart => exact ⟨x.1, x.2, HP, ⟨Nat.le_refl _⟩, HO3, HS3, HF3, HSZ⟩
  case round =>
    clear HS3 HF3 HO3 HP HX HSZ
    obtain ⟨acc, τ, HA, HKq, HO, HS1, HF1, HSM⟩ := hrel
    rename World => wr
    cases gk with
    | zero => exact absurd HA.out (by simp [rewRL])
    | succ k1 =>
      have ha := HA.out
      rw [rewRL] at ha
      clear HA
      cases g1 : isR [124] τ with
      | true =>
        have hcall1 := is_c HE.out HS1.out (⟨#[124]⟩ : ByteArray)
        rw [show L (⟨#[124]⟩ : ByteArray) = [124] from rfl, g1] at hcall1
        go_wp2_with fail
        refine hcall1.mono ?_
        rintro e_ wa ⟨rfl, hs, hb⟩
        have HSa := Aside0.mk hs
        have HFa := Aside0.mk (fr_two HF1.out (fr_self b hb))
        have HOa := Aside0.mk (row_move HO.out (fr_self b hb))
        clear hs hb hcall1 HS1 HF1 HO
        have hsg : signR τ = 4 := by unfold signR; rw [if_pos g1]
        rw [hsg, if_neg (by decide)] at ha
        obtain ⟨x, hx, ha2⟩ := Option.bind_eq_some_iff.1 ha
        have HX := Aside0.mk hx
        have HA2 := Aside0.mk ha2
        have hsl := sign_len (σ := τ) (by rw [hsg]; decide)
        obtain ⟨ad, i, e, a, t, hAd, v⟩ := HSa.out.view HE.out
        subst hAd
        cases τ with
        | bad en p => exact absurd g1 (by simp [isR])
        | ok ts =>
          obtain ⟨h1, rfl, rfl⟩ := v.st
          have htx : t.text = [124] := by
            have hg : isT [124] ts = true := g1
            rw [h1, v.tk] at hg
            simp only [isT, Bool.and_eq_true, decide_eq_true_eq] at hg
            exact hg.1
          have HTS := Aside0.mk h1
          have V := Aside0.mk v
          have HSLN := Aside0.mk hsl
          have hu : B t.text = (⟨#[124]⟩ : ByteArray) := by rw [htx]; rfl
          have q1 := v.q1
          rw [hu] at q1
          have HQ1 := Aside0.mk q1
          have Hg1 : Aside0 (isR [124] (.ok ts) = true) := ⟨g1⟩
          obtain ⟨m, hm⟩ : ∃ m, TS.length = m := ⟨_, rfl⟩
          have HMm := Aside0.mk hm
          have hbk : wa.heap[b]? = some (.cells #[.slice (some ad) m c, .int .i64 i, .int .i64 0, .int .i64 0] 107 (0, 0)) := by rw [← hm]; exact v.blk
          have HBK := Aside0.mk hbk
          have c0 := blk_cell hbk 0
          have c1 := blk_cell hbk 1
          have p1 : decide ((i : Int) < (m : Int)) = true := decide_eq_true (by have := v.lt; omega)
          have p2 : ((i : Int) < (m : Int)) = True := eq_true (by have := v.lt; omega)
          have p3 : decide (i < m) = true := decide_eq_true (by have := v.lt; omega)
          have p4 : (0 ≤ (i : Int)) = True := eq_true (by omega)
          have p5 : decide ((i : Int) < 0) = false := decide_eq_false (by omega)
          have p6 : ((i : Int) < 0) = False := eq_false (by omega)
          have p7 : decide (0 ≤ (i : Int)) = true := decide_eq_true (by omega)
          clear ha ha2 hx hsl h1 htx v hu hm hbk hsg g1
          go_upto_region 5 with (fail)
          go_quiet (fail)
          have hbz : Below wa.heap.size wa (wa.drewN nq) := pw_below_drewN (Below.refl _ _) nq
          have HSz := Aside0.mk (HSa.out.below hbz)
          have HFz := Aside0.mk (fr_two HFa.out (fr_self b hbz))
          have HRz := Aside0.mk (row_move HOa.out (fr_self b hbz))
          have hbk := (hbz.block b (blk_lt HBK.out)).trans HBK.out
          have q1 := pw_cell_below hbz HQ1.out
          have HQz := Aside0.mk q1
          obtain ⟨wz, hwz⟩ : ∃ wz, wa.drewN nq = wz := ⟨_, rfl⟩
          rw [hwz] at HSz HFz HRz hbk q1 HQz ⊢
          have HBz := Aside0.mk hbk
          clear hwz hbz HSa HFa HOa HQ1 HBK c0 c1
          have c0 := blk_cell hbk 0
          have c1 := blk_cell hbk 1
          clear hbk
          go_upto_region 7 with (fail)
          go_quiet (fail)
          have hbz : Below wz.heap.size wz (wz.drewN nq) := pw_below_drewN (Below.refl _ _) nq
          have HSy := Aside0.mk (HSz.out.below hbz)
          have HFy := Aside0.mk (fr_two HFz.out (fr_self b hbz))
          have HRy := Aside0.mk (row_move HRz.out (fr_self b hbz))
          obtain ⟨wy, hwy⟩ : ∃ wy, wz.drewN nq = wy := ⟨_, rfl⟩
          rw [hwy] at HSy HFy HRy ⊢
          clear hwy hbz HSz HFz HRz HQz HBz c0 c1 q1 p1 p2 p3 p4 p5 p6 p7
          go_upto_region 9 with (fail)
          obtain ⟨i', c1, f1, hi, hpop⟩ := PS.step HE.out HSy.out (s := [124]) (by decide) Hg1.out
          have hwi : IntKind.i64.wrap ((i' : Int) + 1) = (i' : Int) + 1 := by rw [IntKind.wrap_i64]; omega
          have HSp := Aside0.mk hpop
          have HFp : Aside0 (Fr b w.heap.size w (wy.setCell ⟨b, 1, none⟩ (.int .i64 ((i' : Int) + 1)))) := ⟨HFy.out.set _ _⟩
          have HRp := Aside0.mk (row_move HRy.out ((Fr.refl b wy.heap.size wy).set 1 (.int .i64 ((i' : Int) + 1))))
          clear hi hpop
          go_upto_region 10 with (fail)
          obtain ⟨wp, hwp⟩ : ∃ wp, wy.setCell ⟨b, 1, none⟩ (.int .i64 ((i' : Int) + 1)) = wp := ⟨_, rfl⟩
          rw [hwp] at HSp HFp HRp ⊢
          clear hwp HSy HFy HRy c1 f1 hwi
          have hsz := (sizesR k1).1 _ _ _ HX.out
          have HSZ : Aside0 (acc.length + x.1.length + 1 + 2 * lenS x.2 ≤ 8193) := ⟨by have := HSLN.out; have := HSM.out; omega⟩
          have hcall := ih k1 (by have := HKq.out; omega) wp (pop (.ok ts)) d x HSp.out HD.out HX.out
          clear hsz
          go_wp2_with fail
          refine hcall.mono ?_
          rintro e_ w5 ⟨vx, rfl, hr5, hs, hf⟩
          have HO5 := Aside0.mk (row_move HRp.out hf)
          have HF5 := Aside0.mk (fr_two HFp.out hf)
          have HS5 := Aside0.mk hs
          obtain ⟨B5, n5, rfl⟩ := Kd.R_slice hr5
          have HR5 := Aside0.mk (Kd.R_reads' hr5).2.2
          clear hr5 hs hf hcall HSp HFp HRp
          go_wp2_with (first | ((with_reducible refine gate_builtin (b := .append) (xs := #[.tmp 53, .tmp 56]) rfl ?_); (try (refine gate_guard (by rfl) ?_; dsimp only)); at_builtin; go_must (refine Kd.R_append_rows k114 (w0 := w5) w.heap.size rfl (.tmp 53) (.tmp 56) 76 114 (.agg #[(.int .i64 0), (.string ⟨#[]⟩), (.string ⟨#[]⟩)]) 40 rfl Tryd.underlying76 info114 rfl (by decide) (by omega) _ acc x.1 _ _ _ (fun k => b < k) (fun _ => False) rfl rfl ?bO ?bR (fun _ _ h => h) (fun _ h => h.elim) ?bF ?bB ?bS ?bL ?_); (case bR => exact HR5.out); (case bO => exact HO5.out); (case bF => exact (fun k hk => by have := HF5.out.size; have := HL.out; omega)); (case bB => exact Below.refl _ _); (case bS => exact HF5.out.size); (case bL => have := HSZ.out; omega); intro v6 w6 ho_ hb_ hg_ hat_; have HO6 := Aside0.mk ho_; have HB6 := Aside0.mk hb_; clear ho_ hb_ hg_ hat_) | ((with_reducible refine gate_builtin (b := .append) (xs := #[.tmp 58, .tmp 61]) rfl ?_); (try (refine gate_guard (by rfl) ?_; dsimp only)); at_builtin; go_must (refine Kd.R_append k114 (w0 := w5) w.heap.size rfl (.tmp 58) (.tmp 61) 76 114 (.agg #[(.int .i64 0), (.string ⟨#[]⟩), (.string ⟨#[]⟩)]) 40 rfl Tryd.underlying76 info114 rfl (by decide) (by omega) _ (acc ++ x.1) (oR 4) [.int .i64 4, .string ⟨#[]⟩, .string ⟨#[]⟩] (fun k => b < k) (fun _ => False) rfl rfl ?cP (fun _ hk => hk.elim) ?cF ?cO ?cB ?cS ?cL ?_); (case cP => exact k114_mkM _ _ _ (oR 4)); (case cF => exact (fun k hk => by have := HF5.out.size; have := HB6.out.size; have := HL.out; omega)); (case cO => exact HO6.out); (case cB => exact HB6.out); (case cS => exact Nat.le_trans HF5.out.size HB6.out.size); (case cL => have := HSZ.out; rw [List.length_append]; omega); intro v7 w7 ho_ hb_ hg_ hat_; have HO7 := Aside0.mk ho_; have HB7 := Aside0.mk hb_; clear ho_ hb_ hg_ hat_))
          have HS7 : Aside0 (PS w0 (some ad) c TS b w7 x.2) := ⟨HS5.out.belowB HB7.out HL.out HZ.out⟩
          have HF7 : Aside0 (Fr b w.heap.size w w7) := ⟨HF5.out.trans (Fr.below_ HB7.out)⟩
          go_roundg k1
          case measure => omega
          case rel => exact ⟨_, _, HA2, ⟨by have := HKq.out; omega⟩, HO7, HS7, HF7, ⟨by have := HSZ.out; simp only [List.length_append, List.length_cons, List.length_nil]; omega⟩⟩
      | false =>
        have hcall1 := is_c HE.out HS1.out (⟨#[124]⟩ : ByteArray)
        rw [show L (⟨#[124]⟩ : ByteArray) = [124] from rfl, g1] at hcall1
        go_wp2_with fail
        refine hcall1.mono ?_
        rintro e_ wa ⟨rfl, hs, hb⟩
        have HSa := Aside0.mk hs
        have HFa := Aside0.mk (fr_two HF1.out (fr_self b hb))
        have HOa := Aside0.mk (row_move HO.out (fr_self b hb))
        clear hs hb hcall1 HS1 HF1 HO
        cases g2 : isR [38] τ with
        | true =>
          have hcall2 := is_c HE.out HSa.out (⟨#[38]⟩ : ByteArray)
          rw [show L (⟨#[38]⟩ : ByteArray) = [38] from rfl, g2] at hcall2
          go_wp2_with fail
          refine hcall2.mono ?_
          rintro e_ wb ⟨rfl, hs, hb⟩
          have HSb := Aside0.mk hs
          have HFb := Aside0.mk (fr_two HFa.out (fr_self b hb))
          have HOb := Aside0.mk (row_move HOa.out (fr_self b hb))
          clear hs hb hcall2 HSa HFa HOa
          have hsg : signR τ = 5 := by unfold signR; rw [if_neg (by rw [g1]; decide), if_pos g2]
          rw [hsg, if_neg (by decide)] at ha
          obtain ⟨x, hx, ha2⟩ := Option.bind_eq_some_iff.1 ha
          have HX := Aside0.mk hx
          have HA2 := Aside0.mk ha2
          have hsl := sign_len (σ := τ) (by rw [hsg]; decide)
          obtain ⟨ad, i, e, a, t, hAd, v⟩ := HSb.out.view HE.out
          subst hAd
          cases τ with
          | bad en p => exact absurd g2 (by simp [isR])
          | ok ts =>
            obtain ⟨h1, rfl, rfl⟩ := v.st
            have htx : t.text = [38] := by
              have hg : isT [38] ts = true := g2
              rw [h1, v.tk] at hg
              simp only [isT, Bool.and_eq_true, decide_eq_true_eq] at hg
              exact hg.1
            have HTS := Aside0.mk h1
            have V := Aside0.mk v
            have HSLN := Aside0.mk hsl
            have hu : B t.text = (⟨#[38]⟩ : ByteArray) := by rw [htx]; rfl
            have q1 := v.q1
            rw [hu] at q1
            have HQ1 := Aside0.mk q1
            have Hg2 : Aside0 (isR [38] (.ok ts) = true) := ⟨g2⟩
            obtain ⟨m, hm⟩ : ∃ m, TS.length = m := ⟨_, rfl⟩
            have HMm := Aside0.mk hm
            have hbk : wb.heap[b]? = some (.cells #[.slice (some ad) m c, .int .i64 i, .int .i64 0, .int .i64 0] 107 (0, 0)) := by rw [← hm]; exact v.blk
            have HBK := Aside0.mk hbk
            have c0 := blk_cell hbk 0
            have c1 := blk_cell hbk 1
            have p1 : decide ((i : Int) < (m : Int)) = true := decide_eq_true (by have := v.lt; omega)
            have p2 : ((i : Int) < (m : Int)) = True := eq_true (by have := v.lt; omega)
            have p3 : decide (i < m) = true := decide_eq_true (by have := v.lt; omega)
            have p4 : (0 ≤ (i : Int)) = True := eq_true (by omega)
            have p5 : decide ((i : Int) < 0) = false := decide_eq_false (by omega)
            have p6 : ((i : Int) < 0) = False := eq_false (by omega)
            have p7 : decide (0 ≤ (i : Int)) = true := decide_eq_true (by omega)
            clear ha ha2 hx hsl h1 htx v hu hm hbk hsg g1 g2
            go_upto_region 5 with (fail)
            go_quiet (fail)
            have hbz : Below wb.heap.size wb (wb.drewN nq) := pw_below_drewN (Below.refl _ _) nq
            have HSz := Aside0.mk (HSb.out.below hbz)
            have HFz := Aside0.mk (fr_two HFb.out (fr_self b hbz))
            have HRz := Aside0.mk (row_move HOb.out (fr_self b hbz))
            have hbk := (hbz.block b (blk_lt HBK.out)).trans HBK.out
            have q1 := pw_cell_below hbz HQ1.out
            have HQz := Aside0.mk q1
            obtain ⟨wz, hwz⟩ : ∃ wz, wb.drewN nq = wz := ⟨_, rfl⟩
            rw [hwz] at HSz HFz HRz hbk q1 HQz ⊢
            have HBz := Aside0.mk hbk
            clear hwz hbz HSb HFb HOb HQ1 HBK c0 c1
            have c0 := blk_cell hbk 0
            have c1 := blk_cell hbk 1
            clear hbk
            go_upto_region 7 with (fail)
            go_quiet (fail)
            have hbz : Below wz.heap.size wz (wz.drewN nq) := pw_below_drewN (Below.refl _ _) nq
            have HSy := Aside0.mk (HSz.out.below hbz)
            have HFy := Aside0.mk (fr_two HFz.out (fr_self b hbz))
            have HRy := Aside0.mk (row_move HRz.out (fr_self b hbz))
            obtain ⟨wy, hwy⟩ : ∃ wy, wz.drewN nq = wy := ⟨_, rfl⟩
            rw [hwy] at HSy HFy HRy ⊢
            clear hwy hbz HSz HFz HRz HQz HBz c0 c1 q1 p1 p2 p3 p4 p5 p6 p7
            go_upto_region 9 with (fail)
            obtain ⟨i', c1, f1, hi, hpop⟩ := PS.step HE.out HSy.out (s := [38]) (by decide) Hg2.out
            have hwi : IntKind.i64.wrap ((i' : Int) + 1) = (i' : Int) + 1 := by rw [IntKind.wrap_i64]; omega
            have HSp := Aside0.mk hpop
            have HFp : Aside0 (Fr b w.heap.size w (wy.setCell ⟨b, 1, none⟩ (.int .i64 ((i' : Int) + 1)))) := ⟨HFy.out.set _ _⟩
            have HRp := Aside0.mk (row_move HRy.out ((Fr.refl b wy.heap.size wy).set 1 (.int .i64 ((i' : Int) + 1))))
            clear hi hpop
            go_upto_region 10 with (fail)
            obtain ⟨wp, hwp⟩ : ∃ wp, wy.setCell ⟨b, 1, none⟩ (.int .i64 ((i' : Int) + 1)) = wp := ⟨_, rfl⟩
            rw [hwp] at HSp HFp HRp ⊢
            clear hwp HSy HFy HRy c1 f1 hwi
            have hsz := (sizesR k1).1 _ _ _ HX.out
            have HSZ : Aside0 (acc.length + x.1.length + 1 + 2 * lenS x.2 ≤ 8193) := ⟨by have := HSLN.out; have := HSM.out; omega⟩
            have hcall := ih k1 (by have := HKq.out; omega) wp (pop (.ok ts)) d x HSp.out HD.out HX.out
            clear hsz
            go_wp2_with fail
            refine hcall.mono ?_
            rintro e_ w5 ⟨vx, rfl, hr5, hs, hf⟩
            have HO5 := Aside0.mk (row_move HRp.out hf)
            have HF5 := Aside0.mk (fr_two HFp.out hf)
            have HS5 := Aside0.mk hs
            obtain ⟨B5, n5, rfl⟩ := Kd.R_slice hr5
            have HR5 := Aside0.mk (Kd.R_reads' hr5).2.2
            clear hr5 hs hf hcall HSp HFp HRp
            go_wp2_with (first | ((with_reducible refine gate_builtin (b := .append) (xs := #[.tmp 53, .tmp 56]) rfl ?_); (try (refine gate_guard (by rfl) ?_; dsimp only)); at_builtin; go_must (refine Kd.R_append_rows k114 (w0 := w5) w.heap.size rfl (.tmp 53) (.tmp 56) 76 114 (.agg #[(.int .i64 0), (.string ⟨#[]⟩), (.string ⟨#[]⟩)]) 40 rfl Tryd.underlying76 info114 rfl (by decide) (by omega) _ acc x.1 _ _ _ (fun k => b < k) (fun _ => False) rfl rfl ?bO ?bR (fun _ _ h => h) (fun _ h => h.elim) ?bF ?bB ?bS ?bL ?_); (case bR => exact HR5.out); (case bO => exact HO5.out); (case bF => exact (fun k hk => by have := HF5.out.size; have := HL.out; omega)); (case bB => exact Below.refl _ _); (case bS => exact HF5.out.size); (case bL => have := HSZ.out; omega); intro v6 w6 ho_ hb_ hg_ hat_; have HO6 := Aside0.mk ho_; have HB6 := Aside0.mk hb_; clear ho_ hb_ hg_ hat_) | ((with_reducible refine gate_builtin (b := .append) (xs := #[.tmp 58, .tmp 61]) rfl ?_); (try (refine gate_guard (by rfl) ?_; dsimp only)); at_builtin; go_must (refine Kd.R_append k114 (w0 := w5) w.heap.size rfl (.tmp 58) (.tmp 61) 76 114 (.agg #[(.int .i64 0), (.string ⟨#[]⟩), (.string ⟨#[]⟩)]) 40 rfl Tryd.underlying76 info114 rfl (by decide) (by omega) _ (acc ++ x.1) (oR 5) [.int .i64 5, .string ⟨#[]⟩, .string ⟨#[]⟩] (fun k => b < k) (fun _ => False) rfl rfl ?cP (fun _ hk => hk.elim) ?cF ?cO ?cB ?cS ?cL ?_); (case cP => exact k114_mkM _ _ _ (oR 5)); (case cF => exact (fun k hk => by have := HF5.out.size; have := HB6.out.size; have := HL.out; omega)); (case cO => exact HO6.out); (case cB => exact HB6.out); (case cS => exact Nat.le_trans HF5.out.size HB6.out.size); (case cL => have := HSZ.out; rw [List.length_append]; omega); intro v7 w7 ho_ hb_ hg_ hat_; have HO7 := Aside0.mk ho_; have HB7 := Aside0.mk hb_; clear ho_ hb_ hg_ hat_))
            have HS7 : Aside0 (PS w0 (some ad) c TS b w7 x.2) := ⟨HS5.out.belowB HB7.out HL.out HZ.out⟩
            have HF7 : Aside0 (Fr b w.heap.size w w7) := ⟨HF5.out.trans (Fr.below_ HB7.out)⟩
            go_roundg k1
            case measure => omega
            case rel => exact ⟨_, _, HA2, ⟨by have := HKq.out; omega⟩, HO7, HS7, HF7, ⟨by have := HSZ.out; simp only [List.length_append, List.length_cons, List.length_nil]; omega⟩⟩
        | false =>
          have hcall2 := is_c HE.out HSa.out (⟨#[38]⟩ : ByteArray)
          rw [show L (⟨#[38]⟩ : ByteArray) = [38] from rfl, g2] at hcall2
          go_wp2_with fail
          refine hcall2.mono ?_
          rintro e_ wb ⟨rfl, hs, hb⟩
          have HSb := Aside0.mk hs
          have HFb := Aside0.mk (fr_two HFa.out (fr_self b hb))
          have HOb := Aside0.mk (row_move HOa.out (fr_self b hb))
          clear hs hb hcall2 HSa HFa HOa
          cases g3 : isR [45] τ with
          | true =>
            have hcall3 := is_c HE.out HSb.out (⟨#[45]⟩ : ByteArray)
            rw [show L (⟨#[45]⟩ : ByteArray) = [45] from rfl, g3] at hcall3
            go_wp2_with fail
            refine hcall3.mono ?_
            rintro e_ wc ⟨rfl, hs, hb⟩
            have HSc := Aside0.mk hs
            have HFc := Aside0.mk (fr_two HFb.out (fr_self b hb))
            have HOc := Aside0.mk (row_move HOb.out (fr_self b hb))
            clear hs hb hcall3 HSb HFb HOb
            have hsg : signR τ = 6 := by unfold signR; rw [if_neg (by rw [g1]; decide), if_neg (by rw [g2]; decide), if_pos g3]
            rw [hsg, if_neg (by decide)] at ha
            obtain ⟨x, hx, ha2⟩ := Option.bind_eq_some_iff.1 ha
            have HX := Aside0.mk hx
            have HA2 := Aside0.mk ha2
            have hsl := sign_len (σ := τ) (by rw [hsg]; decide)
            obtain ⟨ad, i, e, a, t, hAd, v⟩ := HSc.out.view HE.out
            subst hAd
            cases τ with
            | bad en p => exact absurd g3 (by simp [isR])
            | ok ts =>
              obtain ⟨h1, rfl, rfl⟩ := v.st
              have htx : t.text = [45] := by
                have hg : isT [45] ts = true := g3
                rw [h1, v.tk] at hg
                simp only [isT, Bool.and_eq_true, decide_eq_true_eq] at hg
                exact hg.1
              have HTS := Aside0.mk h1
              have V := Aside0.mk v
              have HSLN := Aside0.mk hsl
              have hu : B t.text = (⟨#[45]⟩ : ByteArray) := by rw [htx]; rfl
              have q1 := v.q1
              rw [hu] at q1
              have HQ1 := Aside0.mk q1
              have Hg3 : Aside0 (isR [45] (.ok ts) = true) := ⟨g3⟩
              obtain ⟨m, hm⟩ : ∃ m, TS.length = m := ⟨_, rfl⟩
              have HMm := Aside0.mk hm
              have hbk : wc.heap[b]? = some (.cells #[.slice (some ad) m c, .int .i64 i, .int .i64 0, .int .i64 0] 107 (0, 0)) := by rw [← hm]; exact v.blk
              have HBK := Aside0.mk hbk
              have c0 := blk_cell hbk 0
              have c1 := blk_cell hbk 1
              have p1 : decide ((i : Int) < (m : Int)) = true := decide_eq_true (by have := v.lt; omega)
              have p2 : ((i : Int) < (m : Int)) = True := eq_true (by have := v.lt; omega)
              have p3 : decide (i < m) = true := decide_eq_true (by have := v.lt; omega)
              have p4 : (0 ≤ (i : Int)) = True := eq_true (by omega)
              have p5 : decide ((i : Int) < 0) = false := decide_eq_false (by omega)
              have p6 : ((i : Int) < 0) = False := eq_false (by omega)
              have p7 : decide (0 ≤ (i : Int)) = true := decide_eq_true (by omega)
              clear ha ha2 hx hsl h1 htx v hu hm hbk hsg g1 g2 g3
              go_upto_region 5 with (fail)
              go_quiet (fail)
              have hbz : Below wc.heap.size wc (wc.drewN nq) := pw_below_drewN (Below.refl _ _) nq
              have HSz := Aside0.mk (HSc.out.below hbz)
              have HFz := Aside0.mk (fr_two HFc.out (fr_self b hbz))
              have HRz := Aside0.mk (row_move HOc.out (fr_self b hbz))
              have hbk := (hbz.block b (blk_lt HBK.out)).trans HBK.out
              have q1 := pw_cell_below hbz HQ1.out
              have HQz := Aside0.mk q1
              obtain ⟨wz, hwz⟩ : ∃ wz, wc.drewN nq = wz := ⟨_, rfl⟩
              rw [hwz] at HSz HFz HRz hbk q1 HQz ⊢
              have HBz := Aside0.mk hbk
              clear hwz hbz HSc HFc HOc HQ1 HBK c0 c1
              have c0 := blk_cell hbk 0
              have c1 := blk_cell hbk 1
              clear hbk
              go_upto_region 7 with (fail)
              go_quiet (fail)
              have hbz : Below wz.heap.size wz (wz.drewN nq) := pw_below_drewN (Below.refl _ _) nq
              have HSy := Aside0.mk (HSz.out.below hbz)
              have HFy := Aside0.mk (fr_two HFz.out (fr_self b hbz))
              have HRy := Aside0.mk (row_move HRz.out (fr_self b hbz))
              obtain ⟨wy, hwy⟩ : ∃ wy, wz.drewN nq = wy := ⟨_, rfl⟩
              rw [hwy] at HSy HFy HRy ⊢
              clear hwy hbz HSz HFz HRz HQz HBz c0 c1 q1 p1 p2 p3 p4 p5 p6 p7
              go_upto_region 9 with (fail)
              obtain ⟨i', c1, f1, hi, hpop⟩ := PS.step HE.out HSy.out (s := [45]) (by decide) Hg3.out
              have hwi : IntKind.i64.wrap ((i' : Int) + 1) = (i' : Int) + 1 := by rw [IntKind.wrap_i64]; omega
              have HSp := Aside0.mk hpop
              have HFp : Aside0 (Fr b w.heap.size w (wy.setCell ⟨b, 1, none⟩ (.int .i64 ((i' : Int) + 1)))) := ⟨HFy.out.set _ _⟩
              have HRp := Aside0.mk (row_move HRy.out ((Fr.refl b wy.heap.size wy).set 1 (.int .i64 ((i' : Int) + 1))))
              clear hi hpop
              go_upto_region 10 with (fail)
              obtain ⟨wp, hwp⟩ : ∃ wp, wy.setCell ⟨b, 1, none⟩ (.int .i64 ((i' : Int) + 1)) = wp := ⟨_, rfl⟩
              rw [hwp] at HSp HFp HRp ⊢
              clear hwp HSy HFy HRy c1 f1 hwi
              have hsz := (sizesR k1).1 _ _ _ HX.out
              have HSZ : Aside0 (acc.length + x.1.length + 1 + 2 * lenS x.2 ≤ 8193) := ⟨by have := HSLN.out; have := HSM.out; omega⟩
              have hcall := ih k1 (by have := HKq.out; omega) wp (pop (.ok ts)) d x HSp.out HD.out HX.out
              clear hsz
              go_wp2_with fail
              refine hcall.mono ?_
              rintro e_ w5 ⟨vx, rfl, hr5, hs, hf⟩
              have HO5 := Aside0.mk (row_move HRp.out hf)
              have HF5 := Aside0.mk (fr_two HFp.out hf)
              have HS5 := Aside0.mk hs
              obtain ⟨B5, n5, rfl⟩ := Kd.R_slice hr5
              have HR5 := Aside0.mk (Kd.R_reads' hr5).2.2
              clear hr5 hs hf hcall HSp HFp HRp
              go_wp2_with (first | ((with_reducible refine gate_builtin (b := .append) (xs := #[.tmp 53, .tmp 56]) rfl ?_); (try (refine gate_guard (by rfl) ?_; dsimp only)); at_builtin; go_must (refine Kd.R_append_rows k114 (w0 := w5) w.heap.size rfl (.tmp 53) (.tmp 56) 76 114 (.agg #[(.int .i64 0), (.string ⟨#[]⟩), (.string ⟨#[]⟩)]) 40 rfl Tryd.underlying76 info114 rfl (by decide) (by omega) _ acc x.1 _ _ _ (fun k => b < k) (fun _ => False) rfl rfl ?bO ?bR (fun _ _ h => h) (fun _ h => h.elim) ?bF ?bB ?bS ?bL ?_); (case bR => exact HR5.out); (case bO => exact HO5.out); (case bF => exact (fun k hk => by have := HF5.out.size; have := HL.out; omega)); (case bB => exact Below.refl _ _); (case bS => exact HF5.out.size); (case bL => have := HSZ.out; omega); intro v6 w6 ho_ hb_ hg_ hat_; have HO6 := Aside0.mk ho_; have HB6 := Aside0.mk hb_; clear ho_ hb_ hg_ hat_) | ((with_reducible refine gate_builtin (b := .append) (xs := #[.tmp 58, .tmp 61]) rfl ?_); (try (refine gate_guard (by rfl) ?_; dsimp only)); at_builtin; go_must (refine Kd.R_append k114 (w0 := w5) w.heap.size rfl (.tmp 58) (.tmp 61) 76 114 (.agg #[(.int .i64 0), (.string ⟨#[]⟩), (.string ⟨#[]⟩)]) 40 rfl Tryd.underlying76 info114 rfl (by decide) (by omega) _ (acc ++ x.1) (oR 6) [.int .i64 6, .string ⟨#[]⟩, .string ⟨#[]⟩] (fun k => b < k) (fun _ => False) rfl rfl ?cP (fun _ hk => hk.elim) ?cF ?cO ?cB ?cS ?cL ?_); (case cP => exact k114_mkM _ _ _ (oR 6)); (case cF => exact (fun k hk => by have := HF5.out.size; have := HB6.out.size; have := HL.out; omega)); (case cO => exact HO6.out); (case cB => exact HB6.out); (case cS => exact Nat.le_trans HF5.out.size HB6.out.size); (case cL => have := HSZ.out; rw [List.length_append]; omega); intro v7 w7 ho_ hb_ hg_ hat_; have HO7 := Aside0.mk ho_; have HB7 := Aside0.mk hb_; clear ho_ hb_ hg_ hat_))
              have HS7 : Aside0 (PS w0 (some ad) c TS b w7 x.2) := ⟨HS5.out.belowB HB7.out HL.out HZ.out⟩
              have HF7 : Aside0 (Fr b w.heap.size w w7) := ⟨HF5.out.trans (Fr.below_ HB7.out)⟩
              go_roundg k1
              case measure => omega
              case rel => exact ⟨_, _, HA2, ⟨by have := HKq.out; omega⟩, HO7, HS7, HF7, ⟨by have := HSZ.out; simp only [List.length_append, List.length_cons, List.length_nil]; omega⟩⟩
          | false =>
            have hcall3 := is_c HE.out HSb.out (⟨#[45]⟩ : ByteArray)
            rw [show L (⟨#[45]⟩ : ByteArray) = [45] from rfl, g3] at hcall3
            go_wp2_with fail
            refine hcall3.mono ?_
            rintro e_ wc ⟨rfl, hs, hb⟩
            have HSc := Aside0.mk hs
            have HFc := Aside0.mk (fr_two HFb.out (fr_self b hb))
            have HOc := Aside0.mk (row_move HOb.out (fr_self b hb))
            clear hs hb hcall3 HSb HFb HOb
            have hsg : signR τ = 0 := by unfold signR; rw [if_neg (by rw [g1]; decide), if_neg (by rw [g2]; decide), if_neg (by rw [g3]; decide)]
            rw [hsg, if_pos rfl] at ha
            obtain rfl := Option.some.inj ha
            clear ha hsg g1 g2 g3
            go_wp2_with fail
            go_ret
            exact ⟨_, rfl, HOc.out, HSc.out, HFc.out⟩
theorem both_c (E : Env w0 A TS) (k : Nat) : PartC w0 A c TS b k ∧ RewC w0 A c TS b k := by
  induction k using Nat.strongRecOn with
  | _ k ih =>
    cases k with
    | zero => exact ⟨fun w σ d y _ _ h => by simp [partR] at h, fun w σ d y _ _ h => by simp [rewR] at h⟩
    | succ k => exact ⟨part_c E k (ih k (Nat.lt_succ_self k)).2, rew_c E k (fun j hj => (ih j (Nat.lt_succ_of_le hj)).1)⟩
end
end Go.Proofs.YtkgnhghaiopgcaaDoor.Rw
