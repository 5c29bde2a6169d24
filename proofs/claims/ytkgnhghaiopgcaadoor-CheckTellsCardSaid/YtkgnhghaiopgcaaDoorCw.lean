/- The walks of package check's searches: slices.IndexFunc and ContainsFunc at its structs, its closures, has, kind, Find, leads and op; no condition. -/
import Derived.Test.YtkgnhghaiopgcaaDoorCk
import Derived.Deep.QuietTactic
import Derived.BigQuiet
import Derived.Shelf.GgClosure.Gives
set_option linter.unusedVariables false
set_option linter.unusedSimpArgs false
namespace Go.Proofs.YtkgnhghaiopgcaaDoor.Cw
open Go.RowKit Go.Maps Go.Proofs.YtkgnhghaiopgcaaDoorW.PrintWords Go.Proofs.YtkgnhghaiopgcaaDoorW.PrintLast Go.Proofs.YtkgnhghaiopgcaaDoor.X Go.Proofs.YtkgnhghaiopgcaaDoor.Kx Go.Proofs.YtkgnhghaiopgcaaDoor.Ps Go.Proofs.YtkgnhghaiopgcaaDoor.Ck

/-- What is asked of a function value that is handed in. -/
def PBRel (g : Nat) (lb : Array Value) (p : SR → Bool) (w : World) : Prop :=
  ∀ (W : World), Below w.heap.size w W → ∀ x : SR, ∀ (A2 : Option Addr) (k2 : Nat) (A3 : Option Addr) (k3 : Nat), Calls Tryd.prog g (#[.agg #[.string x.f0, .string x.f1, .string x.f2, .string x.f3, .slice A2 x.f4.length k2, .slice A3 x.f5.length k3]] ++ lb) W fun e w' => e = .returned (.bool (p x)) ∧ Below W.heap.size W w'
set_option maxHeartbeats 2000000 in
theorem IndexFunc_Rel (g : Nat) (lb : Array Value) (p : SR → Bool) (xs : List SR) (A : Option Addr) (c : Nat) (w : World) (hC : Kd.C k57 w A xs.length xs) (eg : ∀ args w, (callFunc g args).run Tryd.prog w = .ok (.enter g args) w) (hp : PBRel g lb p w) :
    Calls Tryd.prog 81 #[.slice A xs.length c, .func (.func g) #[] lb] w fun e w' => e = .returned (.int .i64 (idxI p xs)) ∧ Below w.heap.size w w' := by
  have HC := Aside0.mk hC
  have HP := Aside0.mk hp
  have HM : Aside0 (xs.length ≤ 9223372036854775807) := ⟨Kd.C_max hC⟩
  clear hC hp
  go_enter Tryd.func81, Tryd.ntmps81
  go_wp2
  go_loopg [5, 8] (xs.length + 1) (fun gg s5 s8 wr => ∃ i : Nat, s8 = .int .i64 i ∧ i + gg = xs.length + 1 ∧ i ≤ xs.length ∧ Aside0 (idxI p xs = idxF p (xs.drop i) i) ∧ Aside0 (Below w.heap.size w wr))
  case atStart => exact ⟨0, rfl, by omega, Nat.zero_le _, ⟨rfl⟩, ⟨Below.refl _ _⟩⟩
  case round =>
    obtain ⟨i, rfl, hi, hil, HI, HB⟩ := hrel
    rename World => wr
    cases gk with
    | zero => omega
    | succ g1 =>
      by_cases hlt : i < xs.length
      · have e1 : decide ((i : Int) < (xs.length : Int)) = true := decide_eq_true (by omega)
        have e2 : ((i : Int) < (xs.length : Int)) = True := eq_true (by omega)
        have e3 : decide (i < xs.length) = true := decide_eq_true hlt
        have e4 : (0 ≤ (i : Int)) = True := eq_true (by omega)
        obtain ⟨x, hx⟩ : ∃ x, rd_T57 xs (i : Int) = x := ⟨_, rfl⟩
        have hxi : xs[i] = x := by rw [← hx]; unfold rd_T57; rw [Int.toNat_natCast, List.getD_eq_getElem?_getD, List.getElem?_eq_getElem hlt]; rfl
        obtain ⟨ad, A2, k2, A3, k3, rfl, r0, r1, r2, r3, r4, r5, r6, hC2, r7, hC3⟩ := at_T57 (Kd.C_below HC.out HB.out) (i : Int) (by omega) (by omega)
        rw [hx, Int.toNat_natCast] at r0 r1 r2 r3 r4 r5
        have hcall := HP.out wr HB.out x A2 k2 A3 k3
        have hdrop := List.drop_eq_getElem_cons hlt
        rw [hxi] at hdrop
        have hw : IntKind.i64.wrap ((i : Int) + 1) = ((i + 1 : Nat) : Int) := by have := HM.out; rw [IntKind.wrap_i64]; omega
        have HJ := Aside0.mk (And.intro hi (And.intro hil hlt))
        clear hx hi hil hxi r6 r7 hC2 hC3
        cases hq : p x with
        | true =>
          rw [hq] at hcall
          have HR : Aside0 (idxI p xs = (i : Int)) := ⟨by rw [HI.out, hdrop, idxF, if_pos hq]⟩
          clear hdrop hq hlt
          go_wp2_with (go_at_fn g; refine hcall.mono ?_; rintro e w' ⟨rfl, hb'⟩)
          go_ret
          exact ⟨by rw [HR.out]; rfl, HB.out.trans (hb'.mono HB.out.size)⟩
        | false =>
          rw [hq] at hcall
          have HR : Aside0 (idxI p xs = idxF p (xs.drop (i + 1)) (i + 1)) := ⟨by rw [HI.out, hdrop, idxF, if_neg (by rw [hq]; decide)]⟩
          clear hdrop hq hlt
          go_wp2_with (go_at_fn g; refine hcall.mono ?_; rintro e w' ⟨rfl, hb'⟩)
          go_roundg g1
          case measure => omega
          case rel => exact ⟨i + 1, by simp, by have := HJ.out; omega, HJ.out.2.2, HR, ⟨HB.out.trans (hb'.mono HB.out.size)⟩⟩
      · have e1 : decide ((i : Int) < (xs.length : Int)) = false := decide_eq_false (by omega)
        have e2 : ((i : Int) < (xs.length : Int)) = False := eq_false (by omega)
        have e3 : decide (i < xs.length) = false := decide_eq_false hlt
        have HR : Aside0 (idxI p xs = -1) := ⟨by rw [HI.out, List.drop_eq_nil_of_le (by omega), idxF]⟩
        clear hlt hi hil
        go_wp2
        go_ret
        exact ⟨by rw [HR.out]; rfl, HB.out⟩

theorem ContainsFunc_Rel (g : Nat) (lb : Array Value) (p : SR → Bool) (xs : List SR) (A : Option Addr) (c : Nat) (w : World) (hC : Kd.C k57 w A xs.length xs) (eg : ∀ args w, (callFunc g args).run Tryd.prog w = .ok (.enter g args) w) (hp : PBRel g lb p w) :
    Calls Tryd.prog 105 #[.slice A xs.length c, .func (.func g) #[] lb] w fun e w' => e = .returned (.bool (xs.any p)) ∧ Below w.heap.size w w' := by
  have HC := IndexFunc_Rel g lb p xs A c w hC eg hp
  obtain ⟨r, hr⟩ : ∃ r, idxI p xs = r := ⟨_, rfl⟩
  rw [hr] at HC
  have hb : xs.any p = decide (0 ≤ r) := by rw [← hr]; exact idxI_any p xs
  rw [hb]
  clear hb hr hC hp
  go_enter Tryd.func105, Tryd.ntmps105
  go_wp2_with fail
  refine HC.mono ?_
  rintro e w' ⟨rfl, hb'⟩
  go_wp2
  go_ret
  exact ⟨by simp [GE.ge], hb'⟩

/-- What is asked of a function value that is handed in. -/
def PBType (g : Nat) (lb : Array Value) (p : ST → Bool) (w : World) : Prop :=
  ∀ (W : World), Below w.heap.size w W → ∀ x : ST, ∀ (A1 : Option Addr) (k1 : Nat), Calls Tryd.prog g (#[.agg #[.string x.f0, .slice A1 x.f1.length k1]] ++ lb) W fun e w' => e = .returned (.bool (p x)) ∧ Below W.heap.size W w'
set_option maxHeartbeats 2000000 in
theorem IndexFunc_Type (g : Nat) (lb : Array Value) (p : ST → Bool) (xs : List ST) (A : Option Addr) (c : Nat) (w : World) (hC : Kd.C k53 w A xs.length xs) (eg : ∀ args w, (callFunc g args).run Tryd.prog w = .ok (.enter g args) w) (hp : PBType g lb p w) :
    Calls Tryd.prog 110 #[.slice A xs.length c, .func (.func g) #[] lb] w fun e w' => e = .returned (.int .i64 (idxI p xs)) ∧ Below w.heap.size w w' := by
  have HC := Aside0.mk hC
  have HP := Aside0.mk hp
  have HM : Aside0 (xs.length ≤ 9223372036854775807) := ⟨Kd.C_max hC⟩
  clear hC hp
  go_enter Tryd.func110, Tryd.ntmps110
  go_wp2
  go_loopg [5, 8] (xs.length + 1) (fun gg s5 s8 wr => ∃ i : Nat, s8 = .int .i64 i ∧ i + gg = xs.length + 1 ∧ i ≤ xs.length ∧ Aside0 (idxI p xs = idxF p (xs.drop i) i) ∧ Aside0 (Below w.heap.size w wr))
  case atStart => exact ⟨0, rfl, by omega, Nat.zero_le _, ⟨rfl⟩, ⟨Below.refl _ _⟩⟩
  case round =>
    obtain ⟨i, rfl, hi, hil, HI, HB⟩ := hrel
    rename World => wr
    cases gk with
    | zero => omega
    | succ g1 =>
      by_cases hlt : i < xs.length
      · have e1 : decide ((i : Int) < (xs.length : Int)) = true := decide_eq_true (by omega)
        have e2 : ((i : Int) < (xs.length : Int)) = True := eq_true (by omega)
        have e3 : decide (i < xs.length) = true := decide_eq_true hlt
        have e4 : (0 ≤ (i : Int)) = True := eq_true (by omega)
        obtain ⟨x, hx⟩ : ∃ x, rd_T53 xs (i : Int) = x := ⟨_, rfl⟩
        have hxi : xs[i] = x := by rw [← hx]; unfold rd_T53; rw [Int.toNat_natCast, List.getD_eq_getElem?_getD, List.getElem?_eq_getElem hlt]; rfl
        obtain ⟨ad, A1, k1, rfl, r0, r1, r2, hC1⟩ := at_T53 (Kd.C_below HC.out HB.out) (i : Int) (by omega) (by omega)
        rw [hx, Int.toNat_natCast] at r0 r1
        have hcall := HP.out wr HB.out x A1 k1
        have hdrop := List.drop_eq_getElem_cons hlt
        rw [hxi] at hdrop
        have hw : IntKind.i64.wrap ((i : Int) + 1) = ((i + 1 : Nat) : Int) := by have := HM.out; rw [IntKind.wrap_i64]; omega
        have HJ := Aside0.mk (And.intro hi (And.intro hil hlt))
        clear hx hi hil hxi r2 hC1
        cases hq : p x with
        | true =>
          rw [hq] at hcall
          have HR : Aside0 (idxI p xs = (i : Int)) := ⟨by rw [HI.out, hdrop, idxF, if_pos hq]⟩
          clear hdrop hq hlt
          go_wp2_with (go_at_fn g; refine hcall.mono ?_; rintro e w' ⟨rfl, hb'⟩)
          go_ret
          exact ⟨by rw [HR.out]; rfl, HB.out.trans (hb'.mono HB.out.size)⟩
        | false =>
          rw [hq] at hcall
          have HR : Aside0 (idxI p xs = idxF p (xs.drop (i + 1)) (i + 1)) := ⟨by rw [HI.out, hdrop, idxF, if_neg (by rw [hq]; decide)]⟩
          clear hdrop hq hlt
          go_wp2_with (go_at_fn g; refine hcall.mono ?_; rintro e w' ⟨rfl, hb'⟩)
          go_roundg g1
          case measure => omega
          case rel => exact ⟨i + 1, by simp, by have := HJ.out; omega, HJ.out.2.2, HR, ⟨HB.out.trans (hb'.mono HB.out.size)⟩⟩
      · have e1 : decide ((i : Int) < (xs.length : Int)) = false := decide_eq_false (by omega)
        have e2 : ((i : Int) < (xs.length : Int)) = False := eq_false (by omega)
        have e3 : decide (i < xs.length) = false := decide_eq_false hlt
        have HR : Aside0 (idxI p xs = -1) := ⟨by rw [HI.out, List.drop_eq_nil_of_le (by omega), idxF]⟩
        clear hlt hi hil
        go_wp2
        go_ret
        exact ⟨by rw [HR.out]; rfl, HB.out⟩

/-- What is asked of a function value that is handed in. -/
def PBSub (g : Nat) (lb : Array Value) (p : SS → Bool) (w : World) : Prop :=
  ∀ (W : World), Below w.heap.size w W → ∀ x : SS, Calls Tryd.prog g (#[.agg #[.string x.f0, .string x.f1]] ++ lb) W fun e w' => e = .returned (.bool (p x)) ∧ Below W.heap.size W w'
set_option maxHeartbeats 2000000 in
theorem IndexFunc_Sub (g : Nat) (lb : Array Value) (p : SS → Bool) (xs : List SS) (A : Option Addr) (c : Nat) (w : World) (hC : Kd.C k62 w A xs.length xs) (eg : ∀ args w, (callFunc g args).run Tryd.prog w = .ok (.enter g args) w) (hp : PBSub g lb p w) :
    Calls Tryd.prog 134 #[.slice A xs.length c, .func (.func g) #[] lb] w fun e w' => e = .returned (.int .i64 (idxI p xs)) ∧ Below w.heap.size w w' := by
  have HC := Aside0.mk hC
  have HP := Aside0.mk hp
  have HM : Aside0 (xs.length ≤ 9223372036854775807) := ⟨Kd.C_max hC⟩
  clear hC hp
  go_enter Tryd.func134, Tryd.ntmps134
  go_wp2
  go_loopg [5, 8] (xs.length + 1) (fun gg s5 s8 wr => ∃ i : Nat, s8 = .int .i64 i ∧ i + gg = xs.length + 1 ∧ i ≤ xs.length ∧ Aside0 (idxI p xs = idxF p (xs.drop i) i) ∧ Aside0 (Below w.heap.size w wr))
  case atStart => exact ⟨0, rfl, by omega, Nat.zero_le _, ⟨rfl⟩, ⟨Below.refl _ _⟩⟩
  case round =>
    obtain ⟨i, rfl, hi, hil, HI, HB⟩ := hrel
    rename World => wr
    cases gk with
    | zero => omega
    | succ g1 =>
      by_cases hlt : i < xs.length
      · have e1 : decide ((i : Int) < (xs.length : Int)) = true := decide_eq_true (by omega)
        have e2 : ((i : Int) < (xs.length : Int)) = True := eq_true (by omega)
        have e3 : decide (i < xs.length) = true := decide_eq_true hlt
        have e4 : (0 ≤ (i : Int)) = True := eq_true (by omega)
        obtain ⟨x, hx⟩ : ∃ x, rd_T62 xs (i : Int) = x := ⟨_, rfl⟩
        have hxi : xs[i] = x := by rw [← hx]; unfold rd_T62; rw [Int.toNat_natCast, List.getD_eq_getElem?_getD, List.getElem?_eq_getElem hlt]; rfl
        obtain ⟨ad, rfl, r0, r1⟩ := at_T62 (Kd.C_below HC.out HB.out) (i : Int) (by omega) (by omega)
        rw [hx, Int.toNat_natCast] at r0 r1
        have hcall := HP.out wr HB.out x 
        have hdrop := List.drop_eq_getElem_cons hlt
        rw [hxi] at hdrop
        have hw : IntKind.i64.wrap ((i : Int) + 1) = ((i + 1 : Nat) : Int) := by have := HM.out; rw [IntKind.wrap_i64]; omega
        have HJ := Aside0.mk (And.intro hi (And.intro hil hlt))
        clear hx hi hil hxi
        cases hq : p x with
        | true =>
          rw [hq] at hcall
          have HR : Aside0 (idxI p xs = (i : Int)) := ⟨by rw [HI.out, hdrop, idxF, if_pos hq]⟩
          clear hdrop hq hlt
          go_wp2_with (go_at_fn g; refine hcall.mono ?_; rintro e w' ⟨rfl, hb'⟩)
          go_ret
          exact ⟨by rw [HR.out]; rfl, HB.out.trans (hb'.mono HB.out.size)⟩
        | false =>
          rw [hq] at hcall
          have HR : Aside0 (idxI p xs = idxF p (xs.drop (i + 1)) (i + 1)) := ⟨by rw [HI.out, hdrop, idxF, if_neg (by rw [hq]; decide)]⟩
          clear hdrop hq hlt
          go_wp2_with (go_at_fn g; refine hcall.mono ?_; rintro e w' ⟨rfl, hb'⟩)
          go_roundg g1
          case measure => omega
          case rel => exact ⟨i + 1, by simp, by have := HJ.out; omega, HJ.out.2.2, HR, ⟨HB.out.trans (hb'.mono HB.out.size)⟩⟩
      · have e1 : decide ((i : Int) < (xs.length : Int)) = false := decide_eq_false (by omega)
        have e2 : ((i : Int) < (xs.length : Int)) = False := eq_false (by omega)
        have e3 : decide (i < xs.length) = false := decide_eq_false hlt
        have HR : Aside0 (idxI p xs = -1) := ⟨by rw [HI.out, List.drop_eq_nil_of_le (by omega), idxF]⟩
        clear hlt hi hil
        go_wp2
        go_ret
        exact ⟨by rw [HR.out]; rfl, HB.out⟩

theorem ContainsFunc_Sub (g : Nat) (lb : Array Value) (p : SS → Bool) (xs : List SS) (A : Option Addr) (c : Nat) (w : World) (hC : Kd.C k62 w A xs.length xs) (eg : ∀ args w, (callFunc g args).run Tryd.prog w = .ok (.enter g args) w) (hp : PBSub g lb p w) :
    Calls Tryd.prog 126 #[.slice A xs.length c, .func (.func g) #[] lb] w fun e w' => e = .returned (.bool (xs.any p)) ∧ Below w.heap.size w w' := by
  have HC := IndexFunc_Sub g lb p xs A c w hC eg hp
  obtain ⟨r, hr⟩ : ∃ r, idxI p xs = r := ⟨_, rfl⟩
  rw [hr] at HC
  have hb : xs.any p = decide (0 ≤ r) := by rw [← hr]; exact idxI_any p xs
  rw [hb]
  clear hb hr hC hp
  go_enter Tryd.func126, Tryd.ntmps126
  go_wp2_with fail
  refine HC.mono ?_
  rintro e w' ⟨rfl, hb'⟩
  go_wp2
  go_ret
  exact ⟨by simp [GE.ge], hb'⟩

/-! ### has, kind, Find -/
set_option maxHeartbeats 2000000 in
theorem has1_calls (n : ByteArray) (b : Nat) (w : World) (hb : w.heap[b]? = some (.cells #[.string n] 9 (0, 0))) : PBRel 106 #[.pointer (some ⟨b, 0, none⟩)] (named n) w := by
  intro W hW x A2 k2 A3 k3
  have hB : W.heap[b]? = some (.cells #[.string n] 9 (0, 0)) := (hW.block b (blk_lt hb)).trans hb
  have hc : (W.alloc (.cells #[.string x.f0, .string x.f1, .string x.f2, .string x.f3, .slice A2 x.f4.length k2, .slice A3 x.f5.length k3] 57)).cell? ⟨b, 0, none⟩ = some (.string n) := blk_cell (blk_alloc hB _) 0
  have hd : (W.alloc (.cells #[.string x.f0, .string x.f1, .string x.f2, .string x.f3, .slice A2 x.f4.length k2, .slice A3 x.f5.length k3] 57)).cell? ⟨W.heap.size, 0, none⟩ = some (.string x.f0) := blk_cell (Go.MapKept.heap_alloc W _).1 0
  unfold named
  clear hW hb hB
  cases hq : (x.f0.toList == n.toList) with
  | true =>
    go_enter Tryd.func106, Tryd.ntmps106
    go_wp2
    go_ret
    exact ⟨rfl, below_alloc (Below.refl _ _) _⟩
  | false =>
    go_enter Tryd.func106, Tryd.ntmps106
    go_wp2
    go_ret
    exact ⟨rfl, below_alloc (Below.refl _ _) _⟩
set_option maxHeartbeats 2000000 in
theorem find1_calls (n : ByteArray) (b : Nat) (w : World) (hb : w.heap[b]? = some (.cells #[.string n] 9 (0, 0))) : PBRel 82 #[.pointer (some ⟨b, 0, none⟩)] (named n) w := by
  intro W hW x A2 k2 A3 k3
  have hB : W.heap[b]? = some (.cells #[.string n] 9 (0, 0)) := (hW.block b (blk_lt hb)).trans hb
  have hc : (W.alloc (.cells #[.string x.f0, .string x.f1, .string x.f2, .string x.f3, .slice A2 x.f4.length k2, .slice A3 x.f5.length k3] 57)).cell? ⟨b, 0, none⟩ = some (.string n) := blk_cell (blk_alloc hB _) 0
  have hd : (W.alloc (.cells #[.string x.f0, .string x.f1, .string x.f2, .string x.f3, .slice A2 x.f4.length k2, .slice A3 x.f5.length k3] 57)).cell? ⟨W.heap.size, 0, none⟩ = some (.string x.f0) := blk_cell (Go.MapKept.heap_alloc W _).1 0
  unfold named
  clear hW hb hB
  cases hq : (x.f0.toList == n.toList) with
  | true =>
    go_enter Tryd.func82, Tryd.ntmps82
    go_wp2
    go_ret
    exact ⟨rfl, below_alloc (Below.refl _ _) _⟩
  | false =>
    go_enter Tryd.func82, Tryd.ntmps82
    go_wp2
    go_ret
    exact ⟨rfl, below_alloc (Below.refl _ _) _⟩
set_option maxHeartbeats 2000000 in
theorem kind1_calls (n : ByteArray) (b : Nat) (w : World) (hb : w.heap[b]? = some (.cells #[.string n] 9 (0, 0))) : PBType 111 #[.pointer (some ⟨b, 0, none⟩)] (namedT n) w := by
  intro W hW x A1 k1
  have hB : W.heap[b]? = some (.cells #[.string n] 9 (0, 0)) := (hW.block b (blk_lt hb)).trans hb
  have hc : (W.alloc (.cells #[.string x.f0, .slice A1 x.f1.length k1] 53)).cell? ⟨b, 0, none⟩ = some (.string n) := blk_cell (blk_alloc hB _) 0
  have hd : (W.alloc (.cells #[.string x.f0, .slice A1 x.f1.length k1] 53)).cell? ⟨W.heap.size, 0, none⟩ = some (.string x.f0) := blk_cell (Go.MapKept.heap_alloc W _).1 0
  unfold namedT
  clear hW hb hB
  cases hq : (x.f0.toList == n.toList) with
  | true =>
    go_enter Tryd.func111, Tryd.ntmps111
    go_wp2
    go_ret
    exact ⟨rfl, below_alloc (Below.refl _ _) _⟩
  | false =>
    go_enter Tryd.func111, Tryd.ntmps111
    go_wp2
    go_ret
    exact ⟨rfl, below_alloc (Below.refl _ _) _⟩
theorem eg_has1 : ∀ args w, (callFunc 106 args).run Tryd.prog w = .ok (.enter 106 args) w := enters_ Tryd.func106 (by kernel_rfl) rfl
theorem eg_find1 : ∀ args w, (callFunc 82 args).run Tryd.prog w = .ok (.enter 82 args) w := enters_ Tryd.func82 (by kernel_rfl) rfl
theorem eg_kind1 : ∀ args w, (callFunc 111 args).run Tryd.prog w = .ok (.enter 111 args) w := enters_ Tryd.func111 (by kernel_rfl) rfl
set_option maxHeartbeats 2000000 in
theorem has_calls (rs : List SR) (nm n : ByteArray) (A : Option Addr) (c : Nat) (w : World) (hC : Kd.C k57 w A rs.length rs) :
    Calls Tryd.prog 76 #[.agg #[.string nm, .slice A rs.length c], .string n] w fun e w' => e = .returned (.bool (hasR rs n)) ∧ Below w.heap.size w w' := by
  have HC := Aside0.mk hC
  unfold hasR
  have hb1 : Below w.heap.size w (w.alloc (.cells #[.string nm, .slice A rs.length c] 53)) := below_alloc (Below.refl _ _) _
  have hb2 : Below w.heap.size w ((w.alloc (.cells #[.string nm, .slice A rs.length c] 53)).alloc (.cells #[.string n] 9)) := hb1.trans ((below_alloc (Below.refl _ _) _).mono hb1.size)
  have hz : (w.alloc (.cells #[.string nm, .slice A rs.length c] 53)).heap.size = w.heap.size + 1 := by simp
  have hs : ((w.alloc (.cells #[.string nm, .slice A rs.length c] 53)).alloc (.cells #[.string n] 9)).heap[w.heap.size + 1]? = some (.cells #[.string n] 9 (0, 0)) := by
    have := (Go.MapKept.heap_alloc (w.alloc (.cells #[.string nm, .slice A rs.length c] 53)) (.cells #[.string n] 9)).1
    rwa [hz] at this
  have ht : ((w.alloc (.cells #[.string nm, .slice A rs.length c] 53)).alloc (.cells #[.string n] 9)).heap[w.heap.size]? = some (.cells #[.string nm, .slice A rs.length c] 53 (0, 0)) := blk_alloc (Go.MapKept.heap_alloc w _).1 _
  obtain ⟨w2, hw2⟩ : ∃ w2, (w.alloc (.cells #[.string nm, .slice A rs.length c] 53)).alloc (.cells #[.string n] 9) = w2 := ⟨_, rfl⟩
  rw [hw2] at hb2 hs ht
  have HW := Aside0.mk hw2
  have HS := Aside0.mk hs
  have HT := Aside0.mk ht
  have HB := Aside0.mk hb2
  clear hC hb1 hb2 hz hs ht hw2
  go_enter Tryd.func76, Tryd.ntmps76
  go_upto_region 1 with (fail)
  rw [HW.out]
  obtain ⟨q, hq⟩ : ∃ q, w.heap.size = q := ⟨_, rfl⟩
  have HQ := Aside0.mk hq
  rw [hq] at HS HT ⊢
  have t1 := blk_cell HT.out 1
  clear HW hq
  go_wp2_with fail
  refine (ContainsFunc_Rel 106 #[.pointer (some ⟨q + 1, 0, none⟩)] (named n) rs A c w2 (Kd.C_below HC.out HB.out) eg_has1 (has1_calls n (q + 1) w2 HS.out)).mono ?_
  rintro e w' ⟨rfl, hb'⟩
  go_wp2
  go_ret
  exact ⟨rfl, HB.out.trans (hb'.mono HB.out.size)⟩
/-- One block more. -/
theorem al1 (w : World) (cs : Array Value) (t : TypeId) : ∃ w1, w.alloc (.cells cs t) = w1 ∧ w1.heap[w.heap.size]? = some (.cells cs t (0, 0)) ∧ Below w.heap.size w w1 ∧ w1.heap.size = w.heap.size + 1 ∧ ∀ (k : Nat) (o : Obj), w.heap[k]? = some o → w1.heap[k]? = some o :=
  ⟨_, rfl, (Go.MapKept.heap_alloc w _).1, below_alloc (Below.refl _ _) _, by simp, fun k o h => blk_alloc h _⟩
theorem bel2 {w w1 w2 : World} (h : Below w.heap.size w w1) (k : Below w1.heap.size w1 w2) : Below w.heap.size w w2 := h.trans (k.mono h.size)
set_option maxHeartbeats 4000000 in
theorem kind_calls (X : List ST) (n : ByteArray) (A : Option Addr) (c : Nat) (w0 w : World) (hB0 : Below w0.heap.size w0 w) (hC : Kd.C k53 w0 A X.length X) :
    Calls Tryd.prog 80 #[.agg #[.slice A X.length c], .string n] w fun e w' => ∃ A1 c1, e = .returned (.tuple #[.agg #[.string (kindV X n).f0, .slice A1 (kindV X n).f1.length c1], .bool (kindT X n).isSome]) ∧ Kd.C k57 w0 A1 (kindV X n).f1.length (kindV X n).f1 ∧ (kindV X n).f1.length ≤ c1 ∧ Below w.heap.size w w' := by
  have HC := Aside0.mk hC
  have HB0 := Aside0.mk hB0
  obtain ⟨w1, e1, h1, b1, z1, k1⟩ := al1 w #[.slice A X.length c] 43
  obtain ⟨w2, e2, h2, b2, z2, k2⟩ := al1 w1 #[.string n] 9
  obtain ⟨w3, e3, h3, b3, z3, k3⟩ := al1 w2 #[.string ⟨#[]⟩, .slice none 0 0] 53
  rw [z1] at h2
  rw [z2, z1] at h3
  have H1 := Aside0.mk (k3 _ _ (k2 _ _ h1))
  have H2 := Aside0.mk (k3 _ _ h2)
  have H3 := Aside0.mk h3
  have HB := Aside0.mk (bel2 (bel2 b1 b2) b3)
  have HZ : Aside0 (w3.heap.size = w.heap.size + 3) := ⟨by omega⟩
  have HW : Aside0 (((w.alloc (.cells #[.slice A X.length c] 43)).alloc (.cells #[.string n] 9)).alloc (.cells #[.string ⟨#[]⟩, .slice none 0 0] 53) = w3) := ⟨by rw [e1, e2, e3]⟩
  clear hC hB0 h1 h2 h3 b1 b2 b3 z1 z2 z3 k1 k2 k3 e1 e2 e3
  go_enter Tryd.func80, Tryd.ntmps80
  go_upto_region 1 with (fail)
  rw [HW.out]
  obtain ⟨q, hq⟩ : ∃ q, w.heap.size = q := ⟨_, rfl⟩
  have HQ := Aside0.mk hq
  rw [hq] at H1 H2 H3 HZ ⊢
  have t0 := blk_cell H1.out 0
  clear HW hq
  go_wp2_with fail
  refine (IndexFunc_Type 111 #[.pointer (some ⟨q + 1, 0, none⟩)] (namedT n) X A c w3 (Kd.C_below HC.out (bel2 HB0.out HB.out)) eg_kind1 (kind1_calls n (q + 1) w3 H2.out)).mono ?_
  rintro e w4 ⟨rfl, hb⟩
  have H1' := Aside0.mk ((hb.block _ (blk_lt H1.out)).trans H1.out)
  have H3' := Aside0.mk ((hb.block _ (blk_lt H3.out)).trans H3.out)
  have HB4 := Aside0.mk (bel2 HB.out hb)
  clear hb t0 H1 H2 H3 HB
  have f0 := blk_frozen H3'.out 0
  have f1 := blk_frozen H3'.out 1
  have c0 := blk_cell H3'.out 0
  have c1 := blk_cell H3'.out 1
  rcases idxI_spec (namedT n) X with ⟨a, b, c'⟩ | ⟨j, h, a, b, c'⟩
  · have HKV : Aside0 (kindV X n = zT ∧ (kindT X n).isSome = false) := ⟨by unfold kindV kindT; rw [b]; exact ⟨rfl, rfl⟩⟩
    rw [a]
    clear a b c'
    go_wp2
    have hz := blk_set (blk_set H3'.out 0 (.string ⟨#[]⟩)) 1 (.slice none 0 0)
    have hB5 : Below w.heap.size w ((w4.setCell ⟨q + 1 + 1, 0, none⟩ (.string ⟨#[]⟩)).setCell ⟨q + 1 + 1, 1, none⟩ (.slice none 0 0)) := below_set (below_set HB4.out (by have := HQ.out; omega)) (by have := HQ.out; omega)
    obtain ⟨wz, hwz⟩ : ∃ wz, (w4.setCell ⟨q + 1 + 1, 0, none⟩ (.string ⟨#[]⟩)).setCell ⟨q + 1 + 1, 1, none⟩ (.slice none 0 0) = wz := ⟨_, rfl⟩
    rw [hwz] at hz hB5 ⊢
    have z0 := blk_cell hz 0
    have z1 := blk_cell hz 1
    exact bodyPost_ret (v := .tuple #[.agg #[.string ⟨#[]⟩, .slice none 0 0], .bool false]) (by simp [results, Tryd.results80, go_sem, z0, z1]) rfl ⟨none, 0, by rw [HKV.out.1, HKV.out.2]; rfl, by rw [HKV.out.1]; exact Kd.C_nil _ _, by rw [HKV.out.1]; exact Nat.le_refl _, hB5⟩
  · have hk : rd_T53 X (j : Int) = X[j] := by unfold rd_T53; rw [Int.toNat_natCast, List.getD_eq_getElem?_getD, List.getElem?_eq_getElem h]; rfl
    obtain ⟨T, hT⟩ : ∃ T, X[j] = T := ⟨_, rfl⟩
    have HKV : Aside0 (kindV X n = T ∧ (kindT X n).isSome = true) := ⟨by unfold kindV kindT; rw [b, hT]; exact ⟨rfl, rfl⟩⟩
    rw [a]
    have t0 := blk_cell H1'.out 0
    obtain ⟨ad, A1, k1, rfl, r0, r1, r2, hC1⟩ := at_T53 HC.out (j : Int) (by omega) (by omega)
    rw [hk, hT] at r0 r1 r2 hC1
    rw [Int.toNat_natCast] at r0 r1
    replace r0 := pw_cell_below (bel2 HB0.out HB4.out) r0
    replace r1 := pw_cell_below (bel2 HB0.out HB4.out) r1
    have HC1 := Aside0.mk hC1
    have HLE := Aside0.mk r2
    have e1 : ((j : Int) < (X.length : Int)) = True := eq_true (by omega)
    have e2 : (0 ≤ (j : Int)) = True := eq_true (by omega)
    have e3 : decide ((j : Int) < 0) = false := decide_eq_false (by omega)
    have e4 : ((j : Int) < 0) = False := eq_false (by omega)
    clear a b c' hk hT hC1 r2 h
    go_wp2
    have hz := blk_set (blk_set H3'.out 0 (.string T.f0)) 1 (.slice A1 T.f1.length k1)
    have hB5 : Below w.heap.size w ((w4.setCell ⟨q + 1 + 1, 0, none⟩ (.string T.f0)).setCell ⟨q + 1 + 1, 1, none⟩ (.slice A1 T.f1.length k1)) := below_set (below_set HB4.out (by have := HQ.out; omega)) (by have := HQ.out; omega)
    obtain ⟨wz, hwz⟩ : ∃ wz, (w4.setCell ⟨q + 1 + 1, 0, none⟩ (.string T.f0)).setCell ⟨q + 1 + 1, 1, none⟩ (.slice A1 T.f1.length k1) = wz := ⟨_, rfl⟩
    rw [hwz] at hz hB5 ⊢
    have z0 := blk_cell hz 0
    have z1 := blk_cell hz 1
    exact bodyPost_ret (v := .tuple #[.agg #[.string T.f0, .slice A1 T.f1.length k1], .bool true]) (by simp [results, Tryd.results80, go_sem, z0, z1]) rfl ⟨A1, k1, by rw [HKV.out.1, HKV.out.2], by rw [HKV.out.1]; exact HC1.out, by rw [HKV.out.1]; exact HLE.out, hB5⟩
/-- A relation as Find hands it back, where it lies. -/
def RelAt (w : World) (R : SR) (v : Value) : Prop := ∃ A2 k2 A3 k3, v = .agg #[.string R.f0, .string R.f1, .string R.f2, .string R.f3, .slice A2 R.f4.length k2, .slice A3 R.f5.length k3] ∧ Kd.C k62 w A2 R.f4.length R.f4 ∧ Kd.C k59 w A3 R.f5.length R.f5 ∧ R.f4.length ≤ k2 ∧ R.f5.length ≤ k3
set_option maxHeartbeats 8000000 in
theorem Find_calls (X : List ST) (typ rel : ByteArray) (A : Option Addr) (c : Nat) (w0 w : World) (hB0 : Below w0.heap.size w0 w) (hC : Kd.C k53 w0 A X.length X) :
    Calls Tryd.prog 43 #[.agg #[.slice A X.length c], .string typ, .string rel] w fun e w' => ∃ v, e = .returned (.tuple #[v, .bool (findR X typ rel).isSome]) ∧ RelAt w0 (findV X typ rel) v ∧ Below w.heap.size w w' := by
  have HC := Aside0.mk hC
  have HB0 := Aside0.mk hB0
  obtain ⟨w1, e1, h1, b1, z1, k1⟩ := al1 w #[.slice A X.length c] 43
  obtain ⟨w2, e2, h2, b2, z2, k2⟩ := al1 w1 #[.string rel] 9
  obtain ⟨w3, e3, h3, b3, z3, k3⟩ := al1 w2 #[.string ⟨#[]⟩, .string ⟨#[]⟩, .string ⟨#[]⟩, .string ⟨#[]⟩, .slice none 0 0, .slice none 0 0] 57
  rw [z1] at h2
  rw [z2, z1] at h3
  have H1 := Aside0.mk (k3 _ _ (k2 _ _ h1))
  have H2 := Aside0.mk (k3 _ _ h2)
  have H3 := Aside0.mk h3
  have HB := Aside0.mk (bel2 (bel2 b1 b2) b3)
  have HZ : Aside0 (w3.heap.size = w.heap.size + 3) := ⟨by omega⟩
  have HW : Aside0 (((w.alloc (.cells #[.slice A X.length c] 43)).alloc (.cells #[.string rel] 9)).alloc (.cells #[.string ⟨#[]⟩, .string ⟨#[]⟩, .string ⟨#[]⟩, .string ⟨#[]⟩, .slice none 0 0, .slice none 0 0] 57) = w3) := ⟨by rw [e1, e2, e3]⟩
  clear hC hB0 h1 h2 h3 b1 b2 b3 z1 z2 z3 k1 k2 k3 e1 e2 e3
  go_enter Tryd.func43, Tryd.ntmps43
  go_upto_region 1 with (fail)
  rw [HW.out]
  obtain ⟨q, hq⟩ : ∃ q, w.heap.size = q := ⟨_, rfl⟩
  have HQ := Aside0.mk hq
  rw [hq] at H1 H2 H3 HZ ⊢
  have t0 := blk_cell H1.out 0
  clear HW hq
  go_wp2_with fail
  refine (kind_calls X typ A c w0 w3 (bel2 HB0.out HB.out) HC.out).mono ?_
  rintro e w4 ⟨A1, c1, rfl, hC4, hl4, hb⟩
  obtain ⟨T, hT⟩ : ∃ T, kindV X typ = T := ⟨_, rfl⟩
  rw [hT] at hC4 ⊢
  have HT := Aside0.mk hT
  obtain ⟨kb, hkb⟩ : ∃ kb, (kindT X typ).isSome = kb := ⟨_, rfl⟩
  rw [hkb]
  obtain ⟨w5, e5, h5, b5, z5, k5⟩ := al1 w4 #[.string T.f0, .slice A1 T.f1.length c1] 53
  have H2x := Aside0.mk (k5 _ _ ((hb.block _ (blk_lt H2.out)).trans H2.out))
  have H3x := Aside0.mk (k5 _ _ ((hb.block _ (blk_lt H3.out)).trans H3.out))
  have H5 := Aside0.mk h5
  have HB5 := Aside0.mk (bel2 (bel2 HB.out hb) b5)
  have HC4 := Aside0.mk hC4
  have HW := Aside0.mk e5
  clear hb t0 H1 H2 H3 HB hT hkb hC4 hl4 h5 b5 z5 k5 e5
  go_upto_region 2 with (fail)
  rw [HW.out]
  obtain ⟨p, hp⟩ : ∃ p, w4.heap.size = p := ⟨_, rfl⟩
  rw [hp] at H5 ⊢
  have t1 := blk_cell H5.out 1
  clear HW hp
  go_wp2_with fail
  refine (IndexFunc_Rel 82 #[.pointer (some ⟨q + 1, 0, none⟩)] (named rel) T.f1 A1 c1 w5 (Kd.C_below HC4.out (bel2 HB0.out HB5.out)) eg_find1 (find1_calls rel (q + 1) w5 H2x.out)).mono ?_
  rintro e w6 ⟨rfl, hb⟩
  have H3y := Aside0.mk ((hb.block _ (blk_lt H3x.out)).trans H3x.out)
  have H5y := Aside0.mk ((hb.block _ (blk_lt H5.out)).trans H5.out)
  have HB6 := Aside0.mk (bel2 HB5.out hb)
  clear hb t1 H2x H3x H5 HB5
  have f0 := blk_frozen H3y.out 0
  have f1 := blk_frozen H3y.out 1
  have f2 := blk_frozen H3y.out 2
  have f3 := blk_frozen H3y.out 3
  have f4 := blk_frozen H3y.out 4
  have f5 := blk_frozen H3y.out 5
  have c0 := blk_cell H3y.out 0
  have c1' := blk_cell H3y.out 1
  have c2 := blk_cell H3y.out 2
  have c3 := blk_cell H3y.out 3
  have c4 := blk_cell H3y.out 4
  have c5 := blk_cell H3y.out 5
  rcases idxI_spec (named rel) T.f1 with ⟨a, b, c'⟩ | ⟨j, h, a, b, c'⟩
  · have HKV : Aside0 (findV X typ rel = zR ∧ (findR X typ rel).isSome = false) := ⟨by unfold findV findR; rw [HT.out, b]; exact ⟨rfl, rfl⟩⟩
    rw [a]
    clear a b c'
    go_wp2
    have hz := blk_set (blk_set (blk_set (blk_set (blk_set (blk_set H3y.out 0 (.string ⟨#[]⟩)) 1 (.string ⟨#[]⟩)) 2 (.string ⟨#[]⟩)) 3 (.string ⟨#[]⟩)) 4 (.slice none 0 0)) 5 (.slice none 0 0)
    have hB7 : Below w.heap.size w ((((((w6.setCell ⟨q + 1 + 1, 0, none⟩ (.string ⟨#[]⟩)).setCell ⟨q + 1 + 1, 1, none⟩ (.string ⟨#[]⟩)).setCell ⟨q + 1 + 1, 2, none⟩ (.string ⟨#[]⟩)).setCell ⟨q + 1 + 1, 3, none⟩ (.string ⟨#[]⟩)).setCell ⟨q + 1 + 1, 4, none⟩ (.slice none 0 0)).setCell ⟨q + 1 + 1, 5, none⟩ (.slice none 0 0)) := (below_set (below_set (below_set (below_set (below_set (below_set HB6.out (by have := HQ.out; omega)) (by have := HQ.out; omega)) (by have := HQ.out; omega)) (by have := HQ.out; omega)) (by have := HQ.out; omega)) (by have := HQ.out; omega))
    obtain ⟨wz, hwz⟩ : ∃ wz, (((((w6.setCell ⟨q + 1 + 1, 0, none⟩ (.string ⟨#[]⟩)).setCell ⟨q + 1 + 1, 1, none⟩ (.string ⟨#[]⟩)).setCell ⟨q + 1 + 1, 2, none⟩ (.string ⟨#[]⟩)).setCell ⟨q + 1 + 1, 3, none⟩ (.string ⟨#[]⟩)).setCell ⟨q + 1 + 1, 4, none⟩ (.slice none 0 0)).setCell ⟨q + 1 + 1, 5, none⟩ (.slice none 0 0) = wz := ⟨_, rfl⟩
    rw [hwz] at hz hB7 ⊢
    have z0 := blk_cell hz 0
    have z1 := blk_cell hz 1
    have z2 := blk_cell hz 2
    have z3 := blk_cell hz 3
    have z4 := blk_cell hz 4
    have z5 := blk_cell hz 5
    exact bodyPost_ret (v := .tuple #[.agg #[.string ⟨#[]⟩, .string ⟨#[]⟩, .string ⟨#[]⟩, .string ⟨#[]⟩, .slice none 0 0, .slice none 0 0], .bool false]) (by simp [results, Tryd.results43, go_sem, z0, z1, z2, z3, z4, z5]) rfl ⟨_, by rw [HKV.out.2], by rw [HKV.out.1]; exact ⟨none, 0, none, 0, rfl, Kd.C_nil _ _, Kd.C_nil _ _, Nat.le_refl _, Nat.le_refl _⟩, hB7⟩
  · have hk : rd_T57 T.f1 (j : Int) = T.f1[j] := by unfold rd_T57; rw [Int.toNat_natCast, List.getD_eq_getElem?_getD, List.getElem?_eq_getElem h]; rfl
    obtain ⟨R, hR⟩ : ∃ R, T.f1[j] = R := ⟨_, rfl⟩
    have HKV : Aside0 (findV X typ rel = R ∧ (findR X typ rel).isSome = true) := ⟨by unfold findV findR; rw [HT.out, b, hR]; exact ⟨rfl, rfl⟩⟩
    rw [a]
    have t1 := blk_cell H5y.out 1
    obtain ⟨ad, A2, k2, A3, k3, rfl, r0, r1, r2, r3, r4, r5, r6, hC2, r7, hC3⟩ := at_T57 HC4.out (j : Int) (by omega) (by omega)
    rw [hk, hR] at r0 r1 r2 r3 r4 r5 r6 r7 hC2 hC3
    rw [Int.toNat_natCast] at r0 r1 r2 r3 r4 r5
    replace r0 := pw_cell_below (bel2 HB0.out HB6.out) r0
    replace r1 := pw_cell_below (bel2 HB0.out HB6.out) r1
    replace r2 := pw_cell_below (bel2 HB0.out HB6.out) r2
    replace r3 := pw_cell_below (bel2 HB0.out HB6.out) r3
    replace r4 := pw_cell_below (bel2 HB0.out HB6.out) r4
    replace r5 := pw_cell_below (bel2 HB0.out HB6.out) r5
    have HC2 := Aside0.mk hC2
    have HC3 := Aside0.mk hC3
    have HLE := Aside0.mk (And.intro r6 r7)
    have e1 : ((j : Int) < (T.f1.length : Int)) = True := eq_true (by omega)
    have e2 : (0 ≤ (j : Int)) = True := eq_true (by omega)
    have e3 : decide ((j : Int) < 0) = false := decide_eq_false (by omega)
    have e4 : ((j : Int) < 0) = False := eq_false (by omega)
    clear a b c' hk hR hC2 hC3 h r6 r7
    go_wp2
    have hz := blk_set (blk_set (blk_set (blk_set (blk_set (blk_set H3y.out 0 (.string R.f0)) 1 (.string R.f1)) 2 (.string R.f2)) 3 (.string R.f3)) 4 (.slice A2 R.f4.length k2)) 5 (.slice A3 R.f5.length k3)
    have hB7 : Below w.heap.size w ((((((w6.setCell ⟨q + 1 + 1, 0, none⟩ (.string R.f0)).setCell ⟨q + 1 + 1, 1, none⟩ (.string R.f1)).setCell ⟨q + 1 + 1, 2, none⟩ (.string R.f2)).setCell ⟨q + 1 + 1, 3, none⟩ (.string R.f3)).setCell ⟨q + 1 + 1, 4, none⟩ (.slice A2 R.f4.length k2)).setCell ⟨q + 1 + 1, 5, none⟩ (.slice A3 R.f5.length k3)) := (below_set (below_set (below_set (below_set (below_set (below_set HB6.out (by have := HQ.out; omega)) (by have := HQ.out; omega)) (by have := HQ.out; omega)) (by have := HQ.out; omega)) (by have := HQ.out; omega)) (by have := HQ.out; omega))
    obtain ⟨wz, hwz⟩ : ∃ wz, (((((w6.setCell ⟨q + 1 + 1, 0, none⟩ (.string R.f0)).setCell ⟨q + 1 + 1, 1, none⟩ (.string R.f1)).setCell ⟨q + 1 + 1, 2, none⟩ (.string R.f2)).setCell ⟨q + 1 + 1, 3, none⟩ (.string R.f3)).setCell ⟨q + 1 + 1, 4, none⟩ (.slice A2 R.f4.length k2)).setCell ⟨q + 1 + 1, 5, none⟩ (.slice A3 R.f5.length k3) = wz := ⟨_, rfl⟩
    rw [hwz] at hz hB7 ⊢
    have z0 := blk_cell hz 0
    have z1 := blk_cell hz 1
    have z2 := blk_cell hz 2
    have z3 := blk_cell hz 3
    have z4 := blk_cell hz 4
    have z5 := blk_cell hz 5
    exact bodyPost_ret (v := .tuple #[.agg #[.string R.f0, .string R.f1, .string R.f2, .string R.f3, .slice A2 R.f4.length k2, .slice A3 R.f5.length k3], .bool true]) (by simp [results, Tryd.results43, go_sem, z0, z1, z2, z3, z4, z5]) rfl ⟨_, by rw [HKV.out.2], by rw [HKV.out.1]; exact ⟨A2, k2, A3, k3, rfl, HC2.out, HC3.out, HLE.out.1, HLE.out.2⟩, hB7⟩

end Go.Proofs.YtkgnhghaiopgcaaDoor.Cw
