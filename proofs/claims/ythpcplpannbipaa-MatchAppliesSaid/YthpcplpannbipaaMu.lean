/- The document's With and Apply of package match, their row of keys read only; no condition. -/
import Derived.Test.YthpcplpannbipaaMt
import Derived.Test.YthpcplpannbipaaIo
import Derived.WalkMore
import Derived.Deep.DeepMust
set_option linter.unusedVariables false
set_option linter.unusedSimpArgs false
namespace Go.Proofs.Ythpcplpannbipaa.Mu
open Go.RowKit Go.Proofs.YthpcplpannbipaaW.PrintWords Go.Proofs.YthpcplpannbipaaW.PrintLast Go.Proofs.Ythpcplpannbipaa.Kx Go.Proofs.Ythpcplpannbipaa.Y Go.Proofs.Ythpcplpannbipaa.Mp Go.Proofs.Ythpcplpannbipaa.Mq Go.Proofs.Ythpcplpannbipaa.Mr

theorem info9 : (Try.prog.info? 9).map (fun i => (i.zero, i.size, i.bytes)) = some (some (.string ⟨#[]⟩), 1, 16) := by kernel_rfl
def wth (l : List ByteArray) (x : ByteArray) : List ByteArray := if x ∈ l then l else ins blt l x
set_option maxHeartbeats 8000000 in
set_option maxRecDepth 100000 in
theorem with_calls (A : Option Addr) (c : Nat) (l : List ByteArray) (x : ByteArray) (w : World) (hC : Kd.C Kd.string w A l.length l) (hc : l.length ≤ c) (hs : Srt blt l) (hn : l.length ≤ 1000) :
    Calls Try.prog 44 #[.slice A l.length c, .string x] w fun e w' => ∃ A' c', e = .returned (.slice A' (wth l x).length c') ∧ (wth l x).length ≤ c' ∧ Kd.C Kd.string w' A' (wth l x).length (wth l x) ∧ Below w.heap.size w w' := by
  have hcall := doormanref13_Has.calls (l.length + 1) A c l x _ w hC hc (rhas_f l x hn (by omega))
  have HC := Aside0.mk hC
  unfold wth
  by_cases hx : x ∈ l
  · rw [decide_eq_true hx] at hcall
    rw [if_pos hx]
    have HL := Aside0.mk hc
    clear hC hc hs hn hx
    go_enter Try.func44, Try.ntmps44
    go_wp2_with fail
    refine hcall.mono ?_
    rintro e w1 ⟨rfl, hd⟩
    have HB := Aside0.mk (hd.below)
    clear hd hcall
    go_wp2_with fail
    go_ret
    exact ⟨A, c, rfl, HL.out, Kd.C_below HC.out HB.out, HB.out⟩
  rw [decide_eq_false hx] at hcall
  rw [if_neg hx]
  have HS := Aside0.mk hs
  have HP := Aside0.mk (pos_le (lt := blt) l x)
  clear hC hs hx
  go_enter Try.func44, Try.ntmps44
  go_wp2_with fail
  refine hcall.mono ?_
  rintro e w1 ⟨rfl, hd⟩
  have HB1 := Aside0.mk (hd.below)
  clear hd hcall
  go_wp2_with fail
  go_loopg [7] (l.length + 1) (fun gg s7 wr => ∃ (i : Nat), s7 = .int .i64 i ∧ i + gg = l.length + 1 ∧ Aside0 (i ≤ pos blt l x) ∧ Aside0 (Below w.heap.size w wr))
  case atStart => exact ⟨0, rfl, by omega, ⟨Nat.zero_le _⟩, HB1⟩
  case round =>
    clear HB1
    obtain ⟨i, rfl, hi, HI0, HB⟩ := hrel
    rename World => wr
    cases gk with
    | zero => have := HI0.out; have := HP.out; omega
    | succ g1 =>
      by_cases hlt : i < l.length
      · have e1 : decide ((i : Int) < (l.length : Int)) = true := decide_eq_true (by omega)
        have e2 : ((i : Int) < (l.length : Int)) = True := eq_true (by omega)
        have e3 : decide (i < l.length) = true := decide_eq_true hlt
        have e4 : (0 ≤ (i : Int)) = True := eq_true (by omega)
        have e5 : decide ((i : Int) < 0) = false := decide_eq_false (by omega)
        have e6 : ((i : Int) < 0) = False := eq_false (by omega)
        obtain ⟨ad, rfl, c0⟩ := Kd.at_string HC.out (i : Int) (by omega) (by omega)
        rw [rd_get hlt, Int.toNat_natCast] at c0
        replace c0 := pw_cell_below HB.out c0
        obtain ⟨key, hkey⟩ : ∃ key, l[i] = key := ⟨_, rfl⟩
        rw [hkey] at c0
        by_cases hb : Op.bytesLess key.toList x.toList = true
        · have HI2 : Aside0 (i + 1 ≤ pos blt l x) := ⟨(pos_lt blt_TO HS.out i hlt).1 (by rw [hkey]; exact hb)⟩
          have hw : IntKind.i64.wrap ((i : Int) + 1) = ((i + 1 : Nat) : Int) := by rw [IntKind.wrap_i64]; omega
          clear hkey hlt
          go_wp2_with fail
          go_roundg g1
          case measure => omega
          case rel => exact ⟨i + 1, by simp, by omega, HI2, HB⟩
        · have HI : Aside0 (i = pos blt l x) := ⟨by
            have h1 := HI0.out
            by_cases h2 : i < pos blt l x
            · exact absurd (by have := (pos_lt blt_TO HS.out i hlt).2 h2; rw [hkey] at this; exact this) hb
            · omega⟩
          have hb2 : Op.bytesLess key.toList x.toList = false := by simpa using hb
          clear hkey hb
          have hpl : (l.take i).length = i := by rw [List.length_take]; omega
          have hdl : (l.drop i).length = l.length - i := List.length_drop
          obtain ⟨i0, hi0, _, hsz0, _⟩ := info_parts info9
          have hcut1 := cut_to (P := Try.prog) 22 9 .i64 Try.underlying22 hi0 (some ad) l.length c (i : Int) (by omega) (by omega) hc
          have hcut2 := cut_from (P := Try.prog) 22 9 .i64 Try.underlying22 hi0 1 hsz0 (some ad) l.length c (i : Int) (by omega) (by omega)
          rw [Int.toNat_natCast] at hcut1 hcut2
          have HCw := Aside0.mk (Kd.C_below HC.out HB.out)
          have HT := Aside0.mk (Kd.C_take (m := i) HCw.out (by omega))
          have HD := Aside0.mk (Kd.C_drop (m := i) (c := c) HCw.out (by omega) hc)
          obtain ⟨y, hy⟩ : ∃ y, l.take i = y := ⟨_, rfl⟩
          obtain ⟨z, hz⟩ : ∃ z, l.drop i = z := ⟨_, rfl⟩
          rw [hy] at HT hpl
          rw [hz] at HD hdl
          obtain ⟨A2, hA2⟩ : ∃ A2, (if c = i then (some ad) else (some ad).map (·.add (i * Kd.string.sz))) = A2 := ⟨_, rfl⟩
          have hA3 : (if c = i then (some ad) else (some ad).map (·.add (i * 1))) = A2 := hA2
          rw [hA2] at HD
          rw [hA3, ← hdl] at hcut2
          rw [← hpl] at hcut1
          have HR : Aside0 (y ++ [x] ++ z = ins blt l x) := ⟨by rw [← hy, ← hz]; unfold ins; rw [← HI.out]; simp⟩
          have HY := Aside0.mk (And.intro hpl (And.intro hdl hn))
          have e7 : (0 ≤ (i : Int)) = True := eq_true (by omega)
          have e8 : ((i : Int) ≤ (l.length : Int)) = True := eq_true (by omega)
          have e9 : decide ((i : Int) ≤ (l.length : Int)) = true := decide_eq_true (by omega)
          have e10 : decide ((i : Int) < 0) = false := decide_eq_false (by omega)
          clear hy hz hA2 hA3 hi0 hsz0 hdl
          go_wp2_with (first
            | ((with_reducible refine gate_builtin (b := .append) (xs := #[.tmp 27, .tmp 30]) rfl ?_); (try (refine gate_guard (by rfl) ?_; dsimp only)); at_builtin; go_must (refine Kd.R_append_rows Kd.string (w0 := wr) wr.heap.size rfl (.tmp 27) (.tmp 30) 22 9 (.string ⟨#[]⟩) 16 rfl Try.underlying22 info9 rfl (by decide) (by omega) (.slice none 0 0) [] y (some ad) y.length c (fun _ => True) (fun _ => False) rfl ?aX ?aO ?aR (fun _ _ h => h) (fun _ h => h.elim) (fun _ _ => trivial) (Below.refl _ _) (Nat.le_refl _) ?aL ?_); (case aX => first | rfl | (rw [HY.out.1]; rfl)); (case aO => exact Kd.R_nil _ _ _ _ _); (case aR => exact HT.out); (case aL => have := HY.out.1; have := HY.out.2.2; simp only [List.length_nil]; omega); intro v6 w6 ho6 hb6 hg6 hat6; rw [List.nil_append] at ho6; have HO6 := Aside0.mk ho6; have HB6 := Aside0.mk hb6; clear ho6 hb6 hg6 hat6)
            | ((with_reducible refine gate_builtin (b := .append) (xs := #[.tmp 32, .tmp 34]) rfl ?_); (try (refine gate_guard (by rfl) ?_; dsimp only)); at_builtin; go_must (refine Kd.R_append Kd.string (w0 := wr) wr.heap.size rfl (.tmp 32) (.tmp 34) 22 9 (.string ⟨#[]⟩) 16 rfl Try.underlying22 info9 rfl (by decide) (by omega) v6 y x [.string x] (fun _ => True) (fun _ => False) rfl rfl rfl (fun _ hk => hk.elim) (fun _ _ => trivial) HO6.out HB6.out HB6.out.size ?bL ?_); (case bL => have := HY.out.1; have := HY.out.2.2; omega); intro v7 w7 ho7 hb7 hg7 hat7; have HO7 := Aside0.mk ho7; have HB7 := Aside0.mk hb7; clear ho7 hb7 hg7 hat7)
            | ((with_reducible refine gate_builtin (b := .append) (xs := #[.tmp 36, .tmp 39]) rfl ?_); (try (refine gate_guard (by rfl) ?_; dsimp only)); at_builtin; go_must (refine Kd.R_append_rows Kd.string (w0 := wr) wr.heap.size rfl (.tmp 36) (.tmp 39) 22 9 (.string ⟨#[]⟩) 16 rfl Try.underlying22 info9 rfl (by decide) (by omega) v7 (y ++ [x]) z A2 z.length (c - i) (fun _ => True) (fun _ => False) rfl ?cX ?cO ?cR (fun _ _ h => h) (fun _ h => h.elim) (fun _ _ => trivial) HB7.out HB7.out.size ?cL ?_); (case cX => first | rfl | (rw [HY.out.2.1]; rfl)); (case cO => exact HO7.out); (case cR => exact Kd.C_below HD.out HB7.out); (case cL => have := HY.out.1; have := HY.out.2.1; have := HY.out.2.2; simp only [List.length_append, List.length_singleton]; omega); intro v8 w8 ho8 hb8 hg8 hat8; have HO8 := Aside0.mk ho8; have HB8 := Aside0.mk hb8; clear ho8 hb8 hg8 hat8))
          go_ret
          obtain ⟨A8, c8, e8, hl8, hC8⟩ := Kd.R_reads HO8.out
          rw [HR.out] at e8 hl8 hC8
          exact ⟨A8, c8, by rw [← e8]; rfl, hl8, hC8, HB.out.trans (HB8.out.mono HB.out.size)⟩
      · have e1 : decide ((i : Int) < (l.length : Int)) = false := decide_eq_false (by omega)
        have e2 : ((i : Int) < (l.length : Int)) = False := eq_false (by omega)
        have e3 : decide (i < l.length) = false := decide_eq_false hlt
        have HI : Aside0 (i = pos blt l x) := ⟨by have h1 := HI0.out; have h2 := HP.out; omega⟩
        have hpl : (l.take i).length = i := by rw [List.length_take]; omega
        have hdl : (l.drop i).length = l.length - i := List.length_drop
        obtain ⟨i0, hi0, _, hsz0, _⟩ := info_parts info9
        have hcut1 := cut_to (P := Try.prog) 22 9 .i64 Try.underlying22 hi0 A l.length c (i : Int) (by omega) (by omega) hc
        have hcut2 := cut_from (P := Try.prog) 22 9 .i64 Try.underlying22 hi0 1 hsz0 A l.length c (i : Int) (by omega) (by omega)
        rw [Int.toNat_natCast] at hcut1 hcut2
        have HCw := Aside0.mk (Kd.C_below HC.out HB.out)
        have HT := Aside0.mk (Kd.C_take (m := i) HCw.out (by omega))
        have HD := Aside0.mk (Kd.C_drop (m := i) (c := c) HCw.out (by omega) hc)
        obtain ⟨y, hy⟩ : ∃ y, l.take i = y := ⟨_, rfl⟩
        obtain ⟨z, hz⟩ : ∃ z, l.drop i = z := ⟨_, rfl⟩
        rw [hy] at HT hpl
        rw [hz] at HD hdl
        obtain ⟨A2, hA2⟩ : ∃ A2, (if c = i then A else A.map (·.add (i * Kd.string.sz))) = A2 := ⟨_, rfl⟩
        have hA3 : (if c = i then A else A.map (·.add (i * 1))) = A2 := hA2
        rw [hA2] at HD
        rw [hA3, ← hdl] at hcut2
        rw [← hpl] at hcut1
        have HR : Aside0 (y ++ [x] ++ z = ins blt l x) := ⟨by rw [← hy, ← hz]; unfold ins; rw [← HI.out]; simp⟩
        have HY := Aside0.mk (And.intro hpl (And.intro hdl hn))
        have e7 : (0 ≤ (i : Int)) = True := eq_true (by omega)
        have e8 : ((i : Int) ≤ (l.length : Int)) = True := eq_true (by omega)
        have e9 : decide ((i : Int) ≤ (l.length : Int)) = true := decide_eq_true (by omega)
        have e10 : decide ((i : Int) < 0) = false := decide_eq_false (by omega)
        clear hy hz hA2 hA3 hi0 hsz0 hdl
        go_wp2_with (first
          | ((with_reducible refine gate_builtin (b := .append) (xs := #[.tmp 27, .tmp 30]) rfl ?_); (try (refine gate_guard (by rfl) ?_; dsimp only)); at_builtin; go_must (refine Kd.R_append_rows Kd.string (w0 := wr) wr.heap.size rfl (.tmp 27) (.tmp 30) 22 9 (.string ⟨#[]⟩) 16 rfl Try.underlying22 info9 rfl (by decide) (by omega) (.slice none 0 0) [] y A y.length c (fun _ => True) (fun _ => False) rfl ?aX ?aO ?aR (fun _ _ h => h) (fun _ h => h.elim) (fun _ _ => trivial) (Below.refl _ _) (Nat.le_refl _) ?aL ?_); (case aX => first | rfl | (rw [HY.out.1]; rfl)); (case aO => exact Kd.R_nil _ _ _ _ _); (case aR => exact HT.out); (case aL => have := HY.out.1; have := HY.out.2.2; simp only [List.length_nil]; omega); intro v6 w6 ho6 hb6 hg6 hat6; rw [List.nil_append] at ho6; have HO6 := Aside0.mk ho6; have HB6 := Aside0.mk hb6; clear ho6 hb6 hg6 hat6)
          | ((with_reducible refine gate_builtin (b := .append) (xs := #[.tmp 32, .tmp 34]) rfl ?_); (try (refine gate_guard (by rfl) ?_; dsimp only)); at_builtin; go_must (refine Kd.R_append Kd.string (w0 := wr) wr.heap.size rfl (.tmp 32) (.tmp 34) 22 9 (.string ⟨#[]⟩) 16 rfl Try.underlying22 info9 rfl (by decide) (by omega) v6 y x [.string x] (fun _ => True) (fun _ => False) rfl rfl rfl (fun _ hk => hk.elim) (fun _ _ => trivial) HO6.out HB6.out HB6.out.size ?bL ?_); (case bL => have := HY.out.1; have := HY.out.2.2; omega); intro v7 w7 ho7 hb7 hg7 hat7; have HO7 := Aside0.mk ho7; have HB7 := Aside0.mk hb7; clear ho7 hb7 hg7 hat7)
          | ((with_reducible refine gate_builtin (b := .append) (xs := #[.tmp 36, .tmp 39]) rfl ?_); (try (refine gate_guard (by rfl) ?_; dsimp only)); at_builtin; go_must (refine Kd.R_append_rows Kd.string (w0 := wr) wr.heap.size rfl (.tmp 36) (.tmp 39) 22 9 (.string ⟨#[]⟩) 16 rfl Try.underlying22 info9 rfl (by decide) (by omega) v7 (y ++ [x]) z A2 z.length (c - i) (fun _ => True) (fun _ => False) rfl ?cX ?cO ?cR (fun _ _ h => h) (fun _ h => h.elim) (fun _ _ => trivial) HB7.out HB7.out.size ?cL ?_); (case cX => first | rfl | (rw [HY.out.2.1]; rfl)); (case cO => exact HO7.out); (case cR => exact Kd.C_below HD.out HB7.out); (case cL => have := HY.out.1; have := HY.out.2.1; have := HY.out.2.2; simp only [List.length_append, List.length_singleton]; omega); intro v8 w8 ho8 hb8 hg8 hat8; have HO8 := Aside0.mk ho8; have HB8 := Aside0.mk hb8; clear ho8 hb8 hg8 hat8))
        go_ret
        obtain ⟨A8, c8, e8, hl8, hC8⟩ := Kd.R_reads HO8.out
        rw [HR.out] at e8 hl8 hC8
        exact ⟨A8, c8, by rw [← e8]; rfl, hl8, hC8, HB.out.trans (HB8.out.mono HB.out.size)⟩
def pr84 (x : S84) : ByteArray × Bool := (x.f0, x.f1)
set_option maxHeartbeats 16000000 in
set_option maxRecDepth 100000 in
theorem apply_calls (A : Option Addr) (c : Nat) (l : List ByteArray) (A1 : Option Addr) (c1 : Nat) (P : List S84) (A2 : Option Addr) (c2 : Nat) (D : List S84) (r1 : List ByteArray) (r2 r3 : Int) (w : World)
    (hC : Kd.C Kd.string w A l.length l) (hc : l.length ≤ c) (hs : Srt blt l) (hn : l.length ≤ 100) (hP : Kd.C k84 w A1 P.length P) (hp : P.length ≤ 100) (hD : Kd.C k84 w A2 D.length D) (hd : D.length ≤ 100) (hres : applyB l (P.map pr84) (D.map pr84) = (r1, r2, r3)) :
    Calls Try.prog 18 #[.slice A l.length c, .slice A1 P.length c1, .slice A2 D.length c2] w fun e w' => ∃ A' c', e = .returned (.tuple #[.slice A' r1.length c', .int .i64 r2, .int .i64 r3]) ∧ r1.length ≤ c' ∧ Kd.C Kd.string w' A' r1.length r1 ∧ Below w.heap.size w w' := by
  have HR := Aside0.mk hres
  have HS := Aside0.mk hs
  have HN := Aside0.mk (And.intro hn (And.intro hp hd))
  have HC := Aside0.mk hC
  have HL := Aside0.mk hc
  have HC1 := Aside0.mk hP
  have HC2 := Aside0.mk hD
  clear hC hc hs hn hP hp hD hd hres
  go_enter Try.func18, Try.ntmps18
  go_wp2_with fail
  go_loopg [9] (P.length + 1) (fun gg s9 wr => ∃ (i : Nat), s9 = .int .i64 i ∧ i + gg = P.length + 1 ∧ i ≤ P.length ∧ Aside0 (preF l ((P.drop i).map pr84) i = preF l (P.map pr84) 0) ∧ Aside0 (Below w.heap.size w wr))
  case atStart => exact ⟨0, rfl, by omega, Nat.zero_le _, ⟨rfl⟩, ⟨Below.refl _ _⟩⟩
  case round =>
    obtain ⟨i, rfl, hi, hil, HP, HB⟩ := hrel
    rename World => wr
    cases gk with
    | zero => omega
    | succ g1 =>
      by_cases hlt : i < P.length
      · have e1 : decide ((i : Int) < (P.length : Int)) = true := decide_eq_true (by omega)
        have e2 : ((i : Int) < (P.length : Int)) = True := eq_true (by omega)
        have e3 : decide (i < P.length) = true := decide_eq_true hlt
        have e4 : (0 ≤ (i : Int)) = True := eq_true (by omega)
        have e5 : decide ((i : Int) < 0) = false := decide_eq_false (by omega)
        have e6 : ((i : Int) < 0) = False := eq_false (by omega)
        obtain ⟨X, hX⟩ : ∃ X, rd_T84 P (i : Int) = X := ⟨_, rfl⟩
        have hxi : P[i] = X := by rw [← hX]; unfold rd_T84; rw [Int.toNat_natCast, List.getD_eq_getElem?_getD, List.getElem?_eq_getElem hlt]; rfl
        obtain ⟨ad, rfl, c0', c1'⟩ := at_T84 HC1.out (i : Int) (by omega) (by omega)
        rw [hX, Int.toNat_natCast] at c0' c1'
        replace c0' := pw_cell_below HB.out c0'
        replace c1' := pw_cell_below HB.out c1'
        have HQ : Aside0 ((if decide (X.f0 ∈ l) = X.f1 then preF l ((P.drop (i + 1)).map pr84) (i + 1) else some i) = preF l (P.map pr84) 0) := ⟨by
          have := HP.out
          rw [List.drop_eq_getElem_cons hlt, hxi, List.map_cons] at this
          exact this⟩
        have hw : IntKind.i64.wrap ((i : Int) + 1) = ((i + 1 : Nat) : Int) := by have := HN.out; rw [IntKind.wrap_i64]; omega
        have HJ := Aside0.mk (And.intro hi (And.intro hil hlt))
        clear hX hxi hi hil hlt HP
        obtain ⟨b, hb⟩ : ∃ b, decide (X.f0 ∈ l) = b := ⟨_, rfl⟩
        obtain ⟨f1, hf1⟩ : ∃ f1, X.f1 = f1 := ⟨_, rfl⟩
        rw [hf1] at c1' HQ
        rw [hb] at HQ
        go_upto_region 4 with (fail)
        have HD0 : Aside0 (wr.drew.cell? (ad.add (i * 2)) = some (.string X.f0)) := ⟨c0'⟩
        have HD1 : Aside0 (wr.drew.cell? ⟨(ad.add (i * 2)).block, (ad.add (i * 2)).off + 1, none⟩ = some (.bool f1)) := ⟨c1'⟩
        have HBd : Aside0 (Below w.heap.size w wr.drew) := ⟨HB.out.drew⟩
        have hcall := doormanref13_Has.calls (l.length + 1) A c l X.f0 _ wr.drew (Kd.C_below HC.out HBd.out) HL.out (rhas_f l X.f0 (by have := HN.out; omega) (by omega))
        rw [hb] at hcall
        clear HB c0' c1' hb hf1
        cases b with
        | true =>
          cases f1 with
          | true =>
            refine start_ (n := 13) (S := fun w' => w'.cell? (ad.add (i * 2)) = some (.string X.f0) ∧ w'.cell? ⟨(ad.add (i * 2)).block, (ad.add (i * 2)).off + 1, none⟩ = some (.bool true)) (ds := []) #[false, false, false, false, false, false, false, false, false, false, false, false, false] (by kernel_rfl) rfl rfl ⟨HD0.out, HD1.out⟩ (fun hHeld => ?_)
            generalize wr.drew = w7 at HBd HD0 HD1 hcall hHeld ⊢
            refine pure_ (i := 0) (N := some 19) (v := ?_) (a' := ?_) #[true, false, false, false, false, false, false, false, false, false, false, false, false] rfl rfl (by kernel_rfl) (fun _ _ _ h => h) (Or.inl ⟨by rfl, ?_⟩) ?_ ?_
            rotate_left
            · intro w'
              go_simp
              with_reducible rfl
            rotate_left
            · simp only [Act.put, List.setIfInBounds_toArray, List.set_cons_zero, List.set_cons_succ, i64_w, i32_w]
              rfl
            refine pure_ (i := 1) (N := some 20) (v := ?_) (a' := ?_) #[true, true, false, false, false, false, false, false, false, false, false, false, false] rfl rfl (by kernel_rfl) (fun _ _ _ h => h) (Or.inl ⟨by rfl, ?_⟩) ?_ ?_
            rotate_left
            · intro w'
              go_simp
              with_reducible rfl
            rotate_left
            · simp only [Act.put, List.setIfInBounds_toArray, List.set_cons_zero, List.set_cons_succ, i64_w, i32_w]
              rfl
            refine pure_ (i := 2) (N := some 21) (v := ?_) (a' := ?_) #[true, true, true, false, false, false, false, false, false, false, false, false, false] rfl rfl (by kernel_rfl) (fun _ _ _ h => h) (Or.inl ⟨by rfl, ?_⟩) ?_ ?_
            rotate_left
            · intro w'
              go_simp
              with_reducible rfl
            rotate_left
            · simp only [Act.put, List.setIfInBounds_toArray, List.set_cons_zero, List.set_cons_succ, i64_w, i32_w]
              rfl
            refine pure_ (i := 3) (N := some 22) (v := ?_) (a' := ?_) #[true, true, true, true, false, false, false, false, false, false, false, false, false] rfl rfl (by kernel_rfl) (fun _ _ _ h => h) (Or.inl ⟨by rfl, ?_⟩) ?_ ?_
            rotate_left
            · intro w'
              go_simp
              with_reducible rfl
            rotate_left
            · simp only [Act.put, List.setIfInBounds_toArray, List.set_cons_zero, List.set_cons_succ, i64_w, i32_w]
              rfl
            refine pure_ (i := 4) (N := some 23) (v := ?_) (a' := ?_) #[true, true, true, true, true, false, false, false, false, false, false, false, false] rfl rfl (by kernel_rfl) (fun _ _ _ h => h) (Or.inl ⟨by rfl, ?_⟩) ?_ ?_
            rotate_left
            · intro w'
              go_simp
              with_reducible rfl
            rotate_left
            · simp only [Act.put, List.setIfInBounds_toArray, List.set_cons_zero, List.set_cons_succ, i64_w, i32_w]
              rfl
            refine pure_ (i := 7) (N := some 26) (v := ?_) (a' := ?_) #[true, true, true, true, true, false, false, true, false, false, false, false, false] rfl rfl (by kernel_rfl) (fun _ _ _ h => h) (Or.inl ⟨by rfl, ?_⟩) ?_ ?_
            rotate_left
            · intro w'
              go_simp
              with_reducible rfl
            rotate_left
            · simp only [Act.put, List.setIfInBounds_toArray, List.set_cons_zero, List.set_cons_succ, i64_w, i32_w]
              rfl
            refine pure_ (i := 8) (N := some 27) (v := ?_) (a' := ?_) #[true, true, true, true, true, false, false, true, true, false, false, false, false] rfl rfl (by kernel_rfl) (fun _ _ _ h => h) (Or.inl ⟨by rfl, ?_⟩) ?_ ?_
            rotate_left
            · intro w'
              go_simp
              with_reducible rfl
            rotate_left
            · simp only [Act.put, List.setIfInBounds_toArray, List.set_cons_zero, List.set_cons_succ, i64_w, i32_w]
              rfl
            refine pure_ (i := 9) (N := some 28) (v := ?_) (a' := ?_) #[true, true, true, true, true, false, false, true, true, true, false, false, false] rfl rfl (by kernel_rfl) (fun _ _ _ h => h) (Or.inl ⟨by rfl, ?_⟩) ?_ ?_
            rotate_left
            · intro w'
              go_simp
              with_reducible rfl
            rotate_left
            · simp only [Act.put, List.setIfInBounds_toArray, List.set_cons_zero, List.set_cons_succ, i64_w, i32_w]
              rfl
            refine pure_ (i := 10) (N := some 29) (v := ?_) (a' := ?_) #[true, true, true, true, true, false, false, true, true, true, true, false, false] rfl rfl (by kernel_rfl) (fun _ _ _ h => h) (Or.inl ⟨by rfl, ?_⟩) ?_ ?_
            rotate_left
            · intro w'
              go_simp
              with_reducible rfl
            rotate_left
            · simp only [Act.put, List.setIfInBounds_toArray, List.set_cons_zero, List.set_cons_succ, i64_w, i32_w]
              rfl
            refine take_ (i := 5) (N := some 24) (v := ?_) (a' := ?_) #[true, true, true, true, true, true, false, true, true, true, true, false, false] rfl rfl (by kernel_rfl) (fun _ _ _ h => h) (Or.inl ⟨by rfl, ?_⟩) hHeld ?_ ?_
            rotate_left
            · rintro w' ⟨s0, s1⟩
              go_simp
              with_reducible rfl
            rotate_left
            · simp only [Act.put, List.setIfInBounds_toArray, List.set_cons_zero, List.set_cons_succ, i64_w, i32_w]
              rfl
            refine take_ (i := 11) (N := some 30) (v := ?_) (a' := ?_) #[true, true, true, true, true, true, false, true, true, true, true, true, false] rfl rfl (by kernel_rfl) (fun _ _ _ h => h) (Or.inl ⟨by rfl, ?_⟩) hHeld ?_ ?_
            rotate_left
            · rintro w' ⟨s0, s1⟩
              go_simp
              with_reducible rfl
            rotate_left
            · simp only [Act.put, List.setIfInBounds_toArray, List.set_cons_zero, List.set_cons_succ, i64_w, i32_w]
              rfl
            refine one_ (i := 6) (N := some 25) #[true, true, true, true, true, true, true, true, true, true, true, true, false] rfl rfl (by kernel_rfl) (by decide) (fun K hK => ?_)
            refine goes_ Try.func21 (by kernel_rfl) rfl #[.slice A l.length c, .string X.f0] (by rfl) rfl rfl (by simp only [List.map_toArray, List.map_cons, List.map_nil]; rfl) ?_
            refine hcall.mono ?_
            rintro e w8 ⟨rfl, hd7⟩
            have hb7 : Below w7.heap.size w7 w8 := hd7.below
            refine ⟨_, rfl, ?_⟩
            refine hK.out _ _ ⟨pw_cell_below hb7 hHeld.1, pw_cell_below hb7 hHeld.2⟩ (fun hHeld => ?_)
            clear hK K
            refine norm_ (a' := ?_) ?_ ?_
            rotate_left
            · show Act.put _ (some 25) _ = _
              simp only [Act.put, List.setIfInBounds_toArray, List.set_cons_zero, List.set_cons_succ, i64_w, i32_w]
              rfl
            refine pure_ (i := 12) (N := some 31) (v := ?_) (a' := ?_) #[true, true, true, true, true, true, true, true, true, true, true, true, true] rfl rfl (by kernel_rfl) (fun _ _ _ h => h) (Or.inl ⟨by rfl, ?_⟩) ?_ ?_
            rotate_left
            · intro w'
              go_simp
              with_reducible rfl
            rotate_left
            · simp only [Act.put, List.setIfInBounds_toArray, List.set_cons_zero, List.set_cons_succ, i64_w, i32_w]
              rfl
            refine done_ (by kernel_rfl) ?_
            have HB8 := Aside0.mk (HBd.out.trans (hb7.mono HBd.out.size))
            clear hcall hd7 hb7 HBd HD0 HD1
            go_wp2_with fail
            go_roundg g1
            case measure => omega
            case rel => exact ⟨i + 1, by simp, by have := HJ.out; omega, HJ.out.2.2, ⟨by have := HQ.out; simpa using this⟩, HB8⟩
          | false =>
            refine start_ (n := 13) (S := fun w' => w'.cell? (ad.add (i * 2)) = some (.string X.f0) ∧ w'.cell? ⟨(ad.add (i * 2)).block, (ad.add (i * 2)).off + 1, none⟩ = some (.bool false)) (ds := []) #[false, false, false, false, false, false, false, false, false, false, false, false, false] (by kernel_rfl) rfl rfl ⟨HD0.out, HD1.out⟩ (fun hHeld => ?_)
            generalize wr.drew = w7 at HBd HD0 HD1 hcall hHeld ⊢
            refine pure_ (i := 0) (N := some 19) (v := ?_) (a' := ?_) #[true, false, false, false, false, false, false, false, false, false, false, false, false] rfl rfl (by kernel_rfl) (fun _ _ _ h => h) (Or.inl ⟨by rfl, ?_⟩) ?_ ?_
            rotate_left
            · intro w'
              go_simp
              with_reducible rfl
            rotate_left
            · simp only [Act.put, List.setIfInBounds_toArray, List.set_cons_zero, List.set_cons_succ, i64_w, i32_w]
              rfl
            refine pure_ (i := 1) (N := some 20) (v := ?_) (a' := ?_) #[true, true, false, false, false, false, false, false, false, false, false, false, false] rfl rfl (by kernel_rfl) (fun _ _ _ h => h) (Or.inl ⟨by rfl, ?_⟩) ?_ ?_
            rotate_left
            · intro w'
              go_simp
              with_reducible rfl
            rotate_left
            · simp only [Act.put, List.setIfInBounds_toArray, List.set_cons_zero, List.set_cons_succ, i64_w, i32_w]
              rfl
            refine pure_ (i := 2) (N := some 21) (v := ?_) (a' := ?_) #[true, true, true, false, false, false, false, false, false, false, false, false, false] rfl rfl (by kernel_rfl) (fun _ _ _ h => h) (Or.inl ⟨by rfl, ?_⟩) ?_ ?_
            rotate_left
            · intro w'
              go_simp
              with_reducible rfl
            rotate_left
            · simp only [Act.put, List.setIfInBounds_toArray, List.set_cons_zero, List.set_cons_succ, i64_w, i32_w]
              rfl
            refine pure_ (i := 3) (N := some 22) (v := ?_) (a' := ?_) #[true, true, true, true, false, false, false, false, false, false, false, false, false] rfl rfl (by kernel_rfl) (fun _ _ _ h => h) (Or.inl ⟨by rfl, ?_⟩) ?_ ?_
            rotate_left
            · intro w'
              go_simp
              with_reducible rfl
            rotate_left
            · simp only [Act.put, List.setIfInBounds_toArray, List.set_cons_zero, List.set_cons_succ, i64_w, i32_w]
              rfl
            refine pure_ (i := 4) (N := some 23) (v := ?_) (a' := ?_) #[true, true, true, true, true, false, false, false, false, false, false, false, false] rfl rfl (by kernel_rfl) (fun _ _ _ h => h) (Or.inl ⟨by rfl, ?_⟩) ?_ ?_
            rotate_left
            · intro w'
              go_simp
              with_reducible rfl
            rotate_left
            · simp only [Act.put, List.setIfInBounds_toArray, List.set_cons_zero, List.set_cons_succ, i64_w, i32_w]
              rfl
            refine pure_ (i := 7) (N := some 26) (v := ?_) (a' := ?_) #[true, true, true, true, true, false, false, true, false, false, false, false, false] rfl rfl (by kernel_rfl) (fun _ _ _ h => h) (Or.inl ⟨by rfl, ?_⟩) ?_ ?_
            rotate_left
            · intro w'
              go_simp
              with_reducible rfl
            rotate_left
            · simp only [Act.put, List.setIfInBounds_toArray, List.set_cons_zero, List.set_cons_succ, i64_w, i32_w]
              rfl
            refine pure_ (i := 8) (N := some 27) (v := ?_) (a' := ?_) #[true, true, true, true, true, false, false, true, true, false, false, false, false] rfl rfl (by kernel_rfl) (fun _ _ _ h => h) (Or.inl ⟨by rfl, ?_⟩) ?_ ?_
            rotate_left
            · intro w'
              go_simp
              with_reducible rfl
            rotate_left
            · simp only [Act.put, List.setIfInBounds_toArray, List.set_cons_zero, List.set_cons_succ, i64_w, i32_w]
              rfl
            refine pure_ (i := 9) (N := some 28) (v := ?_) (a' := ?_) #[true, true, true, true, true, false, false, true, true, true, false, false, false] rfl rfl (by kernel_rfl) (fun _ _ _ h => h) (Or.inl ⟨by rfl, ?_⟩) ?_ ?_
            rotate_left
            · intro w'
              go_simp
              with_reducible rfl
            rotate_left
            · simp only [Act.put, List.setIfInBounds_toArray, List.set_cons_zero, List.set_cons_succ, i64_w, i32_w]
              rfl
            refine pure_ (i := 10) (N := some 29) (v := ?_) (a' := ?_) #[true, true, true, true, true, false, false, true, true, true, true, false, false] rfl rfl (by kernel_rfl) (fun _ _ _ h => h) (Or.inl ⟨by rfl, ?_⟩) ?_ ?_
            rotate_left
            · intro w'
              go_simp
              with_reducible rfl
            rotate_left
            · simp only [Act.put, List.setIfInBounds_toArray, List.set_cons_zero, List.set_cons_succ, i64_w, i32_w]
              rfl
            refine take_ (i := 5) (N := some 24) (v := ?_) (a' := ?_) #[true, true, true, true, true, true, false, true, true, true, true, false, false] rfl rfl (by kernel_rfl) (fun _ _ _ h => h) (Or.inl ⟨by rfl, ?_⟩) hHeld ?_ ?_
            rotate_left
            · rintro w' ⟨s0, s1⟩
              go_simp
              with_reducible rfl
            rotate_left
            · simp only [Act.put, List.setIfInBounds_toArray, List.set_cons_zero, List.set_cons_succ, i64_w, i32_w]
              rfl
            refine take_ (i := 11) (N := some 30) (v := ?_) (a' := ?_) #[true, true, true, true, true, true, false, true, true, true, true, true, false] rfl rfl (by kernel_rfl) (fun _ _ _ h => h) (Or.inl ⟨by rfl, ?_⟩) hHeld ?_ ?_
            rotate_left
            · rintro w' ⟨s0, s1⟩
              go_simp
              with_reducible rfl
            rotate_left
            · simp only [Act.put, List.setIfInBounds_toArray, List.set_cons_zero, List.set_cons_succ, i64_w, i32_w]
              rfl
            refine one_ (i := 6) (N := some 25) #[true, true, true, true, true, true, true, true, true, true, true, true, false] rfl rfl (by kernel_rfl) (by decide) (fun K hK => ?_)
            refine goes_ Try.func21 (by kernel_rfl) rfl #[.slice A l.length c, .string X.f0] (by rfl) rfl rfl (by simp only [List.map_toArray, List.map_cons, List.map_nil]; rfl) ?_
            refine hcall.mono ?_
            rintro e w8 ⟨rfl, hd7⟩
            have hb7 : Below w7.heap.size w7 w8 := hd7.below
            refine ⟨_, rfl, ?_⟩
            refine hK.out _ _ ⟨pw_cell_below hb7 hHeld.1, pw_cell_below hb7 hHeld.2⟩ (fun hHeld => ?_)
            clear hK K
            refine norm_ (a' := ?_) ?_ ?_
            rotate_left
            · show Act.put _ (some 25) _ = _
              simp only [Act.put, List.setIfInBounds_toArray, List.set_cons_zero, List.set_cons_succ, i64_w, i32_w]
              rfl
            refine pure_ (i := 12) (N := some 31) (v := ?_) (a' := ?_) #[true, true, true, true, true, true, true, true, true, true, true, true, true] rfl rfl (by kernel_rfl) (fun _ _ _ h => h) (Or.inl ⟨by rfl, ?_⟩) ?_ ?_
            rotate_left
            · intro w'
              go_simp
              with_reducible rfl
            rotate_left
            · simp only [Act.put, List.setIfInBounds_toArray, List.set_cons_zero, List.set_cons_succ, i64_w, i32_w]
              rfl
            refine done_ (by kernel_rfl) ?_
            have HB8 := Aside0.mk (HBd.out.trans (hb7.mono HBd.out.size))
            clear hcall hd7 hb7 HBd HD0 HD1
            go_wp2_with fail
            (try rw [Exit.noGoto_ret])
            go_ret3
            have hq := HQ.out
            rw [if_neg (by decide)] at hq
            have hr := HR.out
            unfold applyB at hr
            rw [← hq] at hr
            simp only [Prod.mk.injEq] at hr
            obtain ⟨rfl, rfl, rfl⟩ := hr
            exact ⟨none, 0, rfl, Nat.le_refl _, Kd.C_nil _ _, HB8.out⟩
        | false =>
          cases f1 with
          | true =>
            refine start_ (n := 13) (S := fun w' => w'.cell? (ad.add (i * 2)) = some (.string X.f0) ∧ w'.cell? ⟨(ad.add (i * 2)).block, (ad.add (i * 2)).off + 1, none⟩ = some (.bool true)) (ds := []) #[false, false, false, false, false, false, false, false, false, false, false, false, false] (by kernel_rfl) rfl rfl ⟨HD0.out, HD1.out⟩ (fun hHeld => ?_)
            generalize wr.drew = w7 at HBd HD0 HD1 hcall hHeld ⊢
            refine pure_ (i := 0) (N := some 19) (v := ?_) (a' := ?_) #[true, false, false, false, false, false, false, false, false, false, false, false, false] rfl rfl (by kernel_rfl) (fun _ _ _ h => h) (Or.inl ⟨by rfl, ?_⟩) ?_ ?_
            rotate_left
            · intro w'
              go_simp
              with_reducible rfl
            rotate_left
            · simp only [Act.put, List.setIfInBounds_toArray, List.set_cons_zero, List.set_cons_succ, i64_w, i32_w]
              rfl
            refine pure_ (i := 1) (N := some 20) (v := ?_) (a' := ?_) #[true, true, false, false, false, false, false, false, false, false, false, false, false] rfl rfl (by kernel_rfl) (fun _ _ _ h => h) (Or.inl ⟨by rfl, ?_⟩) ?_ ?_
            rotate_left
            · intro w'
              go_simp
              with_reducible rfl
            rotate_left
            · simp only [Act.put, List.setIfInBounds_toArray, List.set_cons_zero, List.set_cons_succ, i64_w, i32_w]
              rfl
            refine pure_ (i := 2) (N := some 21) (v := ?_) (a' := ?_) #[true, true, true, false, false, false, false, false, false, false, false, false, false] rfl rfl (by kernel_rfl) (fun _ _ _ h => h) (Or.inl ⟨by rfl, ?_⟩) ?_ ?_
            rotate_left
            · intro w'
              go_simp
              with_reducible rfl
            rotate_left
            · simp only [Act.put, List.setIfInBounds_toArray, List.set_cons_zero, List.set_cons_succ, i64_w, i32_w]
              rfl
            refine pure_ (i := 3) (N := some 22) (v := ?_) (a' := ?_) #[true, true, true, true, false, false, false, false, false, false, false, false, false] rfl rfl (by kernel_rfl) (fun _ _ _ h => h) (Or.inl ⟨by rfl, ?_⟩) ?_ ?_
            rotate_left
            · intro w'
              go_simp
              with_reducible rfl
            rotate_left
            · simp only [Act.put, List.setIfInBounds_toArray, List.set_cons_zero, List.set_cons_succ, i64_w, i32_w]
              rfl
            refine pure_ (i := 4) (N := some 23) (v := ?_) (a' := ?_) #[true, true, true, true, true, false, false, false, false, false, false, false, false] rfl rfl (by kernel_rfl) (fun _ _ _ h => h) (Or.inl ⟨by rfl, ?_⟩) ?_ ?_
            rotate_left
            · intro w'
              go_simp
              with_reducible rfl
            rotate_left
            · simp only [Act.put, List.setIfInBounds_toArray, List.set_cons_zero, List.set_cons_succ, i64_w, i32_w]
              rfl
            refine pure_ (i := 7) (N := some 26) (v := ?_) (a' := ?_) #[true, true, true, true, true, false, false, true, false, false, false, false, false] rfl rfl (by kernel_rfl) (fun _ _ _ h => h) (Or.inl ⟨by rfl, ?_⟩) ?_ ?_
            rotate_left
            · intro w'
              go_simp
              with_reducible rfl
            rotate_left
            · simp only [Act.put, List.setIfInBounds_toArray, List.set_cons_zero, List.set_cons_succ, i64_w, i32_w]
              rfl
            refine pure_ (i := 8) (N := some 27) (v := ?_) (a' := ?_) #[true, true, true, true, true, false, false, true, true, false, false, false, false] rfl rfl (by kernel_rfl) (fun _ _ _ h => h) (Or.inl ⟨by rfl, ?_⟩) ?_ ?_
            rotate_left
            · intro w'
              go_simp
              with_reducible rfl
            rotate_left
            · simp only [Act.put, List.setIfInBounds_toArray, List.set_cons_zero, List.set_cons_succ, i64_w, i32_w]
              rfl
            refine pure_ (i := 9) (N := some 28) (v := ?_) (a' := ?_) #[true, true, true, true, true, false, false, true, true, true, false, false, false] rfl rfl (by kernel_rfl) (fun _ _ _ h => h) (Or.inl ⟨by rfl, ?_⟩) ?_ ?_
            rotate_left
            · intro w'
              go_simp
              with_reducible rfl
            rotate_left
            · simp only [Act.put, List.setIfInBounds_toArray, List.set_cons_zero, List.set_cons_succ, i64_w, i32_w]
              rfl
            refine pure_ (i := 10) (N := some 29) (v := ?_) (a' := ?_) #[true, true, true, true, true, false, false, true, true, true, true, false, false] rfl rfl (by kernel_rfl) (fun _ _ _ h => h) (Or.inl ⟨by rfl, ?_⟩) ?_ ?_
            rotate_left
            · intro w'
              go_simp
              with_reducible rfl
            rotate_left
            · simp only [Act.put, List.setIfInBounds_toArray, List.set_cons_zero, List.set_cons_succ, i64_w, i32_w]
              rfl
            refine take_ (i := 5) (N := some 24) (v := ?_) (a' := ?_) #[true, true, true, true, true, true, false, true, true, true, true, false, false] rfl rfl (by kernel_rfl) (fun _ _ _ h => h) (Or.inl ⟨by rfl, ?_⟩) hHeld ?_ ?_
            rotate_left
            · rintro w' ⟨s0, s1⟩
              go_simp
              with_reducible rfl
            rotate_left
            · simp only [Act.put, List.setIfInBounds_toArray, List.set_cons_zero, List.set_cons_succ, i64_w, i32_w]
              rfl
            refine take_ (i := 11) (N := some 30) (v := ?_) (a' := ?_) #[true, true, true, true, true, true, false, true, true, true, true, true, false] rfl rfl (by kernel_rfl) (fun _ _ _ h => h) (Or.inl ⟨by rfl, ?_⟩) hHeld ?_ ?_
            rotate_left
            · rintro w' ⟨s0, s1⟩
              go_simp
              with_reducible rfl
            rotate_left
            · simp only [Act.put, List.setIfInBounds_toArray, List.set_cons_zero, List.set_cons_succ, i64_w, i32_w]
              rfl
            refine one_ (i := 6) (N := some 25) #[true, true, true, true, true, true, true, true, true, true, true, true, false] rfl rfl (by kernel_rfl) (by decide) (fun K hK => ?_)
            refine goes_ Try.func21 (by kernel_rfl) rfl #[.slice A l.length c, .string X.f0] (by rfl) rfl rfl (by simp only [List.map_toArray, List.map_cons, List.map_nil]; rfl) ?_
            refine hcall.mono ?_
            rintro e w8 ⟨rfl, hd7⟩
            have hb7 : Below w7.heap.size w7 w8 := hd7.below
            refine ⟨_, rfl, ?_⟩
            refine hK.out _ _ ⟨pw_cell_below hb7 hHeld.1, pw_cell_below hb7 hHeld.2⟩ (fun hHeld => ?_)
            clear hK K
            refine norm_ (a' := ?_) ?_ ?_
            rotate_left
            · show Act.put _ (some 25) _ = _
              simp only [Act.put, List.setIfInBounds_toArray, List.set_cons_zero, List.set_cons_succ, i64_w, i32_w]
              rfl
            refine pure_ (i := 12) (N := some 31) (v := ?_) (a' := ?_) #[true, true, true, true, true, true, true, true, true, true, true, true, true] rfl rfl (by kernel_rfl) (fun _ _ _ h => h) (Or.inl ⟨by rfl, ?_⟩) ?_ ?_
            rotate_left
            · intro w'
              go_simp
              with_reducible rfl
            rotate_left
            · simp only [Act.put, List.setIfInBounds_toArray, List.set_cons_zero, List.set_cons_succ, i64_w, i32_w]
              rfl
            refine done_ (by kernel_rfl) ?_
            have HB8 := Aside0.mk (HBd.out.trans (hb7.mono HBd.out.size))
            clear hcall hd7 hb7 HBd HD0 HD1
            go_wp2_with fail
            (try rw [Exit.noGoto_ret])
            go_ret3
            have hq := HQ.out
            rw [if_neg (by decide)] at hq
            have hr := HR.out
            unfold applyB at hr
            rw [← hq] at hr
            simp only [Prod.mk.injEq] at hr
            obtain ⟨rfl, rfl, rfl⟩ := hr
            exact ⟨none, 0, rfl, Nat.le_refl _, Kd.C_nil _ _, HB8.out⟩
          | false =>
            refine start_ (n := 13) (S := fun w' => w'.cell? (ad.add (i * 2)) = some (.string X.f0) ∧ w'.cell? ⟨(ad.add (i * 2)).block, (ad.add (i * 2)).off + 1, none⟩ = some (.bool false)) (ds := []) #[false, false, false, false, false, false, false, false, false, false, false, false, false] (by kernel_rfl) rfl rfl ⟨HD0.out, HD1.out⟩ (fun hHeld => ?_)
            generalize wr.drew = w7 at HBd HD0 HD1 hcall hHeld ⊢
            refine pure_ (i := 0) (N := some 19) (v := ?_) (a' := ?_) #[true, false, false, false, false, false, false, false, false, false, false, false, false] rfl rfl (by kernel_rfl) (fun _ _ _ h => h) (Or.inl ⟨by rfl, ?_⟩) ?_ ?_
            rotate_left
            · intro w'
              go_simp
              with_reducible rfl
            rotate_left
            · simp only [Act.put, List.setIfInBounds_toArray, List.set_cons_zero, List.set_cons_succ, i64_w, i32_w]
              rfl
            refine pure_ (i := 1) (N := some 20) (v := ?_) (a' := ?_) #[true, true, false, false, false, false, false, false, false, false, false, false, false] rfl rfl (by kernel_rfl) (fun _ _ _ h => h) (Or.inl ⟨by rfl, ?_⟩) ?_ ?_
            rotate_left
            · intro w'
              go_simp
              with_reducible rfl
            rotate_left
            · simp only [Act.put, List.setIfInBounds_toArray, List.set_cons_zero, List.set_cons_succ, i64_w, i32_w]
              rfl
            refine pure_ (i := 2) (N := some 21) (v := ?_) (a' := ?_) #[true, true, true, false, false, false, false, false, false, false, false, false, false] rfl rfl (by kernel_rfl) (fun _ _ _ h => h) (Or.inl ⟨by rfl, ?_⟩) ?_ ?_
            rotate_left
            · intro w'
              go_simp
              with_reducible rfl
            rotate_left
            · simp only [Act.put, List.setIfInBounds_toArray, List.set_cons_zero, List.set_cons_succ, i64_w, i32_w]
              rfl
            refine pure_ (i := 3) (N := some 22) (v := ?_) (a' := ?_) #[true, true, true, true, false, false, false, false, false, false, false, false, false] rfl rfl (by kernel_rfl) (fun _ _ _ h => h) (Or.inl ⟨by rfl, ?_⟩) ?_ ?_
            rotate_left
            · intro w'
              go_simp
              with_reducible rfl
            rotate_left
            · simp only [Act.put, List.setIfInBounds_toArray, List.set_cons_zero, List.set_cons_succ, i64_w, i32_w]
              rfl
            refine pure_ (i := 4) (N := some 23) (v := ?_) (a' := ?_) #[true, true, true, true, true, false, false, false, false, false, false, false, false] rfl rfl (by kernel_rfl) (fun _ _ _ h => h) (Or.inl ⟨by rfl, ?_⟩) ?_ ?_
            rotate_left
            · intro w'
              go_simp
              with_reducible rfl
            rotate_left
            · simp only [Act.put, List.setIfInBounds_toArray, List.set_cons_zero, List.set_cons_succ, i64_w, i32_w]
              rfl
            refine pure_ (i := 7) (N := some 26) (v := ?_) (a' := ?_) #[true, true, true, true, true, false, false, true, false, false, false, false, false] rfl rfl (by kernel_rfl) (fun _ _ _ h => h) (Or.inl ⟨by rfl, ?_⟩) ?_ ?_
            rotate_left
            · intro w'
              go_simp
              with_reducible rfl
            rotate_left
            · simp only [Act.put, List.setIfInBounds_toArray, List.set_cons_zero, List.set_cons_succ, i64_w, i32_w]
              rfl
            refine pure_ (i := 8) (N := some 27) (v := ?_) (a' := ?_) #[true, true, true, true, true, false, false, true, true, false, false, false, false] rfl rfl (by kernel_rfl) (fun _ _ _ h => h) (Or.inl ⟨by rfl, ?_⟩) ?_ ?_
            rotate_left
            · intro w'
              go_simp
              with_reducible rfl
            rotate_left
            · simp only [Act.put, List.setIfInBounds_toArray, List.set_cons_zero, List.set_cons_succ, i64_w, i32_w]
              rfl
            refine pure_ (i := 9) (N := some 28) (v := ?_) (a' := ?_) #[true, true, true, true, true, false, false, true, true, true, false, false, false] rfl rfl (by kernel_rfl) (fun _ _ _ h => h) (Or.inl ⟨by rfl, ?_⟩) ?_ ?_
            rotate_left
            · intro w'
              go_simp
              with_reducible rfl
            rotate_left
            · simp only [Act.put, List.setIfInBounds_toArray, List.set_cons_zero, List.set_cons_succ, i64_w, i32_w]
              rfl
            refine pure_ (i := 10) (N := some 29) (v := ?_) (a' := ?_) #[true, true, true, true, true, false, false, true, true, true, true, false, false] rfl rfl (by kernel_rfl) (fun _ _ _ h => h) (Or.inl ⟨by rfl, ?_⟩) ?_ ?_
            rotate_left
            · intro w'
              go_simp
              with_reducible rfl
            rotate_left
            · simp only [Act.put, List.setIfInBounds_toArray, List.set_cons_zero, List.set_cons_succ, i64_w, i32_w]
              rfl
            refine take_ (i := 5) (N := some 24) (v := ?_) (a' := ?_) #[true, true, true, true, true, true, false, true, true, true, true, false, false] rfl rfl (by kernel_rfl) (fun _ _ _ h => h) (Or.inl ⟨by rfl, ?_⟩) hHeld ?_ ?_
            rotate_left
            · rintro w' ⟨s0, s1⟩
              go_simp
              with_reducible rfl
            rotate_left
            · simp only [Act.put, List.setIfInBounds_toArray, List.set_cons_zero, List.set_cons_succ, i64_w, i32_w]
              rfl
            refine take_ (i := 11) (N := some 30) (v := ?_) (a' := ?_) #[true, true, true, true, true, true, false, true, true, true, true, true, false] rfl rfl (by kernel_rfl) (fun _ _ _ h => h) (Or.inl ⟨by rfl, ?_⟩) hHeld ?_ ?_
            rotate_left
            · rintro w' ⟨s0, s1⟩
              go_simp
              with_reducible rfl
            rotate_left
            · simp only [Act.put, List.setIfInBounds_toArray, List.set_cons_zero, List.set_cons_succ, i64_w, i32_w]
              rfl
            refine one_ (i := 6) (N := some 25) #[true, true, true, true, true, true, true, true, true, true, true, true, false] rfl rfl (by kernel_rfl) (by decide) (fun K hK => ?_)
            refine goes_ Try.func21 (by kernel_rfl) rfl #[.slice A l.length c, .string X.f0] (by rfl) rfl rfl (by simp only [List.map_toArray, List.map_cons, List.map_nil]; rfl) ?_
            refine hcall.mono ?_
            rintro e w8 ⟨rfl, hd7⟩
            have hb7 : Below w7.heap.size w7 w8 := hd7.below
            refine ⟨_, rfl, ?_⟩
            refine hK.out _ _ ⟨pw_cell_below hb7 hHeld.1, pw_cell_below hb7 hHeld.2⟩ (fun hHeld => ?_)
            clear hK K
            refine norm_ (a' := ?_) ?_ ?_
            rotate_left
            · show Act.put _ (some 25) _ = _
              simp only [Act.put, List.setIfInBounds_toArray, List.set_cons_zero, List.set_cons_succ, i64_w, i32_w]
              rfl
            refine pure_ (i := 12) (N := some 31) (v := ?_) (a' := ?_) #[true, true, true, true, true, true, true, true, true, true, true, true, true] rfl rfl (by kernel_rfl) (fun _ _ _ h => h) (Or.inl ⟨by rfl, ?_⟩) ?_ ?_
            rotate_left
            · intro w'
              go_simp
              with_reducible rfl
            rotate_left
            · simp only [Act.put, List.setIfInBounds_toArray, List.set_cons_zero, List.set_cons_succ, i64_w, i32_w]
              rfl
            refine done_ (by kernel_rfl) ?_
            have HB8 := Aside0.mk (HBd.out.trans (hb7.mono HBd.out.size))
            clear hcall hd7 hb7 HBd HD0 HD1
            go_wp2_with fail
            go_roundg g1
            case measure => omega
            case rel => exact ⟨i + 1, by simp, by have := HJ.out; omega, HJ.out.2.2, ⟨by have := HQ.out; simpa using this⟩, HB8⟩
      · have e1 : decide ((i : Int) < (P.length : Int)) = false := decide_eq_false (by omega)
        have e2 : ((i : Int) < (P.length : Int)) = False := eq_false (by omega)
        have e3 : decide (i < P.length) = false := decide_eq_false hlt
        have HP2 : Aside0 (preF l (P.map pr84) 0 = none) := ⟨by
          have := HP.out
          rw [List.drop_of_length_le (by omega)] at this
          exact this.symm⟩
        clear hlt hi hil HP
        go_wp2_with fail
        go_loopg [0, 10] (D.length + 1) (fun gg s0 s10 wy => ∃ (j : Nat) (t : List ByteArray) (At : Option Addr) (ct : Nat), s0 = .slice At t.length ct ∧ s10 = .int .i64 j ∧ j + gg = D.length + 1 ∧ j ≤ D.length ∧ Aside0 (Kd.C Kd.string wy At t.length t) ∧ Aside0 (t.length ≤ ct) ∧ Aside0 (Srt blt t) ∧ Aside0 (t.length ≤ l.length + j) ∧ Aside0 (apC blt t ((D.drop j).map pr84) j = apC blt l (D.map pr84) 0) ∧ Aside0 (Below w.heap.size w wy))
        case atStart => exact ⟨0, l, A, c, rfl, rfl, by omega, Nat.zero_le _, ⟨Kd.C_below HC.out HB.out⟩, HL, HS, ⟨Nat.le_refl _⟩, ⟨rfl⟩, HB⟩
        case round =>
          clear HB
          obtain ⟨j, t, At, ct, rfl, rfl, hj, hjl, HO, HLt, HT, HTl, HA, HB⟩ := hrel
          rename World => wy
          cases gk with
          | zero => omega
          | succ g2 =>
            by_cases hlt : j < D.length
            · have e1 : decide ((j : Int) < (D.length : Int)) = true := decide_eq_true (by omega)
              have e2 : ((j : Int) < (D.length : Int)) = True := eq_true (by omega)
              have e3 : decide (j < D.length) = true := decide_eq_true hlt
              have e4 : (0 ≤ (j : Int)) = True := eq_true (by omega)
              have e5 : decide ((j : Int) < 0) = false := decide_eq_false (by omega)
              have e6 : ((j : Int) < 0) = False := eq_false (by omega)
              obtain ⟨Y, hY⟩ : ∃ Y, rd_T84 D (j : Int) = Y := ⟨_, rfl⟩
              have hyj : D[j] = Y := by rw [← hY]; unfold rd_T84; rw [Int.toNat_natCast, List.getD_eq_getElem?_getD, List.getElem?_eq_getElem hlt]; rfl
              obtain ⟨ae, rfl, d0, d1⟩ := at_T84 HC2.out (j : Int) (by omega) (by omega)
              rw [hY, Int.toNat_natCast] at d0 d1
              replace d0 := pw_cell_below HB.out d0
              replace d1 := pw_cell_below HB.out d1
              obtain ⟨f1, hf1⟩ : ∃ f1, Y.f1 = f1 := ⟨_, rfl⟩
              rw [hf1] at d1
              have HQ : Aside0 ((if decide (Y.f0 ∈ t) = f1 then Except.error (f1, j) else apC blt (if f1 then ins blt t Y.f0 else del t Y.f0) ((D.drop (j + 1)).map pr84) (j + 1)) = apC blt l (D.map pr84) 0) := ⟨by
                have := HA.out
                rw [List.drop_eq_getElem_cons hlt, hyj, List.map_cons, show pr84 Y = (Y.f0, Y.f1) from rfl, apC, hf1] at this
                exact this⟩
              have hw : IntKind.i64.wrap ((j : Int) + 1) = ((j + 1 : Nat) : Int) := by have := HN.out; rw [IntKind.wrap_i64]; omega
              have hw2 : IntKind.i64.wrap ((P.length : Int) + (j : Int)) = ((P.length + j : Nat) : Int) := by have := HN.out; rw [IntKind.wrap_i64]; omega
              have HJ := Aside0.mk (And.intro hj (And.intro hjl hlt))
              clear hY hyj hj hjl hlt HA hf1
              obtain ⟨b, hb⟩ : ∃ b, decide (Y.f0 ∈ t) = b := ⟨_, rfl⟩
              have HM := Aside0.mk hb
              go_upto_region 10 with (fail)
              obtain ⟨wz, ez, hz, bz⟩ : ∃ wz, wy.alloc (.cells #[.string Y.f0, .bool f1] 84) = wz ∧ wz.heap[wy.heap.size]? = some (.cells #[.string Y.f0, .bool f1] 84 (0, 0)) ∧ Below wy.heap.size wy wz := ⟨_, rfl, (Go.MapKept.heap_alloc wy _).1, (Below.refl _ _).alloc (Nat.le_refl _) _⟩
              rw [ez]
              obtain ⟨q, hq⟩ : ∃ q, wy.heap.size = q := ⟨_, rfl⟩
              have HBz : Aside0 (Below w.heap.size w wz) := ⟨HB.out.trans (bz.mono HB.out.size)⟩
              have HOz := Aside0.mk (Kd.C_below HO.out bz)
              have hcall := doormanref13_Has.calls (t.length + 1) At ct t Y.f0 _ wz HOz.out HLt.out (rhas_f t Y.f0 (by have := HTl.out; have := HN.out; have := HJ.out; omega) (by omega))
              rw [hb] at hcall
              rw [hq] at hz ⊢
              have HZ := Aside0.mk hz
              have x0 := blk_cell hz 0
              have x1 := blk_cell hz 1
              clear ez hz bz hq HB HO d0 d1 hb
              go_wp2_with fail
              refine hcall.mono ?_
              rintro e w8 ⟨rfl, hd8⟩
              have HB8 := Aside0.mk (HBz.out.trans (hd8.below.mono HBz.out.size))
              have HO8 := Aside0.mk (Kd.C_below HOz.out hd8.below)
              have HZ8 := Aside0.mk ((hd8.below.block q (blk_lt HZ.out)).trans HZ.out)
              clear hcall hd8 HBz HOz HZ x0 x1
              have x0 := blk_cell HZ8.out 0
              have x1 := blk_cell HZ8.out 1
              cases b with
              | true =>
                cases f1 with
                | true =>
                  have hq := HQ.out
                  rw [if_pos HM.out] at hq
                  have HR2 : Aside0 (r1 = [] ∧ r2 = 32 ∧ r3 = ((P.length + j : Nat) : Int)) := ⟨by
                    have hr := HR.out
                    unfold applyB at hr
                    rw [HP2.out, ← hq] at hr
                    simp only [Prod.mk.injEq, List.length_map] at hr
                    exact ⟨hr.1.symm, by rw [← hr.2.1]; rfl, hr.2.2.symm⟩⟩
                  clear hq HQ
                  go_wp2_with fail
                  (try rw [Exit.noGoto_ret])
                  go_ret3
                  obtain ⟨rfl, rfl, rfl⟩ := HR2.out
                  exact ⟨none, 0, rfl, Nat.le_refl _, Kd.C_nil _ _, HB8.out⟩
                | false =>
                  have hq := HQ.out
                  rw [if_neg (by rw [HM.out]; decide)] at hq
                  have HQ2 := Aside0.mk hq
                  have hmem := HM.out
                  have hcall2 := doormanref13_Without.calls (t.length + 1) At ct t Y.f0 _ w8 HO8.out HLt.out (rwithout_f t Y.f0 (by have := HTl.out; have := HN.out; have := HJ.out; omega) (by omega))
                  clear hq HQ hmem
                  go_wp2_with fail
                  refine hcall2.mono ?_
                  rintro e w9 ⟨v9, rfl, ho9, hb9⟩
                  obtain ⟨A9, c9, rfl, hl9, hC9⟩ := Kd.R_reads ho9
                  have HB9 := Aside0.mk (HB8.out.trans (hb9.mono HB8.out.size))
                  have HC9 := Aside0.mk hC9
                  have HL9 := Aside0.mk hl9
                  clear hcall2 hl9 hC9 hb9 ho9
                  go_wp2_with fail
                  go_roundg g2
                  case measure => omega
                  case rel => exact ⟨j + 1, _, A9, c9, rfl, by simp, by have := HJ.out; omega, HJ.out.2.2, HC9, HL9, ⟨srt_del _ HT.out⟩, ⟨by have := HTl.out; have := List.length_filter_le (fun x => !decide (x = Y.f0)) t; unfold del; omega⟩, ⟨by have := HQ2.out; simpa using this⟩, HB9⟩
              | false =>
                cases f1 with
                | true =>
                  have hq := HQ.out
                  rw [if_neg (by rw [HM.out]; decide)] at hq
                  have HQ2 := Aside0.mk hq
                  have hmem := HM.out
                  have hno : Y.f0 ∉ t := of_decide_eq_false hmem
                  have hcall2 := with_calls At ct t Y.f0 w8 HO8.out HLt.out HT.out (by have := HTl.out; have := HN.out; have := HJ.out; omega)
                  unfold wth at hcall2
                  rw [if_neg hno] at hcall2
                  have HNo := Aside0.mk hno
                  clear hq HQ hmem hno
                  go_wp2_with fail
                  refine hcall2.mono ?_
                  rintro e w9 ⟨A9, c9, rfl, hl9, hC9, hb9⟩
                  have HB9 := Aside0.mk (HB8.out.trans (hb9.mono HB8.out.size))
                  have HC9 := Aside0.mk hC9
                  have HL9 := Aside0.mk hl9
                  clear hcall2 hl9 hC9 hb9
                  go_wp2_with fail
                  go_roundg g2
                  case measure => omega
                  case rel => exact ⟨j + 1, _, A9, c9, rfl, by simp, by have := HJ.out; omega, HJ.out.2.2, HC9, HL9, ⟨srt_ins blt_TO HT.out HNo.out⟩, ⟨by have := HTl.out; rw [ins_len]; omega⟩, ⟨by have := HQ2.out; simpa using this⟩, HB9⟩
                | false =>
                  have hq := HQ.out
                  rw [if_pos HM.out] at hq
                  have HR2 : Aside0 (r1 = [] ∧ r2 = 41 ∧ r3 = ((P.length + j : Nat) : Int)) := ⟨by
                    have hr := HR.out
                    unfold applyB at hr
                    rw [HP2.out, ← hq] at hr
                    simp only [Prod.mk.injEq, List.length_map] at hr
                    exact ⟨hr.1.symm, by rw [← hr.2.1]; rfl, hr.2.2.symm⟩⟩
                  clear hq HQ
                  go_wp2_with fail
                  (try rw [Exit.noGoto_ret])
                  go_ret3
                  obtain ⟨rfl, rfl, rfl⟩ := HR2.out
                  exact ⟨none, 0, rfl, Nat.le_refl _, Kd.C_nil _ _, HB8.out⟩
            · have e1 : decide ((j : Int) < (D.length : Int)) = false := decide_eq_false (by omega)
              have e2 : ((j : Int) < (D.length : Int)) = False := eq_false (by omega)
              have e3 : decide (j < D.length) = false := decide_eq_false hlt
              have HR2 : Aside0 (r1 = t ∧ r2 = 0 ∧ r3 = 0) := ⟨by
                have ha := HA.out
                rw [List.drop_of_length_le (by omega), List.map_nil, apC] at ha
                have hr := HR.out
                unfold applyB at hr
                rw [HP2.out, ← ha] at hr
                simp only [Prod.mk.injEq] at hr
                exact ⟨hr.1.symm, hr.2.1.symm, hr.2.2.symm⟩⟩
              clear hlt hj hjl HA
              go_wp2_with fail
              go_ret3
              obtain ⟨rfl, rfl, rfl⟩ := HR2.out
              exact ⟨At, ct, rfl, HLt.out, HO.out, HB.out⟩
end Go.Proofs.Ythpcplpannbipaa.Mu
