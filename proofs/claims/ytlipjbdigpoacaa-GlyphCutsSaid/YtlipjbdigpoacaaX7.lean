-- Written by a program of this session (wip/tools/drive.py) for this seat, partly by the kit's print.py; some functions by hand.
import Derived.Test.YtlipjbdigpoacaaX0
import Derived.Test.YtlipjbdigpoacaaX4
import Derived.Test.YtlipjbdigpoacaaX5
import Derived.Test.YtlipjbdigpoacaaX6
import Derived.Test.YtlipjbdigpoacaaAid
namespace Go.Proofs.Ytlipjbdigpoacaa.X
open Go.RowKit Go.Proofs.YtlipjbdigpoacaaW.PrintWords Go.Proofs.YtlipjbdigpoacaaW.PrintLast Go.Proofs.YtlipjbdigpoacaaW.PrintMore
attribute [local go_sem] max2_int min2_int max_two min_two max_three min_three max_four min_four   -- for this text's walks alone
set_option linter.unusedVariables false
set_option linter.unusedSimpArgs false

-- @GIVEN@ 18
/-! ### glyph_Name: function 18 -/
-- GIVEN doorman/glyph.Name rounds=0 making=1
--import Derived.Test.YtlipjbdigpoacaaAid
open Go.Proofs.Ytlipjbdigpoacaa.Aid
set_option maxHeartbeats 1000000 in
set_option maxRecDepth 100000 in
theorem stringslite_IndexByte.at (a0 : ByteArray) (c : Int) (w : World)  :
    Calls Try.prog 33 #[.string a0, .int .u8 c] w fun e w' => e = .returned (.int .i64 (Lib.indexByte a0.data.toList c.toNat.toUInt8)) ∧ w' = w := by
  go_enter Try.func33, Try.ntmps33
  go_wp2
  rw [run_callFunc_extern Try.func34 (by kernel_rfl) (by kernel_rfl) (by kernel_rfl) (e := Extern.BytealgIndexByte.indexByte) (by kernel_rfl), Lib.run_indexByteString]
  simp only [Result.andThen]
  rw [Oper.upon_value]
  go_wp2
  go_ret
  exact ⟨rfl, rfl⟩

set_option maxHeartbeats 1000000 in
set_option maxRecDepth 100000 in
theorem strings_IndexByte.at (a0 : ByteArray) (c : Int) (w : World)  :
    Calls Try.prog 29 #[.string a0, .int .u8 c] w fun e w' => e = .returned (.int .i64 (Lib.indexByte a0.data.toList c.toNat.toUInt8)) ∧ w' = w := by
  go_enter Try.func29, Try.ntmps29
  go_wp2_with fail
  refine (stringslite_IndexByte.at _ _ _).mono ?_
  rintro e w' ⟨rfl, rfl⟩
  go_wp2
  go_ret
  exact ⟨rfl, rfl⟩

def letters : ByteArray := ⟨#[97, 98, 99, 100, 101, 102, 103, 104, 105, 106, 107, 108, 109, 110, 111, 112, 113, 114, 115, 116, 117, 118, 119, 120, 121, 122, 65, 66, 67, 68, 69, 70, 71, 72, 73, 74, 75, 76, 77, 78, 79, 80, 81, 82, 83, 84, 85, 86, 87, 88, 89, 90, 48, 49, 50, 51, 52, 53, 54, 55, 56, 57, 95]⟩

set_option maxHeartbeats 1000000 in
set_option maxRecDepth 100000 in
theorem strings_IndexRune.ascii (a0 : ByteArray) (c : Int) (h0 : 0 ≤ c) (h1 : c < 128) (w : World)  :
    Calls Try.prog 28 #[.string a0, .int .i32 c] w fun e w' => e = .returned (.int .i64 (Lib.indexByte a0.data.toList c.toNat.toUInt8)) ∧ w' = w := by
  have d0 : decide (0 ≤ c) = true := decide_eq_true h0
  have d1 : decide (c < 128) = true := decide_eq_true h1
  go_enter Try.func28, Try.ntmps28
  go_wp2_with (go_at_call 29; refine (strings_IndexByte.at _ _ _).mono ?_; rintro e w' ⟨rfl, hw⟩; rw [hw])
  go_ret
  exact ⟨rfl, rfl⟩

set_option maxHeartbeats 2000000 in
set_option maxRecDepth 100000 in
theorem strings_IndexRune.high (c : Int) (h0 : 128 ≤ c) (h1 : c < 161) (w : World)  :
    Calls Try.prog 28 #[.string letters, .int .i32 c] w fun e w' => e = .returned (.int .i64 (-1)) ∧ Drawn0 w w' := by
  have d0 : decide (0 ≤ c) = true := decide_eq_true (by omega)
  have d1 : decide (c < 128) = false := decide_eq_false (by omega)
  have d2 : (c == 65533) = false := by simp; omega
  have HV : Aside0 (utf8_ValidRune.f 1 c = some true) := ⟨by unfold utf8_ValidRune.f; rw [if_pos (by omega)]; simp [utf8_ValidRune.j0]; omega⟩
  have henc : Aside0 (Utf8.encode c = ⟨#[194, UInt8.ofNat c.toNat]⟩) := ⟨by
    obtain ⟨n, rfl⟩ := Int.eq_ofNat_of_zero_le (show 0 ≤ c by omega)
    have hv : Utf8.valid (n : Int) = true := by simp [Utf8.valid]; omega
    simp only [Utf8.encode, hv, if_true]
    rw [show ((n : Int)).toNat = n from rfl, if_neg (by omega), if_pos (by omega)]
    have e1 : (0xC0 + n / 64) = 194 := by omega
    have e2 : (0x80 + n % 64) = n := by omega
    rw [e1, e2]; rfl⟩
  have hne : ∀ b ∈ letters.data.toList, b.toNat < 128 := by decide
  go_enter Try.func28, Try.ntmps28
  go_wp2_with fail
  refine (utf8_ValidRune.calls 1 _ true _ HV.out).mono ?_
  rintro e w' ⟨rfl, ⟨nd, rfl⟩⟩
  go_wp2_with fail
  go_step3
  have he0 := henc.out
  clear henc
  obtain ⟨b, hb⟩ : ∃ b, UInt8.ofNat c.toNat = b := ⟨_, rfl⟩
  have hb2 : 128 ≤ b.toNat := by
    rw [← hb, UInt8.toNat_ofNat', Nat.mod_eq_of_lt (by omega)]; omega
  rw [hb] at he0
  have he : Utf8.encode c = ⟨#[194, b]⟩ := he0
  clear he0 hb
  have hsz : letters.size = 63 := by decide
  have hx1 : ∀ h, letters[1]'h = 98 := fun _ => rfl
  have hx2 : ∀ h, (⟨#[194, b]⟩ : ByteArray)[1]'h = b := fun _ => rfl
  have hidx : Lib.indexByte (List.take 61 (List.drop 2 letters.data.toList)) b = -1 := by
    have : ∀ l : List UInt8, (∀ x ∈ l, x.toNat < 128) → Lib.indexByte l b = -1 := by
      intro l hl
      induction l with
      | nil => rfl
      | cons a l ih =>
        unfold Lib.indexByte
        have ha := hl a (List.mem_cons_self ..)
        rw [if_neg (by simp; intro e; subst e; omega), ih fun x hx => hl x (List.mem_cons_of_mem _ hx)]
        rfl
    exact this _ (by decide)
  have hne98 : ((98 : Int) != (b.toNat : Int)) = true := by rw [bne_iff_ne]; omega
  go_wp2_with fail
  refine wp_loop_rounds 1 ?_
  rw [rounds_succ]
  go_wp2_with fail
  go_step3
  go_wp2_with fail
  go_quiet (fail)
  go_wp2_with fail
  go_quiet ((go_at_call 29; exact quiet_add_same (strings_IndexByte.at _ _ _)))
  go_wp2_with fail
  rw [Exit.noGoto_ret]
  go_wp2_with fail
  rw [Exit.noGoto_ret]
  go_wp2_with fail
  go_ret
  exact ⟨rfl, by repeat (first | exact Drawn0.refl _ | apply Drawn0.step)⟩

set_option maxHeartbeats 2000000 in
set_option maxRecDepth 100000 in
theorem strings_ContainsRune.ascii (a0 : ByteArray) (c : Int) (h0 : 0 ≤ c) (h1 : c < 128) (w : World)  :
    Calls Try.prog 24 #[.string a0, .int .i32 c] w fun e w' => e = .returned (.bool (decide (0 ≤ Lib.indexByte a0.data.toList c.toNat.toUInt8))) ∧ Drawn0 w w' := by
  go_enter Try.func24, Try.ntmps24
  go_wp2_with fail
  refine (strings_IndexRune.ascii _ _ h0 h1 _).mono ?_
  rintro e w' ⟨rfl, rfl⟩
  go_wp2_with fail
  go_ret
  exact ⟨rfl, Drawn0.refl _⟩

set_option maxHeartbeats 2000000 in
set_option maxRecDepth 100000 in
theorem strings_ContainsRune.high (c : Int) (h0 : 128 ≤ c) (h1 : c < 161) (w : World)  :
    Calls Try.prog 24 #[.string letters, .int .i32 c] w fun e w' => e = .returned (.bool false) ∧ Drawn0 w w' := by
  go_enter Try.func24, Try.ntmps24
  go_wp2_with fail
  refine (strings_IndexRune.high _ h0 h1 _).mono ?_
  rintro e w' ⟨rfl, ⟨nd, rfl⟩⟩
  go_wp2_with fail
  go_ret
  exact ⟨rfl, by repeat (first | exact Drawn0.refl _ | apply Drawn0.step)⟩

def isLetter (c : Int) : Bool := (97 ≤ c && c ≤ 122) || (65 ≤ c && c ≤ 90) || (48 ≤ c && c ≤ 57) || c == 95

theorem letters_ascii (c : Int) (h0 : 0 ≤ c) (h1 : c < 128) : decide (0 ≤ Lib.indexByte letters.data.toList c.toNat.toUInt8) = isLetter c := by
  have : ∀ n : Fin 128, decide (0 ≤ Lib.indexByte letters.data.toList n.val.toUInt8) = isLetter (n.val : Int) := by decide +kernel
  have := this ⟨c.toNat, by omega⟩
  simpa [Int.toNat_of_nonneg h0] using this

theorem strings_ContainsRune.letters (c : Int) (h0 : 0 ≤ c) (h1 : c < 161) (w : World)  :
    Calls Try.prog 24 #[.string letters, .int .i32 c] w fun e w' => e = .returned (.bool (isLetter c)) ∧ Drawn0 w w' := by
  by_cases h : c < 128
  · rw [← letters_ascii c h0 h]
    exact strings_ContainsRune.ascii _ c h0 h w
  · have : isLetter c = false := by unfold isLetter; simp; omega
    rw [this]
    exact strings_ContainsRune.high c (by omega) h1 w

def glyph_Name.l0 (s : ByteArray) : Nat → Nat → Option Bool
  | 0, _ => none
  | k + 1, pos => if pos < s.size then
      (if (Utf8.decode s pos).1 < 161 then
        (if isLetter ((Utf8.decode s pos).1 : Int) = true then glyph_Name.l0 s k (pos + (Utf8.decode s pos).2) else some false)
       else glyph_Name.l0 s k (pos + (Utf8.decode s pos).2))
    else some true
def glyph_Name.f (a0 : ByteArray) : Option Bool :=
  (glyph_Valid.f a0).bind fun v => if v = true then
    (if a0.toList.isEmpty = true then some false else (glyph_Count.f a0).bind fun n => if n > 24 then some false else glyph_Name.l0 a0 (a0.size + 1) 0)
  else some false

set_option maxHeartbeats 2000000 in
set_option maxRecDepth 100000 in
theorem glyph_Name.calls (a0 : ByteArray) (r : Bool) (w : World) (h : glyph_Name.f a0 = some r) :
    Calls Try.prog 18 #[.string a0] w fun e w' => e = .returned (.bool r) ∧ Below w.heap.size w w' := by
  unfold glyph_Name.f at h
  obtain ⟨v, hv, h⟩ := Option.bind_eq_some_iff.mp h
  have HV := Aside0.mk hv
  clear hv
  cases v with
  | false =>
    rw [if_neg (by decide)] at h
    obtain rfl := Option.some.inj h
    clear h
    go_enter Try.func18, Try.ntmps18
    go_wp2_with fail
    refine (glyph_Valid.calls _ false _ HV.out).mono ?_
    rintro e w1 ⟨rfl, hb1⟩
    go_wp2
    go_ret
    exact ⟨rfl, hb1⟩
  | true =>
    rw [if_pos rfl] at h
    cases hE : a0.toList.isEmpty with
    | true =>
      rw [hE, if_pos rfl] at h
      obtain rfl := Option.some.inj h
      clear h
      go_enter Try.func18, Try.ntmps18
      go_wp2_with fail
      refine (glyph_Valid.calls _ true _ HV.out).mono ?_
      rintro e w1 ⟨rfl, hb1⟩
      go_wp2
      go_ret
      exact ⟨rfl, hb1⟩
    | false =>
      rw [hE, if_neg (by decide)] at h
      obtain ⟨n, hn, h⟩ := Option.bind_eq_some_iff.mp h
      have HN := Aside0.mk hn
      clear hn
      by_cases hc : n > 24
      · rw [if_pos hc] at h
        obtain rfl := Option.some.inj h
        clear h
        have hc1 : decide (24 < n) = true := decide_eq_true hc
        clear hc
        go_enter Try.func18, Try.ntmps18
        go_wp2_with fail
        refine (glyph_Valid.calls _ true _ HV.out).mono ?_
        rintro e w1 ⟨rfl, hb1⟩
        go_wp2_with fail
        refine (glyph_Count.calls _ n _ HN.out).mono ?_
        rintro e w2 ⟨rfl, hb2⟩
        go_wp2
        go_ret
        exact ⟨rfl, below_step hb1 hb2⟩
      · rw [if_neg hc] at h
        have H' := Aside0.mk h
        clear h
        have hc1 : decide (24 < n) = false := decide_eq_false hc
        clear hc
        go_enter Try.func18, Try.ntmps18
        go_wp2_with fail
        refine (glyph_Valid.calls _ true _ HV.out).mono ?_
        rintro e w1 ⟨rfl, hb1⟩
        go_wp2_with fail
        refine (glyph_Count.calls _ n _ HN.out).mono ?_
        rintro e w2 ⟨rfl, hb2⟩
        have HB := Aside0.mk (below_step hb1 hb2)
        clear hb1 hb2 HN HV hE
        go_wp2_with fail
        go_loopg [4] (a0.size+1) (fun kq v4 w' => ∃ (pos : Nat) (m : Nat), Aside0 (glyph_Name.l0 a0 kq pos = some r) ∧ w' = (w2.iter a0 pos).drewN m)
        case atStart => exact ⟨0, 0, H', rfl⟩
        case round =>
          clear H'
          obtain ⟨pos, m, HA, rfl⟩ := hrel
          cases gk with
          | zero => exact absurd HA.out (by simp [glyph_Name.l0])
          | succ k1 =>
            have H := HA.out
            clear HA
            simp only [glyph_Name.l0] at H
            by_cases hlt : pos < a0.size
            · rw [if_pos hlt] at H
              have hnx := fun ty => run_next_any_d (P := Try.prog) w2 m a0 pos ty hlt
              by_cases hc : (Utf8.decode a0 pos).1 < 161
              · rw [if_pos hc] at H
                have hd1 : decide (((Utf8.decode a0 pos).1 : Int) < 161) = true := decide_eq_true (by omega)
                have HC : Aside0 (((Utf8.decode a0 pos).1 : Int) < 161) := ⟨by omega⟩
                clear hc
                cases hL : isLetter ((Utf8.decode a0 pos).1 : Int) with
                | true =>
                  rw [hL, if_pos rfl] at H
                  have HN := Aside0.mk H
                  have HL := Aside0.mk hL
                  clear H hL
                  go_wp2_with fail
                  refine (strings_ContainsRune.letters _ (by omega) HC.out _).mono ?_
                  rintro e w' ⟨rfl, ⟨nd, rfl⟩⟩
                  have hL := HL.out
                  clear HL
                  go_wp2
                  go_roundg k1
                  case measure => omega
                  case rel => exact ⟨_, _, HN, rfl⟩
                | false =>
                  rw [hL, if_neg (by decide)] at H
                  obtain rfl := Option.some.inj H
                  have HL := Aside0.mk hL
                  clear H hL
                  go_wp2_with fail
                  refine (strings_ContainsRune.letters _ (by omega) HC.out _).mono ?_
                  rintro e w' ⟨rfl, ⟨nd, rfl⟩⟩
                  have hL := HL.out
                  clear HL
                  go_wp2
                  go_ret
                  exact ⟨rfl, pw_below_drewN (below_alloc HB.out _) _⟩
              · rw [if_neg hc] at H
                have HN := Aside0.mk H
                have hd1 : decide (((Utf8.decode a0 pos).1 : Int) < 161) = false := decide_eq_false (by omega)
                clear hc H
                go_wp2
                go_roundg k1
                case measure => omega
                case rel => exact ⟨_, _, HN, rfl⟩
            · rw [if_neg hlt] at H
              obtain rfl := Option.some.inj H
              have hnx := fun ty => run_next_end_d (P := Try.prog) w2 m a0 pos ty hlt
              go_wp2
              go_ret
              exact ⟨rfl, pw_below_drewN (below_alloc HB.out _) _⟩

end Go.Proofs.Ytlipjbdigpoacaa.X
