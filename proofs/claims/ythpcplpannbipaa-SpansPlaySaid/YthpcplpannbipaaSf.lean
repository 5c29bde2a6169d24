/- The place of a key among keys; what Put leaves on the heap; no condition. -/
import Derived.Test.YthpcplpannbipaaBs1
import Derived.Test.YthpcplpannbipaaSa
import Derived.Test.YthpcplpannbipaaJn
set_option linter.unusedVariables false
set_option linter.unusedSimpArgs false
set_option linter.unusedSectionVars false
namespace Go.Proofs.Ythpcplpannbipaa.Se
open Go.RowKit Go.Maps Go.Proofs.YthpcplpannbipaaW.PrintWords Go.Proofs.YthpcplpannbipaaW.PrintLast Go.Proofs.Ythpcplpannbipaa.X Go.Proofs.Ythpcplpannbipaa.Kx Go.Proofs.Ythpcplpannbipaa.Bs Go.Proofs.Ythpcplpannbipaa.Mp Go.Proofs.Ythpcplpannbipaa.Mq Go.Proofs.Ythpcplpannbipaa.Sa
theorem ba_ext {x y : ByteArray} (h : x.toList = y.toList) : x = y := by
  rw [Lib.toList_data, Lib.toList_data] at h
  exact ByteArray.ext (Array.toList_inj.1 h)
theorem pos_lt {α : Type} {lt : α → α → Bool} (T : TO lt) : ∀ {s : List α} {k : α} (hs : Srt lt s) (j : Nat) (h : j < s.length), (lt s[j] k = true ↔ j < pos lt s k)
  | [], k, _, j, h => absurd h (by simp)
  | x :: r, k, hs, 0, h => by
    rw [pos]
    cases hx : lt x k <;> simp [hx]
  | x :: r, k, hs, j + 1, h => by
    have hs' := List.pairwise_cons.1 hs
    have ih := pos_lt T (k := k) hs'.2 j (by simpa using h)
    rw [pos]
    cases hx : lt x k with
    | true => simpa using ih
    | false =>
      have hj : j < r.length := by simpa using h
      have : lt r[j] k = false := by
        cases h2 : lt r[j] k with
        | false => rfl
        | true =>
          have := T.tr (hs'.1 _ (List.getElem_mem hj)) h2
          rw [hx] at this; exact absurd this (by decide)
      simp [this]
theorem mem_pos {α : Type} [DecidableEq α] {lt : α → α → Bool} (T : TO lt) {s : List α} {k : α} (hs : Srt lt s) : k ∈ s ↔ ∃ h : pos lt s k < s.length, s[pos lt s k] = k := by
  constructor
  · exact pos_mem T hs
  · rintro ⟨h, e⟩
    rw [← e]; exact List.getElem_mem h
theorem rd_get {s : List ByteArray} {j : Nat} (h : j < s.length) : rdOf ByteArray.empty s (j : Int) = s[j] := by
  unfold rdOf
  rw [Int.toNat_natCast, List.getD_eq_getElem?_getD, List.getElem?_eq_getElem h]; rfl
theorem less_f (a b : ByteArray) : cmp_Less_string.f a b = some (blt a b) := by
  unfold cmp_Less_string.f cmp_isNaN_string.f blt
  simp
theorem nan_f (a : ByteArray) : slices_isNaN_string.f a = some false := by
  unfold slices_isNaN_string.f
  simp
theorem search_l {s : List ByteArray} (hs : Srt blt s) (hn : s.length ≤ 1000000) (x : ByteArray) : ∀ (k lo hi : Nat), lo ≤ pos blt s x → pos blt s x ≤ hi → hi ≤ s.length → hi - lo < k → slices_BinarySearch_string_string.l0 k s x (s.length : Int) (lo : Int) (hi : Int) = some ((pos blt s x : Int), decide (x ∈ s))
  | 0, lo, hi, _, _, _, h => by omega
  | k + 1, lo, hi, h1, h2, h3, h4 => by
    rw [slices_BinarySearch_string_string.l0]
    by_cases hlt : lo < hi
    · rw [if_pos (by omega)]
      have hm : wrap64 ((IntKind.u64.wrap (wrap64 ((lo : Int) + (hi : Int)))) / 2) = (((lo + hi) / 2 : Nat) : Int) := by
        have e1 : wrap64 ((lo : Int) + (hi : Int)) = ((lo + hi : Nat) : Int) := by unfold wrap64; omega
        rw [e1]
        have e2 : IntKind.u64.wrap ((lo + hi : Nat) : Int) = ((lo + hi : Nat) : Int) := by rw [IntKind.wrap_u64]; omega
        rw [e2]
        unfold wrap64; omega
      rw [hm]
      have hmid : (lo + hi) / 2 < s.length := by omega
      rw [if_pos (by omega), if_pos (by omega), rd_get hmid, less_f]
      show (if blt s[(lo + hi) / 2] x = true then _ else _) = _
      cases hb : blt s[(lo + hi) / 2] x with
      | true =>
        rw [if_pos rfl]
        have := (pos_lt blt_TO hs _ hmid).1 hb
        have hw : wrap64 ((((lo + hi) / 2 : Nat) : Int) + 1) = (((lo + hi) / 2 + 1 : Nat) : Int) := by unfold wrap64; omega
        rw [hw]
        exact search_l hs hn x k _ hi (by omega) h2 h3 (by omega)
      | false =>
        rw [if_neg (by decide)]
        have : ¬ (lo + hi) / 2 < pos blt s x := fun h => by rw [(pos_lt blt_TO hs _ hmid).2 h] at hb; exact absurd hb (by decide)
        exact search_l hs hn x k lo _ h1 (by omega) (by omega) (by omega)
    · rw [if_neg (by omega)]
      obtain rfl : lo = pos blt s x := by omega
      by_cases hp : pos blt s x < s.length
      · rw [if_pos (by omega), if_pos (by omega), if_pos (by omega), rd_get hp]
        by_cases he : s[pos blt s x] = x
        · rw [if_pos (by rw [he]), decide_eq_true ((mem_pos blt_TO hs).2 ⟨hp, he⟩)]
        · rw [if_neg (fun h => he (ba_ext h)), nan_f]
          simp only [Option.bind_some, Bool.false_eq_true, if_false]
          rw [decide_eq_false (fun h => he ((mem_pos blt_TO hs).1 h).2)]
      · rw [if_neg (by omega), decide_eq_false (fun h => hp ((mem_pos blt_TO hs).1 h).1)]
theorem search_f {s : List ByteArray} (hs : Srt blt s) (hn : s.length ≤ 1000000) (x : ByteArray) {k : Nat} (hk : s.length < k) : slices_BinarySearch_string_string.f k s x = some ((pos blt s x : Int), decide (x ∈ s)) := by
  unfold slices_BinarySearch_string_string.f
  exact search_l hs hn x k 0 s.length (Nat.zero_le _) (pos_le s x) (Nat.le_refl _) (by omega)
theorem search_c {w : World} {A : Option Addr} {c : Nat} {s : List ByteArray} (hC : Kd.C Kd.string w A s.length s) (hc : s.length ≤ c) (hs : Srt blt s) (hn : s.length ≤ 1000000) (x : ByteArray) :
    Calls Try.prog 51 #[.slice A s.length c, .string x] w fun e w' => e = .returned (.tuple #[.int .i64 (pos blt s x), .bool (decide (x ∈ s))]) ∧ Drawn0 w w' :=
  slices_BinarySearch_string_string.calls (s.length + 1) A c s x _ _ w hC hc (search_f hs hn x (Nat.lt_succ_self _))
end Go.Proofs.Ythpcplpannbipaa.Se
namespace Go.Proofs.Ythpcplpannbipaa.Sa
open Go.RowKit Go.Maps Go.MapKept Go.Proofs.YthpcplpannbipaaW.PrintWords Go.Proofs.YthpcplpannbipaaW.PrintLast Go.Proofs.Ythpcplpannbipaa.X Go.Proofs.Ythpcplpannbipaa.Kx Go.Proofs.Ythpcplpannbipaa.Mp Go.Proofs.Ythpcplpannbipaa.Mq Go.Proofs.Ythpcplpannbipaa.Sq Go.Proofs.Ythpcplpannbipaa.Mb Go.Proofs.Ythpcplpannbipaa.Maps Go.Proofs.Ythpcplpannbipaa.Jn_
/-- A row owned in the strict sense. -/
theorem key_only {w : World} {ks : Value} {xs : List ByteArray} (h : Kd.string.R 9 w 0 (fun _ => True) ks xs) : Kd.string.R 9 w 0 (fun k => ks.ownBlock = some k) ks xs :=
  ⟨fun _ h => h, h.2⟩
theorem row_only {w : World} {v : Value} {l : List KSp} (h : k99.R 99 w 0 (fun _ => True) v l) : k99.R 99 w 0 (fun k => v.ownBlock = some k) v l :=
  ⟨fun _ h => h, h.2⟩
section
variable {w w1 w2 w3 w4 : World} {ok : Nat → Prop} {b m : Nat} {ks ks' v' : Value} {L : Ent} {s : St ByteArray} {key : ByteArray} {rev : Int}
theorem At.put (hA : At w ok b m ks L s) (hI : Inv blt s)
    (hf1 : FrO (fun n => ks.ownBlock = some n) w w1) (hk1 : Kd.string.R 9 w1 0 (fun k => ks'.ownBlock = some k) ks' (keysG (upd blt s.g key (get s.g key ++ [(rev, 0)])))) (hg1 : Grew ks ks' w)
    (hb2 : w2.heap[b]? = some (.cells #[.map (some m), ks', .int .i64 s.last] 92 (0, 0))) (h12 : ∀ n, n ≠ b → w2.heap[n]? = w1.heap[n]?) (hsz2 : w2.heap.size = w1.heap.size) (ho2 : w2.os = w1.os ∧ w2.tape = w1.tape ∧ w2.output = w1.output)
    (hf3 : FrO (fun n => (lookL L key nil_).ownBlock = some n) w2 w3) (hr3 : RowOf w3 v' (get s.g key ++ [(rev, 0)])) (hg3 : Grew (lookL L key nil_) v' w2)
    (hm4 : MapSt w4 m (setL L key v')) (hf4 : But m w3 w4) :
    At (w4.setCell ⟨b, 2, none⟩ (.int .i64 rev)) (fun n => ok n ∨ w.heap.size ≤ n) b m ks' (setL L key v') ⟨upd blt s.g key (get s.g key ++ [(rev, 0)]), rev⟩ ∧ FrO ok w (w4.setCell ⟨b, 2, none⟩ (.int .i64 rev)) := by
  have hbl := blk_lt hA.hb
  have hml := hA.hm.lt
  have hbm := hA.ne
  have hsz3 : w.heap.size ≤ w3.heap.size := by have := hf1.size; have := hf3.size; omega
  have hrl : ∀ k n, (lookL L k nil_).ownBlock = some n → n < w.heap.size := fun k n hn => (row_ty (hA.hr k) hn).1
  have hkl : ∀ n, ks.ownBlock = some n → n < w.heap.size := fun n hn => (key_ty hA.hk hn).1
  have st : ∀ n, n < w.heap.size → n ≠ b → ks.ownBlock ≠ some n → w2.heap[n]? = w.heap[n]? := fun n hn h1 h2 => (h12 n h1).trans (hf1.block n hn h2)
  have st3 : ∀ n, n < w1.heap.size → (lookL L key nil_).ownBlock ≠ some n → w3.heap[n]? = w2.heap[n]? := fun n hn h => hf3.block n (by omega) h
  have st5 : ∀ n, n ≠ m → n ≠ b → (w4.setCell ⟨b, 2, none⟩ (.int .i64 rev)).heap[n]? = w3.heap[n]? := fun n h1 h2 => (Below.heap_setCell w4 ⟨b, 2, none⟩ _ n h2).trans (hf4.block n h1)
  have all : ∀ n, n < w.heap.size → n ≠ b → n ≠ m → ks.ownBlock ≠ some n → (lookL L key nil_).ownBlock ≠ some n → (w4.setCell ⟨b, 2, none⟩ (.int .i64 rev)).heap[n]? = w.heap[n]? :=
    fun n hn h1 h2 h3 h4 => (st5 n h2 h1).trans ((st3 n (by have := hf1.size; omega) h4).trans (st n hn h1 h3))
  have hvb : (lookL L key nil_).ownBlock ≠ some b := fun e => (hA.ne_row key e).1 rfl
  have hvm : (lookL L key nil_).ownBlock ≠ some m := fun e => (hA.ne_row key e).2.1 rfl
  have hkb : ks.ownBlock ≠ some b := fun e => (hA.ne_key e).1 rfl
  have own' : ∀ n, v'.ownBlock = some n → (lookL L key nil_).ownBlock = some n ∨ w1.heap.size ≤ n := fun n hn => by
    rcases hg3 with h | ⟨n', h, h2⟩
    · exact .inl (by rw [← h]; exact hn)
    · rw [h] at hn; obtain rfl := Option.some.inj hn; exact .inr (by omega)
  have ownk : ∀ n, ks'.ownBlock = some n → ks.ownBlock = some n ∨ w.heap.size ≤ n := fun n hn => by
    rcases hg1 with h | ⟨n', h, h2⟩
    · exact .inl (by rw [← h]; exact hn)
    · rw [h] at hn; obtain rfl := Option.some.inj hn; exact .inr h2
  have hnv : ∀ n, v'.ownBlock = some n → n ≠ b ∧ n ≠ m := fun n hn => by
    rcases own' n hn with h | h
    · exact ⟨(hA.ne_row key h).1, (hA.ne_row key h).2.1⟩
    · have := hf1.size; exact ⟨by omega, by omega⟩
  have hnk : ∀ n, ks'.ownBlock = some n → n ≠ b ∧ n ≠ m ∧ (lookL L key nil_).ownBlock ≠ some n := fun n hn => by
    rcases ownk n hn with h | h
    · exact ⟨(hA.ne_key h).1, (hA.ne_key h).2, fun e => (hA.ne_row key e).2.2 h⟩
    · exact ⟨by omega, by omega, fun e => by have := hrl _ _ e; omega⟩
  refine ⟨⟨?_, hm4.of_block (Below.heap_setCell w4 ⟨b, 2, none⟩ _ m (Ne.symm hbm)), ?_, fun k => ?_, fun j k n h1 h2 => ?_, fun p hp => ?_, .inl hA.okb, .inl hA.okm, fun n hn => ?_, fun k n hn => ?_⟩, ?_⟩
  · have h2 := hb2
    have h4 : w4.heap[b]? = some (.cells #[.map (some m), ks', .int .i64 s.last] 92 (0, 0)) := (hf4.block b hbm).trans ((st3 b (by have := hf1.size; omega) hvb).trans h2)
    simpa using blk_set h4 2 (.int .i64 rev)
  · refine Kd.R_step hk1 (fun n hn hlt => ?_)
    obtain ⟨g1, g2, g3⟩ := hnk n hn
    exact (st5 n g2 g1).trans ((st3 n hlt g3).trans (h12 n g1))
  · show RowOf _ (lookL (setL L key v') k nil_) (get (upd blt s.g key _) k)
    rw [lookL_set, upd_get blt_TO]
    split
    · exact Kd.R_step hr3 (fun n hn hlt => st5 n (hnv n hn).2 (hnv n hn).1)
    · rename_i e
      refine Kd.R_step (hA.hr k) (fun n hn hlt => ?_)
      obtain ⟨g1, g2, g3⟩ := hA.ne_row k hn
      exact all n hlt g1 g2 g3 (fun h => e (hA.sep k key n hn h))
  · rw [lookL_set] at h1 h2
    by_cases e1 : j = key
    · by_cases e2 : k = key
      · rw [e1, e2]
      · rw [if_pos e1] at h1
        rw [if_neg e2] at h2
        rcases own' n h1 with h | h
        · rw [e1]; exact hA.sep key k n h h2
        · have := hrl _ _ h2; have := hf1.size; omega
    · rw [if_neg e1] at h1
      by_cases e2 : k = key
      · rw [if_pos e2] at h2
        rcases own' n h2 with h | h
        · rw [e2]; exact hA.sep j key n h1 h
        · have := hrl _ _ h1; have := hf1.size; omega
      · rw [if_neg e2] at h2
        exact hA.sep j k n h1 h2
  · show p.1 ∈ keysG (upd blt s.g key _)
    rw [keys_upd blt_TO _ _ _ hI.srt]
    have hp1 : p.1 = key ∨ p.1 ∈ keysG s.g := by
      have : ∀ (M : Ent), p ∈ setL M key v' → p.1 = key ∨ p ∈ M := by
        intro M
        induction M with
        | nil => intro h; exact .inl (by rw [List.mem_singleton.1 h])
        | cons q M ih =>
          intro h
          rw [setL] at h
          split at h
          · rename_i e
            rcases List.mem_cons.1 h with h | h
            · exact .inl (by rw [h]; exact e)
            · exact .inr (List.mem_cons_of_mem _ h)
          · rcases List.mem_cons.1 h with h | h
            · exact .inr (by rw [h]; exact List.mem_cons_self)
            · exact (ih h).imp id (List.mem_cons_of_mem _)
      exact (this L hp).imp id (hA.mem p)
    split
    · rename_i hin
      rcases hp1 with h | h
      · rw [h]; exact hin
      · exact h
    · exact mem_ins.2 hp1
  · rcases ownk n hn with h | h
    · exact .inl (hA.okk n h)
    · exact .inr h
  · rw [lookL_set] at hn
    split at hn
    · rcases own' n hn with h | h
      · exact .inl (hA.okr key n h)
      · exact .inr (by have := hf1.size; omega)
    · exact .inl (hA.okr k n hn)
  · exact ⟨hf4.os.trans (hf3.os.trans (ho2.1.trans hf1.os)), hf4.tape.trans (hf3.tape.trans (ho2.2.1.trans hf1.tape)), hf4.output.trans (hf3.output.trans (ho2.2.2.trans hf1.output)), by have := hf4.size; simp; omega,
      fun n hn ho => all n hn (fun e => ho (by rw [e]; exact hA.okb)) (fun e => ho (by rw [e]; exact hA.okm)) (fun e => ho (hA.okk n e)) (fun e => ho (hA.okr key n e))⟩
end
end Go.Proofs.Ythpcplpannbipaa.Sa
