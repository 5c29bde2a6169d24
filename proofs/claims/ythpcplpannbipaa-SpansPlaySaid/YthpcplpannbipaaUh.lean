/- The keys of a revision, told one by one (keys of the laws on spans): plain, and walked; no condition. -/
import Derived.Test.YthpcplpannbipaaUc
import Derived.WalkMore
import Derived.OwnWalk
import Derived.Deep.DeepMust
set_option linter.unusedVariables false
set_option linter.unusedSimpArgs false
set_option linter.unusedSectionVars false
namespace Go.Proofs.Ythpcplpannbipaa.Sa
open Go.RowKit Go.Maps Go.MapKept Go.Proofs.YthpcplpannbipaaW.PrintWords Go.Proofs.YthpcplpannbipaaW.PrintLast Go.Proofs.Ythpcplpannbipaa.X Go.Proofs.Ythpcplpannbipaa.Kx Go.Proofs.Ythpcplpannbipaa.Mp Go.Proofs.Ythpcplpannbipaa.Mq Go.Proofs.Ythpcplpannbipaa.Sq Go.Proofs.Ythpcplpannbipaa.Mb Go.Proofs.Ythpcplpannbipaa.Maps
/-- The keys of a revision, rising. -/
def keysOf (s : St ByteArray) (rev : Int) : List ByteArray := (keysG s.g).filter fun k => hasS s k rev
section
variable {s : St ByteArray}
theorem keysOf_srt (h : Sq.Inv blt s) (rev : Int) : Srt blt (keysOf s rev) := h.srt.filter _
theorem keysOf_mem (h : Sq.Inv blt s) (rev : Int) (k : ByteArray) : k ∈ keysOf s rev ↔ hasS s k rev = true := by
  unfold keysOf
  rw [List.mem_filter]
  refine ⟨fun h => h.2, fun hh => ⟨?_, hh⟩⟩
  refine (full_get blt_TO h.srt h.full k).2 (fun e => ?_)
  unfold hasS at hh
  rw [e] at hh
  simp at hh
theorem srt_idx {K : List ByteArray} (h : Srt blt K) {i j : Nat} (hi : i < K.length) (hj : j < K.length) : blt K[i] K[j] = true ↔ i < j := by
  constructor
  · intro hlt
    rcases Nat.lt_or_ge i j with h1 | h1
    · exact h1
    · exfalso
      rcases Nat.eq_or_lt_of_le h1 with h2 | h2
      · subst h2; rw [blt_TO.irr] at hlt; exact absurd hlt (by decide)
      · have := List.pairwise_iff_getElem.1 h j i hj hi h2
        have := blt_TO.tr hlt this
        rw [blt_TO.irr] at this
        exact absurd this (by decide)
  · intro hij
    exact List.pairwise_iff_getElem.1 h i j hi hj hij
/-- The next one from f on: m keys are ahead of f. -/
theorem next_idx (h : Sq.Inv blt s) (rev : Int) (f : ByteArray) (m : Nat) (hm : ∀ i (hi : i < (keysOf s rev).length), blt (keysOf s rev)[i] f = true ↔ i < m) : nextS blt s rev f none = (keysOf s rev)[m]? := by
  have hsp := next_spec blt_TO h rev f none
  have hK := keysOf_srt h rev
  have hfit : ∀ k, fits blt s rev f none k ↔ ∃ i, ∃ hi : i < (keysOf s rev).length, (keysOf s rev)[i] = k ∧ m ≤ i := fun k => by
    constructor
    · rintro ⟨h1, h2, _⟩
      obtain ⟨i, hi, e⟩ := List.mem_iff_getElem.1 ((keysOf_mem h rev k).2 h1)
      refine ⟨i, hi, e, Nat.le_of_not_lt (fun hlt => ?_)⟩
      have := (hm i hi).2 hlt
      rw [e, h2] at this
      exact absurd this (by decide)
    · rintro ⟨i, hi, e, hmi⟩
      refine ⟨(keysOf_mem h rev k).1 (by rw [← e]; exact List.getElem_mem _), ?_, fun t ht => by cases ht⟩
      rw [Bool.eq_false_iff]
      intro hlt
      rw [← e] at hlt
      have := (hm i hi).1 hlt
      omega
  cases hn : nextS blt s rev f none with
  | none =>
    have h1 := hsp.2 hn
    by_cases hlt : m < (keysOf s rev).length
    · exact absurd ((hfit _).2 ⟨m, hlt, rfl, Nat.le_refl _⟩) (h1 _)
    · rw [List.getElem?_eq_none (by omega)]
  | some k =>
    obtain ⟨h1, h2⟩ := hsp.1 k hn
    obtain ⟨i, hi, e, hmi⟩ := (hfit k).1 h1
    have hlt : m < (keysOf s rev).length := by omega
    have h3 := h2 _ ((hfit _).2 ⟨m, hlt, rfl, Nat.le_refl _⟩)
    have : i = m := by
      rcases Nat.eq_or_lt_of_le hmi with h4 | h4
      · exact h4.symm
      · have := (srt_idx hK hlt hi).2 h4
        rw [e, h3] at this
        exact absurd this (by decide)
    subst this
    rw [List.getElem?_eq_getElem hi, e]
theorem lt_zero : ∀ (k a : List UInt8), k < a ++ [0] ↔ ¬ a < k
  | [], [] => by simp
  | [], b :: a => by simp
  | c :: k, [] => by
    have : ¬ c < 0 := by have := c.toNat_lt; exact fun h => absurd (UInt8.lt_iff_toNat_lt.1 h) (by simp)
    simp [List.cons_lt_cons_iff, this]
  | c :: k, b :: a => by
    have ih := lt_zero k a
    rw [List.cons_append, List.cons_lt_cons_iff, List.cons_lt_cons_iff, ih]
    constructor
    · rintro (h | ⟨rfl, h⟩)
      · rintro (h2 | ⟨rfl, h2⟩)
        · exact UInt8.lt_asymm h h2
        · exact UInt8.lt_irrefl _ h
      · rintro (h2 | ⟨_, h2⟩)
        · exact UInt8.lt_irrefl _ h2
        · exact h h2
    · intro h
      by_cases h1 : c < b
      · exact .inl h1
      · by_cases h2 : b < c
        · exact absurd (.inl h2) h
        · have e : c = b := UInt8.le_antisymm (UInt8.not_lt.1 h2) (UInt8.not_lt.1 h1)
          exact .inr ⟨e, fun h3 => h (.inr ⟨e.symm, h3⟩)⟩
theorem blt_zero (k a : ByteArray) : blt k (a ++ ⟨#[0]⟩) = !blt a k := by
  rw [blt_eq, blt_eq, Bool.eq_iff_iff]
  have e : (a ++ (⟨#[0]⟩ : ByteArray)).data.toList = a.data.toList ++ [0] := by simp
  rw [e, decide_eq_true_eq, lt_zero]
  simp
theorem blt_nil (k : ByteArray) : blt k ⟨#[]⟩ = false := by
  rw [blt_eq]
  exact decide_eq_false (by simp)
theorem next_first (h : Sq.Inv blt s) (rev : Int) : nextS blt s rev ⟨#[]⟩ none = (keysOf s rev)[0]? :=
  next_idx h rev _ 0 (fun i hi => by rw [blt_nil]; simp)
theorem next_after (h : Sq.Inv blt s) (rev : Int) {j : Nat} {k : ByteArray} (hj : (keysOf s rev)[j]? = some k) : nextS blt s rev (k ++ ⟨#[0]⟩) none = (keysOf s rev)[j + 1]? := by
  obtain ⟨hjl, e⟩ := List.getElem?_eq_some_iff.1 hj
  refine next_idx h rev _ (j + 1) (fun i hi => ?_)
  rw [blt_zero, ← e]
  have := srt_idx (keysOf_srt h rev) hjl hi
  constructor
  · intro h1
    have : ¬ j < i := fun h2 => by rw [this.2 h2] at h1; exact absurd h1 (by decide)
    omega
  · intro h1
    have : ¬ blt (keysOf s rev)[j] (keysOf s rev)[i] = true := fun h2 => by have := this.1 h2; omega
    rw [Bool.eq_false_iff.2 this]; rfl
end
theorem Few.keysOf {s : St ByteArray} {n : Nat} (h : Few s n) (rev : Int) : (Sa.keysOf s rev).length ≤ n := Nat.le_trans (List.length_filter_le _ _) h.keys
theorem info9s : (Try.prog.info? 9).map (fun i => (i.zero, i.size, i.bytes)) = some (some (.string ⟨#[]⟩), 1, 16) := by kernel_rfl
theorem toO_nil : toO ⟨#[]⟩ = none := if_pos rfl
set_option maxHeartbeats 8000000 in
set_option maxRecDepth 100000 in
theorem keys_h {w : World} {ok : Nat → Prop} {b n : Nat} {s : St ByteArray} (h : Hs w ok b s n) (hn : n ≤ 150) (rev : Int) : Calls Try.prog 40 #[.pointer (some ⟨b, 0, none⟩), .int .i64 rev] w fun e w' =>
    ∃ v, e = .returned v ∧ Kd.string.R 9 w' w.heap.size (fun _ => True) v (keysOf s rev) ∧ Below w.heap.size w w' := by
  have H := Aside0.mk h
  have HN := Aside0.mk hn
  have hnx := next_h h (by omega) rev ⟨#[]⟩ ⟨#[]⟩
  rw [toO_nil, next_first h.few.inv] at hnx
  have HK : Aside0 ((keysOf s rev).length ≤ 150 ∧ ∀ k ∈ keysOf s rev, k.size ≤ 1000) := ⟨Nat.le_trans (h.few.keysOf rev) hn, fun k hk => h.few.key k (List.mem_filter.1 hk).1⟩
  obtain ⟨K, hK⟩ : ∃ K, keysOf s rev = K := ⟨_, rfl⟩
  have HKK := Aside0.mk hK
  rw [hK] at hnx HK ⊢
  clear h hn hK
  go_enter Try.func40, Try.ntmps40
  go_wp2_with fail
  refine hnx.mono ?_
  rintro e w1 ⟨rfl, hb⟩
  have HB := Aside0.mk hb
  have H1 := Aside0.mk (H.out.below hb)
  clear hb hnx
  rw [show nxV K[0]? = .tuple #[.string (K[0]?.getD ⟨#[]⟩), .bool K[0]?.isSome] from rfl]
  obtain ⟨nk, hnk⟩ : ∃ nk, K.length = nk := ⟨_, rfl⟩
  have HNK := Aside0.mk hnk
  clear hnk
  go_wp2_with fail
  go_loopg [5, 6, 7] nk (fun kq v5 v6 v7 wr => ∃ (j : Nat), v6 = .string (K[j]?.getD ⟨#[]⟩) ∧ v7 = .bool K[j]?.isSome ∧ Aside0 (j + kq = nk) ∧ Aside0 (Kd.string.R 9 wr w.heap.size (fun _ => True) v5 (K.take j)) ∧ Aside0 (Hs wr ok b s n) ∧ Aside0 (Below w.heap.size w wr))
  case atStart => exact ⟨0, rfl, rfl, ⟨by omega⟩, ⟨Kd.R_nil _ _ _ _ _⟩, H1, HB⟩
  case round =>
    obtain ⟨j, h6, h7, HJ, HR, HH, HB2⟩ := hrel
    rename World => wr
    subst h6
    subst h7
    cases gk with
    | zero =>
      have hj : K[j]? = none := List.getElem?_eq_none (by have := HJ.out; have := HNK.out; omega)
      rw [hj]
      have HT : Aside0 (K.take j = K) := ⟨List.take_of_length_le (by have := HJ.out; have := HNK.out; omega)⟩
      clear hj
      simp only [Option.getD_none, Option.isSome_none]
      go_wp2
      go_ret
      exact ⟨_, rfl, by rw [← HT.out]; exact HR.out, HB2.out⟩
    | succ kq =>
      have hjl : j < K.length := by have := HJ.out; have := HNK.out; omega
      obtain ⟨k, hk⟩ : ∃ k, K[j] = k := ⟨_, rfl⟩
      have hj : K[j]? = some k := by rw [List.getElem?_eq_getElem hjl, hk]
      rw [hj]
      simp only [Option.getD_some, Option.isSome_some]
      have HKJ := Aside0.mk hj
      have hks := HK.out.2 k (by rw [← hk]; exact List.getElem_mem _)
      have HKS := Aside0.mk hks
      have hln : (K.take j).length = j := by rw [List.length_take]; omega
      obtain ⟨A, c, rfl⟩ := Kd.R_slice HR.out
      have HR2 : Aside0 (Kd.string.R 9 wr w.heap.size (fun _ => True) (.slice A j c) (K.take j)) := ⟨by have := HR.out; rwa [hln] at this⟩
      rw [hln]
      have HLN := Aside0.mk hln
      have HJ100 : Aside0 (j ≤ 150) := ⟨by have := HK.out.1; omega⟩
      have p1 : decide ((j : Int) < 200) = true := decide_eq_true (by have := HJ100.out; omega)
      have p2 : ((j : Int) < 200) = True := eq_true (by have := HJ100.out; omega)
      have z1 : (9223372036854775807 < k.size + 1) = False := eq_false (by omega)
      clear hj hk hjl hks hln HR
      go_wp2_with (first | (at_builtin; go_must (refine Kd.R_append Kd.string (w0 := w) w.heap.size rfl (.tmp 20) (.tmp 22) 22 9 (.string ⟨#[]⟩) 16 rfl Try.underlying22 info9s rfl (by decide) (by omega) (.slice A j c) (K.take j) k [.string k] (fun _ => True) (fun _ => False) rfl rfl rfl (fun _ hk => hk.elim) (fun _ _ => trivial) HR2.out HB2.out HB2.out.size ?bL ?_); (case bL => have := HLN.out; have := HJ100.out; omega); intro v7 w7 ho7 hb7 hg7 hat7; have HO7 := Aside0.mk ho7; have HB7 := Aside0.mk hb7; have HG7 := Aside0.mk hg7; clear ho7 hb7 hg7 hat7) | fail)
      have H7 := Aside0.mk (H.out.below HB7.out)
      have hnx := next_h H7.out (by have := HN.out; omega) rev (k ++ ⟨#[0]⟩) ⟨#[]⟩
      rw [toO_nil, next_after H7.out.few.inv rev (by rw [HKK.out]; exact HKJ.out), HKK.out] at hnx
      refine hnx.mono ?_
      rintro e w8 ⟨rfl, hb8⟩
      have HB8 : Aside0 (Below w.heap.size w w8) := ⟨HB7.out.trans (hb8.mono HB7.out.size)⟩
      have HO8 : Aside0 (Kd.string.R 9 w8 w.heap.size (fun _ => True) v7 (K.take (j + 1))) := ⟨by rw [List.take_add_one, HKJ.out]; exact Kd.R_below HO7.out hb8⟩
      have H8 := Aside0.mk (H7.out.below hb8)
      clear hb8 hnx
      rw [show nxV K[j + 1]? = .tuple #[.string (K[j + 1]?.getD ⟨#[]⟩), .bool K[j + 1]?.isSome] from rfl]
      go_wp2_with fail
      go_roundg kq
      case measure => omega
      case rel => exact ⟨j + 1, rfl, rfl, ⟨by have := HJ.out; omega⟩, HO8, H8, HB8⟩
/-- A row of strings that is handed back. -/
theorem str_cells {w : World} {base : Nat} {ok : Nat → Prop} {v : Value} {K : List ByteArray} (h : Kd.string.R 9 w base ok v K) {j : Nat} {k : ByteArray} (hj : K[j]? = some k) : ∃ g c, v = .slice (some ⟨g, 0, none⟩) K.length c ∧ w.cell? ⟨g, j, none⟩ = some (.string k) := by
  obtain ⟨hjl, e⟩ := List.getElem?_eq_some_iff.1 hj
  obtain ⟨A, c, rfl⟩ := Kd.R_slice h
  obtain ⟨inner, hown⟩ := Kd.R_own h
  rcases hown.2 with ⟨_, h0⟩ | ⟨g, cap, cur, hv, _⟩
  · omega
  · injection hv with h1
    subst h1
    have h1 := (Kd.R_cell (⟨#[]⟩ : ByteArray) h (j : Int) (by omega) (by omega)).1
    unfold rdOf at h1
    rw [Int.toNat_natCast, List.getD_eq_getElem?_getD, hj, Option.getD_some] at h1
    exact ⟨g, c, rfl, h1⟩
theorem int_cells {w : World} {A : Option Addr} {xs : List Int} (h : Kd.C (Kd.int .i64) w A xs.length xs) {i : Nat} {x : Int} (hi : xs[i]? = some x) : ∃ ad, A = some ad ∧ w.cell? (ad.add i) = some (.int .i64 x) := by
  obtain ⟨hil, he⟩ := List.getElem?_eq_some_iff.1 hi
  obtain ⟨ad, c, e, hl, hk, hc⟩ := Kd.C_get h (0 : Int) (i : Int) (by omega) (by omega)
  rw [Int.toNat_natCast, List.getD_eq_getElem?_getD, hi, Option.getD_some] at hk
  have hk2 : c = [.int .i64 x] := hk
  subst hk2
  refine ⟨ad, e, ?_⟩
  have := hc 0 _ rfl
  rw [Int.toNat_natCast] at this
  have h3 : i * (Kd.int .i64).sz + 0 = i := by show i * 1 + 0 = i; omega
  rwa [h3] at this
end Go.Proofs.Ythpcplpannbipaa.Sa
