/- Laws on spans in plain Lean: a key put in once; no program walked; no condition. -/
import Derived.Test.YthpcplpannbipaaUc
set_option linter.unusedVariables false
set_option linter.unusedSimpArgs false
set_option linter.unusedSectionVars false
namespace Go.Proofs.Ythpcplpannbipaa.Sa
open Go.Proofs.Ythpcplpannbipaa.Kx Go.Proofs.Ythpcplpannbipaa.Mp Go.Proofs.Ythpcplpannbipaa.Mq Go.Proofs.Ythpcplpannbipaa.Sq
theorem few_len {xs : List Ac} (h : fewP xs = true) : xs.length ≤ 60 := by
  unfold fewP at h
  rw [Bool.and_eq_true] at h
  exact of_decide_eq_true h.2
theorem few_at {xs : List Ac} (h : fewP xs = true) {x : Ac} (hx : x ∈ xs) : x.f1.size ≤ 40 ∧ x.f2 ≤ 1000000 := by
  unfold fewP at h
  rw [Bool.and_eq_true] at h
  have := List.all_eq_true.1 h.1 x hx
  unfold fewA at this
  simp only [Bool.and_eq_true, Bool.not_eq_true', decide_eq_false_iff_not] at this
  omega
/-- All spans are open, from ahead of a on; none is the key's. -/
structure Once (s : St ByteArray) (key : ByteArray) (a : Int) : Prop where
  inv : Sq.Inv blt s
  none : Sq.get s.g key = []
  all : ∀ p ∈ flat s.g, p.2.2 = 0 ∧ p.2.1 < a
  last : s.last < a
theorem once_new (key : ByteArray) {a : Int} (h : 1 ≤ a) : Once ⟨[], 0⟩ key a := ⟨inv_new, rfl, fun p hp => by simp [flat] at hp, by show (0 : Int) < a; omega⟩
theorem Once.put {s : St ByteArray} {key k : ByteArray} {a rev : Int} (h : Once s key a) (hk : k ≠ key) (hr : rev < a) : Once (putS blt s k rev).1 key a := by
  have hi := inv_put blt_TO h.inv k rev
  have hrel := (put_rel blt_TO h.inv (flat_rel h.inv) k rev).2.2
  have hp := rel_perm blt_TO hi hrel
  refine ⟨hi, ?_, fun p hp2 => ?_, ?_⟩
  · unfold putS
    split
    · exact h.none
    · show Sq.get (upd blt s.g k _) key = []
      rw [upd_other _ _ _ (Ne.symm hk)]
      exact h.none
  · have h2 := hp.symm.subset hp2
    unfold putR at h2
    split at h2
    · exact h.all p h2
    · rcases List.mem_append.1 h2 with h3 | h3
      · exact h.all p h3
      · obtain rfl : p = (k, (rev, 0)) := by simpa using h3
        exact ⟨rfl, hr⟩
  · unfold putS
    split
    · exact h.last
    · exact hr
theorem upd_upd (T : TO blt) : ∀ (g : List (ByteArray × List Sp)) (k : ByteArray) (l l' : List Sp), upd blt (upd blt g k l) k l' = upd blt g k l'
  | [], k, l, l' => by
    show upd blt [(k, l)] k l' = [(k, l')]
    rw [upd, if_pos rfl]
  | (a, m) :: r, k, l, l' => by
    rw [upd, upd]
    split
    · rename_i h; rw [upd, if_pos h]
    · rename_i h
      split
      · rename_i h2; rw [upd, if_neg h, if_pos h2, upd_upd T r k l l']
      · rw [upd, if_pos rfl]
theorem rel_upd {s : St ByteArray} (hi : Sq.Inv blt s) {key : ByteArray} (hn : Sq.get s.g key = []) (sp : List Sp) (r : Int) : Rel (⟨upd blt s.g key sp, r⟩ : St ByteArray) (flat s.g ++ sp.map fun x => (key, x)) := fun k => by
  rw [fk_append, List.map_append, flat_rel hi k]
  show _ = Sq.get (upd blt s.g key sp) k
  rw [upd_get blt_TO]
  have hf : (fk (sp.map fun x => (key, x)) k) = if k = key then sp.map fun x => (key, x) else [] := by
    unfold fk
    split
    · rename_i e; rw [List.filter_eq_self]; rintro p hp; obtain ⟨x, _, rfl⟩ := List.mem_map.1 hp; exact decide_eq_true e.symm
    · rename_i e; rw [List.filter_eq_nil_iff]; rintro p hp; obtain ⟨x, _, rfl⟩ := List.mem_map.1 hp; simpa using fun h : key = k => e h.symm
  rw [hf]
  split
  · rename_i e; rw [e, hn, List.nil_append, List.map_map]; simp [Function.comp_def]
  · simp
theorem once_cnt {s : St ByteArray} {key : ByteArray} {a : Int} (h : Once s key a) {c : Int} (hc : a ≤ c) : (flat s.g).countP (fun p => holds c p.2) = (flat s.g).length := by
  rw [List.countP_eq_length]
  intro p hp
  obtain ⟨h1, h2⟩ := h.all p hp
  unfold holds
  rw [decide_eq_true (show p.2.1 ≤ c by omega), decide_eq_true h1]
  rfl
theorem once_all {s : St ByteArray} {key : ByteArray} {a b : Int} (h : Once s key a) (h1 : 1 ≤ a) (h2 : a < b) : ∃ s1 s2 s3 s4,
    putS blt s key a = (s1, true) ∧ putS blt s1 key a = (s1, false) ∧ putS blt s1 key b = (s1, false) ∧ hasS s1 key a = true ∧ hasS s1 key (a - 1) = false ∧ hasS s1 key b = true ∧ countS s1 a = countS s a + 1 ∧
    dropS blt s1 key a = (s1, false) ∧ dropS blt s1 key b = (s2, true) ∧ dropS blt s2 key b = (s2, false) ∧ hasS s2 key b = false ∧ hasS s2 key (b - 1) = true ∧ countS s2 b = countS s a ∧
    putS blt s2 key b = (s3, true) ∧ hasS s3 key b = true ∧ trimS s3 b = (s4, 1) ∧ countS s4 b = countS s a + 1 ∧ hasS s4 key b = true := by
  have e1 : putS blt s key a = (⟨upd blt s.g key [(a, 0)], a⟩, true) := by
    unfold putS
    rw [if_neg (by rw [h.none]; have := h.last; rintro (h3 | h3 | h3); omega; omega; exact absurd h3 (by decide)), h.none]
    rfl
  have g1 : Sq.get (upd blt s.g key [(a, 0)]) key = [(a, 0)] := upd_same blt_TO _ _ _
  have g2 : Sq.get (upd blt s.g key [(a, b)]) key = [(a, b)] := upd_same blt_TO _ _ _
  have g3 : Sq.get (upd blt s.g key [(a, b), (b, 0)]) key = [(a, b), (b, 0)] := upd_same blt_TO _ _ _
  have o1 : opn [((a, 0) : Sp)] = true := rfl
  have o2 : opn [((a, b) : Sp)] = false := by show decide (b = 0) = false; exact decide_eq_false (by omega)
  have e9 : dropS blt ⟨upd blt s.g key [(a, 0)], a⟩ key b = (⟨upd blt s.g key [(a, b)], b⟩, true) := by
    unfold dropS
    simp only [g1]
    rw [if_neg (by rw [o1]; rintro (h3 | h3 | h3); omega; exact absurd h3 (by decide); have : lastFrom [((a, 0) : Sp)] = a := rfl; omega), upd_upd blt_TO]
    rfl
  have e14 : putS blt ⟨upd blt s.g key [(a, b)], b⟩ key b = (⟨upd blt s.g key [(a, b), (b, 0)], b⟩, true) := by
    unfold putS
    simp only [g2]
    rw [if_neg (by rw [o2]; rintro (h3 | h3 | h3); omega; omega; exact absurd h3 (by decide)), upd_upd blt_TO]
    rfl
  have i1 := inv_put blt_TO h.inv key a
  rw [e1] at i1
  have i2 := inv_drop blt_TO i1 key b
  rw [e9] at i2
  have i3 := inv_put blt_TO i2 key b
  rw [e14] at i3
  have hc0 : countS s a = (flat s.g).length := once_cnt h (Int.le_refl a)
  have r1 := rel_upd h.inv h.none [(a, 0)] a
  have r2 := rel_upd h.inv h.none [(a, b)] b
  have r3 := rel_upd h.inv h.none [(a, b), (b, 0)] b
  have t3 := trim_rel blt_TO i3 r3 b
  have hgL : ∀ p ∈ flat s.g, gone b p.2 = false := fun p hp => by
    unfold gone; rw [decide_eq_false (not_not_intro (h.all p hp).1)]; rfl
  have hb0 : (decide (b ≠ 0) && decide (b ≤ b)) = true := by rw [decide_eq_true (show b ≠ 0 by omega), decide_eq_true (Int.le_refl b)]; rfl
  have htr : trimR (flat s.g ++ [((a, b) : Sp), (b, 0)].map fun x => (key, x)) b = flat s.g ++ [(key, (b, 0))] := by
    unfold trimR
    rw [List.filter_append]
    congr 1
    · exact List.filter_eq_self.2 (fun p hp => by rw [hgL p hp]; rfl)
    · simp [gone, hb0, show b ≠ 0 by omega]
  have ht2 : (trimS ⟨upd blt s.g key [(a, b), (b, 0)], b⟩ b).2 = 1 := by
    rw [← t3.2, htr]
    simp
  have it := inv_trim i3 b
  refine ⟨_, _, _, (trimS ⟨upd blt s.g key [(a, b), (b, 0)], b⟩ b).1, e1, ?_, ?_, ?_, ?_, ?_, ?_, ?_, e9, ?_, ?_, ?_, ?_, e14, ?_, by rw [← ht2], ?_, ?_⟩
  · unfold putS; simp only [g1]; rw [if_pos (.inr (.inr o1))]
  · unfold putS; simp only [g1]; rw [if_pos (.inr (.inr o1))]
  · unfold hasS; simp only [g1]; simp [holds]
  · unfold hasS; simp only [g1]; simp [holds]; omega
  · unfold hasS; simp only [g1]; simp [holds]; omega
  · rw [← count_rel blt_TO i1 r1, List.countP_append, once_cnt h (Int.le_refl a), hc0]; simp [holds]
  · unfold dropS; simp only [g1]; rw [if_pos (.inr (.inr (Int.le_refl a)))]
  · unfold dropS; simp only [g2]; rw [if_pos (.inr (.inl o2))]
  · unfold hasS; simp only [g2]; simp [holds]; omega
  · unfold hasS; simp only [g2]; simp [holds]; omega
  · rw [← count_rel blt_TO i2 r2, List.countP_append, once_cnt h (by omega), hc0]; simp [holds]; omega
  · unfold hasS; simp only [g3]; simp [holds]
  · rw [← count_rel blt_TO it t3.1, htr, List.countP_append, once_cnt h (by omega), hc0]; simp [holds]
  · have := get_trim blt_TO i3.srt b key
    show (Sq.get (trimG b (upd blt s.g key [(a, b), (b, 0)])) key).any (holds b) = true
    rw [this]
    simp only [g3]
    simp [holds, gone]
end Go.Proofs.Ythpcplpannbipaa.Sa
