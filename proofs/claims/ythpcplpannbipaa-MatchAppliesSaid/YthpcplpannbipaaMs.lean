/- The document's example of package match, by the printed functions; no program walked; no condition. -/
import Derived.Test.YthpcplpannbipaaMr
import Derived.Test.YthpcplpannbipaaY3
import Derived.Test.YthpcplpannbipaaY5
set_option linter.unusedVariables false
set_option linter.unusedSimpArgs false
namespace Go.Proofs.Ythpcplpannbipaa.Mr
open Go.RowKit Go.Proofs.YthpcplpannbipaaW.PrintWords Go.Proofs.YthpcplpannbipaaW.PrintLast Go.Proofs.Ythpcplpannbipaa.Kx Go.Proofs.Ythpcplpannbipaa.Y Go.Proofs.Ythpcplpannbipaa.Mp Go.Proofs.Ythpcplpannbipaa.Mq

def kA : ByteArray := ⟨#[97]⟩
def kB : ByteArray := ⟨#[98]⟩
def kC : ByteArray := ⟨#[99]⟩
theorem ab : blt kA kB = true := by rw [blt_eq]; decide
theorem bc : blt kB kC = true := by rw [blt_eq]; decide
theorem ac : blt kA kC = true := by rw [blt_eq]; decide
theorem nab : kA ≠ kB := blt_TO.ne ab
theorem nbc : kB ≠ kC := blt_TO.ne bc
theorem nac : kA ≠ kC := blt_TO.ne ac
theorem ba : blt kB kA = false := blt_TO.asym ab
theorem srt_ab : Srt blt [kA, kB] := List.pairwise_cons.2 ⟨fun x hx => by obtain rfl := List.mem_singleton.1 hx; exact ab, List.pairwise_singleton _ _⟩
theorem srt_ac : Srt blt [kA, kC] := List.pairwise_cons.2 ⟨fun x hx => by obtain rfl := List.mem_singleton.1 hx; exact ac, List.pairwise_singleton _ _⟩
theorem of_bab : ofB [kB, kA, kB] = [kA, kB] := srt_ext blt_TO (ofB_spec _).1 srt_ab (fun k => by
  rw [(ofB_spec _).2]
  simp only [List.mem_cons, List.not_mem_nil, or_false]
  constructor
  · rintro (h | h | h)
    · exact .inr h
    · exact .inl h
    · exact .inr h
  · rintro (h | h)
    · exact .inr (.inl h)
    · exact .inl h)
theorem mem_aab : kA ∈ [kA, kB] := by simp
theorem mem_bab : kB ∈ [kA, kB] := by simp
theorem not_cab : kC ∉ [kA, kB] := by
  simp only [List.mem_cons, List.not_mem_nil, or_false, not_or]
  exact ⟨nac.symm, nbc.symm⟩
theorem del_b : del [kA, kB] kB = [kA] := by
  unfold del
  rw [List.filter_cons, if_pos (by simp [nab]), List.filter_cons, if_neg (by simp)]; rfl
theorem ins_c : ins blt [kA] kC = [kA, kC] := by
  rw [ins_cons, ac, if_pos rfl]; rfl
theorem apply1 : match_Set_Apply.f [kA, kB] [(⟨kA, true⟩ : S46)] [(⟨kB, false⟩ : S40), ⟨kC, true⟩] = some ([kA, kC], 0, 0) := by
  unfold match_Set_Apply.f
  rw [if_pos ⟨srt_ab, by decide, by decide⟩]
  simp only [List.map_cons, List.map_nil]
  unfold applyB
  rw [show preF [kA, kB] [(kA, true)] 0 = none by rw [preF, if_pos (by rw [decide_eq_true mem_aab])]; rfl]
  rw [show apC blt [kA, kB] [(kB, false), (kC, true)] 0 = .ok [kA, kC] by
    rw [apC, if_neg (by rw [decide_eq_true mem_bab]; decide)]
    simp only [Bool.false_eq_true, if_false]
    rw [del_b, apC, if_neg (by rw [decide_eq_false (show kC ∉ [kA] by simp only [List.mem_cons, List.not_mem_nil, or_false]; exact nac.symm)]; decide)]
    simp only [if_true]
    rw [ins_c]; rfl]
theorem apply2 : match_Set_Apply.f [kA, kB] [(⟨kA, true⟩ : S46)] [(⟨kB, true⟩ : S40)] = some ([], 32, 1) := by
  unfold match_Set_Apply.f
  rw [if_pos ⟨srt_ab, by decide, by decide⟩]
  simp only [List.map_cons, List.map_nil]
  unfold applyB
  rw [show preF [kA, kB] [(kA, true)] 0 = none by rw [preF, if_pos (by rw [decide_eq_true mem_aab])]; rfl]
  rw [show apC blt [kA, kB] [(kB, true)] 0 = .error (true, 0) by
    rw [apC, if_pos (by rw [decide_eq_true mem_bab])]]
  rfl
theorem diff1 : diff blt [kA, kB] [kA, kC] = [(kB, false), (kC, true)] := by
  show diffF blt 4 [kA, kB] [kA, kC] = _
  rw [diffF, blt_TO.irr, if_neg (by decide), if_neg (by decide), diffF, bc, if_pos rfl, diffF]; rfl
theorem awake_f {k : Nat} (hk : 100 ≤ k) : doormanlaw13_awake.f k = some true := by
  simp only [doormanlaw13_awake.f]
  rw [show (⟨#[98]⟩ : ByteArray) = kB from rfl, show (⟨#[97]⟩ : ByteArray) = kA from rfl, show (⟨#[99]⟩ : ByteArray) = kC from rfl]
  rw [of_f (by decide), of_bab]
  simp only [Option.bind_some]
  rw [apply1, apply2]
  simp only [Option.bind_some]
  rw [diff_f (by decide) (by simp; omega), diff1]
  simp only [Option.bind_some]
  rw [if_pos (by rfl), has_f srt_ab (by decide) kB (by simp; omega), decide_eq_true mem_bab]
  simp only [Option.bind_some, if_true]
  rw [has_f srt_ab (by decide) kC (by simp; omega), decide_eq_false not_cab]
  simp only [Option.bind_some, Bool.false_eq_true, if_false, if_true]
  rw [same_f (by decide) (by simp; omega), decide_eq_true rfl]
  simp only [Option.bind_some, if_true]
  rw [if_pos (by rfl), if_pos (by decide)]
  show some ((kC.toList == [99]) && true) = some true
  rw [Lib.toList_data]; rfl
end Go.Proofs.Ythpcplpannbipaa.Mr
