/- For every n and right ParseDeep returns true: the pure statement. No condition. -/
import Derived.Test.YtkgnhghaiopgcaaDoorYDeep3
import Derived.Test.YtkgnhghaiopgcaaDoorPt
set_option linter.unusedVariables false
set_option linter.unusedSimpArgs false
namespace Go.Proofs.YtkgnhghaiopgcaaDoor.Pure
open Go.RowKit Go.Proofs.YtkgnhghaiopgcaaDoor.YDeep Go.Proofs.YtkgnhghaiopgcaaDoor.Kx Go.Proofs.YtkgnhghaiopgcaaDoor.Ps Go.Proofs.YtkgnhghaiopgcaaDoor.Pn Go.Proofs.YtkgnhghaiopgcaaDoor.GlFn Go.Proofs.YtkgnhghaiopgcaaDoorW.PrintWords Go.Proofs.YtkgnhghaiopgcaaDoorW.PrintLast

def bH : ByteArray := ⟨#[116, 121, 112, 101, 32, 116, 32, 123, 32, 114, 101, 108, 32, 114, 32, 40, 114, 44, 32, 114, 44, 32, 114, 41, 58, 32, 116, 32, 105, 115, 32]⟩
def bA (right : Bool) (n : Nat) : ByteArray := ⟨(da right n).toArray⟩
def bB (n : Nat) : ByteArray := ⟨(db n).toArray⟩
theorem da_len (right : Bool) : ∀ n, (da right n).length ≤ 3 * n
  | 0 => by cases right <;> simp [da]
  | n + 1 => by
    have := da_len right n
    cases right <;> (rw [da, List.length_append]; simp only [List.length_cons, List.length_nil]; omega)
theorem db_len : ∀ n, (db n).length = n
  | 0 => rfl
  | n + 1 => by rw [db, List.length_append, db_len n]; rfl
theorem bA_size (right : Bool) (n : Nat) : (bA right n).size ≤ 3 * n := da_len right n
theorem bB_size (n : Nat) : (bB n).size = n := db_len n
theorem bytes_ext {a b : ByteArray} (h : a.data.toList = b.data.toList) : a = b := by
  cases a; cases b; congr 1; exact Array.toList_inj.1 h
theorem bA_true (n : Nat) : bA true n ++ (⟨#[40, 97, 124]⟩ : ByteArray) = bA true (n + 1) := bytes_ext (by simp [bA, da, ByteArray.data_append])
theorem bA_false (n : Nat) : bA false n ++ (⟨#[40]⟩ : ByteArray) = bA false (n + 1) := bytes_ext (by simp [bA, da, ByteArray.data_append])
theorem bB_succ (n : Nat) : bB n ++ (⟨#[41]⟩ : ByteArray) = bB (n + 1) := bytes_ext (by simp [bB, db, ByteArray.data_append])
theorem deep_go (right : Bool) (n : Nat) (hn : n < 14) : ∀ (d i : Nat), i + d = n → ∀ k, doormanlaw07_ParseDeep.l0 (k + d) right (n : Int) bH (bA right i) (bB i) (i : Int) = doormanlaw07_ParseDeep.l0 k right (n : Int) bH (bA right n) (bB n) (n : Int)
  | 0, i, h, k => by
    obtain rfl : i = n := by omega
    rfl
  | d + 1, i, h, k => by
    have h1 := bA_size right i
    have h2 := bB_size i
    have hw : wrap64 ((i : Int) + 1) = ((i + 1 : Nat) : Int) := by unfold wrap64; omega
    rw [show k + (d + 1) = (k + d) + 1 by omega, doormanlaw07_ParseDeep.l0, if_pos (by omega)]
    cases right with
    | true => rw [if_pos rfl, if_pos (by omega), if_pos (by omega), hw, bA_true, bB_succ]; exact deep_go true n hn d (i + 1) (by omega) k
    | false => rw [if_neg (by decide), if_pos (by omega), if_pos (by omega), hw, bA_false, bB_succ]; exact deep_go false n hn d (i + 1) (by omega) k
theorem deep_text (right : Bool) (n : Nat) : L ((((bH ++ bA right n) ++ (⟨#[97]⟩ : ByteArray)) ++ bB n) ++ (⟨#[59, 32, 125]⟩ : ByteArray)) = dtext right n := by
  simp [L, ByteArray.data_append, bH, bA, bB, dtext, dhead, dtail]
def dout (right : Bool) (n : Nat) : List S53 × Int × Int := match dres right n with | .ok X => (X, 0, 0) | .error e => ([], e.1, (e.2 : Int))
theorem deep_out (right : Bool) (n : Nat) (hn : n < 14) : parse_Parse.f ((((bH ++ bA right n) ++ (⟨#[97]⟩ : ByteArray)) ++ bB n) ++ (⟨#[59, 32, 125]⟩ : ByteArray)) = some (dout right n) := by
  unfold parse_Parse.f dout
  rw [deep_text, deep_parse right n hn]
  cases dres right n <;> rfl
set_option maxRecDepth 100000 in
theorem deep_last (right : Bool) (n : Nat) (hn : n < 14) : doormanlaw07_ParseDeep.l0 60 right (n : Int) bH (bA right n) (bB n) (n : Int) = some true := by
  have h1 := bA_size right n
  have h2 := bB_size n
  have h3 : bH.size = 31 := rfl
  have h4 : (⟨#[97]⟩ : ByteArray).size = 1 := rfl
  rw [doormanlaw07_ParseDeep.l0, if_neg (by omega), if_pos (by omega), if_pos (by rw [ByteArray.size_append]; omega), if_pos (by rw [ByteArray.size_append, ByteArray.size_append]; omega), if_pos (by rw [ByteArray.size_append, ByteArray.size_append, ByteArray.size_append]; omega), deep_out right n hn]
  clear h1 h2 h3 h4
  have : n = 0 ∨ n = 1 ∨ n = 2 ∨ n = 3 ∨ n = 4 ∨ n = 5 ∨ n = 6 ∨ n = 7 ∨ n = 8 ∨ n = 9 ∨ n = 10 ∨ n = 11 ∨ n = 12 ∨ n = 13 := by omega
  clear hn
  cases right <;> rcases this with rfl | rfl | rfl | rfl | rfl | rfl | rfl | rfl | rfl | rfl | rfl | rfl | rfl | rfl <;> (show _ = _; kernel_rfl)

theorem ParseDeep : doormanlaw07_ParseDeep.Pure := by
  intro a0 a1 h
  have hr : 0 ≤ a0 ∧ a0 ≤ 255 := by
    rw [Lit.wf, Bool.and_eq_true, decide_eq_true_eq, decide_eq_true_eq] at h
    exact h
  obtain ⟨n, hn, hn2⟩ : ∃ n : Nat, n < 14 ∧ Int.tmod (wrap64 a0) 14 = n := by
    have hw : wrap64 a0 = a0 := by unfold wrap64; omega
    rw [hw, Int.tmod_eq_emod_of_nonneg hr.1]
    exact ⟨(a0 % 14).toNat, by omega, by omega⟩
  refine ⟨60 + n, ?_⟩
  unfold doormanlaw07_ParseDeep.f
  rw [show doormanlaw07_awake.f = some true from rfl, Option.bind_some, if_pos rfl, hn2]
  have hg := deep_go a1 n hn n 0 (by omega) 60
  have e0 : bA a1 0 = ⟨#[]⟩ := by cases a1 <;> rfl
  have e1 : bB 0 = ⟨#[]⟩ := rfl
  rw [e0, e1] at hg
  exact hg.trans (deep_last a1 n hn)

end Go.Proofs.YtkgnhghaiopgcaaDoor.Pure
