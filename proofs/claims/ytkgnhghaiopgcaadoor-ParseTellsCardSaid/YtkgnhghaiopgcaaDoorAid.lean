/- Small lemmas on worlds, strings' iterators and quiet calls that this session's own walks use; no condition. -/
import Derived.Test.YtkgnhghaiopgcaaDoorProg
import Derived.Lib.OthersKept
import Derived.Lib.Bytealg
import Derived.Laws.RangeAny
import Derived.BigCall
import Derived.BigGuard
import Derived.BigQuiet
import Derived.Deep.QuietTactic
import Derived.Outline
namespace Go.Proofs.YtkgnhghaiopgcaaDoor.Aid
open Go.RowKit

section
variable {P : Program}
theorem run_next_any_d (w : World) (m : Nat) (s : ByteArray) (pos : Nat) (ty : TypeId) (h : pos < s.size) :
    (Instr.next (.pointer (some ⟨w.heap.size, 0, none⟩)) true ty).run P ((w.iter s pos).drewN m) =
      .ok (.tuple #[.bool true, .int .i64 pos, .int .i32 (Utf8.decode s pos).1]) ((w.iter s (pos + (Utf8.decode s pos).2)).drewN m) := by
  rw [Lib.run_next_any_at (P := P) ((w.iter s pos).drewN m) w.heap.size s pos ty (World.iter_heap w s pos) h]
  have := World.iter_set w s pos (pos + (Utf8.decode s pos).2)
  congr 1
  show ({ ((w.iter s pos).drewN m) with heap := _ } : World) = _
  rw [← this]
  rfl
theorem run_next_end_d (w : World) (m : Nat) (s : ByteArray) (pos : Nat) (ty : TypeId) (h : ¬ pos < s.size) :
    (Instr.next (.pointer (some ⟨w.heap.size, 0, none⟩)) true ty).run P ((w.iter s pos).drewN m) = .ok (.tuple #[.bool false]) ((w.iter s pos).drewN m) :=
  Lib.run_next_end_at (P := P) ((w.iter s pos).drewN m) w.heap.size s pos ty (World.iter_heap w s pos) h
end

theorem quiet_add_same {P : Program} {f : FuncId} {args : Array Value} {w : World} {a n : Nat} {v : Value}
    (h : Calls P f args (w.drewN (a + n)) fun e w' => e = .returned v ∧ w' = w.drewN (a + n)) :
    Calls P f args (w.drewN (a + n)) fun e w'' => e = .returned v ∧ ∃ m, w'' = w.drewN (a + m) :=
  h.mono fun _ _ ⟨he, hm⟩ => ⟨he, n, hm⟩
def keysL : List ByteArray := [⟨#[116, 121, 112, 101]⟩, ⟨#[114, 101, 108]⟩, ⟨#[105, 115]⟩, ⟨#[116, 104, 105, 115]⟩]
/-- The program's table of keys lies as its initialiser lays it. -/
def KeysIn (w : World) : Prop := ∃ (a : Addr) (cap : Nat), 4 ≤ cap ∧ 0 < w.heap.size ∧ a.block < w.heap.size ∧ w.cell? ⟨0, 0, none⟩ = some (.slice (some a) 4 cap) ∧ ∀ j p, keysL[j]? = some p → w.cell? (a.add j) = some (.string p)
theorem KeysIn.go {w W : World} (h : KeysIn w) (hb : Below w.heap.size w W) : KeysIn W := by
  obtain ⟨a, cap, h0, h1, h2, h3, h4⟩ := h
  refine ⟨a, cap, h0, Nat.lt_of_lt_of_le h1 hb.size, Nat.lt_of_lt_of_le h2 hb.size, (hb.cell (p := ⟨0, 0, none⟩) h1).trans h3, fun j p hj => (hb.cell (p := a.add j) (by unfold Addr.add; split <;> exact h2)).trans (h4 j p hj)⟩
end Go.Proofs.YtkgnhghaiopgcaaDoor.Aid
