/- The library's contracts for slices.ContainsFunc at spans, DeleteFunc and Collect at strings, maps.Keys, laid at this program's instances; written by the kit's shelf (lay-plain); no condition. -/
import Derived.Shelf.SlGeneric
import Derived.Shelf.SlicesQ.IndexFunc
import Derived.Shelf.SlicesE.DeleteFunc
import Derived.Shelf.SlIter.Collect
import Derived.Ground.SlgfProg
import Derived.Ground.GgzProg
import Derived.Test.YthpcplpannbipaaProg
namespace Go.Proofs
open Go.Shelf
def Ythpcplpannbipaa.Sg.contains61_ren : Go.Shelf.Ren := ⟨fun | 8 => 61 | 6 => 78 | n => n, fun | 22 => 97 | 23 => 99 | 25 => 103 | 4 => 4 | 3 => 3 | 0 => 0 | n => n, fun | n => n⟩
theorem Ythpcplpannbipaa.Sg.contains61 : Go.Proofs.SlLaysH0.n8 Try.prog Ythpcplpannbipaa.Sg.contains61_ren := {
  mixed := by kernel_rfl
  f6 := ⟨Try.f78.name, by decide, Try.func78.trans (congrArg some (by kernel_rfl))⟩
  f8 := ⟨Try.f61.name, by decide, Try.func61.trans (congrArg some (by kernel_rfl))⟩
  t0 := Try.underlying0
  a0 := Try.isAgg0
  z0 := Try.sizeOf0
  v0 := Try.zeroValue0
  t3 := Try.underlying3
  a3 := Try.isAgg3
  z3 := Try.sizeOf3
  v3 := Try.zeroValue3
  t4 := Try.underlying4
  a4 := Try.isAgg4
  z4 := Try.sizeOf4
  v4 := Try.zeroValue4
  t22 := Try.underlying97
  a22 := Try.isAgg97
  z22 := Try.sizeOf97
  v22 := Try.zeroValue97
  t25 := Try.underlying103
  a25 := Try.isAgg103
  z25 := Try.sizeOf103
  v25 := Try.zeroValue103 }
def Ythpcplpannbipaa.Sg.del58_ren : Go.Shelf.Ren := ⟨fun | 10 => 58 | 6 => 79 | n => n, fun | 22 => 22 | 23 => 9 | 25 => 38 | 3 => 3 | 4 => 4 | 0 => 0 | n => n, fun | n => n⟩
theorem Ythpcplpannbipaa.Sg.del58 : Go.Proofs.SlLaysH.n10 Try.prog Ythpcplpannbipaa.Sg.del58_ren := {
  mixed := by kernel_rfl
  f6 := ⟨Try.f79.name, by decide, Try.func79.trans (congrArg some (by kernel_rfl))⟩
  f10 := ⟨Try.f58.name, by decide, Try.func58.trans (congrArg some (by kernel_rfl))⟩
  t0 := Try.underlying0
  a0 := Try.isAgg0
  z0 := Try.sizeOf0
  v0 := Try.zeroValue0
  t3 := Try.underlying3
  a3 := Try.isAgg3
  z3 := Try.sizeOf3
  v3 := Try.zeroValue3
  t4 := Try.underlying4
  a4 := Try.isAgg4
  z4 := Try.sizeOf4
  v4 := Try.zeroValue4
  t22 := Try.underlying22
  a22 := Try.isAgg22
  z22 := Try.sizeOf22
  v22 := Try.zeroValue22
  a23 := Try.isAgg9
  z23 := Try.sizeOf9
  t25 := Try.underlying38
  a25 := Try.isAgg38
  z25 := Try.sizeOf38
  v25 := Try.zeroValue38 }
def Ythpcplpannbipaa.Sg.keys56_ren : Go.Shelf.Ren := ⟨fun | 7 => 56 | 10 => 77 | n => n, fun | 23 => 90 | 26 => 9 | 3 => 97 | 28 => 106 | 0 => 0 | 27 => 105 | 33 => 38 | 4 => 4 | n => n, fun | n => n⟩
theorem Ythpcplpannbipaa.Sg.keys56 : Go.Proofs.SlLaysZ.n7 Try.prog Ythpcplpannbipaa.Sg.keys56_ren := {
  mixed := by kernel_rfl
  f7 := ⟨Try.f56.name, by decide, Try.func56.trans (congrArg some (by kernel_rfl))⟩
  f10 := ⟨Try.f77.name, by decide, Try.func77.trans (congrArg some (by kernel_rfl))⟩
  t0 := Try.underlying0
  a0 := Try.isAgg0
  z0 := Try.sizeOf0
  v0 := Try.zeroValue0
  t4 := Try.underlying4
  a4 := Try.isAgg4
  z4 := Try.sizeOf4
  v4 := Try.zeroValue4
  t23 := Try.underlying90
  a23 := Try.isAgg90
  z23 := Try.sizeOf90
  v23 := Try.zeroValue90
  t26 := Try.underlying9
  a26 := Try.isAgg9
  z26 := Try.sizeOf9
  v26 := Try.zeroValue9
  t27 := Try.underlying105
  a27 := Try.isAgg105
  z27 := Try.sizeOf105
  v27 := Try.zeroValue105
  t28 := Try.underlying106
  a28 := Try.isAgg106
  z28 := Try.sizeOf106
  v28 := Try.zeroValue106
  t33 := Try.underlying38
  a33 := Try.isAgg38
  z33 := Try.sizeOf38
  v33 := Try.zeroValue38 }
def Ythpcplpannbipaa.Sg.collect55_ren : Go.Shelf.Ren := ⟨fun | 8 => 55 | 11 => 76 | n => n, fun | 26 => 9 | 28 => 106 | 24 => 22 | 0 => 0 | 33 => 38 | 4 => 4 | n => n, fun | n => n⟩
theorem Ythpcplpannbipaa.Sg.collect55 : Go.Proofs.SlLaysZ.n8 Try.prog Ythpcplpannbipaa.Sg.collect55_ren := {
  mixed := by kernel_rfl
  f8 := ⟨Try.f55.name, by decide, Try.func55.trans (congrArg some (by kernel_rfl))⟩
  f11 := ⟨Try.f76.name, by decide, Try.func76.trans (congrArg some (by kernel_rfl))⟩
  t0 := Try.underlying0
  a0 := Try.isAgg0
  z0 := Try.sizeOf0
  v0 := Try.zeroValue0
  t24 := Try.underlying22
  a24 := Try.isAgg22
  z24 := Try.sizeOf22
  v24 := Try.zeroValue22
  t26 := Try.underlying9
  a26 := Try.isAgg9
  z26 := Try.sizeOf9
  v26 := Try.zeroValue9
  t28 := Try.underlying106
  a28 := Try.isAgg106
  z28 := Try.sizeOf106
  v28 := Try.zeroValue106
  i26 := by kernel_rfl }
end Go.Proofs
