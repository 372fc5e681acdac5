/- Contracts of the Go library, laid at this program: each body compared by the kernel. -/
import Derived.Shelf.SlMaps.Clone
import Derived.Shelf.SlGeneric
import Derived.Ground.SlmcProg
import Derived.Test.YtblidphaolgilaaProg
import Derived.KernelRfl
namespace Go.Proofs
open Go.Shelf
def Try.cloneE_ren : Go.Shelf.Ren := ⟨fun | 5 => 55 | 7 => 68 | n => n, fun | 23 => 84 | 25 => 27 | 3 => 29 | 4 => 4 | 20 => 20 | n => n, fun | n => n⟩
theorem Try.cloneE : Go.Proofs.SlLaysW.n5 Try.prog Try.cloneE_ren := {
  mixed := by kernel_rfl
  f5 := ⟨Try.f55.name, by decide, Try.func55.trans (congrArg some (by kernel_rfl))⟩
  f7 := Try.func68.trans (congrArg some (by kernel_rfl))
  t4 := Try.underlying4
  a4 := Try.isAgg4
  z4 := Try.sizeOf4
  v4 := Try.zeroValue4
  t20 := Try.underlying20
  a20 := Try.isAgg20
  z20 := Try.sizeOf20
  v20 := Try.zeroValue20
  t23 := Try.underlying84
  a23 := Try.isAgg84
  z23 := Try.sizeOf84
  v23 := Try.zeroValue84 }
end Go.Proofs
