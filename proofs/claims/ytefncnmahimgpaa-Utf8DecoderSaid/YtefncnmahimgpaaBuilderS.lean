/- The contracts of strings.Builder that the seat of Utf8 uses, laid at this program by hand: the numbers by name, each body compared by the kernel. -/
import Derived.Shelf.Strings.Builder1
import Derived.Shelf.Strings.BuilderF
import Derived.Shelf.Strings.BuilderK
import Derived.Test.YtefncnmahimgpaaProg
import Derived.KernelRfl
namespace Go.Proofs
open Go.Shelf
def Try.lb240_ren : Go.Shelf.Ren := ⟨fun | 240 => 54 | 276 => 57 | n => n, fun | 0 => 0 | 4 => 4 | 5 => 5 | 9 => 9 | 20 => 20 | 37 => 38 | 70 => 69 | 72 => 71 | 164 => 90 | n => n, fun | n => n⟩
theorem Try.lb240 : Go.Proofs.Lays.n240 Try.prog Try.lb240_ren := {
  mixed := by kernel_rfl
  f240 := Try.func54.trans (congrArg some (by kernel_rfl))
  f276 := Try.func57.trans (congrArg some (by kernel_rfl))
  t0 := Try.underlying0
  a0 := Try.isAgg0
  z0 := Try.sizeOf0
  v0 := Try.zeroValue0
  t4 := Try.underlying4
  a4 := Try.isAgg4
  z4 := Try.sizeOf4
  v4 := Try.zeroValue4
  t9 := Try.underlying9
  a9 := Try.isAgg9
  z9 := Try.sizeOf9
  v9 := Try.zeroValue9
  t20 := Try.underlying20
  a20 := Try.isAgg20
  z20 := Try.sizeOf20
  v20 := Try.zeroValue20
  t70 := Try.underlying69
  a70 := Try.isAgg69
  z70 := Try.sizeOf69
  v70 := Try.zeroValue69
  t72 := Try.underlying71
  a72 := Try.isAgg71
  z72 := Try.sizeOf71
  v72 := Try.zeroValue71
  t164 := Try.underlying90
  a164 := Try.isAgg90
  z164 := Try.sizeOf90
  v164 := Try.zeroValue90
}
def Try.lb166_ren : Go.Shelf.Ren := ⟨fun | 166 => 42 | 240 => 54 | 276 => 57 | n => n, fun | 0 => 0 | 3 => 3 | 4 => 4 | 5 => 5 | 9 => 9 | 20 => 20 | 37 => 38 | 70 => 69 | 72 => 71 | 75 => 73 | 80 => 78 | 164 => 90 | n => n, fun | n => n⟩
theorem Try.lb166 : Go.Proofs.Lays.n166 Try.prog Try.lb166_ren := {
  mixed := by kernel_rfl
  f166 := Try.func42.trans (congrArg some (by kernel_rfl))
  f240 := Try.func54.trans (congrArg some (by kernel_rfl))
  f276 := Try.func57.trans (congrArg some (by kernel_rfl))
  t0 := Try.underlying0
  a0 := Try.isAgg0
  z0 := Try.sizeOf0
  v0 := Try.zeroValue0
  t3 := Try.underlying3
  a3 := Try.isAgg3
  z3 := Try.sizeOf3
  v3 := Try.zeroValue3
  t4 := Try.underlying4
  a4 := Try.isAgg4
  z4 := Try.sizeOf4
  v4 := Try.zeroValue4
  t9 := Try.underlying9
  a9 := Try.isAgg9
  z9 := Try.sizeOf9
  v9 := Try.zeroValue9
  t20 := Try.underlying20
  a20 := Try.isAgg20
  z20 := Try.sizeOf20
  v20 := Try.zeroValue20
  t37 := Try.underlying38
  a37 := Try.isAgg38
  z37 := Try.sizeOf38
  v37 := Try.zeroValue38
  t70 := Try.underlying69
  a70 := Try.isAgg69
  z70 := Try.sizeOf69
  v70 := Try.zeroValue69
  t72 := Try.underlying71
  a72 := Try.isAgg71
  z72 := Try.sizeOf71
  v72 := Try.zeroValue71
  t75 := Try.underlying73
  a75 := Try.isAgg73
  z75 := Try.sizeOf73
  v75 := Try.zeroValue73
  t164 := Try.underlying90
  a164 := Try.isAgg90
  z164 := Try.sizeOf90
  v164 := Try.zeroValue90
}
def Try.lb169_ren : Go.Shelf.Ren := ⟨fun | 169 => 44 | n => n, fun | 0 => 0 | 3 => 3 | 5 => 5 | 9 => 9 | 37 => 38 | 70 => 69 | 72 => 71 | 127 => 88 | n => n, fun | n => n⟩
theorem Try.lb169 : Go.Proofs.Lays.n169 Try.prog Try.lb169_ren := {
  mixed := by kernel_rfl
  f169 := Try.func44.trans (congrArg some (by kernel_rfl))
  t0 := Try.underlying0
  a0 := Try.isAgg0
  z0 := Try.sizeOf0
  v0 := Try.zeroValue0
  t3 := Try.underlying3
  a3 := Try.isAgg3
  z3 := Try.sizeOf3
  v3 := Try.zeroValue3
  t9 := Try.underlying9
  a9 := Try.isAgg9
  z9 := Try.sizeOf9
  v9 := Try.zeroValue9
  t37 := Try.underlying38
  a37 := Try.isAgg38
  z37 := Try.sizeOf38
  v37 := Try.zeroValue38
  t70 := Try.underlying69
  a70 := Try.isAgg69
  z70 := Try.sizeOf69
  v70 := Try.zeroValue69
  t72 := Try.underlying71
  a72 := Try.isAgg71
  z72 := Try.sizeOf71
  v72 := Try.zeroValue71
  t127 := Try.underlying88
  a127 := Try.isAgg88
  z127 := Try.sizeOf88
  v127 := Try.zeroValue88
}
theorem Try.bx166 : Builder.Extra Try.prog Try.lb166_ren := {
  sizeBuilder := by kernel_rfl
  liesBuilder := by kernel_rfl
  t5 := Try.underlying5
  a5 := Try.isAgg5
  z5 := Try.sizeOf5
  v5 := Try.zeroValue5
  infoByte := by kernel_rfl
  cellsByte := by kernel_rfl
  sizeByte := by kernel_rfl
  neB5 := by decide }
theorem Try.bx169 : Builder.Extra Try.prog Try.lb169_ren := {
  sizeBuilder := by kernel_rfl
  liesBuilder := by kernel_rfl
  t5 := Try.underlying5
  a5 := Try.isAgg5
  z5 := Try.sizeOf5
  v5 := Try.zeroValue5
  infoByte := by kernel_rfl
  cellsByte := by kernel_rfl
  sizeByte := by kernel_rfl
  neB5 := by decide }
open Go.RowKit in
theorem Try.writeString (B b : Nat) (bs : List Value) (s : ByteArray) (w : World) (h : Lib.IsBuilder 71 5 B b bs w) (hlen : bs.length + s.size ≤ 140737488355328) (hBw : B ≤ w.heap.size) :
    Calls Try.prog 42 #[.pointer (some ⟨b, 0, none⟩), .string s] w fun e w' => e = .returned (.tuple #[.int .i64 s.size, .nilIface]) ∧ (Lib.BuilderAt 71 5 B b (.pointer (some ⟨b, 0, none⟩)) (bs ++ Lib.strCells s) w' ∧ Below B w w') := Any.Builder_WriteString Try.lb166 Try.bx166 B b bs s w h hlen hBw
open Go.RowKit in
theorem Try.builderString (B b : Nat) (l : List UInt8) (w : World) (h : Lib.IsBuilder 71 5 B b (Lib.byteCells l) w) (hBw : B ≤ w.heap.size) :
    Calls Try.prog 44 #[.pointer (some ⟨b, 0, none⟩)] w fun e w' => e = .returned (.string ⟨l.toArray⟩) ∧ Below B w w' := Any.Builder_String_any Try.lb169 Try.bx169 B b l w h hBw
end Go.Proofs
