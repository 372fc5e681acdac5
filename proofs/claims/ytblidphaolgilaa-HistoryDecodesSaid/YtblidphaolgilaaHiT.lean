/- Structs of an array of 32 cells and four more, laid together: by the kernel. -/
import Derived.Test.YtblidphaolgilaaProg
import Derived.Test.YtblidphaolgilaaHiP
import Derived.WalkKit
import Derived.Laws.Tables
namespace Go.Proofs.Ytblidphaolgilaa
open Go.RowKit
set_option maxRecDepth 100000
set_option linter.unusedVariables false
theorem list32 (L : List Value) (h : L.length = 32) : ∃ a0 a1 a2 a3 a4 a5 a6 a7 a8 a9 a10 a11 a12 a13 a14 a15 a16 a17 a18 a19 a20 a21 a22 a23 a24 a25 a26 a27 a28 a29 a30 a31, L = [a0, a1, a2, a3, a4, a5, a6, a7, a8, a9, a10, a11, a12, a13, a14, a15, a16, a17, a18, a19, a20, a21, a22, a23, a24, a25, a26, a27, a28, a29, a30, a31] := by
  match L, h with
  | [a0, a1, a2, a3, a4, a5, a6, a7, a8, a9, a10, a11, a12, a13, a14, a15, a16, a17, a18, a19, a20, a21, a22, a23, a24, a25, a26, a27, a28, a29, a30, a31], _ => exact ⟨a0, a1, a2, a3, a4, a5, a6, a7, a8, a9, a10, a11, a12, a13, a14, a15, a16, a17, a18, a19, a20, a21, a22, a23, a24, a25, a26, a27, a28, a29, a30, a31, rfl⟩
theorem built_ent (x : Ent) : Try.prog.built 29 [(0, .agg (encI x.id).toArray), (1, .int .i64 x.arr.1), (2, .int .i64 x.dat.1), (3, .int .i64 x.st.1), (4, .bool x.perm)] = some (encE x).toArray := by
  unfold encE
  generalize x.arr.1 = k1
  generalize x.dat.1 = k2
  generalize x.st.1 = k3
  generalize x.perm = b
  obtain ⟨a0, a1, a2, a3, a4, a5, a6, a7, a8, a9, a10, a11, a12, a13, a14, a15, a16, a17, a18, a19, a20, a21, a22, a23, a24, a25, a26, a27, a28, a29, a30, a31, h⟩ := list32 (encI x.id) (encI_len _)
  rw [h]
  show Try.prog.built 29 [(0, .agg #[a0, a1, a2, a3, a4, a5, a6, a7, a8, a9, a10, a11, a12, a13, a14, a15, a16, a17, a18, a19, a20, a21, a22, a23, a24, a25, a26, a27, a28, a29, a30, a31]), (1, .int .i64 k1), (2, .int .i64 k2), (3, .int .i64 k3), (4, .bool b)] = some #[a0, a1, a2, a3, a4, a5, a6, a7, a8, a9, a10, a11, a12, a13, a14, a15, a16, a17, a18, a19, a20, a21, a22, a23, a24, a25, a26, a27, a28, a29, a30, a31, .int .i64 k1, .int .i64 k2, .int .i64 k3, .bool b]
  kernel_rfl
theorem built_rx (x : Ent) : Try.prog.built 24 [(0, .agg (encI x.id).toArray), (1, .int .i64 x.arr.1), (2, .int .i64 x.dat.1), (3, .int .i64 x.st.1), (4, .bool x.perm)] = some (encE x).toArray := by
  unfold encE
  generalize x.arr.1 = k1
  generalize x.dat.1 = k2
  generalize x.st.1 = k3
  generalize x.perm = b
  obtain ⟨a0, a1, a2, a3, a4, a5, a6, a7, a8, a9, a10, a11, a12, a13, a14, a15, a16, a17, a18, a19, a20, a21, a22, a23, a24, a25, a26, a27, a28, a29, a30, a31, h⟩ := list32 (encI x.id) (encI_len _)
  rw [h]
  show Try.prog.built 24 [(0, .agg #[a0, a1, a2, a3, a4, a5, a6, a7, a8, a9, a10, a11, a12, a13, a14, a15, a16, a17, a18, a19, a20, a21, a22, a23, a24, a25, a26, a27, a28, a29, a30, a31]), (1, .int .i64 k1), (2, .int .i64 k2), (3, .int .i64 k3), (4, .bool b)] = some #[a0, a1, a2, a3, a4, a5, a6, a7, a8, a9, a10, a11, a12, a13, a14, a15, a16, a17, a18, a19, a20, a21, a22, a23, a24, a25, a26, a27, a28, a29, a30, a31, .int .i64 k1, .int .i64 k2, .int .i64 k3, .bool b]
  kernel_rfl
theorem wpList_build_to {P : Program} {ops : Array Oper} {rest : List Oper} {o : Oper} {a : Act} {w : World} {Q : Exit → Act → World → Prop} (hg : o.guard = none) (t : TypeId) (parts : Array (Nat × Operand)) (ho : o.op = .build t parts)
    (vs : List (Nat × Value)) (hv : (parts.map fun (i, x) => (i, a.eval x)).toList = vs) (cells : Array Value) (hb : P.built t vs = some cells)
    (h : wpList P ops Q rest (a.put o.dst (.agg cells)) w) : wpList P ops Q (o :: rest) a w :=
  wpList_build hg t parts ho (by rw [hv, hb]; rfl) (by rw [hv, hb]; exact h)
end Go.Proofs.Ytblidphaolgilaa
