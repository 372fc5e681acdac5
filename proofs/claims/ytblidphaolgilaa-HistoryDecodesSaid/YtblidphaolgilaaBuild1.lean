/- A slice literal of one element that is an array or a struct. -/
import Derived.WalkKit
import Derived.Great.BuildSlice
import Derived.Great.FillDense
import Derived.Lib.Hide
import Derived.Deep.QuietTactic
namespace Go.Proofs.Ytblidphaolgilaa
open Go.RowKit

theorem fill_one (n : Nat) (hn : 0 < n) (cells : Array Value) (hc : cells.size = 1 * n) (cs : List Value) (hl : cs.length = n) :
    Instr.fill (fun i => some (i * n, n)) cells [(0, Value.agg cs.toArray)] = some cs.toArray := by
  have h := Great.fill_whole (s := n) hn [Value.agg cs.toArray] cells (fun v hv => by rw [List.mem_singleton] at hv; subst hv; simpa [Value.cells] using hl) (by simp [hc])
  simp only [List.zipIdx_cons, List.zipIdx_nil, List.map_cons, List.map_nil] at h
  rw [h]
  simp [Value.cells]
theorem run_build1 {P : Program} (w : World) (t e : TypeId) (cs : List Value) (ie : TypeInfo) (z : Value)
    (hu : P.underlying t = some (.slice e)) (hie : P.info? e = some ie) (hz : ie.zero = some z) (hsz : ie.size = cs.length) (hpos : 0 < cs.length) (hsmall : cs.length ≤ 16777216) :
    (Instr.buildSlice t 1 #[(0, .agg cs.toArray)]).run P w = .ok (.slice (some ⟨w.heap.size, 0, none⟩) 1 1) (w.alloc (.cells cs.toArray e)) :=
  run_buildSlice w t e 1 _ cs.toArray ie z hu hie hz (by rw [hsz]; omega) (by rw [hsz]; omega) (by rw [hsz]; exact fill_one cs.length hpos _ (by simp) cs rfl)
theorem wpList_build1 {P : Program} {ops : Array Oper} {rest : List Oper} {o : Oper} {a : Act} {w : World} {Q : Exit → Act → World → Prop} (hg : o.guard = none) (t e : TypeId) (x : Operand) (ho : o.op = .buildSlice t 1 #[(0, x)])
    (cs : List Value) (hx : a.eval x = .agg cs.toArray) (ie : TypeInfo) (z : Value)
    (hu : P.underlying t = some (.slice e)) (hie : P.info? e = some ie) (hz : ie.zero = some z) (hsz : ie.size = cs.length) (hpos : 0 < cs.length) (hsmall : cs.length ≤ 16777216)
    (h : wpList P ops Q rest (a.put o.dst (.slice (some ⟨w.heap.size, 0, none⟩) 1 1)) (w.alloc (.cells cs.toArray e))) : wpList P ops Q (o :: rest) a w := by
  refine wpList_buildSlice hg t e 1 _ ho cs.toArray ie z hu hie hz (by rw [hsz]; omega) (by rw [hsz]; omega) ?_ h
  have e1 : ((#[(0, x)] : Array (Nat × Operand)).map fun (i, x) => (i, a.eval x)).toList = [(0, Value.agg cs.toArray)] := by simp [hx]
  rw [e1, hsz]
  exact fill_one cs.length hpos _ (by simp) cs rfl
theorem news_of_block0 {w : World} {B : Nat} {cs : List Value} {t : TypeId} {fr : Nat × Nat} (hb : w.heap[B]? = some (.cells cs.toArray t fr)) : ∀ j u, cs[j]? = some u → w.cell? ((⟨B, 0, none⟩ : Addr).add j) = some u := fun j u hu => by
  have hadd : (⟨B, 0, none⟩ : Addr).add j = ⟨B, j, none⟩ := by unfold Addr.add; split <;> simp_all
  rw [hadd, cell_of_row w B j cs.toArray t fr hb]
  simpa using hu
end Go.Proofs.Ytblidphaolgilaa
