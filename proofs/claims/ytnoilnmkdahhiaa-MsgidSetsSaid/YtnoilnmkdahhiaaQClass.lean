/- Regions that draw their order and hold calls that may make memory: one walk in the order of the text, over a class of worlds (what is read lies in every world of the class; a callee leads from the class into it). -/
import Derived.WalkKit
import Derived.Deep.Quiet
import Derived.Deep.QuietTactic
import Derived.BigQuiet
import Derived.Laws.Rows
import Derived.Deep.MidRow
import Derived.Lib.Hide
import Derived.Test.YtnoilnmkdahhiaaRow
namespace Go.Proofs.Ytnoilnmkdahhiaa
open Go.RowKit

/-- a world of a class -/
structure WIn (C : World → Prop) where
  w : World
  h : C w
/-- the class, said of a world -/
abbrev InC (C : World → Prop) : World → Prop := fun w' => ∃ s : WIn C, w' = s.w

theorem wp_region_class {P : Program} {id : Nat} {Q : Exit → Act → World → Prop} {a : Act} {w : World} {l : List Oper} (C : World → Prop) (hm : P.follows .mixedOrders = true) (hB : Region.lexB .any l.toArray = true)
    (hC : C w.drew) (h : Nonempty (WIn C) → wpQuiet P l.toArray (InC C) (fun a' => ∀ w', C w' → Q .normal a' w') l a) : (Code.region id l.toArray true).wp P Q a w := by
  refine wp_region_quiet (C := InC C) hm hB ⟨⟨_, hC⟩, rfl⟩ ?_
  have e : (fun a' => ∀ w', C w' → Q .normal a' w') = (fun a' => ∀ w', InC C w' → Q .normal a' w') := by
    funext a'
    apply propext
    exact ⟨fun h w' ⟨s, hs⟩ => hs ▸ h s.w s.h, fun h w' hw => h w' ⟨⟨w', hw⟩, rfl⟩⟩
  rw [e] at h
  simpa using h ⟨⟨_, hC⟩⟩

theorem quiet_load_row {P : Program} {C : World → Prop} {o : Oper} {a : Act} {K : Act → Prop} (ty : TypeId) (x : Operand) (ho : o.op = .load ty x)
    (g : Nat) (hx : a.eval x = .pointer (some ⟨g, 0, none⟩)) (t : TypeId) (cs : Array Value) (fr : Nat × Nat) (d : TypeDesc) (hg : ∀ s : WIn C, s.w.heap[g]? = some (.cells cs t fr))
    (hu : P.underlying ty = some d) (hd : (match d with | .struct _ | .array _ _ => true | _ => false) = true) (hi : (P.info? ty).map (·.size) = some cs.size)
    (h : K (a.put o.dst (.agg cs))) : o.quiet P a (InC C) K := by
  refine ⟨.agg cs, fun w ⟨s, hs⟩ => ?_, h⟩
  subst hs
  unfold Oper.quietAt execOp
  simp only [ho, hx, Instr.loadAt, Instr.sureAddr, Sem.run_bind, Sem.run_pure, Result.andThen_ok, run_loadVar_row s.w g t ty cs fr d (hg s) hu hd hi]
  exact ⟨rfl, rfl⟩
/-- a call that leads from the class into the class -/
theorem calls_class {P : Program} {f : FuncId} {args : Array Value} {C : World → Prop} {w : World} {v : Value} {R : World → Prop}
    (h : Calls P f args w fun e w' => e = .returned v ∧ R w') (hR : ∀ w', R w' → C w') : Calls P f args w fun e w' => e = .returned v ∧ ∃ s : WIn C, w' = s.w :=
  h.mono fun _ w' ⟨he, hr⟩ => ⟨he, ⟨w', hR w' hr⟩, rfl⟩
/-- a load of a whole array in the midst of a block, in every world of the class -/
theorem quiet_load_mid {P : Program} {C : World → Prop} {o : Oper} {a : Act} {K : Act → Prop} (ty : TypeId) (x : Operand) (ho : o.op = .load ty x)
    (g off : Nat) (hx : a.eval x = .pointer (some ⟨g, off, none⟩)) (cs : List Value) (d : TypeDesc) (hg : ∀ s : WIn C, s.w.rangeAt g off cs)
    (hu : P.underlying ty = some d) (hd : d.isRow = true) (hi : (P.info? ty).map (·.size) = some cs.length)
    (h : K (a.put o.dst (.agg cs.toArray))) : o.quiet P a (InC C) K := by
  refine ⟨.agg cs.toArray, fun w ⟨s, hs⟩ => ?_, h⟩
  subst hs
  unfold Oper.quietAt execOp
  simp only [ho, hx, Instr.loadAt, Instr.sureAddr, Sem.run_bind, Sem.run_pure, Result.andThen_ok, run_loadVar_mid s.w g off ty cs d (hg s) hu hd hi]
  exact ⟨rfl, rfl⟩
/-- the worlds in which all that lies below B is as it was -/
abbrev After (B : Nat) (w : World) : World → Prop := fun w' => Below B w w'
end Go.Proofs.Ytnoilnmkdahhiaa
