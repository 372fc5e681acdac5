/- Moves of a walk through a region that draws its order, by hand: an operation is taken first, or the only one that may come up comes up. -/
import Derived.WalkKit
import Derived.OrdersHeld
import Derived.Deep.RegionHeld
import Derived.Deep.RegionHeld3
import Derived.Deep.MidRow
import Derived.Lib.Hide
import Derived.Test.YtblidphaolgilaaRow
namespace Go.Proofs.Ytblidphaolgilaa
open Go.RowKit

section
variable {P : Program} {l rest : List Oper} {oi : Oper} {Q : Exit → Act → World → Prop} {md : Region.Mode} {S : World → Prop} {fuel : Nat} {listed : Array Bool} {a : Act} {w : World}
theorem drop_at {i : Nat} (hl : l.drop i = oi :: rest) : l.toArray[i]? = some oi := by
  have h : (l.drop i)[0]? = some oi := by rw [hl]; rfl
  rw [List.getElem?_drop, Nat.add_zero] at h
  simpa using h
theorem takeL (i : Nat) {v : Value} (hl : l.drop i = oi :: rest) (hs : Region.noSelect l.toArray = true) (hf : Region.free md l.toArray listed i = true) (hr : (Region.ready md l.toArray listed).contains i = true)
    (hQ : ∀ c a w, Q (.panic c) (a.put oi.dst v) w → Q (.panic c) a w) (hw : Region.wanted oi (yielded l.toArray a.tmps) = true) (hS : S w)
    (hy : ∀ w, S w → (execOp a.eval oi).run P w = .ok (.value v) w)
    (h : wpAnyH P md l.toArray Q S fuel (listed.setIfInBounds i true) (a.put oi.dst v) w) : wpAnyH P md l.toArray Q S (fuel + 1) listed a w :=
  wpAnyH_take (drop_at hl) hs hf hr hQ (.inl ⟨hw, hy⟩) hS h
theorem skipL (i : Nat) (hl : l.drop i = oi :: rest) (hs : Region.noSelect l.toArray = true) (hf : Region.free md l.toArray listed i = true) (hr : (Region.ready md l.toArray listed).contains i = true)
    (hQ : ∀ c a w, Q (.panic c) (a.put oi.dst undef) w → Q (.panic c) a w) (hw : Region.wanted oi (yielded l.toArray a.tmps) = false) (hS : S w)
    (h : wpAnyH P md l.toArray Q S fuel (listed.setIfInBounds i true) (a.put oi.dst undef) w) : wpAnyH P md l.toArray Q S (fuel + 1) listed a w :=
  wpAnyH_take (drop_at hl) hs hf hr hQ (.inr ⟨hw, rfl⟩) hS h
theorem takeRow (i : Nat) (hl : l.drop i = oi :: rest) (hs : Region.noSelect l.toArray = true) (hf : Region.free md l.toArray listed i = true) (hr : (Region.ready md l.toArray listed).contains i = true)
    (ty : TypeId) (x : Operand) (ho : oi.op = .load ty x) (b o : Nat) (hx : a.eval x = .pointer (some ⟨b, o, none⟩)) (cs : List Value) (d : TypeDesc)
    (hQ : ∀ c a w, Q (.panic c) (a.put oi.dst (.agg cs.toArray)) w → Q (.panic c) a w) (hw : Region.wanted oi (yielded l.toArray a.tmps) = true) (hS : S w)
    (hc : ∀ w, S w → w.rangeAt b o cs) (hu : P.underlying ty = some d) (hd : d.isRow = true) (hi : (P.info? ty).map (·.size) = some cs.length)
    (h : wpAnyH P md l.toArray Q S fuel (listed.setIfInBounds i true) (a.put oi.dst (.agg cs.toArray)) w) : wpAnyH P md l.toArray Q S (fuel + 1) listed a w :=
  wpAnyH_take (drop_at hl) hs hf hr hQ (yieldsIf_load_mid hw ty x ho b o hx cs d hc hu hd hi) hS h
theorem heavyL (i : Nat) (hl : l.drop i = oi :: rest) (hr : Region.ready md l.toArray listed = [i])
    (h : ∀ K' : Act → World → Prop, Shut (∀ a w, S w → (S w → wpAnyH P md l.toArray Q S fuel (listed.setIfInBounds i true) a w) → K' a w) → if Region.wanted oi (yielded l.toArray a.tmps) = true then Oper.wp P oi a w K' Q else K' (a.put oi.dst undef) w) :
    wpAnyH P md l.toArray Q S (fuel + 1) listed a w :=
  wpAnyH_ready hr (by simp) (AllReadyH.cons (drop_at hl) h AllReadyH.nil)
/-- a whole array goes into the block of a variable: the world behind it under a name -/
theorem wp_store_abs {P : Program} {o : Oper} {a : Act} {w : World} {K : Act → World → Prop} {Q : Exit → Act → World → Prop} (ty : TypeId) (x y : Operand) (ho : o.op = .store ty x y)
    (g : Nat) (cells : Array Value) (hx : a.eval x = .pointer (some ⟨g, 0, none⟩)) (hy : a.eval y = .agg cells)
    (t : TypeId) (old : Array Value) (hg : w.heap[g]? = some (.cells old t (0, 0))) (hi : (P.info? ty).map (·.size) = some cells.size)
    (hold : old.size = cells.size) (h1 : cells.all (·.oneCell') = true) (B : Nat) (w0 : World) (hb : Below B w0 w) (hBg : B ≤ g)
    (h : ∀ w', Hid (w'.heap[g]? = some (.cells cells t (0, 0))) → Below B w0 w' → Hid (∀ k, k ≠ g → w'.heap[k]? = w.heap[k]?) → K (a.put o.dst undef) w') : o.wp P a w K Q :=
  wp_store_row ty x y ho g cells hx hy t old hg hi hold h1
    (h _ (Lib.hid (setRow_heap _ _ _ _ _ _ hg)) (below_setRow hb hBg _) (Lib.hid (fun k hk => setRow_other w g k cells hk)))
end
end Go.Proofs.Ytblidphaolgilaa
