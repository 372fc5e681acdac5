/- A row of one-cell elements that a slice reads, in a world: what keeps it. -/
import Derived.RangeFuncNested
import Derived.RangeFuncBound
import Derived.RangeFuncBox
import Derived.Below
import Derived.Lib.Hide
import Derived.Maps.AppendAt
import Derived.WalkKit
namespace Go.Proofs.Ytefncnmahimgpaa
open Go.RowKit

/-- the cells from an address on hold the values, in blocks below B -/
def RowAt (B : Nat) (a : Option Addr) (L : List Value) (W : World) : Prop := ∀ j (h : j < L.length), ∃ g, a = some ⟨g, 0, none⟩ ∧ g < B ∧ W.cell? ⟨g, j, none⟩ = some L[j]
theorem rowAt_of_owns {w : World} {B n : Nat} {e : TypeId} {v : Value} {xs : List Value} (h : w.ownsRow B e 1 v n xs) : ∃ ao cap, v = .slice ao n cap ∧ RowAt w.heap.size ao xs w := by
  have h' := h
  obtain ⟨hl, ⟨rfl, rfl⟩ | ⟨g, cap, cur, rfl, h2, h3, h4, h5, h6, h7⟩⟩ := h
  · exact ⟨none, 0, rfl, fun j hj => absurd (by rw [hl] at hj; omega) (Nat.not_lt_zero j)⟩
  · refine ⟨_, cap, rfl, fun j hj => ⟨g, rfl, (Array.getElem?_eq_some_iff.1 h3).1, ?_⟩⟩
    rw [← List.getElem?_eq_getElem hj]
    exact h'.cellAt j (by omega)
theorem RowAt.below {B n₀ : Nat} {a : Option Addr} {L : List Value} {W W' : World} (h : RowAt B a L W) (hb : Below n₀ W W') (hB : B ≤ n₀) : RowAt B a L W' := fun j hj => by
  obtain ⟨g, e, hg, hc⟩ := h j hj
  exact ⟨g, e, hg, (hb.cell (p := ⟨g, j, none⟩) (Nat.lt_of_lt_of_le hg hB)).trans hc⟩
theorem RowAt.set {B b o : Nat} {a : Option Addr} {L : List Value} {W : World} (h : RowAt B a L W) (hB : B ≤ b) (v : Value) : RowAt B a L (W.setCell ⟨b, o, none⟩ v) := fun j hj => by
  obtain ⟨g, e, hg, hc⟩ := h j hj
  refine ⟨g, e, hg, ?_⟩
  rw [World.cell?_setCell_other _ _ _ _ (by intro e'; cases e'; omega)]
  exact hc
theorem rowAt_own {β : Type} (B : Nat) (a : Option Addr) (L : List Value) : Own (fun (_ : β) W => RowAt B a L W) := fun s A B' row hs hg hr j hj => by
  obtain ⟨g, e, hb, hc⟩ := hs j hj
  exact ⟨g, e, hb, cell_kept hc hg hr⟩
theorem RowAt.at {B : Nat} {a : Option Addr} {L : List Value} {W : World} (h : RowAt B a L W) {j : Nat} (hj : j < L.length) : ∃ g, a = some ⟨g, 0, none⟩ ∧ g < B ∧ W.cell? ⟨g, j, none⟩ = some L[j] := h j hj
end Go.Proofs.Ytefncnmahimgpaa
