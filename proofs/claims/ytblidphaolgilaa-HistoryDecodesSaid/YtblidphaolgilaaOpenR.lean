/- Opening an argument that is a slice of elements of k cells each. -/
import Derived.Test.YtblidphaolgilaaRowK
import Derived.Test.YtblidphaolgilaaOpenId
import Derived.ProofKit
import Derived.OpenShut
import Derived.Deep.Slices
import Derived.WideShapes
import Derived.ChangeArms
namespace Go.Proofs.Ytblidphaolgilaa
open Go.RowKit Go.WideShapes

/-- a slice of elements from without -/
def RowsArg {α : Type} (enc : α → List Value) (k : Nat) (v : Value) (l : List α) (W : World) : Prop := ∃ ao c, v = .slice ao l.length c ∧ l.length ≤ c ∧ c ≤ maxLen ∧ (ao = none → l.length = 0 ∧ c = 0) ∧ RowsAt enc k W.heap.size ao l W
theorem open_rows {α : Type} [Inhabited α] {encA : α → List Value} {k : Nat} (hk : ∀ x, (encA x).length = k) (hk0 : 0 < k) {H : Type} {enc : TypeId × Value → H} {P : Program} {W : World} {base : Nat} {T e : TypeId} {v : Value} {d : DataW H} {p : List MemPlace}
    (ht : P.underlying T = some (.slice e)) (ce : P.cellsOf e = k) (hE : ∀ fuel cs x, DataW.trod enc P W 0 (fun _ => true) true fuel e cs = some x → ∃ a, cs = encA a)
    (hval : Value.okWide P W .any base T v) (h : DataW.Trod enc P W 0 (fun _ => true) true T v d p) : ∃ l, RowsArg encA k v l W := by
  obtain ⟨a1, len, cap, rfl⟩ := okWide_slice ht hval
  obtain ⟨fuel, hf⟩ := h
  rcases Go.Deep.open_slice ht hf with ⟨hcs, _⟩ | ⟨a, len', cap', m, n, D, Pl, hcs, _, hl, hm, hmm, _, hr⟩
  · simp [Value.cells] at hcs
    obtain ⟨rfl, rfl, rfl⟩ := hcs
    exact ⟨[], none, 0, rfl, Nat.le_refl _, Nat.zero_le _, fun _ => ⟨rfl, rfl⟩, fun i hi => absurd hi (Nat.not_lt_zero _)⟩
  · simp [Value.cells] at hcs
    obtain ⟨rfl, rfl, rfl⟩ := hcs
    simp only [if_true] at hmm
    subst hmm
    have each : ∀ i, i < m → ∃ b : α, ∀ j, j < k → W.cell? ((a.add (i * k)).add j) = (encA b)[j]? := by
      intro i hi
      obtain ⟨cs', hc, htr⟩ := hr i hi
      rw [ce] at hc
      obtain ⟨_, hlen, hat⟩ := World.cells?_some hc
      obtain ⟨b, hcs⟩ := hE _ _ _ htr
      exact ⟨b, fun j hj => by rw [hat j hj, hcs]⟩
    obtain ⟨f, hfI⟩ : ∃ f : Nat → α, ∀ i, i < m → ∀ j, j < k → W.cell? ((a.add (i * k)).add j) = (encA (f i))[j]? :=
      ⟨fun i => if h : i < m then Classical.choose (each i h) else default, fun i hi => by dsimp only; rw [dif_pos hi]; exact Classical.choose_spec (each i hi)⟩
    refine ⟨(List.range len).map f, some a, m, by simp, by simpa using hl, hm, (fun h => by cases h), fun i hi => ?_⟩
    simp only [List.length_map, List.length_range] at hi
    obtain ⟨ab, ao, spot⟩ := a
    have h00 := hfI i (by omega) 0 hk0
    rw [List.getElem?_eq_getElem (by rw [hk]; exact hk0)] at h00
    have hspot : spot = none := by
      have h0 := hfI 0 (by omega) 0 hk0
      rw [List.getElem?_eq_getElem (by rw [hk]; exact hk0)] at h0
      simpa [Addr.add] using World.cell?_spot h0
    subst hspot
    rw [Addr.add_mid, Addr.add_mid] at h00
    refine ⟨ab, ao, rfl, World.block_lt_of_cell? W _ h00, fun j v hv => ?_⟩
    have hj : j < k := by have := (List.getElem?_eq_some_iff.1 hv).1; rwa [hk] at this
    have := hfI i (by omega) j hj
    rw [Addr.add_mid, Addr.add_mid] at this
    rw [this, ← hv]
    simp
end Go.Proofs.Ytblidphaolgilaa
