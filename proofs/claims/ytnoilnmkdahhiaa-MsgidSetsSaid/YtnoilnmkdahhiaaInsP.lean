/- Where the reference puts an identity into its row. Plain. -/
import Derived.Test.YtnoilnmkdahhiaaSetP
namespace Go.Proofs.Ytnoilnmkdahhiaa

theorem insI_at (x : I32) : ∀ (l : List I32) (k : Nat), k ≤ l.length → (∀ j (h : j < l.length), j < k → ltI l[j] x = true) → (∀ h : k < l.length, ltI l[k] x = false) → insI x l = l.take k ++ [x] ++ l.drop k
  | [], k, _, _, _ => by simp [insI]
  | a :: l, 0, _, _, h2 => by
    have := h2 (by simp)
    simp only [List.getElem_cons_zero] at this
    simp [insI, this]
  | a :: l, k + 1, hk, h1, h2 => by
    have h0 := h1 0 (by simp) (by omega)
    simp only [List.getElem_cons_zero] at h0
    have ih := insI_at x l k (by simpa using hk) (fun j h hj => by have := h1 (j + 1) (by simpa using h) (by omega); simpa using this) (fun h => by have := h2 (by simpa using h); simpa using this)
    simp [insI, h0, ih]
theorem ltI_cf (x y : I32) : ltI x y = true ↔ cfI x y < 0 := by unfold ltI ltOf; simp
end Go.Proofs.Ytnoilnmkdahhiaa
