/- slices.Contains and slices.SortFunc at identities; msgid.Has. -/
import Derived.Test.YtnoilnmkdahhiaaRows
import Derived.Test.YtnoilnmkdahhiaaIds
import Derived.Test.YtnoilnmkdahhiaaIdTo
import Derived.Test.YtnoilnmkdahhiaaShelfL
import Derived.Laws.StructEq
import Derived.WalkKit
import Derived.OwnWalk
import Derived.WalkSpells
import Derived.Lib.Hide
import Derived.Outline
import Derived.Deep.QuietTactic
import Derived.BigQuiet
namespace Go.Proofs.Ytnoilnmkdahhiaa
open Go.RowKit Go.Shelf Go.Lib

theorem eqlAtI : EqlAt Try.prog 24 (fun x : I32 => .agg (encI x).toArray) (fun x y => x.1 == y.1) := by
  refine ⟨fun x y w => ?_, GuardAt.agg _ (by kernel_rfl)⟩
  have h := eqI x y w
  go_simp

theorem contains_some (l : List I32) (x : I32) (hl : l.length ≤ 1000000) (g o c : Nat) (w : World) (hv : IdsAt w.heap.size (some ⟨g, o, none⟩) l w) :
    Calls Try.prog 22 #[.slice (some ⟨g, o, none⟩) l.length c, .agg (encI x).toArray] w fun e w' => e = .returned (.bool (decide (x ∈ l))) ∧ Below w.heap.size w w' := by
  have h := AnyQ.slices_Contains Try.containsId 32 Try.isAgg24 Try.sizeOf24 encI encI_len (fun x y => x.1 == y.1) eqlAtI g o l.length c l x w (Nat.le_refl _) (by omega) (fun j hj i v hiv => by
    obtain ⟨g', o', e, _, hr⟩ := hv.at hj
    cases e
    rw [getElem!_pos l j hj] at hiv
    exact hr i v hiv)
  refine Calls.mono h ?_
  rintro e w' ⟨rfl, b⟩
  refine ⟨?_, b⟩
  rw [List.take_of_length_le (Nat.le_refl _)]
  congr 2
  rw [Bool.eq_iff_iff]
  simp only [List.any_eq_true, beq_iff_eq, decide_eq_true_eq]
  exact ⟨fun ⟨y, hy, e⟩ => by rw [Subtype.ext e]; exact hy, fun h => ⟨x, h, rfl⟩⟩
end Go.Proofs.Ytnoilnmkdahhiaa
