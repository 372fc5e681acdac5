/- msgid.Set and msgid.Has. -/
import Derived.Test.YtnoilnmkdahhiaaRows
import Derived.Test.YtnoilnmkdahhiaaIds
import Derived.Test.YtnoilnmkdahhiaaIdTo
import Derived.Test.YtnoilnmkdahhiaaIdLib
import Derived.Test.YtnoilnmkdahhiaaIdSet
import Derived.Test.YtnoilnmkdahhiaaIdComp
import Derived.WalkKit
import Derived.OwnWalk
import Derived.WalkSpells
import Derived.WalkLawsBesides
import Derived.Lib.Hide
import Derived.Deep.QuietTactic
import Derived.BigQuiet
import Derived.Deep.MidRow
import Derived.Outline
namespace Go.Proofs.Ytnoilnmkdahhiaa
open Go.RowKit

theorem rangeAt_row' {w : World} {g : Nat} {cs : List Value} {t : TypeId} {fr : Nat × Nat} (h : w.heap[g]? = some (.cells cs.toArray t fr)) : w.rangeAt g 0 cs := fun j v hv => by
  rw [Nat.zero_add, cell_of_row w g j cs.toArray t fr h]; simpa using hv
/-- the set of a list -/
def setI (l : List I32) : List I32 := ded (sortI l)
theorem setI_mem (l : List I32) (x : I32) : x ∈ setI l ↔ x ∈ l := by
  unfold setI
  rw [ded_mem]
  unfold sortI
  exact List.mem_mergeSort
theorem setI_le (l : List I32) : (setI l).length ≤ l.length := by
  unfold setI
  have := ded_le (sortI l)
  rw [sortI_len] at this
  exact this

theorem set_any (l : List I32) (hl : l.length ≤ 1000000) (ao : Option Addr) (c : Nat) (w : World) (hv : IdsAt w.heap.size ao l w) :
    Calls Try.prog 10 #[.slice ao l.length c] w fun e w' => ∃ v, e = .returned v ∧
      w'.ownsRow w.heap.size 24 32 v (setI l).length (idcs (setI l)) ∧ Below w.heap.size w w' := by
  have b1 : Below w.heap.size w (w.alloc (.cells #[.slice ao l.length c] 22)) := (Below.refl _ w).alloc (Nat.le_refl _) _
  have hv1 := (hv.below b1 (Nat.le_refl _)).mono (B' := (w.alloc (.cells #[.slice ao l.length c] 22)).heap.size) (by simp)
  have HS := Lib.hid (sorted_any l hl ao c w.heap.size _ hv1 (by simp) (Boxed.new w 22 (.slice ao l.length c)).cell)
  clear hv hv1
  go_enter Try.func10, Try.ntmps10
  go_wp2_with fail
  refine (values_any ao l.length c w).mono ?_
  rintro e w1 ⟨rfl, rfl⟩
  go_wp2_with fail
  refine HS.out.mono ?_
  rintro e w2 ⟨v, rfl, hr, b2⟩
  have HC := Lib.hid (compact_any _ _ _ (sortI l) (by rw [sortI_len]; exact hl) _ hr)
  have hlt := hr.lt
  obtain ⟨_, a2, cap2, rfl, _, _⟩ := idsAt_of_owns hr
  have b2' := b1.trans (b2.mono (by simp))
  go_wp2_with fail
  refine HC.out.mono ?_
  rintro e w3 ⟨v', rfl, hr3, g3⟩
  have b3 := b2'.grown g3 b2'.size (fun k hk => by have := (hlt k hk).1; simp at this; omega)
  obtain ⟨_, a3, cap3, rfl, _, _⟩ := idsAt_of_owns hr3
  have hr3' : w3.ownsRow w.heap.size 24 32 (.slice a3 (ded (sortI l)).length cap3) (ded (sortI l)).length (idcs (ded (sortI l))) := owns_mono hr3 (by simp)
  clear hr hr3 HC HS
  go_wp2
  go_ret
  exact ⟨_, rfl, hr3', b3⟩

set_option maxHeartbeats 800000 in
theorem index_nil (x : I32) (ao : Option Addr) (c : Nat) (w : World) :
    Calls Try.prog 37 #[.slice ao 0 c, .agg (encI x).toArray] w fun e w' => e = .returned (.int .i64 (-1)) ∧ Below w.heap.size w w' := by
  have b1 : Below w.heap.size w (w.alloc (.cells (encI x).toArray 24)) := (Below.refl _ w).alloc (Nat.le_refl _) _
  go_enter Try.func37, Try.ntmps37
  go_wp2_with fail
  go_loopw [8] (fun i wr => i = .int .i64 0 ∧ Below w.heap.size w wr) (fun _ _ => 0)
  case atStart => exact ⟨rfl, b1⟩
  case round =>
    obtain ⟨rfl, hB⟩ := hrel
    go_wp2
    go_ret
    exact ⟨rfl, hB⟩
set_option maxHeartbeats 800000 in
theorem contains_nil (x : I32) (ao : Option Addr) (c : Nat) (w : World) :
    Calls Try.prog 22 #[.slice ao 0 c, .agg (encI x).toArray] w fun e w' => e = .returned (.bool false) ∧ Below w.heap.size w w' := by
  have b1 : Below w.heap.size w (w.alloc (.cells (encI x).toArray 24)) := (Below.refl _ w).alloc (Nat.le_refl _) _
  have HX := Lib.hid (rangeAt_row' (heap_alloc_new w (.cells (encI x).toArray 24)))
  have HS := Lib.hid (idSize x)
  have HI := Lib.hid (index_nil x ao c)
  go_enter Try.func22, Try.ntmps22
  go_wp2_with (refine wpList_load_mid rfl _ _ rfl w.heap.size 0 rfl (encI x) _ HX.out Try.underlying24 rfl HS.out ?_)
  refine (HI.out _).mono ?_
  rintro e w2 ⟨rfl, b2⟩
  have c2 := b1.trans (b2.mono (by simp))
  go_wp2
  go_ret
  exact ⟨rfl, c2⟩
theorem contains_any (l : List I32) (x : I32) (hl : l.length ≤ 1000000) (ao : Option Addr) (c : Nat) (w : World) (hv : IdsAt w.heap.size ao l w) :
    Calls Try.prog 22 #[.slice ao l.length c, .agg (encI x).toArray] w fun e w' => e = .returned (.bool (decide (x ∈ l))) ∧ Below w.heap.size w w' := by
  by_cases h0 : l.length = 0
  · obtain rfl := List.eq_nil_of_length_eq_zero h0
    simpa using contains_nil x ao c w
  · obtain ⟨g, o, rfl, _, _⟩ := hv.at (i := 0) (by omega)
    exact contains_some l x hl g o c w hv
set_option maxHeartbeats 800000 in
theorem has_any (l : List I32) (x : I32) (hl : l.length ≤ 1000000) (ao : Option Addr) (c : Nat) (w : World) (hv : IdsAt w.heap.size ao l w) :
    Calls Try.prog 9 #[.slice ao l.length c, .agg (encI x).toArray] w fun e w' => e = .returned (.bool (decide (x ∈ l))) ∧ Below w.heap.size w w' := by
  have b1 : Below w.heap.size w (w.alloc (.cells (encI x).toArray 24)) := (Below.refl _ w).alloc (Nat.le_refl _) _
  have HX := Lib.hid (rangeAt_row' (heap_alloc_new w (.cells (encI x).toArray 24)))
  have HS := Lib.hid (idSize x)
  have HI := Lib.hid (contains_any l x hl ao c _ ((hv.below b1 (Nat.le_refl _)).mono (by simp)))
  clear hv
  generalize decide (x ∈ l) = r at *
  go_enter Try.func9, Try.ntmps9
  go_wp2_with (refine wpList_load_mid rfl _ _ rfl w.heap.size 0 rfl (encI x) _ HX.out Try.underlying24 rfl HS.out ?_)
  refine HI.out.mono ?_
  rintro e w2 ⟨rfl, b2⟩
  have c2 := b1.trans (b2.mono (by simp))
  go_wp2
  go_ret
  exact ⟨rfl, c2⟩
end Go.Proofs.Ytnoilnmkdahhiaa
