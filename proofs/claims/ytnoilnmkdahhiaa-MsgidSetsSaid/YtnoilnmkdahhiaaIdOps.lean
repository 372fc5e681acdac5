/- msgid.Union, Minus, Both at identities. -/
import Derived.Test.YtnoilnmkdahhiaaRows
import Derived.Test.YtnoilnmkdahhiaaIds
import Derived.Test.YtnoilnmkdahhiaaIdTo
import Derived.Test.YtnoilnmkdahhiaaIdComp
import Derived.Test.YtnoilnmkdahhiaaIdHas
import Derived.Test.YtnoilnmkdahhiaaSetP
import Derived.Test.YtnoilnmkdahhiaaIdMerge
import Derived.WalkKit
import Derived.Lib.Hide
import Derived.Outline
namespace Go.Proofs.Ytnoilnmkdahhiaa
open Go.RowKit

theorem owns_cap {w : World} {B n n' cap : Nat} {e : TypeId} {a : Option Addr} {xs : List Value} (h : w.ownsRow B e 32 (.slice a n' cap) n xs) : n' = n ∧ n ≤ cap := by
  obtain ⟨_, h⟩ := h
  rcases h with ⟨h1, rfl⟩ | ⟨g, c, cur, h1, _, _, h2, _⟩
  · cases h1; simp
  · cases h1; exact ⟨rfl, h2⟩
def keepU : Bool → Bool → Bool := fun _ _ => true
theorem keepU_any (p q : Bool) (w : World) : Calls Try.prog 28 #[.bool p, .bool q] w fun e w' => e = .returned (.bool (keepU p q)) ∧ w = w' := by
  go_enter Try.func28, Try.ntmps28
  cases p <;> cases q <;> (go_wp2; go_ret; exact ⟨rfl, rfl⟩)
theorem union_any (l m : List I32) (hl : l.length ≤ 100000) (hm : m.length ≤ 100000) (ao bo : Option Addr) (c d : Nat) (w : World) (hv : IdsAt w.heap.size ao l w) (hu : IdsAt w.heap.size bo m w) :
    Calls Try.prog 13 #[.slice ao l.length c, .slice bo m.length d] w fun e w' => ∃ v, e = .returned v ∧
      w'.ownsRow w.heap.size 24 32 v (mergeI keepU ((setI l).length + (setI m).length) (setI l) (setI m)).length (idcs (mergeI keepU ((setI l).length + (setI m).length) (setI l) (setI m))) ∧ Below w.heap.size w w' := by
  have HS := Lib.hid (set_any l (by omega) ao c w hv)
  have HU := Lib.hid hu
  clear hv hu
  go_enter Try.func13, Try.ntmps13
  go_wp2_with fail
  refine HS.out.mono ?_
  rintro e w1 ⟨v, rfl, hr, b1⟩
  have hs1 := b1.size
  have HS2 := Lib.hid (set_any m (by omega) bo d w1 ((HU.out.below b1 (Nat.le_refl _)).mono hs1))
  obtain ⟨_, a2, cap2, rfl, _, hia⟩ := idsAt_of_owns hr
  have hc2 := (owns_cap hr).2
  have HIA := Lib.hid hia
  clear hr HS hia
  go_wp2_with fail
  refine HS2.out.mono ?_
  rintro e w2 ⟨v, rfl, hr, b2⟩
  have hs2 := b2.size
  obtain ⟨_, a3, cap3, rfl, _, hib⟩ := idsAt_of_owns hr
  have hc3 := (owns_cap hr).2
  have h1 := setI_le l
  have h2 := setI_le m
  have HM := Lib.hid (merge_any 28 keepU (enters_of Try.func28 (by kernel_rfl) rfl) keepU_any (setI l) (setI m) (by omega) (by omega) a2 a3 cap2 cap3 hc2 hc3 w2 ((HIA.out.below b2 (Nat.le_refl _)).mono hs2) hib)
  have b12 := b1.trans (b2.mono hs1)
  clear hr HS2 hib HIA h1 h2 hc2 hc3
  go_wp2_with fail
  refine HM.out.mono ?_
  rintro e w3 ⟨v, rfl, hr, b3⟩
  have hr' := owns_mono hr (show w.heap.size ≤ w2.heap.size by omega)
  have b4 := b12.trans (b3.mono (by omega))
  obtain ⟨_, a4, cap4, rfl, _, _⟩ := idsAt_of_owns hr
  clear hr HM
  go_wp2
  go_ret
  exact ⟨_, rfl, hr', b4⟩
def keepM : Bool → Bool → Bool := fun p q => p && !q
theorem keepM_any (p q : Bool) (w : World) : Calls Try.prog 29 #[.bool p, .bool q] w fun e w' => e = .returned (.bool (keepM p q)) ∧ w = w' := by
  go_enter Try.func29, Try.ntmps29
  cases p <;> cases q <;> (go_wp2; go_ret; exact ⟨rfl, rfl⟩)
theorem minus_any (l m : List I32) (hl : l.length ≤ 100000) (hm : m.length ≤ 100000) (ao bo : Option Addr) (c d : Nat) (w : World) (hv : IdsAt w.heap.size ao l w) (hu : IdsAt w.heap.size bo m w) :
    Calls Try.prog 14 #[.slice ao l.length c, .slice bo m.length d] w fun e w' => ∃ v, e = .returned v ∧
      w'.ownsRow w.heap.size 24 32 v (mergeI keepM ((setI l).length + (setI m).length) (setI l) (setI m)).length (idcs (mergeI keepM ((setI l).length + (setI m).length) (setI l) (setI m))) ∧ Below w.heap.size w w' := by
  have HS := Lib.hid (set_any l (by omega) ao c w hv)
  have HU := Lib.hid hu
  clear hv hu
  go_enter Try.func14, Try.ntmps14
  go_wp2_with fail
  refine HS.out.mono ?_
  rintro e w1 ⟨v, rfl, hr, b1⟩
  have hs1 := b1.size
  have HS2 := Lib.hid (set_any m (by omega) bo d w1 ((HU.out.below b1 (Nat.le_refl _)).mono hs1))
  obtain ⟨_, a2, cap2, rfl, _, hia⟩ := idsAt_of_owns hr
  have hc2 := (owns_cap hr).2
  have HIA := Lib.hid hia
  clear hr HS hia
  go_wp2_with fail
  refine HS2.out.mono ?_
  rintro e w2 ⟨v, rfl, hr, b2⟩
  have hs2 := b2.size
  obtain ⟨_, a3, cap3, rfl, _, hib⟩ := idsAt_of_owns hr
  have hc3 := (owns_cap hr).2
  have h1 := setI_le l
  have h2 := setI_le m
  have HM := Lib.hid (merge_any 29 keepM (enters_of Try.func29 (by kernel_rfl) rfl) keepM_any (setI l) (setI m) (by omega) (by omega) a2 a3 cap2 cap3 hc2 hc3 w2 ((HIA.out.below b2 (Nat.le_refl _)).mono hs2) hib)
  have b12 := b1.trans (b2.mono hs1)
  clear hr HS2 hib HIA h1 h2 hc2 hc3
  go_wp2_with fail
  refine HM.out.mono ?_
  rintro e w3 ⟨v, rfl, hr, b3⟩
  have hr' := owns_mono hr (show w.heap.size ≤ w2.heap.size by omega)
  have b4 := b12.trans (b3.mono (by omega))
  obtain ⟨_, a4, cap4, rfl, _, _⟩ := idsAt_of_owns hr
  clear hr HM
  go_wp2
  go_ret
  exact ⟨_, rfl, hr', b4⟩
def keepB : Bool → Bool → Bool := fun p q => p && q
theorem keepB_any (p q : Bool) (w : World) : Calls Try.prog 30 #[.bool p, .bool q] w fun e w' => e = .returned (.bool (keepB p q)) ∧ w = w' := by
  go_enter Try.func30, Try.ntmps30
  cases p <;> cases q <;> (go_wp2; go_ret; exact ⟨rfl, rfl⟩)
theorem both_any (l m : List I32) (hl : l.length ≤ 100000) (hm : m.length ≤ 100000) (ao bo : Option Addr) (c d : Nat) (w : World) (hv : IdsAt w.heap.size ao l w) (hu : IdsAt w.heap.size bo m w) :
    Calls Try.prog 16 #[.slice ao l.length c, .slice bo m.length d] w fun e w' => ∃ v, e = .returned v ∧
      w'.ownsRow w.heap.size 24 32 v (mergeI keepB ((setI l).length + (setI m).length) (setI l) (setI m)).length (idcs (mergeI keepB ((setI l).length + (setI m).length) (setI l) (setI m))) ∧ Below w.heap.size w w' := by
  have HS := Lib.hid (set_any l (by omega) ao c w hv)
  have HU := Lib.hid hu
  clear hv hu
  go_enter Try.func16, Try.ntmps16
  go_wp2_with fail
  refine HS.out.mono ?_
  rintro e w1 ⟨v, rfl, hr, b1⟩
  have hs1 := b1.size
  have HS2 := Lib.hid (set_any m (by omega) bo d w1 ((HU.out.below b1 (Nat.le_refl _)).mono hs1))
  obtain ⟨_, a2, cap2, rfl, _, hia⟩ := idsAt_of_owns hr
  have hc2 := (owns_cap hr).2
  have HIA := Lib.hid hia
  clear hr HS hia
  go_wp2_with fail
  refine HS2.out.mono ?_
  rintro e w2 ⟨v, rfl, hr, b2⟩
  have hs2 := b2.size
  obtain ⟨_, a3, cap3, rfl, _, hib⟩ := idsAt_of_owns hr
  have hc3 := (owns_cap hr).2
  have h1 := setI_le l
  have h2 := setI_le m
  have HM := Lib.hid (merge_any 30 keepB (enters_of Try.func30 (by kernel_rfl) rfl) keepB_any (setI l) (setI m) (by omega) (by omega) a2 a3 cap2 cap3 hc2 hc3 w2 ((HIA.out.below b2 (Nat.le_refl _)).mono hs2) hib)
  have b12 := b1.trans (b2.mono hs1)
  clear hr HS2 hib HIA h1 h2 hc2 hc3
  go_wp2_with fail
  refine HM.out.mono ?_
  rintro e w3 ⟨v, rfl, hr, b3⟩
  have hr' := owns_mono hr (show w.heap.size ≤ w2.heap.size by omega)
  have b4 := b12.trans (b3.mono (by omega))
  obtain ⟨_, a4, cap4, rfl, _, _⟩ := idsAt_of_owns hr
  clear hr HM
  go_wp2
  go_ret
  exact ⟨_, rfl, hr', b4⟩
end Go.Proofs.Ytnoilnmkdahhiaa
