/- The walk of the law MsgidHas. -/
import Derived.Test.YtnoilnmkdahhiaaRows
import Derived.Test.YtnoilnmkdahhiaaIds
import Derived.Test.YtnoilnmkdahhiaaIdTo
import Derived.Test.YtnoilnmkdahhiaaIdHas
import Derived.Test.YtnoilnmkdahhiaaHeld
import Derived.Test.YtnoilnmkdahhiaaKnown
import Derived.WalkKit
import Derived.OwnWalk
import Derived.WalkSpells
import Derived.WalkLawsBesides
import Derived.Lib.Hide
import Derived.Deep.RegionHeld3
import Derived.Deep.MidRow
import Derived.Outline
namespace Go.Proofs.Ytnoilnmkdahhiaa
open Go.RowKit

theorem has_set (m : List I32) (x : I32) (hm : m.length ≤ 1000000) (ao : Option Addr) (c : Nat) (w : World) (hv : IdsAt w.heap.size ao (setI m) w) :
    Calls Try.prog 9 #[.slice ao (setI m).length c, .agg (encI x).toArray] w fun e w' => e = .returned (.bool (decide (x ∈ m))) ∧ Below w.heap.size w w' := by
  have h := has_any (setI m) x (Nat.le_trans (setI_le m) hm) ao c w hv
  simp only [setI_mem] at h
  exact h
set_option maxRecDepth 100000 in
set_option maxHeartbeats 2000000 in
theorem hasl_walk (v : Value) (l : List I32) (x : I32) (w : World) (hv : IdsArg v l w) :
    Calls Try.prog 3 #[v, .agg (encI x).toArray] w fun e w' => e = .returned (.bool true) ∧ Below w.heap.size w w' := by
  obtain ⟨ao, c, rfl, hlc, hcm, hnil, hat⟩ := hv
  unfold maxLen at hcm
  obtain ⟨q, hq⟩ : ∃ q, q = min l.length 40 := ⟨_, rfl⟩
  have hmin : min (l.length : Int) 40 = (q : Int) := by omega
  have hqc : (q : Int) ≤ (c : Int) := by omega
  have hq40 : q ≤ 40 := by omega
  have hlq : (l.take q).length = q := by rw [List.length_take]; omega
  have b1 : Below w.heap.size w (w.alloc (.cells (encI x).toArray 24)) := (Below.refl _ w).alloc (Nat.le_refl _) _
  have hat1 := ((hat.take q).below b1 (Nat.le_refl _)).mono (B' := (w.alloc (.cells (encI x).toArray 24)).heap.size) (by simp)
  obtain ⟨w1, hw1⟩ : ∃ w1, w.alloc (.cells (encI x).toArray 24) = w1 := ⟨_, rfl⟩
  have hx1 := rangeAt_row' (heap_alloc_new w (.cells (encI x).toArray 24))
  have hsz : w.heap.size < w1.heap.size := by rw [← hw1]; simp
  rw [hw1] at hat1 hx1 b1
  clear hq
  generalize l.take q = m at *
  subst hlq
  have HAT := Lib.hid hat1
  have HX := Lib.hid hx1
  have HXS : Hid (∀ w', Below w1.heap.size w1 w' → w'.rangeAt w.heap.size 0 (encI x)) := Lib.hid (fun w' hb => rangeAt_below hx1 hb hsz)
  have HATS : Hid (∀ w', Below w1.heap.size w1 w' → IdsAt w'.heap.size ao m w') := Lib.hid (fun w' hb => (hat1.below hb (Nat.le_refl _)).mono hb.size)
  have HSX := Lib.hid (idSize x)
  have hm6 : m.length ≤ 1000000 := by omega
  have hmin' := Lib.hid hmin
  clear hat1 hx1 hnil hat
  go_enter Try.func3, Try.ntmps3
  go_wp2_with fail
  clear hw1
  refine wp_region_noPanic ?_
  refine wp_region_held_drew (S := fun w' => Below w1.heap.size w1 w') (by kernel_rfl) (Below.refl _ _).drew (fun hHeld => ?_)
  refine takeL 0 (v := ?_) rfl (by kernel_rfl) (by kernel_rfl) (by kernel_rfl) (fun _ _ _ h => h) (by rfl) hHeld ?_ ?_
  rotate_left 1
  · intro w2 hSw; go_simp <;> with_reducible rfl
  try simp only [Act.put, List.setIfInBounds_toArray, List.set_cons_zero, List.set_cons_succ]
  refine takeRow 2 rfl (by kernel_rfl) (by kernel_rfl) (by kernel_rfl) 24 (.tmp 3) rfl w.heap.size 0 rfl (encI x) _ (fun _ _ _ h => h) (by rfl) hHeld HXS.out Try.underlying24 rfl HSX.out ?_
  try simp only [Act.put, List.setIfInBounds_toArray, List.set_cons_zero, List.set_cons_succ]
  refine heavyL 1 rfl (by kernel_rfl) (fun K hK => ?_)
  go_simp
  refine (to_any m hq40 ao c _ (HATS.out _ hHeld)).mono ?_
  rintro e w2 ⟨v2, rfl, hr2, b2⟩
  obtain ⟨_, a2, cap2, rfl, _, hat2⟩ := idsAt_of_owns hr2
  try go_simp
  refine hK.out _ _ (hHeld.trans (b2.mono hHeld.size)) (fun hHeld => ?_)
  clear hK K
  try simp only [Act.put, List.setIfInBounds_toArray, List.set_cons_zero, List.set_cons_succ]
  refine heavyL 3 rfl (by kernel_rfl) (fun K hK => ?_)
  go_simp
  refine (rhas_any m x hm6 a2 cap2 _ hat2).mono ?_
  rintro e w3 ⟨rfl, b3⟩
  try go_simp
  refine hK.out _ _ (hHeld.trans (b3.mono hHeld.size)) (fun hHeld => ?_)
  clear hK K
  try simp only [Act.put, List.setIfInBounds_toArray, List.set_cons_zero, List.set_cons_succ]
  refine takeL 4 (v := ?_) rfl (by kernel_rfl) (by kernel_rfl) (by kernel_rfl) (fun _ _ _ h => h) (by rfl) hHeld ?_ ?_
  rotate_left 1
  · intro w2 hSw; go_simp <;> with_reducible rfl
  try simp only [Act.put, List.setIfInBounds_toArray, List.set_cons_zero, List.set_cons_succ]
  refine wpAnyH_done (by kernel_rfl) ?_ _
  refine NoPanic.normal ?_
  go_wp2_with fail
  have hHeld3 := hHeld
  refine wp_region_noPanic ?_
  refine wp_region_held_drew (S := fun w' => Below w1.heap.size w1 w') (by kernel_rfl) hHeld3.drew (fun hHeld => ?_)
  refine heavyL 0 rfl (by kernel_rfl) (fun K hK => ?_)
  go_simp
  refine (known_any _).mono ?_
  rintro e w4 ⟨rfl, b4⟩
  try go_simp
  refine hK.out _ _ (hHeld.trans (b4.mono hHeld.size)) (fun hHeld => ?_)
  clear hK K
  try simp only [Act.put, List.setIfInBounds_toArray, List.set_cons_zero, List.set_cons_succ]
  refine takeL 1 (v := ?_) rfl (by kernel_rfl) (by kernel_rfl) (by kernel_rfl) (fun _ _ _ h => h) (by rfl) hHeld ?_ ?_
  rotate_left 1
  · intro w2 hSw; go_simp <;> with_reducible rfl
  try simp only [Act.put, List.setIfInBounds_toArray, List.set_cons_zero, List.set_cons_succ]
  refine takeL 2 (v := ?_) rfl (by kernel_rfl) (by kernel_rfl) (by kernel_rfl) (fun _ _ _ h => h) (by rfl) hHeld ?_ ?_
  rotate_left 1
  · intro w2 hSw; go_simp <;> with_reducible rfl
  try simp only [Act.put, List.setIfInBounds_toArray, List.set_cons_zero, List.set_cons_succ]
  refine takeRow 3 rfl (by kernel_rfl) (by kernel_rfl) (by kernel_rfl) 24 (.tmp 3) rfl w.heap.size 0 rfl (encI x) _ (fun _ _ _ h => h) (by rfl) hHeld HXS.out Try.underlying24 rfl HSX.out ?_
  try simp only [Act.put, List.setIfInBounds_toArray, List.set_cons_zero, List.set_cons_succ]
  refine takeL 5 (v := ?_) rfl (by kernel_rfl) (by kernel_rfl) (by kernel_rfl) (fun _ _ _ h => h) (by rfl) hHeld ?_ ?_
  rotate_left 1
  · intro w2 hSw; go_simp <;> with_reducible rfl
  try simp only [Act.put, List.setIfInBounds_toArray, List.set_cons_zero, List.set_cons_succ]
  refine heavyL 4 rfl (by kernel_rfl) (fun K hK => ?_)
  go_simp
  refine (has_any m x hm6 ao c _ (HATS.out _ hHeld)).mono ?_
  rintro e w5 ⟨rfl, b5⟩
  try go_simp
  refine hK.out _ _ (hHeld.trans (b5.mono hHeld.size)) (fun hHeld => ?_)
  clear hK K
  try simp only [Act.put, List.setIfInBounds_toArray, List.set_cons_zero, List.set_cons_succ]
  refine takeL 6 (v := ?_) rfl (by kernel_rfl) (by kernel_rfl) (by kernel_rfl) (fun _ _ _ h => h) (by rfl) hHeld ?_ ?_
  rotate_left 1
  · intro w2 hSw; go_simp <;> with_reducible rfl
  try simp only [Act.put, List.setIfInBounds_toArray, List.set_cons_zero, List.set_cons_succ]
  refine takeL 7 (v := ?_) rfl (by kernel_rfl) (by kernel_rfl) (by kernel_rfl) (fun _ _ _ h => h) (by rfl) hHeld ?_ ?_
  rotate_left 1
  · intro w2 hSw; go_simp <;> with_reducible rfl
  try simp only [Act.put, List.setIfInBounds_toArray, List.set_cons_zero, List.set_cons_succ]
  refine takeL 8 (v := ?_) rfl (by kernel_rfl) (by kernel_rfl) (by kernel_rfl) (fun _ _ _ h => h) (by rfl) hHeld ?_ ?_
  rotate_left 1
  · intro w2 hSw; go_simp <;> with_reducible rfl
  try simp only [Act.put, List.setIfInBounds_toArray, List.set_cons_zero, List.set_cons_succ]
  refine takeL 9 (v := ?_) rfl (by kernel_rfl) (by kernel_rfl) (by kernel_rfl) (fun _ _ _ h => h) (by rfl) hHeld ?_ ?_
  rotate_left 1
  · intro w2 hSw; go_simp <;> with_reducible rfl
  try simp only [Act.put, List.setIfInBounds_toArray, List.set_cons_zero, List.set_cons_succ]
  refine takeRow 11 rfl (by kernel_rfl) (by kernel_rfl) (by kernel_rfl) 24 (.tmp 3) rfl w.heap.size 0 rfl (encI x) _ (fun _ _ _ h => h) (by rfl) hHeld HXS.out Try.underlying24 rfl HSX.out ?_
  try simp only [Act.put, List.setIfInBounds_toArray, List.set_cons_zero, List.set_cons_succ]
  refine takeL 13 (v := ?_) rfl (by kernel_rfl) (by kernel_rfl) (by kernel_rfl) (fun _ _ _ h => h) (by rfl) hHeld ?_ ?_
  rotate_left 1
  · intro w2 hSw; go_simp <;> with_reducible rfl
  try simp only [Act.put, List.setIfInBounds_toArray, List.set_cons_zero, List.set_cons_succ]
  refine heavyL 10 rfl (by kernel_rfl) (fun K hK => ?_)
  go_simp
  refine (set_any m hm6 ao c _ (HATS.out _ hHeld)).mono ?_
  rintro e w6 ⟨v6, rfl, hr6, b6⟩
  obtain ⟨_, a6, cap6, rfl, _, hat6⟩ := idsAt_of_owns hr6
  try go_simp
  refine hK.out _ _ (hHeld.trans (b6.mono hHeld.size)) (fun hHeld => ?_)
  clear hK K
  try simp only [Act.put, List.setIfInBounds_toArray, List.set_cons_zero, List.set_cons_succ]
  refine heavyL 12 rfl (by kernel_rfl) (fun K hK => ?_)
  go_simp
  refine (has_set m x hm6 a6 cap6 _ hat6).mono ?_
  rintro e w7 ⟨rfl, b7⟩
  try go_simp
  refine hK.out _ _ (hHeld.trans (b7.mono hHeld.size)) (fun hHeld => ?_)
  clear hK K
  try simp only [Act.put, List.setIfInBounds_toArray, List.set_cons_zero, List.set_cons_succ]
  refine takeL 14 (v := ?_) rfl (by kernel_rfl) (by kernel_rfl) (by kernel_rfl) (fun _ _ _ h => h) (by rfl) hHeld ?_ ?_
  rotate_left 1
  · intro w2 hSw; go_simp <;> with_reducible rfl
  try simp only [Act.put, List.setIfInBounds_toArray, List.set_cons_zero, List.set_cons_succ]
  refine takeL 15 (v := ?_) rfl (by kernel_rfl) (by kernel_rfl) (by kernel_rfl) (fun _ _ _ h => h) (by rfl) hHeld ?_ ?_
  rotate_left 1
  · intro w2 hSw; go_simp <;> with_reducible rfl
  try simp only [Act.put, List.setIfInBounds_toArray, List.set_cons_zero, List.set_cons_succ]
  refine takeL 16 (v := ?_) rfl (by kernel_rfl) (by kernel_rfl) (by kernel_rfl) (fun _ _ _ h => h) (by rfl) hHeld ?_ ?_
  rotate_left 1
  · intro w2 hSw; go_simp <;> with_reducible rfl
  try simp only [Act.put, List.setIfInBounds_toArray, List.set_cons_zero, List.set_cons_succ]
  refine wpAnyH_done (by kernel_rfl) ?_ _
  refine NoPanic.normal ?_
  go_wp2
  go_ret
  exact ⟨rfl, b1.trans (hHeld.mono (Nat.le_of_lt hsz))⟩
end Go.Proofs.Ytnoilnmkdahhiaa
