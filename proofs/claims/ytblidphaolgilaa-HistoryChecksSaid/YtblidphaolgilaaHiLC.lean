/- The walk of the law HistoryChecks. -/
import Derived.Test.YtblidphaolgilaaHiK
namespace Go.Proofs.Ytblidphaolgilaa
open Go.RowKit Go.Maps
set_option linter.unusedSimpArgs false
set_option maxRecDepth 100000 in
set_option maxHeartbeats 1000000 in
theorem checks_walk (x : Ent) (w : World) : Calls Try.prog 3 #[encX x] w fun e w' => e = .returned (.bool true) ∧ Below w.heap.size w w' := by
  have hN := EntAt.new w x 24
  have hB : Below w.heap.size w (w.alloc (.cells (encE x).toArray 24)) := (Below.refl _ w).alloc (Nat.le_refl _) _
  have hsz : w.heap.size < (w.alloc (.cells (encE x).toArray 24)).heap.size := by simp
  obtain ⟨w1, hw1⟩ : ∃ w1, w.alloc (.cells (encE x).toArray 24) = w1 := ⟨_, rfl⟩
  rw [hw1] at hN hB hsz
  have HE : Hid (∀ w', Below w1.heap.size w1 w' → w'.rangeAt w.heap.size 0 (encE x)) := Lib.hid (fun w' b => EntAt.range (hN.below b hsz))
  have HS := Lib.hid (rxLen x)
  clear hN
  unfold encX
  go_enter Try.func3, Try.ntmps3
  go_wp2_with fail
  clear hw1
  refine wp_region_noPanic ?_
  refine wp_region_held_drew (S := fun w' => Below w1.heap.size w1 w') (by kernel_rfl) ((Below.refl _ _).drew) (fun hHeld => ?_)
  refine heavyL 0 rfl (by kernel_rfl) (fun K hK => ?_)
  go_simp
  refine (known_any _).mono ?_
  rintro e w3 ⟨rfl, b3⟩
  try go_simp
  refine hK.out _ _ (hHeld.trans (b3.mono hHeld.size)) (fun hHeld => ?_)
  clear hK K
  try simp only [Act.put, List.setIfInBounds_toArray, List.set_cons_zero, List.set_cons_succ]
  refine takeL 1 (v := ?_) rfl (by kernel_rfl) (by kernel_rfl) (by kernel_rfl) (fun _ _ _ h => h) (by rfl) hHeld ?_ ?_
  rotate_left 1
  · intro w2 hSw; go_simp <;> with_reducible rfl
  try simp only [Act.put, List.setIfInBounds_toArray, List.set_cons_zero, List.set_cons_succ]
  refine takeRow 2 rfl (by kernel_rfl) (by kernel_rfl) (by kernel_rfl) 24 (.tmp 1) rfl (w.heap.size) (0) rfl (encE x) _ (fun _ _ _ h => h) (by rfl) hHeld HE.out Try.underlying24 rfl HS.out ?_
  try simp only [Act.put, List.setIfInBounds_toArray, List.set_cons_zero, List.set_cons_succ]
  refine takeRow 5 rfl (by kernel_rfl) (by kernel_rfl) (by kernel_rfl) 24 (.tmp 1) rfl (w.heap.size) (0) rfl (encE x) _ (fun _ _ _ h => h) (by rfl) hHeld HE.out Try.underlying24 rfl HS.out ?_
  try simp only [Act.put, List.setIfInBounds_toArray, List.set_cons_zero, List.set_cons_succ]
  refine heavyL 3 rfl (by kernel_rfl) (fun K hK => ?_)
  go_simp
  refine (to_any x _).mono ?_
  rintro e w4 ⟨rfl, b4⟩
  try go_simp
  refine hK.out _ _ (hHeld.trans (b4.mono hHeld.size)) (fun hHeld => ?_)
  clear hK K
  try simp only [Act.put, List.setIfInBounds_toArray, List.set_cons_zero, List.set_cons_succ]
  refine heavyL 4 rfl (by kernel_rfl) (fun K hK => ?_)
  go_simp
  refine (check_any x _).mono ?_
  rintro e w5 ⟨rfl, b5⟩
  try go_simp
  refine hK.out _ _ (hHeld.trans (b5.mono hHeld.size)) (fun hHeld => ?_)
  clear hK K
  try simp only [Act.put, List.setIfInBounds_toArray, List.set_cons_zero, List.set_cons_succ]
  refine heavyL 6 rfl (by kernel_rfl) (fun K hK => ?_)
  go_simp
  refine (rcheck_any x _).mono ?_
  rintro e w6 ⟨rfl, b6⟩
  try go_simp
  refine hK.out _ _ (hHeld.trans (b6.mono hHeld.size)) (fun hHeld => ?_)
  clear hK K
  try simp only [Act.put, List.setIfInBounds_toArray, List.set_cons_zero, List.set_cons_succ]
  refine takeL 7 (v := ?_) rfl (by kernel_rfl) (by kernel_rfl) (by kernel_rfl) (fun _ _ _ h => h) (by rfl) hHeld ?_ ?_
  rotate_left 1
  · intro w2 hSw; go_simp <;> with_reducible rfl
  try simp only [Act.put, List.setIfInBounds_toArray, List.set_cons_zero, List.set_cons_succ]
  refine takeL 8 (v := ?_) rfl (by kernel_rfl) (by kernel_rfl) (by kernel_rfl) (fun _ _ _ h => h) (by rfl) hHeld ?_ ?_
  rotate_left 1
  · intro w2 hSw; go_simp <;> with_reducible rfl
  try simp only [Act.put, List.setIfInBounds_toArray, List.set_cons_zero, List.set_cons_succ]
  refine takeL 9 (v := ?_) rfl (by kernel_rfl) (by kernel_rfl) (by kernel_rfl) (fun _ _ _ h => h) (by rfl) hHeld ?_ ?_
  rotate_left 1
  · intro w2 hSw; go_simp <;> with_reducible rfl
  try simp only [Act.put, List.setIfInBounds_toArray, List.set_cons_zero, List.set_cons_succ]
  refine wpAnyH_done (by kernel_rfl) ?_ _
  refine NoPanic.normal ?_
  go_wp2
  go_ret
  exact ⟨rfl, hB.trans (hHeld.mono (Nat.le_of_lt hsz))⟩
end Go.Proofs.Ytblidphaolgilaa
