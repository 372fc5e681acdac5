/- The walk of the law HistoryJudges. -/
import Derived.Test.YtblidphaolgilaaHiPl
namespace Go.Proofs.Ytblidphaolgilaa
open Go.RowKit Go.Maps
set_option linter.unusedSimpArgs false
set_option maxRecDepth 100000 in
set_option maxHeartbeats 2000000 in
theorem judges_walk (v : Value) (ops : List OpE) (w : World) (hv : RowsArg encO 37 v ops w) (id : I32) (d now : Int) (perm : Bool) : Calls Try.prog 4 #[v, .agg (encI id).toArray, .int .i64 d, .int .i64 now, .bool perm] w fun e w' => e = .returned (.bool true) ∧ Below w.heap.size w w' := by
  have hN := rangeAt_row' (heap_alloc_new w (.cells (encI id).toArray 22 (0, 0)))
  have hB : Below w.heap.size w (w.alloc (.cells (encI id).toArray 22)) := (Below.refl _ w).alloc (Nat.le_refl _) _
  have hsz : w.heap.size < (w.alloc (.cells (encI id).toArray 22)).heap.size := by simp
  obtain ⟨w1, hw1⟩ : ∃ w1, w.alloc (.cells (encI id).toArray 22) = w1 := ⟨_, rfl⟩
  rw [hw1] at hN hB hsz
  have HN := Lib.hid hN
  have HV := Lib.hid (hv.below hB)
  have HSI := Lib.hid (idSize22 id)
  clear hN hv
  go_enter Try.func4, Try.ntmps4
  go_wp2_with fail
  refine (known_any _).mono ?_
  rintro e w2 ⟨rfl, b2⟩
  clear hw1
  have HV2 := Lib.hid (HV.out.below b2)
  go_wp2_with fail
  refine (play_any ops v w2 HV2.out).mono ?_
  rintro e w3 ⟨hb, mb, vr, rows, cut, rfl, hH, hR, hlen, hhb, hmb, b3⟩
  have HH := Lib.hid hH
  obtain ⟨ao, c, rfl, _, _, _, hRA⟩ := hR
  have HRA := Lib.hid hRA
  have hc0 := hH.c0
  have hc1 := hH.c1
  have b13 := b2.trans (b3.mono b2.size)
  have h13 := b13.size
  have HI : Hid (∀ w', Below w3.heap.size w3 w' → w'.rangeAt w.heap.size 0 (encI id)) := Lib.hid (fun w' b => rangeAt_below (rangeAt_below HN.out b13 hsz) b (Nat.lt_of_lt_of_le hsz h13))
  have hB3 := hB.trans (b13.mono (Nat.le_of_lt hsz))
  clear hH hRA HV HV2 b2 b3 HN
  go_wp2_with fail
  refine wp_region_noPanic ?_
  refine wp_region_held_drew (S := fun w' => Below w3.heap.size w3 w') (by kernel_rfl) ((Below.refl _ _).drew) (fun hHeld => ?_)
  refine takeL 0 (v := ?_) rfl (by kernel_rfl) (by kernel_rfl) (by kernel_rfl) (fun _ _ _ h => h) (by rfl) hHeld ?_ ?_
  rotate_left 1
  · intro w2 hSw; go_simp <;> with_reducible rfl
  try simp only [Act.put, List.setIfInBounds_toArray, List.set_cons_zero, List.set_cons_succ]
  refine takeL 1 (v := ?_) rfl (by kernel_rfl) (by kernel_rfl) (by kernel_rfl) (fun _ _ _ h => h) (by rfl) hHeld ?_ ?_
  rotate_left 1
  · intro w2 hSw; go_simp <;> with_reducible rfl
  try simp only [Act.put, List.setIfInBounds_toArray, List.set_cons_zero, List.set_cons_succ]
  refine takeL 2 (v := ?_) rfl (by kernel_rfl) (by kernel_rfl) (by kernel_rfl) (fun _ _ _ h => h) (by rfl) hHeld ?_ ?_
  rotate_left 1
  · intro w2 hSw; go_simp <;> with_reducible rfl
  try simp only [Act.put, List.setIfInBounds_toArray, List.set_cons_zero, List.set_cons_succ]
  refine takeRow 3 rfl (by kernel_rfl) (by kernel_rfl) (by kernel_rfl) 22 (.tmp 6) rfl (w.heap.size) (0) rfl (encI id) _ (fun _ _ _ h => h) (by rfl) hHeld HI.out Try.underlying22 rfl HSI.out ?_
  try simp only [Act.put, List.setIfInBounds_toArray, List.set_cons_zero, List.set_cons_succ]
  refine takeL 4 (v := ?_) rfl (by kernel_rfl) (by kernel_rfl) (by kernel_rfl) (fun _ _ _ h => h) (by rfl) hHeld ?_ ?_
  rotate_left 1
  · intro w2 hSw; go_simp <;> with_reducible rfl
  try simp only [Act.put, List.setIfInBounds_toArray, List.set_cons_zero, List.set_cons_succ]
  refine takeL 5 (v := ?_) rfl (by kernel_rfl) (by kernel_rfl) (by kernel_rfl) (fun _ _ _ h => h) (by rfl) hHeld ?_ ?_
  rotate_left 1
  · intro w2 hSw; go_simp <;> with_reducible rfl
  try simp only [Act.put, List.setIfInBounds_toArray, List.set_cons_zero, List.set_cons_succ]
  refine takeL 6 (v := ?_) rfl (by kernel_rfl) (by kernel_rfl) (by kernel_rfl) (fun _ _ _ h => h) (by rfl) hHeld ?_ ?_
  rotate_left 1
  · intro w2 hSw; go_simp <;> with_reducible rfl
  try simp only [Act.put, List.setIfInBounds_toArray, List.set_cons_zero, List.set_cons_succ]
  refine takeL 8 (v := ?_) rfl (by kernel_rfl) (by kernel_rfl) (by kernel_rfl) (fun _ _ _ h => h) (by rfl) hHeld ?_ ?_
  rotate_left 1
  · intro w2 hSw; go_simp <;> with_reducible rfl
  try simp only [Act.put, List.setIfInBounds_toArray, List.set_cons_zero, List.set_cons_succ]
  refine takeL 9 (v := ?_) rfl (by kernel_rfl) (by kernel_rfl) (by kernel_rfl) (fun _ _ _ h => h) (by rfl) hHeld ?_ ?_
  rotate_left 1
  · intro w2 hSw; go_simp <;> with_reducible rfl
  try simp only [Act.put, List.setIfInBounds_toArray, List.set_cons_zero, List.set_cons_succ]
  refine takeRow 10 rfl (by kernel_rfl) (by kernel_rfl) (by kernel_rfl) 22 (.tmp 6) rfl (w.heap.size) (0) rfl (encI id) _ (fun _ _ _ h => h) (by rfl) hHeld HI.out Try.underlying22 rfl HSI.out ?_
  try simp only [Act.put, List.setIfInBounds_toArray, List.set_cons_zero, List.set_cons_succ]
  refine takeL 11 (v := ?_) rfl (by kernel_rfl) (by kernel_rfl) (by kernel_rfl) (fun _ _ _ h => h) (by rfl) hHeld ?_ ?_
  rotate_left 1
  · intro w2 hSw; go_simp <;> with_reducible rfl
  try simp only [Act.put, List.setIfInBounds_toArray, List.set_cons_zero, List.set_cons_succ]
  refine takeL 12 (v := ?_) rfl (by kernel_rfl) (by kernel_rfl) (by kernel_rfl) (fun _ _ _ h => h) (by rfl) hHeld ?_ ?_
  rotate_left 1
  · intro w2 hSw; go_simp <;> with_reducible rfl
  try simp only [Act.put, List.setIfInBounds_toArray, List.set_cons_zero, List.set_cons_succ]
  refine takeL 13 (v := ?_) rfl (by kernel_rfl) (by kernel_rfl) (by kernel_rfl) (fun _ _ _ h => h) (by rfl) hHeld ?_ ?_
  rotate_left 1
  · intro w2 hSw; go_simp <;> with_reducible rfl
  try simp only [Act.put, List.setIfInBounds_toArray, List.set_cons_zero, List.set_cons_succ]
  refine heavyL 7 rfl (by kernel_rfl) (fun K hK => ?_)
  go_simp
  refine (judge_any id d now perm hb mb rows cut _ (HH.out.kept hHeld)).mono ?_
  rintro e w4 ⟨rfl, b4⟩
  try go_simp
  refine hK.out _ _ (hHeld.trans (b4.mono hHeld.size)) (fun hHeld => ?_)
  clear hK K
  try simp only [Act.put, List.setIfInBounds_toArray, List.set_cons_zero, List.set_cons_succ]
  refine heavyL 14 rfl (by kernel_rfl) (fun K hK => ?_)
  go_simp
  refine (rjudge_any rows cut id d now perm hc0 hc1 (by omega) ao c _ ((HRA.out.below hHeld (Nat.le_refl _)).mono hHeld.size)).mono ?_
  rintro e w5 ⟨rfl, b5⟩
  try go_simp
  refine hK.out _ _ (hHeld.trans (b5.mono hHeld.size)) (fun hHeld => ?_)
  clear hK K
  try simp only [Act.put, List.setIfInBounds_toArray, List.set_cons_zero, List.set_cons_succ]
  refine takeL 15 (v := ?_) rfl (by kernel_rfl) (by kernel_rfl) (by kernel_rfl) (fun _ _ _ h => h) (by rfl) hHeld ?_ ?_
  rotate_left 1
  · intro w2 hSw; go_simp <;> with_reducible rfl
  try simp only [Act.put, List.setIfInBounds_toArray, List.set_cons_zero, List.set_cons_succ]
  refine takeL 16 (v := ?_) rfl (by kernel_rfl) (by kernel_rfl) (by kernel_rfl) (fun _ _ _ h => h) (by rfl) hHeld ?_ ?_
  rotate_left 1
  · intro w2 hSw; go_simp <;> with_reducible rfl
  try simp only [Act.put, List.setIfInBounds_toArray, List.set_cons_zero, List.set_cons_succ]
  refine takeL 17 (v := ?_) rfl (by kernel_rfl) (by kernel_rfl) (by kernel_rfl) (fun _ _ _ h => h) (by rfl) hHeld ?_ ?_
  rotate_left 1
  · intro w2 hSw; go_simp <;> with_reducible rfl
  try simp only [Act.put, List.setIfInBounds_toArray, List.set_cons_zero, List.set_cons_succ]
  refine wpAnyH_done (by kernel_rfl) ?_ _
  refine NoPanic.normal ?_
  go_wp2
  go_ret
  exact ⟨rfl, hB3.trans (hHeld.mono hB3.size)⟩
end Go.Proofs.Ytblidphaolgilaa
