/- Clone and Equal of a history. -/
import Derived.Test.YtblidphaolgilaaHiEq
import Derived.Test.YtblidphaolgilaaShelfM
namespace Go.Proofs.Ytblidphaolgilaa
open Go.RowKit Go.Maps Go.Sort
set_option linter.unusedSimpArgs false
set_option linter.unusedVariables false

theorem cloneMap_any (mb : Nat) (l : List Ent) (w : World) (h : MapAt w mb l) :
    Calls Try.prog 55 #[.map (some mb)] w fun e w' => e = .returned (.map (some w.heap.size)) ∧ MapAt w' w.heap.size l ∧ Below w.heap.size w w' := by
  obtain ⟨D, ho, hr, hs⟩ := h
  refine (AnyW.maps_Clone_owns Try.cloneE 27 RE mb l.length D w ho).mono ?_
  rintro e w' ⟨he, h1, _, hB⟩
  exact ⟨he, ⟨D, h1, hr, hs⟩, hB⟩

set_option maxRecDepth 100000 in
set_option maxHeartbeats 1000000 in
theorem clone_any (hb mb : Nat) (l : List Ent) (cut : Int) (w : World) (h : HistAt w hb mb l cut) :
    Calls Try.prog 28 #[.pointer (some ⟨hb, 0, none⟩)] w fun e w' => ∃ hb2 mb2, e = .returned (.pointer (some ⟨hb2, 0, none⟩)) ∧ HistAt w' hb2 mb2 l cut ∧ w.heap.size ≤ hb2 ∧ w.heap.size ≤ mb2 ∧ Below w.heap.size w w' := by
  have HH := Lib.hid h
  have HC0 : Hid (∀ w', Below w.heap.size w w' → w'.cell? ⟨hb, 0, none⟩ = some (.map (some mb))) := Lib.hid (fun w' b => by rw [cell_of_row _ _ _ _ _ _ (HH.out.kept b).blk]; rfl)
  have HC1 : Hid (∀ w', Below w.heap.size w w' → w'.cell? ⟨hb, 1, none⟩ = some (.int .i64 cut)) := Lib.hid (fun w' b => by rw [cell_of_row _ _ _ _ _ _ (HH.out.kept b).blk]; rfl)
  clear h
  go_enter Try.func28, Try.ntmps28
  go_wp2_with fail
  refine wp_region_noPanic ?_
  refine wp_region_held_drew (S := fun w' => Below w.heap.size w w') (by kernel_rfl) ((Below.refl _ _).drew) (fun hHeld => ?_)
  refine takeL 0 (v := ?_) rfl (by kernel_rfl) (by kernel_rfl) (by kernel_rfl) (fun _ _ _ h => h) (by rfl) hHeld ?_ ?_
  rotate_left 1
  · intro w2 hSw; have q0 := HC0.out w2 hSw; have q1 := HC1.out w2 hSw; go_simp <;> with_reducible rfl
  try simp only [Act.put, List.setIfInBounds_toArray, List.set_cons_zero, List.set_cons_succ]
  refine takeL 1 (v := ?_) rfl (by kernel_rfl) (by kernel_rfl) (by kernel_rfl) (fun _ _ _ h => h) (by rfl) hHeld ?_ ?_
  rotate_left 1
  · intro w2 hSw; have q0 := HC0.out w2 hSw; have q1 := HC1.out w2 hSw; go_simp <;> with_reducible rfl
  try simp only [Act.put, List.setIfInBounds_toArray, List.set_cons_zero, List.set_cons_succ]
  refine takeL 2 (v := ?_) rfl (by kernel_rfl) (by kernel_rfl) (by kernel_rfl) (fun _ _ _ h => h) (by rfl) hHeld ?_ ?_
  rotate_left 1
  · intro w2 hSw; have q0 := HC0.out w2 hSw; have q1 := HC1.out w2 hSw; go_simp <;> with_reducible rfl
  try simp only [Act.put, List.setIfInBounds_toArray, List.set_cons_zero, List.set_cons_succ]
  refine takeL 3 (v := ?_) rfl (by kernel_rfl) (by kernel_rfl) (by kernel_rfl) (fun _ _ _ h => h) (by rfl) hHeld ?_ ?_
  rotate_left 1
  · intro w2 hSw; have q0 := HC0.out w2 hSw; have q1 := HC1.out w2 hSw; go_simp <;> with_reducible rfl
  try simp only [Act.put, List.setIfInBounds_toArray, List.set_cons_zero, List.set_cons_succ]
  refine takeL 5 (v := ?_) rfl (by kernel_rfl) (by kernel_rfl) (by kernel_rfl) (fun _ _ _ h => h) (by rfl) hHeld ?_ ?_
  rotate_left 1
  · intro w2 hSw; have q0 := HC0.out w2 hSw; have q1 := HC1.out w2 hSw; go_simp <;> with_reducible rfl
  try simp only [Act.put, List.setIfInBounds_toArray, List.set_cons_zero, List.set_cons_succ]
  refine takeL 6 (v := ?_) rfl (by kernel_rfl) (by kernel_rfl) (by kernel_rfl) (fun _ _ _ h => h) (by rfl) hHeld ?_ ?_
  rotate_left 1
  · intro w2 hSw; have q0 := HC0.out w2 hSw; have q1 := HC1.out w2 hSw; go_simp <;> with_reducible rfl
  try simp only [Act.put, List.setIfInBounds_toArray, List.set_cons_zero, List.set_cons_succ]
  refine takeL 7 (v := ?_) rfl (by kernel_rfl) (by kernel_rfl) (by kernel_rfl) (fun _ _ _ h => h) (by rfl) hHeld ?_ ?_
  rotate_left 1
  · intro w2 hSw; have q0 := HC0.out w2 hSw; have q1 := HC1.out w2 hSw; go_simp <;> with_reducible rfl
  try simp only [Act.put, List.setIfInBounds_toArray, List.set_cons_zero, List.set_cons_succ]
  refine takeL 8 (v := ?_) rfl (by kernel_rfl) (by kernel_rfl) (by kernel_rfl) (fun _ _ _ h => h) (by rfl) hHeld ?_ ?_
  rotate_left 1
  · intro w2 hSw; have q0 := HC0.out w2 hSw; have q1 := HC1.out w2 hSw; go_simp <;> with_reducible rfl
  try simp only [Act.put, List.setIfInBounds_toArray, List.set_cons_zero, List.set_cons_succ]
  refine heavyL 4 rfl (by kernel_rfl) (fun K hK => ?_)
  go_simp
  refine (cloneMap_any mb l _ (HH.out.kept hHeld).map).mono ?_
  rintro e w2 ⟨rfl, hm2, b2⟩
  try go_simp
  refine hK.out _ _ (hHeld.trans (b2.mono hHeld.size)) (fun hHeld => ?_)
  clear hK K
  try simp only [Act.put, List.setIfInBounds_toArray, List.set_cons_zero, List.set_cons_succ]
  have hm2l := hm2.lt
  have HM2 := Lib.hid hm2
  clear hm2
  refine takeL 9 (v := ?_) rfl (by kernel_rfl) (by kernel_rfl) (by kernel_rfl) (fun _ _ _ h => h) (by rfl) hHeld ?_ ?_
  rotate_left 1
  · intro w2 hSw; go_simp <;> with_reducible rfl
  try simp only [Act.put, List.setIfInBounds_toArray, List.set_cons_zero, List.set_cons_succ]
  refine heavyL 10 rfl (by kernel_rfl) (fun K hK => ?_)
  go_simp
  refine hK.out _ _ (hHeld.alloc hHeld.size _) (fun hHeld => ?_)
  clear hK K
  try simp only [Act.put, List.setIfInBounds_toArray, List.set_cons_zero, List.set_cons_succ]
  refine takeL 11 (v := ?_) rfl (by kernel_rfl) (by kernel_rfl) (by kernel_rfl) (fun _ _ _ h => h) (by rfl) hHeld ?_ ?_
  rotate_left 1
  · intro w2 hSw; go_simp <;> with_reducible rfl
  try simp only [Act.put, List.setIfInBounds_toArray, List.set_cons_zero, List.set_cons_succ]
  refine wpAnyH_done (by kernel_rfl) ?_ _
  refine NoPanic.normal ?_
  have hz : w.drew.heap.size = w.heap.size := rfl
  have hlt2 : w.heap.size < w2.heap.size := hm2l
  have hN := heap_alloc_new w2 (.cells #[.map (some w.heap.size), .int .i64 cut] 86 (0, 0))
  have hM : MapAt (w2.alloc (.cells #[.map (some w.heap.size), .int .i64 cut] 86 (0, 0))) w.heap.size l := HM2.out.of_heap (Below.heap_alloc _ _ _ hlt2)
  have HG : Hid (HistAt (w2.alloc (.cells #[.map (some w.heap.size), .int .i64 cut] 86 (0, 0))) w2.heap.size w.heap.size l cut) := Lib.hid ⟨hN, hM, HH.out.asc, HH.out.c0, HH.out.c1⟩
  clear HM2 hN hM HC0 HC1 hm2l
  go_wp2
  go_ret
  exact ⟨w2.heap.size, w.heap.size, rfl, HG.out, by omega, Nat.le_refl _, hHeld⟩

set_option maxRecDepth 100000 in
set_option maxHeartbeats 1000000 in
theorem equal_any (hb mb kb nb : Nat) (l m : List Ent) (cut cu2 : Int) (hl : l.length ≤ 1000) (hm : m.length ≤ 1000) (w : World) (h : HistAt w hb mb l cut) (k : HistAt w kb nb m cu2) :
    Calls Try.prog 27 #[.pointer (some ⟨hb, 0, none⟩), .pointer (some ⟨kb, 0, none⟩)] w fun e w' => e = .returned (.bool (decide (cut = cu2) && decide (l = m))) ∧ Below w.heap.size w w' := by
  have HH := Lib.hid h
  have HK := Lib.hid k
  have HC0 : Hid (∀ w', Below w.heap.size w w' → w'.cell? ⟨hb, 0, none⟩ = some (.map (some mb))) := Lib.hid (fun w' b => by rw [cell_of_row _ _ _ _ _ _ (HH.out.kept b).blk]; rfl)
  have HC1 : Hid (∀ w', Below w.heap.size w w' → w'.cell? ⟨hb, 1, none⟩ = some (.int .i64 cut)) := Lib.hid (fun w' b => by rw [cell_of_row _ _ _ _ _ _ (HH.out.kept b).blk]; rfl)
  have HD0 : Hid (∀ w', Below w.heap.size w w' → w'.cell? ⟨kb, 0, none⟩ = some (.map (some nb))) := Lib.hid (fun w' b => by rw [cell_of_row _ _ _ _ _ _ (HK.out.kept b).blk]; rfl)
  have HD1 : Hid (∀ w', Below w.heap.size w w' → w'.cell? ⟨kb, 1, none⟩ = some (.int .i64 cu2)) := Lib.hid (fun w' b => by rw [cell_of_row _ _ _ _ _ _ (HK.out.kept b).blk]; rfl)
  clear h k
  by_cases hc : cut = cu2
  · have hcB : (cut == cu2) = true := by simpa using hc
    have E := Lib.hid (show (decide (cut = cu2) && decide (l = m)) = decide (l = m) by simp [hc])
    rw [E.out]
    clear E hc
    go_enter Try.func27, Try.ntmps27
    go_wp2_with fail
    refine wp_region_noPanic ?_
    refine wp_region_held_drew (S := fun w' => Below w.heap.size w w') (by kernel_rfl) ((Below.refl _ _).drew) (fun hHeld => ?_)
    refine takeL 0 (v := ?_) rfl (by kernel_rfl) (by kernel_rfl) (by kernel_rfl) (fun _ _ _ h => h) (by rfl) hHeld ?_ ?_
    rotate_left 1
    · intro w2 hSw; have q0 := HC0.out w2 hSw; have q1 := HC1.out w2 hSw; have q2 := HD0.out w2 hSw; have q3 := HD1.out w2 hSw; go_simp <;> with_reducible rfl
    try simp only [Act.put, List.setIfInBounds_toArray, List.set_cons_zero, List.set_cons_succ]
    refine takeL 1 (v := ?_) rfl (by kernel_rfl) (by kernel_rfl) (by kernel_rfl) (fun _ _ _ h => h) (by rfl) hHeld ?_ ?_
    rotate_left 1
    · intro w2 hSw; have q0 := HC0.out w2 hSw; have q1 := HC1.out w2 hSw; have q2 := HD0.out w2 hSw; have q3 := HD1.out w2 hSw; go_simp <;> with_reducible rfl
    try simp only [Act.put, List.setIfInBounds_toArray, List.set_cons_zero, List.set_cons_succ]
    refine takeL 2 (v := ?_) rfl (by kernel_rfl) (by kernel_rfl) (by kernel_rfl) (fun _ _ _ h => h) (by rfl) hHeld ?_ ?_
    rotate_left 1
    · intro w2 hSw; have q0 := HC0.out w2 hSw; have q1 := HC1.out w2 hSw; have q2 := HD0.out w2 hSw; have q3 := HD1.out w2 hSw; go_simp <;> with_reducible rfl
    try simp only [Act.put, List.setIfInBounds_toArray, List.set_cons_zero, List.set_cons_succ]
    refine takeL 3 (v := ?_) rfl (by kernel_rfl) (by kernel_rfl) (by kernel_rfl) (fun _ _ _ h => h) (by rfl) hHeld ?_ ?_
    rotate_left 1
    · intro w2 hSw; have q0 := HC0.out w2 hSw; have q1 := HC1.out w2 hSw; have q2 := HD0.out w2 hSw; have q3 := HD1.out w2 hSw; go_simp <;> with_reducible rfl
    try simp only [Act.put, List.setIfInBounds_toArray, List.set_cons_zero, List.set_cons_succ]
    refine takeL 4 (v := ?_) rfl (by kernel_rfl) (by kernel_rfl) (by kernel_rfl) (fun _ _ _ h => h) (by rfl) hHeld ?_ ?_
    rotate_left 1
    · intro w2 hSw; have q0 := HC0.out w2 hSw; have q1 := HC1.out w2 hSw; have q2 := HD0.out w2 hSw; have q3 := HD1.out w2 hSw; go_simp <;> with_reducible rfl
    try simp only [Act.put, List.setIfInBounds_toArray, List.set_cons_zero, List.set_cons_succ]
    refine takeL 5 (v := ?_) rfl (by kernel_rfl) (by kernel_rfl) (by kernel_rfl) (fun _ _ _ h => h) (by rfl) hHeld ?_ ?_
    rotate_left 1
    · intro w2 hSw; have q0 := HC0.out w2 hSw; have q1 := HC1.out w2 hSw; have q2 := HD0.out w2 hSw; have q3 := HD1.out w2 hSw; go_simp <;> with_reducible rfl
    try simp only [Act.put, List.setIfInBounds_toArray, List.set_cons_zero, List.set_cons_succ]
    refine takeL 6 (v := ?_) rfl (by kernel_rfl) (by kernel_rfl) (by kernel_rfl) (fun _ _ _ h => h) (by rfl) hHeld ?_ ?_
    rotate_left 1
    · intro w2 hSw; have q0 := HC0.out w2 hSw; have q1 := HC1.out w2 hSw; have q2 := HD0.out w2 hSw; have q3 := HD1.out w2 hSw; go_simp <;> with_reducible rfl
    try simp only [Act.put, List.setIfInBounds_toArray, List.set_cons_zero, List.set_cons_succ]
    refine takeL 7 (v := ?_) rfl (by kernel_rfl) (by kernel_rfl) (by kernel_rfl) (fun _ _ _ h => h) (by rfl) hHeld ?_ ?_
    rotate_left 1
    · intro w2 hSw; have q0 := HC0.out w2 hSw; have q1 := HC1.out w2 hSw; have q2 := HD0.out w2 hSw; have q3 := HD1.out w2 hSw; go_simp <;> with_reducible rfl
    try simp only [Act.put, List.setIfInBounds_toArray, List.set_cons_zero, List.set_cons_succ]
    refine takeL 8 (v := ?_) rfl (by kernel_rfl) (by kernel_rfl) (by kernel_rfl) (fun _ _ _ h => h) (by rfl) hHeld ?_ ?_
    rotate_left 1
    · intro w2 hSw; have q0 := HC0.out w2 hSw; have q1 := HC1.out w2 hSw; have q2 := HD0.out w2 hSw; have q3 := HD1.out w2 hSw; go_simp <;> with_reducible rfl
    try simp only [Act.put, List.setIfInBounds_toArray, List.set_cons_zero, List.set_cons_succ]
    refine takeL 9 (v := ?_) rfl (by kernel_rfl) (by kernel_rfl) (by kernel_rfl) (fun _ _ _ h => h) (by rfl) hHeld ?_ ?_
    rotate_left 1
    · intro w2 hSw; have q0 := HC0.out w2 hSw; have q1 := HC1.out w2 hSw; have q2 := HD0.out w2 hSw; have q3 := HD1.out w2 hSw; go_simp <;> with_reducible rfl
    try simp only [Act.put, List.setIfInBounds_toArray, List.set_cons_zero, List.set_cons_succ]
    refine takeL 10 (v := ?_) rfl (by kernel_rfl) (by kernel_rfl) (by kernel_rfl) (fun _ _ _ h => h) (by rfl) hHeld ?_ ?_
    rotate_left 1
    · intro w2 hSw; have q0 := HC0.out w2 hSw; have q1 := HC1.out w2 hSw; have q2 := HD0.out w2 hSw; have q3 := HD1.out w2 hSw; go_simp <;> with_reducible rfl
    try simp only [Act.put, List.setIfInBounds_toArray, List.set_cons_zero, List.set_cons_succ]
    refine takeL 11 (v := ?_) rfl (by kernel_rfl) (by kernel_rfl) (by kernel_rfl) (fun _ _ _ h => h) (by rfl) hHeld ?_ ?_
    rotate_left 1
    · intro w2 hSw; have q0 := HC0.out w2 hSw; have q1 := HC1.out w2 hSw; have q2 := HD0.out w2 hSw; have q3 := HD1.out w2 hSw; go_simp <;> with_reducible rfl
    try simp only [Act.put, List.setIfInBounds_toArray, List.set_cons_zero, List.set_cons_succ]
    refine takeL 12 (v := ?_) rfl (by kernel_rfl) (by kernel_rfl) (by kernel_rfl) (fun _ _ _ h => h) (by rfl) hHeld ?_ ?_
    rotate_left 1
    · intro w2 hSw; have q0 := HC0.out w2 hSw; have q1 := HC1.out w2 hSw; have q2 := HD0.out w2 hSw; have q3 := HD1.out w2 hSw; go_simp <;> with_reducible rfl
    try simp only [Act.put, List.setIfInBounds_toArray, List.set_cons_zero, List.set_cons_succ]
    refine takeL 13 (v := ?_) rfl (by kernel_rfl) (by kernel_rfl) (by kernel_rfl) (fun _ _ _ h => h) (by rfl) hHeld ?_ ?_
    rotate_left 1
    · intro w2 hSw; have q0 := HC0.out w2 hSw; have q1 := HC1.out w2 hSw; have q2 := HD0.out w2 hSw; have q3 := HD1.out w2 hSw; go_simp <;> with_reducible rfl
    try simp only [Act.put, List.setIfInBounds_toArray, List.set_cons_zero, List.set_cons_succ]
    refine takeL 14 (v := ?_) rfl (by kernel_rfl) (by kernel_rfl) (by kernel_rfl) (fun _ _ _ h => h) (by rfl) hHeld ?_ ?_
    rotate_left 1
    · intro w2 hSw; have q0 := HC0.out w2 hSw; have q1 := HC1.out w2 hSw; have q2 := HD0.out w2 hSw; have q3 := HD1.out w2 hSw; go_simp <;> with_reducible rfl
    try simp only [Act.put, List.setIfInBounds_toArray, List.set_cons_zero, List.set_cons_succ]
    refine takeL 15 (v := ?_) rfl (by kernel_rfl) (by kernel_rfl) (by kernel_rfl) (fun _ _ _ h => h) (by rfl) hHeld ?_ ?_
    rotate_left 1
    · intro w2 hSw; have q0 := HC0.out w2 hSw; have q1 := HC1.out w2 hSw; have q2 := HD0.out w2 hSw; have q3 := HD1.out w2 hSw; go_simp <;> with_reducible rfl
    try simp only [Act.put, List.setIfInBounds_toArray, List.set_cons_zero, List.set_cons_succ]
    refine takeL 16 (v := ?_) rfl (by kernel_rfl) (by kernel_rfl) (by kernel_rfl) (fun _ _ _ h => h) (by rfl) hHeld ?_ ?_
    rotate_left 1
    · intro w2 hSw; have q0 := HC0.out w2 hSw; have q1 := HC1.out w2 hSw; have q2 := HD0.out w2 hSw; have q3 := HD1.out w2 hSw; go_simp <;> with_reducible rfl
    try simp only [Act.put, List.setIfInBounds_toArray, List.set_cons_zero, List.set_cons_succ]
    refine takeL 17 (v := ?_) rfl (by kernel_rfl) (by kernel_rfl) (by kernel_rfl) (fun _ _ _ h => h) (by rfl) hHeld ?_ ?_
    rotate_left 1
    · intro w2 hSw; have q0 := HC0.out w2 hSw; have q1 := HC1.out w2 hSw; have q2 := HD0.out w2 hSw; have q3 := HD1.out w2 hSw; go_simp <;> with_reducible rfl
    try simp only [Act.put, List.setIfInBounds_toArray, List.set_cons_zero, List.set_cons_succ]
    refine heavyL 18 rfl (by kernel_rfl) (fun K hK => ?_)
    go_simp
    refine (mapsEqual_any mb nb l m HH.out.asc HK.out.asc hl hm _ (HH.out.kept hHeld).map (HK.out.kept hHeld).map).mono ?_
    rintro e w2 ⟨rfl, b2⟩
    try go_simp
    refine hK.out _ _ (hHeld.trans (b2.mono hHeld.size)) (fun hHeld => ?_)
    clear hK K
    try simp only [Act.put, List.setIfInBounds_toArray, List.set_cons_zero, List.set_cons_succ]
    refine takeL 19 (v := ?_) rfl (by kernel_rfl) (by kernel_rfl) (by kernel_rfl) (fun _ _ _ h => h) (by rfl) hHeld ?_ ?_
    rotate_left 1
    · intro w2 hSw; go_simp <;> with_reducible rfl
    try simp only [Act.put, List.setIfInBounds_toArray, List.set_cons_zero, List.set_cons_succ]
    refine takeL 20 (v := ?_) rfl (by kernel_rfl) (by kernel_rfl) (by kernel_rfl) (fun _ _ _ h => h) (by rfl) hHeld ?_ ?_
    rotate_left 1
    · intro w2 hSw; go_simp <;> with_reducible rfl
    try simp only [Act.put, List.setIfInBounds_toArray, List.set_cons_zero, List.set_cons_succ]
    refine wpAnyH_done (by kernel_rfl) ?_ _
    refine NoPanic.normal ?_
    go_wp2
    go_ret
    exact ⟨rfl, hHeld⟩
  · have hcB : (cut == cu2) = false := by simpa using hc
    have E := Lib.hid (show (decide (cut = cu2) && decide (l = m)) = false by simp [hc])
    rw [E.out]
    clear E hc
    go_enter Try.func27, Try.ntmps27
    go_wp2_with fail
    refine wp_region_noPanic ?_
    refine wp_region_held_drew (S := fun w' => Below w.heap.size w w') (by kernel_rfl) ((Below.refl _ _).drew) (fun hHeld => ?_)
    refine takeL 0 (v := ?_) rfl (by kernel_rfl) (by kernel_rfl) (by kernel_rfl) (fun _ _ _ h => h) (by rfl) hHeld ?_ ?_
    rotate_left 1
    · intro w2 hSw; have q0 := HC0.out w2 hSw; have q1 := HC1.out w2 hSw; have q2 := HD0.out w2 hSw; have q3 := HD1.out w2 hSw; go_simp <;> with_reducible rfl
    try simp only [Act.put, List.setIfInBounds_toArray, List.set_cons_zero, List.set_cons_succ]
    refine takeL 1 (v := ?_) rfl (by kernel_rfl) (by kernel_rfl) (by kernel_rfl) (fun _ _ _ h => h) (by rfl) hHeld ?_ ?_
    rotate_left 1
    · intro w2 hSw; have q0 := HC0.out w2 hSw; have q1 := HC1.out w2 hSw; have q2 := HD0.out w2 hSw; have q3 := HD1.out w2 hSw; go_simp <;> with_reducible rfl
    try simp only [Act.put, List.setIfInBounds_toArray, List.set_cons_zero, List.set_cons_succ]
    refine takeL 2 (v := ?_) rfl (by kernel_rfl) (by kernel_rfl) (by kernel_rfl) (fun _ _ _ h => h) (by rfl) hHeld ?_ ?_
    rotate_left 1
    · intro w2 hSw; have q0 := HC0.out w2 hSw; have q1 := HC1.out w2 hSw; have q2 := HD0.out w2 hSw; have q3 := HD1.out w2 hSw; go_simp <;> with_reducible rfl
    try simp only [Act.put, List.setIfInBounds_toArray, List.set_cons_zero, List.set_cons_succ]
    refine takeL 3 (v := ?_) rfl (by kernel_rfl) (by kernel_rfl) (by kernel_rfl) (fun _ _ _ h => h) (by rfl) hHeld ?_ ?_
    rotate_left 1
    · intro w2 hSw; have q0 := HC0.out w2 hSw; have q1 := HC1.out w2 hSw; have q2 := HD0.out w2 hSw; have q3 := HD1.out w2 hSw; go_simp <;> with_reducible rfl
    try simp only [Act.put, List.setIfInBounds_toArray, List.set_cons_zero, List.set_cons_succ]
    refine takeL 4 (v := ?_) rfl (by kernel_rfl) (by kernel_rfl) (by kernel_rfl) (fun _ _ _ h => h) (by rfl) hHeld ?_ ?_
    rotate_left 1
    · intro w2 hSw; have q0 := HC0.out w2 hSw; have q1 := HC1.out w2 hSw; have q2 := HD0.out w2 hSw; have q3 := HD1.out w2 hSw; go_simp <;> with_reducible rfl
    try simp only [Act.put, List.setIfInBounds_toArray, List.set_cons_zero, List.set_cons_succ]
    refine takeL 5 (v := ?_) rfl (by kernel_rfl) (by kernel_rfl) (by kernel_rfl) (fun _ _ _ h => h) (by rfl) hHeld ?_ ?_
    rotate_left 1
    · intro w2 hSw; have q0 := HC0.out w2 hSw; have q1 := HC1.out w2 hSw; have q2 := HD0.out w2 hSw; have q3 := HD1.out w2 hSw; go_simp <;> with_reducible rfl
    try simp only [Act.put, List.setIfInBounds_toArray, List.set_cons_zero, List.set_cons_succ]
    refine takeL 6 (v := ?_) rfl (by kernel_rfl) (by kernel_rfl) (by kernel_rfl) (fun _ _ _ h => h) (by rfl) hHeld ?_ ?_
    rotate_left 1
    · intro w2 hSw; have q0 := HC0.out w2 hSw; have q1 := HC1.out w2 hSw; have q2 := HD0.out w2 hSw; have q3 := HD1.out w2 hSw; go_simp <;> with_reducible rfl
    try simp only [Act.put, List.setIfInBounds_toArray, List.set_cons_zero, List.set_cons_succ]
    refine takeL 7 (v := ?_) rfl (by kernel_rfl) (by kernel_rfl) (by kernel_rfl) (fun _ _ _ h => h) (by rfl) hHeld ?_ ?_
    rotate_left 1
    · intro w2 hSw; have q0 := HC0.out w2 hSw; have q1 := HC1.out w2 hSw; have q2 := HD0.out w2 hSw; have q3 := HD1.out w2 hSw; go_simp <;> with_reducible rfl
    try simp only [Act.put, List.setIfInBounds_toArray, List.set_cons_zero, List.set_cons_succ]
    refine takeL 8 (v := ?_) rfl (by kernel_rfl) (by kernel_rfl) (by kernel_rfl) (fun _ _ _ h => h) (by rfl) hHeld ?_ ?_
    rotate_left 1
    · intro w2 hSw; have q0 := HC0.out w2 hSw; have q1 := HC1.out w2 hSw; have q2 := HD0.out w2 hSw; have q3 := HD1.out w2 hSw; go_simp <;> with_reducible rfl
    try simp only [Act.put, List.setIfInBounds_toArray, List.set_cons_zero, List.set_cons_succ]
    refine takeL 9 (v := ?_) rfl (by kernel_rfl) (by kernel_rfl) (by kernel_rfl) (fun _ _ _ h => h) (by rfl) hHeld ?_ ?_
    rotate_left 1
    · intro w2 hSw; have q0 := HC0.out w2 hSw; have q1 := HC1.out w2 hSw; have q2 := HD0.out w2 hSw; have q3 := HD1.out w2 hSw; go_simp <;> with_reducible rfl
    try simp only [Act.put, List.setIfInBounds_toArray, List.set_cons_zero, List.set_cons_succ]
    refine skipL 10 rfl (by kernel_rfl) (by kernel_rfl) (by kernel_rfl) (fun _ _ _ h => h) (by rfl) hHeld ?_
    try simp only [Act.put, List.setIfInBounds_toArray, List.set_cons_zero, List.set_cons_succ]
    refine skipL 11 rfl (by kernel_rfl) (by kernel_rfl) (by kernel_rfl) (fun _ _ _ h => h) (by rfl) hHeld ?_
    try simp only [Act.put, List.setIfInBounds_toArray, List.set_cons_zero, List.set_cons_succ]
    refine skipL 12 rfl (by kernel_rfl) (by kernel_rfl) (by kernel_rfl) (fun _ _ _ h => h) (by rfl) hHeld ?_
    try simp only [Act.put, List.setIfInBounds_toArray, List.set_cons_zero, List.set_cons_succ]
    refine skipL 13 rfl (by kernel_rfl) (by kernel_rfl) (by kernel_rfl) (fun _ _ _ h => h) (by rfl) hHeld ?_
    try simp only [Act.put, List.setIfInBounds_toArray, List.set_cons_zero, List.set_cons_succ]
    refine skipL 14 rfl (by kernel_rfl) (by kernel_rfl) (by kernel_rfl) (fun _ _ _ h => h) (by rfl) hHeld ?_
    try simp only [Act.put, List.setIfInBounds_toArray, List.set_cons_zero, List.set_cons_succ]
    refine skipL 15 rfl (by kernel_rfl) (by kernel_rfl) (by kernel_rfl) (fun _ _ _ h => h) (by rfl) hHeld ?_
    try simp only [Act.put, List.setIfInBounds_toArray, List.set_cons_zero, List.set_cons_succ]
    refine skipL 16 rfl (by kernel_rfl) (by kernel_rfl) (by kernel_rfl) (fun _ _ _ h => h) (by rfl) hHeld ?_
    try simp only [Act.put, List.setIfInBounds_toArray, List.set_cons_zero, List.set_cons_succ]
    refine skipL 17 rfl (by kernel_rfl) (by kernel_rfl) (by kernel_rfl) (fun _ _ _ h => h) (by rfl) hHeld ?_
    try simp only [Act.put, List.setIfInBounds_toArray, List.set_cons_zero, List.set_cons_succ]
    refine skipL 18 rfl (by kernel_rfl) (by kernel_rfl) (by kernel_rfl) (fun _ _ _ h => h) (by rfl) hHeld ?_
    try simp only [Act.put, List.setIfInBounds_toArray, List.set_cons_zero, List.set_cons_succ]
    refine takeL 19 (v := ?_) rfl (by kernel_rfl) (by kernel_rfl) (by kernel_rfl) (fun _ _ _ h => h) (by rfl) hHeld ?_ ?_
    rotate_left 1
    · intro w2 hSw; go_simp <;> with_reducible rfl
    try simp only [Act.put, List.setIfInBounds_toArray, List.set_cons_zero, List.set_cons_succ]
    refine takeL 20 (v := ?_) rfl (by kernel_rfl) (by kernel_rfl) (by kernel_rfl) (fun _ _ _ h => h) (by rfl) hHeld ?_ ?_
    rotate_left 1
    · intro w2 hSw; go_simp <;> with_reducible rfl
    try simp only [Act.put, List.setIfInBounds_toArray, List.set_cons_zero, List.set_cons_succ]
    refine wpAnyH_done (by kernel_rfl) ?_ _
    refine NoPanic.normal ?_
    go_wp2
    go_ret
    exact ⟨rfl, hHeld⟩

theorem equalNil_any (hb : Nat) (w : World) :
    Calls Try.prog 27 #[.pointer (some ⟨hb, 0, none⟩), .pointer none] w fun e w' => e = .returned (.bool false) ∧ w = w' := by
  go_enter Try.func27, Try.ntmps27
  go_wp2
  go_ret
  exact ⟨rfl, rfl⟩
theorem nilEqual_any (w : World) :
    Calls Try.prog 27 #[.pointer none, .pointer none] w fun e w' => e = .returned (.bool true) ∧ w = w' := by
  go_enter Try.func27, Try.ntmps27
  go_wp2
  go_ret
  exact ⟨rfl, rfl⟩
theorem nilClone_any (w : World) :
    Calls Try.prog 28 #[.pointer none] w fun e w' => e = .returned (.pointer none) ∧ w = w' := by
  go_enter Try.func28, Try.ntmps28
  go_wp2
  go_ret
  exact ⟨rfl, rfl⟩
end Go.Proofs.Ytblidphaolgilaa
