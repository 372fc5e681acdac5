/- History: the examples of the chapter (known). -/
import Derived.Test.YtblidphaolgilaaHiG
import Derived.Stop.BytesEq
namespace Go.Proofs.Ytblidphaolgilaa
open Go.RowKit Go.Shelf Go.Lib Go.Sort Go.Maps
set_option linter.unusedSimpArgs false

theorem eqI27 (x y : I32) (w : World) : (Op.equalIn 10000 27 (.agg (encI x).toArray) (.agg (encI y).toArray)).run Try.prog w = .ok (x.1 == y.1) w :=
  run_equalIn_bytes w 9998 27 5 32 Try.underlying27 Try.underlying5 Try.sizeOf5 x.1 y.1 x.2 y.2
def i1 : I32 := ⟨1 :: List.replicate 31 0, by simp⟩
def e1 : Ent := ⟨i1, ⟨200, by decide⟩, ⟨100, by decide⟩, ⟨1, by decide⟩, false⟩
theorem kJ1 : judgeE [] 0 i1 9840 30000 false = 0 := by simp [judgeE, minB, fnd, oldB]
theorem kJ2 : judgeE [] 0 i1 9839 30000 false = 14 := by simp [judgeE, minB, fnd, oldB]
theorem kJ3 : judgeE [] 0 i1 9839 30000 true = 0 := by simp [judgeE, minB, fnd, oldB]
theorem kJ4 : judgeE [] 0 i1 31440 30000 false = 0 := by simp [judgeE, minB, fnd, oldB]
theorem kJ5 : judgeE [] 0 i1 31441 30000 false = 15 := by simp [judgeE, minB, fnd, oldB]
theorem kJ6 : judgeE [] 20261 i1 100 200 false = 14 := by simp [judgeE, minB, fnd, oldB]
theorem kA : addE [] e1 = ([e1], 0) := by simp [addE, chk, minB, e1, fnd, insE]
theorem kF1 : forgO [e1] 20260 = [] ∧ forgR [e1] 20260 = [e1] ∧ forgC [e1] 0 20260 = 0 := by
  have h : forgO [e1] 20260 = [] := by simp [forgO, minB, goesE, oldB, e1]
  refine ⟨h, by simp [forgR, minB, goesE, oldB, e1], ?_⟩
  unfold forgC; rw [h]; rfl
theorem kF2 : forgO [e1] 20261 = [i1] ∧ forgR [e1] 20261 = [] ∧ forgC [e1] 0 20261 = 20261 := by
  have h : forgO [e1] 20261 = [i1] := by simp [forgO, minB, goesE, oldB, e1]
  refine ⟨h, by simp [forgR, minB, goesE, oldB, e1], ?_⟩
  unfold forgC; rw [h]; rfl
theorem built_i1 : Try.prog.built 27 [(0, .int .u8 1)] = some (encI i1).toArray := by kernel_rfl
theorem built_e1 : Try.prog.built 29 [(0, .agg (encI i1).toArray), (1, .int .i64 200), (2, .int .i64 100), (3, .int .i64 1)] = some (encE e1).toArray := by kernel_rfl
theorem idSzA (x : I32) : (Try.prog.info? 27).map (·.size) = some (encI x).toArray.size := by rw [List.size_toArray, encI_len]; kernel_rfl
theorem id_one (x : I32) : (encI x).toArray.all (·.oneCell') = true := Array.all_eq_true_iff_forall_mem.2 (fun v hv => encI_one x v (by simpa using hv))
def i0z : I32 := ⟨List.replicate 32 0, by simp⟩

set_option maxRecDepth 100000 in
set_option maxHeartbeats 4000000 in
theorem known_any (w : World) : Calls Try.prog 12 #[] w fun e w' => e = .returned (.bool true) ∧ Below w.heap.size w w' := by
  have HSI := Lib.hid (idSize29 i1)
  have HSA := Lib.hid (idSzA i1)
  go_enter Try.func12, Try.ntmps12
  go_wp2_with fail
  refine (new_any _).mono ?_
  rintro e w1 ⟨rfl, hH1, b1, hs1⟩
  have HH1 := Lib.hid hH1
  have hlt1 := hH1.lt
  clear hH1
  have hmh : w.heap.size < w.heap.size + 1 := Nat.lt_succ_self _
  generalize hhb : w.heap.size + 1 = hb at *
  generalize hmb : w.heap.size = mb at *
  have hs1' : hb < w1.heap.size := hlt1
  clear hs1 hhb hlt1
  go_wp2_with (first
    | (refine wpList_build_to (by rfl) 27 #[(0, .const (.int .u8 1))] (by rfl) [(0, .int .u8 1)] (by kernel_rfl) (encI i1).toArray built_i1 ?_)
    | (refine wpList_store_abs (by rfl) 27 (.tmp 2) (.tmp 15) (by rfl) w1.heap.size (encI i1).toArray (by rfl) (by rfl) _ (encI i0z).toArray (heap_alloc_new w1 _) HSA.out (by simp [encI_len]) (id_one i1) w1.heap.size w1 ((Below.refl _ _).alloc (Nat.le_refl _) _) (Nat.le_refl _) ?_))
  intro w2 H2 b2 O2
  have HH2 := Lib.hid (HH1.out.kept b2)
  have hgi : w1.heap.size < w2.heap.size := (Array.getElem?_eq_some_iff.1 H2.out).1
  have hb2 : Below mb w w2 := b1.trans (b2.mono (by rw [← hmb]; exact b1.size))
  have hbm : ∀ k, Two hb mb k → mb ≤ k := fun k h => by rcases h with h | h <;> omega
  generalize w1.heap.size = gi at *
  have HIr : Hid (∀ w', Below w2.heap.size w2 w' → w'.rangeAt gi 0 (encI i1)) := Lib.hid (fun w' b => rangeAt_row' (heap_below b hgi H2.out))
  clear O2 b2 HH1
  go_wp2_with fail
  refine wp_region_noPanic ?_
  refine wp_region_held_drew (S := fun w' => Below w2.heap.size w2 w') (by kernel_rfl) ((Below.refl _ _).drew) (fun hHeld => ?_)
  refine takeL 0 (v := ?_) rfl (by kernel_rfl) (by kernel_rfl) (by kernel_rfl) (fun _ _ _ h => h) (by rfl) hHeld ?_ ?_
  rotate_left 1
  · intro w2 hSw; go_simp <;> with_reducible rfl
  try simp only [Act.put, List.setIfInBounds_toArray, List.set_cons_zero, List.set_cons_succ]
  refine takeL 3 (v := ?_) rfl (by kernel_rfl) (by kernel_rfl) (by kernel_rfl) (fun _ _ _ h => h) (by rfl) hHeld ?_ ?_
  rotate_left 1
  · intro w2 hSw; go_simp <;> with_reducible rfl
  try simp only [Act.put, List.setIfInBounds_toArray, List.set_cons_zero, List.set_cons_succ]
  refine takeL 6 (v := ?_) rfl (by kernel_rfl) (by kernel_rfl) (by kernel_rfl) (fun _ _ _ h => h) (by rfl) hHeld ?_ ?_
  rotate_left 1
  · intro w2 hSw; go_simp <;> with_reducible rfl
  try simp only [Act.put, List.setIfInBounds_toArray, List.set_cons_zero, List.set_cons_succ]
  refine takeRow 1 rfl (by kernel_rfl) (by kernel_rfl) (by kernel_rfl) 27 (.tmp 2) rfl (gi) (0) rfl (encI i1) _ (fun _ _ _ h => h) (by rfl) hHeld HIr.out Try.underlying27 rfl HSI.out ?_
  try simp only [Act.put, List.setIfInBounds_toArray, List.set_cons_zero, List.set_cons_succ]
  refine takeRow 4 rfl (by kernel_rfl) (by kernel_rfl) (by kernel_rfl) 27 (.tmp 2) rfl (gi) (0) rfl (encI i1) _ (fun _ _ _ h => h) (by rfl) hHeld HIr.out Try.underlying27 rfl HSI.out ?_
  try simp only [Act.put, List.setIfInBounds_toArray, List.set_cons_zero, List.set_cons_succ]
  refine takeRow 7 rfl (by kernel_rfl) (by kernel_rfl) (by kernel_rfl) 27 (.tmp 2) rfl (gi) (0) rfl (encI i1) _ (fun _ _ _ h => h) (by rfl) hHeld HIr.out Try.underlying27 rfl HSI.out ?_
  try simp only [Act.put, List.setIfInBounds_toArray, List.set_cons_zero, List.set_cons_succ]
  refine heavyL 2 rfl (by kernel_rfl) (fun K hK => ?_)
  go_simp
  refine (judge_any i1 9840 30000 false hb mb [] 0 _ (HH2.out.kept hHeld)).mono ?_
  rintro e w4 ⟨rfl, b4⟩
  rw [kJ1]
  try go_simp
  refine hK.out _ _ (hHeld.trans (b4.mono hHeld.size)) (fun hHeld => ?_)
  clear hK K
  try simp only [Act.put, List.setIfInBounds_toArray, List.set_cons_zero, List.set_cons_succ]
  refine heavyL 5 rfl (by kernel_rfl) (fun K hK => ?_)
  go_simp
  refine (judge_any i1 9839 30000 false hb mb [] 0 _ (HH2.out.kept hHeld)).mono ?_
  rintro e w5 ⟨rfl, b5⟩
  rw [kJ2]
  try go_simp
  refine hK.out _ _ (hHeld.trans (b5.mono hHeld.size)) (fun hHeld => ?_)
  clear hK K
  try simp only [Act.put, List.setIfInBounds_toArray, List.set_cons_zero, List.set_cons_succ]
  refine heavyL 8 rfl (by kernel_rfl) (fun K hK => ?_)
  go_simp
  refine (judge_any i1 9839 30000 true hb mb [] 0 _ (HH2.out.kept hHeld)).mono ?_
  rintro e w6 ⟨rfl, b6⟩
  rw [kJ3]
  try go_simp
  refine hK.out _ _ (hHeld.trans (b6.mono hHeld.size)) (fun hHeld => ?_)
  clear hK K
  try simp only [Act.put, List.setIfInBounds_toArray, List.set_cons_zero, List.set_cons_succ]
  refine takeL 9 (v := ?_) rfl (by kernel_rfl) (by kernel_rfl) (by kernel_rfl) (fun _ _ _ h => h) (by rfl) hHeld ?_ ?_
  rotate_left 1
  · intro w2 hSw; go_simp <;> with_reducible rfl
  try simp only [Act.put, List.setIfInBounds_toArray, List.set_cons_zero, List.set_cons_succ]
  refine takeL 10 (v := ?_) rfl (by kernel_rfl) (by kernel_rfl) (by kernel_rfl) (fun _ _ _ h => h) (by rfl) hHeld ?_ ?_
  rotate_left 1
  · intro w2 hSw; go_simp <;> with_reducible rfl
  try simp only [Act.put, List.setIfInBounds_toArray, List.set_cons_zero, List.set_cons_succ]
  refine takeL 11 (v := ?_) rfl (by kernel_rfl) (by kernel_rfl) (by kernel_rfl) (fun _ _ _ h => h) (by rfl) hHeld ?_ ?_
  rotate_left 1
  · intro w2 hSw; go_simp <;> with_reducible rfl
  try simp only [Act.put, List.setIfInBounds_toArray, List.set_cons_zero, List.set_cons_succ]
  refine wpAnyH_done (by kernel_rfl) ?_ _
  refine NoPanic.normal ?_
  have hT1 := hHeld
  go_wp2_with fail
  refine wp_region_noPanic ?_
  refine wp_region_held_drew (S := fun w' => Below w2.heap.size w2 w') (by kernel_rfl) (hT1.drew) (fun hHeld => ?_)
  refine takeL 0 (v := ?_) rfl (by kernel_rfl) (by kernel_rfl) (by kernel_rfl) (fun _ _ _ h => h) (by rfl) hHeld ?_ ?_
  rotate_left 1
  · intro w2 hSw; go_simp <;> with_reducible rfl
  try simp only [Act.put, List.setIfInBounds_toArray, List.set_cons_zero, List.set_cons_succ]
  refine takeL 3 (v := ?_) rfl (by kernel_rfl) (by kernel_rfl) (by kernel_rfl) (fun _ _ _ h => h) (by rfl) hHeld ?_ ?_
  rotate_left 1
  · intro w2 hSw; go_simp <;> with_reducible rfl
  try simp only [Act.put, List.setIfInBounds_toArray, List.set_cons_zero, List.set_cons_succ]
  refine takeRow 1 rfl (by kernel_rfl) (by kernel_rfl) (by kernel_rfl) 27 (.tmp 2) rfl (gi) (0) rfl (encI i1) _ (fun _ _ _ h => h) (by rfl) hHeld HIr.out Try.underlying27 rfl HSI.out ?_
  try simp only [Act.put, List.setIfInBounds_toArray, List.set_cons_zero, List.set_cons_succ]
  refine takeRow 4 rfl (by kernel_rfl) (by kernel_rfl) (by kernel_rfl) 27 (.tmp 2) rfl (gi) (0) rfl (encI i1) _ (fun _ _ _ h => h) (by rfl) hHeld HIr.out Try.underlying27 rfl HSI.out ?_
  try simp only [Act.put, List.setIfInBounds_toArray, List.set_cons_zero, List.set_cons_succ]
  refine heavyL 2 rfl (by kernel_rfl) (fun K hK => ?_)
  go_simp
  refine (judge_any i1 31440 30000 false hb mb [] 0 _ (HH2.out.kept hHeld)).mono ?_
  rintro e w7 ⟨rfl, b7⟩
  rw [kJ4]
  try go_simp
  refine hK.out _ _ (hHeld.trans (b7.mono hHeld.size)) (fun hHeld => ?_)
  clear hK K
  try simp only [Act.put, List.setIfInBounds_toArray, List.set_cons_zero, List.set_cons_succ]
  refine heavyL 5 rfl (by kernel_rfl) (fun K hK => ?_)
  go_simp
  refine (judge_any i1 31441 30000 false hb mb [] 0 _ (HH2.out.kept hHeld)).mono ?_
  rintro e w8 ⟨rfl, b8⟩
  rw [kJ5]
  try go_simp
  refine hK.out _ _ (hHeld.trans (b8.mono hHeld.size)) (fun hHeld => ?_)
  clear hK K
  try simp only [Act.put, List.setIfInBounds_toArray, List.set_cons_zero, List.set_cons_succ]
  refine takeL 6 (v := ?_) rfl (by kernel_rfl) (by kernel_rfl) (by kernel_rfl) (fun _ _ _ h => h) (by rfl) hHeld ?_ ?_
  rotate_left 1
  · intro w2 hSw; go_simp <;> with_reducible rfl
  try simp only [Act.put, List.setIfInBounds_toArray, List.set_cons_zero, List.set_cons_succ]
  refine takeL 7 (v := ?_) rfl (by kernel_rfl) (by kernel_rfl) (by kernel_rfl) (fun _ _ _ h => h) (by rfl) hHeld ?_ ?_
  rotate_left 1
  · intro w2 hSw; go_simp <;> with_reducible rfl
  try simp only [Act.put, List.setIfInBounds_toArray, List.set_cons_zero, List.set_cons_succ]
  refine wpAnyH_done (by kernel_rfl) ?_ _
  refine NoPanic.normal ?_
  have HR8 := Lib.hid (HIr.out _ hHeld)
  go_wp2_with (first
    | (refine wpList_load_mid (by rfl) 27 (.tmp 2) (by rfl) gi 0 (by rfl) (encI i1) _ HR8.out Try.underlying27 rfl HSI.out ?_)
    | (refine wpList_build_to (by rfl) 29 #[(0, .tmp 32), (1, .const (.int .i64 200)), (2, .const (.int .i64 100)), (3, .const (.int .i64 1))] (by rfl) [(0, .agg (encI i1).toArray), (1, .int .i64 200), (2, .int .i64 100), (3, .int .i64 1)] (by kernel_rfl) (encE e1).toArray built_e1 ?_))
  refine (add_any e1 hb mb [] 0 (by decide) w8 (HH2.out.kept hHeld)).mono ?_
  rw [kA]
  rintro e w9 ⟨rfl, hH9, bt9⟩
  have hbw8 : Below mb w w8 := hb2.trans (hHeld.mono (by rw [← hmb]; exact hb2.size))
  have hbw9 := hbw8.trans (bt9.below (by rw [← hmb]; exact hbw8.size) hbm)
  have hnt : ¬ Two hb mb gi := fun h => by rcases h with h | h <;> omega
  have hg8 := heap_below hHeld hgi H2.out
  have hg9 := bt9.heap hg8 hnt
  have HH9 := Lib.hid hH9
  have HG9 := Lib.hid hg9
  clear hH9 hg9 hg8 bt9 hHeld HR8 HIr HH2 hT1
  go_wp2_with fail
  refine (forget_any 20260 hb mb [e1] 0 (by decide) w9 HH9.out).mono ?_
  rw [kF1.1, kF1.2.1, kF1.2.2]
  rintro e w10 ⟨v10, rfl, ov10, hH10, bt10⟩
  obtain ⟨_, a10, c10, rfl, _, _⟩ := idsAt_of_owns ov10
  have hbw10 := hbw9.trans (bt10.below (by rw [← hmb]; exact hbw9.size) hbm)
  have HH10 := Lib.hid hH10
  have HG10 := Lib.hid (bt10.heap HG9.out hnt)
  clear hH10 ov10 bt10 HG9 HH9
  go_wp2_with fail
  refine (forget_any 20261 hb mb [e1] 0 (by decide) w10 HH10.out).mono ?_
  rw [kF2.1, kF2.2.1, kF2.2.2]
  rintro e w11 ⟨v11, rfl, ov11, hH11, bt11⟩
  obtain ⟨_, a11, c11, rfl, _, hia11⟩ := idsAt_of_owns ov11
  obtain ⟨ga, oa, rfl, hga, hra⟩ := hia11.at (i := 0) (by simp)
  have hbw11 := hbw10.trans (bt11.below (by rw [← hmb]; exact hbw10.size) hbm)
  have HH11 := Lib.hid hH11
  have HG11 := Lib.hid (bt11.heap HG10.out hnt)
  have HRa := Lib.hid hra
  clear hH11 ov11 bt11 HG10 HH10 hia11 hra
  go_wp2_with (refine wpList_load_mid (by rfl) 27 (.tmp 2) (by rfl) gi 0 (by rfl) (encI i1) _ (rangeAt_row' HG11.out) Try.underlying27 rfl HSI.out ?_)
  refine (judge_any i1 100 200 false hb mb [] 20261 w11 HH11.out).mono ?_
  rw [kJ6]
  rintro e w12 ⟨rfl, b12⟩
  have HH12 := Lib.hid (HH11.out.kept b12)
  have hgi11 : gi < w11.heap.size := (Array.getElem?_eq_some_iff.1 HG11.out).1
  have HIr : Hid (∀ w', Below w12.heap.size w12 w' → w'.rangeAt gi 0 (encI i1)) := Lib.hid (fun w' b => rangeAt_row' (heap_below b (Nat.lt_of_lt_of_le hgi11 b12.size) (heap_below b12 hgi11 HG11.out)))
  have HRr : Hid (∀ w', Below w12.heap.size w12 w' → w'.rangeAt ga oa (encI i1)) := Lib.hid (fun w' b => by
    have h0 := rangeAt_below HRa.out b12 hga
    simp only [Nat.zero_mul, Nat.add_zero, List.getElem_cons_zero] at h0
    exact rangeAt_below h0 b (Nat.lt_of_lt_of_le hga b12.size))
  have hbw12 := hbw11.trans (b12.mono (by rw [← hmb]; exact hbw11.size))
  have HEQ : Hid (∀ w', Below w12.heap.size w12 w' → (Op.equalIn 10000 27 (.agg (encI i1).toArray) (.agg (encI i1).toArray)).run Try.prog w' = .ok true w') := Lib.hid (fun w' _ => by rw [eqI27]; simp)
  clear HH11 HG11 HRa b12
  go_wp2_with fail
  refine wp_region_noPanic ?_
  refine wp_region_held_drew (S := fun w' => Below w12.heap.size w12 w') (by kernel_rfl) ((Below.refl _ _).drew) (fun hHeld => ?_)
  refine takeL 0 (v := ?_) rfl (by kernel_rfl) (by kernel_rfl) (by kernel_rfl) (fun _ _ _ h => h) (by rfl) hHeld ?_ ?_
  rotate_left 1
  · intro w2 hSw; go_simp <;> with_reducible rfl
  try simp only [Act.put, List.setIfInBounds_toArray, List.set_cons_zero, List.set_cons_succ]
  refine takeL 1 (v := ?_) rfl (by kernel_rfl) (by kernel_rfl) (by kernel_rfl) (fun _ _ _ h => h) (by rfl) hHeld ?_ ?_
  rotate_left 1
  · intro w2 hSw; go_simp <;> with_reducible rfl
  try simp only [Act.put, List.setIfInBounds_toArray, List.set_cons_zero, List.set_cons_succ]
  refine takeL 2 (v := ?_) rfl (by kernel_rfl) (by kernel_rfl) (by kernel_rfl) (fun _ _ _ h => h) (by rfl) hHeld ?_ ?_
  rotate_left 1
  · intro w2 hSw; go_simp <;> with_reducible rfl
  try simp only [Act.put, List.setIfInBounds_toArray, List.set_cons_zero, List.set_cons_succ]
  refine takeL 3 (v := ?_) rfl (by kernel_rfl) (by kernel_rfl) (by kernel_rfl) (fun _ _ _ h => h) (by rfl) hHeld ?_ ?_
  rotate_left 1
  · intro w2 hSw; go_simp <;> with_reducible rfl
  try simp only [Act.put, List.setIfInBounds_toArray, List.set_cons_zero, List.set_cons_succ]
  refine heavyL 4 rfl (by kernel_rfl) (fun K hK => ?_)
  go_simp
  refine (cutoff_any hb mb [] 20261 _ (HH12.out.kept hHeld)).mono ?_
  rintro e w13 ⟨rfl, rfl⟩
  try go_simp
  refine hK.out _ _ (hHeld) (fun hHeld => ?_)
  clear hK K
  try simp only [Act.put, List.setIfInBounds_toArray, List.set_cons_zero, List.set_cons_succ]
  refine takeL 5 (v := ?_) rfl (by kernel_rfl) (by kernel_rfl) (by kernel_rfl) (fun _ _ _ h => h) (by rfl) hHeld ?_ ?_
  rotate_left 1
  · intro w2 hSw; go_simp <;> with_reducible rfl
  try simp only [Act.put, List.setIfInBounds_toArray, List.set_cons_zero, List.set_cons_succ]
  refine takeL 6 (v := ?_) rfl (by kernel_rfl) (by kernel_rfl) (by kernel_rfl) (fun _ _ _ h => h) (by rfl) hHeld ?_ ?_
  rotate_left 1
  · intro w2 hSw; go_simp <;> with_reducible rfl
  try simp only [Act.put, List.setIfInBounds_toArray, List.set_cons_zero, List.set_cons_succ]
  refine takeL 7 (v := ?_) rfl (by kernel_rfl) (by kernel_rfl) (by kernel_rfl) (fun _ _ _ h => h) (by rfl) hHeld ?_ ?_
  rotate_left 1
  · intro w2 hSw; go_simp <;> with_reducible rfl
  try simp only [Act.put, List.setIfInBounds_toArray, List.set_cons_zero, List.set_cons_succ]
  refine takeL 8 (v := ?_) rfl (by kernel_rfl) (by kernel_rfl) (by kernel_rfl) (fun _ _ _ h => h) (by rfl) hHeld ?_ ?_
  rotate_left 1
  · intro w2 hSw; go_simp <;> with_reducible rfl
  try simp only [Act.put, List.setIfInBounds_toArray, List.set_cons_zero, List.set_cons_succ]
  refine takeL 9 (v := ?_) rfl (by kernel_rfl) (by kernel_rfl) (by kernel_rfl) (fun _ _ _ h => h) (by rfl) hHeld ?_ ?_
  rotate_left 1
  · intro w2 hSw; go_simp <;> with_reducible rfl
  try simp only [Act.put, List.setIfInBounds_toArray, List.set_cons_zero, List.set_cons_succ]
  refine takeL 10 (v := ?_) rfl (by kernel_rfl) (by kernel_rfl) (by kernel_rfl) (fun _ _ _ h => h) (by rfl) hHeld ?_ ?_
  rotate_left 1
  · intro w2 hSw; go_simp <;> with_reducible rfl
  try simp only [Act.put, List.setIfInBounds_toArray, List.set_cons_zero, List.set_cons_succ]
  refine takeL 11 (v := ?_) rfl (by kernel_rfl) (by kernel_rfl) (by kernel_rfl) (fun _ _ _ h => h) (by rfl) hHeld ?_ ?_
  rotate_left 1
  · intro w2 hSw; go_simp <;> with_reducible rfl
  try simp only [Act.put, List.setIfInBounds_toArray, List.set_cons_zero, List.set_cons_succ]
  refine takeL 12 (v := ?_) rfl (by kernel_rfl) (by kernel_rfl) (by kernel_rfl) (fun _ _ _ h => h) (by rfl) hHeld ?_ ?_
  rotate_left 1
  · intro w2 hSw; go_simp <;> with_reducible rfl
  try simp only [Act.put, List.setIfInBounds_toArray, List.set_cons_zero, List.set_cons_succ]
  refine takeL 13 (v := ?_) rfl (by kernel_rfl) (by kernel_rfl) (by kernel_rfl) (fun _ _ _ h => h) (by rfl) hHeld ?_ ?_
  rotate_left 1
  · intro w2 hSw; go_simp <;> with_reducible rfl
  try simp only [Act.put, List.setIfInBounds_toArray, List.set_cons_zero, List.set_cons_succ]
  refine takeL 14 (v := ?_) rfl (by kernel_rfl) (by kernel_rfl) (by kernel_rfl) (fun _ _ _ h => h) (by rfl) hHeld ?_ ?_
  rotate_left 1
  · intro w2 hSw; go_simp <;> with_reducible rfl
  try simp only [Act.put, List.setIfInBounds_toArray, List.set_cons_zero, List.set_cons_succ]
  refine takeL 15 (v := ?_) rfl (by kernel_rfl) (by kernel_rfl) (by kernel_rfl) (fun _ _ _ h => h) (by rfl) hHeld ?_ ?_
  rotate_left 1
  · intro w2 hSw; go_simp <;> with_reducible rfl
  try simp only [Act.put, List.setIfInBounds_toArray, List.set_cons_zero, List.set_cons_succ]
  refine takeL 16 (v := ?_) rfl (by kernel_rfl) (by kernel_rfl) (by kernel_rfl) (fun _ _ _ h => h) (by rfl) hHeld ?_ ?_
  rotate_left 1
  · intro w2 hSw; go_simp <;> with_reducible rfl
  try simp only [Act.put, List.setIfInBounds_toArray, List.set_cons_zero, List.set_cons_succ]
  refine takeL 17 (v := ?_) rfl (by kernel_rfl) (by kernel_rfl) (by kernel_rfl) (fun _ _ _ h => h) (by rfl) hHeld ?_ ?_
  rotate_left 1
  · intro w2 hSw; go_simp <;> with_reducible rfl
  try simp only [Act.put, List.setIfInBounds_toArray, List.set_cons_zero, List.set_cons_succ]
  refine takeL 18 (v := ?_) rfl (by kernel_rfl) (by kernel_rfl) (by kernel_rfl) (fun _ _ _ h => h) (by rfl) hHeld ?_ ?_
  rotate_left 1
  · intro w2 hSw; go_simp <;> with_reducible rfl
  try simp only [Act.put, List.setIfInBounds_toArray, List.set_cons_zero, List.set_cons_succ]
  refine takeL 19 (v := ?_) rfl (by kernel_rfl) (by kernel_rfl) (by kernel_rfl) (fun _ _ _ h => h) (by rfl) hHeld ?_ ?_
  rotate_left 1
  · intro w2 hSw; go_simp <;> with_reducible rfl
  try simp only [Act.put, List.setIfInBounds_toArray, List.set_cons_zero, List.set_cons_succ]
  refine takeL 20 (v := ?_) rfl (by kernel_rfl) (by kernel_rfl) (by kernel_rfl) (fun _ _ _ h => h) (by rfl) hHeld ?_ ?_
  rotate_left 1
  · intro w2 hSw; go_simp <;> with_reducible rfl
  try simp only [Act.put, List.setIfInBounds_toArray, List.set_cons_zero, List.set_cons_succ]
  refine takeL 21 (v := ?_) rfl (by kernel_rfl) (by kernel_rfl) (by kernel_rfl) (fun _ _ _ h => h) (by rfl) hHeld ?_ ?_
  rotate_left 1
  · intro w2 hSw; go_simp <;> with_reducible rfl
  try simp only [Act.put, List.setIfInBounds_toArray, List.set_cons_zero, List.set_cons_succ]
  refine takeL 22 (v := ?_) rfl (by kernel_rfl) (by kernel_rfl) (by kernel_rfl) (fun _ _ _ h => h) (by rfl) hHeld ?_ ?_
  rotate_left 1
  · intro w2 hSw; go_simp <;> with_reducible rfl
  try simp only [Act.put, List.setIfInBounds_toArray, List.set_cons_zero, List.set_cons_succ]
  refine takeL 23 (v := ?_) rfl (by kernel_rfl) (by kernel_rfl) (by kernel_rfl) (fun _ _ _ h => h) (by rfl) hHeld ?_ ?_
  rotate_left 1
  · intro w2 hSw; go_simp <;> with_reducible rfl
  try simp only [Act.put, List.setIfInBounds_toArray, List.set_cons_zero, List.set_cons_succ]
  refine takeL 24 (v := ?_) rfl (by kernel_rfl) (by kernel_rfl) (by kernel_rfl) (fun _ _ _ h => h) (by rfl) hHeld ?_ ?_
  rotate_left 1
  · intro w2 hSw; go_simp <;> with_reducible rfl
  try simp only [Act.put, List.setIfInBounds_toArray, List.set_cons_zero, List.set_cons_succ]
  refine takeL 25 (v := ?_) rfl (by kernel_rfl) (by kernel_rfl) (by kernel_rfl) (fun _ _ _ h => h) (by rfl) hHeld ?_ ?_
  rotate_left 1
  · intro w2 hSw; go_simp <;> with_reducible rfl
  try simp only [Act.put, List.setIfInBounds_toArray, List.set_cons_zero, List.set_cons_succ]
  refine takeL 26 (v := ?_) rfl (by kernel_rfl) (by kernel_rfl) (by kernel_rfl) (fun _ _ _ h => h) (by rfl) hHeld ?_ ?_
  rotate_left 1
  · intro w2 hSw; go_simp <;> with_reducible rfl
  try simp only [Act.put, List.setIfInBounds_toArray, List.set_cons_zero, List.set_cons_succ]
  refine takeL 27 (v := ?_) rfl (by kernel_rfl) (by kernel_rfl) (by kernel_rfl) (fun _ _ _ h => h) (by rfl) hHeld ?_ ?_
  rotate_left 1
  · intro w2 hSw; go_simp <;> with_reducible rfl
  try simp only [Act.put, List.setIfInBounds_toArray, List.set_cons_zero, List.set_cons_succ]
  refine takeL 28 (v := ?_) rfl (by kernel_rfl) (by kernel_rfl) (by kernel_rfl) (fun _ _ _ h => h) (by rfl) hHeld ?_ ?_
  rotate_left 1
  · intro w2 hSw; go_simp <;> with_reducible rfl
  try simp only [Act.put, List.setIfInBounds_toArray, List.set_cons_zero, List.set_cons_succ]
  refine takeL 29 (v := ?_) rfl (by kernel_rfl) (by kernel_rfl) (by kernel_rfl) (fun _ _ _ h => h) (by rfl) hHeld ?_ ?_
  rotate_left 1
  · intro w2 hSw; go_simp <;> with_reducible rfl
  try simp only [Act.put, List.setIfInBounds_toArray, List.set_cons_zero, List.set_cons_succ]
  refine takeL 30 (v := ?_) rfl (by kernel_rfl) (by kernel_rfl) (by kernel_rfl) (fun _ _ _ h => h) (by rfl) hHeld ?_ ?_
  rotate_left 1
  · intro w2 hSw; go_simp <;> with_reducible rfl
  try simp only [Act.put, List.setIfInBounds_toArray, List.set_cons_zero, List.set_cons_succ]
  refine takeL 31 (v := ?_) rfl (by kernel_rfl) (by kernel_rfl) (by kernel_rfl) (fun _ _ _ h => h) (by rfl) hHeld ?_ ?_
  rotate_left 1
  · intro w2 hSw; go_simp <;> with_reducible rfl
  try simp only [Act.put, List.setIfInBounds_toArray, List.set_cons_zero, List.set_cons_succ]
  refine takeL 32 (v := ?_) rfl (by kernel_rfl) (by kernel_rfl) (by kernel_rfl) (fun _ _ _ h => h) (by rfl) hHeld ?_ ?_
  rotate_left 1
  · intro w2 hSw; go_simp <;> with_reducible rfl
  try simp only [Act.put, List.setIfInBounds_toArray, List.set_cons_zero, List.set_cons_succ]
  refine takeL 33 (v := ?_) rfl (by kernel_rfl) (by kernel_rfl) (by kernel_rfl) (fun _ _ _ h => h) (by rfl) hHeld ?_ ?_
  rotate_left 1
  · intro w2 hSw; go_simp <;> with_reducible rfl
  try simp only [Act.put, List.setIfInBounds_toArray, List.set_cons_zero, List.set_cons_succ]
  refine takeL 34 (v := ?_) rfl (by kernel_rfl) (by kernel_rfl) (by kernel_rfl) (fun _ _ _ h => h) (by rfl) hHeld ?_ ?_
  rotate_left 1
  · intro w2 hSw; go_simp <;> with_reducible rfl
  try simp only [Act.put, List.setIfInBounds_toArray, List.set_cons_zero, List.set_cons_succ]
  refine takeL 35 (v := ?_) rfl (by kernel_rfl) (by kernel_rfl) (by kernel_rfl) (fun _ _ _ h => h) (by rfl) hHeld ?_ ?_
  rotate_left 1
  · intro w2 hSw; go_simp <;> with_reducible rfl
  try simp only [Act.put, List.setIfInBounds_toArray, List.set_cons_zero, List.set_cons_succ]
  refine takeL 36 (v := ?_) rfl (by kernel_rfl) (by kernel_rfl) (by kernel_rfl) (fun _ _ _ h => h) (by rfl) hHeld ?_ ?_
  rotate_left 1
  · intro w2 hSw; go_simp <;> with_reducible rfl
  try simp only [Act.put, List.setIfInBounds_toArray, List.set_cons_zero, List.set_cons_succ]
  refine takeL 37 (v := ?_) rfl (by kernel_rfl) (by kernel_rfl) (by kernel_rfl) (fun _ _ _ h => h) (by rfl) hHeld ?_ ?_
  rotate_left 1
  · intro w2 hSw; go_simp <;> with_reducible rfl
  try simp only [Act.put, List.setIfInBounds_toArray, List.set_cons_zero, List.set_cons_succ]
  refine takeL 38 (v := ?_) rfl (by kernel_rfl) (by kernel_rfl) (by kernel_rfl) (fun _ _ _ h => h) (by rfl) hHeld ?_ ?_
  rotate_left 1
  · intro w2 hSw; go_simp <;> with_reducible rfl
  try simp only [Act.put, List.setIfInBounds_toArray, List.set_cons_zero, List.set_cons_succ]
  refine takeL 39 (v := ?_) rfl (by kernel_rfl) (by kernel_rfl) (by kernel_rfl) (fun _ _ _ h => h) (by rfl) hHeld ?_ ?_
  rotate_left 1
  · intro w2 hSw; go_simp <;> with_reducible rfl
  try simp only [Act.put, List.setIfInBounds_toArray, List.set_cons_zero, List.set_cons_succ]
  refine takeL 40 (v := ?_) rfl (by kernel_rfl) (by kernel_rfl) (by kernel_rfl) (fun _ _ _ h => h) (by rfl) hHeld ?_ ?_
  rotate_left 1
  · intro w2 hSw; go_simp <;> with_reducible rfl
  try simp only [Act.put, List.setIfInBounds_toArray, List.set_cons_zero, List.set_cons_succ]
  refine takeL 41 (v := ?_) rfl (by kernel_rfl) (by kernel_rfl) (by kernel_rfl) (fun _ _ _ h => h) (by rfl) hHeld ?_ ?_
  rotate_left 1
  · intro w2 hSw; go_simp <;> with_reducible rfl
  try simp only [Act.put, List.setIfInBounds_toArray, List.set_cons_zero, List.set_cons_succ]
  refine takeL 42 (v := ?_) rfl (by kernel_rfl) (by kernel_rfl) (by kernel_rfl) (fun _ _ _ h => h) (by rfl) hHeld ?_ ?_
  rotate_left 1
  · intro w2 hSw; go_simp <;> with_reducible rfl
  try simp only [Act.put, List.setIfInBounds_toArray, List.set_cons_zero, List.set_cons_succ]
  refine takeRow 43 rfl (by kernel_rfl) (by kernel_rfl) (by kernel_rfl) 27 (.tmp 85) rfl (ga) (oa) rfl (encI i1) _ (fun _ _ _ h => h) (by rfl) hHeld HRr.out Try.underlying27 rfl HSI.out ?_
  try simp only [Act.put, List.setIfInBounds_toArray, List.set_cons_zero, List.set_cons_succ]
  refine takeRow 44 rfl (by kernel_rfl) (by kernel_rfl) (by kernel_rfl) 27 (.tmp 2) rfl (gi) (0) rfl (encI i1) _ (fun _ _ _ h => h) (by rfl) hHeld HIr.out Try.underlying27 rfl HSI.out ?_
  try simp only [Act.put, List.setIfInBounds_toArray, List.set_cons_zero, List.set_cons_succ]
  refine takeL 45 (v := ?_) rfl (by kernel_rfl) (by kernel_rfl) (by kernel_rfl) (fun _ _ _ h => h) (by rfl) hHeld ?_ ?_
  rotate_left 1
  · intro w2 hSw; have q0 := HEQ.out w2 hSw; go_simp <;> with_reducible rfl
  try simp only [Act.put, List.setIfInBounds_toArray, List.set_cons_zero, List.set_cons_succ]
  refine takeL 46 (v := ?_) rfl (by kernel_rfl) (by kernel_rfl) (by kernel_rfl) (fun _ _ _ h => h) (by rfl) hHeld ?_ ?_
  rotate_left 1
  · intro w2 hSw; go_simp <;> with_reducible rfl
  try simp only [Act.put, List.setIfInBounds_toArray, List.set_cons_zero, List.set_cons_succ]
  refine takeL 47 (v := ?_) rfl (by kernel_rfl) (by kernel_rfl) (by kernel_rfl) (fun _ _ _ h => h) (by rfl) hHeld ?_ ?_
  rotate_left 1
  · intro w2 hSw; go_simp <;> with_reducible rfl
  try simp only [Act.put, List.setIfInBounds_toArray, List.set_cons_zero, List.set_cons_succ]
  refine takeL 48 (v := ?_) rfl (by kernel_rfl) (by kernel_rfl) (by kernel_rfl) (fun _ _ _ h => h) (by rfl) hHeld ?_ ?_
  rotate_left 1
  · intro w2 hSw; go_simp <;> with_reducible rfl
  try simp only [Act.put, List.setIfInBounds_toArray, List.set_cons_zero, List.set_cons_succ]
  refine heavyL 49 rfl (by kernel_rfl) (fun K hK => ?_)
  go_simp
  refine (len_any hb mb [] 20261 (by decide) _ (HH12.out.kept hHeld)).mono ?_
  rintro e w14 ⟨rfl, b14⟩
  try go_simp
  refine hK.out _ _ (hHeld.trans (b14.mono hHeld.size)) (fun hHeld => ?_)
  clear hK K
  try simp only [Act.put, List.setIfInBounds_toArray, List.set_cons_zero, List.set_cons_succ]
  refine takeL 50 (v := ?_) rfl (by kernel_rfl) (by kernel_rfl) (by kernel_rfl) (fun _ _ _ h => h) (by rfl) hHeld ?_ ?_
  rotate_left 1
  · intro w2 hSw; go_simp <;> with_reducible rfl
  try simp only [Act.put, List.setIfInBounds_toArray, List.set_cons_zero, List.set_cons_succ]
  refine takeL 51 (v := ?_) rfl (by kernel_rfl) (by kernel_rfl) (by kernel_rfl) (fun _ _ _ h => h) (by rfl) hHeld ?_ ?_
  rotate_left 1
  · intro w2 hSw; go_simp <;> with_reducible rfl
  try simp only [Act.put, List.setIfInBounds_toArray, List.set_cons_zero, List.set_cons_succ]
  refine takeL 52 (v := ?_) rfl (by kernel_rfl) (by kernel_rfl) (by kernel_rfl) (fun _ _ _ h => h) (by rfl) hHeld ?_ ?_
  rotate_left 1
  · intro w2 hSw; go_simp <;> with_reducible rfl
  try simp only [Act.put, List.setIfInBounds_toArray, List.set_cons_zero, List.set_cons_succ]
  refine wpAnyH_done (by kernel_rfl) ?_ _
  refine NoPanic.normal ?_
  have hbF := hbw12.trans (hHeld.mono (by rw [← hmb]; exact hbw12.size))
  go_wp2
  go_ret
  exact ⟨rfl, by rw [hmb]; exact hbF⟩
end Go.Proofs.Ytblidphaolgilaa
