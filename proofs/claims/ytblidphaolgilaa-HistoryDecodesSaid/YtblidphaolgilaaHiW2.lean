/- History: New, Add. -/
import Derived.Test.YtblidphaolgilaaHiM
import Derived.Outline
import Derived.Deep.MidRow
namespace Go.Proofs.Ytblidphaolgilaa
open Go.RowKit Go.Maps
set_option linter.unusedSimpArgs false

theorem new_any (w : World) : Calls Try.prog 38 #[] w fun e w' => e = .returned (.pointer (some ⟨w.heap.size + 1, 0, none⟩)) ∧ HistAt w' (w.heap.size + 1) w.heap.size [] 0 ∧ Below w.heap.size w w' ∧ w'.heap.size = w.heap.size + 2 := by
  have hmm := @run_makeMap Try.prog
  have hM := MapAt.made w
  have hB : Below w.heap.size w (w.alloc (.map #[] 0)) := (Below.refl _ w).alloc (Nat.le_refl _) _
  go_enter Try.func38, Try.ntmps38
  go_wp2
  go_ret
  refine ⟨by simp, ⟨?_, hM.of_heap ?_, SE.nil, by omega, by omega⟩, hB.alloc (by simp) _, by simp⟩
  · have := heap_alloc_new (w.alloc (.map #[] 0)) (.cells #[.map (some w.heap.size), .int .i64 0] 86 (0, 0))
    simpa using this
  · exact Below.heap_alloc _ _ _ (by simp)

set_option maxRecDepth 100000 in
set_option maxHeartbeats 1000000 in
theorem add_any (x : Ent) (hb mb : Nat) (l : List Ent) (cut : Int) (hl : l.length < 1000000) (w : World) (h : HistAt w hb mb l cut) :
    Calls Try.prog 19 #[.pointer (some ⟨hb, 0, none⟩), encX x] w fun e w' => e = .returned (.int .i64 (addE l x).2) ∧ HistAt w' hb mb (addE l x).1 cut ∧ But (Two hb mb) w w' := by
  have hmb := h.map.lt
  have hN := EntAt.new w x 29
  have hB : Below w.heap.size w (w.alloc (.cells (encE x).toArray 29)) := (Below.refl _ w).alloc (Nat.le_refl _) _
  have hsz : w.heap.size < (w.alloc (.cells (encE x).toArray 29)).heap.size := by simp
  obtain ⟨w1, hw1⟩ : ∃ w1, w.alloc (.cells (encE x).toArray 29) = w1 := ⟨_, rfl⟩
  rw [hw1] at hN hB hsz
  have h1 := h.kept hB
  have HH := Lib.hid h1
  have HN := Lib.hid hN
  have hBut := But.of_below (ms := Two hb mb) hB
  have HSX := Lib.hid (xSize x)
  have c32 := fun j hj => hN.cell j ((encE x)[j]'hj) (List.getElem?_eq_getElem hj)
  clear h hN h1 c32
  by_cases hck : chk x = 0
  · have HEE := Lib.hid hsz
    have hckz := Lib.hid hck
    unfold encX
    go_enter Try.func19, Try.ntmps19
    go_wp2_with (refine wpList_load_abs (by rfl) 29 (.tmp 3) (by rfl) w.heap.size (by rfl) _ _ _ _ HN.out Try.underlying29 rfl HSX.out ?_)
    refine (check_any x _).mono ?_
    rintro e w2 ⟨rfl, b2⟩
    clear hw1
    rw [hckz.out]
    have hH2 := HH.out.kept b2
    have hN2 := HN.out.below b2 hsz
    have hBut2 := hBut.trans (But.of_below (ms := Two hb mb) b2)
    have hs2 := Nat.lt_of_lt_of_le hsz b2.size
    clear HH HN hBut b2 hB hsz HEE
    have HC : Hid (∀ w', Below w2.heap.size w2 w' → w'.cell? ⟨hb, 0, none⟩ = some (.map (some mb))) := Lib.hid (fun w' b => by rw [cell_of_row _ _ _ _ _ _ (hH2.kept b).blk]; rfl)
    have HI : Hid (∀ w', Below w2.heap.size w2 w' → w'.rangeAt w.heap.size 0 (encI x.id)) := Lib.hid (fun w' b => (hN2.below b hs2).idr)
    have HL : Hid (∀ w', Below w2.heap.size w2 w' → (Instr.lookup 84 (.map (some mb)) (.agg (encI x.id).toArray) true).run Try.prog w' = .ok (.tuple #[encX ((fnd l x.id).getD Ent.zero), .bool (fnd l x.id).isSome]) w') := Lib.hid (fun w' b => (hH2.kept b).map.look_ok x.id)
    have HSI := Lib.hid (idSize29 x.id)
    cases hfd : fnd l x.id with
    | some y =>
      rw [hfd] at HL
      simp only [Option.getD_some, Option.isSome_some] at HL
      have HFD := Lib.hid hfd
      have HH2 := Lib.hid hH2
      have HSZ := Lib.hid (xSize y)
      clear hfd hH2 hN2
      go_wp2_with fail
      refine wp_region_noPanic ?_
      refine wp_region_held_drew (S := fun w' => Below w2.heap.size w2 w') (by kernel_rfl) ((Below.refl _ _).drew) (fun hHeld => ?_)
      refine takeL 0 (v := ?_) rfl (by kernel_rfl) (by kernel_rfl) (by kernel_rfl) (fun _ _ _ h => h) (by rfl) hHeld ?_ ?_
      rotate_left 1
      · intro w2 hSw; go_simp <;> with_reducible rfl
      try simp only [Act.put, List.setIfInBounds_toArray, List.set_cons_zero, List.set_cons_succ]
      refine takeL 1 (v := ?_) rfl (by kernel_rfl) (by kernel_rfl) (by kernel_rfl) (fun _ _ _ h => h) (by rfl) hHeld ?_ ?_
      rotate_left 1
      · intro w2 hSw; go_simp <;> with_reducible rfl
      try simp only [Act.put, List.setIfInBounds_toArray, List.set_cons_zero, List.set_cons_succ]
      refine takeL 2 (v := ?_) rfl (by kernel_rfl) (by kernel_rfl) (by kernel_rfl) (fun _ _ _ h => h) (by rfl) hHeld ?_ ?_
      rotate_left 1
      · intro w2 hSw; go_simp <;> with_reducible rfl
      try simp only [Act.put, List.setIfInBounds_toArray, List.set_cons_zero, List.set_cons_succ]
      refine takeL 3 (v := ?_) rfl (by kernel_rfl) (by kernel_rfl) (by kernel_rfl) (fun _ _ _ h => h) (by rfl) hHeld ?_ ?_
      rotate_left 1
      · intro w2 hSw; have q0 := HC.out w2 hSw; go_simp <;> with_reducible rfl
      try simp only [Act.put, List.setIfInBounds_toArray, List.set_cons_zero, List.set_cons_succ]
      refine takeL 4 (v := ?_) rfl (by kernel_rfl) (by kernel_rfl) (by kernel_rfl) (fun _ _ _ h => h) (by rfl) hHeld ?_ ?_
      rotate_left 1
      · intro w2 hSw; go_simp <;> with_reducible rfl
      try simp only [Act.put, List.setIfInBounds_toArray, List.set_cons_zero, List.set_cons_succ]
      refine takeRow 5 rfl (by kernel_rfl) (by kernel_rfl) (by kernel_rfl) 27 (.tmp 20) rfl (w.heap.size) (0) rfl (encI x.id) _ (fun _ _ _ h => h) (by rfl) hHeld HI.out Try.underlying27 rfl HSI.out ?_
      try simp only [Act.put, List.setIfInBounds_toArray, List.set_cons_zero, List.set_cons_succ]
      refine takeL 6 (v := ?_) rfl (by kernel_rfl) (by kernel_rfl) (by kernel_rfl) (fun _ _ _ h => h) (by rfl) hHeld ?_ ?_
      rotate_left 1
      · intro w2 hSw; have q0 := HL.out w2 hSw; go_simp <;> with_reducible rfl
      try simp only [Act.put, List.setIfInBounds_toArray, List.set_cons_zero, List.set_cons_succ]
      refine takeL 7 (v := ?_) rfl (by kernel_rfl) (by kernel_rfl) (by kernel_rfl) (fun _ _ _ h => h) (by rfl) hHeld ?_ ?_
      rotate_left 1
      · intro w2 hSw; go_simp <;> with_reducible rfl
      try simp only [Act.put, List.setIfInBounds_toArray, List.set_cons_zero, List.set_cons_succ]
      refine takeL 8 (v := ?_) rfl (by kernel_rfl) (by kernel_rfl) (by kernel_rfl) (fun _ _ _ h => h) (by rfl) hHeld ?_ ?_
      rotate_left 1
      · intro w2 hSw; go_simp <;> with_reducible rfl
      try simp only [Act.put, List.setIfInBounds_toArray, List.set_cons_zero, List.set_cons_succ]
      refine takeL 9 (v := ?_) rfl (by kernel_rfl) (by kernel_rfl) (by kernel_rfl) (fun _ _ _ h => h) (by rfl) hHeld ?_ ?_
      rotate_left 1
      · intro w2 hSw; go_simp <;> with_reducible rfl
      try simp only [Act.put, List.setIfInBounds_toArray, List.set_cons_zero, List.set_cons_succ]
      refine heavyL 10 rfl (by kernel_rfl) (fun K hK => ?_)
      go_simp
      refine hK.out _ _ (hHeld.alloc hHeld.size _) (fun hHeld => ?_)
      clear hK K
      try simp only [Act.put, List.setIfInBounds_toArray, List.set_cons_zero, List.set_cons_succ]
      refine heavyL 11 rfl (by kernel_rfl) (fun K hK => ?_)
      rw [if_pos (by rfl)]
      refine wp_store_abs 29 (.tmp 6) (.tmp 23) (by rfl) (w2.heap.size) ((encE y).toArray) (by rfl) (by rfl) _ ((encE Ent.zero).toArray) (heap_alloc_new w2.drew _) HSZ.out (by simp [encE_len]) (ent_one _) _ _ hHeld (Nat.le_refl _) ?_
      intro w3 Hw3 bw3 Ow3
      refine hK.out _ _ bw3 (fun hHeld => ?_)
      clear hK K
      try simp only [Act.put, List.setIfInBounds_toArray, List.set_cons_zero, List.set_cons_succ]
      refine takeL 12 (v := ?_) rfl (by kernel_rfl) (by kernel_rfl) (by kernel_rfl) (fun _ _ _ h => h) (by rfl) hHeld ?_ ?_
      rotate_left 1
      · intro w2 hSw; go_simp <;> with_reducible rfl
      try simp only [Act.put, List.setIfInBounds_toArray, List.set_cons_zero, List.set_cons_succ]
      refine wpAnyH_done (by kernel_rfl) ?_ _
      refine NoPanic.normal ?_
      go_wp2
      go_ret
      refine ⟨by unfold addE; rw [if_pos hckz.out, HFD.out]; rfl, ?_, hBut2.trans (But.of_below hHeld)⟩
      have := HH2.out.kept hHeld
      unfold addE; rw [if_pos hckz.out, HFD.out]; exact this
    | none =>
      rw [hfd] at HL
      simp only [Option.getD_none, Option.isSome_none] at HL
      have HFD := Lib.hid hfd
      have HH2 := Lib.hid hH2
      have HN2 := Lib.hid hN2
      have HSZ := Lib.hid (xSize Ent.zero)
      clear hfd hH2 hN2
      go_wp2_with fail
      refine wp_region_noPanic ?_
      refine wp_region_held_drew (S := fun w' => Below w2.heap.size w2 w') (by kernel_rfl) ((Below.refl _ _).drew) (fun hHeld => ?_)
      refine takeL 0 (v := ?_) rfl (by kernel_rfl) (by kernel_rfl) (by kernel_rfl) (fun _ _ _ h => h) (by rfl) hHeld ?_ ?_
      rotate_left 1
      · intro w2 hSw; go_simp <;> with_reducible rfl
      try simp only [Act.put, List.setIfInBounds_toArray, List.set_cons_zero, List.set_cons_succ]
      refine takeL 1 (v := ?_) rfl (by kernel_rfl) (by kernel_rfl) (by kernel_rfl) (fun _ _ _ h => h) (by rfl) hHeld ?_ ?_
      rotate_left 1
      · intro w2 hSw; go_simp <;> with_reducible rfl
      try simp only [Act.put, List.setIfInBounds_toArray, List.set_cons_zero, List.set_cons_succ]
      refine takeL 2 (v := ?_) rfl (by kernel_rfl) (by kernel_rfl) (by kernel_rfl) (fun _ _ _ h => h) (by rfl) hHeld ?_ ?_
      rotate_left 1
      · intro w2 hSw; go_simp <;> with_reducible rfl
      try simp only [Act.put, List.setIfInBounds_toArray, List.set_cons_zero, List.set_cons_succ]
      refine takeL 3 (v := ?_) rfl (by kernel_rfl) (by kernel_rfl) (by kernel_rfl) (fun _ _ _ h => h) (by rfl) hHeld ?_ ?_
      rotate_left 1
      · intro w2 hSw; have q0 := HC.out w2 hSw; go_simp <;> with_reducible rfl
      try simp only [Act.put, List.setIfInBounds_toArray, List.set_cons_zero, List.set_cons_succ]
      refine takeL 4 (v := ?_) rfl (by kernel_rfl) (by kernel_rfl) (by kernel_rfl) (fun _ _ _ h => h) (by rfl) hHeld ?_ ?_
      rotate_left 1
      · intro w2 hSw; go_simp <;> with_reducible rfl
      try simp only [Act.put, List.setIfInBounds_toArray, List.set_cons_zero, List.set_cons_succ]
      refine takeRow 5 rfl (by kernel_rfl) (by kernel_rfl) (by kernel_rfl) 27 (.tmp 20) rfl (w.heap.size) (0) rfl (encI x.id) _ (fun _ _ _ h => h) (by rfl) hHeld HI.out Try.underlying27 rfl HSI.out ?_
      try simp only [Act.put, List.setIfInBounds_toArray, List.set_cons_zero, List.set_cons_succ]
      refine takeL 6 (v := ?_) rfl (by kernel_rfl) (by kernel_rfl) (by kernel_rfl) (fun _ _ _ h => h) (by rfl) hHeld ?_ ?_
      rotate_left 1
      · intro w2 hSw; have q0 := HL.out w2 hSw; go_simp <;> with_reducible rfl
      try simp only [Act.put, List.setIfInBounds_toArray, List.set_cons_zero, List.set_cons_succ]
      refine takeL 7 (v := ?_) rfl (by kernel_rfl) (by kernel_rfl) (by kernel_rfl) (fun _ _ _ h => h) (by rfl) hHeld ?_ ?_
      rotate_left 1
      · intro w2 hSw; go_simp <;> with_reducible rfl
      try simp only [Act.put, List.setIfInBounds_toArray, List.set_cons_zero, List.set_cons_succ]
      refine takeL 8 (v := ?_) rfl (by kernel_rfl) (by kernel_rfl) (by kernel_rfl) (fun _ _ _ h => h) (by rfl) hHeld ?_ ?_
      rotate_left 1
      · intro w2 hSw; go_simp <;> with_reducible rfl
      try simp only [Act.put, List.setIfInBounds_toArray, List.set_cons_zero, List.set_cons_succ]
      refine takeL 9 (v := ?_) rfl (by kernel_rfl) (by kernel_rfl) (by kernel_rfl) (fun _ _ _ h => h) (by rfl) hHeld ?_ ?_
      rotate_left 1
      · intro w2 hSw; go_simp <;> with_reducible rfl
      try simp only [Act.put, List.setIfInBounds_toArray, List.set_cons_zero, List.set_cons_succ]
      refine heavyL 10 rfl (by kernel_rfl) (fun K hK => ?_)
      go_simp
      refine hK.out _ _ (hHeld.alloc hHeld.size _) (fun hHeld => ?_)
      clear hK K
      try simp only [Act.put, List.setIfInBounds_toArray, List.set_cons_zero, List.set_cons_succ]
      refine heavyL 11 rfl (by kernel_rfl) (fun K hK => ?_)
      rw [if_pos (by rfl)]
      refine wp_store_abs 29 (.tmp 6) (.tmp 23) (by rfl) (w2.heap.size) ((encE Ent.zero).toArray) (by rfl) (by rfl) _ ((encE Ent.zero).toArray) (heap_alloc_new w2.drew _) HSZ.out (by simp [encE_len]) (ent_one _) _ _ hHeld (Nat.le_refl _) ?_
      intro w3 Hw3 bw3 Ow3
      refine hK.out _ _ bw3 (fun hHeld => ?_)
      clear hK K
      try simp only [Act.put, List.setIfInBounds_toArray, List.set_cons_zero, List.set_cons_succ]
      refine takeL 12 (v := ?_) rfl (by kernel_rfl) (by kernel_rfl) (by kernel_rfl) (fun _ _ _ h => h) (by rfl) hHeld ?_ ?_
      rotate_left 1
      · intro w2 hSw; go_simp <;> with_reducible rfl
      try simp only [Act.put, List.setIfInBounds_toArray, List.set_cons_zero, List.set_cons_succ]
      refine wpAnyH_done (by kernel_rfl) ?_ _
      refine NoPanic.normal ?_
      have hH3 := HH2.out.kept hHeld
      have c0 : w3.cell? ⟨hb, 0, none⟩ = some (.map (some mb)) := by rw [cell_of_row _ _ _ _ _ _ hH3.blk]; rfl
      have hlen := fun ty => hH3.map.len ty
      have hli : decide ((1048576 : Int) ≤ (l.length : Int)) = false := by simp; omega
      have hl' := Lib.hid hl
      clear hl
      have HMe := Lib.hid hH3
      have HN3 := Lib.hid (HN2.out.below hHeld hs2)
      have hs3 := Nat.lt_of_lt_of_le hs2 hHeld.size
      have hBut3 := hBut2.trans (But.of_below hHeld)
      clear HH2 HN2 Hw3 Ow3 bw3 hH3 HL HC HI
      have HC3 : Hid (∀ w', But (fun k => k = mb) w3 w' → w'.cell? ⟨hb, 0, none⟩ = some (.map (some mb))) := Lib.hid (fun w' b => by rw [cell_of_row _ _ _ _ _ _ (b.heap HMe.out.blk HMe.out.ne)]; rfl)
      have HR3 : Hid (∀ w', But (fun k => k = mb) w3 w' → w'.rangeAt w.heap.size 0 (encI x.id)) := Lib.hid (fun w' b => EntAt.idr (b.heap HN3.out (Nat.ne_of_gt hmb)))
      have HE3 : Hid (∀ w', But (fun k => k = mb) w3 w' → w'.rangeAt w.heap.size 0 (encE x)) := Lib.hid (fun w' b => EntAt.range (b.heap HN3.out (Nat.ne_of_gt hmb)))
      have HSXl := Lib.hid (xLen x)
      obtain ⟨w4, hrun, hg4, hm4⟩ := MapAt.store (w := w3.drew) (HMe.out.map.of_heap rfl) hl'.out x
      have HRUN := Lib.hid hrun
      have b4 : But (fun k => k = mb) w3 w4 := (But.refl _ w3).drew.trans (But.grown hg4 (fun k hk => (Option.some.inj hk).symm))
      have HM4 := Lib.hid (hm4 (insE x l) (fnd_ins HMe.out.asc HFD.out) (by rw [HFD.out]; exact insE_len x l))
      clear hrun hm4 hg4
      go_wp2_with fail
      refine wp_region_noPanic ?_
      refine wp_region_held_drew (S := fun w' => But (fun k => k = mb) w3 w') (by kernel_rfl) ((But.refl _ w3).drew) (fun hHeld => ?_)
      refine takeL 0 (v := ?_) rfl (by kernel_rfl) (by kernel_rfl) (by kernel_rfl) (fun _ _ _ h => h) (by rfl) hHeld ?_ ?_
      rotate_left 1
      · intro w2 hSw; go_simp <;> with_reducible rfl
      try simp only [Act.put, List.setIfInBounds_toArray, List.set_cons_zero, List.set_cons_succ]
      refine takeL 1 (v := ?_) rfl (by kernel_rfl) (by kernel_rfl) (by kernel_rfl) (fun _ _ _ h => h) (by rfl) hHeld ?_ ?_
      rotate_left 1
      · intro w2 hSw; go_simp <;> with_reducible rfl
      try simp only [Act.put, List.setIfInBounds_toArray, List.set_cons_zero, List.set_cons_succ]
      refine takeL 2 (v := ?_) rfl (by kernel_rfl) (by kernel_rfl) (by kernel_rfl) (fun _ _ _ h => h) (by rfl) hHeld ?_ ?_
      rotate_left 1
      · intro w2 hSw; go_simp <;> with_reducible rfl
      try simp only [Act.put, List.setIfInBounds_toArray, List.set_cons_zero, List.set_cons_succ]
      refine takeL 3 (v := ?_) rfl (by kernel_rfl) (by kernel_rfl) (by kernel_rfl) (fun _ _ _ h => h) (by rfl) hHeld ?_ ?_
      rotate_left 1
      · intro w2 hSw; have q0 := HC3.out w2 hSw; go_simp <;> with_reducible rfl
      try simp only [Act.put, List.setIfInBounds_toArray, List.set_cons_zero, List.set_cons_succ]
      refine takeL 4 (v := ?_) rfl (by kernel_rfl) (by kernel_rfl) (by kernel_rfl) (fun _ _ _ h => h) (by rfl) hHeld ?_ ?_
      rotate_left 1
      · intro w2 hSw; go_simp <;> with_reducible rfl
      try simp only [Act.put, List.setIfInBounds_toArray, List.set_cons_zero, List.set_cons_succ]
      refine takeRow 5 rfl (by kernel_rfl) (by kernel_rfl) (by kernel_rfl) 27 (.tmp 36) rfl (w.heap.size) (0) rfl (encI x.id) _ (fun _ _ _ h => h) (by rfl) hHeld HR3.out Try.underlying27 rfl HSI.out ?_
      try simp only [Act.put, List.setIfInBounds_toArray, List.set_cons_zero, List.set_cons_succ]
      refine takeRow 6 rfl (by kernel_rfl) (by kernel_rfl) (by kernel_rfl) 29 (.tmp 3) rfl (w.heap.size) (0) rfl (encE x) _ (fun _ _ _ h => h) (by rfl) hHeld HE3.out Try.underlying29 rfl HSXl.out ?_
      try simp only [Act.put, List.setIfInBounds_toArray, List.set_cons_zero, List.set_cons_succ]
      refine heavyL 7 rfl (by kernel_rfl) (fun K hK => ?_)
      have hrun := HRUN.out
      unfold encX at hrun
      go_simp
      refine hK.out _ _ (b4) (fun hHeld => ?_)
      clear hK K
      try simp only [Act.put, List.setIfInBounds_toArray, List.set_cons_zero, List.set_cons_succ]
      refine wpAnyH_done (by kernel_rfl) ?_ _
      refine NoPanic.normal ?_
      go_wp2
      go_ret
      have hadd : addE l x = (insE x l, 0) := by unfold addE; rw [if_pos hckz.out, HFD.out]; rfl
      rw [hadd]
      exact ⟨rfl, ⟨b4.heap HMe.out.blk HMe.out.ne, HM4.out, insE_SE HMe.out.asc HFD.out, HMe.out.c0, HMe.out.c1⟩, hBut3.trans (b4.mono (fun k _ e => .inr e))⟩
  · have hadd : addE l x = (l, chk x) := by unfold addE; rw [if_neg hck]
    rw [hadd]
    have hckB : (chk x == 0) = false := by simp [hck]
    have hckB' : (chk x != 0) = true := by simp [hck]
    clear hck hadd
    unfold encX
    go_enter Try.func19, Try.ntmps19
    go_wp2_with (refine wpList_load_abs (by rfl) 29 (.tmp 3) (by rfl) w.heap.size (by rfl) _ _ _ _ HN.out Try.underlying29 rfl HSX.out ?_)
    refine (check_any x _).mono ?_
    rintro e w2 ⟨rfl, b2⟩
    clear hw1
    go_wp2
    go_ret
    exact ⟨rfl, HH.out.kept b2, hBut.trans (But.of_below b2)⟩
end Go.Proofs.Ytblidphaolgilaa
