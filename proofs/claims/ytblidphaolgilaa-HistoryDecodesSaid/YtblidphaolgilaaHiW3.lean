/- History: Judge, SetGone. -/
import Derived.Test.YtblidphaolgilaaHiW2
namespace Go.Proofs.Ytblidphaolgilaa
open Go.RowKit Go.Maps
set_option linter.unusedSimpArgs false

theorem oldB_max (d a b : Int) : oldB d (max a b) = (oldB d a || oldB d b) := by
  unfold oldB
  rw [Bool.eq_iff_iff]
  simp
  omega
theorem rangeAt_row' {w : World} {b : Nat} {cs : List Value} {t : TypeId} {fr : Nat × Nat} (h : w.heap[b]? = some (.cells cs.toArray t fr)) : w.rangeAt b 0 cs := fun j v hv => by
  rw [Nat.zero_add, cell_of_row _ _ _ _ _ _ h]; simpa using hv
theorem encE_st (y : Ent) (s : I64) : (encE y).toArray.setIfInBounds 34 (.int .i64 s.1) = (encE { y with st := s }).toArray := by
  apply Array.ext'
  simp [encE, List.set_append, encI_len]
theorem EntAt.setSt {w : World} {b : Nat} {T : TypeId} {y : Ent} (h : EntAt w b T y) (s : I64) : EntAt (w.setCell ⟨b, 34, none⟩ (.int .i64 s.1)) b T { y with st := s } := by
  unfold EntAt
  rw [Go.heap_setCell_same _ _ _ _ _ _ h, encE_st]
set_option maxRecDepth 100000 in
set_option maxHeartbeats 1000000 in
theorem judge_any (id : I32) (d now : Int) (perm : Bool) (hb mb : Nat) (l : List Ent) (cut : Int) (w : World) (h : HistAt w hb mb l cut) :
    Calls Try.prog 17 #[.pointer (some ⟨hb, 0, none⟩), .agg (encI id).toArray, .int .i64 d, .int .i64 now, .bool perm] w fun e w' => e = .returned (.int .i64 (judgeE l cut id d now perm)) ∧ Below w.heap.size w w' := by
  have hc0 := h.c0
  have hc1 := h.c1
  have hN := rangeAt_row' (heap_alloc_new w (.cells (encI id).toArray 27 (0, 0)))
  have hB : Below w.heap.size w (w.alloc (.cells (encI id).toArray 27)) := (Below.refl _ w).alloc (Nat.le_refl _) _
  have hsz : w.heap.size < (w.alloc (.cells (encI id).toArray 27)).heap.size := by simp
  obtain ⟨w1, hw1⟩ : ∃ w1, w.alloc (.cells (encI id).toArray 27) = w1 := ⟨_, rfl⟩
  rw [hw1] at hN hB hsz
  have HH := Lib.hid (h.kept hB)
  have HN := Lib.hid hN
  clear h hN
  have HC : Hid (∀ w', Below w1.heap.size w1 w' → w'.cell? ⟨hb, 0, none⟩ = some (.map (some mb))) := Lib.hid (fun w' b => by rw [cell_of_row _ _ _ _ _ _ (HH.out.kept b).blk]; rfl)
  have HI : Hid (∀ w', Below w1.heap.size w1 w' → w'.rangeAt w.heap.size 0 (encI id)) := Lib.hid (fun w' b => rangeAt_below HN.out b hsz)
  have HL : Hid (∀ w', Below w1.heap.size w1 w' → (Instr.lookup 84 (.map (some mb)) (.agg (encI id).toArray) true).run Try.prog w' = .ok (.tuple #[encX ((fnd l id).getD Ent.zero), .bool (fnd l id).isSome]) w') := Lib.hid (fun w' b => (HH.out.kept b).map.look_ok id)
  have HSI := Lib.hid (idSize29 id)
  have HSZ := Lib.hid (xSize ((fnd l id).getD Ent.zero))
  obtain ⟨y, hy⟩ : ∃ y, (fnd l id).getD Ent.zero = y := ⟨_, rfl⟩
  obtain ⟨is, his⟩ : ∃ is, (fnd l id).isSome = is := ⟨_, rfl⟩
  rw [hy, his] at HL
  rw [hy] at HSZ
  have HY := Lib.hid hy
  have HIS := Lib.hid his
  clear hy his
  have hj : judgeE l cut id d now perm = if minB d && minB now then (if is then 7 else if d > now + 1440 then 15 else if oldB d (max now cut) && !perm then 14 else 0) else 13 := by
    unfold judgeE; rw [oldB_max, HIS.out]
  rw [hj]
  have hmn : minB now = true → 0 ≤ now ∧ now ≤ 105190559 := fun h => by unfold minB at h; simpa using h
  clear hj
  cases hmd : minB d
  · skip
    go_enter Try.func17, Try.ntmps17
    go_wp2_with fail
    clear hw1
    refine wp_region_noPanic ?_
    refine wp_region_held_drew (S := fun w' => Below w1.heap.size w1 w') (by kernel_rfl) ((Below.refl _ _).drew) (fun hHeld => ?_)
    refine takeL 0 (v := ?_) rfl (by kernel_rfl) (by kernel_rfl) (by kernel_rfl) (fun _ _ _ h => h) (by rfl) hHeld ?_ ?_
    rotate_left 1
    · intro w2 hSw; go_simp <;> with_reducible rfl
    try simp only [Act.put, List.setIfInBounds_toArray, List.set_cons_zero, List.set_cons_succ]
    refine takeL 1 (v := ?_) rfl (by kernel_rfl) (by kernel_rfl) (by kernel_rfl) (fun _ _ _ h => h) (by rfl) hHeld ?_ ?_
    rotate_left 1
    · intro w2 hSw; go_simp <;> with_reducible rfl
    try simp only [Act.put, List.setIfInBounds_toArray, List.set_cons_zero, List.set_cons_succ]
    refine takeL 2 (v := ?_) rfl (by kernel_rfl) (by kernel_rfl) (by kernel_rfl) (fun _ _ _ h => h) (by rfl) hHeld ?_ ?_
    rotate_left 1
    · intro w2 hSw; go_simp <;> with_reducible rfl
    try simp only [Act.put, List.setIfInBounds_toArray, List.set_cons_zero, List.set_cons_succ]
    refine takeL 3 (v := ?_) rfl (by kernel_rfl) (by kernel_rfl) (by kernel_rfl) (fun _ _ _ h => h) (by rfl) hHeld ?_ ?_
    rotate_left 1
    · intro w2 hSw; have q0 := HC.out w2 hSw; go_simp <;> with_reducible rfl
    try simp only [Act.put, List.setIfInBounds_toArray, List.set_cons_zero, List.set_cons_succ]
    refine takeRow 4 rfl (by kernel_rfl) (by kernel_rfl) (by kernel_rfl) 27 (.tmp 6) rfl (w.heap.size) (0) rfl (encI id) _ (fun _ _ _ h => h) (by rfl) hHeld HI.out Try.underlying27 rfl HSI.out ?_
    try simp only [Act.put, List.setIfInBounds_toArray, List.set_cons_zero, List.set_cons_succ]
    refine takeL 5 (v := ?_) rfl (by kernel_rfl) (by kernel_rfl) (by kernel_rfl) (fun _ _ _ h => h) (by rfl) hHeld ?_ ?_
    rotate_left 1
    · intro w2 hSw; have q0 := HL.out w2 hSw; go_simp <;> with_reducible rfl
    try simp only [Act.put, List.setIfInBounds_toArray, List.set_cons_zero, List.set_cons_succ]
    refine takeL 6 (v := ?_) rfl (by kernel_rfl) (by kernel_rfl) (by kernel_rfl) (fun _ _ _ h => h) (by rfl) hHeld ?_ ?_
    rotate_left 1
    · intro w2 hSw; go_simp <;> with_reducible rfl
    try simp only [Act.put, List.setIfInBounds_toArray, List.set_cons_zero, List.set_cons_succ]
    refine takeL 7 (v := ?_) rfl (by kernel_rfl) (by kernel_rfl) (by kernel_rfl) (fun _ _ _ h => h) (by rfl) hHeld ?_ ?_
    rotate_left 1
    · intro w2 hSw; go_simp <;> with_reducible rfl
    try simp only [Act.put, List.setIfInBounds_toArray, List.set_cons_zero, List.set_cons_succ]
    refine takeL 8 (v := ?_) rfl (by kernel_rfl) (by kernel_rfl) (by kernel_rfl) (fun _ _ _ h => h) (by rfl) hHeld ?_ ?_
    rotate_left 1
    · intro w2 hSw; go_simp <;> with_reducible rfl
    try simp only [Act.put, List.setIfInBounds_toArray, List.set_cons_zero, List.set_cons_succ]
    refine heavyL 9 rfl (by kernel_rfl) (fun K hK => ?_)
    go_simp
    refine hK.out _ _ (hHeld.alloc hHeld.size _) (fun hHeld => ?_)
    clear hK K
    try simp only [Act.put, List.setIfInBounds_toArray, List.set_cons_zero, List.set_cons_succ]
    refine heavyL 10 rfl (by kernel_rfl) (fun K hK => ?_)
    rw [if_pos (by rfl)]
    refine wp_store_abs 29 (.tmp 11) (.tmp 22) (by rfl) (w1.heap.size) ((encE y).toArray) (by rfl) (by rfl) _ ((encE Ent.zero).toArray) (heap_alloc_new w1.drew _) HSZ.out (by simp [encE_len]) (ent_one _) _ _ hHeld (Nat.le_refl _) ?_
    intro w3 Hw3 bw3 Ow3
    refine hK.out _ _ bw3 (fun hHeld => ?_)
    clear hK K
    try simp only [Act.put, List.setIfInBounds_toArray, List.set_cons_zero, List.set_cons_succ]
    refine takeL 11 (v := ?_) rfl (by kernel_rfl) (by kernel_rfl) (by kernel_rfl) (fun _ _ _ h => h) (by rfl) hHeld ?_ ?_
    rotate_left 1
    · intro w2 hSw; go_simp <;> with_reducible rfl
    try simp only [Act.put, List.setIfInBounds_toArray, List.set_cons_zero, List.set_cons_succ]
    refine wpAnyH_done (by kernel_rfl) ?_ _
    refine NoPanic.normal ?_
    have hBf := hB.trans (hHeld.mono (Nat.le_of_lt hsz))
    go_wp2_with (go_at_call 39; refine (minute_any _ _).mono ?_; rintro e w' ⟨rfl, rfl⟩; rw [hmd])
    go_ret
    exact ⟨rfl, hBf⟩
  · cases hmw : minB now
    · skip
      go_enter Try.func17, Try.ntmps17
      go_wp2_with fail
      clear hw1
      refine wp_region_noPanic ?_
      refine wp_region_held_drew (S := fun w' => Below w1.heap.size w1 w') (by kernel_rfl) ((Below.refl _ _).drew) (fun hHeld => ?_)
      refine takeL 0 (v := ?_) rfl (by kernel_rfl) (by kernel_rfl) (by kernel_rfl) (fun _ _ _ h => h) (by rfl) hHeld ?_ ?_
      rotate_left 1
      · intro w2 hSw; go_simp <;> with_reducible rfl
      try simp only [Act.put, List.setIfInBounds_toArray, List.set_cons_zero, List.set_cons_succ]
      refine takeL 1 (v := ?_) rfl (by kernel_rfl) (by kernel_rfl) (by kernel_rfl) (fun _ _ _ h => h) (by rfl) hHeld ?_ ?_
      rotate_left 1
      · intro w2 hSw; go_simp <;> with_reducible rfl
      try simp only [Act.put, List.setIfInBounds_toArray, List.set_cons_zero, List.set_cons_succ]
      refine takeL 2 (v := ?_) rfl (by kernel_rfl) (by kernel_rfl) (by kernel_rfl) (fun _ _ _ h => h) (by rfl) hHeld ?_ ?_
      rotate_left 1
      · intro w2 hSw; go_simp <;> with_reducible rfl
      try simp only [Act.put, List.setIfInBounds_toArray, List.set_cons_zero, List.set_cons_succ]
      refine takeL 3 (v := ?_) rfl (by kernel_rfl) (by kernel_rfl) (by kernel_rfl) (fun _ _ _ h => h) (by rfl) hHeld ?_ ?_
      rotate_left 1
      · intro w2 hSw; have q0 := HC.out w2 hSw; go_simp <;> with_reducible rfl
      try simp only [Act.put, List.setIfInBounds_toArray, List.set_cons_zero, List.set_cons_succ]
      refine takeRow 4 rfl (by kernel_rfl) (by kernel_rfl) (by kernel_rfl) 27 (.tmp 6) rfl (w.heap.size) (0) rfl (encI id) _ (fun _ _ _ h => h) (by rfl) hHeld HI.out Try.underlying27 rfl HSI.out ?_
      try simp only [Act.put, List.setIfInBounds_toArray, List.set_cons_zero, List.set_cons_succ]
      refine takeL 5 (v := ?_) rfl (by kernel_rfl) (by kernel_rfl) (by kernel_rfl) (fun _ _ _ h => h) (by rfl) hHeld ?_ ?_
      rotate_left 1
      · intro w2 hSw; have q0 := HL.out w2 hSw; go_simp <;> with_reducible rfl
      try simp only [Act.put, List.setIfInBounds_toArray, List.set_cons_zero, List.set_cons_succ]
      refine takeL 6 (v := ?_) rfl (by kernel_rfl) (by kernel_rfl) (by kernel_rfl) (fun _ _ _ h => h) (by rfl) hHeld ?_ ?_
      rotate_left 1
      · intro w2 hSw; go_simp <;> with_reducible rfl
      try simp only [Act.put, List.setIfInBounds_toArray, List.set_cons_zero, List.set_cons_succ]
      refine takeL 7 (v := ?_) rfl (by kernel_rfl) (by kernel_rfl) (by kernel_rfl) (fun _ _ _ h => h) (by rfl) hHeld ?_ ?_
      rotate_left 1
      · intro w2 hSw; go_simp <;> with_reducible rfl
      try simp only [Act.put, List.setIfInBounds_toArray, List.set_cons_zero, List.set_cons_succ]
      refine takeL 8 (v := ?_) rfl (by kernel_rfl) (by kernel_rfl) (by kernel_rfl) (fun _ _ _ h => h) (by rfl) hHeld ?_ ?_
      rotate_left 1
      · intro w2 hSw; go_simp <;> with_reducible rfl
      try simp only [Act.put, List.setIfInBounds_toArray, List.set_cons_zero, List.set_cons_succ]
      refine heavyL 9 rfl (by kernel_rfl) (fun K hK => ?_)
      go_simp
      refine hK.out _ _ (hHeld.alloc hHeld.size _) (fun hHeld => ?_)
      clear hK K
      try simp only [Act.put, List.setIfInBounds_toArray, List.set_cons_zero, List.set_cons_succ]
      refine heavyL 10 rfl (by kernel_rfl) (fun K hK => ?_)
      rw [if_pos (by rfl)]
      refine wp_store_abs 29 (.tmp 11) (.tmp 22) (by rfl) (w1.heap.size) ((encE y).toArray) (by rfl) (by rfl) _ ((encE Ent.zero).toArray) (heap_alloc_new w1.drew _) HSZ.out (by simp [encE_len]) (ent_one _) _ _ hHeld (Nat.le_refl _) ?_
      intro w3 Hw3 bw3 Ow3
      refine hK.out _ _ bw3 (fun hHeld => ?_)
      clear hK K
      try simp only [Act.put, List.setIfInBounds_toArray, List.set_cons_zero, List.set_cons_succ]
      refine takeL 11 (v := ?_) rfl (by kernel_rfl) (by kernel_rfl) (by kernel_rfl) (fun _ _ _ h => h) (by rfl) hHeld ?_ ?_
      rotate_left 1
      · intro w2 hSw; go_simp <;> with_reducible rfl
      try simp only [Act.put, List.setIfInBounds_toArray, List.set_cons_zero, List.set_cons_succ]
      refine wpAnyH_done (by kernel_rfl) ?_ _
      refine NoPanic.normal ?_
      have hBf := hB.trans (hHeld.mono (Nat.le_of_lt hsz))
      go_wp2_with (go_at_call 39; refine (minute_any _ _).mono ?_; rintro e w' ⟨rfl, rfl⟩; first | rw [hmd] | rw [hmw])
      go_ret
      exact ⟨rfl, hBf⟩
    · obtain ⟨hn0, hn1⟩ := hmn hmw
      cases is
      · by_cases hfu : d > now + 1440
        · have hf1 : now + 1440 < d := hfu
          go_enter Try.func17, Try.ntmps17
          go_wp2_with fail
          clear hw1
          refine wp_region_noPanic ?_
          refine wp_region_held_drew (S := fun w' => Below w1.heap.size w1 w') (by kernel_rfl) ((Below.refl _ _).drew) (fun hHeld => ?_)
          refine takeL 0 (v := ?_) rfl (by kernel_rfl) (by kernel_rfl) (by kernel_rfl) (fun _ _ _ h => h) (by rfl) hHeld ?_ ?_
          rotate_left 1
          · intro w2 hSw; go_simp <;> with_reducible rfl
          try simp only [Act.put, List.setIfInBounds_toArray, List.set_cons_zero, List.set_cons_succ]
          refine takeL 1 (v := ?_) rfl (by kernel_rfl) (by kernel_rfl) (by kernel_rfl) (fun _ _ _ h => h) (by rfl) hHeld ?_ ?_
          rotate_left 1
          · intro w2 hSw; go_simp <;> with_reducible rfl
          try simp only [Act.put, List.setIfInBounds_toArray, List.set_cons_zero, List.set_cons_succ]
          refine takeL 2 (v := ?_) rfl (by kernel_rfl) (by kernel_rfl) (by kernel_rfl) (fun _ _ _ h => h) (by rfl) hHeld ?_ ?_
          rotate_left 1
          · intro w2 hSw; go_simp <;> with_reducible rfl
          try simp only [Act.put, List.setIfInBounds_toArray, List.set_cons_zero, List.set_cons_succ]
          refine takeL 3 (v := ?_) rfl (by kernel_rfl) (by kernel_rfl) (by kernel_rfl) (fun _ _ _ h => h) (by rfl) hHeld ?_ ?_
          rotate_left 1
          · intro w2 hSw; have q0 := HC.out w2 hSw; go_simp <;> with_reducible rfl
          try simp only [Act.put, List.setIfInBounds_toArray, List.set_cons_zero, List.set_cons_succ]
          refine takeRow 4 rfl (by kernel_rfl) (by kernel_rfl) (by kernel_rfl) 27 (.tmp 6) rfl (w.heap.size) (0) rfl (encI id) _ (fun _ _ _ h => h) (by rfl) hHeld HI.out Try.underlying27 rfl HSI.out ?_
          try simp only [Act.put, List.setIfInBounds_toArray, List.set_cons_zero, List.set_cons_succ]
          refine takeL 5 (v := ?_) rfl (by kernel_rfl) (by kernel_rfl) (by kernel_rfl) (fun _ _ _ h => h) (by rfl) hHeld ?_ ?_
          rotate_left 1
          · intro w2 hSw; have q0 := HL.out w2 hSw; go_simp <;> with_reducible rfl
          try simp only [Act.put, List.setIfInBounds_toArray, List.set_cons_zero, List.set_cons_succ]
          refine takeL 6 (v := ?_) rfl (by kernel_rfl) (by kernel_rfl) (by kernel_rfl) (fun _ _ _ h => h) (by rfl) hHeld ?_ ?_
          rotate_left 1
          · intro w2 hSw; go_simp <;> with_reducible rfl
          try simp only [Act.put, List.setIfInBounds_toArray, List.set_cons_zero, List.set_cons_succ]
          refine takeL 7 (v := ?_) rfl (by kernel_rfl) (by kernel_rfl) (by kernel_rfl) (fun _ _ _ h => h) (by rfl) hHeld ?_ ?_
          rotate_left 1
          · intro w2 hSw; go_simp <;> with_reducible rfl
          try simp only [Act.put, List.setIfInBounds_toArray, List.set_cons_zero, List.set_cons_succ]
          refine takeL 8 (v := ?_) rfl (by kernel_rfl) (by kernel_rfl) (by kernel_rfl) (fun _ _ _ h => h) (by rfl) hHeld ?_ ?_
          rotate_left 1
          · intro w2 hSw; go_simp <;> with_reducible rfl
          try simp only [Act.put, List.setIfInBounds_toArray, List.set_cons_zero, List.set_cons_succ]
          refine heavyL 9 rfl (by kernel_rfl) (fun K hK => ?_)
          go_simp
          refine hK.out _ _ (hHeld.alloc hHeld.size _) (fun hHeld => ?_)
          clear hK K
          try simp only [Act.put, List.setIfInBounds_toArray, List.set_cons_zero, List.set_cons_succ]
          refine heavyL 10 rfl (by kernel_rfl) (fun K hK => ?_)
          rw [if_pos (by rfl)]
          refine wp_store_abs 29 (.tmp 11) (.tmp 22) (by rfl) (w1.heap.size) ((encE y).toArray) (by rfl) (by rfl) _ ((encE Ent.zero).toArray) (heap_alloc_new w1.drew _) HSZ.out (by simp [encE_len]) (ent_one _) _ _ hHeld (Nat.le_refl _) ?_
          intro w3 Hw3 bw3 Ow3
          refine hK.out _ _ bw3 (fun hHeld => ?_)
          clear hK K
          try simp only [Act.put, List.setIfInBounds_toArray, List.set_cons_zero, List.set_cons_succ]
          refine takeL 11 (v := ?_) rfl (by kernel_rfl) (by kernel_rfl) (by kernel_rfl) (fun _ _ _ h => h) (by rfl) hHeld ?_ ?_
          rotate_left 1
          · intro w2 hSw; go_simp <;> with_reducible rfl
          try simp only [Act.put, List.setIfInBounds_toArray, List.set_cons_zero, List.set_cons_succ]
          refine wpAnyH_done (by kernel_rfl) ?_ _
          refine NoPanic.normal ?_
          have hBf := hB.trans (hHeld.mono (Nat.le_of_lt hsz))
          go_wp2_with (go_at_call 39; refine (minute_any _ _).mono ?_; rintro e w' ⟨rfl, rfl⟩; first | rw [hmd] | rw [hmw])
          go_ret
          exact ⟨rfl, hBf⟩
        · have hf1 : d ≤ now + 1440 := by omega
          have hod := Lib.hid (fun w => old_any d (max now cut) (by omega) (by omega) w)
          cases hob : oldB d (max now cut) <;> cases perm
          all_goals
            go_enter Try.func17, Try.ntmps17
            go_wp2_with fail
            clear hw1
            refine wp_region_noPanic ?_
            refine wp_region_held_drew (S := fun w' => Below w1.heap.size w1 w') (by kernel_rfl) ((Below.refl _ _).drew) (fun hHeld => ?_)
            refine takeL 0 (v := ?_) rfl (by kernel_rfl) (by kernel_rfl) (by kernel_rfl) (fun _ _ _ h => h) (by rfl) hHeld ?_ ?_
            rotate_left 1
            · intro w2 hSw; go_simp <;> with_reducible rfl
            try simp only [Act.put, List.setIfInBounds_toArray, List.set_cons_zero, List.set_cons_succ]
            refine takeL 1 (v := ?_) rfl (by kernel_rfl) (by kernel_rfl) (by kernel_rfl) (fun _ _ _ h => h) (by rfl) hHeld ?_ ?_
            rotate_left 1
            · intro w2 hSw; go_simp <;> with_reducible rfl
            try simp only [Act.put, List.setIfInBounds_toArray, List.set_cons_zero, List.set_cons_succ]
            refine takeL 2 (v := ?_) rfl (by kernel_rfl) (by kernel_rfl) (by kernel_rfl) (fun _ _ _ h => h) (by rfl) hHeld ?_ ?_
            rotate_left 1
            · intro w2 hSw; go_simp <;> with_reducible rfl
            try simp only [Act.put, List.setIfInBounds_toArray, List.set_cons_zero, List.set_cons_succ]
            refine takeL 3 (v := ?_) rfl (by kernel_rfl) (by kernel_rfl) (by kernel_rfl) (fun _ _ _ h => h) (by rfl) hHeld ?_ ?_
            rotate_left 1
            · intro w2 hSw; have q0 := HC.out w2 hSw; go_simp <;> with_reducible rfl
            try simp only [Act.put, List.setIfInBounds_toArray, List.set_cons_zero, List.set_cons_succ]
            refine takeRow 4 rfl (by kernel_rfl) (by kernel_rfl) (by kernel_rfl) 27 (.tmp 6) rfl (w.heap.size) (0) rfl (encI id) _ (fun _ _ _ h => h) (by rfl) hHeld HI.out Try.underlying27 rfl HSI.out ?_
            try simp only [Act.put, List.setIfInBounds_toArray, List.set_cons_zero, List.set_cons_succ]
            refine takeL 5 (v := ?_) rfl (by kernel_rfl) (by kernel_rfl) (by kernel_rfl) (fun _ _ _ h => h) (by rfl) hHeld ?_ ?_
            rotate_left 1
            · intro w2 hSw; have q0 := HL.out w2 hSw; go_simp <;> with_reducible rfl
            try simp only [Act.put, List.setIfInBounds_toArray, List.set_cons_zero, List.set_cons_succ]
            refine takeL 6 (v := ?_) rfl (by kernel_rfl) (by kernel_rfl) (by kernel_rfl) (fun _ _ _ h => h) (by rfl) hHeld ?_ ?_
            rotate_left 1
            · intro w2 hSw; go_simp <;> with_reducible rfl
            try simp only [Act.put, List.setIfInBounds_toArray, List.set_cons_zero, List.set_cons_succ]
            refine takeL 7 (v := ?_) rfl (by kernel_rfl) (by kernel_rfl) (by kernel_rfl) (fun _ _ _ h => h) (by rfl) hHeld ?_ ?_
            rotate_left 1
            · intro w2 hSw; go_simp <;> with_reducible rfl
            try simp only [Act.put, List.setIfInBounds_toArray, List.set_cons_zero, List.set_cons_succ]
            refine takeL 8 (v := ?_) rfl (by kernel_rfl) (by kernel_rfl) (by kernel_rfl) (fun _ _ _ h => h) (by rfl) hHeld ?_ ?_
            rotate_left 1
            · intro w2 hSw; go_simp <;> with_reducible rfl
            try simp only [Act.put, List.setIfInBounds_toArray, List.set_cons_zero, List.set_cons_succ]
            refine heavyL 9 rfl (by kernel_rfl) (fun K hK => ?_)
            go_simp
            refine hK.out _ _ (hHeld.alloc hHeld.size _) (fun hHeld => ?_)
            clear hK K
            try simp only [Act.put, List.setIfInBounds_toArray, List.set_cons_zero, List.set_cons_succ]
            refine heavyL 10 rfl (by kernel_rfl) (fun K hK => ?_)
            rw [if_pos (by rfl)]
            refine wp_store_abs 29 (.tmp 11) (.tmp 22) (by rfl) (w1.heap.size) ((encE y).toArray) (by rfl) (by rfl) _ ((encE Ent.zero).toArray) (heap_alloc_new w1.drew _) HSZ.out (by simp [encE_len]) (ent_one _) _ _ hHeld (Nat.le_refl _) ?_
            intro w3 Hw3 bw3 Ow3
            refine hK.out _ _ bw3 (fun hHeld => ?_)
            clear hK K
            try simp only [Act.put, List.setIfInBounds_toArray, List.set_cons_zero, List.set_cons_succ]
            refine takeL 11 (v := ?_) rfl (by kernel_rfl) (by kernel_rfl) (by kernel_rfl) (fun _ _ _ h => h) (by rfl) hHeld ?_ ?_
            rotate_left 1
            · intro w2 hSw; go_simp <;> with_reducible rfl
            try simp only [Act.put, List.setIfInBounds_toArray, List.set_cons_zero, List.set_cons_succ]
            refine wpAnyH_done (by kernel_rfl) ?_ _
            refine NoPanic.normal ?_
            have hBf := hB.trans (hHeld.mono (Nat.le_of_lt hsz))
            have c1 : w3.cell? ⟨hb, 1, none⟩ = some (.int .i64 cut) := by rw [cell_of_row _ _ _ _ _ _ (HH.out.kept hHeld).blk]; rfl
            clear bw3 Hw3 Ow3 HC HI HL
            go_wp2_with (first | (go_at_call 39; refine (minute_any _ _).mono ?_; rintro e w' ⟨rfl, rfl⟩; first | rw [hmd] | rw [hmw]) | (go_at_call 44; refine (hod.out _).mono ?_; rintro e w4 ⟨rfl, rfl⟩; rw [hob]))
            go_ret
            exact ⟨rfl, hBf⟩
      · skip
        go_enter Try.func17, Try.ntmps17
        go_wp2_with fail
        clear hw1
        refine wp_region_noPanic ?_
        refine wp_region_held_drew (S := fun w' => Below w1.heap.size w1 w') (by kernel_rfl) ((Below.refl _ _).drew) (fun hHeld => ?_)
        refine takeL 0 (v := ?_) rfl (by kernel_rfl) (by kernel_rfl) (by kernel_rfl) (fun _ _ _ h => h) (by rfl) hHeld ?_ ?_
        rotate_left 1
        · intro w2 hSw; go_simp <;> with_reducible rfl
        try simp only [Act.put, List.setIfInBounds_toArray, List.set_cons_zero, List.set_cons_succ]
        refine takeL 1 (v := ?_) rfl (by kernel_rfl) (by kernel_rfl) (by kernel_rfl) (fun _ _ _ h => h) (by rfl) hHeld ?_ ?_
        rotate_left 1
        · intro w2 hSw; go_simp <;> with_reducible rfl
        try simp only [Act.put, List.setIfInBounds_toArray, List.set_cons_zero, List.set_cons_succ]
        refine takeL 2 (v := ?_) rfl (by kernel_rfl) (by kernel_rfl) (by kernel_rfl) (fun _ _ _ h => h) (by rfl) hHeld ?_ ?_
        rotate_left 1
        · intro w2 hSw; go_simp <;> with_reducible rfl
        try simp only [Act.put, List.setIfInBounds_toArray, List.set_cons_zero, List.set_cons_succ]
        refine takeL 3 (v := ?_) rfl (by kernel_rfl) (by kernel_rfl) (by kernel_rfl) (fun _ _ _ h => h) (by rfl) hHeld ?_ ?_
        rotate_left 1
        · intro w2 hSw; have q0 := HC.out w2 hSw; go_simp <;> with_reducible rfl
        try simp only [Act.put, List.setIfInBounds_toArray, List.set_cons_zero, List.set_cons_succ]
        refine takeRow 4 rfl (by kernel_rfl) (by kernel_rfl) (by kernel_rfl) 27 (.tmp 6) rfl (w.heap.size) (0) rfl (encI id) _ (fun _ _ _ h => h) (by rfl) hHeld HI.out Try.underlying27 rfl HSI.out ?_
        try simp only [Act.put, List.setIfInBounds_toArray, List.set_cons_zero, List.set_cons_succ]
        refine takeL 5 (v := ?_) rfl (by kernel_rfl) (by kernel_rfl) (by kernel_rfl) (fun _ _ _ h => h) (by rfl) hHeld ?_ ?_
        rotate_left 1
        · intro w2 hSw; have q0 := HL.out w2 hSw; go_simp <;> with_reducible rfl
        try simp only [Act.put, List.setIfInBounds_toArray, List.set_cons_zero, List.set_cons_succ]
        refine takeL 6 (v := ?_) rfl (by kernel_rfl) (by kernel_rfl) (by kernel_rfl) (fun _ _ _ h => h) (by rfl) hHeld ?_ ?_
        rotate_left 1
        · intro w2 hSw; go_simp <;> with_reducible rfl
        try simp only [Act.put, List.setIfInBounds_toArray, List.set_cons_zero, List.set_cons_succ]
        refine takeL 7 (v := ?_) rfl (by kernel_rfl) (by kernel_rfl) (by kernel_rfl) (fun _ _ _ h => h) (by rfl) hHeld ?_ ?_
        rotate_left 1
        · intro w2 hSw; go_simp <;> with_reducible rfl
        try simp only [Act.put, List.setIfInBounds_toArray, List.set_cons_zero, List.set_cons_succ]
        refine takeL 8 (v := ?_) rfl (by kernel_rfl) (by kernel_rfl) (by kernel_rfl) (fun _ _ _ h => h) (by rfl) hHeld ?_ ?_
        rotate_left 1
        · intro w2 hSw; go_simp <;> with_reducible rfl
        try simp only [Act.put, List.setIfInBounds_toArray, List.set_cons_zero, List.set_cons_succ]
        refine heavyL 9 rfl (by kernel_rfl) (fun K hK => ?_)
        go_simp
        refine hK.out _ _ (hHeld.alloc hHeld.size _) (fun hHeld => ?_)
        clear hK K
        try simp only [Act.put, List.setIfInBounds_toArray, List.set_cons_zero, List.set_cons_succ]
        refine heavyL 10 rfl (by kernel_rfl) (fun K hK => ?_)
        rw [if_pos (by rfl)]
        refine wp_store_abs 29 (.tmp 11) (.tmp 22) (by rfl) (w1.heap.size) ((encE y).toArray) (by rfl) (by rfl) _ ((encE Ent.zero).toArray) (heap_alloc_new w1.drew _) HSZ.out (by simp [encE_len]) (ent_one _) _ _ hHeld (Nat.le_refl _) ?_
        intro w3 Hw3 bw3 Ow3
        refine hK.out _ _ bw3 (fun hHeld => ?_)
        clear hK K
        try simp only [Act.put, List.setIfInBounds_toArray, List.set_cons_zero, List.set_cons_succ]
        refine takeL 11 (v := ?_) rfl (by kernel_rfl) (by kernel_rfl) (by kernel_rfl) (fun _ _ _ h => h) (by rfl) hHeld ?_ ?_
        rotate_left 1
        · intro w2 hSw; go_simp <;> with_reducible rfl
        try simp only [Act.put, List.setIfInBounds_toArray, List.set_cons_zero, List.set_cons_succ]
        refine wpAnyH_done (by kernel_rfl) ?_ _
        refine NoPanic.normal ?_
        have hBf := hB.trans (hHeld.mono (Nat.le_of_lt hsz))
        go_wp2_with (go_at_call 39; refine (minute_any _ _).mono ?_; rintro e w' ⟨rfl, rfl⟩; first | rw [hmd] | rw [hmw])
        go_ret
        exact ⟨rfl, hBf⟩

set_option maxRecDepth 100000 in
set_option maxHeartbeats 1000000 in
theorem setGone_any (id : I32) (hb mb : Nat) (l : List Ent) (cut : Int) (hl : l.length < 1000000) (w : World) (h : HistAt w hb mb l cut) :
    Calls Try.prog 20 #[.pointer (some ⟨hb, 0, none⟩), .agg (encI id).toArray] w fun e w' => e = .returned (.int .i64 (goneE l id).2) ∧ HistAt w' hb mb (goneE l id).1 cut ∧ But (Two hb mb) w w' := by
  have hmb := h.map.lt
  have hN := rangeAt_row' (heap_alloc_new w (.cells (encI id).toArray 27 (0, 0)))
  have hB : Below w.heap.size w (w.alloc (.cells (encI id).toArray 27)) := (Below.refl _ w).alloc (Nat.le_refl _) _
  have hsz : w.heap.size < (w.alloc (.cells (encI id).toArray 27)).heap.size := by simp
  obtain ⟨w1, hw1⟩ : ∃ w1, w.alloc (.cells (encI id).toArray 27) = w1 := ⟨_, rfl⟩
  rw [hw1] at hN hB hsz
  have HH := Lib.hid (h.kept hB)
  have HN := Lib.hid hN
  clear h hN
  have hBut := But.of_below (ms := Two hb mb) hB
  cases hfd : fnd l id with
  | none =>
    have hg : goneE l id = (l, 8) := by unfold goneE; rw [hfd]
    rw [hg]
    have HC : Hid (∀ w', Below w1.heap.size w1 w' → w'.cell? ⟨hb, 0, none⟩ = some (.map (some mb))) := Lib.hid (fun w' b => by rw [cell_of_row _ _ _ _ _ _ (HH.out.kept b).blk]; rfl)
    have HI : Hid (∀ w', Below w1.heap.size w1 w' → w'.rangeAt w.heap.size 0 (encI id)) := Lib.hid (fun w' b => rangeAt_below HN.out b hsz)
    have HL : Hid (∀ w', Below w1.heap.size w1 w' → (Instr.lookup 84 (.map (some mb)) (.agg (encI id).toArray) true).run Try.prog w' = .ok (.tuple #[encX ((fnd l id).getD Ent.zero), .bool (fnd l id).isSome]) w') := Lib.hid (fun w' b => (HH.out.kept b).map.look_ok id)
    have HSI := Lib.hid (idSize29 id)
    have HSZ := Lib.hid (xSize ((fnd l id).getD Ent.zero))
    obtain ⟨y, hy⟩ : ∃ y, (fnd l id).getD Ent.zero = y := ⟨_, rfl⟩
    obtain ⟨is, his⟩ : ∃ is, (fnd l id).isSome = is := ⟨_, rfl⟩
    rw [hy, his] at HL
    rw [hy] at HSZ
    have HY := Lib.hid hy
    have HIS := Lib.hid his
    clear hy his
    rw [hfd] at HY HIS
    have hisf : is = false := by rw [← HIS.out]; rfl
    subst hisf
    clear hg hfd
    go_enter Try.func20, Try.ntmps20
    go_wp2_with fail
    clear hw1
    refine wp_region_noPanic ?_
    refine wp_region_held_drew (S := fun w' => Below w1.heap.size w1 w') (by kernel_rfl) ((Below.refl _ _).drew) (fun hHeld => ?_)
    refine takeL 0 (v := ?_) rfl (by kernel_rfl) (by kernel_rfl) (by kernel_rfl) (fun _ _ _ h => h) (by rfl) hHeld ?_ ?_
    rotate_left 1
    · intro w2 hSw; go_simp <;> with_reducible rfl
    try simp only [Act.put, List.setIfInBounds_toArray, List.set_cons_zero, List.set_cons_succ]
    refine takeL 1 (v := ?_) rfl (by kernel_rfl) (by kernel_rfl) (by kernel_rfl) (fun _ _ _ h => h) (by rfl) hHeld ?_ ?_
    rotate_left 1
    · intro w2 hSw; go_simp <;> with_reducible rfl
    try simp only [Act.put, List.setIfInBounds_toArray, List.set_cons_zero, List.set_cons_succ]
    refine takeL 2 (v := ?_) rfl (by kernel_rfl) (by kernel_rfl) (by kernel_rfl) (fun _ _ _ h => h) (by rfl) hHeld ?_ ?_
    rotate_left 1
    · intro w2 hSw; go_simp <;> with_reducible rfl
    try simp only [Act.put, List.setIfInBounds_toArray, List.set_cons_zero, List.set_cons_succ]
    refine takeL 3 (v := ?_) rfl (by kernel_rfl) (by kernel_rfl) (by kernel_rfl) (fun _ _ _ h => h) (by rfl) hHeld ?_ ?_
    rotate_left 1
    · intro w2 hSw; have q0 := HC.out w2 hSw; go_simp <;> with_reducible rfl
    try simp only [Act.put, List.setIfInBounds_toArray, List.set_cons_zero, List.set_cons_succ]
    refine takeRow 4 rfl (by kernel_rfl) (by kernel_rfl) (by kernel_rfl) 27 (.tmp 3) rfl (w.heap.size) (0) rfl (encI id) _ (fun _ _ _ h => h) (by rfl) hHeld HI.out Try.underlying27 rfl HSI.out ?_
    try simp only [Act.put, List.setIfInBounds_toArray, List.set_cons_zero, List.set_cons_succ]
    refine takeL 5 (v := ?_) rfl (by kernel_rfl) (by kernel_rfl) (by kernel_rfl) (fun _ _ _ h => h) (by rfl) hHeld ?_ ?_
    rotate_left 1
    · intro w2 hSw; have q0 := HL.out w2 hSw; go_simp <;> with_reducible rfl
    try simp only [Act.put, List.setIfInBounds_toArray, List.set_cons_zero, List.set_cons_succ]
    refine takeL 6 (v := ?_) rfl (by kernel_rfl) (by kernel_rfl) (by kernel_rfl) (fun _ _ _ h => h) (by rfl) hHeld ?_ ?_
    rotate_left 1
    · intro w2 hSw; go_simp <;> with_reducible rfl
    try simp only [Act.put, List.setIfInBounds_toArray, List.set_cons_zero, List.set_cons_succ]
    refine takeL 7 (v := ?_) rfl (by kernel_rfl) (by kernel_rfl) (by kernel_rfl) (fun _ _ _ h => h) (by rfl) hHeld ?_ ?_
    rotate_left 1
    · intro w2 hSw; go_simp <;> with_reducible rfl
    try simp only [Act.put, List.setIfInBounds_toArray, List.set_cons_zero, List.set_cons_succ]
    refine takeL 8 (v := ?_) rfl (by kernel_rfl) (by kernel_rfl) (by kernel_rfl) (fun _ _ _ h => h) (by rfl) hHeld ?_ ?_
    rotate_left 1
    · intro w2 hSw; go_simp <;> with_reducible rfl
    try simp only [Act.put, List.setIfInBounds_toArray, List.set_cons_zero, List.set_cons_succ]
    refine heavyL 9 rfl (by kernel_rfl) (fun K hK => ?_)
    go_simp
    refine hK.out _ _ (hHeld.alloc hHeld.size _) (fun hHeld => ?_)
    clear hK K
    try simp only [Act.put, List.setIfInBounds_toArray, List.set_cons_zero, List.set_cons_succ]
    refine heavyL 10 rfl (by kernel_rfl) (fun K hK => ?_)
    rw [if_pos (by rfl)]
    refine wp_store_abs 29 (.tmp 5) (.tmp 16) (by rfl) (w1.heap.size) ((encE y).toArray) (by rfl) (by rfl) _ ((encE Ent.zero).toArray) (heap_alloc_new w1.drew _) HSZ.out (by simp [encE_len]) (ent_one _) _ _ hHeld (Nat.le_refl _) ?_
    intro w3 Hw3 bw3 Ow3
    refine hK.out _ _ bw3 (fun hHeld => ?_)
    clear hK K
    try simp only [Act.put, List.setIfInBounds_toArray, List.set_cons_zero, List.set_cons_succ]
    refine takeL 11 (v := ?_) rfl (by kernel_rfl) (by kernel_rfl) (by kernel_rfl) (fun _ _ _ h => h) (by rfl) hHeld ?_ ?_
    rotate_left 1
    · intro w2 hSw; go_simp <;> with_reducible rfl
    try simp only [Act.put, List.setIfInBounds_toArray, List.set_cons_zero, List.set_cons_succ]
    refine wpAnyH_done (by kernel_rfl) ?_ _
    refine NoPanic.normal ?_
    have hBf := hB.trans (hHeld.mono (Nat.le_of_lt hsz))
    go_wp2
    go_ret
    exact ⟨rfl, HH.out.kept hHeld, hBut.trans (But.of_below hHeld)⟩
  | some z =>
    have HC : Hid (∀ w', Below w1.heap.size w1 w' → w'.cell? ⟨hb, 0, none⟩ = some (.map (some mb))) := Lib.hid (fun w' b => by rw [cell_of_row _ _ _ _ _ _ (HH.out.kept b).blk]; rfl)
    have HI : Hid (∀ w', Below w1.heap.size w1 w' → w'.rangeAt w.heap.size 0 (encI id)) := Lib.hid (fun w' b => rangeAt_below HN.out b hsz)
    have HL : Hid (∀ w', Below w1.heap.size w1 w' → (Instr.lookup 84 (.map (some mb)) (.agg (encI id).toArray) true).run Try.prog w' = .ok (.tuple #[encX ((fnd l id).getD Ent.zero), .bool (fnd l id).isSome]) w') := Lib.hid (fun w' b => (HH.out.kept b).map.look_ok id)
    have HSI := Lib.hid (idSize29 id)
    have HSZ := Lib.hid (xSize ((fnd l id).getD Ent.zero))
    obtain ⟨y, hy⟩ : ∃ y, (fnd l id).getD Ent.zero = y := ⟨_, rfl⟩
    obtain ⟨is, his⟩ : ∃ is, (fnd l id).isSome = is := ⟨_, rfl⟩
    rw [hy, his] at HL
    rw [hy] at HSZ
    have HY := Lib.hid hy
    have HIS := Lib.hid his
    clear hy his
    have HFD := Lib.hid hfd
    rw [hfd] at HY HIS
    have hisf : is = true := by rw [← HIS.out]; rfl
    have hyz : y = z := by rw [← HY.out]; rfl
    subst hisf hyz
    clear hfd
    by_cases hst : y.st.1 = 1
    · have hg : goneE l id = (l, 10) := by unfold goneE; rw [HFD.out]; exact if_pos hst
      rw [hg]
      have HST := Lib.hid hst
      clear hg hst
      go_enter Try.func20, Try.ntmps20
      go_wp2_with fail
      clear hw1
      refine wp_region_noPanic ?_
      refine wp_region_held_drew (S := fun w' => Below w1.heap.size w1 w') (by kernel_rfl) ((Below.refl _ _).drew) (fun hHeld => ?_)
      refine takeL 0 (v := ?_) rfl (by kernel_rfl) (by kernel_rfl) (by kernel_rfl) (fun _ _ _ h => h) (by rfl) hHeld ?_ ?_
      rotate_left 1
      · intro w2 hSw; go_simp <;> with_reducible rfl
      try simp only [Act.put, List.setIfInBounds_toArray, List.set_cons_zero, List.set_cons_succ]
      refine takeL 1 (v := ?_) rfl (by kernel_rfl) (by kernel_rfl) (by kernel_rfl) (fun _ _ _ h => h) (by rfl) hHeld ?_ ?_
      rotate_left 1
      · intro w2 hSw; go_simp <;> with_reducible rfl
      try simp only [Act.put, List.setIfInBounds_toArray, List.set_cons_zero, List.set_cons_succ]
      refine takeL 2 (v := ?_) rfl (by kernel_rfl) (by kernel_rfl) (by kernel_rfl) (fun _ _ _ h => h) (by rfl) hHeld ?_ ?_
      rotate_left 1
      · intro w2 hSw; go_simp <;> with_reducible rfl
      try simp only [Act.put, List.setIfInBounds_toArray, List.set_cons_zero, List.set_cons_succ]
      refine takeL 3 (v := ?_) rfl (by kernel_rfl) (by kernel_rfl) (by kernel_rfl) (fun _ _ _ h => h) (by rfl) hHeld ?_ ?_
      rotate_left 1
      · intro w2 hSw; have q0 := HC.out w2 hSw; go_simp <;> with_reducible rfl
      try simp only [Act.put, List.setIfInBounds_toArray, List.set_cons_zero, List.set_cons_succ]
      refine takeRow 4 rfl (by kernel_rfl) (by kernel_rfl) (by kernel_rfl) 27 (.tmp 3) rfl (w.heap.size) (0) rfl (encI id) _ (fun _ _ _ h => h) (by rfl) hHeld HI.out Try.underlying27 rfl HSI.out ?_
      try simp only [Act.put, List.setIfInBounds_toArray, List.set_cons_zero, List.set_cons_succ]
      refine takeL 5 (v := ?_) rfl (by kernel_rfl) (by kernel_rfl) (by kernel_rfl) (fun _ _ _ h => h) (by rfl) hHeld ?_ ?_
      rotate_left 1
      · intro w2 hSw; have q0 := HL.out w2 hSw; go_simp <;> with_reducible rfl
      try simp only [Act.put, List.setIfInBounds_toArray, List.set_cons_zero, List.set_cons_succ]
      refine takeL 6 (v := ?_) rfl (by kernel_rfl) (by kernel_rfl) (by kernel_rfl) (fun _ _ _ h => h) (by rfl) hHeld ?_ ?_
      rotate_left 1
      · intro w2 hSw; go_simp <;> with_reducible rfl
      try simp only [Act.put, List.setIfInBounds_toArray, List.set_cons_zero, List.set_cons_succ]
      refine takeL 7 (v := ?_) rfl (by kernel_rfl) (by kernel_rfl) (by kernel_rfl) (fun _ _ _ h => h) (by rfl) hHeld ?_ ?_
      rotate_left 1
      · intro w2 hSw; go_simp <;> with_reducible rfl
      try simp only [Act.put, List.setIfInBounds_toArray, List.set_cons_zero, List.set_cons_succ]
      refine takeL 8 (v := ?_) rfl (by kernel_rfl) (by kernel_rfl) (by kernel_rfl) (fun _ _ _ h => h) (by rfl) hHeld ?_ ?_
      rotate_left 1
      · intro w2 hSw; go_simp <;> with_reducible rfl
      try simp only [Act.put, List.setIfInBounds_toArray, List.set_cons_zero, List.set_cons_succ]
      refine heavyL 9 rfl (by kernel_rfl) (fun K hK => ?_)
      go_simp
      refine hK.out _ _ (hHeld.alloc hHeld.size _) (fun hHeld => ?_)
      clear hK K
      try simp only [Act.put, List.setIfInBounds_toArray, List.set_cons_zero, List.set_cons_succ]
      refine heavyL 10 rfl (by kernel_rfl) (fun K hK => ?_)
      rw [if_pos (by rfl)]
      refine wp_store_abs 29 (.tmp 5) (.tmp 16) (by rfl) (w1.heap.size) ((encE y).toArray) (by rfl) (by rfl) _ ((encE Ent.zero).toArray) (heap_alloc_new w1.drew _) HSZ.out (by simp [encE_len]) (ent_one _) _ _ hHeld (Nat.le_refl _) ?_
      intro w3 Hw3 bw3 Ow3
      refine hK.out _ _ bw3 (fun hHeld => ?_)
      clear hK K
      try simp only [Act.put, List.setIfInBounds_toArray, List.set_cons_zero, List.set_cons_succ]
      refine takeL 11 (v := ?_) rfl (by kernel_rfl) (by kernel_rfl) (by kernel_rfl) (fun _ _ _ h => h) (by rfl) hHeld ?_ ?_
      rotate_left 1
      · intro w2 hSw; go_simp <;> with_reducible rfl
      try simp only [Act.put, List.setIfInBounds_toArray, List.set_cons_zero, List.set_cons_succ]
      refine wpAnyH_done (by kernel_rfl) ?_ _
      refine NoPanic.normal ?_
      have hBf := hB.trans (hHeld.mono (Nat.le_of_lt hsz))
      have c34 : w3.cell? ⟨w1.heap.size, 34, none⟩ = some (.int .i64 1) := by rw [EntAt.cell (T := 29) (x := y) Hw3.out 34 _ (encE_34 y), HST.out]
      go_wp2
      go_ret
      exact ⟨rfl, HH.out.kept hHeld, hBut.trans (But.of_below hHeld)⟩
    · have hg : goneE l id = (l.map (gone1 id), 0) := by unfold goneE; rw [HFD.out]; exact if_neg hst
      rw [hg]
      clear hg
      go_enter Try.func20, Try.ntmps20
      go_wp2_with fail
      clear hw1
      refine wp_region_noPanic ?_
      refine wp_region_held_drew (S := fun w' => Below w1.heap.size w1 w') (by kernel_rfl) ((Below.refl _ _).drew) (fun hHeld => ?_)
      refine takeL 0 (v := ?_) rfl (by kernel_rfl) (by kernel_rfl) (by kernel_rfl) (fun _ _ _ h => h) (by rfl) hHeld ?_ ?_
      rotate_left 1
      · intro w2 hSw; go_simp <;> with_reducible rfl
      try simp only [Act.put, List.setIfInBounds_toArray, List.set_cons_zero, List.set_cons_succ]
      refine takeL 1 (v := ?_) rfl (by kernel_rfl) (by kernel_rfl) (by kernel_rfl) (fun _ _ _ h => h) (by rfl) hHeld ?_ ?_
      rotate_left 1
      · intro w2 hSw; go_simp <;> with_reducible rfl
      try simp only [Act.put, List.setIfInBounds_toArray, List.set_cons_zero, List.set_cons_succ]
      refine takeL 2 (v := ?_) rfl (by kernel_rfl) (by kernel_rfl) (by kernel_rfl) (fun _ _ _ h => h) (by rfl) hHeld ?_ ?_
      rotate_left 1
      · intro w2 hSw; go_simp <;> with_reducible rfl
      try simp only [Act.put, List.setIfInBounds_toArray, List.set_cons_zero, List.set_cons_succ]
      refine takeL 3 (v := ?_) rfl (by kernel_rfl) (by kernel_rfl) (by kernel_rfl) (fun _ _ _ h => h) (by rfl) hHeld ?_ ?_
      rotate_left 1
      · intro w2 hSw; have q0 := HC.out w2 hSw; go_simp <;> with_reducible rfl
      try simp only [Act.put, List.setIfInBounds_toArray, List.set_cons_zero, List.set_cons_succ]
      refine takeRow 4 rfl (by kernel_rfl) (by kernel_rfl) (by kernel_rfl) 27 (.tmp 3) rfl (w.heap.size) (0) rfl (encI id) _ (fun _ _ _ h => h) (by rfl) hHeld HI.out Try.underlying27 rfl HSI.out ?_
      try simp only [Act.put, List.setIfInBounds_toArray, List.set_cons_zero, List.set_cons_succ]
      refine takeL 5 (v := ?_) rfl (by kernel_rfl) (by kernel_rfl) (by kernel_rfl) (fun _ _ _ h => h) (by rfl) hHeld ?_ ?_
      rotate_left 1
      · intro w2 hSw; have q0 := HL.out w2 hSw; go_simp <;> with_reducible rfl
      try simp only [Act.put, List.setIfInBounds_toArray, List.set_cons_zero, List.set_cons_succ]
      refine takeL 6 (v := ?_) rfl (by kernel_rfl) (by kernel_rfl) (by kernel_rfl) (fun _ _ _ h => h) (by rfl) hHeld ?_ ?_
      rotate_left 1
      · intro w2 hSw; go_simp <;> with_reducible rfl
      try simp only [Act.put, List.setIfInBounds_toArray, List.set_cons_zero, List.set_cons_succ]
      refine takeL 7 (v := ?_) rfl (by kernel_rfl) (by kernel_rfl) (by kernel_rfl) (fun _ _ _ h => h) (by rfl) hHeld ?_ ?_
      rotate_left 1
      · intro w2 hSw; go_simp <;> with_reducible rfl
      try simp only [Act.put, List.setIfInBounds_toArray, List.set_cons_zero, List.set_cons_succ]
      refine takeL 8 (v := ?_) rfl (by kernel_rfl) (by kernel_rfl) (by kernel_rfl) (fun _ _ _ h => h) (by rfl) hHeld ?_ ?_
      rotate_left 1
      · intro w2 hSw; go_simp <;> with_reducible rfl
      try simp only [Act.put, List.setIfInBounds_toArray, List.set_cons_zero, List.set_cons_succ]
      refine heavyL 9 rfl (by kernel_rfl) (fun K hK => ?_)
      go_simp
      refine hK.out _ _ (hHeld.alloc hHeld.size _) (fun hHeld => ?_)
      clear hK K
      try simp only [Act.put, List.setIfInBounds_toArray, List.set_cons_zero, List.set_cons_succ]
      refine heavyL 10 rfl (by kernel_rfl) (fun K hK => ?_)
      rw [if_pos (by rfl)]
      refine wp_store_abs 29 (.tmp 5) (.tmp 16) (by rfl) (w1.heap.size) ((encE y).toArray) (by rfl) (by rfl) _ ((encE Ent.zero).toArray) (heap_alloc_new w1.drew _) HSZ.out (by simp [encE_len]) (ent_one _) _ _ hHeld (Nat.le_refl _) ?_
      intro w3 Hw3 bw3 Ow3
      refine hK.out _ _ bw3 (fun hHeld => ?_)
      clear hK K
      try simp only [Act.put, List.setIfInBounds_toArray, List.set_cons_zero, List.set_cons_succ]
      refine takeL 11 (v := ?_) rfl (by kernel_rfl) (by kernel_rfl) (by kernel_rfl) (fun _ _ _ h => h) (by rfl) hHeld ?_ ?_
      rotate_left 1
      · intro w2 hSw; go_simp <;> with_reducible rfl
      try simp only [Act.put, List.setIfInBounds_toArray, List.set_cons_zero, List.set_cons_succ]
      refine wpAnyH_done (by kernel_rfl) ?_ _
      refine NoPanic.normal ?_
      have hBf := hB.trans (hHeld.mono (Nat.le_of_lt hsz))
      have c34 : w3.cell? ⟨w1.heap.size, 34, none⟩ = some (.int .i64 y.st.1) := EntAt.cell (T := 29) (x := y) Hw3.out 34 _ (encE_34 y)
      have f34 : w3.frozen? ⟨w1.heap.size, 34, none⟩ = false := frozen_of_row _ _ _ _ _ Hw3.out
      have hE4 := EntAt.setSt (T := 29) (y := y) Hw3.out ⟨1, by decide⟩
      have b34 : Below w1.heap.size w1 (w3.setCell ⟨w1.heap.size, 34, none⟩ (.int .i64 1)) := bw3.setCell (Nat.le_refl _) _
      obtain ⟨w4, hw4⟩ : ∃ w4, w3.setCell ⟨w1.heap.size, 34, none⟩ (.int .i64 1) = w4 := ⟨_, rfl⟩
      rw [hw4] at b34
      have hE4' : EntAt w4 w1.heap.size 29 { y with st := ⟨1, by decide⟩ } := by rw [← hw4]; exact hE4
      clear hE4
      go_wp2_with fail
      try rw [hw4]
      have hs1 : mb < w1.heap.size := by omega
      have hH4 := HH.out.kept b34
      have HC4 : Hid (∀ w', But (fun k => k = mb) w4 w' → w'.cell? ⟨hb, 0, none⟩ = some (.map (some mb))) := Lib.hid (fun w' b => by rw [cell_of_row _ _ _ _ _ _ (b.heap hH4.blk hH4.ne)]; rfl)
      have HR4 : Hid (∀ w', But (fun k => k = mb) w4 w' → w'.rangeAt w.heap.size 0 (encI id)) := Lib.hid (fun w' b j v hv => by
        have h0 := HN.out j v hv
        rw [← h0, ← b34.cell (p := ⟨w.heap.size, 0 + j, none⟩) hsz]
        unfold World.cell?
        rw [b.block w.heap.size (Nat.lt_of_lt_of_le hsz b34.size) (Nat.ne_of_gt hmb)])
      have HE4 : Hid (∀ w', But (fun k => k = mb) w4 w' → w'.rangeAt w1.heap.size 0 (encE { y with st := ⟨1, by decide⟩ })) := Lib.hid (fun w' b => EntAt.range (b.heap hE4' (Nat.ne_of_gt hs1)))
      have hidy := (fnd_mem HFD.out).2
      generalize hyq : ({ y with st := ⟨1, by decide⟩ } : Ent) = yq at HE4
      have hyi : yq.id = id := by rw [← hyq]; exact hidy
      have hsl := hH4.asc
      have hf4 := fnd_gone id HFD.out hsl
      rw [hyq] at hf4
      have HSXl := Lib.hid (xLen yq)
      obtain ⟨w5, hrun, hg5, hm5⟩ := MapAt.store (w := w4.drew) (hH4.map.of_heap rfl) hl yq
      rw [hyi] at hrun hm5
      have HRUN := Lib.hid hrun
      have b5 : But (fun k => k = mb) w4 w5 := (But.refl _ w4).drew.trans (But.grown hg5 (fun k hk => (Option.some.inj hk).symm))
      have HM5 := Lib.hid (hm5 (l.map (gone1 id)) hf4 (by rw [HFD.out]; simp))
      have HH4 := Lib.hid hH4
      have hBut5 := hBut.trans ((But.of_below (ms := Two hb mb) b34).trans (b5.mono (fun k _ e => .inr e)))
      clear hrun hm5 hg5 hf4 hsl hH4 hyq hidy hw4 hE4' c34 f34 HL HI HC Hw3 bw3 Ow3 hst HY HIS
      refine wp_region_noPanic ?_
      refine wp_region_held_drew (S := fun w' => But (fun k => k = mb) w4 w') (by kernel_rfl) ((But.refl _ w4).drew) (fun hHeld => ?_)
      refine takeL 0 (v := ?_) rfl (by kernel_rfl) (by kernel_rfl) (by kernel_rfl) (fun _ _ _ h => h) (by rfl) hHeld ?_ ?_
      rotate_left 1
      · intro w2 hSw; go_simp <;> with_reducible rfl
      try simp only [Act.put, List.setIfInBounds_toArray, List.set_cons_zero, List.set_cons_succ]
      refine takeL 1 (v := ?_) rfl (by kernel_rfl) (by kernel_rfl) (by kernel_rfl) (fun _ _ _ h => h) (by rfl) hHeld ?_ ?_
      rotate_left 1
      · intro w2 hSw; go_simp <;> with_reducible rfl
      try simp only [Act.put, List.setIfInBounds_toArray, List.set_cons_zero, List.set_cons_succ]
      refine takeL 2 (v := ?_) rfl (by kernel_rfl) (by kernel_rfl) (by kernel_rfl) (fun _ _ _ h => h) (by rfl) hHeld ?_ ?_
      rotate_left 1
      · intro w2 hSw; go_simp <;> with_reducible rfl
      try simp only [Act.put, List.setIfInBounds_toArray, List.set_cons_zero, List.set_cons_succ]
      refine takeL 3 (v := ?_) rfl (by kernel_rfl) (by kernel_rfl) (by kernel_rfl) (fun _ _ _ h => h) (by rfl) hHeld ?_ ?_
      rotate_left 1
      · intro w2 hSw; have q0 := HC4.out w2 hSw; go_simp <;> with_reducible rfl
      try simp only [Act.put, List.setIfInBounds_toArray, List.set_cons_zero, List.set_cons_succ]
      refine takeRow 4 rfl (by kernel_rfl) (by kernel_rfl) (by kernel_rfl) 27 (.tmp 3) rfl (w.heap.size) (0) rfl (encI id) _ (fun _ _ _ h => h) (by rfl) hHeld HR4.out Try.underlying27 rfl HSI.out ?_
      try simp only [Act.put, List.setIfInBounds_toArray, List.set_cons_zero, List.set_cons_succ]
      refine takeRow 5 rfl (by kernel_rfl) (by kernel_rfl) (by kernel_rfl) 29 (.tmp 5) rfl (w1.heap.size) (0) rfl (encE yq) _ (fun _ _ _ h => h) (by rfl) hHeld HE4.out Try.underlying29 rfl HSXl.out ?_
      try simp only [Act.put, List.setIfInBounds_toArray, List.set_cons_zero, List.set_cons_succ]
      refine heavyL 6 rfl (by kernel_rfl) (fun K hK => ?_)
      have hrun := HRUN.out
      unfold encX at hrun
      go_simp
      refine hK.out _ _ (b5) (fun hHeld => ?_)
      clear hK K
      try simp only [Act.put, List.setIfInBounds_toArray, List.set_cons_zero, List.set_cons_succ]
      refine wpAnyH_done (by kernel_rfl) ?_ _
      refine NoPanic.normal ?_
      go_wp2
      go_ret
      exact ⟨rfl, ⟨b5.heap HH4.out.blk HH4.out.ne, HM5.out, gone_SE HH4.out.asc id, HH4.out.c0, HH4.out.c1⟩, hBut5⟩
end Go.Proofs.Ytblidphaolgilaa
