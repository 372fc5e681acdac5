/- History: the reference's Add. -/
import Derived.Test.YtblidphaolgilaaHiR3
namespace Go.Proofs.Ytblidphaolgilaa
open Go.RowKit Go.Maps
set_option linter.unusedSimpArgs false

theorem RowsArg.below {α : Type} {enc : α → List Value} {k : Nat} {v : Value} {l : List α} {w w' : World} (h : RowsArg enc k v l w) (b : Below w.heap.size w w') : RowsArg enc k v l w' := by
  obtain ⟨ao, c, rfl, h1, h2, h3, h4⟩ := h
  exact ⟨ao, c, rfl, h1, h2, h3, (h4.below b (Nat.le_refl _)).mono b.size⟩
theorem rows_arg {α : Type} {enc : α → List Value} {k : Nat} (hk : ∀ x, (enc x).length = k) (hk0 : 0 < k) {w : World} {B n : Nat} {e : TypeId} {v : Value} {l : List α} (h : w.ownsRow B e k v n (rcs enc l)) : RowsArg enc k v l w := by
  obtain ⟨hn, ao, c, rfl, h1, h2, h3, h4⟩ := rows_of_owns hk hk0 h
  exact ⟨ao, c, by rw [hn], by omega, h3, fun h => by have := h1 h; omega, h4⟩
set_option maxRecDepth 100000 in
set_option maxHeartbeats 4000000 in
theorem radd_any (l : List Ent) (x : Ent) (hl : l.length ≤ 1000) (v : Value) (w : World) (hv : RowsArg encE 36 v l w) :
    Calls Try.prog 41 #[v, encX x] w fun e w' => ∃ v', e = .returned (.tuple #[v', .int .i64 (addE l x).2]) ∧ RowsArg encE 36 v' (addE l x).1 w' ∧ Below w.heap.size w w' := by
  obtain ⟨ao, c, rfl, hlc, hcm, hn, hr⟩ := hv
  have hN := EntAt.new w x 24
  have hB : Below w.heap.size w (w.alloc (.cells (encE x).toArray 24)) := (Below.refl _ w).alloc (Nat.le_refl _) _
  have hsz : w.heap.size < (w.alloc (.cells (encE x).toArray 24)).heap.size := by simp
  obtain ⟨w1, hw1⟩ : ∃ w1, w.alloc (.cells (encE x).toArray 24) = w1 := ⟨_, rfl⟩
  rw [hw1] at hN hB hsz
  have HE := Lib.hid hN
  have HR1 := Lib.hid ((hr.below hB (Nat.le_refl _)).mono (Nat.le_of_lt hsz))
  have HSX := Lib.hid (rxSize x)
  have HSI := Lib.hid (idSize22 x.id)
  have HNN := Lib.hid hn
  clear hr hN hn
  by_cases hck : chk x = 0
  · rcases idxE_cases l x.id with ⟨hix, hfd⟩ | ⟨i, hi, hix, hfd, hid⟩
    · have hadd : addE l x = (insE x l, 0) := by unfold addE; rw [if_pos hck, hfd]; rfl
      rw [hadd]
      obtain ⟨i0, hif, hz0, hz1, hz2⟩ := info_parts infoX
      have HI := Lib.hid hif
      have HCK := Lib.hid hck
      have HIX := Lib.hid hix
      clear hadd hfd hix hck hif
      unfold encX
      go_enter Try.func41, Try.ntmps41
      go_wp2_with (refine wpList_load_abs (by rfl) 24 (.tmp 3) (by rfl) w.heap.size (by rfl) _ _ _ _ HE.out Try.underlying24 rfl HSX.out ?_)
      refine (rcheck_any x _).mono ?_
      rintro e w2 ⟨rfl, b2⟩
      clear hw1
      rw [HCK.out]
      have HE2 := Lib.hid (HE.out.below b2 hsz)
      go_wp2_with (refine wpList_load_mid (by rfl) 22 (.tmp 16) (by rfl) w.heap.size 0 (by rfl) (encI x.id) _ HE2.out.idr Try.underlying22 rfl HSI.out ?_)
      refine (find_any l x.id (by omega) _ _ w2 ((HR1.out.below b2 (Nat.le_refl _)).mono b2.size)).mono ?_
      rintro e w2' ⟨rfl, b2'⟩
      rw [HIX.out]
      have b3 := b2.trans (b2'.mono b2.size)
      clear b2 b2' HE2
      go_wp2_with fail
      go_loopw [7] (fun av wq => ∃ (k : Nat), k ≤ l.length ∧ av = .int .i64 (k : Int) ∧ Hid (∀ j (h : j < l.length), j < k → ltI l[j].id x.id = true) ∧ Below w1.heap.size w1 wq)
        (fun av _ => (l.length - intOf av).toNat)
      case atStart => exact ⟨0, Nat.zero_le _, rfl, Lib.hid (fun j h hj => by omega), b3⟩
      case round =>
        obtain ⟨k, hk, rfl, HK, hBk⟩ := hrel
        by_cases hko : k < l.length
        · have hkoi : (k : Int) < (l.length : Int) := by omega
          obtain ⟨gb, ob, rfl, hgb, hrb⟩ := HR1.out.at hko
          have HY : Hid (∀ w', Below w1.heap.size w1 w' → w'.rangeAt gb (ob + k * 36) (encI l[k].id)) := Lib.hid (fun w' b => rangeE_id (rangeAt_below hrb b hgb))
          have HX : Hid (∀ w', Below w1.heap.size w1 w' → w'.rangeAt w.heap.size 0 (encI x.id)) := Lib.hid (fun w' b => (HE.out.below b hsz).idr)
          have HSY := Lib.hid (idSize22 l[k].id)
          clear hrb
          cases hlt : ltI l[k].id x.id with
          | true =>
            have HLT := Lib.hid hlt
            go_wp2_with fail
            refine wp_region_noPanic ?_
            refine wp_region_held_drew (S := fun w' => Below w1.heap.size w1 w') (by kernel_rfl) (hBk.drew) (fun hHeld => ?_)
            refine takeL 0 (v := ?_) rfl (by kernel_rfl) (by kernel_rfl) (by kernel_rfl) (fun _ _ _ h => h) (by rfl) hHeld ?_ ?_
            rotate_left 1
            · intro w2 hSw; go_simp <;> with_reducible rfl
            try simp only [Act.put, List.setIfInBounds_toArray, List.set_cons_zero, List.set_cons_succ]
            refine takeL 1 (v := ?_) rfl (by kernel_rfl) (by kernel_rfl) (by kernel_rfl) (fun _ _ _ h => h) (by rfl) hHeld ?_ ?_
            rotate_left 1
            · intro w2 hSw; go_simp <;> with_reducible rfl
            try simp only [Act.put, List.setIfInBounds_toArray, List.set_cons_zero, List.set_cons_succ]
            refine takeL 2 (v := ?_) rfl (by kernel_rfl) (by kernel_rfl) (by kernel_rfl) (fun _ _ _ h => h) (by rfl) hHeld ?_ ?_
            rotate_left 1
            · intro w2 hSw; go_simp <;> with_reducible rfl
            try simp only [Act.put, List.setIfInBounds_toArray, List.set_cons_zero, List.set_cons_succ]
            refine takeL 3 (v := ?_) rfl (by kernel_rfl) (by kernel_rfl) (by kernel_rfl) (fun _ _ _ h => h) (by rfl) hHeld ?_ ?_
            rotate_left 1
            · intro w2 hSw; go_simp <;> with_reducible rfl
            try simp only [Act.put, List.setIfInBounds_toArray, List.set_cons_zero, List.set_cons_succ]
            refine takeL 4 (v := ?_) rfl (by kernel_rfl) (by kernel_rfl) (by kernel_rfl) (fun _ _ _ h => h) (by rfl) hHeld ?_ ?_
            rotate_left 1
            · intro w2 hSw; go_simp <;> with_reducible rfl
            try simp only [Act.put, List.setIfInBounds_toArray, List.set_cons_zero, List.set_cons_succ]
            refine takeL 5 (v := ?_) rfl (by kernel_rfl) (by kernel_rfl) (by kernel_rfl) (fun _ _ _ h => h) (by rfl) hHeld ?_ ?_
            rotate_left 1
            · intro w2 hSw; go_simp <;> with_reducible rfl
            try simp only [Act.put, List.setIfInBounds_toArray, List.set_cons_zero, List.set_cons_succ]
            refine takeL 6 (v := ?_) rfl (by kernel_rfl) (by kernel_rfl) (by kernel_rfl) (fun _ _ _ h => h) (by rfl) hHeld ?_ ?_
            rotate_left 1
            · intro w2 hSw; go_simp <;> with_reducible rfl
            try simp only [Act.put, List.setIfInBounds_toArray, List.set_cons_zero, List.set_cons_succ]
            refine takeL 7 (v := ?_) rfl (by kernel_rfl) (by kernel_rfl) (by kernel_rfl) (fun _ _ _ h => h) (by rfl) hHeld ?_ ?_
            rotate_left 1
            · intro w2 hSw; go_simp <;> with_reducible rfl
            try simp only [Act.put, List.setIfInBounds_toArray, List.set_cons_zero, List.set_cons_succ]
            refine takeL 8 (v := ?_) rfl (by kernel_rfl) (by kernel_rfl) (by kernel_rfl) (fun _ _ _ h => h) (by rfl) hHeld ?_ ?_
            rotate_left 1
            · intro w2 hSw; go_simp <;> with_reducible rfl
            try simp only [Act.put, List.setIfInBounds_toArray, List.set_cons_zero, List.set_cons_succ]
            refine takeRow 9 rfl (by kernel_rfl) (by kernel_rfl) (by kernel_rfl) 22 (.tmp 29) rfl (gb) (ob + k * 36) rfl (encI l[k].id) _ (fun _ _ _ h => h) (by rfl) hHeld HY.out Try.underlying22 rfl HSY.out ?_
            try simp only [Act.put, List.setIfInBounds_toArray, List.set_cons_zero, List.set_cons_succ]
            refine takeL 10 (v := ?_) rfl (by kernel_rfl) (by kernel_rfl) (by kernel_rfl) (fun _ _ _ h => h) (by rfl) hHeld ?_ ?_
            rotate_left 1
            · intro w2 hSw; go_simp <;> with_reducible rfl
            try simp only [Act.put, List.setIfInBounds_toArray, List.set_cons_zero, List.set_cons_succ]
            refine takeRow 11 rfl (by kernel_rfl) (by kernel_rfl) (by kernel_rfl) 22 (.tmp 31) rfl (w.heap.size) (0) rfl (encI x.id) _ (fun _ _ _ h => h) (by rfl) hHeld HX.out Try.underlying22 rfl HSI.out ?_
            try simp only [Act.put, List.setIfInBounds_toArray, List.set_cons_zero, List.set_cons_succ]
            refine heavyL 12 rfl (by kernel_rfl) (fun K hK => ?_)
            go_simp
            refine (before_any l[k].id x.id _).mono ?_
            rintro e w4 ⟨rfl, b4⟩
            rw [HLT.out]
            try go_simp
            refine hK.out _ _ (hHeld.trans (b4.mono hHeld.size)) (fun hHeld => ?_)
            clear hK K
            try simp only [Act.put, List.setIfInBounds_toArray, List.set_cons_zero, List.set_cons_succ]
            refine takeL 13 (v := ?_) rfl (by kernel_rfl) (by kernel_rfl) (by kernel_rfl) (fun _ _ _ h => h) (by rfl) hHeld ?_ ?_
            rotate_left 1
            · intro w2 hSw; go_simp <;> with_reducible rfl
            try simp only [Act.put, List.setIfInBounds_toArray, List.set_cons_zero, List.set_cons_succ]
            refine wpAnyH_done (by kernel_rfl) ?_ _
            refine NoPanic.normal ?_
            have hBn := hHeld
            clear hHeld
            go_wp2_with fail
            go_roundw
            case rel => exact ⟨k + 1, by omega, by go_num, Lib.hid (fun j h hj => by by_cases e : j = k; (· subst e; exact hlt); exact HK.out j h (by omega)), hBn⟩
            case measure => simp [intOf]; omega
          | false =>
            have HLT := Lib.hid hlt
            have HIn := Lib.hid (insE_at x l k hk HK.out (fun _ => hlt))
            clear hlt
            go_wp2_with fail
            refine wp_region_noPanic ?_
            refine wp_region_held_drew (S := fun w' => Below w1.heap.size w1 w') (by kernel_rfl) (hBk.drew) (fun hHeld => ?_)
            refine takeL 0 (v := ?_) rfl (by kernel_rfl) (by kernel_rfl) (by kernel_rfl) (fun _ _ _ h => h) (by rfl) hHeld ?_ ?_
            rotate_left 1
            · intro w2 hSw; go_simp <;> with_reducible rfl
            try simp only [Act.put, List.setIfInBounds_toArray, List.set_cons_zero, List.set_cons_succ]
            refine takeL 1 (v := ?_) rfl (by kernel_rfl) (by kernel_rfl) (by kernel_rfl) (fun _ _ _ h => h) (by rfl) hHeld ?_ ?_
            rotate_left 1
            · intro w2 hSw; go_simp <;> with_reducible rfl
            try simp only [Act.put, List.setIfInBounds_toArray, List.set_cons_zero, List.set_cons_succ]
            refine takeL 2 (v := ?_) rfl (by kernel_rfl) (by kernel_rfl) (by kernel_rfl) (fun _ _ _ h => h) (by rfl) hHeld ?_ ?_
            rotate_left 1
            · intro w2 hSw; go_simp <;> with_reducible rfl
            try simp only [Act.put, List.setIfInBounds_toArray, List.set_cons_zero, List.set_cons_succ]
            refine takeL 3 (v := ?_) rfl (by kernel_rfl) (by kernel_rfl) (by kernel_rfl) (fun _ _ _ h => h) (by rfl) hHeld ?_ ?_
            rotate_left 1
            · intro w2 hSw; go_simp <;> with_reducible rfl
            try simp only [Act.put, List.setIfInBounds_toArray, List.set_cons_zero, List.set_cons_succ]
            refine takeL 4 (v := ?_) rfl (by kernel_rfl) (by kernel_rfl) (by kernel_rfl) (fun _ _ _ h => h) (by rfl) hHeld ?_ ?_
            rotate_left 1
            · intro w2 hSw; go_simp <;> with_reducible rfl
            try simp only [Act.put, List.setIfInBounds_toArray, List.set_cons_zero, List.set_cons_succ]
            refine takeL 5 (v := ?_) rfl (by kernel_rfl) (by kernel_rfl) (by kernel_rfl) (fun _ _ _ h => h) (by rfl) hHeld ?_ ?_
            rotate_left 1
            · intro w2 hSw; go_simp <;> with_reducible rfl
            try simp only [Act.put, List.setIfInBounds_toArray, List.set_cons_zero, List.set_cons_succ]
            refine takeL 6 (v := ?_) rfl (by kernel_rfl) (by kernel_rfl) (by kernel_rfl) (fun _ _ _ h => h) (by rfl) hHeld ?_ ?_
            rotate_left 1
            · intro w2 hSw; go_simp <;> with_reducible rfl
            try simp only [Act.put, List.setIfInBounds_toArray, List.set_cons_zero, List.set_cons_succ]
            refine takeL 7 (v := ?_) rfl (by kernel_rfl) (by kernel_rfl) (by kernel_rfl) (fun _ _ _ h => h) (by rfl) hHeld ?_ ?_
            rotate_left 1
            · intro w2 hSw; go_simp <;> with_reducible rfl
            try simp only [Act.put, List.setIfInBounds_toArray, List.set_cons_zero, List.set_cons_succ]
            refine takeL 8 (v := ?_) rfl (by kernel_rfl) (by kernel_rfl) (by kernel_rfl) (fun _ _ _ h => h) (by rfl) hHeld ?_ ?_
            rotate_left 1
            · intro w2 hSw; go_simp <;> with_reducible rfl
            try simp only [Act.put, List.setIfInBounds_toArray, List.set_cons_zero, List.set_cons_succ]
            refine takeRow 9 rfl (by kernel_rfl) (by kernel_rfl) (by kernel_rfl) 22 (.tmp 29) rfl (gb) (ob + k * 36) rfl (encI l[k].id) _ (fun _ _ _ h => h) (by rfl) hHeld HY.out Try.underlying22 rfl HSY.out ?_
            try simp only [Act.put, List.setIfInBounds_toArray, List.set_cons_zero, List.set_cons_succ]
            refine takeL 10 (v := ?_) rfl (by kernel_rfl) (by kernel_rfl) (by kernel_rfl) (fun _ _ _ h => h) (by rfl) hHeld ?_ ?_
            rotate_left 1
            · intro w2 hSw; go_simp <;> with_reducible rfl
            try simp only [Act.put, List.setIfInBounds_toArray, List.set_cons_zero, List.set_cons_succ]
            refine takeRow 11 rfl (by kernel_rfl) (by kernel_rfl) (by kernel_rfl) 22 (.tmp 31) rfl (w.heap.size) (0) rfl (encI x.id) _ (fun _ _ _ h => h) (by rfl) hHeld HX.out Try.underlying22 rfl HSI.out ?_
            try simp only [Act.put, List.setIfInBounds_toArray, List.set_cons_zero, List.set_cons_succ]
            refine heavyL 12 rfl (by kernel_rfl) (fun K hK => ?_)
            go_simp
            refine (before_any l[k].id x.id _).mono ?_
            rintro e w4' ⟨rfl, b4⟩
            rw [HLT.out]
            try go_simp
            refine hK.out _ _ (hHeld.trans (b4.mono hHeld.size)) (fun hHeld => ?_)
            clear hK K
            try simp only [Act.put, List.setIfInBounds_toArray, List.set_cons_zero, List.set_cons_succ]
            refine takeL 13 (v := ?_) rfl (by kernel_rfl) (by kernel_rfl) (by kernel_rfl) (fun _ _ _ h => h) (by rfl) hHeld ?_ ?_
            rotate_left 1
            · intro w2 hSw; go_simp <;> with_reducible rfl
            try simp only [Act.put, List.setIfInBounds_toArray, List.set_cons_zero, List.set_cons_succ]
            refine wpAnyH_done (by kernel_rfl) ?_ _
            refine NoPanic.normal ?_
            have hBn := hHeld
            clear hHeld HY HX
            have hck' : ¬ c = k := by omega
            -- behind the loop: k is the place
            have hkc : (k : Int) ≤ (c : Int) := by omega
            have hkcn : k ≤ c := by omega
            have hoc : (l.length : Int) ≤ (c : Int) := by omega
            have hkl : (k : Int) ≤ (l.length : Int) := by omega
            have hwz := hBn.size
            have HRr := Lib.hid ((HR1.out.below hBn (Nat.le_refl _)).mono hBn.size)
            have HEr := Lib.hid (HE.out.below hBn hsz)
            have hBr := hB.trans (hBn.mono (Nat.le_of_lt hsz))
            have hwr := hBr.size
            go_wp2_with (refine wpList_one (.inr (by rfl)) (wp_build0_abs 36 24 (by rfl) i0 Try.underlying36 HI.out (w4').heap.size 36 (Nat.le_refl _) ?_))
            intro v0 w3 ov0 g0 lv0
            have HR3 := Lib.hid (HRr.out.below ((Below.refl (w4').heap.size (w4')).grown g0 (Nat.le_refl _) (fun j hj => by cases hj)) (Nat.le_refl _))
            go_wp2_with (at_builtin; refine wpList_append_from (.inr (by rfl)) (.tmp 37) (.tmp 40) 36 (by rfl) (w4').heap.size 24 i0 _ 36 64 Try.underlying36 HI.out hz0 hz1 hz2 (by simp [encX, Value.cells, encE_len]) (by decide) _ 0 [] (by rfl) ov0 _ _ _ (by rfl) (fun h => by cases h) (ecs (l.take k)) (by rw [rcs_len encE_len, List.length_take]; omega) (rows_news encE_len (by decide) (HR3.out.take k)) (rcs_one encE_one _) (by unfold maxLen; omega) (by omega) g0.size ?_)
            intro v1 w4 ov1 g1 _
            have hB3 := hBr.grown g0 hwr (fun j hj => by cases hj)
            have hB4 := hB3.grown g1 hB3.size (fun j hj => Nat.le_trans hwr (lv0 j hj))
            have hBE4 : Below (w4').heap.size (w4') w4 := ((Below.refl (w4').heap.size (w4')).grown g0 (Nat.le_refl _) (fun j hj => by cases hj)).grown g1 g0.size (fun j hj => lv0 j hj)
            have HE4 := Lib.hid (HEr.out.below hBE4 (Nat.lt_of_lt_of_le hsz hwz))
            have HR4 := Lib.hid (HRr.out.below hBE4 (Nat.le_refl _))
            have hs4 := hBE4.size
            clear g0 g1 ov0 lv0
            go_wp2_with (first
              | (refine wpList_load_abs (by rfl) 24 (.tmp 3) (by rfl) w.heap.size (by rfl) _ _ _ _ HE4.out Try.underlying24 rfl HSX.out ?_)
              | (refine wpList_build1 (by rfl) 36 24 (.tmp 43) (by rfl) (encE x) (by rfl) i0 _ Try.underlying36 HI.out hz0 (by rw [hz1, encE_len]) (by rw [encE_len]; omega) (by rw [encE_len]; omega) ?_)
              | (at_builtin; refine wpList_append_own_at _ rfl (.tmp 42) (.tmp 44) 36 (by rfl) (w4').heap.size 24 i0 _ 36 64 Try.underlying36 HI.out hz0 hz1 hz2 (by simp [encX, Value.cells, encE_len]) (by decide) _ _ _ (by rfl) (ov1.alloc _) ⟨w4.heap.size, 0, none⟩ 1 1 (encE x) (by rfl) (by rw [encE_len]) (news_of_block0 (heap_alloc_new w4 _)) (encE_one x) (by unfold maxLen; omega) (by omega) (Nat.le_trans hs4 (by simp)) ?_))
            intro v5 w5 ov5 g5 _ _
            have hob := fun j (hj : v1.ownBlock = some j) => (ov1.lt j hj).1
            have hBE5 : Below (w4').heap.size (w4') w5 := (hBE4.alloc hs4 (.cells (encE x).toArray 24 (0, 0))).grown g5 (Nat.le_trans hs4 (by simp)) (fun j hj => hob j hj)
            have HR5 := Lib.hid (HRr.out.below hBE5 (Nat.le_refl _))
            clear g5 hob ov1 HR4 HE4
            go_wp2_with (at_builtin; refine wpList_append_from (.inr (by rfl)) (.tmp 46) (.tmp 49) 36 (by rfl) (w4').heap.size 24 i0 _ 36 64 Try.underlying36 HI.out hz0 hz1 hz2 (by simp [encX, Value.cells, encE_len]) (by decide) _ _ _ (by rfl) ov5 _ _ _ (by rfl) (fun h => by cases h) (ecs (l.drop k)) (by rw [rcs_len encE_len, List.length_drop] <;> omega) (rows_news encE_len (by decide) (HR5.out.drop k)) (rcs_one encE_one _) (by unfold maxLen; omega) (by omega) hBE5.size ?_)
            intro v7 w7 ov7 g7 _
            have hBE7 := hBE5.grown g7 hBE5.size (fun j hj => (ov5.lt j hj).1)
            obtain ⟨nn, xs, hxs, ov8⟩ : ∃ nn xs, xs = ecs (insE x l) ∧ w7.ownsRow (w4').heap.size 24 36 v7 nn xs := ⟨_, _, by rw [HIn.out]; simp [rcs], ov7⟩
            subst hxs
            have HRV := Lib.hid (rows_arg encE_len (by decide) ov8)
            have HBF := Lib.hid (hBr.trans (hBE7.mono hwr))
            clear ov5 ov7 ov8 g7 HIn HRr HEr HR5
            go_wp2
            go_ret2
            exact ⟨_, rfl, HRV.out, HBF.out⟩
        · have hkoi : ¬ (k : Int) < (l.length : Int) := by omega
          go_wp2_with fail
          refine wp_region_noPanic ?_
          refine wp_region_held_drew (S := fun w' => Below w1.heap.size w1 w') (by kernel_rfl) (hBk.drew) (fun hHeld => ?_)
          refine takeL 0 (v := ?_) rfl (by kernel_rfl) (by kernel_rfl) (by kernel_rfl) (fun _ _ _ h => h) (by rfl) hHeld ?_ ?_
          rotate_left 1
          · intro w2 hSw; go_simp <;> with_reducible rfl
          try simp only [Act.put, List.setIfInBounds_toArray, List.set_cons_zero, List.set_cons_succ]
          refine takeL 1 (v := ?_) rfl (by kernel_rfl) (by kernel_rfl) (by kernel_rfl) (fun _ _ _ h => h) (by rfl) hHeld ?_ ?_
          rotate_left 1
          · intro w2 hSw; go_simp <;> with_reducible rfl
          try simp only [Act.put, List.setIfInBounds_toArray, List.set_cons_zero, List.set_cons_succ]
          refine takeL 2 (v := ?_) rfl (by kernel_rfl) (by kernel_rfl) (by kernel_rfl) (fun _ _ _ h => h) (by rfl) hHeld ?_ ?_
          rotate_left 1
          · intro w2 hSw; go_simp <;> with_reducible rfl
          try simp only [Act.put, List.setIfInBounds_toArray, List.set_cons_zero, List.set_cons_succ]
          refine takeL 3 (v := ?_) rfl (by kernel_rfl) (by kernel_rfl) (by kernel_rfl) (fun _ _ _ h => h) (by rfl) hHeld ?_ ?_
          rotate_left 1
          · intro w2 hSw; go_simp <;> with_reducible rfl
          try simp only [Act.put, List.setIfInBounds_toArray, List.set_cons_zero, List.set_cons_succ]
          refine takeL 4 (v := ?_) rfl (by kernel_rfl) (by kernel_rfl) (by kernel_rfl) (fun _ _ _ h => h) (by rfl) hHeld ?_ ?_
          rotate_left 1
          · intro w2 hSw; go_simp <;> with_reducible rfl
          try simp only [Act.put, List.setIfInBounds_toArray, List.set_cons_zero, List.set_cons_succ]
          refine skipL 5 rfl (by kernel_rfl) (by kernel_rfl) (by kernel_rfl) (fun _ _ _ h => h) (by rfl) hHeld ?_
          try simp only [Act.put, List.setIfInBounds_toArray, List.set_cons_zero, List.set_cons_succ]
          refine skipL 6 rfl (by kernel_rfl) (by kernel_rfl) (by kernel_rfl) (fun _ _ _ h => h) (by rfl) hHeld ?_
          try simp only [Act.put, List.setIfInBounds_toArray, List.set_cons_zero, List.set_cons_succ]
          refine skipL 7 rfl (by kernel_rfl) (by kernel_rfl) (by kernel_rfl) (fun _ _ _ h => h) (by rfl) hHeld ?_
          try simp only [Act.put, List.setIfInBounds_toArray, List.set_cons_zero, List.set_cons_succ]
          refine skipL 8 rfl (by kernel_rfl) (by kernel_rfl) (by kernel_rfl) (fun _ _ _ h => h) (by rfl) hHeld ?_
          try simp only [Act.put, List.setIfInBounds_toArray, List.set_cons_zero, List.set_cons_succ]
          refine skipL 9 rfl (by kernel_rfl) (by kernel_rfl) (by kernel_rfl) (fun _ _ _ h => h) (by rfl) hHeld ?_
          try simp only [Act.put, List.setIfInBounds_toArray, List.set_cons_zero, List.set_cons_succ]
          refine skipL 10 rfl (by kernel_rfl) (by kernel_rfl) (by kernel_rfl) (fun _ _ _ h => h) (by rfl) hHeld ?_
          try simp only [Act.put, List.setIfInBounds_toArray, List.set_cons_zero, List.set_cons_succ]
          refine skipL 11 rfl (by kernel_rfl) (by kernel_rfl) (by kernel_rfl) (fun _ _ _ h => h) (by rfl) hHeld ?_
          try simp only [Act.put, List.setIfInBounds_toArray, List.set_cons_zero, List.set_cons_succ]
          refine skipL 12 rfl (by kernel_rfl) (by kernel_rfl) (by kernel_rfl) (fun _ _ _ h => h) (by rfl) hHeld ?_
          try simp only [Act.put, List.setIfInBounds_toArray, List.set_cons_zero, List.set_cons_succ]
          refine takeL 13 (v := ?_) rfl (by kernel_rfl) (by kernel_rfl) (by kernel_rfl) (fun _ _ _ h => h) (by rfl) hHeld ?_ ?_
          rotate_left 1
          · intro w2 hSw; go_simp <;> with_reducible rfl
          try simp only [Act.put, List.setIfInBounds_toArray, List.set_cons_zero, List.set_cons_succ]
          refine wpAnyH_done (by kernel_rfl) ?_ _
          refine NoPanic.normal ?_
          have HIn := Lib.hid (insE_at x l k hk HK.out (fun h => absurd h hko))
          have hBn := hHeld
          clear hHeld
          have hkk : k = l.length := by omega
          have hdr : ecs (l.drop k) = [] := by rw [hkk]; simp [rcs]
          have HDR : Hid (∀ W : World, ∀ A : Option Addr, ∀ ad, A = some ad → ∀ j u, (ecs (l.drop k))[j]? = some u → W.cell? (ad.add j) = some u) := Lib.hid (fun W A ad _ j u hu => by rw [hdr] at hu; simp at hu)
          clear hdr hkk
          rcases ao with _ | ⟨gb, ob, sb⟩
          · obtain rfl : c = 0 := (HNN.out rfl).2
            obtain rfl : k = 0 := by omega
            -- behind the loop: k is the place
            have hkc : (0 : Int) ≤ (0 : Int) := by omega
            have hkcn : 0 ≤ 0 := by omega
            have hoc : (l.length : Int) ≤ (0 : Int) := by omega
            have hkl : (0 : Int) ≤ (l.length : Int) := by omega
            have hwz := hBn.size
            have HRr := Lib.hid ((HR1.out.below hBn (Nat.le_refl _)).mono hBn.size)
            have HEr := Lib.hid (HE.out.below hBn hsz)
            have hBr := hB.trans (hBn.mono (Nat.le_of_lt hsz))
            have hwr := hBr.size
            go_wp2_with (refine wpList_one (.inr (by rfl)) (wp_build0_abs 36 24 (by rfl) i0 Try.underlying36 HI.out (wr.drew).heap.size 36 (Nat.le_refl _) ?_))
            intro v0 w3 ov0 g0 lv0
            have HR3 := Lib.hid (HRr.out.below ((Below.refl (wr.drew).heap.size (wr.drew)).grown g0 (Nat.le_refl _) (fun j hj => by cases hj)) (Nat.le_refl _))
            go_wp2_with (at_builtin; refine wpList_append_from (.inr (by rfl)) (.tmp 37) (.tmp 40) 36 (by rfl) (wr.drew).heap.size 24 i0 _ 36 64 Try.underlying36 HI.out hz0 hz1 hz2 (by simp [encX, Value.cells, encE_len]) (by decide) _ 0 [] (by rfl) ov0 _ _ _ (by rfl) (fun _ => ⟨rfl, rfl⟩) (ecs (l.take 0)) (by rw [rcs_len encE_len, List.length_take]; omega) (rows_news encE_len (by decide) (HR3.out.take 0)) (rcs_one encE_one _) (by unfold maxLen; omega) (by omega) g0.size ?_)
            intro v1 w4 ov1 g1 _
            have hB3 := hBr.grown g0 hwr (fun j hj => by cases hj)
            have hB4 := hB3.grown g1 hB3.size (fun j hj => Nat.le_trans hwr (lv0 j hj))
            have hBE4 : Below (wr.drew).heap.size (wr.drew) w4 := ((Below.refl (wr.drew).heap.size (wr.drew)).grown g0 (Nat.le_refl _) (fun j hj => by cases hj)).grown g1 g0.size (fun j hj => lv0 j hj)
            have HE4 := Lib.hid (HEr.out.below hBE4 (Nat.lt_of_lt_of_le hsz hwz))
            have HR4 := Lib.hid (HRr.out.below hBE4 (Nat.le_refl _))
            have hs4 := hBE4.size
            clear g0 g1 ov0 lv0
            go_wp2_with (first
              | (refine wpList_load_abs (by rfl) 24 (.tmp 3) (by rfl) w.heap.size (by rfl) _ _ _ _ HE4.out Try.underlying24 rfl HSX.out ?_)
              | (refine wpList_build1 (by rfl) 36 24 (.tmp 43) (by rfl) (encE x) (by rfl) i0 _ Try.underlying36 HI.out hz0 (by rw [hz1, encE_len]) (by rw [encE_len]; omega) (by rw [encE_len]; omega) ?_)
              | (at_builtin; refine wpList_append_own_at _ rfl (.tmp 42) (.tmp 44) 36 (by rfl) (wr.drew).heap.size 24 i0 _ 36 64 Try.underlying36 HI.out hz0 hz1 hz2 (by simp [encX, Value.cells, encE_len]) (by decide) _ _ _ (by rfl) (ov1.alloc _) ⟨w4.heap.size, 0, none⟩ 1 1 (encE x) (by rfl) (by rw [encE_len]) (news_of_block0 (heap_alloc_new w4 _)) (encE_one x) (by unfold maxLen; omega) (by omega) (Nat.le_trans hs4 (by simp)) ?_))
            intro v5 w5 ov5 g5 _ _
            have hob := fun j (hj : v1.ownBlock = some j) => (ov1.lt j hj).1
            have hBE5 : Below (wr.drew).heap.size (wr.drew) w5 := (hBE4.alloc hs4 (.cells (encE x).toArray 24 (0, 0))).grown g5 (Nat.le_trans hs4 (by simp)) (fun j hj => hob j hj)
            have HR5 := Lib.hid (HRr.out.below hBE5 (Nat.le_refl _))
            clear g5 hob ov1 HR4 HE4
            go_wp2_with (at_builtin; refine wpList_append_from (.inr (by rfl)) (.tmp 46) (.tmp 49) 36 (by rfl) (wr.drew).heap.size 24 i0 _ 36 64 Try.underlying36 HI.out hz0 hz1 hz2 (by simp [encX, Value.cells, encE_len]) (by decide) _ _ _ (by rfl) ov5 _ _ _ (by rfl) (fun _ => ⟨by omega, by omega⟩) (ecs (l.drop 0)) (by rw [rcs_len encE_len, List.length_drop] <;> omega) (HDR.out _ _) (rcs_one encE_one _) (by unfold maxLen; omega) (by omega) hBE5.size ?_)
            intro v7 w7 ov7 g7 _
            have hBE7 := hBE5.grown g7 hBE5.size (fun j hj => (ov5.lt j hj).1)
            obtain ⟨nn, xs, hxs, ov8⟩ : ∃ nn xs, xs = ecs (insE x l) ∧ w7.ownsRow (wr.drew).heap.size 24 36 v7 nn xs := ⟨_, _, by rw [HIn.out]; simp [rcs], ov7⟩
            subst hxs
            have HRV := Lib.hid (rows_arg encE_len (by decide) ov8)
            have HBF := Lib.hid (hBr.trans (hBE7.mono hwr))
            clear ov5 ov7 ov8 g7 HIn HRr HEr HR5
            go_wp2
            go_ret2
            exact ⟨_, rfl, HRV.out, HBF.out⟩
          · by_cases hck : k = c
            · subst hck
              -- behind the loop: k is the place
              have hkc : (k : Int) ≤ (k : Int) := by omega
              have hkcn : k ≤ k := by omega
              have hoc : (l.length : Int) ≤ (k : Int) := by omega
              have hkl : (k : Int) ≤ (l.length : Int) := by omega
              have hwz := hBn.size
              have HRr := Lib.hid ((HR1.out.below hBn (Nat.le_refl _)).mono hBn.size)
              have HEr := Lib.hid (HE.out.below hBn hsz)
              have hBr := hB.trans (hBn.mono (Nat.le_of_lt hsz))
              have hwr := hBr.size
              go_wp2_with (refine wpList_one (.inr (by rfl)) (wp_build0_abs 36 24 (by rfl) i0 Try.underlying36 HI.out (wr.drew).heap.size 36 (Nat.le_refl _) ?_))
              intro v0 w3 ov0 g0 lv0
              have HR3 := Lib.hid (HRr.out.below ((Below.refl (wr.drew).heap.size (wr.drew)).grown g0 (Nat.le_refl _) (fun j hj => by cases hj)) (Nat.le_refl _))
              go_wp2_with (at_builtin; refine wpList_append_from (.inr (by rfl)) (.tmp 37) (.tmp 40) 36 (by rfl) (wr.drew).heap.size 24 i0 _ 36 64 Try.underlying36 HI.out hz0 hz1 hz2 (by simp [encX, Value.cells, encE_len]) (by decide) _ 0 [] (by rfl) ov0 _ _ _ (by rfl) (fun h => by cases h) (ecs (l.take k)) (by rw [rcs_len encE_len, List.length_take]; omega) (rows_news encE_len (by decide) (HR3.out.take k)) (rcs_one encE_one _) (by unfold maxLen; omega) (by omega) g0.size ?_)
              intro v1 w4 ov1 g1 _
              have hB3 := hBr.grown g0 hwr (fun j hj => by cases hj)
              have hB4 := hB3.grown g1 hB3.size (fun j hj => Nat.le_trans hwr (lv0 j hj))
              have hBE4 : Below (wr.drew).heap.size (wr.drew) w4 := ((Below.refl (wr.drew).heap.size (wr.drew)).grown g0 (Nat.le_refl _) (fun j hj => by cases hj)).grown g1 g0.size (fun j hj => lv0 j hj)
              have HE4 := Lib.hid (HEr.out.below hBE4 (Nat.lt_of_lt_of_le hsz hwz))
              have HR4 := Lib.hid (HRr.out.below hBE4 (Nat.le_refl _))
              have hs4 := hBE4.size
              clear g0 g1 ov0 lv0
              go_wp2_with (first
                | (refine wpList_load_abs (by rfl) 24 (.tmp 3) (by rfl) w.heap.size (by rfl) _ _ _ _ HE4.out Try.underlying24 rfl HSX.out ?_)
                | (refine wpList_build1 (by rfl) 36 24 (.tmp 43) (by rfl) (encE x) (by rfl) i0 _ Try.underlying36 HI.out hz0 (by rw [hz1, encE_len]) (by rw [encE_len]; omega) (by rw [encE_len]; omega) ?_)
                | (at_builtin; refine wpList_append_own_at _ rfl (.tmp 42) (.tmp 44) 36 (by rfl) (wr.drew).heap.size 24 i0 _ 36 64 Try.underlying36 HI.out hz0 hz1 hz2 (by simp [encX, Value.cells, encE_len]) (by decide) _ _ _ (by rfl) (ov1.alloc _) ⟨w4.heap.size, 0, none⟩ 1 1 (encE x) (by rfl) (by rw [encE_len]) (news_of_block0 (heap_alloc_new w4 _)) (encE_one x) (by unfold maxLen; omega) (by omega) (Nat.le_trans hs4 (by simp)) ?_))
              intro v5 w5 ov5 g5 _ _
              have hob := fun j (hj : v1.ownBlock = some j) => (ov1.lt j hj).1
              have hBE5 : Below (wr.drew).heap.size (wr.drew) w5 := (hBE4.alloc hs4 (.cells (encE x).toArray 24 (0, 0))).grown g5 (Nat.le_trans hs4 (by simp)) (fun j hj => hob j hj)
              have HR5 := Lib.hid (HRr.out.below hBE5 (Nat.le_refl _))
              clear g5 hob ov1 HR4 HE4
              go_wp2_with (at_builtin; refine wpList_append_from (.inr (by rfl)) (.tmp 46) (.tmp 49) 36 (by rfl) (wr.drew).heap.size 24 i0 _ 36 64 Try.underlying36 HI.out hz0 hz1 hz2 (by simp [encX, Value.cells, encE_len]) (by decide) _ _ _ (by rfl) ov5 _ _ _ (by rfl) (fun h => by cases h) (ecs (l.drop k)) (by rw [rcs_len encE_len, List.length_drop] <;> omega) (HDR.out _ _) (rcs_one encE_one _) (by unfold maxLen; omega) (by omega) hBE5.size ?_)
              intro v7 w7 ov7 g7 _
              have hBE7 := hBE5.grown g7 hBE5.size (fun j hj => (ov5.lt j hj).1)
              obtain ⟨nn, xs, hxs, ov8⟩ : ∃ nn xs, xs = ecs (insE x l) ∧ w7.ownsRow (wr.drew).heap.size 24 36 v7 nn xs := ⟨_, _, by rw [HIn.out]; simp [rcs], ov7⟩
              subst hxs
              have HRV := Lib.hid (rows_arg encE_len (by decide) ov8)
              have HBF := Lib.hid (hBr.trans (hBE7.mono hwr))
              clear ov5 ov7 ov8 g7 HIn HRr HEr HR5
              go_wp2
              go_ret2
              exact ⟨_, rfl, HRV.out, HBF.out⟩
            · have hck' : ¬ c = k := by omega
              clear hck
              -- behind the loop: k is the place
              have hkc : (k : Int) ≤ (c : Int) := by omega
              have hkcn : k ≤ c := by omega
              have hoc : (l.length : Int) ≤ (c : Int) := by omega
              have hkl : (k : Int) ≤ (l.length : Int) := by omega
              have hwz := hBn.size
              have HRr := Lib.hid ((HR1.out.below hBn (Nat.le_refl _)).mono hBn.size)
              have HEr := Lib.hid (HE.out.below hBn hsz)
              have hBr := hB.trans (hBn.mono (Nat.le_of_lt hsz))
              have hwr := hBr.size
              go_wp2_with (refine wpList_one (.inr (by rfl)) (wp_build0_abs 36 24 (by rfl) i0 Try.underlying36 HI.out (wr.drew).heap.size 36 (Nat.le_refl _) ?_))
              intro v0 w3 ov0 g0 lv0
              have HR3 := Lib.hid (HRr.out.below ((Below.refl (wr.drew).heap.size (wr.drew)).grown g0 (Nat.le_refl _) (fun j hj => by cases hj)) (Nat.le_refl _))
              go_wp2_with (at_builtin; refine wpList_append_from (.inr (by rfl)) (.tmp 37) (.tmp 40) 36 (by rfl) (wr.drew).heap.size 24 i0 _ 36 64 Try.underlying36 HI.out hz0 hz1 hz2 (by simp [encX, Value.cells, encE_len]) (by decide) _ 0 [] (by rfl) ov0 _ _ _ (by rfl) (fun h => by cases h) (ecs (l.take k)) (by rw [rcs_len encE_len, List.length_take]; omega) (rows_news encE_len (by decide) (HR3.out.take k)) (rcs_one encE_one _) (by unfold maxLen; omega) (by omega) g0.size ?_)
              intro v1 w4 ov1 g1 _
              have hB3 := hBr.grown g0 hwr (fun j hj => by cases hj)
              have hB4 := hB3.grown g1 hB3.size (fun j hj => Nat.le_trans hwr (lv0 j hj))
              have hBE4 : Below (wr.drew).heap.size (wr.drew) w4 := ((Below.refl (wr.drew).heap.size (wr.drew)).grown g0 (Nat.le_refl _) (fun j hj => by cases hj)).grown g1 g0.size (fun j hj => lv0 j hj)
              have HE4 := Lib.hid (HEr.out.below hBE4 (Nat.lt_of_lt_of_le hsz hwz))
              have HR4 := Lib.hid (HRr.out.below hBE4 (Nat.le_refl _))
              have hs4 := hBE4.size
              clear g0 g1 ov0 lv0
              go_wp2_with (first
                | (refine wpList_load_abs (by rfl) 24 (.tmp 3) (by rfl) w.heap.size (by rfl) _ _ _ _ HE4.out Try.underlying24 rfl HSX.out ?_)
                | (refine wpList_build1 (by rfl) 36 24 (.tmp 43) (by rfl) (encE x) (by rfl) i0 _ Try.underlying36 HI.out hz0 (by rw [hz1, encE_len]) (by rw [encE_len]; omega) (by rw [encE_len]; omega) ?_)
                | (at_builtin; refine wpList_append_own_at _ rfl (.tmp 42) (.tmp 44) 36 (by rfl) (wr.drew).heap.size 24 i0 _ 36 64 Try.underlying36 HI.out hz0 hz1 hz2 (by simp [encX, Value.cells, encE_len]) (by decide) _ _ _ (by rfl) (ov1.alloc _) ⟨w4.heap.size, 0, none⟩ 1 1 (encE x) (by rfl) (by rw [encE_len]) (news_of_block0 (heap_alloc_new w4 _)) (encE_one x) (by unfold maxLen; omega) (by omega) (Nat.le_trans hs4 (by simp)) ?_))
              intro v5 w5 ov5 g5 _ _
              have hob := fun j (hj : v1.ownBlock = some j) => (ov1.lt j hj).1
              have hBE5 : Below (wr.drew).heap.size (wr.drew) w5 := (hBE4.alloc hs4 (.cells (encE x).toArray 24 (0, 0))).grown g5 (Nat.le_trans hs4 (by simp)) (fun j hj => hob j hj)
              have HR5 := Lib.hid (HRr.out.below hBE5 (Nat.le_refl _))
              clear g5 hob ov1 HR4 HE4
              go_wp2_with (at_builtin; refine wpList_append_from (.inr (by rfl)) (.tmp 46) (.tmp 49) 36 (by rfl) (wr.drew).heap.size 24 i0 _ 36 64 Try.underlying36 HI.out hz0 hz1 hz2 (by simp [encX, Value.cells, encE_len]) (by decide) _ _ _ (by rfl) ov5 _ _ _ (by rfl) (fun h => by cases h) (ecs (l.drop k)) (by rw [rcs_len encE_len, List.length_drop] <;> omega) (HDR.out _ _) (rcs_one encE_one _) (by unfold maxLen; omega) (by omega) hBE5.size ?_)
              intro v7 w7 ov7 g7 _
              have hBE7 := hBE5.grown g7 hBE5.size (fun j hj => (ov5.lt j hj).1)
              obtain ⟨nn, xs, hxs, ov8⟩ : ∃ nn xs, xs = ecs (insE x l) ∧ w7.ownsRow (wr.drew).heap.size 24 36 v7 nn xs := ⟨_, _, by rw [HIn.out]; simp [rcs], ov7⟩
              subst hxs
              have HRV := Lib.hid (rows_arg encE_len (by decide) ov8)
              have HBF := Lib.hid (hBr.trans (hBE7.mono hwr))
              clear ov5 ov7 ov8 g7 HIn HRr HEr HR5
              go_wp2
              go_ret2
              exact ⟨_, rfl, HRV.out, HBF.out⟩
    · have hadd : addE l x = (l, 7) := by unfold addE; rw [if_pos hck, hfd]; rfl
      rw [hadd]
      have HCK := Lib.hid hck
      have HIX := Lib.hid hix
      have hi0 : (0 : Int) ≤ (i : Int) := by omega
      clear hadd hfd hix hck hid
      unfold encX
      go_enter Try.func41, Try.ntmps41
      go_wp2_with (refine wpList_load_abs (by rfl) 24 (.tmp 3) (by rfl) w.heap.size (by rfl) _ _ _ _ HE.out Try.underlying24 rfl HSX.out ?_)
      refine (rcheck_any x _).mono ?_
      rintro e w2 ⟨rfl, b2⟩
      clear hw1
      rw [HCK.out]
      have HE2 := Lib.hid (HE.out.below b2 hsz)
      go_wp2_with (refine wpList_load_mid (by rfl) 22 (.tmp 16) (by rfl) w.heap.size 0 (by rfl) (encI x.id) _ HE2.out.idr Try.underlying22 rfl HSI.out ?_)
      refine (find_any l x.id (by omega) _ _ w2 ((HR1.out.below b2 (Nat.le_refl _)).mono b2.size)).mono ?_
      rintro e w2' ⟨rfl, b2'⟩
      rw [HIX.out]
      have b3 := b2.trans (b2'.mono b2.size)
      have HRV := Lib.hid ((HR1.out.below b3 (Nat.le_refl _)).mono b3.size)
      clear b2 b2' HE2
      go_wp2
      go_ret2
      exact ⟨_, rfl, ⟨ao, c, rfl, hlc, hcm, HNN.out, HRV.out⟩, hB.trans (b3.mono (Nat.le_of_lt hsz))⟩
  · have hadd : addE l x = (l, chk x) := by unfold addE; rw [if_neg hck]
    rw [hadd]
    have hckB : (chk x == 0) = false := by simp [hck]
    have hckB' : (chk x != 0) = true := by simp [hck]
    clear hck hadd
    unfold encX
    go_enter Try.func41, Try.ntmps41
    go_wp2_with (refine wpList_load_abs (by rfl) 24 (.tmp 3) (by rfl) w.heap.size (by rfl) _ _ _ _ HE.out Try.underlying24 rfl HSX.out ?_)
    refine (rcheck_any x _).mono ?_
    rintro e w2 ⟨rfl, b2⟩
    clear hw1
    have HRV := Lib.hid ((HR1.out.below b2 (Nat.le_refl _)).mono b2.size)
    go_wp2
    go_ret2
    exact ⟨_, rfl, ⟨ao, c, rfl, hlc, hcm, HNN.out, HRV.out⟩, hB.trans (b2.mono (Nat.le_of_lt hsz))⟩
end Go.Proofs.Ytblidphaolgilaa
