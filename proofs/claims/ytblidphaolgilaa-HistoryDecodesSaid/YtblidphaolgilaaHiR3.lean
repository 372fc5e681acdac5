/- History: the reference's SetGone. -/
import Derived.Test.YtblidphaolgilaaHiR2
import Derived.Test.YtblidphaolgilaaIns
import Derived.Laws.OwnMore
namespace Go.Proofs.Ytblidphaolgilaa
open Go.RowKit Go.Maps
set_option linter.unusedSimpArgs false

theorem infoX : (Try.prog.info? 24).map (fun i => (i.zero, i.size, i.bytes)) = some (some (encX Ent.zero), 36, 64) := by kernel_rfl
theorem rcs_set {α : Type} {enc : α → List Value} {k : Nat} (hk : ∀ x, (enc x).length = k) (y : α) (j : Nat) (v : Value) (hj : j < k) : ∀ (l : List α) (i : Nat) (h : i < l.length), enc y = (enc l[i]).set j v → (rcs enc l).set (i * k + j) v = rcs enc (l.set i y)
  | [], _, h, _ => by simp at h
  | a :: l, 0, _, hy => by
    simp only [rcs, List.flatMap_cons, List.set_cons_zero, Nat.zero_mul, Nat.zero_add]
    rw [List.set_append_left _ _ (by rw [hk]; exact hj), hy]; rfl
  | a :: l, i + 1, h, hy => by
    have ih := rcs_set hk y j v hj l i (by simpa using h) hy
    simp only [rcs, List.flatMap_cons, List.set_cons_succ] at *
    have e : (i + 1) * k + j = (enc a).length + (i * k + j) := by rw [hk, Nat.succ_mul]; omega
    rw [e, List.set_append_right _ _ (by omega), Nat.add_sub_cancel_left, ih]
theorem encE_setSt (y : Ent) (s : I64) : encE { y with st := s } = (encE y).set 34 (.int .i64 s.1) := by
  simp [encE, List.set_append, encI_len]
theorem map_gone_set {l : List Ent} (hs : SE l) (i : Nat) (h : i < l.length) : l.map (gone1 l[i].id) = l.set i { l[i] with st := ⟨1, by decide⟩ } := by
  apply List.ext_getElem (by simp)
  intro j h1 h2
  simp only [List.length_map] at h1
  rw [List.getElem_map, List.getElem_set]
  by_cases e : i = j
  · subst e; simp [gone1]
  · rw [if_neg e]
    have hne : l[j].id ≠ l[i].id := fun hid => by
      have e1 := hs.fnd (List.getElem_mem h1)
      have e2 := hs.fnd (List.getElem_mem h)
      rw [hid, e2] at e1
      have hh := Option.some.inj e1
      rcases Nat.lt_or_ge i j with hij | hij
      · have := List.pairwise_iff_getElem.1 hs i j h h1 hij; rw [hid, ltI_irr] at this; cases this
      · have := List.pairwise_iff_getElem.1 hs j i h1 h (by omega); rw [hid, ltI_irr] at this; cases this
    simp [gone1, hne]
set_option maxRecDepth 100000 in
set_option maxHeartbeats 1000000 in
theorem rsetGone_any (l : List Ent) (id : I32) (hs : SE l) (hl : l.length ≤ 1000) (v : Value) (w : World) (hv : RowsArg encE 36 v l w) :
    Calls Try.prog 42 #[v, .agg (encI id).toArray] w fun e w' => ∃ v', e = .returned (.tuple #[v', .int .i64 (goneE l id).2]) ∧ RowsArg encE 36 v' (goneE l id).1 w' ∧ Below w.heap.size w w' := by
  obtain ⟨ao, c, rfl, hlc, hcm, hn, hr⟩ := hv
  have hN := rangeAt_row' (heap_alloc_new w (.cells (encI id).toArray 22 (0, 0)))
  have hB : Below w.heap.size w (w.alloc (.cells (encI id).toArray 22)) := (Below.refl _ w).alloc (Nat.le_refl _) _
  have hsz : w.heap.size < (w.alloc (.cells (encI id).toArray 22)).heap.size := by simp
  obtain ⟨w1, hw1⟩ : ∃ w1, w.alloc (.cells (encI id).toArray 22) = w1 := ⟨_, rfl⟩
  rw [hw1] at hN hB hsz
  have HN := Lib.hid hN
  have hr1 := (hr.below hB (Nat.le_refl _)).mono (Nat.le_of_lt hsz)
  have HF := Lib.hid (find_any l id (by omega) ao c w1 hr1)
  have HSI := Lib.hid (idSize22 id)
  have HR1 := Lib.hid hr1
  have HNN := Lib.hid hn
  clear hN hr hr1 hn
  rcases idxE_cases l id with ⟨hix, hfd⟩ | ⟨i, hi, hix, hfd, hid⟩
  · have hg : goneE l id = (l, 8) := by unfold goneE; rw [hfd]
    rw [hg]
    rw [hix] at HF
    clear hg hfd hix
    go_enter Try.func42, Try.ntmps42
    go_wp2_with (first
      | (refine wpList_load_mid (by rfl) 22 (.tmp 3) (by rfl) w.heap.size 0 (by rfl) (encI id) _ HN.out Try.underlying22 rfl HSI.out ?_)
      | (go_at_call 45; refine HF.out.mono ?_; rintro e w2 ⟨rfl, b2⟩))
    go_ret2
    exact ⟨_, rfl, ⟨ao, c, rfl, hlc, hcm, HNN.out, (HR1.out.below b2 (Nat.le_refl _)).mono b2.size⟩, hB.trans (b2.mono (Nat.le_of_lt hsz))⟩
  · rw [hix] at HF
    have hi0 : (0 : Int) ≤ (i : Int) := by omega
    have hii : (i : Int) < (l.length : Int) := by omega
    obtain ⟨g, o, rfl, hg, hrx⟩ := HR1.out.at hi
    have HRX := Lib.hid hrx
    by_cases hst : l[i].st.1 = 1
    · have hgo : goneE l id = (l, 10) := by unfold goneE; rw [hfd]; exact if_pos hst
      rw [hgo]
      have HST := Lib.hid hst
      clear hgo hfd hix hid hst hrx
      go_enter Try.func42, Try.ntmps42
      go_wp2_with (first
        | (refine wpList_load_mid (by rfl) 22 (.tmp 3) (by rfl) w.heap.size 0 (by rfl) (encI id) _ HN.out Try.underlying22 rfl HSI.out ?_))
      refine HF.out.mono ?_
      rintro e w2 ⟨rfl, b2⟩
      have c34 : w2.cell? ⟨g, o + i * 36 + 34, none⟩ = some (.int .i64 1) := by
        have := (rangeAt_below HRX.out b2 hg) 34 _ (encE_34 l[i])
        rw [HST.out] at this; exact this
      go_wp2
      go_ret2
      exact ⟨_, rfl, ⟨_, c, rfl, hlc, hcm, HNN.out, (HR1.out.below b2 (Nat.le_refl _)).mono b2.size⟩, hB.trans (b2.mono (Nat.le_of_lt hsz))⟩
    · have hgo : goneE l id = (l.map (gone1 id), 0) := by unfold goneE; rw [hfd]; exact if_neg hst
      rw [hgo]
      have HMG := Lib.hid (map_gone_set hs i hi)
      rw [hid] at HMG
      obtain ⟨i0, hif, hz0, hz1, hz2⟩ := info_parts infoX
      have HI := Lib.hid hif
      clear hgo hfd hix hid hrx hif
      go_enter Try.func42, Try.ntmps42
      go_wp2_with (first
        | (refine wpList_load_mid (by rfl) 22 (.tmp 3) (by rfl) w.heap.size 0 (by rfl) (encI id) _ HN.out Try.underlying22 rfl HSI.out ?_))
      refine HF.out.mono ?_
      rintro e w2 ⟨rfl, b2⟩
      have c34 : w2.cell? ⟨g, o + i * 36 + 34, none⟩ = some (.int .i64 l[i].st.1) := (rangeAt_below HRX.out b2 hg) 34 _ (encE_34 l[i])
      have HR2 := Lib.hid ((HR1.out.below b2 (Nat.le_refl _)).mono b2.size)
      have hB2 := hB.trans (b2.mono (Nat.le_of_lt hsz))
      have hws := hB2.size
      go_wp2_with (refine wpList_one (.inr (by rfl)) (wp_build0_abs 36 24 (by rfl) i0 Try.underlying36 HI.out w2.heap.size 36 (Nat.le_refl _) ?_))
      intro v0 w3 ov0 g0 lv0
      clear c34
      have HR3 := Lib.hid (HR2.out.below ((Below.refl w2.heap.size w2).grown g0 (Nat.le_refl _) (fun j hj => by cases hj)) (Nat.le_refl _))
      go_wp2_with (at_builtin; refine wpList_append_from (.inr (by rfl)) (.tmp 21) (.tmp 22) 36 (by rfl) w2.heap.size 24 i0 _ 36 64 Try.underlying36 HI.out hz0 hz1 hz2 (by simp [encX, Value.cells, encE_len]) (by decide) _ 0 [] (by rfl) ov0 _ l.length _ (by rfl) (fun h => by cases h) (ecs l) (by rw [rcs_len encE_len]) (rows_news encE_len (by decide) HR3.out) (rcs_one encE_one l) (by unfold maxLen; omega) (by omega) g0.size ?_)
      intro v1 w4 ov1 g1 _
      obtain ⟨_, a1, c1, rfl, hn1, hc1, hm1, _⟩ := rows_of_owns encE_len (by decide) ov1
      obtain ⟨gb, rfl⟩ : ∃ gb, a1 = some ⟨gb, 0, none⟩ := by
        rcases a1 with _ | ⟨gb, ob, sb⟩
        · have := (hn1 rfl).1; omega
        · obtain ⟨_, _, _, h⟩ := owns_caps ov1
          obtain ⟨h1, h2⟩ := h _ rfl
          simp only at h1 h2
          subst h1 h2
          exact ⟨gb, rfl⟩
      have hlt36 : i * 36 + 34 < l.length * 36 := by omega
      have f34 : w4.frozen? ⟨gb, i * 36 + 34, none⟩ = false := ov1.frozenAt (i * 36 + 34)
      have c34 : w4.cell? ⟨gb, i * 36 + 34, none⟩ = some (.int .i64 l[i].st.1) := by
        rw [ov1.cellAt (i * 36 + 34) hlt36, rcs_at encE_len l i 34 hi (by decide)]; exact encE_34 l[i]
      obtain ⟨os, gs⟩ := ov1.stored (i * 36 + 34) (.int .i64 1)
      have hset := rcs_set encE_len { l[i] with st := (⟨1, by decide⟩ : I64) } 34 (.int .i64 1) (by decide) l i hi (encE_setSt l[i] ⟨1, by decide⟩)
      rw [hset, ← HMG.out] at os
      have hB4 : Below w.heap.size w (w4.setCell ⟨gb, i * 36 + 34, none⟩ (.int .i64 1)) := by
        have e3 := hB2.grown g0 hws (fun j hj => by cases hj)
        have e4 := e3.grown g1 e3.size (fun j hj => Nat.le_trans hws (lv0 j hj))
        exact e4.grown gs e4.size (fun j hj => by cases hj; exact Nat.le_trans hws (ov1.lt gb rfl).1)
      obtain ⟨w5, hw5⟩ : ∃ w5, w4.setCell ⟨gb, i * 36 + 34, none⟩ (.int .i64 1) = w5 := ⟨_, rfl⟩
      rw [hw5] at os hB4
      have hos : w5.ownsRow w2.heap.size 24 36 (.slice (some ⟨gb, 0, none⟩) l.length c1) l.length (ecs (l.map (gone1 id))) := os
      obtain ⟨_, a5, c5, hv5, _, _, _, hr5⟩ := rows_of_owns encE_len (by decide) hos
      cases hv5
      have HR5 := Lib.hid hr5
      have HB4 := Lib.hid hB4
      clear hn1 hset os hos hr5 hB4 gs ov1 ov0 g0 g1 lv0 HMG
      go_wp2
      go_ret2
      exact ⟨_, rfl, ⟨some ⟨gb, 0, none⟩, c1, (by rw [List.length_map]; rfl), (by rw [List.length_map]; exact hc1), hm1, (fun h => by cases h), HR5.out⟩, HB4.out⟩
end Go.Proofs.Ytblidphaolgilaa
