/- History: Forget. -/
import Derived.Test.YtblidphaolgilaaHiF
import Derived.RegionTactic
import Derived.ChangeAlike
namespace Go.Proofs.Ytblidphaolgilaa
open Go.RowKit Go.Shelf Go.Lib Go.Sort Go.Maps
set_option linter.unusedSimpArgs false

/-- the rows without those of the identities of some others -/
def without (l g : List Ent) : List Ent := l.filter fun y => g.all fun z => decide (z.id ≠ y.id)
theorem without_nil (l : List Ent) : without l [] = l := by unfold without; exact List.filter_eq_self.2 (fun _ _ => rfl)
theorem without_SE {l : List Ent} (h : SE l) (g : List Ent) : SE (without l g) := h.filter _
theorem without_fnd {l : List Ent} (h : SE l) (g : List Ent) (x : Ent) (i : I32) : fnd (without l (g ++ [x])) i = if i = x.id then none else fnd (without l g) i := by
  unfold without
  rw [fnd_filter h, fnd_filter h]
  cases hf : fnd l i with
  | none => simp
  | some y =>
    obtain ⟨_, rfl⟩ := fnd_mem hf
    by_cases e : y.id = x.id
    · rw [if_pos e]; simp [Option.filter, e]
    · rw [if_neg e]
      have e' : x.id ≠ y.id := fun h => e h.symm
      simp [Option.filter, List.all_append, e']
theorem without_len {l : List Ent} (h : SE l) (g : List Ent) (x : Ent) (hx : fnd (without l g) x.id = some x) : (without l (g ++ [x])).length + 1 = (without l g).length := by
  have hp := filter_split (without_SE h g) (fnd_mem hx).1 (fun y => decide (x.id ≠ y.id)) (fun _ => true) (by simp) rfl (fun y _ hn => by simp; exact fun e => hn e.symm)
  have e1 : (without l g).filter (fun _ => true) = without l g := List.filter_eq_self.2 (fun _ _ => rfl)
  have e2 : (without l g).filter (fun y => decide (x.id ≠ y.id)) = without l (g ++ [x]) := by
    unfold without
    rw [List.filter_filter]
    apply List.filter_congr
    intro y _
    simp [List.all_append, Bool.and_comm]
  rw [e1, e2] at hp
  have := hp.length_eq
  simp at this; omega
theorem without_all {l : List Ent} (h : SE l) (now : Int) : without l (l.filter (goesE now)) = l.filter fun x => !goesE now x := by
  unfold without
  apply List.filter_congr
  intro y hy
  rw [Bool.eq_iff_iff]
  simp only [List.all_eq_true, List.mem_filter, decide_eq_true_eq, Bool.not_eq_true']
  constructor
  · intro hz
    cases hg : goesE now y
    · rfl
    · exact absurd rfl (hz y ⟨hy, hg⟩)
  · rintro hg z ⟨hz, hgz⟩ e
    have h1 := h.fnd hz
    rw [e, h.fnd hy] at h1
    cases h1
    rw [hg] at hgz; cases hgz
theorem nth_fnd {l : List Ent} (h : SE l) {g : List Ent} (hg : SE g) (hsub : ∀ x ∈ g, x ∈ l) (i : Nat) (hi : i < g.length) : fnd (without l (g.take i)) g[i].id = some g[i] := by
  unfold without
  rw [fnd_filter h, h.fnd (hsub _ (List.getElem_mem hi))]
  have : ((g.take i).all fun z => decide (z.id ≠ g[i].id)) = true := by
    rw [List.all_eq_true]
    intro z hz
    obtain ⟨j, hj, rfl⟩ := List.getElem_of_mem hz
    simp only [List.length_take] at hj
    rw [List.getElem_take]
    have := List.pairwise_iff_getElem.1 hg j i (by omega) hi (by omega)
    simp only [decide_eq_true_eq]
    intro e
    rw [e, ltI_irr] at this; cases this
  simp only [Option.filter, this, if_true]
def cutAfter (cut now : Int) (i : Nat) : Int := if i = 0 then cut else max cut now
theorem infoId : (Try.prog.info? 27).map (fun i => (i.zero, i.size, i.bytes)) = some (some (.agg (Array.replicate 32 (.int .u8 0))), 32, 32) := by kernel_rfl

set_option maxRecDepth 100000 in
set_option maxHeartbeats 2000000 in
theorem forget_any (now : Int) (hb mb : Nat) (l : List Ent) (cut : Int) (hl : l.length ≤ 1000) (w : World) (h : HistAt w hb mb l cut) :
    Calls Try.prog 21 #[.pointer (some ⟨hb, 0, none⟩), .int .i64 now] w fun e w' => ∃ v, e = .returned v ∧ w'.ownsRow w.heap.size 27 32 v (forgO l now).length (idcs (forgO l now)) ∧
      HistAt w' hb mb (forgR l now) (forgC l cut now) ∧ But (Two hb mb) w w' := by
  have hbl := h.lt
  have hml := h.map.lt
  have hne := h.ne
  cases hmn : minB now with
  | false =>
    have e1 : forgO l now = [] := by unfold forgO; rw [hmn]; rfl
    have e2 : forgR l now = l := by unfold forgR; rw [hmn]; rfl
    have e3 : forgC l cut now = cut := by unfold forgC; rw [e1]; rfl
    rw [e1, e2, e3]
    have hB : Below w.heap.size w (w.alloc (.cells #[.int .i64 now] 3)) := (Below.refl _ w).alloc (Nat.le_refl _) _
    have HH := Lib.hid (h.kept hB)
    clear h e1 e2 e3
    go_enter Try.func21, Try.ntmps21
    go_wp2_with (first | (go_at_call 39; refine (minute_any _ _).mono ?_; rintro e w' ⟨rfl, rfl⟩; rw [hmn]))
    go_ret
    exact ⟨_, rfl, World.ownsRow_nil _ _ _ _, HH.out, But.of_below hB⟩
  | true =>
    obtain ⟨hn0, hn1⟩ : 0 ≤ now ∧ now ≤ 105190559 := by unfold minB at hmn; simpa using hmn
    obtain ⟨g, hg⟩ : ∃ g, l.filter (goesE now) = g := ⟨_, rfl⟩
    have e1 : forgO l now = g.map (·.id) := by unfold forgO; rw [hmn, hg]; rfl
    have e2 : forgR l now = without l g := by unfold forgR; rw [hmn, ← hg, without_all h.asc]; rfl
    have e3 : forgC l cut now = cutAfter cut now g.length := by
      unfold forgC cutAfter; rw [e1]
      cases g <;> simp
    rw [e1, e2, e3]
    have HSEl := Lib.hid h.asc
    have hgse : SE g := by rw [← hg]; exact h.asc.filter _
    have hgsub : ∀ x ∈ g, x ∈ l := fun x hx => by rw [← hg] at hx; exact (List.mem_filter.1 hx).1
    have hgl : g.length ≤ 1000 := by rw [← hg]; exact Nat.le_trans (List.length_filter_le _ _) hl
    have hc0 := h.c0
    have hc1 := h.c1
    obtain ⟨i0, hi, hz0, hz1, hz2⟩ := info_parts infoId
    have HI := Lib.hid hi
    have hB : Below w.heap.size w (w.alloc (.cells #[.int .i64 now] 3)) := (Below.refl _ w).alloc (Nat.le_refl _) _
    have hbox := heap_alloc_new w (.cells #[.int .i64 now] 3 (0, 0))
    have hs1 : (w.alloc (.cells #[.int .i64 now] 3)).heap.size = w.heap.size + 1 := by simp
    obtain ⟨w1, hw1⟩ : ∃ w1, w.alloc (.cells #[.int .i64 now] 3) = w1 := ⟨_, rfl⟩
    rw [hw1] at hB hbox hs1
    have cb := cell_of_row _ _ 0 _ _ _ hbox
    have h1 := h.kept hB
    have HSo := Lib.hid (sorted_any 48 49 #[.pointer (some ⟨w.heap.size, 0, none⟩)] (goesE now) cfE swoE hb mb l cut hl w1 h1 enters48
      (fun x W b => goes_any x now hn0 hn1 w.heap.size W (by rw [b.cell (p := ⟨w.heap.size, 0, none⟩) (by show w.heap.size < w1.heap.size; omega)]; exact cb) (by have := b.size; omega)) enters49 (fun x y W => byId_grow x y W))
    have HH := Lib.hid h1
    have HG := Lib.hid hg
    have HGS := Lib.hid hgse
    have HGsub := Lib.hid hgsub
    have HBOX := Lib.hid hbox
    clear h h1 hi e1 e2 e3 hg hgse hgsub hbox
    go_enter Try.func21, Try.ntmps21
    go_wp2_with (first | (go_at_call 39; refine (minute_any _ _).mono ?_; rintro e w' ⟨rfl, rfl⟩; rw [hmn]))
    refine HSo.out.mono ?_
    rintro e w2 ⟨v, l', rfl, hp', ho', hr2, b2⟩
    rw [HG.out] at hp'
    obtain rfl := srt_uniq HGS.out hp' ho'
    obtain ⟨_, a2, cap2, rfl, hn2, hcap2, hcm2, _⟩ := rows_of_owns encE_len (by decide) hr2
    have HRow := Lib.hid (rows_of_owns_hi encE_len (by decide) hr2)
    have hH2 := HH.out.kept b2
    have hb2 := b2.size
    have hBX2 := heap_below b2 (by omega) HBOX.out
    have hBut2 : But (Two hb mb) w w2 := (But.of_below hB).trans (But.of_below b2)
    have HH2 := Lib.hid hH2
    have HBX2 := Lib.hid hBX2
    have HWN := Lib.hid (without_nil l)
    clear hp' ho' hr2 b2 hH2 hBX2 hw1 cb hn2 HSo HG HH HBOX
    go_wp2_with fail
    go_loopw [5, 15] (fun ov iv wr => ∃ (i : Nat), i ≤ l'.length ∧ iv = .int .i64 (i : Int) ∧ wr.ownsRow w2.heap.size 27 32 ov i (idcs ((l'.take i).map (·.id))) ∧ Hid (HistAt wr hb mb (without l (l'.take i)) (cutAfter cut now i)) ∧ But (Two hb mb) w2 wr)
      (fun _ iv _ => (l'.length - intOf iv).toNat)
    case atStart => exact ⟨0, Nat.zero_le _, rfl, World.ownsRow_nil _ _ _ _, Lib.hid (by rw [List.take_zero, HWN.out]; exact HH2.out), But.refl _ _⟩
    case round =>
      obtain ⟨i, hil, rfl, hov, HHi, hBr⟩ := hrel
      by_cases hlt : i < l'.length
      · have hlti : (i : Int) < (l'.length : Int) := by omega
        have hi0 : (0 : Int) ≤ (i : Int) := by omega
        obtain ⟨ga, oa, rfl, hga1, hga2, hra⟩ := HRow.out i hlt
        have hsr := hBr.size
        have HRA := Lib.hid (hBr.range hga2 (fun h => by rcases h with h | h <;> omega) hra)
        have HFN := Lib.hid (nth_fnd HSEl.out HGS.out HGsub.out i hlt)
        have HTK : Hid (l'.take (i + 1) = l'.take i ++ [l'[i]]) := Lib.hid (List.take_succ_eq_append_getElem hlt)
        have HXL := Lib.hid (xLen l'[i])
        have HXS := Lib.hid (xSize l'[i])
        clear hra
        generalize l'[i] = x at *
        go_wp2_with (first
          | (refine wpList_load_mid (by rfl) 29 (.tmp 17) (by rfl) ga (oa + i * 36) (by rfl) (encE x) _ HRA.out Try.underlying29 rfl HXL.out ?_)
          | (refine wpList_store_abs (by rfl) 29 (.tmp 7) (.tmp 18) (by rfl) wr.heap.size (encE x).toArray (by rfl) (by rfl) _ (encE Ent.zero).toArray (heap_alloc_new wr _) HXS.out (by simp [encE_len]) (ent_one x) wr.heap.size wr ((Below.refl _ _).alloc (Nat.le_refl _) _) (Nat.le_refl _) ?_))
        intro w3 H3 b3 O3
        -- region 7: delete
        have hH3 := HHi.out.kept b3
        have hB3 := hBr.trans (But.of_below b3)
        have hov3 := owns_keep hov (grown_of_below b3) (fun j hj => by cases hj)
        have hbx3 := hB3.heap HBX2.out (fun h => by rcases h with h | h <;> omega)
        have hs3 := b3.size
        have hwr3 : wr.heap.size < w3.heap.size := (Array.getElem?_eq_some_iff.1 H3.out).1
        have hne3 : wr.heap.size ≠ mb := by omega
        have HC3 : Hid (∀ w', But (fun k => k = mb) w3 w' → w'.cell? ⟨hb, 0, none⟩ = some (.map (some mb))) := Lib.hid (fun w' b => by rw [cell_of_row _ _ _ _ _ _ (b.heap hH3.blk hne)]; rfl)
        have HR3 : Hid (∀ w', But (fun k => k = mb) w3 w' → w'.rangeAt wr.heap.size 0 (encI x.id)) := Lib.hid (fun w' b => EntAt.idr (b.heap H3.out hne3))
        have HSI := Lib.hid (idSize29 x.id)
        obtain ⟨w4, hrun, hg4, hm4⟩ := MapAt.drop (w := w3.drew) (hH3.map.of_heap rfl) x.id 0
        have HRUN := Lib.hid hrun
        have b4 : But (fun k => k = mb) w3 w4 := (But.refl _ w3).drew.trans (But.grown hg4 (fun k hk => (Option.some.inj hk).symm))
        have HM4 := Lib.hid (hm4 (without l (l'.take (i + 1))) (fun j => by rw [HTK.out]; exact without_fnd HSEl.out _ x j) (by rw [HTK.out, HFN.out]; exact without_len HSEl.out _ x HFN.out))
        have hov4 := owns_keep hov3.drew hg4 (fun j hj => by cases hj; omega)
        have HH3 := Lib.hid hH3
        clear hrun hm4 hg4 hov hov3 hH3 b3 O3 HRA hBr
        go_wp2_with fail
        refine wp_region_noPanic ?_
        refine wp_region_held_drew (S := fun w' => But (fun k => k = mb) w3 w') (by kernel_rfl) ((But.refl _ w3).drew) (fun hHeld => ?_)
        refine takeL 0 (v := ?_) rfl (by kernel_rfl) (by kernel_rfl) (by kernel_rfl) (fun _ _ _ h => h) (by rfl) hHeld ?_ ?_
        rotate_left 1
        · intro w2 hSw; go_simp <;> with_reducible rfl
        try simp only [Act.put, List.setIfInBounds_toArray, List.set_cons_zero, List.set_cons_succ]
        refine takeL 1 (v := ?_) rfl (by kernel_rfl) (by kernel_rfl) (by kernel_rfl) (fun _ _ _ h => h) (by rfl) hHeld ?_ ?_
        rotate_left 1
        · intro w2 hSw; go_simp <;> with_reducible rfl
        try simp only [Act.put, List.setIfInBounds_toArray, List.set_cons_zero, List.set_cons_succ]
        refine takeL 2 (v := ?_) rfl (by kernel_rfl) (by kernel_rfl) (by kernel_rfl) (fun _ _ _ h => h) (by rfl) hHeld ?_ ?_
        rotate_left 1
        · intro w2 hSw; go_simp <;> with_reducible rfl
        try simp only [Act.put, List.setIfInBounds_toArray, List.set_cons_zero, List.set_cons_succ]
        refine takeL 3 (v := ?_) rfl (by kernel_rfl) (by kernel_rfl) (by kernel_rfl) (fun _ _ _ h => h) (by rfl) hHeld ?_ ?_
        rotate_left 1
        · intro w2 hSw; have q0 := HC3.out w2 hSw; go_simp <;> with_reducible rfl
        try simp only [Act.put, List.setIfInBounds_toArray, List.set_cons_zero, List.set_cons_succ]
        refine takeL 4 (v := ?_) rfl (by kernel_rfl) (by kernel_rfl) (by kernel_rfl) (fun _ _ _ h => h) (by rfl) hHeld ?_ ?_
        rotate_left 1
        · intro w2 hSw; go_simp <;> with_reducible rfl
        try simp only [Act.put, List.setIfInBounds_toArray, List.set_cons_zero, List.set_cons_succ]
        refine takeRow 5 rfl (by kernel_rfl) (by kernel_rfl) (by kernel_rfl) 27 (.tmp 23) rfl (wr.heap.size) (0) rfl (encI x.id) _ (fun _ _ _ h => h) (by rfl) hHeld HR3.out Try.underlying27 rfl HSI.out ?_
        try simp only [Act.put, List.setIfInBounds_toArray, List.set_cons_zero, List.set_cons_succ]
        refine heavyL 6 rfl (by kernel_rfl) (fun K hK => ?_)
        have hrun := HRUN.out
        go_simp
        refine hK.out _ _ (b4) (fun hHeld => ?_)
        clear hK K
        try simp only [Act.put, List.setIfInBounds_toArray, List.set_cons_zero, List.set_cons_succ]
        refine wpAnyH_done (by kernel_rfl) ?_ _
        refine NoPanic.normal ?_
        -- region 8: the identity is appended
        have hBr4 : But (Two hb mb) w2 w4 := hB3.trans (b4.mono (fun k _ e => .inr e))
        have HE4 := Lib.hid (b4.heap H3.out hne3)
        have hbx4 := b4.heap hbx3 (by omega)
        have hblk4 := b4.heap HH3.out.blk hne
        have hs4 := b4.size
        have hrid := EntAt.idr HE4.out
        have HRI := Lib.hid hrid
        have hkm : i + 1 ≤ maxLen := by unfold maxLen; omega
        have hkb : (i + 1) * 32 ≤ 140737488355328 := by omega
        have HB4 := Lib.hid hblk4
        have HX4 := Lib.hid hbx4
        have HH3a := Lib.hid HH3.out.asc
        clear hrid hblk4 hbx4 hbx3 b4 HC3 HR3 HRUN hHeld
        go_wp2_with (first
          | (refine wpList_load_mid (by rfl) 27 (.tmp 26) (by rfl) wr.heap.size 0 (by rfl) (encI x.id) _ HRI.out Try.underlying27 rfl HSI.out ?_)
          | (refine wpList_build1 (by rfl) 46 27 (.tmp 27) (by rfl) (encI x.id) (by rfl) i0 _ Try.underlying46 HI.out hz0 (by rw [hz1, encI_len]) (by rw [encI_len]; omega) (by rw [encI_len]; omega) ?_)
          | (at_builtin; refine wpList_append_own_at _ rfl _ _ 46 rfl w2.heap.size 27 i0 _ 32 32 Try.underlying46 HI.out hz0 hz1 hz2 (by simp [Value.cells]) (by decide) _ _ _ rfl (hov4.alloc _) ⟨w4.heap.size, 0, none⟩ 1 1 (encI x.id) rfl (by rw [encI_len]) (news_of_block0 (heap_alloc_new w4 _)) (encI_one x.id) hkm hkb (by simp; omega) ?_))
        intro v' wA hA gA _ _
        have hob := fun j (hj : u5.ownBlock = some j) => (hov4.lt j hj).1
        have gAll : But (fun k => u5.ownBlock = some k) w4 wA := (But.of_below ((Below.refl _ w4).alloc (Nat.le_refl _) _)).trans (But.grown gA (fun k hk => hk))
        have hnb : ∀ k, k < w2.heap.size → ¬ u5.ownBlock = some k := fun k hk e => by have := hob k e; omega
        have hblkA := gAll.heap HB4.out (hnb _ (by omega))
        have hbxA := gAll.heap HX4.out (hnb _ (by omega))
        have HMA := Lib.hid (HM4.out.of_heap (gAll.block mb HM4.out.lt (hnb _ (by omega))))
        have hsA := gAll.size
        have hBrA : But (Two hb mb) w2 wA := hBr4.trans' gAll (fun k hk e => absurd e (hnb k hk))
        rw [← idcs_snoc] at hA
        have eA : (l'.take (i + 1)).map (·.id) = List.take i (l'.map (·.id)) ++ [x.id] := by rw [HTK.out, List.map_append, List.map_take]; rfl
        have hA2 : wA.ownsRow w2.heap.size 27 32 v' (i + 1) (idcs ((l'.take (i + 1)).map (·.id))) := by rw [eA]; exact hA
        clear eA
        clear hA gA gAll hob hnb hov4
        have cA1 : wA.cell? ⟨hb, 1, none⟩ = some (.int .i64 (cutAfter cut now i)) := by rw [cell_of_row _ _ _ _ _ _ hblkA]; rfl
        have cAb : wA.cell? ⟨w.heap.size, 0, none⟩ = some (.int .i64 now) := by rw [cell_of_row _ _ _ _ _ _ hbxA]; rfl
        have fA1 : wA.frozen? ⟨hb, 1, none⟩ = false := frozen_of_row _ _ _ _ _ hblkA
        have hcmx : max (cutAfter cut now i) now = cutAfter cut now (i + 1) := by unfold cutAfter; rw [if_neg (by omega : ¬ i + 1 = 0)]; split <;> omega
        have HCM := Lib.hid hcmx
        have HBA := Lib.hid hblkA
        have HA2 := Lib.hid hA2
        have HBrA := Lib.hid hBrA
        have HXA := Lib.hid hbxA
        obtain ⟨cu, hcu⟩ : ∃ cu, cutAfter cut now i = cu := ⟨_, rfl⟩
        rw [hcu] at cA1 HCM HBA
        clear hcmx hblkA hA2 hBrA hbxA hcu HHi HH3 HM4 HB4 HX4 H3 HE4 HRI
        go_wp2_with fail
        go_region
        rw [HCM.out]
        obtain ⟨wF, hwF⟩ : ∃ wF, (wA.setCell ⟨hb, 1, none⟩ (.int .i64 (cutAfter cut now (i + 1)))).drew = wF := ⟨_, rfl⟩
        have hgF : wA.grownBy wF (some hb) := by
          rw [← hwF]
          exact ⟨rfl, rfl, rfl, by simp, fun k hk hn => RowKit.Below.heap_setCell _ _ _ k (fun e => hn (by rw [e]))⟩
        have hblF : wF.heap[hb]? = some (.cells #[.map (some mb), .int .i64 (cutAfter cut now (i + 1))] 86 (0, 0)) := by
          rw [← hwF]
          exact Go.heap_setCell_same _ _ _ _ _ _ HBA.out
        have hHF : HistAt wF hb mb (without l (l'.take (i + 1))) (cutAfter cut now (i + 1)) :=
          ⟨hblF, HMA.out.of_heap (hgF.block mb HMA.out.lt (fun e => hne (Option.some.inj e).symm)), without_SE HSEl.out _, by unfold cutAfter; split <;> omega, by unfold cutAfter; split <;> omega⟩
        have hovF := owns_keep HA2.out hgF (fun j hj => by cases hj; omega)
        have hBrF := HBrA.out.trans (But.grown hgF (fun k hk => .inl (Option.some.inj hk).symm))
        rw [hwF]
        clear hwF hblF hgF cAb fA1 cA1 hrun
        go_wp2
        go_roundw
        case rel => exact ⟨i + 1, by omega, by go_num, hovF, Lib.hid hHF, hBrF⟩
        case measure => simp [intOf]; omega
      · have hlti : ¬ (i : Int) < (l'.length : Int) := by omega
        have hil2 : i = l'.length := by omega
        subst hil2
        have htk : l'.take l'.length = l' := List.take_of_length_le (Nat.le_refl _)
        rw [htk] at hov
        have hHF := HHi.out
        rw [htk] at hHF
        have HHF := Lib.hid hHF
        have hov' := owns_base (base' := w.heap.size) hov (by omega)
        have HOV := Lib.hid hov'
        have HBF := Lib.hid (hBut2.trans hBr)
        clear hov hHF htk HHi HRow hov'
        go_wp2
        go_ret
        exact ⟨_, rfl, HOV.out, HHF.out, HBF.out⟩
end Go.Proofs.Ytblidphaolgilaa
