/- History: the reference's Since. -/
import Derived.Test.YtblidphaolgilaaHiSP
namespace Go.Proofs.Ytblidphaolgilaa
open Go.RowKit Go.Maps Go.Sort
set_option linter.unusedSimpArgs false

set_option maxRecDepth 100000 in
set_option maxHeartbeats 8000000 in
theorem rsince_any (l : List Ent) (m : Int) (hse : SE l) (hl : l.length ≤ 1000) (v : Value) (w : World) (hv : RowsArg encE 36 v l w) :
    Calls Try.prog 26 #[v, .int .i64 m] w fun e w' => ∃ v' out, e = .returned v' ∧ w'.ownsRow w.heap.size 24 36 v' out.length (ecs out) ∧ out.Perm (l.filter fun x => decide (m ≤ x.arr.1)) ∧ OA out ∧ Below w.heap.size w w' := by
  obtain ⟨ao, c, rfl, hlc, hcm, hn, hr⟩ := hv
  have HR := Lib.hid hr
  have HSE := Lib.hid hse
  obtain ⟨i0, hif, hz0, hz1, hz2⟩ := info_parts infoX
  have HI := Lib.hid hif
  clear hr hn hse hif
  go_enter Try.func26, Try.ntmps26
  go_wp2_with fail
  go_loopw [5, 6] (fun ov iv wr => ∃ (i : Nat) (out : List Ent), i ≤ l.length ∧ iv = .int .i64 (i : Int) ∧ wr.ownsRow w.heap.size 24 36 ov out.length (ecs out) ∧ Hid (out.Perm ((l.take i).filter fun x => decide (m ≤ x.arr.1))) ∧ Hid (OA out) ∧ Hid (out = [] → ov = .slice none 0 0) ∧ Below w.heap.size w wr)
    (fun ov iv _ => (l.length - intOf iv).toNat)
  case atStart => exact ⟨0, [], Nat.zero_le _, rfl, World.ownsRow_nil _ _ _ _, Lib.hid (by simp), Lib.hid List.Pairwise.nil, Lib.hid (fun _ => rfl), Below.refl _ _⟩
  case round =>
    obtain ⟨i, out, hil, rfl, hOv, HPm, HOa, HNl, hBo⟩ := hrel
    by_cases hlt : i < l.length
    · have hlti : (i : Int) < (l.length : Int) := by omega
      have hi0 : (0 : Int) ≤ (i : Int) := by omega
      obtain ⟨g, o, rfl, hg, hrx⟩ := HR.out.at hlt
      have hgo : g < wr.heap.size := Nat.lt_of_lt_of_le hg hBo.size
      have hxo := rangeAt_below hrx hBo hg
      have HXO := Lib.hid hxo
      have hc32 : wr.cell? ⟨g, o + i * 36 + 32, none⟩ = some (.int .i64 l[i].arr.1) := hxo 32 _ (encE_32 _)
      have HSX := Lib.hid (rxLen l[i])
      have HTK : Hid (l.take (i + 1) = l.take i ++ [l[i]]) := Lib.hid (List.take_succ_eq_append_getElem hlt)
      have HLES : Hid (∀ y ∈ out, ltOf cfE y l[i] = true) := Lib.hid (fun y hy => by
        have h1 := (List.mem_filter.1 (HPm.out.mem_iff.1 hy)).1
        obtain ⟨j, hj, rfl⟩ := List.getElem_of_mem h1
        rw [List.length_take] at hj
        rw [List.getElem_take]
        exact List.pairwise_iff_getElem.1 HSE.out j i (by omega) hlt (by omega))
      have hol : out.length ≤ 1000 := by
        have h1 := HPm.out.length_eq
        have h2 := List.length_filter_le (fun x : Ent => decide (m ≤ x.arr.1)) (l.take i)
        rw [List.length_take] at h2
        omega
      clear hrx hxo
      generalize l[i] = x at *
      by_cases hlo : x.arr.1 < m
      · have HPm' : Hid (out.Perm ((l.take (i + 1)).filter fun x => decide (m ≤ x.arr.1))) := Lib.hid (by
          rw [HTK.out, List.filter_append]
          have : ¬ m ≤ x.arr.1 := by omega
          simpa [this] using HPm.out)
        have HOv := Lib.hid hOv
        clear HTK HLES HXO hOv
        go_wp2
        go_roundw
        case rel => exact ⟨i + 1, out, by omega, by go_num, HOv.out, HPm', HOa, HNl, hBo⟩
        case measure => simp [intOf]; omega
      · have HPT : Hid (∀ k, k ≤ out.length → (∀ j (hj : j < out.length), k ≤ j → x.arr.1 < out[j].arr.1) → (k = 0 ∨ ∃ h : k - 1 < out.length, out[k - 1].arr.1 ≤ x.arr.1) →
            ((putA out k x).Perm ((l.take (i + 1)).filter fun x => decide (m ≤ x.arr.1)) ∧ OA (putA out k x))) := Lib.hid (fun k hk h1 h2 => by
          refine ⟨?_, putA_oa HOa.out hk h1 h2 HLES.out⟩
          refine (putA_perm out k x).trans ?_
          rw [HTK.out, List.filter_append]
          have h3 : m ≤ x.arr.1 := by omega
          have h4 : ([x].filter fun x => decide (m ≤ x.arr.1)) = [x] := by simp [h3]
          rw [h4]
          exact HPm.out.append_right [x])
        obtain ⟨_, a2, c2, rfl, hn2, hoc2, hcm2, hra2⟩ := rows_of_owns encE_len (by decide) hOv
        have HQ := Lib.hid hra2
        clear HTK HLES HPm HOa hra2 hOv
        go_wp2_with fail
        rename World => wo
        go_loopw [7] (fun av wq => ∃ (k : Nat), k ≤ out.length ∧ av = .int .i64 (k : Int) ∧ Hid (∀ j (hj : j < out.length), k ≤ j → x.arr.1 < out[j].arr.1) ∧ Below wo.heap.size wo wq)
          (fun av _ => (intOf av).toNat)
        case atStart => exact ⟨out.length, Nat.le_refl _, rfl, Lib.hid (fun j h hj => by omega), Below.refl _ _⟩
        case round =>
          obtain ⟨k, hk, rfl, HK, hBk⟩ := hrel
          have hCX : Hid (∀ w', Below wo.heap.size wo w' → w'.cell? ⟨g, o + i * 36 + 32, none⟩ = some (.int .i64 x.arr.1)) := Lib.hid (fun w' b => (b.cell (p := ⟨g, o + i * 36 + 32, none⟩) hgo).trans hc32)
          cases k with
          | zero =>
            go_wp2_with fail
            refine wp_region_noPanic ?_
            refine wp_region_held_drew (S := fun w' => Below wo.heap.size wo w') (by kernel_rfl) (hBk.drew) (fun hHeld => ?_)
            refine takeL 0 (v := ?_) rfl (by kernel_rfl) (by kernel_rfl) (by kernel_rfl) (fun _ _ _ h => h) (by rfl) hHeld ?_ ?_
            rotate_left 1
            · intro w2 hSw; go_simp <;> with_reducible rfl
            try simp only [Act.put, List.setIfInBounds_toArray, List.set_cons_zero, List.set_cons_succ]
            refine takeL 1 (v := ?_) rfl (by kernel_rfl) (by kernel_rfl) (by kernel_rfl) (fun _ _ _ h => h) (by rfl) hHeld ?_ ?_
            rotate_left 1
            · intro w2 hSw; go_simp <;> with_reducible rfl
            try simp only [Act.put, List.setIfInBounds_toArray, List.set_cons_zero, List.set_cons_succ]
            refine takeL 2 (v := ?_) rfl (by kernel_rfl) (by kernel_rfl) (by kernel_rfl) (fun _ _ _ h => h) (by rfl) hHeld ?_ ?_
            rotate_left 1
            · intro w2 hSw; go_simp <;> with_reducible rfl
            try simp only [Act.put, List.setIfInBounds_toArray, List.set_cons_zero, List.set_cons_succ]
            refine skipL 3 rfl (by kernel_rfl) (by kernel_rfl) (by kernel_rfl) (fun _ _ _ h => h) (by rfl) hHeld ?_
            try simp only [Act.put, List.setIfInBounds_toArray, List.set_cons_zero, List.set_cons_succ]
            refine skipL 4 rfl (by kernel_rfl) (by kernel_rfl) (by kernel_rfl) (fun _ _ _ h => h) (by rfl) hHeld ?_
            try simp only [Act.put, List.setIfInBounds_toArray, List.set_cons_zero, List.set_cons_succ]
            refine skipL 5 rfl (by kernel_rfl) (by kernel_rfl) (by kernel_rfl) (fun _ _ _ h => h) (by rfl) hHeld ?_
            try simp only [Act.put, List.setIfInBounds_toArray, List.set_cons_zero, List.set_cons_succ]
            refine skipL 6 rfl (by kernel_rfl) (by kernel_rfl) (by kernel_rfl) (fun _ _ _ h => h) (by rfl) hHeld ?_
            try simp only [Act.put, List.setIfInBounds_toArray, List.set_cons_zero, List.set_cons_succ]
            refine skipL 7 rfl (by kernel_rfl) (by kernel_rfl) (by kernel_rfl) (fun _ _ _ h => h) (by rfl) hHeld ?_
            try simp only [Act.put, List.setIfInBounds_toArray, List.set_cons_zero, List.set_cons_succ]
            refine skipL 8 rfl (by kernel_rfl) (by kernel_rfl) (by kernel_rfl) (fun _ _ _ h => h) (by rfl) hHeld ?_
            try simp only [Act.put, List.setIfInBounds_toArray, List.set_cons_zero, List.set_cons_succ]
            refine skipL 9 rfl (by kernel_rfl) (by kernel_rfl) (by kernel_rfl) (fun _ _ _ h => h) (by rfl) hHeld ?_
            try simp only [Act.put, List.setIfInBounds_toArray, List.set_cons_zero, List.set_cons_succ]
            refine skipL 10 rfl (by kernel_rfl) (by kernel_rfl) (by kernel_rfl) (fun _ _ _ h => h) (by rfl) hHeld ?_
            try simp only [Act.put, List.setIfInBounds_toArray, List.set_cons_zero, List.set_cons_succ]
            refine skipL 11 rfl (by kernel_rfl) (by kernel_rfl) (by kernel_rfl) (fun _ _ _ h => h) (by rfl) hHeld ?_
            try simp only [Act.put, List.setIfInBounds_toArray, List.set_cons_zero, List.set_cons_succ]
            refine skipL 12 rfl (by kernel_rfl) (by kernel_rfl) (by kernel_rfl) (fun _ _ _ h => h) (by rfl) hHeld ?_
            try simp only [Act.put, List.setIfInBounds_toArray, List.set_cons_zero, List.set_cons_succ]
            refine skipL 13 rfl (by kernel_rfl) (by kernel_rfl) (by kernel_rfl) (fun _ _ _ h => h) (by rfl) hHeld ?_
            try simp only [Act.put, List.setIfInBounds_toArray, List.set_cons_zero, List.set_cons_succ]
            refine skipL 14 rfl (by kernel_rfl) (by kernel_rfl) (by kernel_rfl) (fun _ _ _ h => h) (by rfl) hHeld ?_
            try simp only [Act.put, List.setIfInBounds_toArray, List.set_cons_zero, List.set_cons_succ]
            refine takeL 15 (v := ?_) rfl (by kernel_rfl) (by kernel_rfl) (by kernel_rfl) (fun _ _ _ h => h) (by rfl) hHeld ?_ ?_
            rotate_left 1
            · intro w2 hSw; go_simp <;> with_reducible rfl
            try simp only [Act.put, List.setIfInBounds_toArray, List.set_cons_zero, List.set_cons_succ]
            refine wpAnyH_done (by kernel_rfl) ?_ _
            refine NoPanic.normal ?_
            have hBn := hHeld
            clear hHeld hCX hc32
            by_cases hoe : out = []
            · have he := HNl.out hoe
              have ho0 : out.length = 0 := by rw [hoe]; rfl
              simp only [Value.slice.injEq] at he
              obtain ⟨rfl, _, rfl⟩ := he
              clear hoe
              have HDR : Hid (∀ W : World, ∀ A : Option Addr, ∀ ad, A = some ad → ∀ j u, (ecs (out.drop 0))[j]? = some u → W.cell? (ad.add j) = some u) := Lib.hid (fun W A ad _ j u hu => by
                have hdr : out.drop 0 = [] := List.drop_eq_nil_of_le (by omega)
                rw [hdr] at hu; simp [rcs] at hu)
              -- behind the inner loop: k is the place
              have hkcn : 0 ≤ 0 := by omega
              have hkc : (0 : Int) ≤ (0 : Int) := by omega
              have hoc : (out.length : Int) ≤ (0 : Int) := by omega
              have hkl : (0 : Int) ≤ (out.length : Int) := by omega
              have hwz := hBn.size
              have HRr := Lib.hid ((HQ.out.below hBn (Nat.le_refl _)).mono hBn.size)
              have HXr := Lib.hid (rangeAt_below HXO.out hBn hgo)
              have hBr := hBo.trans (hBn.mono hBo.size)
              have hwr := hBr.size
              go_wp2_with (refine wpList_one (.inr (by rfl)) (wp_build0_abs 36 24 (by rfl) i0 Try.underlying36 HI.out (wr.drew).heap.size 36 (Nat.le_refl _) ?_))
              intro v0 w3 ov0 g0 lv0
              have HR3 := Lib.hid (HRr.out.below ((Below.refl (wr.drew).heap.size (wr.drew)).grown g0 (Nat.le_refl _) (fun j hj => by cases hj)) (Nat.le_refl _))
              go_wp2_with (at_builtin; refine wpList_append_from (.inr (by rfl)) (.tmp 42) (.tmp 45) 36 (by rfl) (wr.drew).heap.size 24 i0 _ 36 64 Try.underlying36 HI.out hz0 hz1 hz2 (by simp [encX, Value.cells, encE_len]) (by decide) _ 0 [] (by rfl) ov0 _ _ _ (by rfl) (fun _ => ⟨rfl, rfl⟩) (ecs (out.take 0)) (by rw [rcs_len encE_len, List.length_take]; omega) (rows_news encE_len (by decide) (HR3.out.take 0)) (rcs_one encE_one _) (by unfold maxLen; omega) (by omega) g0.size ?_)
              intro v1 w4 ov1 g1 _
              have hB3 := hBr.grown g0 hwr (fun j hj => by cases hj)
              have hBE4 : Below (wr.drew).heap.size (wr.drew) w4 := ((Below.refl (wr.drew).heap.size (wr.drew)).grown g0 (Nat.le_refl _) (fun j hj => by cases hj)).grown g1 g0.size (fun j hj => lv0 j hj)
              have HX4 := Lib.hid (rangeAt_below HXr.out hBE4 (Nat.lt_of_lt_of_le hgo hwz))
              have hs4 := hBE4.size
              clear g0 g1 ov0 lv0
              go_wp2_with (first
                | (refine wpList_load_mid (by rfl) 24 (.tmp 50) (by rfl) g (o + i * 36) (by rfl) (encE x) _ HX4.out Try.underlying24 rfl HSX.out ?_)
                | (refine wpList_build1 (by rfl) 36 24 (.tmp 51) (by rfl) (encE x) (by rfl) i0 _ Try.underlying36 HI.out hz0 (by rw [hz1, encE_len]) (by rw [encE_len]; omega) (by rw [encE_len]; omega) ?_)
                | (at_builtin; refine wpList_append_own_at _ rfl (.tmp 47) (.tmp 52) 36 (by rfl) (wr.drew).heap.size 24 i0 _ 36 64 Try.underlying36 HI.out hz0 hz1 hz2 (by simp [encX, Value.cells, encE_len]) (by decide) _ _ _ (by rfl) (ov1.alloc _) ⟨w4.heap.size, 0, none⟩ 1 1 (encE x) (by rfl) (by rw [encE_len]) (news_of_block0 (heap_alloc_new w4 _)) (encE_one x) (by unfold maxLen; omega) (by omega) (Nat.le_trans hs4 (by simp)) ?_))
              intro v5 w5 ov5 g5 _ _
              have hob := fun j (hj : v1.ownBlock = some j) => (ov1.lt j hj).1
              have hBE5 : Below (wr.drew).heap.size (wr.drew) w5 := (hBE4.alloc hs4 (.cells (encE x).toArray 24 (0, 0))).grown g5 (Nat.le_trans hs4 (by simp)) (fun j hj => hob j hj)
              have HR5 := Lib.hid (HRr.out.below hBE5 (Nat.le_refl _))
              clear g5 hob ov1 HX4
              go_wp2_with (at_builtin; refine wpList_append_from (.inr (by rfl)) (.tmp 54) (.tmp 57) 36 (by rfl) (wr.drew).heap.size 24 i0 _ 36 64 Try.underlying36 HI.out hz0 hz1 hz2 (by simp [encX, Value.cells, encE_len]) (by decide) _ _ _ (by rfl) ov5 _ _ _ (by rfl) (fun _ => ⟨by omega, by omega⟩) (ecs (out.drop 0)) (by rw [rcs_len encE_len, List.length_drop] <;> omega) (HDR.out _ _) (rcs_one encE_one _) (by unfold maxLen; omega) (by omega) hBE5.size ?_)
              intro v7 w7 ov7 g7 _
              have hBE7 := hBE5.grown g7 hBE5.size (fun j hj => (ov5.lt j hj).1)
              obtain ⟨nn, xs, hxs, ov8⟩ : ∃ nn xs, xs = ecs (putA out 0 x) ∧ w7.ownsRow (wr.drew).heap.size 24 36 v7 nn xs := ⟨_, _, by unfold putA; simp [rcs], ov7⟩
              subst hxs
              have HOV := Lib.hid (owns_base (rows_relen encE_len (by decide) ov8) hwr)
              have HBF := Lib.hid (hBr.trans (hBE7.mono hwr))
              have HPA := Lib.hid (HPT.out 0 (by omega) HK.out (.inl rfl))
              clear ov5 ov7 ov8 g7 HRr HXr HR5
              go_wp2
              go_roundw
              case rel => exact ⟨i + 1, putA out 0 x, by omega, by go_num, HOV.out, Lib.hid HPA.out.1, Lib.hid HPA.out.2, Lib.hid (fun h => absurd h (putA_ne _ _ _)), HBF.out⟩
              case measure => simp [intOf]; omega
            · have hop : 0 < out.length := List.length_pos_iff.2 hoe
              obtain ⟨gb, ob, rfl, _, _⟩ := HQ.out.at hop
              have hck' : ¬ c2 = 0 := by omega
              -- behind the inner loop: k is the place
              have hkcn : 0 ≤ c2 := by omega
              have hkc : (0 : Int) ≤ (c2 : Int) := by omega
              have hoc : (out.length : Int) ≤ (c2 : Int) := by omega
              have hkl : (0 : Int) ≤ (out.length : Int) := by omega
              have hwz := hBn.size
              have HRr := Lib.hid ((HQ.out.below hBn (Nat.le_refl _)).mono hBn.size)
              have HXr := Lib.hid (rangeAt_below HXO.out hBn hgo)
              have hBr := hBo.trans (hBn.mono hBo.size)
              have hwr := hBr.size
              go_wp2_with (refine wpList_one (.inr (by rfl)) (wp_build0_abs 36 24 (by rfl) i0 Try.underlying36 HI.out (wr.drew).heap.size 36 (Nat.le_refl _) ?_))
              intro v0 w3 ov0 g0 lv0
              have HR3 := Lib.hid (HRr.out.below ((Below.refl (wr.drew).heap.size (wr.drew)).grown g0 (Nat.le_refl _) (fun j hj => by cases hj)) (Nat.le_refl _))
              go_wp2_with (at_builtin; refine wpList_append_from (.inr (by rfl)) (.tmp 42) (.tmp 45) 36 (by rfl) (wr.drew).heap.size 24 i0 _ 36 64 Try.underlying36 HI.out hz0 hz1 hz2 (by simp [encX, Value.cells, encE_len]) (by decide) _ 0 [] (by rfl) ov0 _ _ _ (by rfl) (fun h => by cases h) (ecs (out.take 0)) (by rw [rcs_len encE_len, List.length_take]; omega) (rows_news encE_len (by decide) (HR3.out.take 0)) (rcs_one encE_one _) (by unfold maxLen; omega) (by omega) g0.size ?_)
              intro v1 w4 ov1 g1 _
              have hB3 := hBr.grown g0 hwr (fun j hj => by cases hj)
              have hBE4 : Below (wr.drew).heap.size (wr.drew) w4 := ((Below.refl (wr.drew).heap.size (wr.drew)).grown g0 (Nat.le_refl _) (fun j hj => by cases hj)).grown g1 g0.size (fun j hj => lv0 j hj)
              have HX4 := Lib.hid (rangeAt_below HXr.out hBE4 (Nat.lt_of_lt_of_le hgo hwz))
              have hs4 := hBE4.size
              clear g0 g1 ov0 lv0
              go_wp2_with (first
                | (refine wpList_load_mid (by rfl) 24 (.tmp 50) (by rfl) g (o + i * 36) (by rfl) (encE x) _ HX4.out Try.underlying24 rfl HSX.out ?_)
                | (refine wpList_build1 (by rfl) 36 24 (.tmp 51) (by rfl) (encE x) (by rfl) i0 _ Try.underlying36 HI.out hz0 (by rw [hz1, encE_len]) (by rw [encE_len]; omega) (by rw [encE_len]; omega) ?_)
                | (at_builtin; refine wpList_append_own_at _ rfl (.tmp 47) (.tmp 52) 36 (by rfl) (wr.drew).heap.size 24 i0 _ 36 64 Try.underlying36 HI.out hz0 hz1 hz2 (by simp [encX, Value.cells, encE_len]) (by decide) _ _ _ (by rfl) (ov1.alloc _) ⟨w4.heap.size, 0, none⟩ 1 1 (encE x) (by rfl) (by rw [encE_len]) (news_of_block0 (heap_alloc_new w4 _)) (encE_one x) (by unfold maxLen; omega) (by omega) (Nat.le_trans hs4 (by simp)) ?_))
              intro v5 w5 ov5 g5 _ _
              have hob := fun j (hj : v1.ownBlock = some j) => (ov1.lt j hj).1
              have hBE5 : Below (wr.drew).heap.size (wr.drew) w5 := (hBE4.alloc hs4 (.cells (encE x).toArray 24 (0, 0))).grown g5 (Nat.le_trans hs4 (by simp)) (fun j hj => hob j hj)
              have HR5 := Lib.hid (HRr.out.below hBE5 (Nat.le_refl _))
              clear g5 hob ov1 HX4
              go_wp2_with (at_builtin; refine wpList_append_from (.inr (by rfl)) (.tmp 54) (.tmp 57) 36 (by rfl) (wr.drew).heap.size 24 i0 _ 36 64 Try.underlying36 HI.out hz0 hz1 hz2 (by simp [encX, Value.cells, encE_len]) (by decide) _ _ _ (by rfl) ov5 _ _ _ (by rfl) (fun h => by cases h) (ecs (out.drop 0)) (by rw [rcs_len encE_len, List.length_drop] <;> omega) (rows_news encE_len (by decide) (HR5.out.drop 0)) (rcs_one encE_one _) (by unfold maxLen; omega) (by omega) hBE5.size ?_)
              intro v7 w7 ov7 g7 _
              have hBE7 := hBE5.grown g7 hBE5.size (fun j hj => (ov5.lt j hj).1)
              obtain ⟨nn, xs, hxs, ov8⟩ : ∃ nn xs, xs = ecs (putA out 0 x) ∧ w7.ownsRow (wr.drew).heap.size 24 36 v7 nn xs := ⟨_, _, by unfold putA; simp [rcs], ov7⟩
              subst hxs
              have HOV := Lib.hid (owns_base (rows_relen encE_len (by decide) ov8) hwr)
              have HBF := Lib.hid (hBr.trans (hBE7.mono hwr))
              have HPA := Lib.hid (HPT.out 0 (by omega) HK.out (.inl rfl))
              clear ov5 ov7 ov8 g7 HRr HXr HR5
              go_wp2
              go_roundw
              case rel => exact ⟨i + 1, putA out 0 x, by omega, by go_num, HOV.out, Lib.hid HPA.out.1, Lib.hid HPA.out.2, Lib.hid (fun h => absurd h (putA_ne _ _ _)), HBF.out⟩
              case measure => simp [intOf]; omega
          | succ k =>
            have hkl' : k < out.length := by omega
            have hkl2 : (k : Int) < (out.length : Int) := by omega
            have hk0 : (0 : Int) ≤ (k : Int) := by omega
            obtain ⟨gb, ob, rfl, hgb, hrb⟩ := HQ.out.at hkl'
            have hCO : Hid (∀ w', Below wo.heap.size wo w' → w'.cell? ⟨gb, ob + k * 36 + 32, none⟩ = some (.int .i64 out[k].arr.1)) := Lib.hid (fun w' b => (b.cell (p := ⟨gb, ob + k * 36 + 32, none⟩) hgb).trans (hrb 32 _ (encE_32 _)))
            have hkp : (0 : Int) < (k : Int) + 1 := by omega
            have hkw : IntKind.i64.wrap (k : Int) = (k : Int) := IntWalk.i64_in _ (by omega)
            clear hrb
            by_cases hgt : x.arr.1 < out[k].arr.1
            · have HK' : Hid (∀ j (hj : j < out.length), k ≤ j → x.arr.1 < out[j].arr.1) := Lib.hid (fun j hj hkj => by
                by_cases e : j = k
                · subst e; exact hgt
                · exact HK.out j hj (by omega))
              go_wp2_with fail
              refine wp_region_noPanic ?_
              refine wp_region_held_drew (S := fun w' => Below wo.heap.size wo w') (by kernel_rfl) (hBk.drew) (fun hHeld => ?_)
              refine takeL 0 (v := ?_) rfl (by kernel_rfl) (by kernel_rfl) (by kernel_rfl) (fun _ _ _ h => h) (by rfl) hHeld ?_ ?_
              rotate_left 1
              · intro w2 hSw; have q0 := hCX.out w2 hSw; have q1 := hCO.out w2 hSw; go_simp <;> with_reducible rfl
              try simp only [Act.put, List.setIfInBounds_toArray, List.set_cons_zero, List.set_cons_succ]
              refine takeL 1 (v := ?_) rfl (by kernel_rfl) (by kernel_rfl) (by kernel_rfl) (fun _ _ _ h => h) (by rfl) hHeld ?_ ?_
              rotate_left 1
              · intro w2 hSw; have q0 := hCX.out w2 hSw; have q1 := hCO.out w2 hSw; go_simp <;> with_reducible rfl
              try simp only [Act.put, List.setIfInBounds_toArray, List.set_cons_zero, List.set_cons_succ]
              refine takeL 2 (v := ?_) rfl (by kernel_rfl) (by kernel_rfl) (by kernel_rfl) (fun _ _ _ h => h) (by rfl) hHeld ?_ ?_
              rotate_left 1
              · intro w2 hSw; have q0 := hCX.out w2 hSw; have q1 := hCO.out w2 hSw; go_simp <;> with_reducible rfl
              try simp only [Act.put, List.setIfInBounds_toArray, List.set_cons_zero, List.set_cons_succ]
              refine takeL 3 (v := ?_) rfl (by kernel_rfl) (by kernel_rfl) (by kernel_rfl) (fun _ _ _ h => h) (by rfl) hHeld ?_ ?_
              rotate_left 1
              · intro w2 hSw; have q0 := hCX.out w2 hSw; have q1 := hCO.out w2 hSw; go_simp <;> with_reducible rfl
              try simp only [Act.put, List.setIfInBounds_toArray, List.set_cons_zero, List.set_cons_succ]
              refine takeL 4 (v := ?_) rfl (by kernel_rfl) (by kernel_rfl) (by kernel_rfl) (fun _ _ _ h => h) (by rfl) hHeld ?_ ?_
              rotate_left 1
              · intro w2 hSw; have q0 := hCX.out w2 hSw; have q1 := hCO.out w2 hSw; go_simp <;> with_reducible rfl
              try simp only [Act.put, List.setIfInBounds_toArray, List.set_cons_zero, List.set_cons_succ]
              refine takeL 5 (v := ?_) rfl (by kernel_rfl) (by kernel_rfl) (by kernel_rfl) (fun _ _ _ h => h) (by rfl) hHeld ?_ ?_
              rotate_left 1
              · intro w2 hSw; have q0 := hCX.out w2 hSw; have q1 := hCO.out w2 hSw; go_simp <;> with_reducible rfl
              try simp only [Act.put, List.setIfInBounds_toArray, List.set_cons_zero, List.set_cons_succ]
              refine takeL 6 (v := ?_) rfl (by kernel_rfl) (by kernel_rfl) (by kernel_rfl) (fun _ _ _ h => h) (by rfl) hHeld ?_ ?_
              rotate_left 1
              · intro w2 hSw; have q0 := hCX.out w2 hSw; have q1 := hCO.out w2 hSw; go_simp <;> with_reducible rfl
              try simp only [Act.put, List.setIfInBounds_toArray, List.set_cons_zero, List.set_cons_succ]
              refine takeL 7 (v := ?_) rfl (by kernel_rfl) (by kernel_rfl) (by kernel_rfl) (fun _ _ _ h => h) (by rfl) hHeld ?_ ?_
              rotate_left 1
              · intro w2 hSw; have q0 := hCX.out w2 hSw; have q1 := hCO.out w2 hSw; go_simp <;> with_reducible rfl
              try simp only [Act.put, List.setIfInBounds_toArray, List.set_cons_zero, List.set_cons_succ]
              refine takeL 8 (v := ?_) rfl (by kernel_rfl) (by kernel_rfl) (by kernel_rfl) (fun _ _ _ h => h) (by rfl) hHeld ?_ ?_
              rotate_left 1
              · intro w2 hSw; have q0 := hCX.out w2 hSw; have q1 := hCO.out w2 hSw; go_simp <;> with_reducible rfl
              try simp only [Act.put, List.setIfInBounds_toArray, List.set_cons_zero, List.set_cons_succ]
              refine takeL 9 (v := ?_) rfl (by kernel_rfl) (by kernel_rfl) (by kernel_rfl) (fun _ _ _ h => h) (by rfl) hHeld ?_ ?_
              rotate_left 1
              · intro w2 hSw; have q0 := hCX.out w2 hSw; have q1 := hCO.out w2 hSw; go_simp <;> with_reducible rfl
              try simp only [Act.put, List.setIfInBounds_toArray, List.set_cons_zero, List.set_cons_succ]
              refine takeL 10 (v := ?_) rfl (by kernel_rfl) (by kernel_rfl) (by kernel_rfl) (fun _ _ _ h => h) (by rfl) hHeld ?_ ?_
              rotate_left 1
              · intro w2 hSw; have q0 := hCX.out w2 hSw; have q1 := hCO.out w2 hSw; go_simp <;> with_reducible rfl
              try simp only [Act.put, List.setIfInBounds_toArray, List.set_cons_zero, List.set_cons_succ]
              refine takeL 11 (v := ?_) rfl (by kernel_rfl) (by kernel_rfl) (by kernel_rfl) (fun _ _ _ h => h) (by rfl) hHeld ?_ ?_
              rotate_left 1
              · intro w2 hSw; have q0 := hCX.out w2 hSw; have q1 := hCO.out w2 hSw; go_simp <;> with_reducible rfl
              try simp only [Act.put, List.setIfInBounds_toArray, List.set_cons_zero, List.set_cons_succ]
              refine takeL 12 (v := ?_) rfl (by kernel_rfl) (by kernel_rfl) (by kernel_rfl) (fun _ _ _ h => h) (by rfl) hHeld ?_ ?_
              rotate_left 1
              · intro w2 hSw; have q0 := hCX.out w2 hSw; have q1 := hCO.out w2 hSw; go_simp <;> with_reducible rfl
              try simp only [Act.put, List.setIfInBounds_toArray, List.set_cons_zero, List.set_cons_succ]
              refine takeL 13 (v := ?_) rfl (by kernel_rfl) (by kernel_rfl) (by kernel_rfl) (fun _ _ _ h => h) (by rfl) hHeld ?_ ?_
              rotate_left 1
              · intro w2 hSw; have q0 := hCX.out w2 hSw; have q1 := hCO.out w2 hSw; go_simp <;> with_reducible rfl
              try simp only [Act.put, List.setIfInBounds_toArray, List.set_cons_zero, List.set_cons_succ]
              refine takeL 14 (v := ?_) rfl (by kernel_rfl) (by kernel_rfl) (by kernel_rfl) (fun _ _ _ h => h) (by rfl) hHeld ?_ ?_
              rotate_left 1
              · intro w2 hSw; have q0 := hCX.out w2 hSw; have q1 := hCO.out w2 hSw; go_simp <;> with_reducible rfl
              try simp only [Act.put, List.setIfInBounds_toArray, List.set_cons_zero, List.set_cons_succ]
              refine takeL 15 (v := ?_) rfl (by kernel_rfl) (by kernel_rfl) (by kernel_rfl) (fun _ _ _ h => h) (by rfl) hHeld ?_ ?_
              rotate_left 1
              · intro w2 hSw; have q0 := hCX.out w2 hSw; have q1 := hCO.out w2 hSw; go_simp <;> with_reducible rfl
              try simp only [Act.put, List.setIfInBounds_toArray, List.set_cons_zero, List.set_cons_succ]
              refine wpAnyH_done (by kernel_rfl) ?_ _
              refine NoPanic.normal ?_
              have hBn := hHeld
              clear hHeld
              go_wp2_with fail
              go_roundw
              case rel => exact ⟨k, by omega, by go_num, HK', hBn⟩
              case measure => simp [intOf]
            · have HLE := Lib.hid hgt
              go_wp2_with fail
              refine wp_region_noPanic ?_
              refine wp_region_held_drew (S := fun w' => Below wo.heap.size wo w') (by kernel_rfl) (hBk.drew) (fun hHeld => ?_)
              refine takeL 0 (v := ?_) rfl (by kernel_rfl) (by kernel_rfl) (by kernel_rfl) (fun _ _ _ h => h) (by rfl) hHeld ?_ ?_
              rotate_left 1
              · intro w2 hSw; have q0 := hCX.out w2 hSw; have q1 := hCO.out w2 hSw; go_simp <;> with_reducible rfl
              try simp only [Act.put, List.setIfInBounds_toArray, List.set_cons_zero, List.set_cons_succ]
              refine takeL 1 (v := ?_) rfl (by kernel_rfl) (by kernel_rfl) (by kernel_rfl) (fun _ _ _ h => h) (by rfl) hHeld ?_ ?_
              rotate_left 1
              · intro w2 hSw; have q0 := hCX.out w2 hSw; have q1 := hCO.out w2 hSw; go_simp <;> with_reducible rfl
              try simp only [Act.put, List.setIfInBounds_toArray, List.set_cons_zero, List.set_cons_succ]
              refine takeL 2 (v := ?_) rfl (by kernel_rfl) (by kernel_rfl) (by kernel_rfl) (fun _ _ _ h => h) (by rfl) hHeld ?_ ?_
              rotate_left 1
              · intro w2 hSw; have q0 := hCX.out w2 hSw; have q1 := hCO.out w2 hSw; go_simp <;> with_reducible rfl
              try simp only [Act.put, List.setIfInBounds_toArray, List.set_cons_zero, List.set_cons_succ]
              refine takeL 3 (v := ?_) rfl (by kernel_rfl) (by kernel_rfl) (by kernel_rfl) (fun _ _ _ h => h) (by rfl) hHeld ?_ ?_
              rotate_left 1
              · intro w2 hSw; have q0 := hCX.out w2 hSw; have q1 := hCO.out w2 hSw; go_simp <;> with_reducible rfl
              try simp only [Act.put, List.setIfInBounds_toArray, List.set_cons_zero, List.set_cons_succ]
              refine takeL 4 (v := ?_) rfl (by kernel_rfl) (by kernel_rfl) (by kernel_rfl) (fun _ _ _ h => h) (by rfl) hHeld ?_ ?_
              rotate_left 1
              · intro w2 hSw; have q0 := hCX.out w2 hSw; have q1 := hCO.out w2 hSw; go_simp <;> with_reducible rfl
              try simp only [Act.put, List.setIfInBounds_toArray, List.set_cons_zero, List.set_cons_succ]
              refine takeL 5 (v := ?_) rfl (by kernel_rfl) (by kernel_rfl) (by kernel_rfl) (fun _ _ _ h => h) (by rfl) hHeld ?_ ?_
              rotate_left 1
              · intro w2 hSw; have q0 := hCX.out w2 hSw; have q1 := hCO.out w2 hSw; go_simp <;> with_reducible rfl
              try simp only [Act.put, List.setIfInBounds_toArray, List.set_cons_zero, List.set_cons_succ]
              refine takeL 6 (v := ?_) rfl (by kernel_rfl) (by kernel_rfl) (by kernel_rfl) (fun _ _ _ h => h) (by rfl) hHeld ?_ ?_
              rotate_left 1
              · intro w2 hSw; have q0 := hCX.out w2 hSw; have q1 := hCO.out w2 hSw; go_simp <;> with_reducible rfl
              try simp only [Act.put, List.setIfInBounds_toArray, List.set_cons_zero, List.set_cons_succ]
              refine takeL 7 (v := ?_) rfl (by kernel_rfl) (by kernel_rfl) (by kernel_rfl) (fun _ _ _ h => h) (by rfl) hHeld ?_ ?_
              rotate_left 1
              · intro w2 hSw; have q0 := hCX.out w2 hSw; have q1 := hCO.out w2 hSw; go_simp <;> with_reducible rfl
              try simp only [Act.put, List.setIfInBounds_toArray, List.set_cons_zero, List.set_cons_succ]
              refine takeL 8 (v := ?_) rfl (by kernel_rfl) (by kernel_rfl) (by kernel_rfl) (fun _ _ _ h => h) (by rfl) hHeld ?_ ?_
              rotate_left 1
              · intro w2 hSw; have q0 := hCX.out w2 hSw; have q1 := hCO.out w2 hSw; go_simp <;> with_reducible rfl
              try simp only [Act.put, List.setIfInBounds_toArray, List.set_cons_zero, List.set_cons_succ]
              refine takeL 9 (v := ?_) rfl (by kernel_rfl) (by kernel_rfl) (by kernel_rfl) (fun _ _ _ h => h) (by rfl) hHeld ?_ ?_
              rotate_left 1
              · intro w2 hSw; have q0 := hCX.out w2 hSw; have q1 := hCO.out w2 hSw; go_simp <;> with_reducible rfl
              try simp only [Act.put, List.setIfInBounds_toArray, List.set_cons_zero, List.set_cons_succ]
              refine takeL 10 (v := ?_) rfl (by kernel_rfl) (by kernel_rfl) (by kernel_rfl) (fun _ _ _ h => h) (by rfl) hHeld ?_ ?_
              rotate_left 1
              · intro w2 hSw; have q0 := hCX.out w2 hSw; have q1 := hCO.out w2 hSw; go_simp <;> with_reducible rfl
              try simp only [Act.put, List.setIfInBounds_toArray, List.set_cons_zero, List.set_cons_succ]
              refine takeL 11 (v := ?_) rfl (by kernel_rfl) (by kernel_rfl) (by kernel_rfl) (fun _ _ _ h => h) (by rfl) hHeld ?_ ?_
              rotate_left 1
              · intro w2 hSw; have q0 := hCX.out w2 hSw; have q1 := hCO.out w2 hSw; go_simp <;> with_reducible rfl
              try simp only [Act.put, List.setIfInBounds_toArray, List.set_cons_zero, List.set_cons_succ]
              refine takeL 12 (v := ?_) rfl (by kernel_rfl) (by kernel_rfl) (by kernel_rfl) (fun _ _ _ h => h) (by rfl) hHeld ?_ ?_
              rotate_left 1
              · intro w2 hSw; have q0 := hCX.out w2 hSw; have q1 := hCO.out w2 hSw; go_simp <;> with_reducible rfl
              try simp only [Act.put, List.setIfInBounds_toArray, List.set_cons_zero, List.set_cons_succ]
              refine takeL 13 (v := ?_) rfl (by kernel_rfl) (by kernel_rfl) (by kernel_rfl) (fun _ _ _ h => h) (by rfl) hHeld ?_ ?_
              rotate_left 1
              · intro w2 hSw; have q0 := hCX.out w2 hSw; have q1 := hCO.out w2 hSw; go_simp <;> with_reducible rfl
              try simp only [Act.put, List.setIfInBounds_toArray, List.set_cons_zero, List.set_cons_succ]
              refine takeL 14 (v := ?_) rfl (by kernel_rfl) (by kernel_rfl) (by kernel_rfl) (fun _ _ _ h => h) (by rfl) hHeld ?_ ?_
              rotate_left 1
              · intro w2 hSw; have q0 := hCX.out w2 hSw; have q1 := hCO.out w2 hSw; go_simp <;> with_reducible rfl
              try simp only [Act.put, List.setIfInBounds_toArray, List.set_cons_zero, List.set_cons_succ]
              refine takeL 15 (v := ?_) rfl (by kernel_rfl) (by kernel_rfl) (by kernel_rfl) (fun _ _ _ h => h) (by rfl) hHeld ?_ ?_
              rotate_left 1
              · intro w2 hSw; have q0 := hCX.out w2 hSw; have q1 := hCO.out w2 hSw; go_simp <;> with_reducible rfl
              try simp only [Act.put, List.setIfInBounds_toArray, List.set_cons_zero, List.set_cons_succ]
              refine wpAnyH_done (by kernel_rfl) ?_ _
              refine NoPanic.normal ?_
              have hBn := hHeld
              clear hHeld hCX hCO hc32
              by_cases hk1 : k + 1 < out.length
              · have hck' : ¬ c2 = k + 1 := by omega
                -- behind the inner loop: k is the place
                have hkcn : (k + 1) ≤ c2 := by omega
                have hkc : ((k + 1) : Int) ≤ (c2 : Int) := by omega
                have hoc : (out.length : Int) ≤ (c2 : Int) := by omega
                have hkl : ((k + 1) : Int) ≤ (out.length : Int) := by omega
                have hwz := hBn.size
                have HRr := Lib.hid ((HQ.out.below hBn (Nat.le_refl _)).mono hBn.size)
                have HXr := Lib.hid (rangeAt_below HXO.out hBn hgo)
                have hBr := hBo.trans (hBn.mono hBo.size)
                have hwr := hBr.size
                go_wp2_with (refine wpList_one (.inr (by rfl)) (wp_build0_abs 36 24 (by rfl) i0 Try.underlying36 HI.out (wr.drew).heap.size 36 (Nat.le_refl _) ?_))
                intro v0 w3 ov0 g0 lv0
                have HR3 := Lib.hid (HRr.out.below ((Below.refl (wr.drew).heap.size (wr.drew)).grown g0 (Nat.le_refl _) (fun j hj => by cases hj)) (Nat.le_refl _))
                go_wp2_with (at_builtin; refine wpList_append_from (.inr (by rfl)) (.tmp 42) (.tmp 45) 36 (by rfl) (wr.drew).heap.size 24 i0 _ 36 64 Try.underlying36 HI.out hz0 hz1 hz2 (by simp [encX, Value.cells, encE_len]) (by decide) _ 0 [] (by rfl) ov0 _ _ _ (by rfl) (fun h => by cases h) (ecs (out.take (k + 1))) (by rw [rcs_len encE_len, List.length_take]; omega) (rows_news encE_len (by decide) (HR3.out.take (k + 1))) (rcs_one encE_one _) (by unfold maxLen; omega) (by omega) g0.size ?_)
                intro v1 w4 ov1 g1 _
                have hB3 := hBr.grown g0 hwr (fun j hj => by cases hj)
                have hBE4 : Below (wr.drew).heap.size (wr.drew) w4 := ((Below.refl (wr.drew).heap.size (wr.drew)).grown g0 (Nat.le_refl _) (fun j hj => by cases hj)).grown g1 g0.size (fun j hj => lv0 j hj)
                have HX4 := Lib.hid (rangeAt_below HXr.out hBE4 (Nat.lt_of_lt_of_le hgo hwz))
                have hs4 := hBE4.size
                clear g0 g1 ov0 lv0
                go_wp2_with (first
                  | (refine wpList_load_mid (by rfl) 24 (.tmp 50) (by rfl) g (o + i * 36) (by rfl) (encE x) _ HX4.out Try.underlying24 rfl HSX.out ?_)
                  | (refine wpList_build1 (by rfl) 36 24 (.tmp 51) (by rfl) (encE x) (by rfl) i0 _ Try.underlying36 HI.out hz0 (by rw [hz1, encE_len]) (by rw [encE_len]; omega) (by rw [encE_len]; omega) ?_)
                  | (at_builtin; refine wpList_append_own_at _ rfl (.tmp 47) (.tmp 52) 36 (by rfl) (wr.drew).heap.size 24 i0 _ 36 64 Try.underlying36 HI.out hz0 hz1 hz2 (by simp [encX, Value.cells, encE_len]) (by decide) _ _ _ (by rfl) (ov1.alloc _) ⟨w4.heap.size, 0, none⟩ 1 1 (encE x) (by rfl) (by rw [encE_len]) (news_of_block0 (heap_alloc_new w4 _)) (encE_one x) (by unfold maxLen; omega) (by omega) (Nat.le_trans hs4 (by simp)) ?_))
                intro v5 w5 ov5 g5 _ _
                have hob := fun j (hj : v1.ownBlock = some j) => (ov1.lt j hj).1
                have hBE5 : Below (wr.drew).heap.size (wr.drew) w5 := (hBE4.alloc hs4 (.cells (encE x).toArray 24 (0, 0))).grown g5 (Nat.le_trans hs4 (by simp)) (fun j hj => hob j hj)
                have HR5 := Lib.hid (HRr.out.below hBE5 (Nat.le_refl _))
                clear g5 hob ov1 HX4
                go_wp2_with (at_builtin; refine wpList_append_from (.inr (by rfl)) (.tmp 54) (.tmp 57) 36 (by rfl) (wr.drew).heap.size 24 i0 _ 36 64 Try.underlying36 HI.out hz0 hz1 hz2 (by simp [encX, Value.cells, encE_len]) (by decide) _ _ _ (by rfl) ov5 _ _ _ (by rfl) (fun h => by cases h) (ecs (out.drop (k + 1))) (by rw [rcs_len encE_len, List.length_drop] <;> omega) (rows_news encE_len (by decide) (HR5.out.drop (k + 1))) (rcs_one encE_one _) (by unfold maxLen; omega) (by omega) hBE5.size ?_)
                intro v7 w7 ov7 g7 _
                have hBE7 := hBE5.grown g7 hBE5.size (fun j hj => (ov5.lt j hj).1)
                obtain ⟨nn, xs, hxs, ov8⟩ : ∃ nn xs, xs = ecs (putA out (k + 1) x) ∧ w7.ownsRow (wr.drew).heap.size 24 36 v7 nn xs := ⟨_, _, by unfold putA; simp [rcs], ov7⟩
                subst hxs
                have HOV := Lib.hid (owns_base (rows_relen encE_len (by decide) ov8) hwr)
                have HBF := Lib.hid (hBr.trans (hBE7.mono hwr))
                have HPA := Lib.hid (HPT.out (k + 1) (by omega) HK.out (.inr ⟨hkl', HLE.out⟩))
                clear ov5 ov7 ov8 g7 HRr HXr HR5
                go_wp2
                go_roundw
                case rel => exact ⟨i + 1, putA out (k + 1) x, by omega, by go_num, HOV.out, Lib.hid HPA.out.1, Lib.hid HPA.out.2, Lib.hid (fun h => absurd h (putA_ne _ _ _)), HBF.out⟩
                case measure => simp [intOf]; omega
              · have HDR : Hid (∀ W : World, ∀ A : Option Addr, ∀ ad, A = some ad → ∀ j u, (ecs (out.drop (k + 1)))[j]? = some u → W.cell? (ad.add j) = some u) := Lib.hid (fun W A ad _ j u hu => by
                have hdr : out.drop (k + 1) = [] := List.drop_eq_nil_of_le (by omega)
                rw [hdr] at hu; simp [rcs] at hu)
                by_cases hck : k + 1 = c2
                · subst hck
                  -- behind the inner loop: k is the place
                  have hkcn : (k + 1) ≤ (k + 1) := by omega
                  have hkc : ((k + 1) : Int) ≤ ((k + 1) : Int) := by omega
                  have hoc : (out.length : Int) ≤ ((k + 1) : Int) := by omega
                  have hkl : ((k + 1) : Int) ≤ (out.length : Int) := by omega
                  have hwz := hBn.size
                  have HRr := Lib.hid ((HQ.out.below hBn (Nat.le_refl _)).mono hBn.size)
                  have HXr := Lib.hid (rangeAt_below HXO.out hBn hgo)
                  have hBr := hBo.trans (hBn.mono hBo.size)
                  have hwr := hBr.size
                  go_wp2_with (refine wpList_one (.inr (by rfl)) (wp_build0_abs 36 24 (by rfl) i0 Try.underlying36 HI.out (wr.drew).heap.size 36 (Nat.le_refl _) ?_))
                  intro v0 w3 ov0 g0 lv0
                  have HR3 := Lib.hid (HRr.out.below ((Below.refl (wr.drew).heap.size (wr.drew)).grown g0 (Nat.le_refl _) (fun j hj => by cases hj)) (Nat.le_refl _))
                  go_wp2_with (at_builtin; refine wpList_append_from (.inr (by rfl)) (.tmp 42) (.tmp 45) 36 (by rfl) (wr.drew).heap.size 24 i0 _ 36 64 Try.underlying36 HI.out hz0 hz1 hz2 (by simp [encX, Value.cells, encE_len]) (by decide) _ 0 [] (by rfl) ov0 _ _ _ (by rfl) (fun h => by cases h) (ecs (out.take (k + 1))) (by rw [rcs_len encE_len, List.length_take]; omega) (rows_news encE_len (by decide) (HR3.out.take (k + 1))) (rcs_one encE_one _) (by unfold maxLen; omega) (by omega) g0.size ?_)
                  intro v1 w4 ov1 g1 _
                  have hB3 := hBr.grown g0 hwr (fun j hj => by cases hj)
                  have hBE4 : Below (wr.drew).heap.size (wr.drew) w4 := ((Below.refl (wr.drew).heap.size (wr.drew)).grown g0 (Nat.le_refl _) (fun j hj => by cases hj)).grown g1 g0.size (fun j hj => lv0 j hj)
                  have HX4 := Lib.hid (rangeAt_below HXr.out hBE4 (Nat.lt_of_lt_of_le hgo hwz))
                  have hs4 := hBE4.size
                  clear g0 g1 ov0 lv0
                  go_wp2_with (first
                    | (refine wpList_load_mid (by rfl) 24 (.tmp 50) (by rfl) g (o + i * 36) (by rfl) (encE x) _ HX4.out Try.underlying24 rfl HSX.out ?_)
                    | (refine wpList_build1 (by rfl) 36 24 (.tmp 51) (by rfl) (encE x) (by rfl) i0 _ Try.underlying36 HI.out hz0 (by rw [hz1, encE_len]) (by rw [encE_len]; omega) (by rw [encE_len]; omega) ?_)
                    | (at_builtin; refine wpList_append_own_at _ rfl (.tmp 47) (.tmp 52) 36 (by rfl) (wr.drew).heap.size 24 i0 _ 36 64 Try.underlying36 HI.out hz0 hz1 hz2 (by simp [encX, Value.cells, encE_len]) (by decide) _ _ _ (by rfl) (ov1.alloc _) ⟨w4.heap.size, 0, none⟩ 1 1 (encE x) (by rfl) (by rw [encE_len]) (news_of_block0 (heap_alloc_new w4 _)) (encE_one x) (by unfold maxLen; omega) (by omega) (Nat.le_trans hs4 (by simp)) ?_))
                  intro v5 w5 ov5 g5 _ _
                  have hob := fun j (hj : v1.ownBlock = some j) => (ov1.lt j hj).1
                  have hBE5 : Below (wr.drew).heap.size (wr.drew) w5 := (hBE4.alloc hs4 (.cells (encE x).toArray 24 (0, 0))).grown g5 (Nat.le_trans hs4 (by simp)) (fun j hj => hob j hj)
                  have HR5 := Lib.hid (HRr.out.below hBE5 (Nat.le_refl _))
                  clear g5 hob ov1 HX4
                  go_wp2_with (at_builtin; refine wpList_append_from (.inr (by rfl)) (.tmp 54) (.tmp 57) 36 (by rfl) (wr.drew).heap.size 24 i0 _ 36 64 Try.underlying36 HI.out hz0 hz1 hz2 (by simp [encX, Value.cells, encE_len]) (by decide) _ _ _ (by rfl) ov5 _ _ _ (by rfl) (fun h => by cases h) (ecs (out.drop (k + 1))) (by rw [rcs_len encE_len, List.length_drop] <;> omega) (HDR.out _ _) (rcs_one encE_one _) (by unfold maxLen; omega) (by omega) hBE5.size ?_)
                  intro v7 w7 ov7 g7 _
                  have hBE7 := hBE5.grown g7 hBE5.size (fun j hj => (ov5.lt j hj).1)
                  obtain ⟨nn, xs, hxs, ov8⟩ : ∃ nn xs, xs = ecs (putA out (k + 1) x) ∧ w7.ownsRow (wr.drew).heap.size 24 36 v7 nn xs := ⟨_, _, by unfold putA; simp [rcs], ov7⟩
                  subst hxs
                  have HOV := Lib.hid (owns_base (rows_relen encE_len (by decide) ov8) hwr)
                  have HBF := Lib.hid (hBr.trans (hBE7.mono hwr))
                  have HPA := Lib.hid (HPT.out (k + 1) (by omega) HK.out (.inr ⟨hkl', HLE.out⟩))
                  clear ov5 ov7 ov8 g7 HRr HXr HR5
                  go_wp2
                  go_roundw
                  case rel => exact ⟨i + 1, putA out (k + 1) x, by omega, by go_num, HOV.out, Lib.hid HPA.out.1, Lib.hid HPA.out.2, Lib.hid (fun h => absurd h (putA_ne _ _ _)), HBF.out⟩
                  case measure => simp [intOf]; omega
                · have hck' : ¬ c2 = k + 1 := by omega
                  clear hck
                  -- behind the inner loop: k is the place
                  have hkcn : (k + 1) ≤ c2 := by omega
                  have hkc : ((k + 1) : Int) ≤ (c2 : Int) := by omega
                  have hoc : (out.length : Int) ≤ (c2 : Int) := by omega
                  have hkl : ((k + 1) : Int) ≤ (out.length : Int) := by omega
                  have hwz := hBn.size
                  have HRr := Lib.hid ((HQ.out.below hBn (Nat.le_refl _)).mono hBn.size)
                  have HXr := Lib.hid (rangeAt_below HXO.out hBn hgo)
                  have hBr := hBo.trans (hBn.mono hBo.size)
                  have hwr := hBr.size
                  go_wp2_with (refine wpList_one (.inr (by rfl)) (wp_build0_abs 36 24 (by rfl) i0 Try.underlying36 HI.out (wr.drew).heap.size 36 (Nat.le_refl _) ?_))
                  intro v0 w3 ov0 g0 lv0
                  have HR3 := Lib.hid (HRr.out.below ((Below.refl (wr.drew).heap.size (wr.drew)).grown g0 (Nat.le_refl _) (fun j hj => by cases hj)) (Nat.le_refl _))
                  go_wp2_with (at_builtin; refine wpList_append_from (.inr (by rfl)) (.tmp 42) (.tmp 45) 36 (by rfl) (wr.drew).heap.size 24 i0 _ 36 64 Try.underlying36 HI.out hz0 hz1 hz2 (by simp [encX, Value.cells, encE_len]) (by decide) _ 0 [] (by rfl) ov0 _ _ _ (by rfl) (fun h => by cases h) (ecs (out.take (k + 1))) (by rw [rcs_len encE_len, List.length_take]; omega) (rows_news encE_len (by decide) (HR3.out.take (k + 1))) (rcs_one encE_one _) (by unfold maxLen; omega) (by omega) g0.size ?_)
                  intro v1 w4 ov1 g1 _
                  have hB3 := hBr.grown g0 hwr (fun j hj => by cases hj)
                  have hBE4 : Below (wr.drew).heap.size (wr.drew) w4 := ((Below.refl (wr.drew).heap.size (wr.drew)).grown g0 (Nat.le_refl _) (fun j hj => by cases hj)).grown g1 g0.size (fun j hj => lv0 j hj)
                  have HX4 := Lib.hid (rangeAt_below HXr.out hBE4 (Nat.lt_of_lt_of_le hgo hwz))
                  have hs4 := hBE4.size
                  clear g0 g1 ov0 lv0
                  go_wp2_with (first
                    | (refine wpList_load_mid (by rfl) 24 (.tmp 50) (by rfl) g (o + i * 36) (by rfl) (encE x) _ HX4.out Try.underlying24 rfl HSX.out ?_)
                    | (refine wpList_build1 (by rfl) 36 24 (.tmp 51) (by rfl) (encE x) (by rfl) i0 _ Try.underlying36 HI.out hz0 (by rw [hz1, encE_len]) (by rw [encE_len]; omega) (by rw [encE_len]; omega) ?_)
                    | (at_builtin; refine wpList_append_own_at _ rfl (.tmp 47) (.tmp 52) 36 (by rfl) (wr.drew).heap.size 24 i0 _ 36 64 Try.underlying36 HI.out hz0 hz1 hz2 (by simp [encX, Value.cells, encE_len]) (by decide) _ _ _ (by rfl) (ov1.alloc _) ⟨w4.heap.size, 0, none⟩ 1 1 (encE x) (by rfl) (by rw [encE_len]) (news_of_block0 (heap_alloc_new w4 _)) (encE_one x) (by unfold maxLen; omega) (by omega) (Nat.le_trans hs4 (by simp)) ?_))
                  intro v5 w5 ov5 g5 _ _
                  have hob := fun j (hj : v1.ownBlock = some j) => (ov1.lt j hj).1
                  have hBE5 : Below (wr.drew).heap.size (wr.drew) w5 := (hBE4.alloc hs4 (.cells (encE x).toArray 24 (0, 0))).grown g5 (Nat.le_trans hs4 (by simp)) (fun j hj => hob j hj)
                  have HR5 := Lib.hid (HRr.out.below hBE5 (Nat.le_refl _))
                  clear g5 hob ov1 HX4
                  go_wp2_with (at_builtin; refine wpList_append_from (.inr (by rfl)) (.tmp 54) (.tmp 57) 36 (by rfl) (wr.drew).heap.size 24 i0 _ 36 64 Try.underlying36 HI.out hz0 hz1 hz2 (by simp [encX, Value.cells, encE_len]) (by decide) _ _ _ (by rfl) ov5 _ _ _ (by rfl) (fun h => by cases h) (ecs (out.drop (k + 1))) (by rw [rcs_len encE_len, List.length_drop] <;> omega) (HDR.out _ _) (rcs_one encE_one _) (by unfold maxLen; omega) (by omega) hBE5.size ?_)
                  intro v7 w7 ov7 g7 _
                  have hBE7 := hBE5.grown g7 hBE5.size (fun j hj => (ov5.lt j hj).1)
                  obtain ⟨nn, xs, hxs, ov8⟩ : ∃ nn xs, xs = ecs (putA out (k + 1) x) ∧ w7.ownsRow (wr.drew).heap.size 24 36 v7 nn xs := ⟨_, _, by unfold putA; simp [rcs], ov7⟩
                  subst hxs
                  have HOV := Lib.hid (owns_base (rows_relen encE_len (by decide) ov8) hwr)
                  have HBF := Lib.hid (hBr.trans (hBE7.mono hwr))
                  have HPA := Lib.hid (HPT.out (k + 1) (by omega) HK.out (.inr ⟨hkl', HLE.out⟩))
                  clear ov5 ov7 ov8 g7 HRr HXr HR5
                  go_wp2
                  go_roundw
                  case rel => exact ⟨i + 1, putA out (k + 1) x, by omega, by go_num, HOV.out, Lib.hid HPA.out.1, Lib.hid HPA.out.2, Lib.hid (fun h => absurd h (putA_ne _ _ _)), HBF.out⟩
                  case measure => simp [intOf]; omega
    · have hlti : ¬ (i : Int) < (l.length : Int) := by omega
      have HOv := Lib.hid hOv
      have htk : l.take i = l := List.take_of_length_le (by omega)
      rw [htk] at HPm
      clear hOv htk
      go_wp2
      go_ret
      exact ⟨_, rfl, out, HOv.out, HPm.out, HOa.out, hBo⟩
end Go.Proofs.Ytblidphaolgilaa
