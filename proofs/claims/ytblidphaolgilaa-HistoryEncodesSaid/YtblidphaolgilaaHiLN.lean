/- The walk of the law HistorySince. -/
import Derived.Test.YtblidphaolgilaaHiRS
import Derived.Test.YtblidphaolgilaaHiA
namespace Go.Proofs.Ytblidphaolgilaa
open Go.RowKit Go.Maps Go.Sort
set_option linter.unusedSimpArgs false
set_option maxRecDepth 100000 in
set_option maxHeartbeats 4000000 in
theorem since_walk (v : Value) (ops : List OpE) (w : World) (hv : RowsArg encO 37 v ops w) (m : Int) : Calls Try.prog 7 #[v, .int .i64 m] w fun e w' => e = .returned (.bool true) ∧ Below w.heap.size w w' := by
  have HV := Lib.hid hv
  obtain ⟨i0, hif, hz0, hz1, hz2⟩ := info_parts infoX
  have HI := Lib.hid hif
  clear hv hif
  go_enter Try.func7, Try.ntmps7
  go_wp2_with fail
  refine (known_any _).mono ?_
  rintro e w2 ⟨rfl, b2⟩
  have HV2 := Lib.hid (HV.out.below b2)
  go_wp2_with fail
  refine (play_any ops v w2 HV2.out).mono ?_
  rintro e w3 ⟨hb, mb, vr, rows, cut, rfl, hH, hR, hlen, hhb, hmb, b3⟩
  have b13 := b2.trans (b3.mono b2.size)
  have HH := Lib.hid hH
  have HSE := Lib.hid hH.asc
  have HRW := Lib.hid hR
  clear hH hR HV HV2 b2 b3
  go_wp2_with fail
  refine (since_any m hb mb rows cut (by omega) w3 HH.out).mono ?_
  rintro e w4 ⟨v4, l', rfl, hp4, ho4, hr4, b4⟩
  have hl4 : l'.length ≤ 40 := by
    have h1 := hp4.length_eq
    have h2 := List.length_filter_le (fun x : Ent => decide (m ≤ x.arr.1)) rows
    omega
  obtain ⟨_, a4, c4, rfl, _, _, _, hra4⟩ := rows_of_owns encE_len (by decide) hr4
  have HRA := Lib.hid hra4
  have HP4 := Lib.hid hp4
  have HO4 := Lib.hid ho4
  have HRW4 := Lib.hid (HRW.out.below b4)
  have b14 := b13.trans (b4.mono b13.size)
  clear hp4 ho4 hr4 hra4 HRW HH b4 b13
  go_wp2_with fail
  go_loopw [10, 11] (fun ov iv wr => ∃ (i : Nat), i ≤ l'.length ∧ iv = .int .i64 (i : Int) ∧ Hid (wr.ownsRow w4.heap.size 24 36 ov i (ecs (l'.take i))) ∧ Below w4.heap.size w4 wr)
    (fun ov iv _ => (l'.length - intOf iv).toNat)
  case atStart => exact ⟨0, Nat.zero_le _, rfl, Lib.hid (World.ownsRow_nil _ _ _ _), Below.refl _ _⟩
  case round =>
    obtain ⟨i, hil, rfl, HOv, hBr⟩ := hrel
    by_cases hlt : i < l'.length
    · have hlti : (i : Int) < (l'.length : Int) := by omega
      have hi0 : (0 : Int) ≤ (i : Int) := by omega
      obtain ⟨g, o, rfl, hg, hrx⟩ := HRA.out.at hlt
      have HX := Lib.hid (rangeAt_below hrx hBr hg)
      have HSL := Lib.hid (xLen l'[i])
      have HTK : Hid (l'.take (i + 1) = l'.take i ++ [l'[i]]) := Lib.hid (List.take_succ_eq_append_getElem hlt)
      clear hrx
      generalize l'[i] = x at *
      go_wp2_with (refine wpList_load_mid (by rfl) 29 (.tmp 35) (by rfl) g (o + i * 36) (by rfl) (encE x) _ HX.out Try.underlying29 rfl HSL.out ?_)
      refine (of_any x _).mono ?_
      rintro e w5 ⟨rfl, b5⟩
      have ov5 : w5.ownsRow w4.heap.size 24 36 _ i (ecs (l'.take i)) := owns_keep HOv.out (grown_of_below b5) (fun j hj => by cases hj)
      have hB5 := hBr.trans (b5.mono hBr.size)
      have hs5 := hB5.size
      unfold encX
      clear b5 HOv HX
      go_wp2_with (first
        | (refine wpList_build1 (by rfl) 36 24 (.tmp 37) (by rfl) (encE x) (by rfl) i0 _ Try.underlying36 HI.out hz0 (by rw [hz1, encE_len]) (by rw [encE_len]; omega) (by rw [encE_len]; omega) ?_)
        | (at_builtin; refine wpList_append_own_at _ rfl (.tmp 32) (.tmp 38) 36 (by rfl) w4.heap.size 24 i0 _ 36 64 Try.underlying36 HI.out hz0 hz1 hz2 (by simp [Value.cells, encE_len, encX]) (by decide) _ _ _ (by rfl) (ov5.alloc _) ⟨w5.heap.size, 0, none⟩ 1 1 (encE x) (by rfl) (by rw [encE_len]) (news_of_block0 (heap_alloc_new w5 _)) (encE_one x) (by unfold maxLen; omega) (by omega) (Nat.le_trans hs5 (by simp)) ?_))
      intro v6 w6 ov6 g6 _ _
      have hob := ov5.lt
      have HO6 : Hid (w6.ownsRow w4.heap.size 24 36 v6 (i + 1) (ecs (l'.take (i + 1)))) := Lib.hid (by rw [HTK.out, show ecs (l'.take i ++ [x]) = ecs (l'.take i) ++ encE x from rcs_snoc _ _]; exact ov6)
      have hB6 := (hB5.alloc hs5 (.cells (encE x).toArray 24 (0, 0))).grown g6 (Nat.le_trans hs5 (by simp)) (fun j hj => (hob j hj).1)
      clear ov5 ov6 g6 hob HTK
      go_wp2
      go_roundw
      case rel => exact ⟨i + 1, by omega, by go_num, HO6, hB6⟩
      case measure => simp [intOf]; omega
    · have hlti : ¬ (i : Int) < (l'.length : Int) := by omega
      have htk : l'.take i = l' := List.take_of_length_le (by omega)
      have hi : i = l'.length := by omega
      have hOv := HOv.out
      rw [htk, hi] at hOv
      obtain ⟨_, a5, c5, rfl, _, _, _, hra5⟩ := rows_of_owns encE_len (by decide) hOv
      have HR5 := Lib.hid hra5
      have HRW5 := Lib.hid (HRW4.out.below hBr)
      clear hOv HOv htk hra5
      go_wp2_with fail
      refine (rsince_any rows m HSE.out (by omega) vr wr HRW5.out).mono ?_
      rintro e w6 ⟨v6, out, rfl, hr6, hp6, ho6, b6⟩
      obtain ⟨_, a6, c6, rfl, _, _, _, hra6⟩ := rows_of_owns encE_len (by decide) hr6
      have HRA5 := Lib.hid ((HR5.out.below b6 (Nat.le_refl _)).mono b6.size)
      have HRA6 := Lib.hid hra6
      have hl6 : out.length ≤ 40 := by
        have h1 := hp6.length_eq
        have h2 := List.length_filter_le (fun x : Ent => decide (m ≤ x.arr.1)) rows
        omega
      have HEQ : Hid (decide (l' = out) = true) := Lib.hid (by
        have : l' = out := oa_uniq HSE.out (fun y hy => (List.mem_filter.1 (HP4.out.mem_iff.1 hy)).1) HO4.out ho6 (HP4.out.trans hp6.symm)
        simpa using this)
      have hB6 := b14.trans ((hBr.trans (b6.mono hBr.size)).mono b14.size)
      clear hr6 hp6 ho6 hra6 b6
      go_wp2_with fail
      refine (same_any l' out (by omega) (by omega) _ _ _ _ w6 HRA5.out HRA6.out).mono ?_
      rintro e w7 ⟨rfl, b7⟩
      rw [HEQ.out]
      go_wp2
      go_ret
      exact ⟨rfl, hB6.trans (b7.mono hB6.size)⟩
end Go.Proofs.Ytblidphaolgilaa
