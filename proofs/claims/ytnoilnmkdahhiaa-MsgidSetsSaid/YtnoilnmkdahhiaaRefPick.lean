/- The reference's Pick at identities. -/
import Derived.Test.YtnoilnmkdahhiaaRefSet
import Derived.Test.YtnoilnmkdahhiaaOpsP
namespace Go.Proofs.Ytnoilnmkdahhiaa
open Go.RowKit
set_option linter.unusedSimpArgs false

theorem filter_snoc_t {α : Type} (l : List α) (x : α) (p : α → Bool) (h : p x = true) : (l ++ [x]).filter p = l.filter p ++ [x] := by simp [h]
theorem filter_snoc_f {α : Type} (l : List α) (x : α) (p : α → Bool) (h : p x = false) : (l ++ [x]).filter p = l.filter p := by simp [h]
set_option maxRecDepth 100000 in
set_option maxHeartbeats 2000000 in
theorem pick_any (l m : List I32) (both : Bool) (hl : l.length ≤ 100000) (hm : m.length ≤ 100000) (ao bo : Option Addr) (c d : Nat) (w : World) (hv : IdsAt w.heap.size ao l w) (hu : IdsAt w.heap.size bo m w) :
    Calls Try.prog 15 #[.slice ao l.length c, .slice bo m.length d, .bool both] w fun e w' => ∃ v, e = .returned v ∧
      w'.ownsRow w.heap.size 28 32 v (setI (l.filter fun x => decide (x ∈ m) == both)).length (idcs (setI (l.filter fun x => decide (x ∈ m) == both))) ∧ Below w.heap.size w w' := by
  obtain ⟨i0, hi, hz0, hz1, hz2⟩ := info_parts infoRid
  have HI := Lib.hid hi
  have HV := Lib.hid hv
  have HU := Lib.hid hu
  clear hi hv hu
  go_enter Try.func15, Try.ntmps15
  go_wp2_with fail
  go_loopw [7, 8] (fun ov iv wr => ∃ (i : Nat), i ≤ l.length ∧ iv = .int .i64 (i : Int) ∧ wr.ownsRow w.heap.size 28 32 ov ((l.take i).filter fun x => decide (x ∈ m) == both).length (idcs ((l.take i).filter fun x => decide (x ∈ m) == both)) ∧ Below w.heap.size w wr)
    (fun _ iv _ => (l.length - intOf iv).toNat)
  case atStart => exact ⟨0, Nat.zero_le _, rfl, World.ownsRow_nil _ _ _ _, Below.refl _ _⟩
  case round =>
    obtain ⟨i, hil, rfl, ho, hB⟩ := hrel
    have hsz := hB.size
    by_cases hlt : i < l.length
    · have hlti : (i : Int) < (l.length : Int) := by omega
      obtain ⟨g, o, rfl, hg, hr⟩ := (HV.out.below hB (Nat.le_refl _)).at (i := i) hlt
      have HM := Lib.hid ((HU.out.below hB (Nat.le_refl _)).mono hsz)
      have HR := Lib.hid hr
      have HT : Hid (l.take (i + 1) = l.take i ++ [l[i]]) := Lib.hid (List.take_succ_eq_append_getElem hlt)
      have hol : ((l.take i).filter fun x => decide (x ∈ m) == both).length ≤ 100000 := by have := List.length_filter_le (fun x => decide (x ∈ m) == both) (l.take i); have := List.length_take_le i l; omega
      clear hr
      generalize l[i] = x at *
      obtain ⟨out, hout⟩ : ∃ r, (l.take i).filter (fun x => decide (x ∈ m) == both) = r := ⟨_, rfl⟩
      rw [hout] at hol ho
      have HO := Lib.hid hout
      clear hout
      cases hd : (decide (x ∈ m) == both) with
      | false =>
        have HF : Hid (((l.take (i + 1)).filter fun x => decide (x ∈ m) == both) = out) := Lib.hid (by rw [HT.out]; exact (filter_snoc_f _ _ (fun y => decide (y ∈ m) == both) hd).trans HO.out)
        go_wp2_with (refine wpList_load_mid rfl _ _ rfl g (o + i * 32) rfl (encI x) _ HR.out Try.underlying28 rfl (idSize x) ?_)
        refine (rhas_any m x (by omega) _ _ wr HM.out).mono ?_
        rintro e w1 ⟨rfl, b1⟩
        have ho1 := owns_below ho b1
        have hB1 := hB.trans (b1.mono hsz)
        clear ho hB b1
        go_wp2
        go_roundw
        case rel => exact ⟨i + 1, by omega, by go_num, by rw [HF.out]; exact ho1, hB1⟩
        case measure => simp [intOf]; omega
      | true =>
        have HF : Hid (((l.take (i + 1)).filter fun x => decide (x ∈ m) == both) = out ++ [x]) := Lib.hid (by rw [HT.out]; exact (filter_snoc_t _ _ (fun y => decide (y ∈ m) == both) hd).trans (by rw [HO.out]))
        go_wp2_with (refine wpList_load_mid rfl _ _ rfl g (o + i * 32) rfl (encI x) _ HR.out Try.underlying28 rfl (idSize x) ?_)
        refine (rhas_any m x (by omega) _ _ wr HM.out).mono ?_
        rintro e w1 ⟨rfl, b1⟩
        have ho1 := owns_below ho b1
        have hB1 := hB.trans (b1.mono hsz)
        have HR1 := Lib.hid (rangeAt_below HR.out b1 (by omega))
        have hs1 := hB1.size
        clear ho hB b1
        have hkm : out.length + 1 ≤ maxLen := by unfold maxLen; omega
        have hkb : (out.length + 1) * 32 ≤ 140737488355328 := by omega
        go_wp2_with (first | (refine wpList_load_mid rfl _ _ rfl g (o + i * 32) rfl (encI x) _ HR1.out Try.underlying28 rfl (idSize x) ?_) | (refine wpList_build1 rfl 26 28 _ rfl (encI x) rfl i0 _ Try.underlying26 HI.out hz0 (by rw [hz1, encI_len]) (by rw [encI_len]; omega) (by rw [encI_len]; omega) ?_) | (at_builtin; refine wpList_append_own_at _ rfl _ _ 26 rfl w.heap.size 28 i0 _ 32 32 Try.underlying26 HI.out hz0 hz1 hz2 (by simp [Value.cells]) (by decide) _ _ _ rfl (ho1.alloc _) ⟨w1.heap.size, 0, none⟩ 1 1 (encI x) rfl (by rw [encI_len]) (news_of_block0 (heap_alloc_new w1 _)) (encI_one x) hkm hkb (by rw [alloc_sz]; omega) ?_))
        intro v' wA hA gA _ _
        have hB' := (hB1.alloc hs1 _).grown gA (by rw [alloc_sz]; omega) (fun j hj => (ho1.lt j hj).1)
        rw [← idcs_snoc] at hA
        have hA' : wA.ownsRow w.heap.size 28 32 v' (out ++ [x]).length (idcs (out ++ [x])) := by rw [List.length_append]; exact hA
        clear gA ho1 hB1 hA
        go_wp2
        go_roundw
        case rel => exact ⟨i + 1, by omega, by go_num, by rw [HF.out]; exact hA', hB'⟩
        case measure => simp [intOf]; omega
    · have hlti : ¬ (i : Int) < (l.length : Int) := by omega
      have htk : l.take i = l := List.take_of_length_le (by omega)
      rw [htk] at ho
      obtain ⟨_, a3, cap3, rfl, _, hia⟩ := idsAt_of_owns ho
      have HIA := Lib.hid hia
      have hf : (l.filter fun x => decide (x ∈ m) == both).length ≤ 100000 := Nat.le_trans (List.length_filter_le _ _) hl
      have hq := (rset_any (l.filter fun x => decide (x ∈ m) == both) hf a3 cap3 wr hia)
      rw [refSet_eq] at hq
      have HQ := Lib.hid hq
      clear hq hia ho htk
      go_wp2_with fail
      refine HQ.out.mono ?_
      rintro e w1 ⟨v, rfl, hv, b1⟩
      go_wp2
      go_ret
      exact ⟨_, rfl, owns_base hv hsz, hB.trans (b1.mono hsz)⟩
end Go.Proofs.Ytnoilnmkdahhiaa
