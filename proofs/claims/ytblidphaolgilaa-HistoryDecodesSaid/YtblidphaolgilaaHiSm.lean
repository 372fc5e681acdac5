/- The reference's Same. -/
import Derived.Test.YtblidphaolgilaaHiE
namespace Go.Proofs.Ytblidphaolgilaa
open Go.RowKit Go.Maps
set_option linter.unusedSimpArgs false

set_option maxRecDepth 100000 in
set_option maxHeartbeats 2000000 in
theorem same_any (l m : List Ent) (hl : l.length ≤ 1000000) (hm : m.length ≤ 1000000) (ao bo : Option Addr) (c d : Nat) (w : World) (hv : EntsAt w.heap.size ao l w) (hu : EntsAt w.heap.size bo m w) :
    Calls Try.prog 25 #[.slice ao l.length c, .slice bo m.length d] w fun e w' => e = .returned (.bool (decide (l = m))) ∧ Below w.heap.size w w' := by
  have HV := Lib.hid hv
  have HU := Lib.hid hu
  clear hv hu
  by_cases hlm : l.length = m.length
  · have hlmi : ((l.length : Int) != (m.length : Int)) = false := by simp; omega
    go_enter Try.func25, Try.ntmps25
    go_wp2_with fail
    go_loopw [5] (fun iv wr => ∃ (i : Nat), i ≤ l.length ∧ iv = .int .i64 (i : Int) ∧ Hid (∀ j (h1 : j < l.length) (h2 : j < m.length), j < i → l[j] = m[j]) ∧ Below w.heap.size w wr) (fun iv _ => (l.length - intOf iv).toNat)
    case atStart => exact ⟨0, Nat.zero_le _, rfl, Lib.hid (fun j h1 h2 h => absurd h (Nat.not_lt_zero _)), Below.refl _ _⟩
    case round =>
      obtain ⟨i, hil, rfl, HK, hBr⟩ := hrel
      by_cases hlt : i < l.length
      · have hlti : (i : Int) < (l.length : Int) := by omega
        have hi0 : (0 : Int) ≤ (i : Int) := by omega
        have hlt2 : i < m.length := by omega
        have hlti2 : (i : Int) < (m.length : Int) := by omega
        obtain ⟨g, o, rfl, hg, hr⟩ := HV.out.at hlt
        obtain ⟨g2, o2, rfl, hg2, hr2⟩ := HU.out.at hlt2
        have HR : Hid (∀ w', Below w.heap.size w w' → w'.rangeAt g (o + i * 36) (encE l[i])) := Lib.hid (fun w' b => rangeAt_below hr b hg)
        have HR2 : Hid (∀ w', Below w.heap.size w w' → w'.rangeAt g2 (o2 + i * 36) (encE m[i])) := Lib.hid (fun w' b => rangeAt_below hr2 b hg2)
        have HS := Lib.hid (rxLen l[i])
        have HS2 := Lib.hid (rxLen m[i])
        have HEQ : Hid (∀ w', (Op.equalIn 10000 24 (.agg (encE l[i]).toArray) (.agg (encE m[i]).toArray)).run Try.prog w' = .ok (decide (l[i] = m[i])) w') := Lib.hid (fun w' => eqX _ _ w')
        have HYES : Hid (l[i] = m[i] → ∀ j (h1 : j < l.length) (h2 : j < m.length), j < i + 1 → l[j] = m[j]) := Lib.hid (fun h j h1 h2 h3 => by
          by_cases hj : j = i
          · subst hj; exact h
          · exact HK.out j h1 h2 (by omega))
        have HNO : Hid (l[i] ≠ m[i] → decide (l = m) = false) := Lib.hid (fun h => by
          have : l ≠ m := by rintro rfl; exact h rfl
          simpa using this)
        clear hr hr2 HK
        generalize l[i] = x at *
        generalize m[i] = y at *
        cases hxy : decide (x = y) with
        | true =>
          have hq : x = y := by simpa using hxy
          rw [hxy] at HEQ
          have HY := Lib.hid (HYES.out hq)
          clear HYES HNO hq hxy
          go_wp2_with fail
          refine wp_region_noPanic ?_
          refine wp_region_held_drew (S := fun w' => Below w.heap.size w w') (by kernel_rfl) (hBr.drew) (fun hHeld => ?_)
          refine takeL 0 (v := ?_) rfl (by kernel_rfl) (by kernel_rfl) (by kernel_rfl) (fun _ _ _ h => h) (by rfl) hHeld ?_ ?_
          rotate_left 1
          · intro w2 hSw; go_simp <;> with_reducible rfl
          try simp only [Act.put, List.setIfInBounds_toArray, List.set_cons_zero, List.set_cons_succ]
          refine takeL 1 (v := ?_) rfl (by kernel_rfl) (by kernel_rfl) (by kernel_rfl) (fun _ _ _ h => h) (by rfl) hHeld ?_ ?_
          rotate_left 1
          · intro w2 hSw; go_simp <;> with_reducible rfl
          try simp only [Act.put, List.setIfInBounds_toArray, List.set_cons_zero, List.set_cons_succ]
          refine takeL 2 (v := ?_) rfl (by kernel_rfl) (by kernel_rfl) (by kernel_rfl) (fun _ _ _ h => h) (by rfl) hHeld ?_ ?_
          rotate_left 1
          · intro w2 hSw; go_simp <;> with_reducible rfl
          try simp only [Act.put, List.setIfInBounds_toArray, List.set_cons_zero, List.set_cons_succ]
          refine takeL 4 (v := ?_) rfl (by kernel_rfl) (by kernel_rfl) (by kernel_rfl) (fun _ _ _ h => h) (by rfl) hHeld ?_ ?_
          rotate_left 1
          · intro w2 hSw; go_simp <;> with_reducible rfl
          try simp only [Act.put, List.setIfInBounds_toArray, List.set_cons_zero, List.set_cons_succ]
          refine takeL 5 (v := ?_) rfl (by kernel_rfl) (by kernel_rfl) (by kernel_rfl) (fun _ _ _ h => h) (by rfl) hHeld ?_ ?_
          rotate_left 1
          · intro w2 hSw; go_simp <;> with_reducible rfl
          try simp only [Act.put, List.setIfInBounds_toArray, List.set_cons_zero, List.set_cons_succ]
          refine takeL 6 (v := ?_) rfl (by kernel_rfl) (by kernel_rfl) (by kernel_rfl) (fun _ _ _ h => h) (by rfl) hHeld ?_ ?_
          rotate_left 1
          · intro w2 hSw; go_simp <;> with_reducible rfl
          try simp only [Act.put, List.setIfInBounds_toArray, List.set_cons_zero, List.set_cons_succ]
          refine takeRow 3 rfl (by kernel_rfl) (by kernel_rfl) (by kernel_rfl) 24 (.tmp 19) rfl (g) (o + i * 36) rfl (encE x) _ (fun _ _ _ h => h) (by rfl) hHeld HR.out Try.underlying24 rfl HS.out ?_
          try simp only [Act.put, List.setIfInBounds_toArray, List.set_cons_zero, List.set_cons_succ]
          refine takeRow 7 rfl (by kernel_rfl) (by kernel_rfl) (by kernel_rfl) 24 (.tmp 23) rfl (g2) (o2 + i * 36) rfl (encE y) _ (fun _ _ _ h => h) (by rfl) hHeld HR2.out Try.underlying24 rfl HS2.out ?_
          try simp only [Act.put, List.setIfInBounds_toArray, List.set_cons_zero, List.set_cons_succ]
          refine takeL 8 (v := .bool false) rfl (by kernel_rfl) (by kernel_rfl) (by kernel_rfl) (fun _ _ _ h => h) (by rfl) hHeld ?_ ?_
          · intro w2 hSw; exact exec_neq 24 _ (.tmp 20) (.tmp 24) rfl _ _ rfl rfl (by kernel_rfl) true (HEQ.out w2)
          try simp only [Act.put, List.setIfInBounds_toArray, List.set_cons_zero, List.set_cons_succ]
          refine wpAnyH_done (by kernel_rfl) ?_ _
          refine NoPanic.normal ?_
          go_wp2
          go_roundw
          case rel => exact ⟨i + 1, by omega, by go_num, HY, hHeld⟩
          case measure => simp [intOf]; omega
        | false =>
          have hq : x ≠ y := by simpa using hxy
          rw [hxy] at HEQ
          have HN := Lib.hid (HNO.out hq)
          clear HYES HNO hq hxy
          go_wp2_with fail
          refine wp_region_noPanic ?_
          refine wp_region_held_drew (S := fun w' => Below w.heap.size w w') (by kernel_rfl) (hBr.drew) (fun hHeld => ?_)
          refine takeL 0 (v := ?_) rfl (by kernel_rfl) (by kernel_rfl) (by kernel_rfl) (fun _ _ _ h => h) (by rfl) hHeld ?_ ?_
          rotate_left 1
          · intro w2 hSw; go_simp <;> with_reducible rfl
          try simp only [Act.put, List.setIfInBounds_toArray, List.set_cons_zero, List.set_cons_succ]
          refine takeL 1 (v := ?_) rfl (by kernel_rfl) (by kernel_rfl) (by kernel_rfl) (fun _ _ _ h => h) (by rfl) hHeld ?_ ?_
          rotate_left 1
          · intro w2 hSw; go_simp <;> with_reducible rfl
          try simp only [Act.put, List.setIfInBounds_toArray, List.set_cons_zero, List.set_cons_succ]
          refine takeL 2 (v := ?_) rfl (by kernel_rfl) (by kernel_rfl) (by kernel_rfl) (fun _ _ _ h => h) (by rfl) hHeld ?_ ?_
          rotate_left 1
          · intro w2 hSw; go_simp <;> with_reducible rfl
          try simp only [Act.put, List.setIfInBounds_toArray, List.set_cons_zero, List.set_cons_succ]
          refine takeL 4 (v := ?_) rfl (by kernel_rfl) (by kernel_rfl) (by kernel_rfl) (fun _ _ _ h => h) (by rfl) hHeld ?_ ?_
          rotate_left 1
          · intro w2 hSw; go_simp <;> with_reducible rfl
          try simp only [Act.put, List.setIfInBounds_toArray, List.set_cons_zero, List.set_cons_succ]
          refine takeL 5 (v := ?_) rfl (by kernel_rfl) (by kernel_rfl) (by kernel_rfl) (fun _ _ _ h => h) (by rfl) hHeld ?_ ?_
          rotate_left 1
          · intro w2 hSw; go_simp <;> with_reducible rfl
          try simp only [Act.put, List.setIfInBounds_toArray, List.set_cons_zero, List.set_cons_succ]
          refine takeL 6 (v := ?_) rfl (by kernel_rfl) (by kernel_rfl) (by kernel_rfl) (fun _ _ _ h => h) (by rfl) hHeld ?_ ?_
          rotate_left 1
          · intro w2 hSw; go_simp <;> with_reducible rfl
          try simp only [Act.put, List.setIfInBounds_toArray, List.set_cons_zero, List.set_cons_succ]
          refine takeRow 3 rfl (by kernel_rfl) (by kernel_rfl) (by kernel_rfl) 24 (.tmp 19) rfl (g) (o + i * 36) rfl (encE x) _ (fun _ _ _ h => h) (by rfl) hHeld HR.out Try.underlying24 rfl HS.out ?_
          try simp only [Act.put, List.setIfInBounds_toArray, List.set_cons_zero, List.set_cons_succ]
          refine takeRow 7 rfl (by kernel_rfl) (by kernel_rfl) (by kernel_rfl) 24 (.tmp 23) rfl (g2) (o2 + i * 36) rfl (encE y) _ (fun _ _ _ h => h) (by rfl) hHeld HR2.out Try.underlying24 rfl HS2.out ?_
          try simp only [Act.put, List.setIfInBounds_toArray, List.set_cons_zero, List.set_cons_succ]
          refine takeL 8 (v := .bool true) rfl (by kernel_rfl) (by kernel_rfl) (by kernel_rfl) (fun _ _ _ h => h) (by rfl) hHeld ?_ ?_
          · intro w2 hSw; exact exec_neq 24 _ (.tmp 20) (.tmp 24) rfl _ _ rfl rfl (by kernel_rfl) false (HEQ.out w2)
          try simp only [Act.put, List.setIfInBounds_toArray, List.set_cons_zero, List.set_cons_succ]
          refine wpAnyH_done (by kernel_rfl) ?_ _
          refine NoPanic.normal ?_
          go_wp2
          go_ret
          rw [HN.out]
          exact ⟨rfl, hHeld⟩
      · have hlti : ¬ (i : Int) < (l.length : Int) := by omega
        have HY : Hid (decide (l = m) = true) := Lib.hid (by
          have : l = m := List.ext_getElem hlm (fun j h1 h2 => HK.out j h1 h2 (by omega))
          simpa using this)
        go_wp2
        go_ret
        rw [HY.out]
        exact ⟨rfl, hBr⟩
  · have hlmi : ((l.length : Int) != (m.length : Int)) = true := by simp; omega
    have hne : decide (l = m) = false := by
      have : l ≠ m := by rintro rfl; exact hlm rfl
      simpa using this
    rw [hne]
    go_enter Try.func25, Try.ntmps25
    go_wp2
    go_ret
    exact ⟨rfl, Below.refl _ _⟩
end Go.Proofs.Ytblidphaolgilaa
