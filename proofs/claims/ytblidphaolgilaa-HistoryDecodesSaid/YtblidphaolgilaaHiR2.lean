/- History: the reference's Judge, SetGone, Add. -/
import Derived.Test.YtblidphaolgilaaHiR
namespace Go.Proofs.Ytblidphaolgilaa
open Go.RowKit Go.Maps
set_option linter.unusedSimpArgs false

set_option maxRecDepth 100000 in
set_option maxHeartbeats 1000000 in
theorem rjudge_any (l : List Ent) (cut : Int) (id : I32) (d now : Int) (perm : Bool) (hc0 : 0 ≤ cut) (hc1 : cut ≤ 105190559) (hl : l.length ≤ 1000000) (ao : Option Addr) (c : Nat) (w : World) (hv : EntsAt w.heap.size ao l w) :
    Calls Try.prog 18 #[.slice ao l.length c, .int .i64 cut, .agg (encI id).toArray, .int .i64 d, .int .i64 now, .bool perm] w fun e w' => e = .returned (.int .i64 (judgeE l cut id d now perm)) ∧ Below w.heap.size w w' := by
  have hN := rangeAt_row' (heap_alloc_new w (.cells (encI id).toArray 22 (0, 0)))
  have hB : Below w.heap.size w (w.alloc (.cells (encI id).toArray 22)) := (Below.refl _ w).alloc (Nat.le_refl _) _
  have hsz : w.heap.size < (w.alloc (.cells (encI id).toArray 22)).heap.size := by simp
  obtain ⟨w1, hw1⟩ : ∃ w1, w.alloc (.cells (encI id).toArray 22) = w1 := ⟨_, rfl⟩
  rw [hw1] at hN hB hsz
  have HN := Lib.hid hN
  have HF := Lib.hid (find_any l id hl ao c w1 ((hv.below hB (Nat.le_refl _)).mono (Nat.le_of_lt hsz)))
  have HSI := Lib.hid (idSize22 id)
  have hmn : minB now = true → 0 ≤ now ∧ now ≤ 105190559 := fun h => by unfold minB at h; simpa using h
  clear hv hN
  have hj : ∀ is, (fnd l id).isSome = is → judgeE l cut id d now perm = if minB d && minB now then (if is then 7 else if d > now + 1440 then 15 else if (oldB d now || oldB d cut) && !perm then 14 else 0) else 13 := fun is h => by
    unfold judgeE; rw [h]
  cases hmd : minB d
  · rw [hj _ rfl, hmd]
    go_enter Try.func18, Try.ntmps18
    go_wp2_with (first | (go_at_call 40; refine (rminute_any _ _).mono ?_; rintro e w' ⟨rfl, rfl⟩; rw [hmd]))
    go_ret
    exact ⟨rfl, hB⟩
  · cases hmw : minB now
    · rw [hj _ rfl, hmd, hmw]
      go_enter Try.func18, Try.ntmps18
      go_wp2_with (first | (go_at_call 40; refine (rminute_any _ _).mono ?_; rintro e w' ⟨rfl, rfl⟩; first | rw [hmd] | rw [hmw]))
      go_ret
      exact ⟨rfl, hB⟩
    · obtain ⟨hn0, hn1⟩ := hmn hmw
      rcases idxE_cases l id with ⟨hix, hfd⟩ | ⟨i, hi, hix, hfd, _⟩
      · rw [hj false (by rw [hfd]; rfl), hmd, hmw]
        rw [hix] at HF
        have hod := Lib.hid (fun w => rold_any d now (by omega) (by omega) w)
        have hoc := Lib.hid (fun w => rold_any d cut (by omega) (by omega) w)
        clear hj hfd hix
        by_cases hfu : d > now + 1440
        · have hf1 : now + 1440 < d := hfu
          go_enter Try.func18, Try.ntmps18
          go_wp2_with (first
            | (go_at_call 40; refine (rminute_any _ _).mono ?_; rintro e w' ⟨rfl, rfl⟩; first | rw [hmd] | rw [hmw])
            | (refine wpList_load_mid (by rfl) 22 (.tmp 8) (by rfl) w.heap.size 0 (by rfl) (encI id) _ HN.out Try.underlying22 rfl HSI.out ?_)
            | (go_at_call 45; refine HF.out.mono ?_; rintro e w2 ⟨rfl, b2⟩))
          go_ret
          exact ⟨rfl, hB.trans (b2.mono (Nat.le_of_lt hsz))⟩
        · have hf1 : d ≤ now + 1440 := by omega
          cases hob : oldB d now <;> cases hoc' : oldB d cut <;> cases perm
          all_goals
            go_enter Try.func18, Try.ntmps18
            go_wp2_with (first
              | (go_at_call 40; refine (rminute_any _ _).mono ?_; rintro e w' ⟨rfl, rfl⟩; first | rw [hmd] | rw [hmw])
              | (refine wpList_load_mid (by rfl) 22 (.tmp 8) (by rfl) w.heap.size 0 (by rfl) (encI id) _ HN.out Try.underlying22 rfl HSI.out ?_)
              | (go_at_call 45; refine HF.out.mono ?_; rintro e w2 ⟨rfl, b2⟩)
              | (go_at_call 46; with_reducible refine (hod.out _).mono ?_; rintro e w' ⟨rfl, rfl⟩; rw [hob])
              | (go_at_call 46; with_reducible refine (hoc.out _).mono ?_; rintro e w' ⟨rfl, rfl⟩; rw [hoc']))
            go_ret
            exact ⟨rfl, hB.trans (b2.mono (Nat.le_of_lt hsz))⟩
      · rw [hj true (by rw [hfd]; rfl), hmd, hmw]
        rw [hix] at HF
        have hi0 : (0 : Int) ≤ (i : Int) := by omega
        clear hj hfd hix
        go_enter Try.func18, Try.ntmps18
        go_wp2_with (first
          | (go_at_call 40; refine (rminute_any _ _).mono ?_; rintro e w' ⟨rfl, rfl⟩; first | rw [hmd] | rw [hmw])
          | (refine wpList_load_mid (by rfl) 22 (.tmp 8) (by rfl) w.heap.size 0 (by rfl) (encI id) _ HN.out Try.underlying22 rfl HSI.out ?_)
          | (go_at_call 45; refine HF.out.mono ?_; rintro e w2 ⟨rfl, b2⟩))
        go_ret
        exact ⟨rfl, hB.trans (b2.mono (Nat.le_of_lt hsz))⟩
end Go.Proofs.Ytblidphaolgilaa
