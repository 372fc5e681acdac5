/- The walk of the law MsgidAlgebra. -/
import Derived.Test.YtnoilnmkdahhiaaRows
import Derived.Test.YtnoilnmkdahhiaaIds
import Derived.Test.YtnoilnmkdahhiaaIdTo
import Derived.Test.YtnoilnmkdahhiaaIdHas
import Derived.Test.YtnoilnmkdahhiaaIdOps
import Derived.Test.YtnoilnmkdahhiaaOpsP
import Derived.Test.YtnoilnmkdahhiaaHeld
import Derived.Test.YtnoilnmkdahhiaaKnown
import Derived.WalkKit
import Derived.OwnWalk
import Derived.WalkSpells
import Derived.WalkLawsBesides
import Derived.Lib.Hide
import Derived.Deep.RegionHeld3
import Derived.Deep.MidRow
import Derived.Outline
namespace Go.Proofs.Ytnoilnmkdahhiaa
open Go.RowKit
set_option linter.unusedSimpArgs false

theorem minus_len (l m : List I32) : (opL keepM l m).length ≤ l.length := by
  rw [minus_set]
  exact Nat.le_trans (setI_le _) (List.length_filter_le _ _)
theorem unionR (l m r : List I32) (hr : opL keepU l m = r) (hl : l.length ≤ 100000) (hm : m.length ≤ 100000) (ao bo : Option Addr) (c d : Nat) (w : World) (hv : IdsAt w.heap.size ao l w) (hu : IdsAt w.heap.size bo m w) :
    Calls Try.prog 13 #[.slice ao l.length c, .slice bo m.length d] w fun e w' => ∃ a cap, e = .returned (.slice a r.length cap) ∧ IdsAt w'.heap.size a r w' ∧ Below w.heap.size w w' := by
  subst hr
  refine (union_any l m hl hm ao bo c d w hv hu).mono ?_
  rintro e w1 ⟨v, rfl, hr, b1⟩
  obtain ⟨_, a2, cap2, rfl, _, hia⟩ := idsAt_of_owns hr
  exact ⟨a2, cap2, rfl, hia, b1⟩
theorem minusR (l m r : List I32) (hr : opL keepM l m = r) (hl : l.length ≤ 100000) (hm : m.length ≤ 100000) (ao bo : Option Addr) (c d : Nat) (w : World) (hv : IdsAt w.heap.size ao l w) (hu : IdsAt w.heap.size bo m w) :
    Calls Try.prog 14 #[.slice ao l.length c, .slice bo m.length d] w fun e w' => ∃ a cap, e = .returned (.slice a r.length cap) ∧ IdsAt w'.heap.size a r w' ∧ Below w.heap.size w w' := by
  subst hr
  refine (minus_any l m hl hm ao bo c d w hv hu).mono ?_
  rintro e w1 ⟨v, rfl, hr, b1⟩
  obtain ⟨_, a2, cap2, rfl, _, hia⟩ := idsAt_of_owns hr
  exact ⟨a2, cap2, rfl, hia, b1⟩
theorem bothR (l m r : List I32) (hr : opL keepB l m = r) (hl : l.length ≤ 100000) (hm : m.length ≤ 100000) (ao bo : Option Addr) (c d : Nat) (w : World) (hv : IdsAt w.heap.size ao l w) (hu : IdsAt w.heap.size bo m w) :
    Calls Try.prog 16 #[.slice ao l.length c, .slice bo m.length d] w fun e w' => ∃ a cap, e = .returned (.slice a r.length cap) ∧ IdsAt w'.heap.size a r w' ∧ Below w.heap.size w w' := by
  subst hr
  refine (both_any l m hl hm ao bo c d w hv hu).mono ?_
  rintro e w1 ⟨v, rfl, hr, b1⟩
  obtain ⟨_, a2, cap2, rfl, _, hia⟩ := idsAt_of_owns hr
  exact ⟨a2, cap2, rfl, hia, b1⟩
theorem setR (l r : List I32) (hr : setI l = r) (hl : l.length ≤ 100000) (ao : Option Addr) (c : Nat) (w : World) (hv : IdsAt w.heap.size ao l w) :
    Calls Try.prog 10 #[.slice ao l.length c] w fun e w' => ∃ a cap, e = .returned (.slice a r.length cap) ∧ IdsAt w'.heap.size a r w' ∧ Below w.heap.size w w' := by
  subst hr
  refine (set_any l (by omega) ao c w hv).mono ?_
  rintro e w1 ⟨v, rfl, hr, b1⟩
  obtain ⟨_, a2, cap2, rfl, _, hia⟩ := idsAt_of_owns hr
  exact ⟨a2, cap2, rfl, hia, b1⟩
theorem toR (l : List I32) (hl : l.length ≤ 40) (ao : Option Addr) (c : Nat) (w : World) (hv : IdsAt w.heap.size ao l w) :
    Calls Try.prog 7 #[.slice ao l.length c] w fun e w' => ∃ a cap, e = .returned (.slice a l.length cap) ∧ IdsAt w'.heap.size a l w' ∧ Below w.heap.size w w' := by
  refine (to_any l hl ao c w hv).mono ?_
  rintro e w1 ⟨v, rfl, hr, b1⟩
  obtain ⟨_, a2, cap2, rfl, _, hia⟩ := idsAt_of_owns hr
  exact ⟨a2, cap2, rfl, hia, b1⟩
set_option maxRecDepth 100000 in
set_option maxHeartbeats 4000000 in
theorem algl_walk (va vb vc : Value) (la lb lc : List I32) (w : World) (hva : IdsArg va la w) (hvb : IdsArg vb lb w) (hvc : IdsArg vc lc w) :
    Calls Try.prog 5 #[va, vb, vc] w fun e w' => e = .returned (.bool true) ∧ Below w.heap.size w w' := by
  obtain ⟨aa, ca, rfl, hlca, hcma, _, hata⟩ := hva
  unfold maxLen at hcma
  obtain ⟨qa, hqa⟩ : ∃ q, q = min la.length 20 := ⟨_, rfl⟩
  have hmina : min (la.length : Int) 20 = (qa : Int) := by omega
  have hqca : (qa : Int) ≤ (ca : Int) := by omega
  have hq2a : qa ≤ 20 := by omega
  have hlqa : (la.take qa).length = qa := by rw [List.length_take]; omega
  have Ia0 := Lib.hid (hata.take qa)
  clear hata hqa
  generalize la.take qa = ma at *
  subst hlqa
  obtain ⟨ab, cb, rfl, hlcb, hcmb, _, hatb⟩ := hvb
  unfold maxLen at hcmb
  obtain ⟨qb, hqb⟩ : ∃ q, q = min lb.length 20 := ⟨_, rfl⟩
  have hminb : min (lb.length : Int) 20 = (qb : Int) := by omega
  have hqcb : (qb : Int) ≤ (cb : Int) := by omega
  have hq2b : qb ≤ 20 := by omega
  have hlqb : (lb.take qb).length = qb := by rw [List.length_take]; omega
  have Ib0 := Lib.hid (hatb.take qb)
  clear hatb hqb
  generalize lb.take qb = mb at *
  subst hlqb
  obtain ⟨ac, cc, rfl, hlcc, hcmc, _, hatc⟩ := hvc
  unfold maxLen at hcmc
  obtain ⟨qc, hqc⟩ : ∃ q, q = min lc.length 20 := ⟨_, rfl⟩
  have hminc : min (lc.length : Int) 20 = (qc : Int) := by omega
  have hqcc : (qc : Int) ≤ (cc : Int) := by omega
  have hq2c : qc ≤ 20 := by omega
  have hlqc : (lc.take qc).length = qc := by rw [List.length_take]; omega
  have Ic0 := Lib.hid (hatc.take qc)
  clear hatc hqc
  generalize lc.take qc = mc at *
  subst hlqc
  go_enter Try.func5, Try.ntmps5
  go_wp2_with fail
  refine wp_region_noPanic ?_
  refine wp_region_held_drew (S := fun w' => Below w.heap.size w w') (by kernel_rfl) (Below.refl _ _).drew (fun hHeld => ?_)
  refine takeL 0 (v := ?_) rfl (by kernel_rfl) (by kernel_rfl) (by kernel_rfl) (fun _ _ _ h => h) (by rfl) hHeld ?_ ?_
  rotate_left 1
  · intro w2 hSw; go_simp <;> with_reducible rfl
  try simp only [Act.put, List.setIfInBounds_toArray, List.set_cons_zero, List.set_cons_succ]
  refine takeL 1 (v := ?_) rfl (by kernel_rfl) (by kernel_rfl) (by kernel_rfl) (fun _ _ _ h => h) (by rfl) hHeld ?_ ?_
  rotate_left 1
  · intro w2 hSw; go_simp <;> with_reducible rfl
  try simp only [Act.put, List.setIfInBounds_toArray, List.set_cons_zero, List.set_cons_succ]
  refine takeL 2 (v := ?_) rfl (by kernel_rfl) (by kernel_rfl) (by kernel_rfl) (fun _ _ _ h => h) (by rfl) hHeld ?_ ?_
  rotate_left 1
  · intro w2 hSw; go_simp <;> with_reducible rfl
  try simp only [Act.put, List.setIfInBounds_toArray, List.set_cons_zero, List.set_cons_succ]
  refine takeL 3 (v := .int .i64 ma.length) rfl (by kernel_rfl) (by kernel_rfl) (by kernel_rfl) (fun _ _ _ h => h) (by rfl) hHeld ?_ ?_
  · intro w2 hSw; go_simp
  try simp only [Act.put, List.setIfInBounds_toArray, List.set_cons_zero, List.set_cons_succ]
  refine takeL 4 (v := .slice aa ma.length ca) rfl (by kernel_rfl) (by kernel_rfl) (by kernel_rfl) (fun _ _ _ h => h) (by rfl) hHeld ?_ ?_
  · intro w2 hSw; go_simp
  try simp only [Act.put, List.setIfInBounds_toArray, List.set_cons_zero, List.set_cons_succ]
  refine takeL 5 (v := ?_) rfl (by kernel_rfl) (by kernel_rfl) (by kernel_rfl) (fun _ _ _ h => h) (by rfl) hHeld ?_ ?_
  rotate_left 1
  · intro w2 hSw; go_simp <;> with_reducible rfl
  try simp only [Act.put, List.setIfInBounds_toArray, List.set_cons_zero, List.set_cons_succ]
  refine takeL 6 (v := ?_) rfl (by kernel_rfl) (by kernel_rfl) (by kernel_rfl) (fun _ _ _ h => h) (by rfl) hHeld ?_ ?_
  rotate_left 1
  · intro w2 hSw; go_simp <;> with_reducible rfl
  try simp only [Act.put, List.setIfInBounds_toArray, List.set_cons_zero, List.set_cons_succ]
  refine takeL 7 (v := ?_) rfl (by kernel_rfl) (by kernel_rfl) (by kernel_rfl) (fun _ _ _ h => h) (by rfl) hHeld ?_ ?_
  rotate_left 1
  · intro w2 hSw; go_simp <;> with_reducible rfl
  try simp only [Act.put, List.setIfInBounds_toArray, List.set_cons_zero, List.set_cons_succ]
  refine takeL 8 (v := .int .i64 mb.length) rfl (by kernel_rfl) (by kernel_rfl) (by kernel_rfl) (fun _ _ _ h => h) (by rfl) hHeld ?_ ?_
  · intro w2 hSw; go_simp
  try simp only [Act.put, List.setIfInBounds_toArray, List.set_cons_zero, List.set_cons_succ]
  refine takeL 9 (v := .slice ab mb.length cb) rfl (by kernel_rfl) (by kernel_rfl) (by kernel_rfl) (fun _ _ _ h => h) (by rfl) hHeld ?_ ?_
  · intro w2 hSw; go_simp
  try simp only [Act.put, List.setIfInBounds_toArray, List.set_cons_zero, List.set_cons_succ]
  refine takeL 10 (v := ?_) rfl (by kernel_rfl) (by kernel_rfl) (by kernel_rfl) (fun _ _ _ h => h) (by rfl) hHeld ?_ ?_
  rotate_left 1
  · intro w2 hSw; go_simp <;> with_reducible rfl
  try simp only [Act.put, List.setIfInBounds_toArray, List.set_cons_zero, List.set_cons_succ]
  refine takeL 11 (v := ?_) rfl (by kernel_rfl) (by kernel_rfl) (by kernel_rfl) (fun _ _ _ h => h) (by rfl) hHeld ?_ ?_
  rotate_left 1
  · intro w2 hSw; go_simp <;> with_reducible rfl
  try simp only [Act.put, List.setIfInBounds_toArray, List.set_cons_zero, List.set_cons_succ]
  refine takeL 12 (v := ?_) rfl (by kernel_rfl) (by kernel_rfl) (by kernel_rfl) (fun _ _ _ h => h) (by rfl) hHeld ?_ ?_
  rotate_left 1
  · intro w2 hSw; go_simp <;> with_reducible rfl
  try simp only [Act.put, List.setIfInBounds_toArray, List.set_cons_zero, List.set_cons_succ]
  refine takeL 13 (v := .int .i64 mc.length) rfl (by kernel_rfl) (by kernel_rfl) (by kernel_rfl) (fun _ _ _ h => h) (by rfl) hHeld ?_ ?_
  · intro w2 hSw; go_simp
  try simp only [Act.put, List.setIfInBounds_toArray, List.set_cons_zero, List.set_cons_succ]
  refine takeL 14 (v := .slice ac mc.length cc) rfl (by kernel_rfl) (by kernel_rfl) (by kernel_rfl) (fun _ _ _ h => h) (by rfl) hHeld ?_ ?_
  · intro w2 hSw; go_simp
  try simp only [Act.put, List.setIfInBounds_toArray, List.set_cons_zero, List.set_cons_succ]
  refine takeL 15 (v := ?_) rfl (by kernel_rfl) (by kernel_rfl) (by kernel_rfl) (fun _ _ _ h => h) (by rfl) hHeld ?_ ?_
  rotate_left 1
  · intro w2 hSw; go_simp <;> with_reducible rfl
  try simp only [Act.put, List.setIfInBounds_toArray, List.set_cons_zero, List.set_cons_succ]
  refine takeL 16 (v := ?_) rfl (by kernel_rfl) (by kernel_rfl) (by kernel_rfl) (fun _ _ _ h => h) (by rfl) hHeld ?_ ?_
  rotate_left 1
  · intro w2 hSw; go_simp <;> with_reducible rfl
  try simp only [Act.put, List.setIfInBounds_toArray, List.set_cons_zero, List.set_cons_succ]
  refine takeL 17 (v := ?_) rfl (by kernel_rfl) (by kernel_rfl) (by kernel_rfl) (fun _ _ _ h => h) (by rfl) hHeld ?_ ?_
  rotate_left 1
  · intro w2 hSw; go_simp <;> with_reducible rfl
  try simp only [Act.put, List.setIfInBounds_toArray, List.set_cons_zero, List.set_cons_succ]
  refine wpAnyH_done (by kernel_rfl) ?_ _
  refine NoPanic.normal ?_
  obtain ⟨w0, hw0⟩ : ∃ w0, w.drew = w0 := ⟨_, rfl⟩
  rw [hw0] at hHeld
  have b0 := hHeld
  try rw [hw0]
  clear hHeld hw0
  obtain ⟨r1, hr1⟩ : ∃ r, opL keepU mb mc = r := ⟨_, rfl⟩
  obtain ⟨r2, hr2⟩ : ∃ r, opL keepM ma r1 = r := ⟨_, rfl⟩
  obtain ⟨r3, hr3⟩ : ∃ r, opL keepM ma mb = r := ⟨_, rfl⟩
  obtain ⟨r4, hr4⟩ : ∃ r, opL keepM r3 mc = r := ⟨_, rfl⟩
  obtain ⟨r5, hr5⟩ : ∃ r, opL keepB ma mb = r := ⟨_, rfl⟩
  obtain ⟨r6, hr6⟩ : ∃ r, opL keepU r5 r3 = r := ⟨_, rfl⟩
  obtain ⟨r7, hr7⟩ : ∃ r, setI ma = r := ⟨_, rfl⟩
  have e1 : decide (r2 = r4) = true := by rw [← hr2, ← hr4, ← hr3, ← hr1, alg1]; simp
  have e2 : decide (r6 = r7) = true := by rw [← hr6, ← hr7, ← hr5, ← hr3, alg2]; simp
  have n1 : r1.length ≤ 40 := by have := opL_len keepU mb mc; rw [hr1] at this; omega
  have n2 : r2.length ≤ 40 := by have := minus_len ma r1; rw [hr2] at this; omega
  have n3 : r3.length ≤ 40 := by have := minus_len ma mb; rw [hr3] at this; omega
  have n4 : r4.length ≤ 40 := by have := minus_len r3 mc; rw [hr4] at this; omega
  have n5 : r5.length ≤ 40 := by have := opL_len keepB ma mb; rw [hr5] at this; omega
  have n6 : r6.length ≤ 80 := by have := opL_len keepU r5 r3; rw [hr6] at this; omega
  have n7 : r7.length ≤ 40 := by have := setI_le ma; rw [hr7] at this; omega
  have H1 := Lib.hid hr1
  have H2 := Lib.hid hr2
  have H3 := Lib.hid hr3
  have H4 := Lib.hid hr4
  have H5 := Lib.hid hr5
  have H6 := Lib.hid hr6
  have H7 := Lib.hid hr7
  have E1 := Lib.hid e1
  have E2 := Lib.hid e2
  clear hr1 hr2 hr3 hr4 hr5 hr6 hr7 e1 e2
  have Jma := Lib.hid ((Ia0.out.below b0 (Nat.le_refl _)).mono b0.size)
  have Jmb := Lib.hid ((Ib0.out.below b0 (Nat.le_refl _)).mono b0.size)
  have Jmc := Lib.hid ((Ic0.out.below b0 (Nat.le_refl _)).mono b0.size)
  clear Ia0 Ib0 Ic0
  go_wp2_with fail
  refine (known_any _).mono ?_
  rintro e w1 ⟨rfl, bb⟩
  have b0 := b0.trans (bb.mono b0.size)
  replace Jma := Lib.hid ((Jma.out.below bb (Nat.le_refl _)).mono bb.size)
  replace Jmb := Lib.hid ((Jmb.out.below bb (Nat.le_refl _)).mono bb.size)
  replace Jmc := Lib.hid ((Jmc.out.below bb (Nat.le_refl _)).mono bb.size)
  clear bb
  go_wp2_with fail
  refine (unionR mb mc r1 H1.out (by omega) (by omega) _ _ _ _ _ Jmb.out Jmc.out).mono ?_
  rintro e w2 ⟨x1, px1, rfl, hia, bb⟩
  have b0 := b0.trans (bb.mono b0.size)
  replace Jma := Lib.hid ((Jma.out.below bb (Nat.le_refl _)).mono bb.size)
  replace Jmb := Lib.hid ((Jmb.out.below bb (Nat.le_refl _)).mono bb.size)
  replace Jmc := Lib.hid ((Jmc.out.below bb (Nat.le_refl _)).mono bb.size)
  clear bb
  have Jr1 := Lib.hid hia
  clear hia
  go_wp2_with fail
  refine (minusR ma r1 r2 H2.out (by omega) (by omega) _ _ _ _ _ Jma.out Jr1.out).mono ?_
  rintro e w3 ⟨x2, px2, rfl, hia, bb⟩
  have b0 := b0.trans (bb.mono b0.size)
  replace Jma := Lib.hid ((Jma.out.below bb (Nat.le_refl _)).mono bb.size)
  replace Jmb := Lib.hid ((Jmb.out.below bb (Nat.le_refl _)).mono bb.size)
  replace Jmc := Lib.hid ((Jmc.out.below bb (Nat.le_refl _)).mono bb.size)
  replace Jr1 := Lib.hid ((Jr1.out.below bb (Nat.le_refl _)).mono bb.size)
  clear bb
  have Jr2 := Lib.hid hia
  clear hia
  go_wp2_with fail
  refine (minusR ma mb r3 H3.out (by omega) (by omega) _ _ _ _ _ Jma.out Jmb.out).mono ?_
  rintro e w4 ⟨x3, px3, rfl, hia, bb⟩
  have b0 := b0.trans (bb.mono b0.size)
  replace Jma := Lib.hid ((Jma.out.below bb (Nat.le_refl _)).mono bb.size)
  replace Jmb := Lib.hid ((Jmb.out.below bb (Nat.le_refl _)).mono bb.size)
  replace Jmc := Lib.hid ((Jmc.out.below bb (Nat.le_refl _)).mono bb.size)
  replace Jr1 := Lib.hid ((Jr1.out.below bb (Nat.le_refl _)).mono bb.size)
  replace Jr2 := Lib.hid ((Jr2.out.below bb (Nat.le_refl _)).mono bb.size)
  clear bb
  have Jr3 := Lib.hid hia
  clear hia
  go_wp2_with fail
  refine (minusR r3 mc r4 H4.out (by omega) (by omega) _ _ _ _ _ Jr3.out Jmc.out).mono ?_
  rintro e w5 ⟨x4, px4, rfl, hia, bb⟩
  have b0 := b0.trans (bb.mono b0.size)
  replace Jma := Lib.hid ((Jma.out.below bb (Nat.le_refl _)).mono bb.size)
  replace Jmb := Lib.hid ((Jmb.out.below bb (Nat.le_refl _)).mono bb.size)
  replace Jmc := Lib.hid ((Jmc.out.below bb (Nat.le_refl _)).mono bb.size)
  replace Jr1 := Lib.hid ((Jr1.out.below bb (Nat.le_refl _)).mono bb.size)
  replace Jr2 := Lib.hid ((Jr2.out.below bb (Nat.le_refl _)).mono bb.size)
  replace Jr3 := Lib.hid ((Jr3.out.below bb (Nat.le_refl _)).mono bb.size)
  clear bb
  have Jr4 := Lib.hid hia
  clear hia
  clear Jr3
  go_wp2_with fail
  refine (toR r4 (by omega) _ _ _ Jr4.out).mono ?_
  rintro e w6 ⟨x5, px5, rfl, hia, bb⟩
  have b0 := b0.trans (bb.mono b0.size)
  replace Jma := Lib.hid ((Jma.out.below bb (Nat.le_refl _)).mono bb.size)
  replace Jmb := Lib.hid ((Jmb.out.below bb (Nat.le_refl _)).mono bb.size)
  replace Jmc := Lib.hid ((Jmc.out.below bb (Nat.le_refl _)).mono bb.size)
  replace Jr1 := Lib.hid ((Jr1.out.below bb (Nat.le_refl _)).mono bb.size)
  replace Jr2 := Lib.hid ((Jr2.out.below bb (Nat.le_refl _)).mono bb.size)
  replace Jr4 := Lib.hid ((Jr4.out.below bb (Nat.le_refl _)).mono bb.size)
  clear bb
  have Jt := Lib.hid hia
  clear hia Jr4
  go_wp2_with fail
  refine (equal_any r2 r4 (by omega) (by omega) _ _ _ _ _ Jr2.out Jt.out).mono ?_
  rintro e w7 ⟨rfl, bb⟩
  have b0 := b0.trans (bb.mono b0.size)
  replace Jma := Lib.hid ((Jma.out.below bb (Nat.le_refl _)).mono bb.size)
  replace Jmb := Lib.hid ((Jmb.out.below bb (Nat.le_refl _)).mono bb.size)
  replace Jmc := Lib.hid ((Jmc.out.below bb (Nat.le_refl _)).mono bb.size)
  replace Jr1 := Lib.hid ((Jr1.out.below bb (Nat.le_refl _)).mono bb.size)
  replace Jr2 := Lib.hid ((Jr2.out.below bb (Nat.le_refl _)).mono bb.size)
  clear bb
  rw [E1.out]
  clear Jr2 Jt Jr1
  go_wp2_with fail
  refine (bothR ma mb r5 H5.out (by omega) (by omega) _ _ _ _ _ Jma.out Jmb.out).mono ?_
  rintro e w8 ⟨x6, px6, rfl, hia, bb⟩
  have b0 := b0.trans (bb.mono b0.size)
  replace Jma := Lib.hid ((Jma.out.below bb (Nat.le_refl _)).mono bb.size)
  replace Jmb := Lib.hid ((Jmb.out.below bb (Nat.le_refl _)).mono bb.size)
  replace Jmc := Lib.hid ((Jmc.out.below bb (Nat.le_refl _)).mono bb.size)
  clear bb
  have Jr5 := Lib.hid hia
  clear hia
  go_wp2_with fail
  refine (minusR ma mb r3 H3.out (by omega) (by omega) _ _ _ _ _ Jma.out Jmb.out).mono ?_
  rintro e w9 ⟨x7, px7, rfl, hia, bb⟩
  have b0 := b0.trans (bb.mono b0.size)
  replace Jma := Lib.hid ((Jma.out.below bb (Nat.le_refl _)).mono bb.size)
  replace Jmb := Lib.hid ((Jmb.out.below bb (Nat.le_refl _)).mono bb.size)
  replace Jmc := Lib.hid ((Jmc.out.below bb (Nat.le_refl _)).mono bb.size)
  replace Jr5 := Lib.hid ((Jr5.out.below bb (Nat.le_refl _)).mono bb.size)
  clear bb
  have Jr3 := Lib.hid hia
  clear hia
  go_wp2_with fail
  refine (unionR r5 r3 r6 H6.out (by omega) (by omega) _ _ _ _ _ Jr5.out Jr3.out).mono ?_
  rintro e w10 ⟨x8, px8, rfl, hia, bb⟩
  have b0 := b0.trans (bb.mono b0.size)
  replace Jma := Lib.hid ((Jma.out.below bb (Nat.le_refl _)).mono bb.size)
  replace Jmb := Lib.hid ((Jmb.out.below bb (Nat.le_refl _)).mono bb.size)
  replace Jmc := Lib.hid ((Jmc.out.below bb (Nat.le_refl _)).mono bb.size)
  replace Jr5 := Lib.hid ((Jr5.out.below bb (Nat.le_refl _)).mono bb.size)
  replace Jr3 := Lib.hid ((Jr3.out.below bb (Nat.le_refl _)).mono bb.size)
  clear bb
  have Jr6 := Lib.hid hia
  clear hia
  go_wp2_with fail
  refine (setR ma r7 H7.out (by omega) _ _ _ Jma.out).mono ?_
  rintro e w11 ⟨x9, px9, rfl, hia, bb⟩
  have b0 := b0.trans (bb.mono b0.size)
  replace Jma := Lib.hid ((Jma.out.below bb (Nat.le_refl _)).mono bb.size)
  replace Jmb := Lib.hid ((Jmb.out.below bb (Nat.le_refl _)).mono bb.size)
  replace Jmc := Lib.hid ((Jmc.out.below bb (Nat.le_refl _)).mono bb.size)
  replace Jr5 := Lib.hid ((Jr5.out.below bb (Nat.le_refl _)).mono bb.size)
  replace Jr3 := Lib.hid ((Jr3.out.below bb (Nat.le_refl _)).mono bb.size)
  replace Jr6 := Lib.hid ((Jr6.out.below bb (Nat.le_refl _)).mono bb.size)
  clear bb
  have Jr7 := Lib.hid hia
  clear hia
  go_wp2_with fail
  refine (toR r7 (by omega) _ _ _ Jr7.out).mono ?_
  rintro e w12 ⟨x10, px10, rfl, hia, bb⟩
  have b0 := b0.trans (bb.mono b0.size)
  replace Jma := Lib.hid ((Jma.out.below bb (Nat.le_refl _)).mono bb.size)
  replace Jmb := Lib.hid ((Jmb.out.below bb (Nat.le_refl _)).mono bb.size)
  replace Jmc := Lib.hid ((Jmc.out.below bb (Nat.le_refl _)).mono bb.size)
  replace Jr5 := Lib.hid ((Jr5.out.below bb (Nat.le_refl _)).mono bb.size)
  replace Jr3 := Lib.hid ((Jr3.out.below bb (Nat.le_refl _)).mono bb.size)
  replace Jr6 := Lib.hid ((Jr6.out.below bb (Nat.le_refl _)).mono bb.size)
  replace Jr7 := Lib.hid ((Jr7.out.below bb (Nat.le_refl _)).mono bb.size)
  clear bb
  have Jt := Lib.hid hia
  clear hia Jr7
  go_wp2_with fail
  refine (equal_any r6 r7 (by omega) (by omega) _ _ _ _ _ Jr6.out Jt.out).mono ?_
  rintro e w13 ⟨rfl, bb⟩
  have b0 := b0.trans (bb.mono b0.size)
  replace Jma := Lib.hid ((Jma.out.below bb (Nat.le_refl _)).mono bb.size)
  replace Jmb := Lib.hid ((Jmb.out.below bb (Nat.le_refl _)).mono bb.size)
  replace Jmc := Lib.hid ((Jmc.out.below bb (Nat.le_refl _)).mono bb.size)
  replace Jr5 := Lib.hid ((Jr5.out.below bb (Nat.le_refl _)).mono bb.size)
  replace Jr3 := Lib.hid ((Jr3.out.below bb (Nat.le_refl _)).mono bb.size)
  replace Jr6 := Lib.hid ((Jr6.out.below bb (Nat.le_refl _)).mono bb.size)
  clear bb
  rw [E2.out]
  go_wp2
  go_ret
  exact ⟨rfl, b0⟩
end Go.Proofs.Ytnoilnmkdahhiaa
