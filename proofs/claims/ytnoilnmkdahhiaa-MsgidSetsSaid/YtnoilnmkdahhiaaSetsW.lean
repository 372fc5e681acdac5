/- The walk of the law MsgidSets. -/
import Derived.Test.YtnoilnmkdahhiaaRefPick
import Derived.Test.YtnoilnmkdahhiaaAlgW
namespace Go.Proofs.Ytnoilnmkdahhiaa
open Go.RowKit
set_option linter.unusedSimpArgs false

theorem rsetR (l r : List I32) (hr : setI l = r) (hl : l.length ≤ 100000) (ao : Option Addr) (c : Nat) (w : World) (hv : IdsAt w.heap.size ao l w) :
    Calls Try.prog 12 #[.slice ao l.length c] w fun e w' => ∃ a cap, e = .returned (.slice a r.length cap) ∧ IdsAt w'.heap.size a r w' ∧ Below w.heap.size w w' := by
  subst hr
  have h := rset_any l hl ao c w hv
  rw [refSet_eq] at h
  refine h.mono ?_
  rintro e w1 ⟨v, rfl, hr, b1⟩
  obtain ⟨_, a2, cap2, rfl, _, hia⟩ := idsAt_of_owns hr
  exact ⟨a2, cap2, rfl, hia, b1⟩
theorem pickR (l m r : List I32) (both : Bool) (hr : setI (l.filter fun x => decide (x ∈ m) == both) = r) (hl : l.length ≤ 100000) (hm : m.length ≤ 100000) (ao bo : Option Addr) (c d : Nat) (w : World) (hv : IdsAt w.heap.size ao l w) (hu : IdsAt w.heap.size bo m w) :
    Calls Try.prog 15 #[.slice ao l.length c, .slice bo m.length d, .bool both] w fun e w' => ∃ a cap, e = .returned (.slice a r.length cap) ∧ IdsAt w'.heap.size a r w' ∧ Below w.heap.size w w' := by
  subst hr
  refine (pick_any l m both hl hm ao bo c d w hv hu).mono ?_
  rintro e w1 ⟨v, rfl, hr, b1⟩
  obtain ⟨_, a2, cap2, rfl, _, hia⟩ := idsAt_of_owns hr
  exact ⟨a2, cap2, rfl, hia, b1⟩
theorem toN (l : List I32) (hl : l.length ≤ 40) (ao : Option Addr) (c : Nat) (w : World) (hv : IdsAt w.heap.size ao l w) :
    Calls Try.prog 7 #[.slice ao l.length c] w fun e w' => ∃ a cap, e = .returned (.slice a l.length cap) ∧ (a = none → l.length = 0 ∧ cap = 0) ∧ IdsAt w'.heap.size a l w' ∧ Below w.heap.size w w' := by
  refine (to_any l hl ao c w hv).mono ?_
  rintro e w1 ⟨v, rfl, hr, b1⟩
  obtain ⟨_, a2, cap2, rfl, hn, hia⟩ := idsAt_of_owns hr
  exact ⟨a2, cap2, rfl, hn, hia, b1⟩
set_option maxRecDepth 100000 in
set_option maxHeartbeats 4000000 in
theorem setsl_walk (va vb : Value) (la lb : List I32) (w : World) (hva : IdsArg va la w) (hvb : IdsArg vb lb w) :
    Calls Try.prog 4 #[va, vb] w fun e w' => e = .returned (.bool true) ∧ Below w.heap.size w w' := by
  obtain ⟨aa, ca, rfl, hlca, hcma, _, hata⟩ := hva
  unfold maxLen at hcma
  obtain ⟨qa, hqa⟩ : ∃ q, q = min la.length 40 := ⟨_, rfl⟩
  have hmina : min (la.length : Int) 40 = (qa : Int) := by omega
  have hqca : (qa : Int) ≤ (ca : Int) := by omega
  have hq2a : qa ≤ 40 := by omega
  have hlqa : (la.take qa).length = qa := by rw [List.length_take]; omega
  have Ia0 := Lib.hid (hata.take qa)
  clear hata hqa
  generalize la.take qa = ma at *
  subst hlqa
  obtain ⟨ab, cb, rfl, hlcb, hcmb, _, hatb⟩ := hvb
  unfold maxLen at hcmb
  obtain ⟨qb, hqb⟩ : ∃ q, q = min lb.length 40 := ⟨_, rfl⟩
  have hminb : min (lb.length : Int) 40 = (qb : Int) := by omega
  have hqcb : (qb : Int) ≤ (cb : Int) := by omega
  have hq2b : qb ≤ 40 := by omega
  have hlqb : (lb.take qb).length = qb := by rw [List.length_take]; omega
  have Ib0 := Lib.hid (hatb.take qb)
  clear hatb hqb
  generalize lb.take qb = mb at *
  subst hlqb
  obtain ⟨i0, hi, hz0, hz1, hz2⟩ := info_parts infoRid
  have HI := Lib.hid hi
  clear hi
  go_enter Try.func4, Try.ntmps4
  go_wp2_with fail
  refine wp_region_noPanic ?_
  refine wp_region_held_drew (S := fun w' => Below w.heap.size w w') (by kernel_rfl) ((Below.refl _ _).drew) (fun hHeld => ?_)
  refine takeL 0 (v := ?_) rfl (by kernel_rfl) (by kernel_rfl) (by kernel_rfl) (fun _ _ _ h => h) (by rfl) hHeld ?_ ?_
  rotate_left 1
  · intro w2 hSw; go_simp <;> with_reducible rfl
  try simp only [Act.put, List.setIfInBounds_toArray, List.set_cons_zero, List.set_cons_succ]
  refine takeL 1 (v := ?_) rfl (by kernel_rfl) (by kernel_rfl) (by kernel_rfl) (fun _ _ _ h => h) (by rfl) hHeld ?_ ?_
  rotate_left 1
  · intro w2 hSw; go_simp <;> with_reducible rfl
  try simp only [Act.put, List.setIfInBounds_toArray, List.set_cons_zero, List.set_cons_succ]
  refine takeL 2 (v := ?_) rfl (by kernel_rfl) (by kernel_rfl) (by kernel_rfl) (fun _ _ _ h => h) (by rfl) hHeld ?_ ?_
  rotate_left 1
  · intro w2 hSw; go_simp <;> with_reducible rfl
  try simp only [Act.put, List.setIfInBounds_toArray, List.set_cons_zero, List.set_cons_succ]
  refine takeL 3 (v := .int .i64 ma.length) rfl (by kernel_rfl) (by kernel_rfl) (by kernel_rfl) (fun _ _ _ h => h) (by rfl) hHeld ?_ ?_
  · intro w2 hSw; go_simp
  try simp only [Act.put, List.setIfInBounds_toArray, List.set_cons_zero, List.set_cons_succ]
  refine takeL 4 (v := .slice aa ma.length ca) rfl (by kernel_rfl) (by kernel_rfl) (by kernel_rfl) (fun _ _ _ h => h) (by rfl) hHeld ?_ ?_
  · intro w2 hSw; go_simp
  try simp only [Act.put, List.setIfInBounds_toArray, List.set_cons_zero, List.set_cons_succ]
  refine takeL 5 (v := ?_) rfl (by kernel_rfl) (by kernel_rfl) (by kernel_rfl) (fun _ _ _ h => h) (by rfl) hHeld ?_ ?_
  rotate_left 1
  · intro w2 hSw; go_simp <;> with_reducible rfl
  try simp only [Act.put, List.setIfInBounds_toArray, List.set_cons_zero, List.set_cons_succ]
  refine takeL 6 (v := ?_) rfl (by kernel_rfl) (by kernel_rfl) (by kernel_rfl) (fun _ _ _ h => h) (by rfl) hHeld ?_ ?_
  rotate_left 1
  · intro w2 hSw; go_simp <;> with_reducible rfl
  try simp only [Act.put, List.setIfInBounds_toArray, List.set_cons_zero, List.set_cons_succ]
  refine takeL 7 (v := ?_) rfl (by kernel_rfl) (by kernel_rfl) (by kernel_rfl) (fun _ _ _ h => h) (by rfl) hHeld ?_ ?_
  rotate_left 1
  · intro w2 hSw; go_simp <;> with_reducible rfl
  try simp only [Act.put, List.setIfInBounds_toArray, List.set_cons_zero, List.set_cons_succ]
  refine takeL 8 (v := .int .i64 mb.length) rfl (by kernel_rfl) (by kernel_rfl) (by kernel_rfl) (fun _ _ _ h => h) (by rfl) hHeld ?_ ?_
  · intro w2 hSw; go_simp
  try simp only [Act.put, List.setIfInBounds_toArray, List.set_cons_zero, List.set_cons_succ]
  refine takeL 9 (v := .slice ab mb.length cb) rfl (by kernel_rfl) (by kernel_rfl) (by kernel_rfl) (fun _ _ _ h => h) (by rfl) hHeld ?_ ?_
  · intro w2 hSw; go_simp
  try simp only [Act.put, List.setIfInBounds_toArray, List.set_cons_zero, List.set_cons_succ]
  refine takeL 10 (v := ?_) rfl (by kernel_rfl) (by kernel_rfl) (by kernel_rfl) (fun _ _ _ h => h) (by rfl) hHeld ?_ ?_
  rotate_left 1
  · intro w2 hSw; go_simp <;> with_reducible rfl
  try simp only [Act.put, List.setIfInBounds_toArray, List.set_cons_zero, List.set_cons_succ]
  refine takeL 11 (v := ?_) rfl (by kernel_rfl) (by kernel_rfl) (by kernel_rfl) (fun _ _ _ h => h) (by rfl) hHeld ?_ ?_
  rotate_left 1
  · intro w2 hSw; go_simp <;> with_reducible rfl
  try simp only [Act.put, List.setIfInBounds_toArray, List.set_cons_zero, List.set_cons_succ]
  refine wpAnyH_done (by kernel_rfl) ?_ _
  refine NoPanic.normal ?_
  obtain ⟨w0, hw0⟩ : ∃ w0, w.drew = w0 := ⟨_, rfl⟩
  rw [hw0] at hHeld
  have b0 := hHeld
  try rw [hw0]
  clear hHeld hw0
  have Ja := Lib.hid ((Ia0.out.below b0 (Nat.le_refl _)).mono b0.size)
  have Jb := Lib.hid ((Ib0.out.below b0 (Nat.le_refl _)).mono b0.size)
  clear Ia0 Ib0
  obtain ⟨r1, hr1⟩ : ∃ r, setI ma = r := ⟨_, rfl⟩
  obtain ⟨r2, hr2⟩ : ∃ r, opL keepU ma mb = r := ⟨_, rfl⟩
  obtain ⟨r3, hr3⟩ : ∃ r, opL keepM ma mb = r := ⟨_, rfl⟩
  obtain ⟨r4, hr4⟩ : ∃ r, opL keepB ma mb = r := ⟨_, rfl⟩
  have n1 : r1.length ≤ 40 := by have := setI_le ma; rw [hr1] at this; omega
  have n2 : r2.length ≤ 80 := by have := opL_len keepU ma mb; rw [hr2] at this; omega
  have n3 : r3.length ≤ 80 := by have := opL_len keepM ma mb; rw [hr3] at this; omega
  have n4 : r4.length ≤ 80 := by have := opL_len keepB ma mb; rw [hr4] at this; omega
  have S1 := Lib.hid hr1
  have S2 := Lib.hid ((union_set ma mb).symm.trans hr2)
  have S3 := Lib.hid ((minus_set ma mb).symm.trans hr3)
  have S4 := Lib.hid ((both_set ma mb).symm.trans hr4)
  have H2 := Lib.hid hr2
  have H3 := Lib.hid hr3
  have H4 := Lib.hid hr4
  clear hr1 hr2 hr3 hr4
  go_wp2_with fail
  refine (toN ma (by omega) _ _ _ Ja.out).mono ?_
  rintro e w1 ⟨xa, pxa, rfl, _, hia, bb⟩
  have b0 := b0.trans (bb.mono b0.size)
  replace Ja := Lib.hid ((Ja.out.below bb (Nat.le_refl _)).mono bb.size)
  replace Jb := Lib.hid ((Jb.out.below bb (Nat.le_refl _)).mono bb.size)
  clear bb
  have Jx := Lib.hid hia
  clear hia
  go_wp2_with fail
  refine (toN mb (by omega) _ _ _ Jb.out).mono ?_
  rintro e w2 ⟨xb, pxb, rfl, hnb, hia, bb⟩
  have b0 := b0.trans (bb.mono b0.size)
  replace Ja := Lib.hid ((Ja.out.below bb (Nat.le_refl _)).mono bb.size)
  replace Jb := Lib.hid ((Jb.out.below bb (Nat.le_refl _)).mono bb.size)
  replace Jx := Lib.hid ((Jx.out.below bb (Nat.le_refl _)).mono bb.size)
  clear bb
  have Jy := Lib.hid hia
  clear hia
  have HXB := Lib.hid hnb
  clear hnb
  go_wp2_with fail
  refine (known_any _).mono ?_
  rintro e w3 ⟨rfl, bb⟩
  have b0 := b0.trans (bb.mono b0.size)
  replace Ja := Lib.hid ((Ja.out.below bb (Nat.le_refl _)).mono bb.size)
  replace Jb := Lib.hid ((Jb.out.below bb (Nat.le_refl _)).mono bb.size)
  replace Jx := Lib.hid ((Jx.out.below bb (Nat.le_refl _)).mono bb.size)
  replace Jy := Lib.hid ((Jy.out.below bb (Nat.le_refl _)).mono bb.size)
  clear bb
  go_wp2_with fail
  refine (setR ma r1 S1.out (by omega) _ _ _ Ja.out).mono ?_
  rintro e w4 ⟨x1, px1, rfl, hia, bb⟩
  have b0 := b0.trans (bb.mono b0.size)
  replace Ja := Lib.hid ((Ja.out.below bb (Nat.le_refl _)).mono bb.size)
  replace Jb := Lib.hid ((Jb.out.below bb (Nat.le_refl _)).mono bb.size)
  replace Jx := Lib.hid ((Jx.out.below bb (Nat.le_refl _)).mono bb.size)
  replace Jy := Lib.hid ((Jy.out.below bb (Nat.le_refl _)).mono bb.size)
  clear bb
  have Jp := Lib.hid hia
  clear hia
  go_wp2_with fail
  refine (rsetR ma r1 S1.out (by omega) _ _ _ Jx.out).mono ?_
  rintro e w5 ⟨x2, px2, rfl, hia, bb⟩
  have b0 := b0.trans (bb.mono b0.size)
  replace Ja := Lib.hid ((Ja.out.below bb (Nat.le_refl _)).mono bb.size)
  replace Jb := Lib.hid ((Jb.out.below bb (Nat.le_refl _)).mono bb.size)
  replace Jx := Lib.hid ((Jx.out.below bb (Nat.le_refl _)).mono bb.size)
  replace Jy := Lib.hid ((Jy.out.below bb (Nat.le_refl _)).mono bb.size)
  replace Jp := Lib.hid ((Jp.out.below bb (Nat.le_refl _)).mono bb.size)
  clear bb
  have Jq := Lib.hid hia
  clear hia
  go_wp2_with fail
  refine (equal_any r1 r1 (by omega) (by omega) _ _ _ _ _ Jp.out Jq.out).mono ?_
  rintro e w6 ⟨rfl, bb⟩
  have b0 := b0.trans (bb.mono b0.size)
  replace Ja := Lib.hid ((Ja.out.below bb (Nat.le_refl _)).mono bb.size)
  replace Jb := Lib.hid ((Jb.out.below bb (Nat.le_refl _)).mono bb.size)
  replace Jx := Lib.hid ((Jx.out.below bb (Nat.le_refl _)).mono bb.size)
  replace Jy := Lib.hid ((Jy.out.below bb (Nat.le_refl _)).mono bb.size)
  replace Jp := Lib.hid ((Jp.out.below bb (Nat.le_refl _)).mono bb.size)
  replace Jq := Lib.hid ((Jq.out.below bb (Nat.le_refl _)).mono bb.size)
  clear bb
  rw [decide_eq_true (rfl : r1 = r1)]
  clear Jp
  clear Jq
  go_wp2_with fail
  refine (unionR ma mb r2 H2.out (by omega) (by omega) _ _ _ _ _ Ja.out Jb.out).mono ?_
  rintro e w7 ⟨x3, px3, rfl, hia, bb⟩
  have b0 := b0.trans (bb.mono b0.size)
  replace Ja := Lib.hid ((Ja.out.below bb (Nat.le_refl _)).mono bb.size)
  replace Jb := Lib.hid ((Jb.out.below bb (Nat.le_refl _)).mono bb.size)
  replace Jx := Lib.hid ((Jx.out.below bb (Nat.le_refl _)).mono bb.size)
  replace Jy := Lib.hid ((Jy.out.below bb (Nat.le_refl _)).mono bb.size)
  clear bb
  have Jp := Lib.hid hia
  clear hia
  go_wp2_with fail
  refine (to_any ma (by omega) _ _ _ Ja.out).mono ?_
  rintro e w8 ⟨v0, rfl, ov0, bb⟩
  have OV := Lib.hid ov0
  have BB := Lib.hid bb
  clear bb ov0
  have JY := Lib.hid ((Jy.out.below BB.out (Nat.le_refl _)))
  go_wp2_with (at_builtin; refine wpList_append_from (.inr (by rfl)) (.tmp 34) (.tmp 35) 26 (by rfl) w7.heap.size 28 i0 _ 32 32 Try.underlying26 HI.out hz0 hz1 hz2 (by simp [Value.cells]) (by decide) _ ma.length _ (by rfl) OV.out _ mb.length _ (by rfl) HXB.out (idcs mb) (by rw [idcs_len]) (ids_news JY.out) (idcs_one _) (by unfold maxLen; omega) (by omega) BB.out.size ?_)
  intro v1 w9 ov1 g1 _
  have bb := BB.out.grown g1 BB.out.size (fun j hj => (OV.out.lt j hj).1)
  rw [← idcs_app] at ov1
  have ov2 := owns_relen ov1
  have S2q := S2.out
  have hml : (ma ++ mb).length ≤ 80 := by rw [List.length_append]; omega
  generalize ma ++ mb = mab at ov2 S2q hml
  have S2r := Lib.hid S2q
  clear S2q
  obtain ⟨_, x4, px4, rfl, _, hia⟩ := idsAt_of_owns ov2
  have b0 := b0.trans (bb.mono b0.size)
  replace Ja := Lib.hid ((Ja.out.below bb (Nat.le_refl _)).mono bb.size)
  replace Jb := Lib.hid ((Jb.out.below bb (Nat.le_refl _)).mono bb.size)
  replace Jx := Lib.hid ((Jx.out.below bb (Nat.le_refl _)).mono bb.size)
  replace Jy := Lib.hid ((Jy.out.below bb (Nat.le_refl _)).mono bb.size)
  replace Jp := Lib.hid ((Jp.out.below bb (Nat.le_refl _)).mono bb.size)
  have Jt := Lib.hid hia
  clear hia bb ov1 ov2 g1 OV BB JY
  go_wp2_with fail
  refine (rsetR mab r2 S2r.out (by omega) _ _ _ Jt.out).mono ?_
  rintro e w10 ⟨x5, px5, rfl, hia, bb⟩
  have b0 := b0.trans (bb.mono b0.size)
  replace Ja := Lib.hid ((Ja.out.below bb (Nat.le_refl _)).mono bb.size)
  replace Jb := Lib.hid ((Jb.out.below bb (Nat.le_refl _)).mono bb.size)
  replace Jx := Lib.hid ((Jx.out.below bb (Nat.le_refl _)).mono bb.size)
  replace Jy := Lib.hid ((Jy.out.below bb (Nat.le_refl _)).mono bb.size)
  replace Jp := Lib.hid ((Jp.out.below bb (Nat.le_refl _)).mono bb.size)
  replace Jt := Lib.hid ((Jt.out.below bb (Nat.le_refl _)).mono bb.size)
  clear bb
  have Jq := Lib.hid hia
  clear hia
  go_wp2_with fail
  refine (equal_any r2 r2 (by omega) (by omega) _ _ _ _ _ Jp.out Jq.out).mono ?_
  rintro e w11 ⟨rfl, bb⟩
  have b0 := b0.trans (bb.mono b0.size)
  replace Ja := Lib.hid ((Ja.out.below bb (Nat.le_refl _)).mono bb.size)
  replace Jb := Lib.hid ((Jb.out.below bb (Nat.le_refl _)).mono bb.size)
  replace Jx := Lib.hid ((Jx.out.below bb (Nat.le_refl _)).mono bb.size)
  replace Jy := Lib.hid ((Jy.out.below bb (Nat.le_refl _)).mono bb.size)
  replace Jp := Lib.hid ((Jp.out.below bb (Nat.le_refl _)).mono bb.size)
  replace Jt := Lib.hid ((Jt.out.below bb (Nat.le_refl _)).mono bb.size)
  replace Jq := Lib.hid ((Jq.out.below bb (Nat.le_refl _)).mono bb.size)
  clear bb
  rw [decide_eq_true (rfl : r2 = r2)]
  clear Jp
  clear Jq
  clear Jt
  go_wp2_with fail
  refine (minusR ma mb r3 H3.out (by omega) (by omega) _ _ _ _ _ Ja.out Jb.out).mono ?_
  rintro e w12 ⟨x6, px6, rfl, hia, bb⟩
  have b0 := b0.trans (bb.mono b0.size)
  replace Ja := Lib.hid ((Ja.out.below bb (Nat.le_refl _)).mono bb.size)
  replace Jb := Lib.hid ((Jb.out.below bb (Nat.le_refl _)).mono bb.size)
  replace Jx := Lib.hid ((Jx.out.below bb (Nat.le_refl _)).mono bb.size)
  replace Jy := Lib.hid ((Jy.out.below bb (Nat.le_refl _)).mono bb.size)
  clear bb
  have Jp := Lib.hid hia
  clear hia
  go_wp2_with fail
  refine (pickR ma mb r3 false S3.out (by omega) (by omega) _ _ _ _ _ Jx.out Jy.out).mono ?_
  rintro e w13 ⟨x7, px7, rfl, hia, bb⟩
  have b0 := b0.trans (bb.mono b0.size)
  replace Ja := Lib.hid ((Ja.out.below bb (Nat.le_refl _)).mono bb.size)
  replace Jb := Lib.hid ((Jb.out.below bb (Nat.le_refl _)).mono bb.size)
  replace Jx := Lib.hid ((Jx.out.below bb (Nat.le_refl _)).mono bb.size)
  replace Jy := Lib.hid ((Jy.out.below bb (Nat.le_refl _)).mono bb.size)
  replace Jp := Lib.hid ((Jp.out.below bb (Nat.le_refl _)).mono bb.size)
  clear bb
  have Jq := Lib.hid hia
  clear hia
  go_wp2_with fail
  refine (equal_any r3 r3 (by omega) (by omega) _ _ _ _ _ Jp.out Jq.out).mono ?_
  rintro e w14 ⟨rfl, bb⟩
  have b0 := b0.trans (bb.mono b0.size)
  replace Ja := Lib.hid ((Ja.out.below bb (Nat.le_refl _)).mono bb.size)
  replace Jb := Lib.hid ((Jb.out.below bb (Nat.le_refl _)).mono bb.size)
  replace Jx := Lib.hid ((Jx.out.below bb (Nat.le_refl _)).mono bb.size)
  replace Jy := Lib.hid ((Jy.out.below bb (Nat.le_refl _)).mono bb.size)
  replace Jp := Lib.hid ((Jp.out.below bb (Nat.le_refl _)).mono bb.size)
  replace Jq := Lib.hid ((Jq.out.below bb (Nat.le_refl _)).mono bb.size)
  clear bb
  rw [decide_eq_true (rfl : r3 = r3)]
  clear Jp
  clear Jq
  go_wp2_with fail
  refine (bothR ma mb r4 H4.out (by omega) (by omega) _ _ _ _ _ Ja.out Jb.out).mono ?_
  rintro e w15 ⟨x8, px8, rfl, hia, bb⟩
  have b0 := b0.trans (bb.mono b0.size)
  replace Ja := Lib.hid ((Ja.out.below bb (Nat.le_refl _)).mono bb.size)
  replace Jb := Lib.hid ((Jb.out.below bb (Nat.le_refl _)).mono bb.size)
  replace Jx := Lib.hid ((Jx.out.below bb (Nat.le_refl _)).mono bb.size)
  replace Jy := Lib.hid ((Jy.out.below bb (Nat.le_refl _)).mono bb.size)
  clear bb
  have Jp := Lib.hid hia
  clear hia
  go_wp2_with fail
  refine (pickR ma mb r4 true S4.out (by omega) (by omega) _ _ _ _ _ Jx.out Jy.out).mono ?_
  rintro e w16 ⟨x9, px9, rfl, hia, bb⟩
  have b0 := b0.trans (bb.mono b0.size)
  replace Ja := Lib.hid ((Ja.out.below bb (Nat.le_refl _)).mono bb.size)
  replace Jb := Lib.hid ((Jb.out.below bb (Nat.le_refl _)).mono bb.size)
  replace Jx := Lib.hid ((Jx.out.below bb (Nat.le_refl _)).mono bb.size)
  replace Jy := Lib.hid ((Jy.out.below bb (Nat.le_refl _)).mono bb.size)
  replace Jp := Lib.hid ((Jp.out.below bb (Nat.le_refl _)).mono bb.size)
  clear bb
  have Jq := Lib.hid hia
  clear hia
  go_wp2_with fail
  refine (equal_any r4 r4 (by omega) (by omega) _ _ _ _ _ Jp.out Jq.out).mono ?_
  rintro e w17 ⟨rfl, bb⟩
  have b0 := b0.trans (bb.mono b0.size)
  replace Ja := Lib.hid ((Ja.out.below bb (Nat.le_refl _)).mono bb.size)
  replace Jb := Lib.hid ((Jb.out.below bb (Nat.le_refl _)).mono bb.size)
  replace Jx := Lib.hid ((Jx.out.below bb (Nat.le_refl _)).mono bb.size)
  replace Jy := Lib.hid ((Jy.out.below bb (Nat.le_refl _)).mono bb.size)
  replace Jp := Lib.hid ((Jp.out.below bb (Nat.le_refl _)).mono bb.size)
  replace Jq := Lib.hid ((Jq.out.below bb (Nat.le_refl _)).mono bb.size)
  clear bb
  rw [decide_eq_true (rfl : r4 = r4)]
  clear Jp
  clear Jq
  go_wp2
  go_ret
  exact ⟨rfl, b0⟩
end Go.Proofs.Ytnoilnmkdahhiaa
