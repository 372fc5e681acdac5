/- The walk of the law Utf8Order. -/
import Derived.Test.YtefncnmahimgpaaRows
import Derived.Test.YtefncnmahimgpaaUKnown
import Derived.Test.YtefncnmahimgpaaURefAll
import Derived.Test.YtefncnmahimgpaaUShort
import Derived.Test.YtefncnmahimgpaaUOffs
import Derived.Test.YtefncnmahimgpaaRowAt
import Derived.Test.YtefncnmahimgpaaUOrd
import Derived.WalkKit
import Derived.OwnWalk
import Derived.WalkSpells
import Derived.WalkLawsBesides
import Derived.Below
import Derived.Lib.Hide
import Derived.Deep.QuietTactic
import Derived.BigQuiet
import Derived.Outline
namespace Go.Proofs.Ytefncnmahimgpaa
open Go.RowKit

/-- the cells of numbers -/
def nats (l : List Nat) : List Value := l.map fun r : Nat => .int .i64 (r : Int)
theorem runs_pts (l : List UInt8) : runs (pAll l 0).1 = nats (pts l) := by unfold runs nats pts; rw [List.map_map]; rfl
theorem pts_length (l : List UInt8) : (pAll l 0).1.length = (pts l).length := by simp [pts]

set_option maxRecDepth 100000 in
set_option maxHeartbeats 3000000 in
theorem order_valid (s t : ByteArray) (hs : s.size ≤ 100) (ht : t.size ≤ 100) (hsv : okAll s.data.toList = true) (htv : okAll t.data.toList = true) (a b : ByteArray) (wa : a.size ≤ maxLen) (wb : b.size ≤ maxLen)
    (ea : a.extract 0 (min a.size 100) = s) (eb : b.extract 0 (min b.size 100) = t) (w : World) :
    Calls Try.prog 8 #[.string a, .string b] w fun e w' => e = .returned (.bool true) ∧ Below w.heap.size w w' := by
  have HSa := short_any a 100 wa (by omega)
  have HSb := short_any b 100 wb (by omega)
  rw [ea] at HSa
  rw [eb] at HSb
  have HSa := Lib.hid HSa
  have HSb := Lib.hid HSb
  have HVs := valid_any s (by unfold maxLen; omega)
  have HVt := valid_any t (by unfold maxLen; omega)
  have hst : (s ++ t).size = s.size + t.size := ByteArray.size_append
  have HVb := valid_any (s ++ t) (by rw [hst]; unfold maxLen; omega)
  have HRs := rall_any s (by omega)
  have HRt := rall_any t (by omega)
  have HCs := count_any s (by omega)
  have HCt := count_any t (by omega)
  have HCb := count_any (s ++ t) (by omega)
  have hes : (pAll s.data.toList 0).2.2 = 0 := by simpa [okAll] using hsv
  have het : (pAll t.data.toList 0).2.2 = 0 := by simpa [okAll] using htv
  have hd : (s ++ t).data.toList = s.data.toList ++ t.data.toList := by simp [ByteArray.data_append]
  have hboth := valid_both _ _ hes het
  have hbv : okAll (s ++ t).data.toList = true := by rw [hd]; unfold okAll; rw [hboth.1]; rfl
  have hl1 := pAll_len' s.data.toList
  have hl2 := pAll_len' t.data.toList
  rw [pts_length] at hl1 hl2
  have hz1 : s.data.toList.length = s.size := by simp
  have hz2 : t.data.toList.length = t.size := by simp
  have HL := Lib.hid (less_valid _ _ hes het)
  rw [hsv] at HVs HCs
  rw [htv] at HVt HCt
  rw [hbv] at HVb HCb
  rw [runs_pts, hes, pts_length] at HRs
  rw [runs_pts, het, pts_length] at HRt
  rw [hes, pts_length, if_pos rfl] at HCs
  rw [het, pts_length, if_pos rfl] at HCt
  rw [if_pos rfl, pts_length, hd, hboth.2, hboth.1, List.length_append] at HCb
  have HVs := Lib.hid HVs
  have HVt := Lib.hid HVt
  have HVb := Lib.hid HVb
  have HRs := Lib.hid HRs
  have HRt := Lib.hid HRt
  have HCs := Lib.hid HCs
  have HCt := Lib.hid HCt
  have HCb := Lib.hid HCb
  have HT1 : Hid (s.toList = s.data.toList) := Lib.hid (ByteArray.toList_eq _)
  have HT2 : Hid (t.toList = t.data.toList) := Lib.hid (ByteArray.toList_eq _)
  clear hsv htv hbv hes het hd hboth ea eb
  generalize pts s.data.toList = A at *
  generalize pts t.data.toList = B at *
  have hA : A.length ≤ 100 := by omega
  have hB : B.length ≤ 100 := by omega
  have Hst := Lib.hid hst
  have hsum : s.size + t.size ≤ 200 := by omega
  clear hl1 hl2 hz1 hz2 hst
  go_enter Try.func8, Try.ntmps8
  go_wp2_with fail
  refine (HSa.out _).mono ?_
  rintro e w1 ⟨rfl, c1⟩
  go_wp2_with fail
  refine (HSb.out _).mono ?_
  rintro e w2 ⟨rfl, b2⟩
  have c2 := c1.trans (b2.mono c1.size)
  clear c1 b2 HSa HSb
  go_wp2_with fail
  refine (known_any _).mono ?_
  rintro e w3 ⟨rfl, b3⟩
  have c3 := c2.trans (b3.mono c2.size)
  clear c2 b3
  go_wp2_with fail
  refine (HVs.out _).mono ?_
  rintro e w4 ⟨rfl, b4⟩
  have c4 := c3.trans (b4.mono c3.size)
  clear c3 b4
  go_wp2_with fail
  refine (HVt.out _).mono ?_
  rintro e w5 ⟨rfl, b5⟩
  have c5 := c4.trans (b5.mono c4.size)
  clear c4 b5
  go_wp2_with fail
  refine (HRs.out _).mono ?_
  rintro e w6 ⟨v1, v2, rfl, hr1, _, _, b6⟩
  have c6 := c5.trans (b6.mono c5.size)
  obtain ⟨a1, cap1, rfl, s1⟩ := rowAt_of_owns hr1
  obtain ⟨a2, cap2, hv2⟩ : ∃ a2 cap2, v2 = .slice a2 A.length cap2 := by rename_i h _; obtain ⟨a2, cap2, h, _⟩ := rowAt_of_owns h; exact ⟨a2, cap2, h⟩
  subst hv2
  clear c5 hr1
  go_wp2_with fail
  refine (HRt.out _).mono ?_
  rintro e w7 ⟨v3, v4, rfl, hr3, hr4, _, b7⟩
  have c7 := c6.trans (b7.mono c6.size)
  obtain ⟨a3, cap3, rfl, s3⟩ := rowAt_of_owns hr3
  obtain ⟨a4, cap4, rfl, _⟩ := rowAt_of_owns hr4
  have s1' := s1.below b7 (Nat.le_refl _)
  have hw7 := b7.size
  have hw6 := b6.size
  clear c6 b7 b6 s1 hr3 hr4
  go_wp2_with fail
  go_loopw [14] (fun i wr => ∃ k : Nat, k ≤ A.length ∧ k ≤ B.length ∧ i = .int .i64 k ∧ Hid (A.take k = B.take k) ∧ Below w7.heap.size w7 wr) (fun i _ => A.length - (intOf i).toNat)
  case atStart => exact ⟨0, by omega, by omega, rfl, Lib.hid (by simp), Below.refl _ _⟩
  case round =>
    obtain ⟨k, hkA, hkB, rfl, HK, hB7⟩ := hrel
    have s1r := s1'.below hB7 hw7
    have s3r := s3.below hB7 (Nat.le_refl _)
    have c8 := c7.trans (hB7.mono c7.size)
    by_cases hboth : k < A.length ∧ k < B.length
    · obtain ⟨h1, h2⟩ := hboth
      obtain ⟨g1, rfl, hg1, hc1⟩ := s1r.at (j := k) (by simpa [nats] using h1)
      obtain ⟨g3, rfl, hg3, hc3⟩ := s3r.at (j := k) (by simpa [nats] using h2)
      simp only [nats, List.getElem_map] at hc1 hc3
      have d1 : decide (k < A.length) = true := decide_eq_true h1
      have d2 : decide (k < B.length) = true := decide_eq_true h2
      have h1i : (k : Int) < (A.length : Int) := by omega
      have h2i : (k : Int) < (B.length : Int) := by omega
      have HM : Hid (A[k] ≠ B[k] → ordL A B = decide (A[k] < B[k])) := Lib.hid (ord_mid k A B HK.out h1 h2)
      have HE : Hid (A[k] = B[k] → A.take (k + 1) = B.take (k + 1)) := Lib.hid (fun h => by rw [List.take_succ_eq_append_getElem h1, List.take_succ_eq_append_getElem h2, HK.out, h])
      generalize A[k] = x at *
      generalize B[k] = y at *
      by_cases q : x = y
      · subst q
        have HE' := Lib.hid (HE.out rfl)
        clear HE HM
        go_wp2_with fail
        go_quiet (fail)
        go_wp2
        go_roundw
        case rel => exact ⟨k + 1, by omega, by omega, by go_num, HE', below_drewN hB7⟩
        case measure => simp [intOf]; omega
      · have q' : ((x : Int) == (y : Int)) = false := by simp; omega
        have HM' := Lib.hid (HM.out q)
        clear HE HM q
        go_wp2_with fail
        go_quiet (fail)
        rename Nat => n1
        go_wp2
        have s1q : wr.cell? ⟨g1, k, none⟩ = some (.int .i64 (x : Int)) := hc1
        go_quiet (fail)
        have c9' : Below w.heap.size w (wr.drewN (n1 + nq)) := below_drewN c8
        have hless : (Op.bytesLess s.toList t.toList == decide (x < y)) = true := by
          rw [HT1.out, HT2.out, HL.out, HM'.out]
          simp
        go_wp2_with fail
        refine (HCs.out _).mono ?_
        rintro e w9 ⟨rfl, b9⟩
        have c9 := c9'.trans (b9.mono c9'.size)
        go_wp2_with fail
        refine (HCt.out _).mono ?_
        rintro e w10 ⟨rfl, b10⟩
        have c10 := c9.trans (b10.mono c9.size)
        clear c9 b9 b10
        go_wp2_with fail
        refine (HCb.out _).mono ?_
        rintro e w11 ⟨rfl, b11⟩
        have c11 := c10.trans (b11.mono c10.size)
        clear c10 b11
        go_wp2_with fail
        refine (HVb.out _).mono ?_
        rintro e w12 ⟨rfl, b12⟩
        have c12 := c11.trans (b12.mono c11.size)
        go_wp2
        go_ret
        exact ⟨ret_bool (by simp), c12⟩
    · have hend : k = A.length ∨ k = B.length := by omega
      have HM := Lib.hid (ord_end k A B HK.out hkA hkB hend)
      by_cases h1 : k < A.length
      · have d1 : decide (k < A.length) = true := decide_eq_true h1
        have d2 : decide (k < B.length) = false := decide_eq_false (by omega)
        have h1i : (k : Int) < (A.length : Int) := by omega
        have h2i : ¬ (k : Int) < (B.length : Int) := by omega
        clear hboth hend
        go_wp2_with fail
        go_quiet (fail)
        go_wp2_with fail
        have hless : (Op.bytesLess s.toList t.toList == decide (A.length < B.length)) = true := by
          rw [HT1.out, HT2.out, HL.out, HM.out]
          simp
        go_wp2_with fail
        refine (HCs.out _).mono ?_
        rintro e w9 ⟨rfl, b9⟩
        have c9 := (below_drewN c8).trans (b9.mono (below_drewN c8).size)
        go_wp2_with fail
        refine (HCt.out _).mono ?_
        rintro e w10 ⟨rfl, b10⟩
        have c10 := c9.trans (b10.mono c9.size)
        clear c9 b9 b10
        go_wp2_with fail
        refine (HCb.out _).mono ?_
        rintro e w11 ⟨rfl, b11⟩
        have c11 := c10.trans (b11.mono c10.size)
        clear c10 b11
        go_wp2_with fail
        refine (HVb.out _).mono ?_
        rintro e w12 ⟨rfl, b12⟩
        have c12 := c11.trans (b12.mono c11.size)
        go_wp2
        go_ret
        exact ⟨ret_bool (by simp), c12⟩
      · have d1 : decide (k < A.length) = false := decide_eq_false h1
        have h1i : ¬ (k : Int) < (A.length : Int) := by omega
        clear hboth hend
        go_wp2_with fail
        go_quiet (fail)
        go_wp2_with fail
        have hless : (Op.bytesLess s.toList t.toList == decide (A.length < B.length)) = true := by
          rw [HT1.out, HT2.out, HL.out, HM.out]
          simp
        go_wp2_with fail
        refine (HCs.out _).mono ?_
        rintro e w9 ⟨rfl, b9⟩
        have c9 := (below_drewN c8).trans (b9.mono (below_drewN c8).size)
        go_wp2_with fail
        refine (HCt.out _).mono ?_
        rintro e w10 ⟨rfl, b10⟩
        have c10 := c9.trans (b10.mono c9.size)
        clear c9 b9 b10
        go_wp2_with fail
        refine (HCb.out _).mono ?_
        rintro e w11 ⟨rfl, b11⟩
        have c11 := c10.trans (b11.mono c10.size)
        clear c10 b11
        go_wp2_with fail
        refine (HVb.out _).mono ?_
        rintro e w12 ⟨rfl, b12⟩
        have c12 := c11.trans (b12.mono c11.size)
        go_wp2
        go_ret
        exact ⟨ret_bool (by simp), c12⟩

set_option maxRecDepth 100000 in
set_option maxHeartbeats 1000000 in
theorem orderl_walk (a : ByteArray) (wa : a.size ≤ maxLen) (b : ByteArray) (wb : b.size ≤ maxLen) (w : World) :
    Calls Try.prog 8 #[.string a, .string b] w fun e w' => e = .returned (.bool true) ∧ Below w.heap.size w w' := by
  have hz := take_size a 100
  have hz' := take_size b 100
  have HSa := short_any a 100 wa (by omega)
  have HSb := short_any b 100 wb (by omega)
  obtain ⟨s, ea⟩ : ∃ s, a.extract 0 (min a.size 100) = s := ⟨_, rfl⟩
  obtain ⟨t, eb⟩ : ∃ t, b.extract 0 (min b.size 100) = t := ⟨_, rfl⟩
  rw [ea] at hz HSa
  rw [eb] at hz' HSb
  have hs : s.size ≤ 100 := by omega
  have ht : t.size ≤ 100 := by omega
  by_cases hboth : okAll s.data.toList = true ∧ okAll t.data.toList = true
  · exact order_valid s t hs ht hboth.1 hboth.2 a b wa wb ea eb w
  · have HSa := Lib.hid HSa
    have HSb := Lib.hid HSb
    have HVs := valid_any s (by unfold maxLen; omega)
    have HVt := valid_any t (by unfold maxLen; omega)
    clear hz hz' ea eb
    cases h1 : okAll s.data.toList
    · rw [h1] at HVs
      have HVs := Lib.hid HVs
      clear h1 hboth HVt
      go_enter Try.func8, Try.ntmps8
      go_wp2_with fail
      refine (HSa.out _).mono ?_
      rintro e w1 ⟨rfl, c1⟩
      go_wp2_with fail
      refine (HSb.out _).mono ?_
      rintro e w2 ⟨rfl, b2⟩
      have c2 := c1.trans (b2.mono c1.size)
      clear c1 b2 HSa HSb
      go_wp2_with fail
      refine (known_any _).mono ?_
      rintro e w3 ⟨rfl, b3⟩
      have c3 := c2.trans (b3.mono c2.size)
      clear c2 b3
      go_wp2_with fail
      refine (HVs.out _).mono ?_
      rintro e w4 ⟨rfl, b4⟩
      have c4 := c3.trans (b4.mono c3.size)
      clear c3 b4
      go_wp2_with fail
      refine (known_any _).mono ?_
      rintro e w5 ⟨rfl, b5⟩
      have c5 := c4.trans (b5.mono c4.size)
      go_wp2
      go_ret
      exact ⟨rfl, c5⟩
    · cases h2 : okAll t.data.toList
      · rw [h1] at HVs
        rw [h2] at HVt
        have HVs := Lib.hid HVs
        have HVt := Lib.hid HVt
        clear h1 h2 hboth
        go_enter Try.func8, Try.ntmps8
        go_wp2_with fail
        refine (HSa.out _).mono ?_
        rintro e w1 ⟨rfl, c1⟩
        go_wp2_with fail
        refine (HSb.out _).mono ?_
        rintro e w2 ⟨rfl, b2⟩
        have c2 := c1.trans (b2.mono c1.size)
        clear c1 b2 HSa HSb
        go_wp2_with fail
        refine (known_any _).mono ?_
        rintro e w3 ⟨rfl, b3⟩
        have c3 := c2.trans (b3.mono c2.size)
        clear c2 b3
        go_wp2_with fail
        refine (HVs.out _).mono ?_
        rintro e w4 ⟨rfl, b4⟩
        have c4 := c3.trans (b4.mono c3.size)
        clear c3 b4
        go_wp2_with fail
        refine (HVt.out _).mono ?_
        rintro e w5 ⟨rfl, b5⟩
        have c5 := c4.trans (b5.mono c4.size)
        clear c4 b5
        go_wp2_with fail
        refine (known_any _).mono ?_
        rintro e w6 ⟨rfl, b6⟩
        have c6 := c5.trans (b6.mono c5.size)
        go_wp2
        go_ret
        exact ⟨rfl, c6⟩
      · exact absurd ⟨h1, h2⟩ hboth
end Go.Proofs.Ytefncnmahimgpaa
