/- The walk of the law Utf8Truncate. -/
import Derived.Test.YtefncnmahimgpaaRows
import Derived.Test.YtefncnmahimgpaaUKnown
import Derived.Test.YtefncnmahimgpaaURefAll
import Derived.Test.YtefncnmahimgpaaUShort
import Derived.Test.YtefncnmahimgpaaUOffs
import Derived.Test.YtefncnmahimgpaaRowAt
import Derived.Test.YtefncnmahimgpaaUTrunc
import Derived.WalkKit
import Derived.OwnWalk
import Derived.WalkSpells
import Derived.WalkLawsBesides
import Derived.Below
import Derived.OpenShut
import Derived.Lib.Hide
import Derived.Outline
namespace Go.Proofs.Ytefncnmahimgpaa
open Go.RowKit

set_option maxRecDepth 100000 in
set_option maxHeartbeats 1600000 in
theorem truncl_walk (s : ByteArray) (hs : s.size ≤ maxLen) (i : Int) (hi : (Lit.int .i64 i).wf = true) (w : World) :
    Calls Try.prog 13 #[.string s, .int .i64 i] w fun e w' => e = .returned (.bool true) ∧ Below w.heap.size w w' := by
  have hbi := bounds_i64 hi
  have hz := take_size s 300
  have hx : (s.extract 0 (min s.size 300)).size ≤ 1000000 := by omega
  have HS := Lib.hid (short_any s 300 hs (by omega))
  obtain ⟨i0, hi0, hz0, hz1, hz2⟩ := info_parts infoInt
  have HI := Lib.hid hi0
  clear hi0
  go_enter Try.func13, Try.ntmps13
  go_wp2_with fail
  refine (HS.out _).mono ?_
  rintro e w1 ⟨rfl, c1⟩
  clear HS hz
  generalize s.extract 0 (min s.size 300) = t at *
  have hll : (pAll t.data.toList 0).1.length ≤ 1000000 := by
    have h1 := pAll_len' t.data.toList
    have h2 : t.data.toList.length = t.size := by simp
    omega
  have HR := Lib.hid (rall_any t hx)
  have HOe := Lib.hid (trunc_err t hx (pAll t.data.toList 0).2.2)
  have HOr := Lib.hid (trunc_range t hx)
  have HOk := Lib.hid (trunc_ok t hx)
  have HO : Hid (offL t.data.toList = (pAll t.data.toList 0).1.map Prod.fst ++ [t.size]) := Lib.hid (by unfold offL; simp)
  have HEL : Hid (∀ m, endF m (offL t.data.toList) ≤ t.size) := Lib.hid (fun m => by
    have hle := offL_le t.data.toList
    have hz : t.data.toList.length = t.size := by simp
    unfold endF
    cases hf : (offL t.data.toList).filter (· ≤ m) with
    | nil => simp
    | cons a r =>
      have : (a :: r).getLastD 0 ∈ offL t.data.toList := by
        have h1 : (a :: r).getLastD 0 ∈ (a :: r) := by
          rw [List.getLastD_eq_getLast?, List.getLast?_eq_some_getLast (by simp)]; exact List.getLast_mem _
        rw [← hf] at h1
        exact (List.mem_filter.1 (by rw [← hf]; exact h1)).1
      have := hle _ this
      omega)
  generalize pAll t.data.toList 0 = p at *
  obtain ⟨l, at', e⟩ := p
  dsimp only at HR HO HOe HOr HOk hll
  go_wp2_with fail
  refine (HR.out _).mono ?_
  rintro r w2 ⟨v1, v2, rfl, hr1, hr2, _, b2⟩
  have c2 := c1.trans (b2.mono c1.size)
  obtain ⟨a1, cap1, rfl, s1⟩ := rowAt_of_owns hr1
  obtain ⟨a2, cap2, rfl, s2⟩ := rowAt_of_owns hr2
  have hw12 := b2.size
  clear b2 HR hr1 s1
  by_cases he : e = 0
  · subst he
    by_cases hr : i < 0
    · have HX := Lib.hid (HOr.out rfl i hr)
      clear HOr HOk HOe HO
      go_wp2_with fail
      refine (HX.out _).mono ?_
      rintro r w4 ⟨rfl, b4⟩
      have c4 := c2.trans (b4.mono c2.size)
      go_wp2_with fail
      refine (known_any _).mono ?_
      rintro r w5 ⟨rfl, b5⟩
      have c5 := c4.trans (b5.mono c4.size)
      go_wp2
      go_ret
      exact ⟨rfl, c5⟩
    · obtain ⟨m, rfl⟩ := Int.eq_ofNat_of_zero_le (show 0 ≤ i by omega)
      have HX := Lib.hid (HOk.out rfl m (by omega))
      clear HOr HOk HOe
      have HEm := HEL.out m
      clear HEL
      generalize offL t.data.toList = O at *
      go_wp2_with fail
      refine (HX.out _).mono ?_
      rintro r w4 ⟨rfl, b4⟩
      have c4 := c2.trans (b4.mono c2.size)
      have g4 : w2.grownBy w4 none := ⟨b4.os, b4.tape, b4.output, b4.size, fun q hq _ => b4.block q hq⟩
      have o4 := owns_kept hr2 g4 (fun q hq => by simp at hq)
      have hs4 := b4.size
      clear g4 b4 HX hr2
      go_wp2_with fail
      refine (known_any _).mono ?_
      rintro r w5 ⟨rfl, b5⟩
      have c5 := c4.trans (b5.mono c4.size)
      have g5 : w4.grownBy w5 none := ⟨b5.os, b5.tape, b5.output, b5.size, fun q hq _ => b5.block q hq⟩
      have o5 := owns_kept o4 g5 (fun q hq => by simp at hq)
      have hs5 := b5.size
      clear g5 b5 o4
      go_wp2_with (at_builtin; refine wpList_append_own_at _ rfl _ _ 23 rfl w1.heap.size 3 i0 (.int .i64 0) 1 8 Try.underlying23 HI.out hz0 hz1 hz2 rfl (by decide) _ _ _ rfl (o5.alloc _) ⟨w5.heap.size, 0, none⟩ 1 1 [.int .i64 (t.size : Int)] rfl rfl (cell_one_new _ _ _) (ints_oneCell .i64 [(t.size : Int)]) (by unfold maxLen; omega) (by omega) (by rw [alloc_size]; omega) ?_)
      intro v' w6 o6 g6 _ _
      have c6 := (c5.alloc c5.size _).grown g6 (by rw [alloc_size]; have := c5.size; omega) (fun k hk => by have := (o5.lt k hk).1; have := c1.size; omega)
      have hrow : ofs l ++ [.int .i64 (t.size : Int)] = O.map (fun x : Nat => Value.int .i64 (x : Int)) := by rw [HO.out]; simp [ofs]
      rw [hrow] at o6
      have hlenO : O.length = l.length + 1 := by rw [HO.out]; simp
      obtain ⟨g, cap', rfl⟩ := ownsRow_succ o6
      obtain ⟨ao, cap'', hv', s6⟩ := rowAt_of_owns o6
      obtain ⟨rfl, rfl⟩ : ao = some ⟨g, 0, none⟩ ∧ cap'' = cap' := by cases hv'; exact ⟨rfl, rfl⟩
      have HLO := Lib.hid hlenO
      have S6 := Lib.hid s6
      clear hrow hlenO hv' s6 o6 g6 o5 HO
      go_wp2_with fail
      go_loop [11, 12] (fun e i => ∃ k : Nat, k ≤ l.length + 1 ∧ i = .int .i64 k ∧ e = .int .i64 (endF m (O.take k))) (fun _ i => l.length + 1 - (intOf i).toNat)
      case atStart => exact ⟨0, by omega, rfl, rfl⟩
      case round =>
        obtain ⟨k, hk, rfl, rfl⟩ := hrel
        by_cases hlt : k < l.length + 1
        · have hlti : (k : Int) < (l.length : Int) + 1 := by omega
          have hkO : k < O.length := by rw [HLO.out]; exact hlt
          obtain ⟨g', e', hg', hc⟩ := S6.out.at (j := k) (by simpa using hkO)
          cases e'
          simp only [List.getElem_map] at hc
          have HE : Hid (endF m (O.take (k + 1)) = if O[k] ≤ m then O[k] else endF m (O.take k)) := Lib.hid (by rw [List.take_succ_eq_append_getElem hkO, endF_snoc])
          generalize O[k] = x at *
          by_cases hxm : x ≤ m
          · have hxmi : (x : Int) ≤ (m : Int) := by omega
            have HE' := Lib.hid (HE.out.trans (if_pos hxm))
            clear HE
            go_wp2
            go_round
            case rel => exact ⟨k + 1, by omega, by go_num, by rw [HE'.out]⟩
            case measure => simp [intOf]; omega
          · have hxmi : ¬ (x : Int) ≤ (m : Int) := by omega
            have HE' := Lib.hid (HE.out.trans (if_neg hxm))
            clear HE
            go_wp2
            go_round
            case rel => exact ⟨k + 1, by omega, by go_num, by rw [HE'.out]⟩
            case measure => simp [intOf]; omega
        · have hlti : ¬ (k : Int) < (l.length : Int) + 1 := by omega
          have hkl : O.take k = O := List.take_of_length_le (by rw [HLO.out]; omega)
          rw [hkl]
          clear hkl
          generalize endF m O = E at *
          have hEi : (E : Int) ≤ (t.size : Int) := by omega
          go_wp2
          go_ret
          exact ⟨ret_bool (by simp), c6⟩
  · have HX := Lib.hid (HOe.out he trivial i)
    have he' : ((e : Int) != 0) = true := by simpa using he
    clear HOr HOk HOe HO
    go_wp2_with fail
    refine (HX.out _).mono ?_
    rintro r w4 ⟨rfl, b4⟩
    have c4 := c2.trans (b4.mono c2.size)
    go_wp2_with fail
    refine (known_any _).mono ?_
    rintro r w5 ⟨rfl, b5⟩
    have c5 := c4.trans (b5.mono c4.size)
    go_wp2
    go_ret
    exact ⟨ret_bool (by simp), c5⟩
end Go.Proofs.Ytefncnmahimgpaa
