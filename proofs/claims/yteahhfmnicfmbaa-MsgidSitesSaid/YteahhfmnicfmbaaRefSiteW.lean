/- Contract of the reference's Site. -/
import Derived.Test.YteahhfmnicfmbaaRows
import Derived.Test.YteahhfmnicfmbaaBase
import Derived.Test.YteahhfmnicfmbaaSiteW
import Derived.WalkKit
import Derived.WalkSpells
import Derived.WalkLawsBesides
import Derived.Lib.Hide
import Derived.Outline
namespace Go.Proofs.Yteahhfmnicfmbaa
open Go.RowKit

/-- the eight classes of bytes that Site tells apart -/
theorem cls8 (c : Nat) : c ≤ 44 ∨ c = 45 ∨ c = 46 ∨ c = 47 ∨ (48 ≤ c ∧ c ≤ 57) ∨ (58 ≤ c ∧ c ≤ 96) ∨ (97 ≤ c ∧ c ≤ 122) ∨ 123 ≤ c := by omega
theorem ret_pair {l : List UInt8} {a b : Nat} {w w' : World} (h : siteE l = (a, b)) (hw : w = w') : (Ending.returned (.tuple #[.int .i64 (a : Int), .int .i64 (b : Int)]) = .returned (sitePair l)) ∧ w = w' := ⟨sitePair_of h rfl rfl, hw⟩

set_option maxHeartbeats 4000000 in
theorem refsite_any (s : ByteArray) (hs : s.size ≤ maxLen) (w : World) :
    Calls Try.prog 17 #[.string s] w fun e w' => e = .returned (sitePair s.data.toList) ∧ w = w' := by
  unfold maxLen at hs
  have hl : s.data.toList.length = s.size := by simp
  by_cases h0 : s.size = 0
  · have hE : siteE s.data.toList = (0, 4) := by simp [siteE, hl, h0]
    have HE := Lib.hid hE
    have hq := isEmpty_true h0
    clear hl hE h0
    go_enter Try.func17, Try.ntmps17
    go_wp2
    go_ret2
    exact ⟨sitePair_of HE.out rfl rfl, rfl⟩
  · have hq := isEmpty_false h0
    by_cases h30 : 30 < s.size
    · have hE : siteE s.data.toList = (30, 5) := by simp [siteE, hl, h0, h30]
      have HE := Lib.hid hE
      clear hl hE
      go_enter Try.func17, Try.ntmps17
      go_wp2
      go_ret2
      exact ⟨sitePair_of HE.out rfl rfl, rfl⟩
    · have h30' : s.size ≤ 30 := by omega
      have HL := Lib.hid hl
      have H0 := Lib.hid h0
      have H30 := Lib.hid h30
      clear hl h0 h30
      go_enter Try.func17, Try.ntmps17
      go_wp2
      go_loop [4] (fun i => ∃ k : Nat, k ≤ s.size ∧ i = .int .i64 k ∧ NoneBelow (fun i => !isPerm (byt s.data.toList i)) k) (fun i => s.size - (intOf i).toNat)
      case atStart => exact ⟨0, Nat.zero_le _, rfl, NoneBelow.zero _⟩
      case round =>
        obtain ⟨k, hk, rfl, hn⟩ := hrel
        by_cases hlt : k < s.size
        · have hb := byt_at s k hlt
          have HE : Hid (isPerm (s[k]'hlt).toNat = false → siteE s.data.toList = (k, 6)) := by
            apply Lib.hid
            intro hp
            rw [← hb] at hp
            rw [siteE, HL.out, if_neg H0.out, if_neg H30.out, fst1_some hlt hn (by simp [hp])]
          have HN : Hid (isPerm (s[k]'hlt).toNat = true → NoneBelow (fun i => !isPerm (byt s.data.toList i)) (k + 1)) := by
            apply Lib.hid
            intro hp
            rw [← hb] at hp
            exact hn.succ (by simp [hp])
          clear hn hb
          have hc256 : (s[k]'hlt).toNat < 256 := UInt8.toNat_lt _
          cases hp : isPerm (s[k]'hlt).toNat
          · have HE' := Lib.hid (HE.out hp)
            clear HE HN
            by_cases q1 : (97 : Int) ≤ ((s[k]'hlt).toNat : Int) <;> by_cases q2 : ((s[k]'hlt).toNat : Int) ≤ 122 <;> by_cases q3 : (48 : Int) ≤ ((s[k]'hlt).toNat : Int) <;> by_cases q4 : ((s[k]'hlt).toNat : Int) ≤ 57 <;> by_cases q5 : ((s[k]'hlt).toNat : Int) = 45 <;> by_cases q6 : ((s[k]'hlt).toNat : Int) = 46
            all_goals first
              | (exfalso; omega)
              | (exfalso; revert hp; simp [isPerm, isLow, isDig, q1, q2, q3, q4, q5, q6]; done)
              | (have e45 : (((s[k]'hlt).toNat : Int) == 45) = false := by simp [q5]
                 have e46 : (((s[k]'hlt).toNat : Int) == 46) = false := by simp [q6]
                 clear hp
                 go_wp2
                 go_ret2
                 exact ret_pair HE'.out rfl)
          · have HN' := HN.out hp
            clear HE HN
            by_cases q1 : (97 : Int) ≤ ((s[k]'hlt).toNat : Int) <;> by_cases q2 : ((s[k]'hlt).toNat : Int) ≤ 122 <;> by_cases q3 : (48 : Int) ≤ ((s[k]'hlt).toNat : Int) <;> by_cases q4 : ((s[k]'hlt).toNat : Int) ≤ 57 <;> by_cases q5 : ((s[k]'hlt).toNat : Int) = 45 <;> by_cases q6 : ((s[k]'hlt).toNat : Int) = 46
            all_goals first
              | (exfalso; omega)
              | (exfalso; revert hp; simp [isPerm, isLow, isDig, q1, q2, q3, q4, q5, q6]; done)
              | (clear hp
                 go_wp2
                 go_round
                 case rel => exact ⟨k + 1, by omega, by go_num, HN'⟩
                 case measure => simp [intOf]; omega)
        · have hke : k = s.size := by omega
          subst hke
          go_wp2
          go_loop [6] (fun i => ∃ k : Nat, k ≤ s.size ∧ i = .int .i64 k ∧ NoneBelow (misB s.data.toList) k) (fun i => s.size - (intOf i).toNat)
          case atStart => exact ⟨0, Nat.zero_le _, rfl, NoneBelow.zero _⟩
          case round =>
            obtain ⟨k, hk, rfl, hm⟩ := hrel
            by_cases hlt : k < s.size
            · have HE : Hid (misB s.data.toList k = true → siteE s.data.toList = (k, 12)) := by
                apply Lib.hid
                intro hp
                rw [siteE, HL.out, if_neg H0.out, if_neg H30.out, fst1_none hn, fst1_some hlt hm hp]
              have HN : Hid (misB s.data.toList k = false → NoneBelow (misB s.data.toList) (k + 1)) := Lib.hid (fun hp => hm.succ hp)
              have hb := byt_at s k hlt
              have hk1 : k - 1 < s.size := by omega
              have hb1 := byt_at s (k - 1) hk1
              have HM : Hid (misB s.data.toList k = if k = 0 then !(isLow (s[k]'hlt).toNat) else if (s[k]'hlt).toNat = 46 ∧ (s[k-1]'hk1).toNat = 46 then true else decide (k + 1 = s.size) && ((s[k]'hlt).toNat == 45 || (s[k]'hlt).toNat == 46)) := by
                apply Lib.hid
                rw [misB, hb, hb1, HL.out]
              clear hm hb hb1 hn
              have hc256 : (s[k]'hlt).toNat < 256 := UInt8.toNat_lt _
              by_cases hk0 : k = 0
              · subst hk0
                have HM0 : Hid (misB s.data.toList 0 = !(isLow (s[0]'hlt).toNat)) := Lib.hid (HM.out.trans (if_pos rfl))
                clear HM
                by_cases q1 : (97 : Int) ≤ ((s[0]'hlt).toNat : Int) <;> by_cases q2 : ((s[0]'hlt).toNat : Int) ≤ 122
                · have HN' := HN.out (by rw [HM0.out]; simp [isLow, q1, q2])
                  clear HE HN HM0
                  have e45 : (((s[0]'hlt).toNat : Int) == 45) = false := by simp; omega
                  have e46 : (((s[0]'hlt).toNat : Int) == 46) = false := by simp; omega
                  go_wp2
                  all_goals
                    go_round
                    case rel => exact ⟨1, by omega, by first | rfl | (congr 1; omega), HN'⟩
                    case measure => simp [intOf]; omega
                · have HE' := Lib.hid (HE.out (by rw [HM0.out]; simp [isLow, q1, q2]))
                  clear HE HN HM0
                  go_wp2
                  all_goals
                    go_ret2
                    exact ret_pair HE'.out rfl
                · have HE' := Lib.hid (HE.out (by rw [HM0.out]; simp [isLow, q1, q2]))
                  clear HE HN HM0
                  go_wp2
                  all_goals
                    go_ret2
                    exact ret_pair HE'.out rfl
                · have HE' := Lib.hid (HE.out (by rw [HM0.out]; simp [isLow, q1, q2]))
                  clear HE HN HM0
                  go_wp2
                  all_goals
                    go_ret2
                    exact ret_pair HE'.out rfl
              · have hkz : ((k : Int) == 0) = false := by simp; omega
                have hkp : (0 : Int) < (k : Int) := by omega
                have hkp1 : (1 : Int) ≤ (k : Int) := by omega
                have HMk : Hid (misB s.data.toList k = if (s[k]'hlt).toNat = 46 ∧ (s[k-1]'hk1).toNat = 46 then true else decide (k + 1 = s.size) && ((s[k]'hlt).toNat == 45 || (s[k]'hlt).toNat == 46)) := Lib.hid (HM.out.trans (if_neg hk0))
                clear HM hk0
                cases hm : misB s.data.toList k
                · have HN' := HN.out hm
                  clear HE HN
                  cases e5 : (((s[k]'hlt).toNat : Int) == 45) <;> cases e6 : (((s[k]'hlt).toNat : Int) == 46) <;> cases e7 : (((s[k-1]'hk1).toNat : Int) == 46) <;> cases e8 : ((k : Int) == (s.size : Int) - 1)
                  all_goals
                    have f5 := e5
                    have f6 := e6
                    have f7 := e7
                    have f8 := e8
                    simp only [beq_iff_eq, beq_eq_false_iff_ne, ne_eq] at f5 f6 f7 f8
                    first
                      | (exfalso; omega)
                      | (exfalso; have hz := HMk.out; rw [hm] at hz; simp at hz; omega)
                      | (clear hm HMk f5 f6 f7 f8
                         go_wp2
                         all_goals
                           go_round
                           case rel => exact ⟨k + 1, by omega, by first | go_num | (congr 1; omega), HN'⟩
                           case measure => simp [intOf]; omega)
                · have HE' := Lib.hid (HE.out hm)
                  clear HE HN
                  cases e5 : (((s[k]'hlt).toNat : Int) == 45) <;> cases e6 : (((s[k]'hlt).toNat : Int) == 46) <;> cases e7 : (((s[k-1]'hk1).toNat : Int) == 46) <;> cases e8 : ((k : Int) == (s.size : Int) - 1)
                  all_goals
                    have f5 := e5
                    have f6 := e6
                    have f7 := e7
                    have f8 := e8
                    simp only [beq_iff_eq, beq_eq_false_iff_ne, ne_eq] at f5 f6 f7 f8
                    first
                      | (exfalso; omega)
                      | (exfalso; have hz := HMk.out; rw [hm] at hz; simp at hz; omega)
                      | (clear hm HMk f5 f6 f7 f8
                         go_wp2
                         all_goals
                           go_ret2
                           exact ret_pair HE'.out rfl)
            · have hke : k = s.size := by omega
              subst hke
              have HE : Hid (siteE s.data.toList = (0, 0)) := by
                apply Lib.hid
                rw [siteE, HL.out, if_neg H0.out, if_neg H30.out, fst1_none hn, fst1_none hm]
              go_wp2
              go_ret2
              exact ⟨sitePair_of HE.out rfl rfl, rfl⟩
end Go.Proofs.Yteahhfmnicfmbaa
