/- Contracts of the reference's lead, least, most, Begins. -/
import Derived.Test.YtefncnmahimgpaaRows
import Derived.Test.YtefncnmahimgpaaBase
import Derived.Test.YtefncnmahimgpaaRow
import Derived.WalkKit
import Derived.OwnWalk
import Derived.WalkSpells
import Derived.WalkLawsBesides
import Derived.Lib.Hide
import Derived.Deep.QuietTactic
import Derived.BigQuiet
import Derived.Outline
namespace Go.Proofs.Ytefncnmahimgpaa
open Go.RowKit

/-- the number of the bytes of an encoding by its first byte, and the bits of it -/
def rLead (c : Nat) : Nat × Nat := if c < 128 then (1, c) else if c < 192 then (0, 0) else if c < 224 then (2, c - 192) else if c < 240 then (3, c - 224) else if c < 248 then (4, c - 240) else (0, 0)

theorem lead_any (c : Nat) (hc : c < 256) (w : World) :
    Calls Try.prog 51 #[.int .u8 c] w fun e w' => e = .returned (.tuple #[.int .i64 (rLead c).1, .int .i64 (rLead c).2]) ∧ Below w.heap.size w w' := by
  have hB := Below.refl w.heap.size w
  obtain h | h | h | h | h | h : c < 128 ∨ (128 ≤ c ∧ c < 192) ∨ (192 ≤ c ∧ c < 224) ∨ (224 ≤ c ∧ c < 240) ∨ (240 ≤ c ∧ c < 248) ∨ 248 ≤ c := by omega
  · have HE : Hid (rLead c = (1, c)) := Lib.hid (by rw [rLead, if_pos h])
    have e1 : (c : Int) < 128 := by omega
    go_enter Try.func51, Try.ntmps51
    go_wp2
    go_ret2
    rw [HE.out]
    exact ⟨rfl, hB⟩
  · have HE : Hid (rLead c = (0, 0)) := Lib.hid (by rw [rLead, if_neg (by omega), if_pos (by omega)])
    have e1 : ¬ (c : Int) < 128 := by omega
    have e2 : ¬ (192 : Int) ≤ (c : Int) := by omega
    have e3 : ¬ (224 : Int) ≤ (c : Int) := by omega
    have e4 : ¬ (240 : Int) ≤ (c : Int) := by omega
    go_enter Try.func51, Try.ntmps51
    go_wp2
    go_ret2
    rw [HE.out]
    exact ⟨rfl, hB⟩
  · obtain ⟨d, rfl⟩ : ∃ d, c = d + 192 := ⟨c - 192, by omega⟩
    have HE : Hid (rLead (d + 192) = (2, d)) := Lib.hid (by rw [rLead, if_neg (by omega), if_neg (by omega), if_pos (by omega)]; simp)
    have e1 : ¬ (d : Int) + 192 < 128 := by omega
    have e2 : (192 : Int) ≤ (d : Int) + 192 := by omega
    have e3 : (d : Int) + 192 < 224 := by omega
    have e4 : (d : Int) + 192 - 192 = d := by omega
    go_enter Try.func51, Try.ntmps51
    go_wp2
    go_ret2
    rw [HE.out]
    exact ⟨rfl, hB⟩
  · obtain ⟨d, rfl⟩ : ∃ d, c = d + 224 := ⟨c - 224, by omega⟩
    have HE : Hid (rLead (d + 224) = (3, d)) := Lib.hid (by rw [rLead, if_neg (by omega), if_neg (by omega), if_neg (by omega), if_pos (by omega)]; simp)
    have e1 : ¬ (d : Int) + 224 < 128 := by omega
    have e2 : (192 : Int) ≤ (d : Int) + 224 := by omega
    have e3 : ¬ (d : Int) + 224 < 224 := by omega
    have e5 : (224 : Int) ≤ (d : Int) + 224 := by omega
    have e6 : (d : Int) + 224 < 240 := by omega
    have e4 : (d : Int) + 224 - 224 = d := by omega
    go_enter Try.func51, Try.ntmps51
    go_wp2
    go_ret2
    rw [HE.out]
    exact ⟨rfl, hB⟩
  · obtain ⟨d, rfl⟩ : ∃ d, c = d + 240 := ⟨c - 240, by omega⟩
    have HE : Hid (rLead (d + 240) = (4, d)) := Lib.hid (by rw [rLead, if_neg (by omega), if_neg (by omega), if_neg (by omega), if_neg (by omega), if_pos (by omega)]; simp)
    have e1 : ¬ (d : Int) + 240 < 128 := by omega
    have e2 : (192 : Int) ≤ (d : Int) + 240 := by omega
    have e3 : ¬ (d : Int) + 240 < 224 := by omega
    have e5 : (224 : Int) ≤ (d : Int) + 240 := by omega
    have e6 : ¬ (d : Int) + 240 < 240 := by omega
    have e7 : (240 : Int) ≤ (d : Int) + 240 := by omega
    have e8 : (d : Int) + 240 < 248 := by omega
    have e4 : (d : Int) + 240 - 240 = d := by omega
    go_enter Try.func51, Try.ntmps51
    go_wp2
    go_ret2
    rw [HE.out]
    exact ⟨rfl, hB⟩
  · have HE : Hid (rLead c = (0, 0)) := Lib.hid (by rw [rLead, if_neg (by omega), if_neg (by omega), if_neg (by omega), if_neg (by omega), if_neg (by omega)])
    have e1 : ¬ (c : Int) < 128 := by omega
    have e2 : (192 : Int) ≤ (c : Int) := by omega
    have e3 : ¬ (c : Int) < 224 := by omega
    have e4 : (224 : Int) ≤ (c : Int) := by omega
    have e5 : ¬ (c : Int) < 240 := by omega
    have e6 : (240 : Int) ≤ (c : Int) := by omega
    have e7 : ¬ (c : Int) < 248 := by omega
    go_enter Try.func51, Try.ntmps51
    go_wp2
    go_ret2
    rw [HE.out]
    exact ⟨rfl, hB⟩

def rLeast (n : Nat) : Nat := if n = 2 then 128 else if n = 3 then 2048 else if n = 4 then 65536 else 0
def rMost (n : Nat) : Nat := if n = 1 then 127 else if n = 2 then 2047 else if n = 3 then 65535 else if n = 4 then 1114111 else 0

theorem least_any (n : Nat) (hn : n ≤ 4) (w : World) :
    Calls Try.prog 52 #[.int .i64 n] w fun e w' => e = .returned (.int .i64 (rLeast n)) ∧ Below w.heap.size w w' := by
  have hB := fun ob => (Below.refl w.heap.size w).alloc (Nat.le_refl _) ob
  obtain rfl | rfl | rfl | rfl | rfl : n = 0 ∨ n = 1 ∨ n = 2 ∨ n = 3 ∨ n = 4 := by omega
  all_goals
    go_enter Try.func52, Try.ntmps52
    go_wp2
    go_ret
    exact ⟨ret_int rfl, hB _⟩
theorem most_any (n : Nat) (hn : n ≤ 4) (w : World) :
    Calls Try.prog 53 #[.int .i64 n] w fun e w' => e = .returned (.int .i64 (rMost n)) ∧ Below w.heap.size w w' := by
  have hB := fun ob => (Below.refl w.heap.size w).alloc (Nat.le_refl _) ob
  obtain rfl | rfl | rfl | rfl | rfl : n = 0 ∨ n = 1 ∨ n = 2 ∨ n = 3 ∨ n = 4 := by omega
  all_goals
    go_enter Try.func53, Try.ntmps53
    go_wp2
    go_ret
    exact ⟨ret_int rfl, hB _⟩

/-- the bits of the first i + 1 bytes -/
def rV (l : List UInt8) (v : Nat) : Nat → Nat
  | 0 => v
  | i + 1 => 64 * rV l v i + byt l (i + 1) - 128
def rLo (v : Nat) : Nat → Nat
  | 0 => v
  | m + 1 => 64 * rLo v m
def rHi (v : Nat) : Nat → Nat
  | 0 => v
  | m + 1 => 64 * rHi v m + 63
/-- a byte behind the first one that is none of 128 to 191 -/
def rBad (l : List UInt8) (t : Nat) : Bool := decide (t ≠ 0) && (decide (byt l t < 128) || decide (191 < byt l t))
/-- the answer of Begins from the number of bytes and the bits of the first one -/
def rBegin2 (l : List UInt8) (n v : Nat) : Bool × Nat × Nat :=
  if n = 0 ∨ n < l.length then (false, 0, 0)
  else if (fst1 (rBad l) l.length).isSome then (false, 0, 0)
  else if (55296 ≤ max (rLo (rV l v (l.length - 1)) (n - l.length)) (rLeast n) ∧ min (rHi (rV l v (l.length - 1)) (n - l.length)) (rMost n) ≤ 57343) ∨ min (rHi (rV l v (l.length - 1)) (n - l.length)) (rMost n) < max (rLo (rV l v (l.length - 1)) (n - l.length)) (rLeast n) then (false, 0, 0)
  else (true, n, rV l v (l.length - 1))
def rBegins (l : List UInt8) : Bool × Nat × Nat := rBegin2 l (rLead (byt l 0)).1 (rLead (byt l 0)).2
theorem rLead_le (c : Nat) : (rLead c).1 ≤ 4 ∧ (c < 256 → (rLead c).2 < 128) := by unfold rLead; (repeat' split) <;> simp <;> omega

theorem rV_lt3 (l : List UInt8) (v : Nat) (hv : v < 128) : ∀ i, rV l v i + 3 ≤ 256 * 64 ^ i
  | 0 => by show v + 3 ≤ 256 * 1; omega
  | i + 1 => by
    have ih := rV_lt3 l v hv i
    have hb := byt_lt l (i + 1)
    have e : 256 * 64 ^ (i + 1) = 64 * (256 * 64 ^ i) := by rw [Nat.pow_succ]; omega
    rw [e]
    generalize 256 * 64 ^ i = X at *
    show 64 * rV l v i + byt l (i + 1) - 128 + 3 ≤ _
    omega
theorem rV_lt (l : List UInt8) (v : Nat) (hv : v < 128) (i : Nat) : rV l v i < 256 * 64 ^ i := by have := rV_lt3 l v hv i; omega
theorem rLoHi (v : Nat) : ∀ m, rLo v m ≤ rHi v m ∧ rHi v m < (v + 1) * 64 ^ m
  | 0 => ⟨Nat.le_refl _, by show v < (v + 1) * 1; omega⟩
  | m + 1 => by
    have ih := rLoHi v m
    have e : (v + 1) * 64 ^ (m + 1) = 64 * ((v + 1) * 64 ^ m) := by rw [Nat.pow_succ, ← Nat.mul_assoc, Nat.mul_comm]
    rw [e]
    exact ⟨by show 64 * rLo v m ≤ 64 * rHi v m + 63; omega, by show 64 * rHi v m + 63 < _; omega⟩

set_option maxRecDepth 100000 in
set_option maxHeartbeats 3200000 in
theorem rbegins_any (s : ByteArray) (hs1 : 1 ≤ s.size) (w : World) :
    Calls Try.prog 38 #[.string s] w fun e w' => e = .returned (.tuple #[.bool (rBegins s.data.toList).1, .int .i64 (rBegins s.data.toList).2.1, .int .i64 (rBegins s.data.toList).2.2]) ∧ Below w.heap.size w w' := by
  have HL : Hid (s.data.toList.length = s.size) := Lib.hid (by simp)
  have hb0 := byt_at s 0 hs1
  have hc0 : (s[0]'hs1).toNat < 256 := UInt8.toNat_lt _
  have HD := Lib.hid (lead_any _ hc0)
  have hle := rLead_le (s[0]'hs1).toNat
  unfold rBegins
  rw [hb0]
  clear hb0
  generalize rLead (s[0]'hs1).toNat = nv at *
  obtain ⟨n, v⟩ := nv
  dsimp only at HD hle ⊢
  obtain ⟨hn4, hv⟩ := hle
  have hv := hv hc0
  by_cases hsmall : n = 0 ∨ n < s.size
  · have HE : Hid (rBegin2 s.data.toList n v = (false, 0, 0)) := Lib.hid (by rw [rBegin2, HL.out, if_pos hsmall])
    by_cases h0 : n = 0
    · have e0 : ((n : Int) == 0) = true := by simp [h0]
      clear hsmall h0
      go_enter Try.func38, Try.ntmps38
      go_wp2_with fail
      refine (HD.out _).mono ?_
      rintro e w1 ⟨rfl, b1⟩
      go_wp2
      go_ret3
      rw [HE.out]
      exact ⟨rfl, b1⟩
    · have e0 : ((n : Int) == 0) = false := by simp [h0]
      have e1 : (n : Int) < (s.size : Int) := by omega
      clear hsmall h0
      go_enter Try.func38, Try.ntmps38
      go_wp2_with fail
      refine (HD.out _).mono ?_
      rintro e w1 ⟨rfl, b1⟩
      go_wp2
      go_ret3
      rw [HE.out]
      exact ⟨rfl, b1⟩
  · have hn0 : n ≠ 0 := fun h => hsmall (Or.inl h)
    have hns : s.size ≤ n := by omega
    have e0 : ((n : Int) == 0) = false := by simp [hn0]
    have e1 : ¬ (n : Int) < (s.size : Int) := by omega
    have HE : Hid ((fst1 (rBad s.data.toList) s.size).isSome = true → rBegin2 s.data.toList n v = (false, 0, 0)) := Lib.hid (fun h => by rw [rBegin2, HL.out, if_neg hsmall, if_pos h])
    have HZ : Hid ((fst1 (rBad s.data.toList) s.size).isSome = false → rBegin2 s.data.toList n v = if (55296 ≤ max (rLo (rV s.data.toList v (s.size - 1)) (n - s.size)) (rLeast n) ∧ min (rHi (rV s.data.toList v (s.size - 1)) (n - s.size)) (rMost n) ≤ 57343) ∨ min (rHi (rV s.data.toList v (s.size - 1)) (n - s.size)) (rMost n) < max (rLo (rV s.data.toList v (s.size - 1)) (n - s.size)) (rLeast n) then (false, 0, 0) else (true, n, rV s.data.toList v (s.size - 1))) := Lib.hid (fun h => by rw [rBegin2, HL.out, if_neg hsmall, if_neg (by rw [h]; simp)])
    clear hsmall hn0
    go_enter Try.func38, Try.ntmps38
    go_wp2_with fail
    refine (HD.out _).mono ?_
    rintro e w1 ⟨rfl, b1⟩
    go_wp2_with fail
    go_loopw [6, 7] (fun vv i wr => ∃ j : Nat, j + 1 ≤ s.size ∧ i = .int .i64 ((j + 1 : Nat) : Int) ∧ vv = .int .i64 (rV s.data.toList v j) ∧ NoneBelow (rBad s.data.toList) (j + 1) ∧ Below w.heap.size w wr) (fun _ i _ => s.size - (intOf i).toNat)
    case atStart =>
      refine ⟨0, hs1, rfl, rfl, fun j hj => ?_, b1⟩
      obtain rfl : j = 0 := by omega
      simp [rBad]
    case round =>
      obtain ⟨j, hj, rfl, rfl, hn, hB⟩ := hrel
      clear b1
      have hvl := rV_lt s.data.toList v hv j
      have hp : 256 * 64 ^ j ≤ 256 * 64 ^ 3 := Nat.mul_le_mul_left _ (Nat.pow_le_pow_right (by omega) (by omega))
      have hvb : rV s.data.toList v j < 67108864 := by omega
      clear hp hvl
      by_cases hlt : j + 1 < s.size
      · have hlti : (j : Int) + 1 < (s.size : Int) := by omega
        have hj0 : (0 : Int) ≤ (j : Int) + 1 := by omega
        have hbj := byt_at s (j + 1) hlt
        have hc := UInt8.toNat_lt (s[j + 1]'hlt)
        have HN : Hid (rV s.data.toList v (j + 1) = 64 * rV s.data.toList v j + (s[j + 1]'hlt).toNat - 128) := Lib.hid (by show 64 * rV s.data.toList v j + byt s.data.toList (j + 1) - 128 = _; rw [hbj])
        have hrb : rBad s.data.toList (j + 1) = (decide ((s[j + 1]'hlt).toNat < 128) || decide (191 < (s[j + 1]'hlt).toNat)) := by
          rw [rBad, hbj]; simp
        by_cases hq1 : (s[j + 1]'hlt).toNat < 128
        · have hq1i : ((s[j + 1]'hlt).toNat : Int) < 128 := by omega
          have HQ := Lib.hid (HE.out (by rw [fst1_some hlt hn (by rw [hrb]; simp [hq1])]; rfl))
          clear hrb HN hbj HE HZ hn
          go_wp2
          go_ret3
          rw [HQ.out]
          exact ⟨rfl, hB⟩
        · have hq1i : ¬ ((s[j + 1]'hlt).toNat : Int) < 128 := by omega
          by_cases hq2 : 191 < (s[j + 1]'hlt).toNat
          · have hq2i : (191 : Int) < ((s[j + 1]'hlt).toNat : Int) := by omega
            have HQ := Lib.hid (HE.out (by rw [fst1_some hlt hn (by rw [hrb]; simp [hq2])]; rfl))
            clear hrb HN hbj HE HZ hn
            go_wp2
            go_ret3
            rw [HQ.out]
            exact ⟨rfl, hB⟩
          · have hq2i : ¬ (191 : Int) < ((s[j + 1]'hlt).toNat : Int) := by omega
            have hn' := hn.succ (k := j + 1) (by rw [hrb]; simp; omega)
            clear hrb hbj HE HZ hn
            generalize rV s.data.toList v j = vj at *
            go_wp2
            go_roundw
            case rel => exact ⟨j + 1, by omega, by go_num, by rw [HN.out]; go_num, hn', hB⟩
            case measure => simp [intOf]; omega
      · have hje : j = s.size - 1 := by omega
        have hnlt : ¬ (j : Int) + 1 < (s.size : Int) := by omega
        have HQ := Lib.hid (HZ.out (by rw [fst1_none (by rw [show s.size = j + 1 by omega]; exact hn)]; rfl))
        rw [← hje] at HQ
        clear HE HZ hn hje
        generalize rV s.data.toList v j = V at *
        go_wp2_with fail
        go_loopw [8, 9, 10] (fun lo hi i wr => ∃ m : Nat, s.size + m ≤ n ∧ i = .int .i64 ((s.size + m : Nat) : Int) ∧ lo = .int .i64 (rLo V m) ∧ hi = .int .i64 (rHi V m) ∧ Below w.heap.size w wr) (fun _ _ i _ => n - (intOf i).toNat)
        case atStart => exact ⟨0, by omega, by go_num, rfl, rfl, hB⟩
        case round =>
          obtain ⟨m, hm, rfl, rfl, rfl, hB'⟩ := hrel
          clear hB
          have hlh := rLoHi V m
          have hp2 : 64 ^ m ≤ 262144 := Nat.le_trans (Nat.pow_le_pow_right (by omega) (show m ≤ 3 by omega)) (by decide)
          have hp : (V + 1) * 64 ^ m ≤ 67108864 * 262144 := Nat.mul_le_mul (by omega) hp2
          have hlo := hlh.1
          have hhi : rHi V m < 17592186044416 := by omega
          have HLO : Hid (rLo V (m + 1) = 64 * rLo V m) := Lib.hid rfl
          have HHI : Hid (rHi V (m + 1) = 64 * rHi V m + 63) := Lib.hid rfl
          clear hlh hp hp2
          by_cases hmn : s.size + m < n
          · have hmi : (s.size : Int) + (m : Int) < (n : Int) := by omega
            generalize rLo V m = lo at *
            generalize rHi V m = hi at *
            go_wp2
            go_roundw
            case rel => exact ⟨m + 1, by omega, by go_num, by rw [HLO.out]; go_num, by rw [HHI.out]; go_num, hB'⟩
            case measure => simp [intOf]; omega
          · have hmi : ¬ (s.size : Int) + (m : Int) < (n : Int) := by omega
            have hme : n - s.size = m := by omega
            rw [hme] at HQ
            clear HLO HHI hme
            generalize rLo V m = lo at *
            generalize rHi V m = hi at *
            have hBs := hB'.size
            have HLE : Hid (rLeast n ≤ 65536) := Lib.hid (by unfold rLeast; (repeat' split) <;> omega)
            have HMO : Hid (rMost n ≤ 1114111) := Lib.hid (by unfold rMost; (repeat' split) <;> omega)
            have HL1 := Lib.hid (least_any n hn4)
            have HM1 := Lib.hid (most_any n hn4)
            generalize rLeast n = mn at *
            generalize rMost n = mx at *
            by_cases q1 : (lo : Int) < (mn : Int) <;> by_cases q2 : (mx : Int) < (hi : Int)
            · have hA : max lo mn = mn := by omega
              have hB2 : min hi mx = mx := by omega
              rw [hA, hB2] at HQ
              clear hA hB2
              by_cases hbad : (55296 ≤ mn ∧ mx ≤ 57343) ∨ mx < mn
              · have HW := Lib.hid (HQ.out.trans (if_pos hbad))
                rcases hbad with ⟨z1, z2⟩ | z3
                · have y1 : (55296 : Int) ≤ (mn : Int) := by omega
                  have y2 : (mx : Int) ≤ 57343 := by omega
                  go_wp2_with fail
                  refine (HL1.out _).mono ?_
                  rintro e w2 ⟨rfl, b2⟩
                  have c2 := hB'.trans (b2.mono hBs)
                  clear hB' b2 hBs
                  go_wp2_with fail
                  have hBs := c2.size
                  refine (HM1.out _).mono ?_
                  rintro e w3 ⟨rfl, b3⟩
                  have c3 := c2.trans (b3.mono hBs)
                  clear c2 b3 hBs
                  go_wp2
                  all_goals
                    go_ret3
                    rw [HW.out]
                    exact ⟨rfl, c3⟩
                · have y3 : (mx : Int) < (mn : Int) := by omega
                  go_wp2_with fail
                  refine (HL1.out _).mono ?_
                  rintro e w2 ⟨rfl, b2⟩
                  have c2 := hB'.trans (b2.mono hBs)
                  clear hB' b2 hBs
                  go_wp2_with fail
                  have hBs := c2.size
                  refine (HM1.out _).mono ?_
                  rintro e w3 ⟨rfl, b3⟩
                  have c3 := c2.trans (b3.mono hBs)
                  clear c2 b3 hBs
                  go_wp2
                  all_goals
                    go_ret3
                    rw [HW.out]
                    exact ⟨rfl, c3⟩
              · have HW := Lib.hid (HQ.out.trans (if_neg hbad))
                have y3 : ¬ (mx : Int) < (mn : Int) := by omega
                by_cases z1 : (55296 : Int) ≤ (mn : Int)
                · have y2 : ¬ (mx : Int) ≤ 57343 := by omega
                  go_wp2_with fail
                  refine (HL1.out _).mono ?_
                  rintro e w2 ⟨rfl, b2⟩
                  have c2 := hB'.trans (b2.mono hBs)
                  clear hB' b2 hBs
                  go_wp2_with fail
                  have hBs := c2.size
                  refine (HM1.out _).mono ?_
                  rintro e w3 ⟨rfl, b3⟩
                  have c3 := c2.trans (b3.mono hBs)
                  clear c2 b3 hBs
                  go_wp2
                  all_goals
                    go_ret3
                    rw [HW.out]
                    exact ⟨rfl, c3⟩
                · have d1 : decide ((55296 : Int) ≤ (mn : Int)) = false := decide_eq_false (by omega)
                  clear z1 hbad
                  go_wp2_with fail
                  refine (HL1.out _).mono ?_
                  rintro e w2 ⟨rfl, b2⟩
                  have c2 := hB'.trans (b2.mono hBs)
                  clear hB' b2 hBs
                  go_wp2_with fail
                  have hBs := c2.size
                  refine (HM1.out _).mono ?_
                  rintro e w3 ⟨rfl, b3⟩
                  have c3 := c2.trans (b3.mono hBs)
                  clear c2 b3 hBs
                  go_wp2
                  all_goals
                    go_ret3
                    rw [HW.out]
                    exact ⟨rfl, c3⟩
            · have hA : max lo mn = mn := by omega
              have hB2 : min hi mx = hi := by omega
              rw [hA, hB2] at HQ
              clear hA hB2
              by_cases hbad : (55296 ≤ mn ∧ hi ≤ 57343) ∨ hi < mn
              · have HW := Lib.hid (HQ.out.trans (if_pos hbad))
                rcases hbad with ⟨z1, z2⟩ | z3
                · have y1 : (55296 : Int) ≤ (mn : Int) := by omega
                  have y2 : (hi : Int) ≤ 57343 := by omega
                  go_wp2_with fail
                  refine (HL1.out _).mono ?_
                  rintro e w2 ⟨rfl, b2⟩
                  have c2 := hB'.trans (b2.mono hBs)
                  clear hB' b2 hBs
                  go_wp2_with fail
                  have hBs := c2.size
                  refine (HM1.out _).mono ?_
                  rintro e w3 ⟨rfl, b3⟩
                  have c3 := c2.trans (b3.mono hBs)
                  clear c2 b3 hBs
                  go_wp2
                  all_goals
                    go_ret3
                    rw [HW.out]
                    exact ⟨rfl, c3⟩
                · have y3 : (hi : Int) < (mn : Int) := by omega
                  go_wp2_with fail
                  refine (HL1.out _).mono ?_
                  rintro e w2 ⟨rfl, b2⟩
                  have c2 := hB'.trans (b2.mono hBs)
                  clear hB' b2 hBs
                  go_wp2_with fail
                  have hBs := c2.size
                  refine (HM1.out _).mono ?_
                  rintro e w3 ⟨rfl, b3⟩
                  have c3 := c2.trans (b3.mono hBs)
                  clear c2 b3 hBs
                  go_wp2
                  all_goals
                    go_ret3
                    rw [HW.out]
                    exact ⟨rfl, c3⟩
              · have HW := Lib.hid (HQ.out.trans (if_neg hbad))
                have y3 : ¬ (hi : Int) < (mn : Int) := by omega
                by_cases z1 : (55296 : Int) ≤ (mn : Int)
                · have y2 : ¬ (hi : Int) ≤ 57343 := by omega
                  go_wp2_with fail
                  refine (HL1.out _).mono ?_
                  rintro e w2 ⟨rfl, b2⟩
                  have c2 := hB'.trans (b2.mono hBs)
                  clear hB' b2 hBs
                  go_wp2_with fail
                  have hBs := c2.size
                  refine (HM1.out _).mono ?_
                  rintro e w3 ⟨rfl, b3⟩
                  have c3 := c2.trans (b3.mono hBs)
                  clear c2 b3 hBs
                  go_wp2
                  all_goals
                    go_ret3
                    rw [HW.out]
                    exact ⟨rfl, c3⟩
                · have d1 : decide ((55296 : Int) ≤ (mn : Int)) = false := decide_eq_false (by omega)
                  clear z1 hbad
                  go_wp2_with fail
                  refine (HL1.out _).mono ?_
                  rintro e w2 ⟨rfl, b2⟩
                  have c2 := hB'.trans (b2.mono hBs)
                  clear hB' b2 hBs
                  go_wp2_with fail
                  have hBs := c2.size
                  refine (HM1.out _).mono ?_
                  rintro e w3 ⟨rfl, b3⟩
                  have c3 := c2.trans (b3.mono hBs)
                  clear c2 b3 hBs
                  go_wp2
                  all_goals
                    go_ret3
                    rw [HW.out]
                    exact ⟨rfl, c3⟩
            · have hA : max lo mn = lo := by omega
              have hB2 : min hi mx = mx := by omega
              rw [hA, hB2] at HQ
              clear hA hB2
              by_cases hbad : (55296 ≤ lo ∧ mx ≤ 57343) ∨ mx < lo
              · have HW := Lib.hid (HQ.out.trans (if_pos hbad))
                rcases hbad with ⟨z1, z2⟩ | z3
                · have y1 : (55296 : Int) ≤ (lo : Int) := by omega
                  have y2 : (mx : Int) ≤ 57343 := by omega
                  go_wp2_with fail
                  refine (HL1.out _).mono ?_
                  rintro e w2 ⟨rfl, b2⟩
                  have c2 := hB'.trans (b2.mono hBs)
                  clear hB' b2 hBs
                  go_wp2_with fail
                  have hBs := c2.size
                  refine (HM1.out _).mono ?_
                  rintro e w3 ⟨rfl, b3⟩
                  have c3 := c2.trans (b3.mono hBs)
                  clear c2 b3 hBs
                  go_wp2
                  all_goals
                    go_ret3
                    rw [HW.out]
                    exact ⟨rfl, c3⟩
                · have y3 : (mx : Int) < (lo : Int) := by omega
                  go_wp2_with fail
                  refine (HL1.out _).mono ?_
                  rintro e w2 ⟨rfl, b2⟩
                  have c2 := hB'.trans (b2.mono hBs)
                  clear hB' b2 hBs
                  go_wp2_with fail
                  have hBs := c2.size
                  refine (HM1.out _).mono ?_
                  rintro e w3 ⟨rfl, b3⟩
                  have c3 := c2.trans (b3.mono hBs)
                  clear c2 b3 hBs
                  go_wp2
                  all_goals
                    go_ret3
                    rw [HW.out]
                    exact ⟨rfl, c3⟩
              · have HW := Lib.hid (HQ.out.trans (if_neg hbad))
                have y3 : ¬ (mx : Int) < (lo : Int) := by omega
                by_cases z1 : (55296 : Int) ≤ (lo : Int)
                · have y2 : ¬ (mx : Int) ≤ 57343 := by omega
                  go_wp2_with fail
                  refine (HL1.out _).mono ?_
                  rintro e w2 ⟨rfl, b2⟩
                  have c2 := hB'.trans (b2.mono hBs)
                  clear hB' b2 hBs
                  go_wp2_with fail
                  have hBs := c2.size
                  refine (HM1.out _).mono ?_
                  rintro e w3 ⟨rfl, b3⟩
                  have c3 := c2.trans (b3.mono hBs)
                  clear c2 b3 hBs
                  go_wp2
                  all_goals
                    go_ret3
                    rw [HW.out]
                    exact ⟨rfl, c3⟩
                · have d1 : decide ((55296 : Int) ≤ (lo : Int)) = false := decide_eq_false (by omega)
                  clear z1 hbad
                  go_wp2_with fail
                  refine (HL1.out _).mono ?_
                  rintro e w2 ⟨rfl, b2⟩
                  have c2 := hB'.trans (b2.mono hBs)
                  clear hB' b2 hBs
                  go_wp2_with fail
                  have hBs := c2.size
                  refine (HM1.out _).mono ?_
                  rintro e w3 ⟨rfl, b3⟩
                  have c3 := c2.trans (b3.mono hBs)
                  clear c2 b3 hBs
                  go_wp2
                  all_goals
                    go_ret3
                    rw [HW.out]
                    exact ⟨rfl, c3⟩
            · have hA : max lo mn = lo := by omega
              have hB2 : min hi mx = hi := by omega
              rw [hA, hB2] at HQ
              clear hA hB2
              by_cases hbad : (55296 ≤ lo ∧ hi ≤ 57343) ∨ hi < lo
              · have HW := Lib.hid (HQ.out.trans (if_pos hbad))
                rcases hbad with ⟨z1, z2⟩ | z3
                · have y1 : (55296 : Int) ≤ (lo : Int) := by omega
                  have y2 : (hi : Int) ≤ 57343 := by omega
                  go_wp2_with fail
                  refine (HL1.out _).mono ?_
                  rintro e w2 ⟨rfl, b2⟩
                  have c2 := hB'.trans (b2.mono hBs)
                  clear hB' b2 hBs
                  go_wp2_with fail
                  have hBs := c2.size
                  refine (HM1.out _).mono ?_
                  rintro e w3 ⟨rfl, b3⟩
                  have c3 := c2.trans (b3.mono hBs)
                  clear c2 b3 hBs
                  go_wp2
                  all_goals
                    go_ret3
                    rw [HW.out]
                    exact ⟨rfl, c3⟩
                · have y3 : (hi : Int) < (lo : Int) := by omega
                  go_wp2_with fail
                  refine (HL1.out _).mono ?_
                  rintro e w2 ⟨rfl, b2⟩
                  have c2 := hB'.trans (b2.mono hBs)
                  clear hB' b2 hBs
                  go_wp2_with fail
                  have hBs := c2.size
                  refine (HM1.out _).mono ?_
                  rintro e w3 ⟨rfl, b3⟩
                  have c3 := c2.trans (b3.mono hBs)
                  clear c2 b3 hBs
                  go_wp2
                  all_goals
                    go_ret3
                    rw [HW.out]
                    exact ⟨rfl, c3⟩
              · have HW := Lib.hid (HQ.out.trans (if_neg hbad))
                have y3 : ¬ (hi : Int) < (lo : Int) := by omega
                by_cases z1 : (55296 : Int) ≤ (lo : Int)
                · have y2 : ¬ (hi : Int) ≤ 57343 := by omega
                  go_wp2_with fail
                  refine (HL1.out _).mono ?_
                  rintro e w2 ⟨rfl, b2⟩
                  have c2 := hB'.trans (b2.mono hBs)
                  clear hB' b2 hBs
                  go_wp2_with fail
                  have hBs := c2.size
                  refine (HM1.out _).mono ?_
                  rintro e w3 ⟨rfl, b3⟩
                  have c3 := c2.trans (b3.mono hBs)
                  clear c2 b3 hBs
                  go_wp2
                  all_goals
                    go_ret3
                    rw [HW.out]
                    exact ⟨rfl, c3⟩
                · have d1 : decide ((55296 : Int) ≤ (lo : Int)) = false := decide_eq_false (by omega)
                  clear z1 hbad
                  go_wp2_with fail
                  refine (HL1.out _).mono ?_
                  rintro e w2 ⟨rfl, b2⟩
                  have c2 := hB'.trans (b2.mono hBs)
                  clear hB' b2 hBs
                  go_wp2_with fail
                  have hBs := c2.size
                  refine (HM1.out _).mono ?_
                  rintro e w3 ⟨rfl, b3⟩
                  have c3 := c2.trans (b3.mono hBs)
                  clear c2 b3 hBs
                  go_wp2
                  all_goals
                    go_ret3
                    rw [HW.out]
                    exact ⟨rfl, c3⟩
end Go.Proofs.Ytefncnmahimgpaa
