/- Contracts of utf8.Check, Valid, Decode. -/
import Derived.Test.YtefncnmahimgpaaRows
import Derived.Test.YtefncnmahimgpaaBase
import Derived.Test.YtefncnmahimgpaaRow
import Derived.Test.YtefncnmahimgpaaUSize
import Derived.Test.YtefncnmahimgpaaUBegins
import Derived.Test.YtefncnmahimgpaaUFirst
import Derived.WalkKit
import Derived.OwnWalk
import Derived.WalkSpells
import Derived.WalkLawsBesides
import Derived.Lib.Hide
import Derived.Deep.QuietTactic
import Derived.BigQuiet
import Derived.Outline
namespace Go.Proofs.Ytefncnmahimgpaa
open Go.RowKit

theorem pFirst_ok {l : List UInt8} (h : (pFirst l).2.2 = 0) : 1 ≤ (pFirst l).2.1 ∧ (pFirst l).2.1 ≤ l.length ∧ (pFirst l).2.1 ≤ 4 := by
  have h4 := psz_le (byt l 0)
  revert h
  unfold pFirst
  dsimp only
  (repeat' split) <;> intro h <;> simp at h ⊢ <;> omega
theorem pFirst_lt {l : List UInt8} : (pFirst l).1 < 33554432 ∧ (pFirst l).2.1 ≤ 4 ∧ (pFirst l).2.2 < 64 := by
  have h4 := psz_le (byt l 0)
  have hm : 0 < modOf (psz (byt l 0)) ∧ modOf (psz (byt l 0)) ≤ 128 := by unfold modOf; (repeat' split) <;> omega
  have hlh := lohi l (modOf (psz (byt l 0))) hm.1 hm.2 (psz (byt l 0) - 1)
  have hp : 128 * 64 ^ (psz (byt l 0) - 1) ≤ 128 * 64 ^ 3 := Nat.mul_le_mul_left _ (Nat.pow_le_pow_right (by omega) (by omega))
  unfold pFirst
  dsimp only
  (repeat' split) <;> simp <;> omega

/-- the code points from a place on with their places, the place of the first error, its kind -/
def pAll (l : List UInt8) (at' : Nat) : List (Nat × Nat) × Nat × Nat :=
  if _h : at' < l.length then
    if _h2 : (pFirst (l.drop at')).2.2 = 0 ∧ 0 < (pFirst (l.drop at')).2.1 then
      let q := pAll l (at' + (pFirst (l.drop at')).2.1)
      ((at', (pFirst (l.drop at')).1) :: q.1, q.2)
    else ([], at', (pFirst (l.drop at')).2.2)
  else ([], 0, 0)
termination_by l.length - at'
decreasing_by omega
theorem pAll_end {l : List UInt8} {k : Nat} (h : ¬ k < l.length) : pAll l k = ([], 0, 0) := by rw [pAll, dif_neg h]
theorem pAll_err {l : List UInt8} {k : Nat} (h : k < l.length) (h2 : (pFirst (l.drop k)).2.2 ≠ 0) : pAll l k = ([], k, (pFirst (l.drop k)).2.2) := by
  rw [pAll, dif_pos h, dif_neg (fun x => h2 x.1)]
theorem pAll_ok {l : List UInt8} {k : Nat} (h : k < l.length) (h2 : (pFirst (l.drop k)).2.2 = 0) :
    pAll l k = ((k, (pFirst (l.drop k)).1) :: (pAll l (k + (pFirst (l.drop k)).2.1)).1, (pAll l (k + (pFirst (l.drop k)).2.1)).2) := by
  rw [pAll, dif_pos h, dif_pos ⟨h2, (pFirst_ok h2).1⟩]
theorem drop_list (s : ByteArray) (k : Nat) : (s.extract k s.size).data.toList = s.data.toList.drop k := by
  simp [List.take_of_length_le]

set_option maxRecDepth 100000 in
set_option maxHeartbeats 1600000 in
theorem check_any (s : ByteArray) (hs : s.size ≤ maxLen) (w : World) :
    Calls Try.prog 16 #[.string s] w fun e w' => e = .returned (.tuple #[.int .i64 (pAll s.data.toList 0).2.1, .int .i64 (pAll s.data.toList 0).2.2]) ∧ Below w.heap.size w w' := by
  have HL : Hid (s.data.toList.length = s.size) := Lib.hid (by simp)
  unfold maxLen at hs
  go_enter Try.func16, Try.ntmps16
  go_wp2_with fail
  go_loopw [4] (fun i wr => ∃ k : Nat, k ≤ s.size ∧ i = .int .i64 k ∧ Hid ((pAll s.data.toList k).2 = (pAll s.data.toList 0).2) ∧ Below w.heap.size w wr) (fun i _ => s.size - (intOf i).toNat)
  case atStart => exact ⟨0, by omega, rfl, Lib.hid rfl, Below.refl _ w⟩
  case round =>
    obtain ⟨k, hk, rfl, HP, hB⟩ := hrel
    by_cases hlt : k < s.size
    · have hlti : (k : Int) < (s.size : Int) := by omega
      have HF := first_any (s.extract k s.size) (by rw [ByteArray.size_extract]; omega) (by rw [ByteArray.size_extract]; unfold maxLen; omega)
      rw [drop_list] at HF
      have HF' := Lib.hid HF
      have hok := @pFirst_ok (s.data.toList.drop k)
      have hb := @pFirst_lt (s.data.toList.drop k)
      have HE : Hid ((pFirst (s.data.toList.drop k)).2.2 ≠ 0 → (pAll s.data.toList k) = ([], k, (pFirst (s.data.toList.drop k)).2.2)) := Lib.hid (fun h => pAll_err (by rw [HL.out]; exact hlt) h)
      have HO : Hid ((pFirst (s.data.toList.drop k)).2.2 = 0 → (pAll s.data.toList k).2 = (pAll s.data.toList (k + (pFirst (s.data.toList.drop k)).2.1)).2) := Lib.hid (fun h => by rw [pAll_ok (by rw [HL.out]; exact hlt) h])
      have hlen : (s.data.toList.drop k).length = s.size - k := by simp
      rw [hlen] at hok
      clear HF hlen
      generalize pFirst (s.data.toList.drop k) = p at *
      obtain ⟨r, n, e⟩ := p
      dsimp only at hok hb HF' HE HO
      have hsz := hB.size
      go_wp2_with fail
      refine (HF'.out _).mono ?_
      rintro e w1 ⟨rfl, b1⟩
      have c1 := hB.trans (b1.mono hsz)
      cases he : ((e : Int) != 0)
      · have h0 : e = 0 := by simpa using he
        have hn := hok h0
        have H2 : Hid ((pAll s.data.toList (k + n)).2 = (pAll s.data.toList 0).2) := Lib.hid (by rw [← HO.out h0, HP.out])
        clear hok HE HO
        go_wp2
        go_roundw
        case rel => exact ⟨k + n, by omega, by go_num, H2, c1⟩
        case measure => simp [intOf]; omega
      · have h0 : e ≠ 0 := by simpa using he
        have H2 : Hid ((pAll s.data.toList 0).2 = (k, e)) := Lib.hid (by rw [← HP.out, HE.out h0])
        clear hok HE HO
        go_wp2
        go_ret2
        rw [H2.out]
        exact ⟨rfl, c1⟩
    · have hlti : ¬ (k : Int) < (s.size : Int) := by omega
      have H2 : Hid ((pAll s.data.toList 0).2 = (0, 0)) := Lib.hid (by rw [← HP.out, pAll_end (by rw [HL.out]; exact hlt)])
      go_wp2
      go_ret2
      rw [H2.out]
      exact ⟨rfl, hB⟩

/-- is a text valid? -/
def okAll (l : List UInt8) : Bool := decide ((pAll l 0).2.2 = 0)
theorem valid_any (s : ByteArray) (hs : s.size ≤ maxLen) (w : World) :
    Calls Try.prog 18 #[.string s] w fun e w' => e = .returned (.bool (okAll s.data.toList)) ∧ Below w.heap.size w w' := by
  have HC := Lib.hid (check_any s hs)
  have HO : Hid (okAll s.data.toList = decide ((pAll s.data.toList 0).2.2 = 0)) := Lib.hid rfl
  generalize pAll s.data.toList 0 = p at *
  go_enter Try.func18, Try.ntmps18
  go_wp2_with fail
  refine (HC.out _).mono ?_
  rintro e w1 ⟨rfl, b1⟩
  go_wp2
  go_ret
  exact ⟨ret_bool (by rw [HO.out, Bool.eq_iff_iff]; simp; try omega), b1⟩

/-- what Decode answers -/
def pDec (l : List UInt8) : Nat × Nat × Nat := if l.length = 0 then (0, 0, 1) else pFirst l
theorem decode_any (s : ByteArray) (hs : s.size ≤ maxLen) (w : World) :
    Calls Try.prog 19 #[.string s] w fun e w' => e = .returned (.tuple #[.int .i32 (pDec s.data.toList).1, .int .i64 (pDec s.data.toList).2.1, .int .i64 (pDec s.data.toList).2.2]) ∧ Below w.heap.size w w' := by
  have hL : s.data.toList.length = s.size := by simp
  by_cases h0 : s.size = 0
  · have HO : Hid (pDec s.data.toList = (0, 0, 1)) := Lib.hid (by rw [pDec, if_pos (by omega)])
    have he := isEmpty_true h0
    clear hL h0
    go_enter Try.func19, Try.ntmps19
    go_wp2
    go_ret3
    rw [HO.out]
    exact ⟨rfl, Below.refl _ w⟩
  · have HO : Hid (pDec s.data.toList = pFirst s.data.toList) := Lib.hid (by rw [pDec, if_neg (by omega)])
    have he := isEmpty_false h0
    have HF := Lib.hid (first_any s (by omega) hs)
    clear hL h0
    go_enter Try.func19, Try.ntmps19
    go_wp2_with fail
    refine (HF.out _).mono ?_
    rintro e w1 ⟨rfl, b1⟩
    go_wp2
    go_ret3
    rw [HO.out]
    exact ⟨rfl, b1⟩
end Go.Proofs.Ytefncnmahimgpaa
