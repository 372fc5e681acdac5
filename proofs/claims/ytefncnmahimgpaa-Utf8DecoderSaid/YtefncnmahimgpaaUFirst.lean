/- Contract of utf8.first. -/
import Derived.Test.YtefncnmahimgpaaRows
import Derived.Test.YtefncnmahimgpaaBase
import Derived.Test.YtefncnmahimgpaaRow
import Derived.Test.YtefncnmahimgpaaQClass
import Derived.Test.YtefncnmahimgpaaUSize
import Derived.Test.YtefncnmahimgpaaUBegins
import Derived.WalkKit
import Derived.OwnWalk
import Derived.WalkSpells
import Derived.WalkLawsBesides
import Derived.Lib.Hide
import Derived.Deep.QuietTactic
import Derived.BigQuiet
import Derived.Outline
import Derived.Laws.BitsLemmas
namespace Go.Proofs.Ytefncnmahimgpaa
open Go.RowKit

/-- the modulus of the bits of a first byte -/
def modOf (n : Nat) : Nat := if n = 1 then 128 else if n = 2 then 32 else if n = 3 then 16 else 8
/-- the code point at the beginning of a text, its size, the error -/
def pFirst (l : List UInt8) : Nat × Nat × Nat :=
  let n := psz (byt l 0)
  if n = 0 then (0, 0, 6)
  else if l.length < n then (if (pBegins l).2 then (0, 0, 23) else (0, 0, 3))
  else if (pBegins (l.take n)).2 then (loF l (modOf n) (n - 1), n, 0) else (0, 0, 3)

set_option maxRecDepth 100000 in
set_option maxHeartbeats 1600000 in
theorem first_core (n : Nat) (mask c1 c2 c4 c5 : Int) (s : ByteArray) (hn1 : 1 ≤ n) (hn4 : n ≤ 4) (hpsz : psz (byt s.data.toList 0) = n)
    (hmask : ∀ c : Nat, c < 256 → bits BinOp.and IntKind.u8 (c : Int) mask = ((c % modOf n : Nat) : Int))
    (hidx : ∀ w, (Instr.index 64 (.agg clsA) (.int .i64 ((n : Int) - 1))).run Try.prog w = .ok (.agg #[.int .u8 c1, .int .u8 c2, .int .u8 mask, .int .i32 c4, .int .i32 c5]) w)
    (hs1 : 1 ≤ s.size) (hsn : n ≤ s.size) (hok : (pBegins (s.data.toList.take n)).2 = true) (w : World) :
    Calls Try.prog 37 #[.string s] w fun e w' => e = .returned (.tuple #[.int .i32 (loF s.data.toList (modOf n) (n - 1)), .int .i64 n, .int .i64 0]) ∧ Below w.heap.size w w' := by
  have hb0 := byt_at s 0 hs1
  have hc0 : (s[0]'hs1).toNat < 256 := UInt8.toNat_lt _
  obtain ⟨v, hv⟩ : ∃ v : Nat, v = (s[0]'hs1).toNat % modOf n := ⟨_, rfl⟩
  have hmk : bits BinOp.and IntKind.u8 ((s[0]'hs1).toNat : Int) mask = (v : Int) := by rw [hv]; exact hmask _ hc0
  have hv256 : v < 256 := by rw [hv]; have := Nat.mod_le (s[0]'hs1).toNat (modOf n); omega
  have HV := Lib.hid hv
  have HS := Lib.hid (sizeOf_any _ hc0)
  have hnz : ((n : Int) == 0) = false := by simp; omega
  have HB0 := Lib.hid hb0
  rw [hb0] at hpsz
  rw [hpsz] at HS
  have htl : (s.extract 0 n).data.toList = s.data.toList.take n := by simp
  have HBG := begins_any (s.extract 0 n) (by rw [ByteArray.size_extract]; omega) (by unfold maxLen; rw [ByteArray.size_extract]; omega)
  rw [htl, hok] at HBG
  have HB := Lib.hid HBG
  have hfield : ∀ w, (Instr.field 63 (.agg #[.int .u8 c1, .int .u8 c2, .int .u8 mask, .int .i32 c4, .int .i32 c5]) 2).run Try.prog w = .ok (.int .u8 mask) w := fun w => by with_unfolding_all rfl
  clear hmask hpsz hb0 hv HBG htl hok
  go_enter Try.func37, Try.ntmps37
  go_wp2_with fail
  refine (HS.out _).mono ?_
  rintro e w1 ⟨rfl, b1⟩
  go_wp2_with fail
  refine (HB.out _).mono ?_
  rintro e w2 ⟨rfl, b2⟩
  have c2 := b1.trans (b2.mono b1.size)
  go_wp2_with fail
  refine wp_region_class (fun w' => Below w.heap.size w w') (by kernel_rfl) (by kernel_rfl) c2.drew (fun hne => ?_)
  repeat (first
    | go_big_quiet_skip
    | (go_big_quiet_want; go_big_quiet_op; go_big_quiet_on)
    | (go_big_quiet_want; go_big_quiet_op; apply Exists.intro; refine ⟨fun sc => ?_, ?_⟩; (go_at_call 39; exact calls_class (classes_any sc.w) (fun _ hb => sc.h.trans (hb.mono sc.h.size))); go_big_quiet_on))
  refine wpQuiet_nil ?_
  intro w5 h5
  have HF : Hid (loF s.data.toList (modOf n) 0 = v) := Lib.hid (by rw [loF, HB0.out, HV.out])
  have HL : Hid (s.data.toList.length = s.size) := Lib.hid (by simp)
  clear hne c2 b1 b2 HB HS hfield hidx hmk
  clear hc0
  go_wp2
  go_loopw [10, 11] (fun r i wr => ∃ j : Nat, j + 1 ≤ n ∧ i = .int .i64 ((j + 1 : Nat) : Int) ∧ r = .int .i32 (loF s.data.toList (modOf n) j) ∧ Below w.heap.size w wr) (fun _ i _ => n - (intOf i).toNat)
  case atStart =>
    exact ⟨0, hn1, rfl, by rw [HF.out], h5⟩
  case round =>
    obtain ⟨j, hj, rfl, rfl, hB⟩ := hrel
    have hlh := lohi s.data.toList (modOf n) (by unfold modOf; (repeat' split) <;> omega) (by unfold modOf; (repeat' split) <;> omega) j
    have hp : 128 * 64 ^ j ≤ 128 * 64 ^ 3 := Nat.mul_le_mul_left _ (Nat.pow_le_pow_right (by omega) (by omega))
    have hlo : loF s.data.toList (modOf n) j < 33554432 := by have := hlh.2; have := hlh.1; omega
    clear hlh hp h5
    by_cases hlt : j + 1 < n
    · have hlti : (j : Int) + 1 < (n : Int) := by omega
      have hin : j + 1 < s.size := by omega
      have hini : (j : Int) + 1 < (s.size : Int) := by omega
      have hbj := byt_at s (j + 1) hin
      have hc := UInt8.toNat_lt (s[j + 1]'hin)
      have HNL : Hid (loF s.data.toList (modOf n) (j + 1) = loF s.data.toList (modOf n) j * 64 + (s[j + 1]'hin).toNat % 64) := Lib.hid (by rw [loF, HL.out, if_pos hin, hbj])
      clear hbj
      generalize loF s.data.toList (modOf n) j = lo at *
      have ho1 : bits BinOp.or IntKind.i32 ((lo : Int) * 64) (((s[j + 1]'hin).toNat : Int) % 64) = (lo : Int) * 64 + ((s[j + 1]'hin).toNat : Int) % 64 := i32_or6 _ _ (by omega) (by omega) (by omega) (by omega) (by omega)
      have hj0 : (0 : Int) ≤ (j : Int) + 1 := by omega
      go_wp2
      go_roundw
      case rel => exact ⟨j + 1, by omega, by go_num, by rw [HNL.out]; go_num, hB⟩
      case measure => simp [intOf]; omega
    · have hnj : n = j + 1 := by omega
      have hnlt : ¬ (j : Int) + 1 < (n : Int) := by omega
      have HE : Hid (loF s.data.toList (modOf n) (n - 1) = loF s.data.toList (modOf n) j) := Lib.hid (by rw [hnj]; rfl)
      clear hnj
      go_wp2
      go_ret3
      rw [HE.out]
      exact ⟨rfl, hB⟩

theorem first_1 (s : ByteArray) (hp : psz (byt s.data.toList 0) = 1) (hs1 : 1 ≤ s.size) (hok : (pBegins (s.data.toList.take 1)).2 = true) (w : World) :
    Calls Try.prog 37 #[.string s] w fun e w' => e = .returned (.tuple #[.int .i32 (loF s.data.toList (modOf 1) 0), .int .i64 1, .int .i64 0]) ∧ Below w.heap.size w w' :=
  first_core 1 127 0 127 0 127 s (by omega) (by omega) hp mask1 (fun w => cls_at0 w) hs1 (by omega) hok w
theorem first_2 (s : ByteArray) (hp : psz (byt s.data.toList 0) = 2) (hs1 : 2 ≤ s.size) (hok : (pBegins (s.data.toList.take 2)).2 = true) (w : World) :
    Calls Try.prog 37 #[.string s] w fun e w' => e = .returned (.tuple #[.int .i32 (loF s.data.toList (modOf 2) 1), .int .i64 2, .int .i64 0]) ∧ Below w.heap.size w w' :=
  first_core 2 31 194 223 128 2047 s (by omega) (by omega) hp mask2 (fun w => cls_at1 w) (by omega) (by omega) hok w
theorem first_3 (s : ByteArray) (hp : psz (byt s.data.toList 0) = 3) (hs1 : 3 ≤ s.size) (hok : (pBegins (s.data.toList.take 3)).2 = true) (w : World) :
    Calls Try.prog 37 #[.string s] w fun e w' => e = .returned (.tuple #[.int .i32 (loF s.data.toList (modOf 3) 2), .int .i64 3, .int .i64 0]) ∧ Below w.heap.size w w' :=
  first_core 3 15 224 239 2048 65535 s (by omega) (by omega) hp mask3 (fun w => cls_at2 w) (by omega) (by omega) hok w
theorem first_4 (s : ByteArray) (hp : psz (byt s.data.toList 0) = 4) (hs1 : 4 ≤ s.size) (hok : (pBegins (s.data.toList.take 4)).2 = true) (w : World) :
    Calls Try.prog 37 #[.string s] w fun e w' => e = .returned (.tuple #[.int .i32 (loF s.data.toList (modOf 4) 3), .int .i64 4, .int .i64 0]) ∧ Below w.heap.size w w' :=
  first_core 4 7 240 244 65536 1114111 s (by omega) (by omega) hp mask4 (fun w => cls_at3 w) (by omega) (by omega) hok w

set_option maxRecDepth 100000 in
set_option maxHeartbeats 1600000 in
theorem first_any (s : ByteArray) (hs1 : 1 ≤ s.size) (hs : s.size ≤ maxLen) (w : World) :
    Calls Try.prog 37 #[.string s] w fun e w' => e = .returned (.tuple #[.int .i32 (pFirst s.data.toList).1, .int .i64 (pFirst s.data.toList).2.1, .int .i64 (pFirst s.data.toList).2.2]) ∧ Below w.heap.size w w' := by
  have hL : s.data.toList.length = s.size := by simp
  have h4 := psz_le (byt s.data.toList 0)
  by_cases hgood : psz (byt s.data.toList 0) ≠ 0 ∧ psz (byt s.data.toList 0) ≤ s.size ∧ (pBegins (s.data.toList.take (psz (byt s.data.toList 0)))).2 = true
  · obtain ⟨h0, hn, hok⟩ := hgood
    have e : pFirst s.data.toList = (loF s.data.toList (modOf (psz (byt s.data.toList 0))) (psz (byt s.data.toList 0) - 1), psz (byt s.data.toList 0), 0) := by
      unfold pFirst
      dsimp only
      rw [if_neg h0, if_neg (by omega), if_pos hok]
    rw [e]
    obtain h | h | h | h : psz (byt s.data.toList 0) = 1 ∨ psz (byt s.data.toList 0) = 2 ∨ psz (byt s.data.toList 0) = 3 ∨ psz (byt s.data.toList 0) = 4 := by omega
    · rw [h] at hn hok ⊢; exact first_1 s h (by omega) hok w
    · rw [h] at hn hok ⊢; exact first_2 s h (by omega) hok w
    · rw [h] at hn hok ⊢; exact first_3 s h (by omega) hok w
    · rw [h] at hn hok ⊢; exact first_4 s h (by omega) hok w
  · have hb0 := byt_at s 0 hs1
    have hc0 : (s[0]'hs1).toNat < 256 := UInt8.toNat_lt _
    have HS := Lib.hid (sizeOf_any _ hc0)
    have HB := Lib.hid (begins_any s hs1 hs)
    obtain ⟨n, hn⟩ : ∃ n, n = psz (byt s.data.toList 0) := ⟨_, rfl⟩
    rw [← hb0, ← hn] at HS
    rw [← hn] at hgood h4
    by_cases h0 : n = 0
    · have HP : Hid (pFirst s.data.toList = (0, 0, 6)) := Lib.hid (by unfold pFirst; dsimp only; rw [← hn, if_pos h0])
      have e0 : ((n : Int) == 0) = true := by simp [h0]
      rw [hb0] at HS
      clear h0 hn hb0 hL hgood HB
      go_enter Try.func37, Try.ntmps37
      go_wp2_with fail
      refine (HS.out _).mono ?_
      rintro e w1 ⟨rfl, b1⟩
      go_wp2
      go_ret3
      exact ⟨by rw [HP.out]; rfl, b1⟩
    · have e0 : ((n : Int) == 0) = false := by simp [h0]
      by_cases hlt : s.size < n
      · have e1 : (s.size : Int) < (n : Int) := by omega
        cases hq : (pBegins s.data.toList).2
        · have HP : Hid (pFirst s.data.toList = (0, 0, 3)) := Lib.hid (by unfold pFirst; dsimp only; rw [← hn, if_neg h0, if_pos (by omega), if_neg (by rw [hq]; simp)])
          rw [hq] at HB
          rw [hb0] at HS
          clear h0 hn hb0 hL hgood hlt hq
          go_enter Try.func37, Try.ntmps37
          go_wp2_with fail
          refine (HS.out _).mono ?_
          rintro e w1 ⟨rfl, b1⟩
          go_wp2_with fail
          refine (HB.out _).mono ?_
          rintro e w2 ⟨rfl, b2⟩
          have c2 := b1.trans (b2.mono b1.size)
          go_wp2
          go_ret3
          exact ⟨by rw [HP.out]; rfl, c2⟩
        · have HP : Hid (pFirst s.data.toList = (0, 0, 23)) := Lib.hid (by unfold pFirst; dsimp only; rw [← hn, if_neg h0, if_pos (by omega), if_pos hq])
          rw [hq] at HB
          rw [hb0] at HS
          clear h0 hn hb0 hL hgood hlt hq
          go_enter Try.func37, Try.ntmps37
          go_wp2_with fail
          refine (HS.out _).mono ?_
          rintro e w1 ⟨rfl, b1⟩
          go_wp2_with fail
          refine (HB.out _).mono ?_
          rintro e w2 ⟨rfl, b2⟩
          have c2 := b1.trans (b2.mono b1.size)
          go_wp2
          go_ret3
          exact ⟨by rw [HP.out]; rfl, c2⟩
      · have e1 : ¬ (s.size : Int) < (n : Int) := by omega
        have hok : (pBegins (s.data.toList.take n)).2 = false := by
          cases hq : (pBegins (s.data.toList.take n)).2
          · rfl
          · exact absurd ⟨h0, by omega, hq⟩ hgood
        have HP : Hid (pFirst s.data.toList = (0, 0, 3)) := Lib.hid (by unfold pFirst; dsimp only; rw [← hn, if_neg h0, if_neg (by omega), if_neg (by rw [hok]; simp)])
        have htl : (s.extract 0 n).data.toList = s.data.toList.take n := by simp
        have HBG := begins_any (s.extract 0 n) (by rw [ByteArray.size_extract]; omega) (by unfold maxLen; rw [ByteArray.size_extract]; omega)
        rw [htl, hok] at HBG
        have HB' := Lib.hid HBG
        rw [hb0] at HS
        have hns : n ≤ s.size := by omega
        clear h0 hn hb0 hL hgood hlt HB HBG hok htl
        go_enter Try.func37, Try.ntmps37
        go_wp2_with fail
        refine (HS.out _).mono ?_
        rintro e w1 ⟨rfl, b1⟩
        go_wp2_with fail
        refine (HB'.out _).mono ?_
        rintro e w2 ⟨rfl, b2⟩
        have c2 := b1.trans (b2.mono b1.size)
        go_wp2
        go_ret3
        exact ⟨by rw [HP.out]; rfl, c2⟩
end Go.Proofs.Ytefncnmahimgpaa
