/- Contract of ascii.Unhex on a text that consists of the digits of bytes. -/
import Derived.Test.YtnoilnmkdahhiaaRows
import Derived.Test.YtnoilnmkdahhiaaBase
import Derived.Test.YtnoilnmkdahhiaaHexW
import Derived.Test.YtnoilnmkdahhiaaShelf
import Derived.WalkKit
import Derived.WalkSpells
import Derived.WalkLawsBesides
import Derived.Lib.Hide
import Derived.Deep.QuietTactic
import Derived.BigQuiet
import Derived.Lib.Bytealg
import Derived.Outline
import Derived.Maps.AppendAt
import Derived.IntWalk
namespace Go.Proofs.Ytnoilnmkdahhiaa
open Go.RowKit

def digits16 : List UInt8 := [48, 49, 50, 51, 52, 53, 54, 55, 56, 57, 97, 98, 99, 100, 101, 102]
theorem index_hexD : ∀ n, n < 16 → Lib.indexByte digits16 (hexD n) = n := by decide +kernel

theorem hexL_even (b : List UInt8) (k : Nat) (h : k < b.length) : byt (hexL b) (2 * k) = (hexD (byt b k / 16)).toNat ∧ byt (hexL b) (2 * k + 1) = (hexD (byt b k % 16)).toNat := by
  induction b generalizing k with
  | nil => simp at h
  | cons a r ih =>
    have e : hexL (a :: r) = hexD (a.toNat / 16) :: hexD (a.toNat % 16) :: hexL r := by simp [hexL, List.flatMap_cons]
    rw [e]
    cases k with
    | zero => exact ⟨rfl, rfl⟩
    | succ k =>
      have := ih k (by simpa using h)
      exact ⟨by rw [show 2 * (k + 1) = 2 * k + 1 + 1 from by omega]; exact this.1, by rw [show 2 * (k + 1) + 1 = 2 * k + 1 + 1 + 1 from by omega]; exact this.2⟩

set_option maxHeartbeats 400000 in
theorem unhexvalue_any (n : Nat) (hn : n < 16) (w : World) :
    Calls Try.prog 43 #[.int .u8 (hexD n).toNat] w fun e w' => e = .returned (.int .i64 n) ∧ w' = w := by
  have HN := Lib.hid hn
  have hb : (hexD n).toNat < 256 := UInt8.toNat_lt _
  go_enter Try.func43, Try.ntmps43
  go_wp2_with fail
  refine (Try.strings_IndexByte _ _ _).mono ?_
  rintro e w' ⟨rfl, rfl⟩
  go_wp2
  go_ret
  refine ⟨ret_int ?_, rfl⟩
  have := index_hexD n HN.out
  simpa [digits16] using this

theorem byteInfo : (Try.prog.info? 5).map (fun i => (i.zero, i.size, i.bytes)) = some (some (.int .u8 0), 1, 1) := by kernel_rfl

theorem nibbles : ∀ c : Nat, c < 256 → bits BinOp.or IntKind.i64 ((c : Int) / 16 * 16) ((c : Int) % 16) % 256 = (c : Int) := by decide +kernel

set_option maxHeartbeats 800000 in
theorem unhex_any (b : List UInt8) (hb : b.length ≤ 1000000) (w : World) :
    Calls Try.prog 33 #[.string ⟨(hexL b).toArray⟩] w fun e w' => ∃ v, e = .returned (.tuple #[v, .int .i64 0]) ∧ w'.ownsRow w.heap.size 5 1 v b.length (Lib.byteCells b) ∧ Below w.heap.size w w' := by
  obtain ⟨i0, hi, hz0, hz1, hz2⟩ := info_parts byteInfo
  have hsz : (⟨(hexL b).toArray⟩ : ByteArray).size = 2 * b.length := by rw [ByteArray.size]; simp [hexL_length]
  have hbt : ∀ k, k < b.length → byt (hexL b) (2 * k) = (hexD (byt b k / 16)).toNat ∧ byt (hexL b) (2 * k + 1) = (hexD (byt b k % 16)).toNat := fun k h => hexL_even b k h
  have hat : ∀ k (h : k < (⟨(hexL b).toArray⟩ : ByteArray).size), ((⟨(hexL b).toArray⟩ : ByteArray)[k]'h).toNat = byt (hexL b) k := fun k h => (byt_at ⟨(hexL b).toArray⟩ k h).symm.trans (by simp)
  generalize (⟨(hexL b).toArray⟩ : ByteArray) = s at *
  have HAT : Hid (∀ k (h : k < s.size), (s[k]'h).toNat = byt (hexL b) k) := Lib.hid hat
  have HBT := Lib.hid hbt
  have HS : Hid (s.size = 2 * b.length) := Lib.hid hsz
  have hs1 : s.size ≤ 2000000 := by omega
  have hrem : (((s.size : Int) % 2) != 0) = false := by simp; omega
  clear hat hsz hbt
  go_enter Try.func33, Try.ntmps33
  go_wp2
  go_loopw [4, 6] (fun v i wr => ∃ k j : Nat, k ≤ b.length ∧ i = .int .i64 j ∧ j = 2 * k ∧ wr.ownsRow w.heap.size 5 1 v k (Lib.byteCells (b.take k)) ∧ Below w.heap.size w wr) (fun _ i _ => 2 * b.length - (intOf i).toNat)
  case atStart => exact ⟨0, 0, Nat.zero_le _, rfl, rfl, World.ownsRow_nil _ _ _ _, Below.refl _ w⟩
  case round =>
    obtain ⟨k, j, hk, rfl, hj, hown, hbw⟩ := hrel
    by_cases hlt : k < b.length
    · have hs2 : j + 1 < s.size := by have := HS.out; omega
      have hs2' : j < s.size := by omega
      have hs3 : (j : Int) < (s.size : Int) := by omega
      have hs4 : (j : Int) + 1 < (s.size : Int) := by omega
      have hs5 : (0 : Int) ≤ (j : Int) := by omega
      have hs6 : (0 : Int) ≤ (j : Int) + 1 := by omega
      have hx : (s[j]'hs2').toNat = (hexD (byt b k / 16)).toNat := (HAT.out j hs2').trans (by rw [hj]; exact (HBT.out k hlt).1)
      have hy : (s[j + 1]'hs2).toNat = (hexD (byt b k % 16)).toNat := (HAT.out (j + 1) hs2).trans (by rw [hj]; exact (HBT.out k hlt).2)
      have hc := byt_lt b k
      have HT : Hid (b.take (k + 1) = b.take k ++ [(byt b k).toUInt8]) := by
        apply Lib.hid
        rw [List.take_succ_eq_append_getElem hlt]; unfold byt; rw [List.getD_eq_getElem?_getD, List.getElem?_eq_getElem hlt]; simp
      generalize byt b k = c at *
      have HJ := Lib.hid hj
      have w1 : IntKind.i64.wrap ((j : Int) + 1) = (j : Int) + 1 := IntWalk.i64_in _ (by omega)
      clear hj
      go_wp2_with fail
      have hc1 : c / 16 < 16 := by omega
      have hc2 : c % 16 < 16 := by omega
      go_quiet ((go_at_call 43; first | exact Calls.quiet_of_same (unhexvalue_any (c / 16) hc1 _) | exact Calls.quiet_of_same (unhexvalue_any (c % 16) hc2 _)))
      clear w1
      have hownq : (wr.drewN nq).ownsRow w.heap.size 5 1 _ k (Lib.byteCells (b.take k)) := hown
      have hbwq : Below w.heap.size w (wr.drewN nq) := ⟨hbw.os, hbw.tape, hbw.output, hbw.size, hbw.block⟩
      generalize wr.drewN nq = wq at *
      clear hown hbw hx hy
      have hnb := nibbles c hc
      have hsq := hbwq.size
      go_wp2_with (at_builtin; refine wpList_append_own _ rfl _ _ 54 rfl w.heap.size 5 i0 (.int .u8 0) 1 1 Try.underlying54 hi hz0 hz1 hz2 rfl (by decide) _ _ _ rfl (hownq.alloc _) ⟨wq.heap.size, 0, none⟩ 1 1 [.int .u8 c] rfl rfl (cell_one_new _ _ _) ?c2 ?c3 ?c4 ?c5 ?_)
      case c2 => intro u hu; simp at hu; subst hu; rfl
      case c3 => unfold maxLen; omega
      case c4 => omega
      case c5 => simp; omega
      intro v' w1 hown' hgrow hnv
      clear hnv
      have hbw1 : Below w.heap.size w w1 := (hbwq.alloc hsq _).grown hgrow (by simp; omega) (fun k hk => (hownq.lt k hk).1)
      have hown1 : w1.ownsRow w.heap.size 5 1 v' (k + 1) (Lib.byteCells (b.take (k + 1))) := by
        rw [HT.out, Lib.byteCells_append]
        have e : Lib.byteCells [c.toUInt8] = [.int .u8 c] := by simp [Lib.byteCells]; omega
        rw [e]; exact hown'
      clear hown' hgrow hnb
      go_wp2
      go_roundw
      case rel => exact ⟨k + 1, j + 2, by omega, by go_num, by rw [HJ.out]; omega, hown1, hbw1⟩
      case measure => have := HS.out; simp [intOf]; omega
    · have hke : k = b.length := by omega
      subst hke
      have hjs : ¬ ((j : Int) < (s.size : Int)) := by have := HS.out; omega
      have HJ := Lib.hid hj
      clear hj
      have hown2 : wr.ownsRow w.heap.size 5 1 u4 b.length (Lib.byteCells b) := by simpa using hown
      clear hown
      go_wp2
      go_ret2
      exact ⟨_, rfl, hown2, hbw⟩
end Go.Proofs.Ytnoilnmkdahhiaa
