/- Contracts of the reference's Digits and Print. -/
import Derived.Test.YteahhfmnicfmbaaRows
import Derived.Test.YteahhfmnicfmbaaBase
import Derived.Test.YteahhfmnicfmbaaPrintW
import Derived.Test.YteahhfmnicfmbaaRow
import Derived.WalkKit
import Derived.WalkSpells
import Derived.WalkLawsBesides
import Derived.Lib.Hide
import Derived.Deep.QuietTactic
import Derived.BigQuiet
import Derived.Outline
import Derived.IntWalk
namespace Go.Proofs.Yteahhfmnicfmbaa
open Go.RowKit

/-- where the bytes of an identity lie -/
def IdAt (w : World) (g : Nat) (b : List UInt8) : Prop := ∀ k, k < b.length → w.cell? ⟨g, k, none⟩ = some (.int .u8 (byt b k))

theorem hexD_ext : ∀ n, n < 16 → (⟨#[48, 49, 50, 51, 52, 53, 54, 55, 56, 57, 97, 98, 99, 100, 101, 102]⟩ : ByteArray).extract n (n + 1) = ⟨[hexD n].toArray⟩ := by decide +kernel

set_option maxHeartbeats 400000 in
theorem refdigits_any (b : List UInt8) (hb : b.length = 32) (w : World) :
    Calls Try.prog 21 #[idv b] w fun e w' => e = .returned (.string ⟨(hexL b).toArray⟩) ∧ Below w.heap.size w w' := by
  have HB := Lib.hid hb
  have HI : Hid (IdAt (w.alloc (.cells (Lib.byteCells b).toArray 30)) w.heap.size b) := Lib.hid (fun k h => by simpa using idblock_cell w b 30 k h)
  clear hb
  go_enter Try.func21, Try.ntmps21
  go_wp2
  go_loopw [3, 4] (fun s i wr => ∃ k : Nat, k ≤ 32 ∧ i = .int .i64 k ∧ s = .string ⟨(hexL (b.take k)).toArray⟩ ∧ IdAt wr w.heap.size b ∧ Below w.heap.size w wr) (fun _ i _ => 32 - (intOf i).toNat)
  case atStart => exact ⟨0, Nat.zero_le _, rfl, rfl, HI.out, (Below.refl _ w).alloc (Nat.le_refl _) _⟩
  case round =>
    obtain ⟨k, hk, rfl, rfl, hI, hbw⟩ := hrel
    by_cases hlt : k < 32
    · have hcell := hI k (by have := HB.out; omega)
      have hi1 : (0 : Int) ≤ (k : Int) := by omega
      have hi2 : (k : Int) < 32 := by omega
      have hbt := byt_lt b k
      have HT := Lib.hid (hexL_take b k (by have := HB.out; omega))
      have hlen : (hexL (b.take k)).length ≤ 64 := by rw [hexL_length, List.length_take]; omega
      generalize byt b k = c at *
      generalize hexL (b.take k) = pre at *
      have HIw := Lib.hid hI
      clear hI
      go_wp2_with fail
      go_quiet (fail)
      go_wp2_with fail
      have hx1 : (0 : Int) ≤ (c : Int) / 16 := by omega
      have hx2 : (c : Int) / 16 < 16 := by omega
      have hy1 : (0 : Int) ≤ (c : Int) % 16 := by omega
      have hy2 : (c : Int) % 16 < 16 := by omega
      have wx : IntKind.u8.wrap ((c : Int) / 16 + 1) = (c : Int) / 16 + 1 := IntWalk.u8_in _ (by omega)
      have wy : IntKind.u8.wrap ((c : Int) % 16 + 1) = (c : Int) % 16 + 1 := IntWalk.u8_in _ (by omega)
      go_quiet (fail)
      go_wp2
      go_roundw
      case rel =>
        refine ⟨k + 1, by omega, by go_num, ?_, fun j hj => by simpa using HIw.out j hj, below_drewN hbw⟩
        rw [HT.out, hexD_ext _ (by omega), hexD_ext _ (by omega), ba_append, ba_append]
        rfl
      case measure => simp [intOf]; omega
    · have hke : k = 32 := by omega
      subst hke
      have hfin : hexL (b.take 32) = hexL b := by rw [List.take_of_length_le (by rw [HB.out]; omega)]
      rw [hfin]
      go_wp2
      go_ret
      exact ⟨rfl, hbw⟩

theorem refIdInfo : (Try.prog.info? 30).map (·.size) = some 32 := by kernel_rfl
set_option maxHeartbeats 400000 in
theorem refprint_any (b : List UInt8) (hb : b.length = 32) (w : World) :
    Calls Try.prog 11 #[idv b] w fun e w' => e = .returned (.string ⟨(printL b).toArray⟩) ∧ Below w.heap.size w w' := by
  have HB := Lib.hid hb
  have HI := Lib.hid (refIdInfo.trans (by simp [Lib.byteCells_length, hb] : some 32 = some (Lib.byteCells b).toArray.size))
  clear hb
  go_enter Try.func11, Try.ntmps11
  go_wp2_with (refine wpList_load_row rfl _ _ rfl _ rfl _ _ _ _ (heap_alloc_new _ _) Try.underlying30 rfl HI.out ?_)
  go_wp2_with fail
  have hl : (hexL b).length ≤ 64 := by rw [hexL_length]; have := HB.out; omega
  refine (refdigits_any b HB.out _).mono ?_
  rintro e W1 ⟨rfl, b1⟩
  go_wp2
  go_ret
  exact ⟨ret_string (by rw [show (⟨#[60]⟩ : ByteArray) = ⟨openL.toArray⟩ from rfl, show (⟨#[64, 104, 97, 115, 104, 62]⟩ : ByteArray) = ⟨closeL.toArray⟩ from rfl, ba_append, ba_append]; rfl), ((Below.refl _ w).alloc (Nat.le_refl _) _).trans (b1.mono (by simp))⟩
end Go.Proofs.Yteahhfmnicfmbaa
