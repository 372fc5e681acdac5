/- Contracts of msgid.digits, msgid.Print, and the reference's digit, Digits, Print. -/
import Derived.Test.YtnoilnmkdahhiaaRows
import Derived.Test.YtnoilnmkdahhiaaBase
import Derived.Test.YtnoilnmkdahhiaaHexW
import Derived.WalkKit
import Derived.WalkSpells
import Derived.WalkLawsBesides
import Derived.Lib.Hide
import Derived.Deep.MidRow
import Derived.Outline
namespace Go.Proofs.Ytnoilnmkdahhiaa
open Go.RowKit

/-- an identity as a value: 32 bytes -/
abbrev idv (b : List UInt8) : Value := .agg (Lib.byteCells b).toArray
theorem byteCells_get (b : List UInt8) (k : Nat) (h : k < b.length) : (Lib.byteCells b)[k]? = some (.int .u8 (byt b k)) := by
  unfold byt Lib.byteCells
  rw [List.getElem?_map, List.getD_eq_getElem?_getD, List.getElem?_eq_getElem h]; rfl
theorem idblock_cell (w : World) (b : List UInt8) (T : TypeId) (k : Nat) (h : k < b.length) :
    (w.alloc (.cells (Lib.byteCells b).toArray T)).cell? ⟨w.heap.size, 0 + k, none⟩ = some (.int .u8 (byt b k)) := by
  rw [cell_of_row _ _ _ _ _ _ (heap_alloc_new w _), Nat.zero_add]
  simpa using byteCells_get b k h

set_option maxHeartbeats 400000 in
theorem digits_any (b : List UInt8) (hb : b.length = 32) (w : World) :
    Calls Try.prog 31 #[idv b] w fun e w' => e = .returned (.string ⟨(hexL b).toArray⟩) ∧ Below w.heap.size w w' := by
  have HB := Lib.hid hb
  have HX := hex_any w.heap.size 0 32 b (w.alloc (.cells (Lib.byteCells b).toArray 24)) (fun k h => idblock_cell w b _ k h) (by simp) (by omega)
  rw [hb] at HX
  have HX' := Lib.hid HX
  clear hb HX
  go_enter Try.func31, Try.ntmps31
  go_wp2_with fail
  refine HX'.out.mono ?_
  rintro e W1 ⟨rfl, b1⟩
  go_wp2
  go_ret
  exact ⟨rfl, ((Below.refl _ w).alloc (Nat.le_refl _) _).trans (b1.mono (by simp))⟩

def openL : List UInt8 := [60]
def closeL : List UInt8 := [64, 104, 97, 115, 104, 62]
/-- the text of an identity -/
def printL (b : List UInt8) : List UInt8 := openL ++ hexL b ++ closeL

theorem idInfo : (Try.prog.info? 24).map (·.size) = some 32 := by kernel_rfl

theorem idInfoL (b : List UInt8) (hb : b.length = 32) : (Try.prog.info? 24).map (·.size) = some (Lib.byteCells b).toArray.size :=
  idInfo.trans (by simp [Lib.byteCells_length, hb])

set_option maxHeartbeats 400000 in
theorem print_any (b : List UInt8) (hb : b.length = 32) (w : World) :
    Calls Try.prog 17 #[idv b] w fun e w' => e = .returned (.string ⟨(printL b).toArray⟩) ∧ Below w.heap.size w w' := by
  have HB := Lib.hid hb
  have HI := Lib.hid (idInfo.trans (by simp [Lib.byteCells_length, hb] : some 32 = some (Lib.byteCells b).toArray.size))
  clear hb
  go_enter Try.func17, Try.ntmps17
  go_wp2_with (refine wpList_load_row rfl _ _ rfl _ rfl _ _ _ _ (heap_alloc_new _ _) Try.underlying24 rfl HI.out ?_)
  go_wp2_with fail
  have hl : (hexL b).length ≤ 64 := by rw [hexL_length]; have := HB.out; omega
  refine (digits_any b HB.out _).mono ?_
  rintro e W1 ⟨rfl, b1⟩
  go_wp2
  go_ret
  exact ⟨ret_string (by rw [show (⟨#[60]⟩ : ByteArray) = ⟨openL.toArray⟩ from rfl, show (⟨#[64, 104, 97, 115, 104, 62]⟩ : ByteArray) = ⟨closeL.toArray⟩ from rfl, ba_append, ba_append]; rfl), ((Below.refl _ w).alloc (Nat.le_refl _) _).trans (b1.mono (by simp))⟩

/-- the value of a digit, -1 if it is none -/
def digV (c : Int) : Int := if 48 ≤ c ∧ c ≤ 57 then c - 48 else if 97 ≤ c ∧ c ≤ 102 then c - 87 else -1
end Go.Proofs.Ytnoilnmkdahhiaa
