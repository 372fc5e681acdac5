/- Contract of ascii.Hex. -/
import Derived.Test.YtnoilnmkdahhiaaRows
import Derived.Test.YtnoilnmkdahhiaaBase
import Derived.Test.YtnoilnmkdahhiaaBuilder
import Derived.WalkKit
import Derived.WalkSpells
import Derived.WalkLawsBesides
import Derived.Lib.Hide
import Derived.Deep.MidRow
namespace Go.Proofs.Ytnoilnmkdahhiaa
open Go.RowKit

theorem isB {T e : TypeId} {B b : Nat} {bs : List Value} {w : World} (h : Lib.BuilderAt T e B b (.pointer (some ⟨b, 0, none⟩)) bs w) : Lib.IsBuilder T e B b bs w := Or.inr h
/-- a digit of base 16, as a byte -/
def hexD (n : Nat) : UInt8 := ([48, 49, 50, 51, 52, 53, 54, 55, 56, 57, 97, 98, 99, 100, 101, 102] : List UInt8).getD n 0
/-- the digits of bytes -/
def hexL (b : List UInt8) : List UInt8 := b.flatMap fun c => [hexD (c.toNat / 16), hexD (c.toNat % 16)]
theorem hexD_at (n : Nat) (h : n < ({ data := #[48, 49, 50, 51, 52, 53, 54, 55, 56, 57, 97, 98, 99, 100, 101, 102] } : ByteArray).size) :
    (({ data := #[48, 49, 50, 51, 52, 53, 54, 55, 56, 57, 97, 98, 99, 100, 101, 102] } : ByteArray)[n]'h) = hexD n := by
  unfold hexD
  rw [List.getD_eq_getElem?_getD, List.getElem?_eq_getElem (by exact h)]
  rfl
theorem hexL_take (b : List UInt8) (k : Nat) (h : k < b.length) : hexL (b.take (k + 1)) = hexL (b.take k) ++ [hexD (byt b k / 16), hexD (byt b k % 16)] := by
  unfold hexL byt
  rw [List.take_succ_eq_append_getElem h, List.flatMap_append, List.getD_eq_getElem?_getD, List.getElem?_eq_getElem h]
  simp
theorem hexL_length (b : List UInt8) : (hexL b).length = 2 * b.length := by
  unfold hexL
  induction b with
  | nil => rfl
  | cons a r ih => simp [List.flatMap_cons, ih]; omega

set_option maxHeartbeats 400000 in
theorem hex_any (g o cap : Nat) (b : List UInt8) (w : World) (hc : ∀ k, k < b.length → w.cell? ⟨g, o + k, none⟩ = some (.int .u8 (byt b k))) (hg : g < w.heap.size) (hl : b.length ≤ 1000000) :
    Calls Try.prog 41 #[.slice (some ⟨g, o, none⟩) b.length cap] w fun e w' => e = .returned (.string ⟨(hexL b).toArray⟩) ∧ Below w.heap.size w w' := by
  have HC := Lib.hid hc
  clear hc
  go_enter Try.func41, Try.ntmps41
  go_wp2
  go_loopw [8] (fun i wr => ∃ k : Nat, k ≤ b.length ∧ i = .int .i64 k ∧ Lib.IsBuilder 71 5 w.heap.size w.heap.size (Lib.byteCells (hexL (b.take k))) wr ∧ Below w.heap.size w wr) (fun i _ => b.length - (intOf i).toNat)
  case atStart => exact ⟨0, Nat.zero_le _, rfl, Lib.fresh_isBuilder _ _ _, (Below.refl _ w).alloc (Nat.le_refl _) _⟩
  case round =>
    obtain ⟨k, hk, rfl, hI, hbw⟩ := hrel
    by_cases hlt : k < b.length
    · have hcell : wr.cell? ⟨g, o + k, none⟩ = some (.int .u8 (byt b k)) := by rw [hbw.cell hg]; exact HC.out k hlt
      have hbt := byt_lt b k
      have HT := Lib.hid (hexL_take b k hlt)
      have hlen : (hexL (b.take k)).length ≤ 2000000 := by rw [hexL_length, List.length_take]; omega
      have HL := Lib.hid hlen
      clear hlen
      generalize byt b k = c at *
      go_wp2_with fail
      refine (Try.writeByte w.heap.size w.heap.size _ _ _ hI (by rw [Lib.byteCells_length]; have := HL.out; omega) (by exact hbw.size)).mono ?_
      rintro e W1 ⟨rfl, h1, b1⟩
      have h1' := isB h1
      have hbw1 := hbw.trans b1
      clear hI h1 hcell
      go_wp2_with fail
      refine (Try.writeByte w.heap.size w.heap.size _ _ _ h1' (by rw [List.length_append, Lib.byteCells_length]; have := HL.out; simp; omega) (by exact hbw1.size)).mono ?_
      rintro e W2 ⟨rfl, h2, b2⟩
      have h2' := isB h2
      have hbw2 := hbw1.trans b2
      clear h1' h2 hbw hbw1 b1 b2
      go_wp2
      go_roundw
      case rel =>
        refine ⟨k + 1, by omega, by go_num, ?_, hbw2⟩
        rw [HT.out, Lib.byteCells_append]
        simpa [Lib.byteCells, hexD_at] using h2'
      case measure => simp [intOf]; omega
    · have hke : k = b.length := by omega
      subst hke
      go_wp2_with fail
      refine (Try.builderString w.heap.size w.heap.size (hexL b) _ (by simpa using hI) (by exact hbw.size)).mono ?_
      rintro e W1 ⟨rfl, b1⟩
      go_wp2
      go_ret
      exact ⟨rfl, hbw.trans b1⟩
end Go.Proofs.Ytnoilnmkdahhiaa
