/- Contract of the statements' known(); Parse is Print's inverse. -/
import Derived.Test.YtnoilnmkdahhiaaRows
import Derived.Test.YtnoilnmkdahhiaaBase
import Derived.Test.YtnoilnmkdahhiaaPrintW
import Derived.Test.YtnoilnmkdahhiaaCmpW
import Derived.Test.YtnoilnmkdahhiaaParseW
import Derived.Test.YtnoilnmkdahhiaaSiteW
import Derived.Test.YtnoilnmkdahhiaaRow
import Derived.WalkKit
import Derived.WalkSpells
import Derived.WalkLawsBesides
import Derived.Lib.Hide
import Derived.Outline
namespace Go.Proofs.Ytnoilnmkdahhiaa
open Go.RowKit

theorem printL_length (b : List UInt8) (hb : b.length = 32) : (printL b).length = 71 := by
  simp [printL, openL, closeL, hexL_length, hb]
theorem hexD_isHex : ∀ n, n < 16 → ¬ digV (hexD n).toNat < 0 ∧ hv (hexD n).toNat = n := by decide +kernel
theorem byt_append_left (a c : List UInt8) (k : Nat) (h : k < a.length) : byt (a ++ c) k = byt a k := by
  unfold byt; rw [List.getD_eq_getElem?_getD, List.getD_eq_getElem?_getD, List.getElem?_append_left h]
theorem byt_append_right (a c : List UInt8) (k : Nat) : byt (a ++ c) (a.length + k) = byt c k := by
  unfold byt; rw [List.getD_eq_getElem?_getD, List.getD_eq_getElem?_getD, List.getElem?_append_right (by omega), Nat.add_sub_cancel_left]
theorem print_digit (b : List UInt8) (hb : b.length = 32) (j : Nat) (hj : j < 32) :
    byt (printL b) (2 * j + 1) = (hexD (byt b j / 16)).toNat ∧ byt (printL b) (2 * j + 2) = (hexD (byt b j % 16)).toNat := by
  have e := hexL_even b j (by omega)
  have hl := hexL_length b
  have h1 : ∀ k, k < 64 → byt (printL b) (1 + k) = byt (hexL b) k := fun k hk => by
    rw [printL, List.append_assoc, show 1 + k = openL.length + k from rfl, byt_append_right, byt_append_left _ _ _ (by omega)]
  exact ⟨by rw [show 2 * j + 1 = 1 + 2 * j from by omega, h1 _ (by omega), e.1], by rw [show 2 * j + 2 = 1 + (2 * j + 1) from by omega, h1 _ (by omega), e.2]⟩
theorem print_edge (b c : List UInt8) (hb : b.length = 32) (hc : c.length = 32) (i : Nat) (hi : ¬ (1 ≤ i ∧ i < 65)) : byt (printL b) i = byt (printL c) i := by
  have hl := hexL_length b
  have hl2 := hexL_length c
  by_cases h0 : i = 0
  · subst h0; rfl
  · obtain ⟨j, rfl⟩ : ∃ j, i = 65 + j := ⟨i - 65, by omega⟩
    unfold printL
    rw [show 65 + j = (openL ++ hexL b).length + j from by simp [openL]; omega, byt_append_right, show (openL ++ hexL b).length + j = (openL ++ hexL c).length + j from by simp [openL]; omega, byt_append_right]
theorem print_good (b : List UInt8) (hb : b.length = 32) (i : Nat) : badAt (printL b) i = false := by
  unfold badAt
  by_cases h : 1 ≤ i ∧ i < 65
  · rw [if_pos h]
    obtain ⟨j, hj | hj⟩ : ∃ j, i = 2 * j + 1 ∨ i = 2 * j + 2 := ⟨(i - 1) / 2, by omega⟩
    · have e := (print_digit b hb j (by omega)).1
      rw [hj, e]
      simpa using (hexD_isHex (byt b j / 16) (by have := byt_lt b j; omega)).1
    · have e := (print_digit b hb j (by omega)).2
      rw [hj, e]
      simpa using (hexD_isHex (byt b j % 16) (by omega)).1
  · rw [if_neg h, formL, print_edge b zeroL hb rfl i h]
    simp
theorem parseId_print (b : List UInt8) (hb : b.length = 32) : parseId (printL b) = b := by
  refine eq_of_byt _ _ (by rw [parseId_length, hb]) (fun j hj => ?_)
  rw [parseId_length] at hj
  have e := print_digit b hb j hj
  have v1 := (hexD_isHex (byt b j / 16) (by have := byt_lt b j; omega)).2
  have v2 := (hexD_isHex (byt b j % 16) (by omega)).2
  have hl := byt_lt b j
  conv => lhs; unfold byt parseId
  rw [List.getD_eq_getElem?_getD, List.getElem?_map, List.getElem?_range hj]
  simp only [Option.map_some, Option.getD_some]
  rw [e.1, e.2, v1, v2]
  generalize byt b j = c at *
  simp
  omega
theorem parseE_print (b : List UInt8) (hb : b.length = 32) : parseE (printL b) = (b, 0, 0) := by
  rw [parseE, printL_length b hb, fst1_none (fun j _ => print_good b hb j), parseId_print b hb]
  rfl
theorem parse_print (b : List UInt8) (hb : b.length = 32) (w : World) :
    Calls Try.prog 18 #[.string ⟨(printL b).toArray⟩] w fun e w' => e = .returned (.tuple #[idv b, .int .i64 0, .int .i64 0]) ∧ Below w.heap.size w w' := by
  refine (parse_any _ (by rw [ByteArray.size]; simp [printL_length b hb]; unfold maxLen; omega) w).mono ?_
  rintro e w' ⟨rfl, hb'⟩
  refine ⟨?_, hb'⟩
  unfold parseV
  simp only [parseE_print b hb]
  rfl

/-- the identity of the document's example -/
def id10 : List UInt8 := List.replicate 31 0 ++ [10]
theorem print_id10 (w : World) :
    Calls Try.prog 17 #[.agg #[.int .u8 0, .int .u8 0, .int .u8 0, .int .u8 0, .int .u8 0, .int .u8 0, .int .u8 0, .int .u8 0, .int .u8 0, .int .u8 0, .int .u8 0, .int .u8 0, .int .u8 0, .int .u8 0, .int .u8 0, .int .u8 0, .int .u8 0, .int .u8 0, .int .u8 0, .int .u8 0, .int .u8 0, .int .u8 0, .int .u8 0, .int .u8 0, .int .u8 0, .int .u8 0, .int .u8 0, .int .u8 0, .int .u8 0, .int .u8 0, .int .u8 0, .int .u8 10]] w fun e w' => e = .returned (.string ⟨(printL id10).toArray⟩) ∧ Below w.heap.size w w' := print_any id10 rfl w
theorem eql_id10 (w : World) : Sem.run Try.prog (Op.equalIn 10000 24 (.agg (Lib.byteCells id10).toArray) (.agg #[.int .u8 0, .int .u8 0, .int .u8 0, .int .u8 0, .int .u8 0, .int .u8 0, .int .u8 0, .int .u8 0, .int .u8 0, .int .u8 0, .int .u8 0, .int .u8 0, .int .u8 0, .int .u8 0, .int .u8 0, .int .u8 0, .int .u8 0, .int .u8 0, .int .u8 0, .int .u8 0, .int .u8 0, .int .u8 0, .int .u8 0, .int .u8 0, .int .u8 0, .int .u8 0, .int .u8 0, .int .u8 0, .int .u8 0, .int .u8 0, .int .u8 0, .int .u8 10])) w = .ok true w := id_eql id10 id10 rfl rfl w
theorem isZero_zero (w : World) :
    Calls Try.prog 20 #[.agg #[.int .u8 0, .int .u8 0, .int .u8 0, .int .u8 0, .int .u8 0, .int .u8 0, .int .u8 0, .int .u8 0, .int .u8 0, .int .u8 0, .int .u8 0, .int .u8 0, .int .u8 0, .int .u8 0, .int .u8 0, .int .u8 0, .int .u8 0, .int .u8 0, .int .u8 0, .int .u8 0, .int .u8 0, .int .u8 0, .int .u8 0, .int .u8 0, .int .u8 0, .int .u8 0, .int .u8 0, .int .u8 0, .int .u8 0, .int .u8 0, .int .u8 0, .int .u8 0]] w fun e w' => e = .returned (.bool true) ∧ Below w.heap.size w w' := isZero_any zeroL rfl w
theorem compare_ex (w : World) :
    Calls Try.prog 21 #[.agg #[.int .u8 0, .int .u8 0, .int .u8 0, .int .u8 0, .int .u8 0, .int .u8 0, .int .u8 0, .int .u8 0, .int .u8 0, .int .u8 0, .int .u8 0, .int .u8 0, .int .u8 0, .int .u8 0, .int .u8 0, .int .u8 0, .int .u8 0, .int .u8 0, .int .u8 0, .int .u8 0, .int .u8 0, .int .u8 0, .int .u8 0, .int .u8 0, .int .u8 0, .int .u8 0, .int .u8 0, .int .u8 0, .int .u8 0, .int .u8 0, .int .u8 0, .int .u8 0], .agg #[.int .u8 1, .int .u8 0, .int .u8 0, .int .u8 0, .int .u8 0, .int .u8 0, .int .u8 0, .int .u8 0, .int .u8 0, .int .u8 0, .int .u8 0, .int .u8 0, .int .u8 0, .int .u8 0, .int .u8 0, .int .u8 0, .int .u8 0, .int .u8 0, .int .u8 0, .int .u8 0, .int .u8 0, .int .u8 0, .int .u8 0, .int .u8 0, .int .u8 0, .int .u8 0, .int .u8 0, .int .u8 0, .int .u8 0, .int .u8 0, .int .u8 0, .int .u8 0]] w fun e w' => e = .returned (.int .i64 (-1)) ∧ Below w.heap.size w w' := compare_any zeroL (1 :: List.replicate 31 0) rfl rfl w
theorem site_ex1 (w : World) :
    Calls Try.prog 19 #[.string { data := #[97, 46, 46, 98] }] w fun e w' => e = .returned (.tuple #[.int .i64 2, .int .i64 12]) ∧ w = w' := by
  refine (site_any _ (by decide) w).mono ?_
  rintro e w' ⟨rfl, rfl⟩
  exact ⟨(sitePair_of (show siteE _ = (2, 12) from by decide +kernel) rfl rfl).symm, rfl⟩
theorem site_ex2 (w : World) :
    Calls Try.prog 19 #[.string { data := #[110, 101, 119, 115, 46, 101, 120, 97, 109, 112, 108, 101, 45, 49] }] w fun e w' => e = .returned (.tuple #[.int .i64 0, .int .i64 0]) ∧ w = w' := by
  refine (site_any _ (by decide) w).mono ?_
  rintro e w' ⟨rfl, rfl⟩
  exact ⟨(sitePair_of (show siteE _ = (0, 0) from by decide +kernel) rfl rfl).symm, rfl⟩

set_option maxHeartbeats 800000 in
theorem known_any (w : World) :
    Calls Try.prog 8 #[] w fun e w' => e = .returned (.bool true) ∧ Below w.heap.size w w' := by
  go_enter Try.func8, Try.ntmps8
  go_wp2_with fail
  refine (print_id10 _).mono ?_
  rintro e w1 ⟨rfl, b1⟩
  go_wp2_with fail
  refine (parse_print id10 rfl _).mono ?_
  rintro e w2 ⟨rfl, b2⟩
  have b2' := b1.trans (b2.mono b1.size)
  have HQ : Hid ((w2.alloc (.cells (Lib.byteCells zeroL).toArray 24)).heap[w2.heap.size]? = some (.cells (Lib.byteCells zeroL).toArray 24 (0, 0))) := Lib.hid (heap_alloc_new w2 _)
  go_wp2_with (refine wpList_store_abs (by rfl) 24 (.tmp 2) (.tmp 14) (by rfl) w2.heap.size (Lib.byteCells id10).toArray (by rfl) (by rfl) _ (Lib.byteCells zeroL).toArray HQ.out (idInfoL id10 rfl) rfl (bytes_one _) w.heap.size w (b2'.alloc b2'.size _) b2'.size ?_)
  intro w3 h3 b3 o3
  clear HQ b1 b2 b2' o3
  go_wp2_with fail
  refine (site_ex1 _).mono ?_
  rintro e w4 ⟨rfl, rfl⟩
  go_wp2_with fail
  refine (site_ex2 _).mono ?_
  rintro e w4 ⟨rfl, rfl⟩
  have hsz : (⟨(printL id10).toArray⟩ : ByteArray).size = 71 := by rfl
  have hex : (⟨(printL id10).toArray⟩ : ByteArray).extract 63 71 = ⟨#[48, 97, 64, 104, 97, 115, 104, 62]⟩ := by decide +kernel
  have hlen : (printL id10).length = 71 := by rfl
  have hq := fun w => eql_id10 w
  go_wp2_with (refine wpList_load_abs (by rfl) 24 (.tmp 2) (by rfl) w2.heap.size (by rfl) _ _ _ _ h3.out Try.underlying24 rfl (idInfoL id10 rfl) ?_)
  refine (isZero_zero _).mono ?_
  rintro e w5 ⟨rfl, b5⟩
  go_wp2_with fail
  refine (compare_ex _).mono ?_
  rintro e w6 ⟨rfl, b6⟩
  go_wp2
  go_ret
  have b35 := b3.trans (b5.mono b3.size)
  exact ⟨rfl, b35.trans (b6.mono b35.size)⟩

theorem take_size (s : ByteArray) (n : Nat) : (s.extract 0 (min s.size n)).size = min s.size n := by
  simp [ByteArray.size_extract]
end Go.Proofs.Ytnoilnmkdahhiaa
