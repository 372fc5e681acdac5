/- The contract of Truncate; the plain law of the longest beginning. -/
import Derived.Test.YtefncnmahimgpaaRows
import Derived.Test.YtefncnmahimgpaaBase
import Derived.Test.YtefncnmahimgpaaUCheck
import Derived.Test.YtefncnmahimgpaaURefAll
import Derived.Test.YtefncnmahimgpaaUOffs
import Derived.Test.YtefncnmahimgpaaRowAt
import Derived.Test.YtefncnmahimgpaaShelf
import Derived.WalkKit
import Derived.OwnWalk
import Derived.WalkSpells
import Derived.WalkLawsBesides
import Derived.Lib.Hide
import Derived.Deep.QuietTactic
import Derived.BigQuiet
import Derived.Outline
namespace Go.Proofs.Ytefncnmahimgpaa
open Go.RowKit

/-- the offsets of a text and its length -/
def offL (l : List UInt8) : List Nat := (pAll l 0).1.map Prod.fst ++ [l.length]
theorem pAll_inc (l : List UInt8) : ∀ m k, l.length - k ≤ m → ((pAll l k).1.map Prod.fst).Pairwise (· ≤ ·) ∧ ∀ x ∈ (pAll l k).1.map Prod.fst, k ≤ x ∧ x < l.length := by
  intro m
  induction m with
  | zero => intro k h; rw [pAll_end (by omega)]; simp
  | succ m ih =>
    intro k h
    by_cases hlt : k < l.length
    · by_cases he : (pFirst (l.drop k)).2.2 = 0
      · have hp := pFirst_ok he
        rw [pAll_ok hlt he]
        have hi := ih (k + (pFirst (l.drop k)).2.1) (by omega)
        refine ⟨?_, ?_⟩
        · rw [List.map_cons, List.pairwise_cons]
          exact ⟨fun x hx => by have := (hi.2 x hx).1; dsimp only; omega, hi.1⟩
        · intro x hx
          rw [List.map_cons, List.mem_cons] at hx
          rcases hx with rfl | hx
          · exact ⟨Nat.le_refl _, hlt⟩
          · have := hi.2 x hx; omega
      · rw [pAll_err hlt he]; simp
    · rw [pAll_end hlt]; simp
theorem offL_sorted (l : List UInt8) : (offL l).Pairwise (· ≤ ·) := by
  have h := pAll_inc l _ 0 (Nat.le_refl _)
  unfold offL
  rw [List.pairwise_append]
  exact ⟨h.1, by simp, fun x hx y hy => by rw [List.mem_singleton] at hy; subst hy; exact Nat.le_of_lt (h.2 x hx).2⟩
theorem offL_le (l : List UInt8) : ∀ x ∈ offL l, x ≤ l.length := by
  have h := pAll_inc l _ 0 (Nat.le_refl _)
  intro x hx
  unfold offL at hx
  rw [List.mem_append, List.mem_singleton] at hx
  rcases hx with hx | rfl
  · exact Nat.le_of_lt (h.2 x hx).2
  · exact Nat.le_refl _
theorem offL_head (l : List UInt8) (hv : (pAll l 0).2.2 = 0) : ∃ r, offL l = 0 :: r := by
  unfold offL
  by_cases hlt : 0 < l.length
  · by_cases he : (pFirst (l.drop 0)).2.2 = 0
    · rw [pAll_ok hlt he]; exact ⟨_, rfl⟩
    · rw [pAll_err hlt he] at hv; exact absurd hv he
  · rw [pAll_end hlt]
    exact ⟨[], by rw [show l.length = 0 by omega]; rfl⟩
/-- the last one that is not beyond a limit -/
def endF (m : Nat) (l : List Nat) : Nat := (l.filter (· ≤ m)).getLastD 0
theorem endF_snoc (m : Nat) (l : List Nat) (x : Nat) : endF m (l ++ [x]) = if x ≤ m then x else endF m l := by
  unfold endF
  rw [List.filter_append]
  by_cases h : x ≤ m <;> simp [h]
theorem sorted_filter (m : Nat) : ∀ l : List Nat, l.Pairwise (· ≤ ·) → l.filter (· ≤ m) = l.take (l.countP (· ≤ m))
  | [], _ => rfl
  | a :: l, h => by
    rw [List.pairwise_cons] at h
    by_cases ha : a ≤ m
    · rw [List.filter_cons_of_pos (by simpa using ha), List.countP_cons_of_pos (by simpa using ha), List.take_succ_cons, sorted_filter m l h.2]
    · have h0 : ∀ x ∈ l, ¬ x ≤ m := fun x hx => by have := h.1 x hx; omega
      rw [List.filter_cons_of_neg (by simpa using ha), List.countP_cons_of_neg (by simpa using ha), List.countP_eq_zero.2 (by simpa using h0), List.filter_eq_nil_iff.2 (by simpa using h0)]
      rfl
theorem take_last (l : List Nat) (c : Nat) (h1 : 1 ≤ c) (hl : c ≤ l.length) : ∃ hk : c - 1 < l.length, l[c - 1] = (l.take c).getLastD 0 := by
  refine ⟨by omega, ?_⟩
  rw [List.getLastD_eq_getLast?, List.getLast?_eq_getElem?, List.length_take]
  rw [show min c l.length - 1 = c - 1 by omega, List.getElem?_take_of_lt (by omega), List.getElem?_eq_getElem (by omega)]
  rfl
theorem endF_at (m : Nat) (l : List Nat) (h : l.Pairwise (· ≤ ·)) (h1 : 1 ≤ l.countP (· ≤ m)) : ∃ hk : l.countP (· ≤ m) - 1 < l.length, l[l.countP (· ≤ m) - 1] = endF m l := by
  unfold endF
  rw [sorted_filter m l h]
  exact take_last l _ h1 List.countP_le_length

set_option maxHeartbeats 1600000 in
theorem trunc_ok (s : ByteArray) (hs : s.size ≤ 1000000) (hok : (pAll s.data.toList 0).2.2 = 0) (m : Nat) (hm : m ≤ 9223372036854775807) (w : World) :
    Calls Try.prog 36 #[.string s, .int .i64 m] w fun r w' => r = .returned (.tuple #[.string (s.extract 0 (endF m (offL s.data.toList))), .int .i64 0]) ∧ Below w.heap.size w w' := by
  have hz : s.data.toList.length = s.size := by simp
  have hll : (pAll s.data.toList 0).1.length ≤ 1000000 := by
    have h1 := pAll_len' s.data.toList
    omega
  have HC := Lib.hid (offsets_ok s hs (pAll s.data.toList 0).2.1 (Prod.ext rfl hok))
  have hO : offL s.data.toList = (pAll s.data.toList 0).1.map Prod.fst ++ [s.size] := by unfold offL; rw [hz]
  have hsort := offL_sorted s.data.toList
  have hle := offL_le s.data.toList
  rw [hz] at hle
  obtain ⟨rr, hhead⟩ := offL_head s.data.toList hok
  have hcnt1 : 1 ≤ (offL s.data.toList).countP (· ≤ m) := by rw [hhead, List.countP_cons_of_pos (by simp)]; omega
  obtain ⟨hk, hlast⟩ := endF_at m _ hsort hcnt1
  have hcnt : ((offL s.data.toList).map (fun x : Nat => (x : Int))).countP (fun x => decide (x < min (m : Int) (s.size : Int) + 1)) = (offL s.data.toList).countP (· ≤ m) := by
    rw [List.countP_map]
    refine List.countP_congr (fun x hx => ?_)
    have := hle x hx
    simp only [Function.comp, decide_eq_true_eq]
    omega
  have hlen : (offL s.data.toList).length = (pAll s.data.toList 0).1.length + 1 := by rw [hO]; simp
  have hend : endF m (offL s.data.toList) ≤ s.size := by rw [← hlast]; exact hle _ (List.getElem_mem _)
  have hcells : ofs (pAll s.data.toList 0).1 ++ [.int .i64 (s.size : Int)] = (offL s.data.toList).map (fun x : Nat => Value.int .i64 (x : Int)) := by
    rw [hO]; simp [ofs]
  rw [hcells] at HC
  clear hcells hhead hok hO hle
  generalize (pAll s.data.toList 0).1 = l at *
  generalize offL s.data.toList = O at *
  generalize hE : endF m O = E at *
  generalize hN : O.countP (· ≤ m) = N at *
  have HB := Try.slices_BinarySearch_int
  have HC := Lib.hid HC
  have hp : ((O.map (fun x : Nat => (x : Int))).take (l.length + 1)).Pairwise (· ≤ ·) := by
    rw [List.take_of_length_le (by simp; omega), List.pairwise_map]
    exact hsort.imp (by intro a b h; omega)
  have HP := Lib.hid hp
  have HT : Hid ((O.map (fun x : Nat => (x : Int))).take (l.length + 1) = O.map (fun x : Nat => (x : Int))) := Lib.hid (List.take_of_length_le (by simp; omega))
  have HN := Lib.hid hcnt
  have HLen := Lib.hid hlen
  have HLast := Lib.hid hlast
  have hN1 : (1 : Int) ≤ (N : Int) := by omega
  have hNl : (N : Int) - 1 < (l.length : Int) + 1 := by omega
  have hm0 : ¬ (m : Int) < 0 := by omega
  clear hp hcnt hlen hlast hE hN hsort hz
  go_enter Try.func36, Try.ntmps36
  go_wp2_with fail
  refine (HC.out _).mono ?_
  rintro r w1 ⟨v, rfl, hr, b1⟩
  obtain ⟨g, cap, rfl⟩ := ownsRow_succ hr
  have hcell := fun j => hr.cellAt j
  have HCell := Lib.hid hcell
  clear hcell hr
  go_wp2_with fail
  refine (HB g 0 (l.length + 1) cap (O.map (fun x : Nat => (x : Int))) _ w1 (by rw [List.length_map, HLen.out]; omega) (by omega) ?_ HP.out).mono ?_
  · intro j hj
    rw [Nat.zero_add, HCell.out j (by simp at hj; have := HLen.out; omega)]
    simp at hj
    simp [hj]
  rintro r w2 ⟨rfl, q, rfl⟩
  rw [HT.out, HN.out]
  have hc : w1.cell? ⟨g, N - 1, none⟩ = some (.int .i64 (E : Int)) := by
    have := HLast.out
    rw [HCell.out (N - 1) (by have := HLen.out; omega), List.getElem?_map, List.getElem?_eq_getElem hk, this]
    rfl
  have hNt : ((N : Int) - 1).toNat = N - 1 := by omega
  have hE0 : (E : Int) ≤ (s.size : Int) := by omega
  go_wp2
  go_ret2
  exact ⟨by simp, below_drewN b1⟩

theorem trunc_err (s : ByteArray) (hs : s.size ≤ 1000000) (e : Nat) (he : e ≠ 0) (hok : (pAll s.data.toList 0).2.2 = e) (i : Int) (w : World) :
    Calls Try.prog 36 #[.string s, .int .i64 i] w fun r w' => r = .returned (.tuple #[.string ⟨#[]⟩, .int .i64 e]) ∧ Below w.heap.size w w' := by
  have HC := Lib.hid (offsets_err s hs (pAll s.data.toList 0).2.1 e he (Prod.ext rfl hok))
  clear hok
  have he' : ((e : Int) != 0) = true := by simpa using he
  go_enter Try.func36, Try.ntmps36
  go_wp2_with fail
  refine (HC.out _).mono ?_
  rintro r w1 ⟨rfl, b1⟩
  go_wp2
  go_ret2
  exact ⟨rfl, b1⟩
theorem trunc_range (s : ByteArray) (hs : s.size ≤ 1000000) (hok : (pAll s.data.toList 0).2.2 = 0) (i : Int) (hi : i < 0) (w : World) :
    Calls Try.prog 36 #[.string s, .int .i64 i] w fun r w' => r = .returned (.tuple #[.string ⟨#[]⟩, .int .i64 2]) ∧ Below w.heap.size w w' := by
  have hll : (pAll s.data.toList 0).1.length ≤ 1000000 := by
    have h1 := pAll_len' s.data.toList
    have h2 : s.data.toList.length = s.size := by simp
    omega
  have HC := Lib.hid (offsets_ok s hs (pAll s.data.toList 0).2.1 (Prod.ext rfl hok))
  clear hok
  go_enter Try.func36, Try.ntmps36
  go_wp2_with fail
  refine (HC.out _).mono ?_
  rintro r w1 ⟨v, rfl, hr, b1⟩
  obtain ⟨g, cap, rfl⟩ := ownsRow_succ hr
  go_wp2
  go_ret2
  exact ⟨rfl, b1⟩
end Go.Proofs.Ytefncnmahimgpaa
