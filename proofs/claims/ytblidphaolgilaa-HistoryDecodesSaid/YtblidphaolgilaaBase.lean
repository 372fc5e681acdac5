/- Small plain lemmas that the walks of this seat share: bytes of a text, the first place at which a test holds. -/
import Derived.WalkKit
import Derived.Lib.Hide
import Derived.Lib.Strings
namespace Go.Proofs.Ytblidphaolgilaa
open Go.RowKit

theorem ret_bool {a b : Bool} (h : a = b) : Ending.returned (.bool a) = .returned (.bool b) := by rw [h]
theorem ret_int {k : IntKind} {a b : Int} (h : a = b) : Ending.returned (.int k a) = .returned (.int k b) := by rw [h]
theorem ret_string {a b : ByteArray} (h : a = b) : Ending.returned (.string a) = .returned (.string b) := by rw [h]
theorem ret_int2 {j k : IntKind} {a b c d : Int} (h : a = b) (h' : c = d) : Ending.returned (.tuple #[.int j a, .int k c]) = .returned (.tuple #[.int j b, .int k d]) := by rw [h, h']

theorem isEmpty_true {s : ByteArray} (h : s.size = 0) : s.toList.isEmpty = true := by
  rw [ByteArray.toList_eq]; cases hl : s.data.toList with
  | nil => rfl
  | cons a r => have h2 : s.data.toList.length = s.size := by simp
                rw [hl, h] at h2; simp at h2
theorem isEmpty_false {s : ByteArray} (h : s.size ≠ 0) : s.toList.isEmpty = false := by
  rw [ByteArray.toList_eq]; cases hl : s.data.toList with
  | nil => have h2 : s.data.toList.length = s.size := by simp
           rw [hl] at h2; simp at h2; omega
  | cons a r => rfl

theorem ba_append (a b : List UInt8) : (⟨a.toArray⟩ : ByteArray) ++ ⟨b.toArray⟩ = ⟨(a ++ b).toArray⟩ := by
  apply ByteArray.ext
  simp [ByteArray.data_append]
theorem ba_of (s : ByteArray) : s = ⟨s.data.toList.toArray⟩ := by
  apply ByteArray.ext
  simp
/-- the byte of a text at a place, as a number -/
def byt (l : List UInt8) (k : Nat) : Nat := (l.getD k 0).toNat
theorem byt_at (s : ByteArray) (k : Nat) (hk : k < s.size) : byt s.data.toList k = s[k].toNat := by
  unfold byt
  have h : k < s.data.toList.length := by simpa using hk
  rw [List.getD_eq_getElem?_getD, List.getElem?_eq_getElem h]
  rfl
theorem byt_lt (l : List UInt8) (k : Nat) : byt l k < 256 := by unfold byt; exact UInt8.toNat_lt _

/-- the first of the places below n at which p holds -/
def fst1 (p : Nat → Bool) (n : Nat) : Option Nat := (List.range n).find? p
theorem fst1_none {p : Nat → Bool} {n : Nat} (h : ∀ j, j < n → p j = false) : fst1 p n = none := by
  unfold fst1
  rw [List.find?_eq_none]
  intro x hx
  have := h x (List.mem_range.1 hx)
  simp [this]
theorem fst1_some {p : Nat → Bool} {n k : Nat} (hk : k < n) (h : ∀ j, j < k → p j = false) (hp : p k = true) : fst1 p n = some k := by
  unfold fst1
  rw [List.find?_range_eq_some]
  refine ⟨hp, List.mem_range.2 hk, fun j hj => ?_⟩
  simp [h j hj]
theorem below_succ {p : Nat → Bool} {k : Nat} (h : ∀ j, j < k → p j = false) (hp : p k = false) : ∀ j, j < k + 1 → p j = false := by
  intro j hj
  by_cases e : j = k
  · rw [e]; exact hp
  · exact h j (by omega)
/-- the same, behind a name that the walk does not open -/
def NoneBelow (p : Nat → Bool) (k : Nat) : Prop := ∀ j, j < k → p j = false
theorem NoneBelow.zero (p : Nat → Bool) : NoneBelow p 0 := fun _ h => absurd h (Nat.not_lt_zero _)
theorem NoneBelow.succ {p : Nat → Bool} {k : Nat} (h : NoneBelow p k) (hp : p k = false) : NoneBelow p (k + 1) := below_succ h hp
end Go.Proofs.Ytblidphaolgilaa
