/- Plain laws: the order of bytes is the order of their digits. -/
import Derived.Test.YtnoilnmkdahhiaaBase
import Derived.Test.YtnoilnmkdahhiaaPrintW
import Derived.Lib.Bytealg
import GoSem.Op.String
namespace Go.Proofs.Ytnoilnmkdahhiaa

theorem u8_eq {a b : UInt8} (h1 : ¬ a < b) (h2 : ¬ b < a) : a = b := by
  rw [UInt8.lt_iff_toNat_lt] at h1 h2
  exact UInt8.toNat_inj.1 (by omega)
theorem cmp_range : ∀ a b : List UInt8, Lib.compareBytes a b = -1 ∨ Lib.compareBytes a b = 0 ∨ Lib.compareBytes a b = 1
  | [], [] => by simp [Lib.compareBytes]
  | [], _ :: _ => by simp [Lib.compareBytes]
  | _ :: _, [] => by simp [Lib.compareBytes]
  | a :: x, b :: y => by
    simp only [Lib.compareBytes]
    have := cmp_range x y
    split
    · simp
    · split
      · simp
      · exact this
theorem cmp_swap : ∀ a b : List UInt8, Lib.compareBytes b a = - Lib.compareBytes a b
  | [], [] => by simp [Lib.compareBytes]
  | [], _ :: _ => by simp [Lib.compareBytes]
  | _ :: _, [] => by simp [Lib.compareBytes]
  | a :: x, b :: y => by
    simp only [Lib.compareBytes]
    have := cmp_swap x y
    by_cases h1 : a < b
    · have h2 : ¬ b < a := fun h => by have := UInt8.lt_iff_toNat_lt.1 h1; have := UInt8.lt_iff_toNat_lt.1 h; omega
      simp [h1, h2]
    · by_cases h2 : b < a
      · simp [h1, h2]
      · simp [h1, h2, this]
theorem less_cmp : ∀ a b : List UInt8, Op.bytesLess a b = decide (Lib.compareBytes a b = -1)
  | [], [] => by simp [Lib.compareBytes, Op.bytesLess]
  | [], _ :: _ => by simp [Lib.compareBytes, Op.bytesLess]
  | _ :: _, [] => by simp [Lib.compareBytes, Op.bytesLess]
  | a :: x, b :: y => by
    have := less_cmp x y
    simp only [Lib.compareBytes, Op.bytesLess]
    by_cases h1 : a < b
    · simp [h1]
    · by_cases h2 : b < a
      · have h3 : ¬ a = b := fun h => by rw [h] at h2; have := UInt8.lt_iff_toNat_lt.1 h2; omega
        simp [h1, h2, h3]
      · have h3 : a = b := u8_eq h1 h2
        subst h3
        simp [h1, this]
theorem eq_cmp : ∀ a b : List UInt8, (a == b) = decide (Lib.compareBytes a b = 0)
  | [], [] => by simp [Lib.compareBytes]
  | [], _ :: _ => by simp [Lib.compareBytes]
  | _ :: _, [] => by simp [Lib.compareBytes]
  | a :: x, b :: y => by
    have := eq_cmp x y
    simp only [Lib.compareBytes, List.cons_beq_cons]
    by_cases h1 : a < b
    · have h3 : ¬ a = b := fun h => by rw [h] at h1; have := UInt8.lt_iff_toNat_lt.1 h1; omega
      simp [h1, h3]
    · by_cases h2 : b < a
      · have h3 : ¬ a = b := fun h => by rw [h] at h2; have := UInt8.lt_iff_toNat_lt.1 h2; omega
        simp [h1, h2, h3]
      · have h3 : a = b := u8_eq h1 h2
        subst h3
        simp [h1, this]
theorem cmp_head_same : ∀ p x y : List UInt8, Lib.compareBytes (p ++ x) (p ++ y) = Lib.compareBytes x y
  | [], _, _ => rfl
  | a :: p, x, y => by
    have h : ¬ a < a := fun h => by have := UInt8.lt_iff_toNat_lt.1 h; omega
    simp [Lib.compareBytes, h, cmp_head_same p x y]
theorem cmp_tail_same : ∀ x y s : List UInt8, x.length = y.length → Lib.compareBytes (x ++ s) (y ++ s) = Lib.compareBytes x y
  | [], [], s, _ => by
    have := cmp_head_same s [] []
    simpa using this
  | a :: x, b :: y, s, h => by
    have := cmp_tail_same x y s (by simpa using h)
    simp [Lib.compareBytes, this]
  | [], _ :: _, _, h => by simp at h
  | _ :: _, [], _, h => by simp at h
theorem hexD_order : ∀ u, u < 16 → ∀ v, v < 16 → (decide (hexD u < hexD v) = decide (u < v)) ∧ (decide (hexD u = hexD v) = decide (u = v)) := by decide +kernel
theorem cmp_hex : ∀ a b : List UInt8, a.length = b.length → Lib.compareBytes (hexL a) (hexL b) = Lib.compareBytes a b
  | [], [], _ => rfl
  | [], _ :: _, h => by simp at h
  | _ :: _, [], h => by simp at h
  | a :: x, b :: y, h => by
    have ih := cmp_hex x y (by simpa using h)
    have e1 : hexL (a :: x) = hexD (a.toNat / 16) :: hexD (a.toNat % 16) :: hexL x := by simp [hexL, List.flatMap_cons]
    have e2 : hexL (b :: y) = hexD (b.toNat / 16) :: hexD (b.toNat % 16) :: hexL y := by simp [hexL, List.flatMap_cons]
    have ha : a.toNat < 256 := UInt8.toNat_lt _
    have hb : b.toNat < 256 := UInt8.toNat_lt _
    have o1 := (hexD_order (a.toNat / 16) (by omega) (b.toNat / 16) (by omega)).1
    have o2 := (hexD_order (b.toNat / 16) (by omega) (a.toNat / 16) (by omega)).1
    have o3 := (hexD_order (a.toNat % 16) (by omega) (b.toNat % 16) (by omega)).1
    have o4 := (hexD_order (b.toNat % 16) (by omega) (a.toNat % 16) (by omega)).1
    rw [decide_eq_decide] at o1 o2 o3 o4
    rw [e1, e2]
    simp only [Lib.compareBytes, o1, o2, o3, o4, ih, UInt8.lt_iff_toNat_lt]
    by_cases h1 : a.toNat < b.toNat
    · rw [if_pos h1]
      by_cases h2 : a.toNat / 16 < b.toNat / 16
      · rw [if_pos h2]
      · rw [if_neg h2, if_neg (by omega), if_pos (by omega)]
    · rw [if_neg h1]
      by_cases h2 : b.toNat < a.toNat
      · rw [if_pos h2, if_neg (by omega)]
        by_cases h3 : b.toNat / 16 < a.toNat / 16
        · rw [if_pos h3]
        · rw [if_neg h3, if_neg (by omega), if_pos (by omega)]
      · rw [if_neg h2, if_neg (by omega), if_neg (by omega), if_neg (by omega), if_neg (by omega)]
theorem cmp_print (a b : List UInt8) (h : a.length = b.length) : Lib.compareBytes (printL a) (printL b) = Lib.compareBytes a b := by
  unfold printL
  rw [cmp_tail_same _ _ _ (by simp [hexL_length, h]), cmp_head_same, cmp_hex a b h]
end Go.Proofs.Ytnoilnmkdahhiaa
