/- The order of identities, byte by byte. Plain. -/
import Derived.Test.YtblidphaolgilaaBase
import Derived.Test.YtblidphaolgilaaIdB
import Derived.Lib.Bytealg
import GoSem.Op.String
import Derived.Shelf.SlSortCmp.InsertionK
import Derived.Sort.Statements
namespace Go.Proofs.Ytblidphaolgilaa
open Go.RowKit Go.Shelf Go.Lib Go.Sort

theorem u8_eq {a b : UInt8} (h1 : ¬ a < b) (h2 : ¬ b < a) : a = b := by
  rw [UInt8.lt_iff_toNat_lt] at h1 h2
  exact UInt8.toNat_inj.1 (by omega)
theorem cmp_range : ∀ a b : List UInt8, Lib.compareBytes a b = -1 ∨ Lib.compareBytes a b = 0 ∨ Lib.compareBytes a b = 1
  | [], [] => by simp [Lib.compareBytes]
  | [], _ :: _ => by simp [Lib.compareBytes]
  | _ :: _, [] => by simp [Lib.compareBytes]
  | a :: x, b :: y => by
    simp only [Lib.compareBytes]
    have := cmp_range x y
    split
    · simp
    · split
      · simp
      · exact this
theorem cmp_swap : ∀ a b : List UInt8, Lib.compareBytes b a = - Lib.compareBytes a b
  | [], [] => by simp [Lib.compareBytes]
  | [], _ :: _ => by simp [Lib.compareBytes]
  | _ :: _, [] => by simp [Lib.compareBytes]
  | a :: x, b :: y => by
    simp only [Lib.compareBytes]
    have := cmp_swap x y
    by_cases h1 : a < b
    · have h2 : ¬ b < a := fun h => by have := UInt8.lt_iff_toNat_lt.1 h1; have := UInt8.lt_iff_toNat_lt.1 h; omega
      simp [h1, h2]
    · by_cases h2 : b < a
      · simp [h1, h2]
      · simp [h1, h2, this]
theorem less_cmp : ∀ a b : List UInt8, Op.bytesLess a b = decide (Lib.compareBytes a b = -1)
  | [], [] => by simp [Lib.compareBytes, Op.bytesLess]
  | [], _ :: _ => by simp [Lib.compareBytes, Op.bytesLess]
  | _ :: _, [] => by simp [Lib.compareBytes, Op.bytesLess]
  | a :: x, b :: y => by
    have := less_cmp x y
    simp only [Lib.compareBytes, Op.bytesLess]
    by_cases h1 : a < b
    · simp [h1]
    · by_cases h2 : b < a
      · have h3 : ¬ a = b := fun h => by rw [h] at h2; have := UInt8.lt_iff_toNat_lt.1 h2; omega
        simp [h1, h2, h3]
      · have h3 : a = b := u8_eq h1 h2
        subst h3
        simp [h1, this]
theorem eq_cmp : ∀ a b : List UInt8, (a == b) = decide (Lib.compareBytes a b = 0)
  | [], [] => by simp [Lib.compareBytes]
  | [], _ :: _ => by simp [Lib.compareBytes]
  | _ :: _, [] => by simp [Lib.compareBytes]
  | a :: x, b :: y => by
    have := eq_cmp x y
    simp only [Lib.compareBytes, List.cons_beq_cons]
    by_cases h1 : a < b
    · have h3 : ¬ a = b := fun h => by rw [h] at h1; have := UInt8.lt_iff_toNat_lt.1 h1; omega
      simp [h1, h3]
    · by_cases h2 : b < a
      · have h3 : ¬ a = b := fun h => by rw [h] at h2; have := UInt8.lt_iff_toNat_lt.1 h2; omega
        simp [h1, h2, h3]
      · have h3 : a = b := u8_eq h1 h2
        subst h3
        simp [h1, this]
theorem cmp_self (a : List UInt8) : Lib.compareBytes a a = 0 := by
  have := eq_cmp a a
  simpa using this
/-- the order of identities -/
def cfI (x y : I32) : Int := Lib.compareBytes x.1 y.1
theorem cmp_trans : ∀ a b c : List UInt8, Lib.compareBytes a b = -1 → Lib.compareBytes b c = -1 → Lib.compareBytes a c = -1
  | [], [], _, h, _ => by simp [Lib.compareBytes] at h
  | [], _ :: _, [], _, h => by simp [Lib.compareBytes] at h
  | [], _ :: _, _ :: _, _, _ => by simp [Lib.compareBytes]
  | _ :: _, [], _, h, _ => by simp [Lib.compareBytes] at h
  | _ :: _, _ :: _, [], _, h => by simp [Lib.compareBytes] at h
  | a :: x, b :: y, c :: z, h1, h2 => by
    have ih := cmp_trans x y z
    simp only [Lib.compareBytes] at h1 h2 ⊢
    have e1 : ∀ p q : UInt8, p < q ↔ p.toNat < q.toNat := fun p q => UInt8.lt_iff_toNat_lt
    simp only [e1] at h1 h2 ⊢
    by_cases q1 : a.toNat < b.toNat
    · by_cases q2 : b.toNat < c.toNat
      · rw [if_pos (by omega)]
      · rw [if_neg q2] at h2
        by_cases q3 : c.toNat < b.toNat
        · rw [if_pos q3] at h2; simp at h2
        · rw [if_pos (by omega)]
    · rw [if_neg q1] at h1
      by_cases q4 : b.toNat < a.toNat
      · rw [if_pos q4] at h1; simp at h1
      · rw [if_neg q4] at h1
        by_cases q2 : b.toNat < c.toNat
        · rw [if_pos (by omega)]
        · rw [if_neg q2] at h2
          by_cases q3 : c.toNat < b.toNat
          · rw [if_pos q3] at h2; simp at h2
          · rw [if_neg q3] at h2
            rw [if_neg (by omega), if_neg (by omega)]
            exact ih h1 h2
theorem cmp_zero : ∀ a b : List UInt8, Lib.compareBytes a b = 0 → a = b := fun a b h => by
  have := eq_cmp a b
  rw [h] at this
  simpa using this
theorem ltI_iff (x y : I32) : ltOf cfI x y = true ↔ Lib.compareBytes x.1 y.1 = -1 := by
  unfold ltOf cfI
  have := cmp_range x.1 y.1
  simp only [decide_eq_true_eq]
  omega
theorem ltI_false (x y : I32) : ltOf cfI x y = false ↔ Lib.compareBytes x.1 y.1 ≠ -1 := by
  rw [Ne, ← ltI_iff]; simp
theorem cmp_ntrans (a b c : List UInt8) (h1 : Lib.compareBytes a b ≠ -1) (h2 : Lib.compareBytes b c ≠ -1) : Lib.compareBytes a c ≠ -1 := by
  intro h
  have s1 := cmp_swap a b
  have s2 := cmp_swap b c
  have r1 := cmp_range a b
  have r2 := cmp_range b c
  by_cases e1 : Lib.compareBytes a b = 0
  · have := cmp_zero _ _ e1; subst this; exact h2 h
  · by_cases e2 : Lib.compareBytes b c = 0
    · have := cmp_zero _ _ e2; subst this; exact h1 h
    · have t1 : Lib.compareBytes b a = -1 := by omega
      have t2 : Lib.compareBytes c b = -1 := by omega
      have := cmp_trans c b a t2 t1
      have s3 := cmp_swap a c
      omega
theorem swoI : SWO (ltOf cfI) where
  irrefl x := by rw [ltI_false, cmp_self]; decide
  trans x y z h1 h2 := by rw [ltI_iff] at *; exact cmp_trans _ _ _ h1 h2
  ntrans x y z h1 h2 := by rw [ltI_false] at *; exact cmp_ntrans _ _ _ h1 h2
theorem totI (x y : I32) (h1 : ltOf cfI x y = false) (h2 : ltOf cfI y x = false) : x = y := by
  rw [ltI_false] at h1 h2
  have s := cmp_swap x.1 y.1
  have r := cmp_range x.1 y.1
  exact Subtype.ext (cmp_zero _ _ (by omega))
/-- is one before the other? -/
def ltI (a b : I32) : Bool := ltOf cfI a b
theorem ltI_irr (a : I32) : ltI a a = false := swoI.irrefl a
theorem ltI_trans {a b c : I32} (h : ltI a b = true) (k : ltI b c = true) : ltI a c = true := swoI.trans a b c h k
theorem ltI_tot {a b : I32} (h : ltI a b = false) (k : ltI b a = false) : a = b := totI a b h k
theorem ltI_asym {a b : I32} (h : ltI a b = true) : ltI b a = false := by
  cases hb : ltI b a
  · rfl
  · have := ltI_trans h hb; rw [ltI_irr] at this; cases this
end Go.Proofs.Ytblidphaolgilaa
