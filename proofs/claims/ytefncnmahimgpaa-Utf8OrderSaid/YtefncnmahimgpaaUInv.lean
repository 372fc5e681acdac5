/- Plain: Encode and Decode are inverse. -/
import Derived.Test.YtefncnmahimgpaaULaw
import Derived.Test.YtefncnmahimgpaaUEnc
namespace Go.Proofs.Ytefncnmahimgpaa
open Go.RowKit

/-- what it means that a text of n bytes is an encoding -/
theorem ok_parts (t : List UInt8) (n : Nat) (hp : psz (byt t 0) = n) (hn1 : 1 ≤ n) (hl : t.length = n) (h : (pBegins t).2 = true) :
    AllC t ∧ rLeast n ≤ loF t (modOf n) (n - 1) ∧ loF t (modOf n) (n - 1) ≤ rMost n ∧ (loF t (modOf n) (n - 1) < 55296 ∨ 57343 < loF t (modOf n) (n - 1)) := by
  rw [pBegins_uni t (by omega) (by omega), hp] at h
  dsimp only at h
  unfold okB at h
  rw [Bool.and_eq_true] at h
  have hA := (cont_all t n (by omega)).1 (fst1_isNone.1 h.1)
  have hv := lo_v t (modOf n) hA (n - 1) (by omega)
  have h2 := h.2
  rw [hv.2, ← hv.1] at h2
  generalize loF t (modOf n) (n - 1) = V at *
  have h3 : ¬ (55296 ≤ max V (rLeast n) ∧ min V (rMost n) ≤ 57343) ∧ max V (rLeast n) ≤ min V (rMost n) := by
    unfold rangeB at h2
    simp only [Bool.and_eq_true, Bool.not_eq_true', decide_eq_true_eq, Bool.and_eq_false_iff, decide_eq_false_iff_not] at h2
    refine ⟨fun x => ?_, h2.2⟩
    rcases h2.1 with y | y
    · exact y x.1
    · exact y x.2
  exact ⟨hA, by omega, by omega, by omega⟩

theorem list1 (t : List UInt8) (h : t.length = 1) : ∃ a, t = [a] := by
  match t, h with
  | [a], _ => exact ⟨a, rfl⟩
theorem list2 (t : List UInt8) (h : t.length = 2) : ∃ a b, t = [a, b] := by
  match t, h with
  | [a, b], _ => exact ⟨a, b, rfl⟩
theorem list3 (t : List UInt8) (h : t.length = 3) : ∃ a b c, t = [a, b, c] := by
  match t, h with
  | [a, b, c], _ => exact ⟨a, b, c, rfl⟩
theorem list4 (t : List UInt8) (h : t.length = 4) : ∃ a b c d, t = [a, b, c, d] := by
  match t, h with
  | [a, b, c, d], _ => exact ⟨a, b, c, d, rfl⟩

theorem u8_eq (v : Nat) (b : UInt8) (h : v = b.toNat) : UInt8.ofNat v = b := by rw [h, UInt8.ofNat_toNat]

theorem psz_inv (c : Nat) : (psz c = 1 → c ≤ 127) ∧ (psz c = 2 → 194 ≤ c ∧ c ≤ 223) ∧ (psz c = 3 → 224 ≤ c ∧ c ≤ 239) ∧ (psz c = 4 → 240 ≤ c ∧ c ≤ 244) := by
  unfold psz; (repeat' split) <;> simp <;> omega

/-- the code point of an encoding has this encoding -/
theorem enc_of (t : List UInt8) (n : Nat) (hp : psz (byt t 0) = n) (hn1 : 1 ≤ n) (hl : t.length = n) (h : (pBegins t).2 = true) :
    pEnc ((loF t (modOf n) (n - 1) : Nat) : Int) = (⟨t.toArray⟩, 0) := by
  obtain ⟨hA, h1, h2, h3⟩ := ok_parts t n hp hn1 hl h
  have h4 := psz_le (byt t 0)
  have hi := psz_inv (byt t 0)
  rw [hp] at h4 hi
  have hmx : rMost n ≤ 1114111 := by unfold rMost; (repeat' split) <;> omega
  have hs : scalarB ((loF t (modOf n) (n - 1) : Nat) : Int) = true := by
    unfold scalarB
    simp
    omega
  have key : encL (loF t (modOf n) (n - 1)) = t := by
    obtain rfl | rfl | rfl | rfl : n = 1 ∨ n = 2 ∨ n = 3 ∨ n = 4 := by omega
    · obtain ⟨a, rfl⟩ := list1 t hl
      have e : loF [a] (modOf 1) (1 - 1) = a.toNat % 128 := rfl
      have hb : byt [a] 0 = a.toNat := rfl
      rw [hb] at hi
      have := hi.1 rfl
      rw [e]
      unfold encL encN
      rw [if_pos (by omega)]
      simp only [List.map_cons, List.map_nil]
      rw [u8_eq _ a (by omega)]
    · obtain ⟨a, b, rfl⟩ := list2 t hl
      have e : loF [a, b] (modOf 2) (2 - 1) = a.toNat % 32 * 64 + b.toNat % 64 := rfl
      have hb : byt [a, b] 0 = a.toNat := rfl
      have hb1 := hA 1 (by omega) (by simp)
      have hb1' : byt [a, b] 1 = b.toNat := rfl
      rw [hb] at hi
      rw [hb1'] at hb1
      have := hi.2.1 rfl
      have hr : rLeast 2 = 128 := rfl
      have hm : rMost 2 = 2047 := rfl
      rw [e] at h1 h2 ⊢
      unfold encL encN
      rw [if_neg (by omega), if_pos (by omega)]
      simp only [List.map_cons, List.map_nil]
      rw [u8_eq _ a (by omega), u8_eq _ b (by omega)]
    · obtain ⟨a, b, c, rfl⟩ := list3 t hl
      have e : loF [a, b, c] (modOf 3) (3 - 1) = (a.toNat % 16 * 64 + b.toNat % 64) * 64 + c.toNat % 64 := rfl
      have hb : byt [a, b, c] 0 = a.toNat := rfl
      have hb1 := hA 1 (by omega) (by simp)
      have hb1' : byt [a, b, c] 1 = b.toNat := rfl
      have hb2 := hA 2 (by omega) (by simp)
      have hb2' : byt [a, b, c] 2 = c.toNat := rfl
      rw [hb] at hi
      rw [hb1'] at hb1
      rw [hb2'] at hb2
      have := hi.2.2.1 rfl
      have hr : rLeast 3 = 2048 := rfl
      have hm : rMost 3 = 65535 := rfl
      rw [e] at h1 h2 ⊢
      unfold encL encN
      rw [if_neg (by omega), if_neg (by omega), if_pos (by omega)]
      simp only [List.map_cons, List.map_nil]
      rw [u8_eq _ a (by omega), u8_eq _ b (by omega), u8_eq _ c (by omega)]
    · obtain ⟨a, b, c, d, rfl⟩ := list4 t hl
      have e : loF [a, b, c, d] (modOf 4) (4 - 1) = ((a.toNat % 8 * 64 + b.toNat % 64) * 64 + c.toNat % 64) * 64 + d.toNat % 64 := rfl
      have hb : byt [a, b, c, d] 0 = a.toNat := rfl
      have hb1 := hA 1 (by omega) (by simp)
      have hb1' : byt [a, b, c, d] 1 = b.toNat := rfl
      have hb2 := hA 2 (by omega) (by simp)
      have hb2' : byt [a, b, c, d] 2 = c.toNat := rfl
      have hb3 := hA 3 (by omega) (by simp)
      have hb3' : byt [a, b, c, d] 3 = d.toNat := rfl
      rw [hb] at hi
      rw [hb1'] at hb1
      rw [hb2'] at hb2
      rw [hb3'] at hb3
      have := hi.2.2.2 rfl
      have hr : rLeast 4 = 65536 := rfl
      have hm : rMost 4 = 1114111 := rfl
      rw [e] at h1 h2 ⊢
      unfold encL encN
      rw [if_neg (by omega), if_neg (by omega), if_neg (by omega)]
      simp only [List.map_cons, List.map_nil]
      rw [u8_eq _ a (by omega), u8_eq _ b (by omega), u8_eq _ c (by omega), u8_eq _ d (by omega)]
  unfold pEnc
  rw [if_pos hs, Int.toNat_natCast, key]

/-- .. as first answers it -/
theorem enc_of_first (l : List UInt8) (he : (pFirst l).2.2 = 0) : pEnc (((pFirst l).1 : Nat) : Int) = (⟨(l.take (pFirst l).2.1).toArray⟩, 0) := by
  revert he
  have hb := byt_take0 l (psz (byt l 0))
  have h4 := psz_le (byt l 0)
  unfold pFirst
  dsimp only
  generalize hn : psz (byt l 0) = n at *
  split
  · intro h; simp at h
  · split
    · split <;> intro h <;> simp at h
    · split
      · rename_i g1 g2 g3
        intro _
        dsimp only
        have hlen : (l.take n).length = n := by rw [List.length_take]; omega
        have := enc_of (l.take n) n (by rw [hb (by omega)]; exact hn) (by omega) hlen g3
        rw [loF_take l _ n (by omega) (by omega) _ (by omega)] at this
        exact this
      · intro h; simp at h

/-- first looks at no more than four bytes -/
theorem first_take (l : List UInt8) (k : Nat) (hk : 4 ≤ k) : pFirst (l.take k) = pFirst l := by
  have hb := byt_take0 l k (by omega)
  have h4 := psz_le (byt l 0)
  unfold pFirst
  dsimp only
  rw [hb]
  generalize psz (byt l 0) = n at *
  by_cases h0 : n = 0
  · rw [if_pos h0, if_pos h0]
  · rw [if_neg h0, if_neg h0]
    by_cases hl : l.length < n
    · rw [if_pos (by rw [List.length_take]; omega), if_pos hl, List.take_of_length_le (by omega)]
    · rw [if_neg (by rw [List.length_take]; omega), if_neg hl, List.take_take, Nat.min_eq_left (by omega)]
      by_cases h : (pBegins (l.take n)).2 = true
      · rw [if_pos h, if_pos h]
        have e1 := loF_take (l.take k) (modOf n) n (by rw [List.length_take]; omega) (by omega) (n - 1) (by omega)
        have e2 := loF_take l (modOf n) n (by omega) (by omega) (n - 1) (by omega)
        rw [List.take_take, Nat.min_eq_left (by omega)] at e1
        rw [← e1, e2]
      · rw [if_neg h, if_neg h]
end Go.Proofs.Ytefncnmahimgpaa
