/- Plain: the reference's First is first. -/
import Derived.Test.YtefncnmahimgpaaUCheck
import Derived.Test.YtefncnmahimgpaaURefF
namespace Go.Proofs.Ytefncnmahimgpaa
open Go.RowKit

theorem lead_psz : ∀ c : Nat, c < 256 → psz c ≠ 0 → rLead c = (psz c, c % modOf (psz c)) := by decide +kernel
theorem one_psz' : ∀ c : Nat, c < 256 → rBegins [UInt8.ofNat c] = if psz c = 0 then (false, 0, 0) else (true, psz c, c % modOf (psz c)) := by decide +kernel
theorem one_psz (b : UInt8) : rBegins [b] = if psz b.toNat = 0 then (false, 0, 0) else (true, psz b.toNat, b.toNat % modOf (psz b.toNat)) := by
  have h := one_psz' b.toNat (UInt8.toNat_lt b)
  rwa [UInt8.ofNat_toNat] at h

theorem fst1_isNone {p : Nat → Bool} {n : Nat} : (fst1 p n).isNone = true ↔ ∀ j, j < n → p j = false := by
  unfold fst1
  rw [Option.isNone_iff_eq_none, List.find?_eq_none]
  constructor
  · intro h j hj
    have := h j (List.mem_range.2 hj)
    simpa using this
  · intro h x hx
    have := h x (List.mem_range.1 hx)
    simp [this]

/-- the bytes behind the first one go on -/
def AllC (t : List UInt8) : Prop := ∀ j, 1 ≤ j → j < t.length → 128 ≤ byt t j ∧ byt t j ≤ 191
theorem cont_all (t : List UInt8) (n : Nat) (hn : t.length ≤ n) : (∀ j, j < n → contBad t j = false) ↔ AllC t := by
  constructor
  · intro h j h1 hj
    have := h j (by omega)
    have hb := byt_lt t j
    unfold contBad at this
    rw [decide_eq_true (show j ≠ 0 by omega), decide_eq_true hj] at this
    simp at this
    omega
  · intro h j hj
    unfold contBad
    by_cases h1 : j ≠ 0
    · by_cases h2 : j < t.length
      · have := h j (by omega) h2
        have e : byt t j / 64 = 2 := by omega
        simp [e]
      · simp [h2]
    · simp [h1]
theorem rbad_all (t : List UInt8) : (∀ j, j < t.length → rBad t j = false) ↔ AllC t := by
  constructor
  · intro h j h1 hj
    have := h j hj
    unfold rBad at this
    rw [decide_eq_true (show j ≠ 0 by omega)] at this
    simp at this
    exact ⟨this.1, this.2⟩
  · intro h j hj
    unfold rBad
    by_cases h1 : j ≠ 0
    · have := h j (by omega) hj
      simp
      intro _
      omega
    · simp [h1]

theorem lo_v (t : List UInt8) (m : Nat) (h : AllC t) : ∀ j, j < t.length → loF t m j = rV t (byt t 0 % m) j ∧ hiF t m j = rV t (byt t 0 % m) j
  | 0, _ => ⟨rfl, rfl⟩
  | j + 1, hj => by
    have ih := lo_v t m h j (by omega)
    have hb := h (j + 1) (by omega) hj
    have e : rV t (byt t 0 % m) (j + 1) = 64 * rV t (byt t 0 % m) j + byt t (j + 1) - 128 := rfl
    rw [e, loF, hiF, if_pos hj, if_pos hj, ih.1, ih.2]
    omega
theorem lo_hi (t : List UInt8) (m V : Nat) (h1 : 1 ≤ t.length) (hl : loF t m (t.length - 1) = V) (hh : hiF t m (t.length - 1) = V) : ∀ k, loF t m (t.length - 1 + k) = rLo V k ∧ hiF t m (t.length - 1 + k) = rHi V k
  | 0 => ⟨hl, hh⟩
  | k + 1 => by
    have ih := lo_hi t m V h1 hl hh k
    have e : t.length - 1 + (k + 1) = (t.length - 1 + k) + 1 := rfl
    have hn : ¬ (t.length - 1 + k) + 1 < t.length := by omega
    rw [e, loF, hiF, if_neg hn, if_neg hn, ih.1, ih.2]
    exact ⟨by show _ = 64 * rLo V k; omega, by show _ = 64 * rHi V k + 63; omega⟩

theorem pBegins_uni (t : List UInt8) (h0 : psz (byt t 0) ≠ 0) (hl : t.length ≤ psz (byt t 0)) :
    pBegins t = (psz (byt t 0), okB t (psz (byt t 0)) (modOf (psz (byt t 0))) (rLeast (psz (byt t 0))) (rMost (psz (byt t 0)))) := by
  have h4 := psz_le (byt t 0)
  unfold pBegins
  dsimp only
  rw [if_neg h0, if_neg (by omega)]
  generalize psz (byt t 0) = n at *
  obtain rfl | rfl | rfl | rfl : n = 1 ∨ n = 2 ∨ n = 3 ∨ n = 4 := by omega
  all_goals rfl

theorem begins_eq (t : List UInt8) (h1 : 1 ≤ t.length) (h0 : psz (byt t 0) ≠ 0) (hl : t.length ≤ psz (byt t 0)) :
    (rBegins t).1 = (pBegins t).2 ∧ ((rBegins t).1 = true → (rBegins t).2.1 = psz (byt t 0) ∧ (t.length = psz (byt t 0) → (rBegins t).2.2 = loF t (modOf (psz (byt t 0))) (psz (byt t 0) - 1))) := by
  have hb := byt_lt t 0
  have hLd := lead_psz _ hb h0
  rw [pBegins_uni t h0 hl]
  unfold rBegins
  rw [hLd]
  dsimp only
  generalize hn : psz (byt t 0) = n at *
  unfold rBegin2
  rw [if_neg (by omega)]
  by_cases hA : AllC t
  · have hs : (fst1 (rBad t) t.length).isSome = false := by
      have := fst1_isNone.2 ((rbad_all t).2 hA)
      revert this
      cases fst1 (rBad t) t.length <;> simp
    have hc : (fst1 (contBad t) n).isNone = true := fst1_isNone.2 ((cont_all t n hl).2 hA)
    have hv := lo_v t (modOf n) hA (t.length - 1) (by omega)
    have hlh := lo_hi t (modOf n) _ h1 hv.1 hv.2 (n - t.length)
    rw [show t.length - 1 + (n - t.length) = n - 1 by omega] at hlh
    rw [hs]
    unfold okB
    rw [hc, hlh.1, hlh.2]
    simp only [Bool.false_eq_true, if_false, Bool.true_and]
    generalize rV t (byt t 0 % modOf n) (t.length - 1) = V at *
    generalize hA' : max (rLo V (n - t.length)) (rLeast n) = A
    generalize hB' : min (rHi V (n - t.length)) (rMost n) = B
    by_cases hbad : (55296 ≤ A ∧ B ≤ 57343) ∨ B < A
    · rw [if_pos hbad]
      refine ⟨?_, fun h => by simp at h⟩
      symm
      rw [Bool.eq_false_iff]
      intro h
      simp [rangeB] at h
      omega
    · rw [if_neg hbad]
      refine ⟨?_, fun _ => ⟨rfl, fun hln => ?_⟩⟩
      · symm
        simp [rangeB]
        omega
      · have : n - t.length = 0 := by omega
        rw [this]
        rfl
  · have hs : (fst1 (rBad t) t.length).isSome = true := by
      cases h : (fst1 (rBad t) t.length).isSome
      · exfalso
        refine hA ((rbad_all t).1 (fst1_isNone.1 ?_))
        revert h
        cases fst1 (rBad t) t.length <;> simp
      · rfl
    have hc : (fst1 (contBad t) n).isNone = false := by
      cases h : (fst1 (contBad t) n).isNone
      · rfl
      · exact absurd ((cont_all t n hl).1 (fst1_isNone.1 h)) hA
    rw [hs]
    unfold okB
    rw [hc]
    exact ⟨rfl, fun h => by simp at h⟩

theorem byt_take0 (l : List UInt8) (n : Nat) (hn : 1 ≤ n) : byt (l.take n) 0 = byt l 0 := by
  cases l with
  | nil => simp [byt]
  | cons a r =>
    obtain ⟨k, rfl⟩ : ∃ k, n = k + 1 := ⟨n - 1, by omega⟩
    simp [byt]
theorem loF_take (l : List UInt8) (m n : Nat) (hn : n ≤ l.length) (h1 : 1 ≤ n) : ∀ j, j < n → loF (l.take n) m j = loF l m j
  | 0, _ => by show byt (l.take n) 0 % m = _; rw [byt_take0 l n h1]; rfl
  | j + 1, hj => by
    have ih := loF_take l m n hn h1 j (by omega)
    have hlen : (l.take n).length = n := by rw [List.length_take]; omega
    have hb : byt (l.take n) (j + 1) = byt l (j + 1) := by
      unfold byt
      rw [List.getD_eq_getElem?_getD, List.getD_eq_getElem?_getD, List.getElem?_take_of_lt hj]
    rw [loF, loF, hlen, if_pos hj, if_pos (by omega), ih, hb]

/-- the reference's First and first answer alike -/
theorem first_eq (l : List UInt8) (h1 : 1 ≤ l.length) : rFirst l = pFirst l := by
  obtain ⟨b, r, rfl⟩ : ∃ b r, l = b :: r := by
    cases l with
    | nil => simp at h1
    | cons a r => exact ⟨a, r, rfl⟩
  have ht : (b :: r).take 1 = [b] := rfl
  have hb0 : byt (b :: r) 0 = b.toNat := rfl
  unfold rFirst pFirst
  rw [ht, one_psz, hb0]
  dsimp only
  by_cases h0 : psz b.toNat = 0
  · rw [if_pos h0, if_pos h0]; rfl
  · rw [if_neg h0, if_neg h0]
    simp only [if_true]
    generalize hl : b :: r = l at *
    by_cases hlen : psz b.toNat ≤ l.length
    · have h0' : 1 ≤ psz b.toNat := by omega
      have hb1 : byt (l.take (psz b.toNat)) 0 = b.toNat := by rw [byt_take0 l _ h0', hb0]
      have hE := begins_eq (l.take (psz b.toNat)) (by rw [List.length_take]; omega) (by rw [hb1]; exact h0) (by rw [hb1, List.length_take]; omega)
      rw [hb1] at hE
      rw [if_pos hlen, if_neg (show ¬ l.length < psz b.toNat by omega), ← hE.1]
      cases hq : (rBegins (l.take (psz b.toNat))).1
      · rfl
      · have h2 := (hE.2 hq).2 (by rw [List.length_take]; omega)
        rw [loF_take l _ _ hlen h0' _ (by omega)] at h2
        simp only [if_true]
        rw [h2]
    · have hE := begins_eq l h1 (by rw [hb0]; exact h0) (by rw [hb0]; omega)
      rw [if_neg hlen, if_pos (show l.length < psz b.toNat by omega), hE.1]
end Go.Proofs.Ytefncnmahimgpaa
