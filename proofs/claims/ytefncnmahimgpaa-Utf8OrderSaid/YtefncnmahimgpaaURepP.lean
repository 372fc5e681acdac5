/- Plain: what Repair lays is valid; a valid text stands; the reference skips as Repair does. -/
import Derived.Test.YtefncnmahimgpaaUInv2
import Derived.Test.YtefncnmahimgpaaURepair
namespace Go.Proofs.Ytefncnmahimgpaa
open Go.RowKit

/-- the error from a place on depends on what follows alone -/
theorem pAll_drop (l : List UInt8) : ∀ m k, l.length - k ≤ m → (pAll l k).2.2 = (pAll (l.drop k) 0).2.2 := by
  have key : ∀ m k j, l.length - (k + j) ≤ m → (pAll l (k + j)).2.2 = (pAll (l.drop k) j).2.2 := by
    intro m
    induction m with
    | zero =>
      intro k j h
      rw [pAll_end (by omega), pAll_end (by rw [List.length_drop]; omega)]
    | succ m ih =>
      intro k j h
      by_cases hlt : k + j < l.length
      · have hlt2 : j < (l.drop k).length := by rw [List.length_drop]; omega
        have hd : (l.drop k).drop j = l.drop (k + j) := by rw [List.drop_drop]
        by_cases he : (pFirst (l.drop (k + j))).2.2 = 0
        · rw [pAll_ok hlt he, pAll_ok hlt2 (by rw [hd]; exact he), hd]
          have hp := pFirst_ok he
          have := ih k (j + (pFirst (l.drop (k + j))).2.1) (by omega)
          rw [← Nat.add_assoc] at this
          exact this
        · rw [pAll_err hlt he, pAll_err hlt2 (by rw [hd]; exact he), hd]
      · rw [pAll_end hlt, pAll_end (by rw [List.length_drop]; omega)]
  intro m k h
  have := key m k 0 (by omega)
  exact this

theorem valid_app (t rest : List UInt8) (h1 : 1 ≤ t.length) (hf : (pFirst (t ++ rest)).2 = (t.length, 0)) : (pAll (t ++ rest) 0).2.2 = (pAll rest 0).2.2 := by
  have he : (pFirst ((t ++ rest).drop 0)).2.2 = 0 := by show (pFirst (t ++ rest)).2.2 = 0; rw [hf]
  rw [pAll_ok (by rw [List.length_append]; omega) he]
  show (pAll (t ++ rest) (0 + (pFirst (t ++ rest)).2.1)).2.2 = _
  rw [hf, Nat.zero_add, pAll_drop _ (t ++ rest).length t.length (by omega), List.drop_left]

/-- the first encoding of a text, with something else behind it -/
theorem first_take_app (l rest : List UInt8) (he : (pFirst l).2.2 = 0) : (pFirst (l.take (pFirst l).2.1 ++ rest)).2 = ((l.take (pFirst l).2.1).length, 0) := by
  have hok := pFirst_ok he
  have hlen : (l.take (pFirst l).2.1).length = (pFirst l).2.1 := by rw [List.length_take]; omega
  rw [hlen]
  revert he hok hlen
  have hb := byt_take0 l (psz (byt l 0))
  unfold pFirst
  dsimp only
  generalize hn : psz (byt l 0) = n at *
  split
  · intro h; simp at h
  · split
    · split <;> intro h <;> simp at h
    · split
      · rename_i g1 g2 g3
        intro _ _ hlen
        dsimp only at hlen ⊢
        have hp : psz (byt (l.take n) 0) = n := by rw [hb (by omega)]; exact hn
        obtain ⟨hA, q1, q2, q3⟩ := ok_parts (l.take n) n hp (by omega) hlen g3
        have := first_of (l.take n) rest n _ hp (by omega) hlen hA rfl q1 q2 q3
        unfold pFirst at this
        dsimp only at this
        rw [this]
      · intro h; simp at h

/-- what Repair lays is valid -/
theorem rep_valid (l : List UInt8) : ∀ m k, l.length - k ≤ m → (pAll (pRep l k) 0).2.2 = 0 := by
  intro m
  induction m with
  | zero =>
    intro k h
    rw [pRep_end (by omega), pAll_end (by simp)]
  | succ m ih =>
    intro k h
    by_cases hlt : k < l.length
    · by_cases he : (pFirst (l.drop k)).2.2 = 0
      · have hp := pFirst_ok he
        rw [pRep_ok hlt he, valid_app _ _ (by rw [List.length_take]; omega) (first_take_app _ _ he)]
        exact ih _ (by omega)
      · have hp := pSkip_pos (l.drop k)
        rw [pRep_err hlt he]
        have hf : (pFirst ([239, 191, 189] ++ pRep l (k + pSkip (l.drop k)))).2 = (([239, 191, 189] : List UInt8).length, 0) := by
          have := first_enc 65533 (by omega) (by omega) (pRep l (k + pSkip (l.drop k)))
          have e : encL 65533 = [239, 191, 189] := by decide +kernel
          rw [e] at this
          rw [this]
        rw [valid_app _ _ (by simp) hf]
        exact ih _ (by omega)
    · rw [pRep_end hlt, pAll_end (by simp)]

/-- a valid text stands -/
theorem rep_same (l : List UInt8) : ∀ m k, l.length - k ≤ m → (pAll l k).2.2 = 0 → pRep l k = l.drop k := by
  intro m
  induction m with
  | zero =>
    intro k h _
    rw [pRep_end (by omega), List.drop_of_length_le (by omega)]
  | succ m ih =>
    intro k h hv
    by_cases hlt : k < l.length
    · by_cases he : (pFirst (l.drop k)).2.2 = 0
      · have hp := pFirst_ok he
        rw [pAll_ok hlt he] at hv
        rw [pRep_ok hlt he, ih _ (by omega) hv, ← List.drop_drop, List.take_append_drop]
      · rw [pAll_err hlt he] at hv
        exact absurd hv he
    · rw [pRep_end hlt, List.drop_of_length_le (by omega)]

/-- may k bytes be skipped? -/
def qB (l : List UInt8) (k : Nat) : Bool := decide (k ≤ l.length) && ((rBegins (l.take k)).1 && decide (k < (rBegins (l.take k)).2.1))
/-- the reference's number behind the tests below k -/
def skipAt (l : List UInt8) (k : Nat) : Nat := if k ≤ 2 then 1 else if k = 3 then (if qB l 2 then 2 else 1) else (if qB l 2 then (if qB l 3 then 3 else 2) else 1)
def rSkip (l : List UInt8) : Nat := if (rBegins (l.take 1)).1 then skipAt l 4 else 1

theorem goOn_qB (l : List UInt8) (h0 : psz (byt l 0) ≠ 0) (k : Nat) (hk : 1 ≤ k) (hk3 : k + 1 ≤ 4) : goOn l k = qB l (k + 1) := by
  unfold goOn qB
  rw [decide_eq_true (show k < 4 by omega), Bool.true_and]
  by_cases hl : k + 1 ≤ l.length
  · rw [decide_eq_true hl, decide_eq_true (show k < l.length by omega), Bool.true_and, Bool.true_and]
    have hb : byt (l.take (k + 1)) 0 = byt l 0 := byt_take0 l (k + 1) (by omega)
    have hlen : (l.take (k + 1)).length = k + 1 := by rw [List.length_take]; omega
    by_cases hle : k + 1 ≤ psz (byt l 0)
    · have hE := begins_eq (l.take (k + 1)) (by omega) (by rw [hb]; exact h0) (by rw [hb, hlen]; exact hle)
      have hU := pBegins_uni (l.take (k + 1)) (by rw [hb]; exact h0) (by rw [hb, hlen]; exact hle)
      rw [← hE.1]
      cases hq : (rBegins (l.take (k + 1))).1
      · rfl
      · rw [(hE.2 hq).1, hU]
    · have e1 : (pBegins (l.take (k + 1))).2 = false := by
        unfold pBegins
        dsimp only
        rw [hb, if_neg h0, if_pos (by omega)]
      have e2 : (rBegins (l.take (k + 1))).1 = false := by
        unfold rBegins rBegin2
        rw [hb, lead_psz _ (byt_lt l 0) h0, if_pos (Or.inr (by rw [hlen]; show psz (byt l 0) < k + 1; omega))]
      rw [e1, e2]
      rfl
  · rw [decide_eq_false hl, decide_eq_false (show ¬ k < l.length by omega)]
    rfl
theorem goOn_3 (l : List UInt8) : goOn l 3 = false := by
  unfold goOn
  have h : ¬ 3 + 1 < (pBegins (l.take (3 + 1))).1 := by
    have h4 := psz_le (byt (l.take (3 + 1)) 0)
    unfold pBegins
    dsimp only
    (repeat' split) <;> simp <;> omega
  rw [decide_eq_false h]
  simp
theorem goOn_0 (l : List UInt8) (h0 : psz (byt l 0) = 0) : goOn l 1 = false := by
  unfold goOn
  have h : (pBegins (l.take (1 + 1))).2 = false := by
    unfold pBegins
    dsimp only
    rw [byt_take0 l (1 + 1) (by omega), if_pos h0]
  rw [h]
  simp
theorem skip_eq (l : List UInt8) (h1 : 1 ≤ l.length) : rSkip l = pSkip l := by
  obtain ⟨b, r, rfl⟩ : ∃ b r, l = b :: r := by
    cases l with
    | nil => simp at h1
    | cons a r => exact ⟨a, r, rfl⟩
  have ht : (b :: r).take 1 = [b] := rfl
  have hb0 : byt (b :: r) 0 = b.toNat := rfl
  unfold rSkip pSkip
  rw [ht, one_psz, goOn_3]
  by_cases h0 : psz b.toNat = 0
  · rw [if_pos h0, goOn_0 _ (by rw [hb0]; exact h0)]
    rfl
  · rw [if_neg h0, goOn_qB _ (by rw [hb0]; exact h0) 1 (by omega) (by omega), goOn_qB _ (by rw [hb0]; exact h0) 2 (by omega) (by omega)]
    rfl
end Go.Proofs.Ytefncnmahimgpaa
