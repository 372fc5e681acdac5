/- Plain: the beginnings of a valid text. -/
import Derived.Test.YtefncnmahimgpaaURepP
namespace Go.Proofs.Ytefncnmahimgpaa
open Go.RowKit

theorem take_byt (t : List UInt8) (j i : Nat) (h : i < j) : byt (t.take j) i = byt t i := by
  unfold byt
  rw [List.getD_eq_getElem?_getD, List.getD_eq_getElem?_getD, List.getElem?_take_of_lt h]
/-- fewer bytes: a wider range -/
theorem lohi_take (t : List UInt8) (m j : Nat) (hj : 1 ≤ j) (hjl : j ≤ t.length) : ∀ i, i < t.length → loF (t.take j) m i ≤ loF t m i ∧ hiF t m i ≤ hiF (t.take j) m i
  | 0, _ => by
    have e : byt (t.take j) 0 = byt t 0 := take_byt t j 0 (by omega)
    exact ⟨by show byt (t.take j) 0 % m ≤ byt t 0 % m; rw [e]; exact Nat.le_refl _, by show byt t 0 % m ≤ byt (t.take j) 0 % m; rw [e]; exact Nat.le_refl _⟩
  | i + 1, hi => by
    have ih := lohi_take t m j hj hjl i (by omega)
    have hlen : (t.take j).length = j := by rw [List.length_take]; omega
    by_cases h : i + 1 < j
    · rw [loF, loF, hiF, hiF, hlen, if_pos h, if_pos hi, if_pos h, if_pos hi, take_byt t j (i + 1) h]
      omega
    · rw [loF, loF, hiF, hiF, hlen, if_neg h, if_pos hi, if_neg h, if_pos hi]
      omega
theorem begins_take (t : List UInt8) (n j : Nat) (hp : psz (byt t 0) = n) (hn1 : 1 ≤ n) (hl : t.length = n) (h : (pBegins t).2 = true) (hj : 1 ≤ j) (hjn : j ≤ n) : (pBegins (t.take j)).2 = true := by
  obtain ⟨hA, h1, h2, h3⟩ := ok_parts t n hp hn1 hl h
  have hb0 : byt (t.take j) 0 = byt t 0 := byt_take0 t j hj
  have hlen : (t.take j).length = j := by rw [List.length_take]; omega
  rw [pBegins_uni (t.take j) (by rw [hb0]; omega) (by rw [hb0]; omega), hb0, hp]
  dsimp only
  unfold okB
  rw [Bool.and_eq_true]
  refine ⟨fst1_isNone.2 ((cont_all (t.take j) n (by omega)).2 (fun i h1 hi => ?_)), ?_⟩
  · rw [take_byt t j i (by omega)]
    exact hA i h1 (by omega)
  · have hv := lo_v t (modOf n) hA (n - 1) (by omega)
    have hm := lohi_take t (modOf n) j hj (by omega) (n - 1) (by omega)
    rw [hv.2, ← hv.1] at hm
    generalize loF t (modOf n) (n - 1) = V at *
    generalize loF (t.take j) (modOf n) (n - 1) = lo at *
    generalize hiF (t.take j) (modOf n) (n - 1) = hi at *
    simp [rangeB]
    omega

/-- the place and the kind of the first error, from a place on -/
theorem pAll_shift (l : List UInt8) : ∀ m k j, l.length - (k + j) ≤ m → (pAll l (k + j)).2 = if (pAll (l.drop k) j).2.2 = 0 then (0, 0) else (k + (pAll (l.drop k) j).2.1, (pAll (l.drop k) j).2.2) := by
  intro m
  induction m with
  | zero =>
    intro k j h
    rw [pAll_end (by omega), pAll_end (by rw [List.length_drop]; omega)]
    rfl
  | succ m ih =>
    intro k j h
    by_cases hlt : k + j < l.length
    · have hlt2 : j < (l.drop k).length := by rw [List.length_drop]; omega
      have hd : (l.drop k).drop j = l.drop (k + j) := by rw [List.drop_drop]
      by_cases he : (pFirst (l.drop (k + j))).2.2 = 0
      · rw [pAll_ok hlt he, pAll_ok hlt2 (by rw [hd]; exact he), hd]
        have hp := pFirst_ok he
        have := ih k (j + (pFirst (l.drop (k + j))).2.1) (by omega)
        rw [← Nat.add_assoc] at this
        exact this
      · rw [pAll_err hlt he, pAll_err hlt2 (by rw [hd]; exact he), hd]
        dsimp only
        rw [if_neg he]
    · rw [pAll_end hlt, pAll_end (by rw [List.length_drop]; omega)]
      rfl
theorem pAll_app (t rest : List UInt8) (h1 : 1 ≤ t.length) (hf : (pFirst (t ++ rest)).2 = (t.length, 0)) : (pAll (t ++ rest) 0).2 = if (pAll rest 0).2.2 = 0 then (0, 0) else (t.length + (pAll rest 0).2.1, (pAll rest 0).2.2) := by
  have he : (pFirst ((t ++ rest).drop 0)).2.2 = 0 := by show (pFirst (t ++ rest)).2.2 = 0; rw [hf]
  rw [pAll_ok (by rw [List.length_append]; omega) he]
  show (pAll (t ++ rest) (0 + (pFirst (t ++ rest)).2.1)).2 = _
  have := pAll_shift (t ++ rest) (t ++ rest).length t.length 0 (by omega)
  rw [List.drop_left, Nat.add_zero] at this
  rw [hf, Nat.zero_add]
  exact this

/-- a beginning of a valid text: no error, and the rest is valid; or it ends within an encoding, and from its first byte on the rest is valid -/
theorem pre_valid : ∀ (m : Nat) (L : List UInt8), L.length ≤ m → (pAll L 0).2.2 = 0 → ∀ j, j ≤ L.length →
    ((pAll (L.take j) 0).2.2 = 0 ∧ (pAll (L.drop j) 0).2.2 = 0) ∨ ((pAll (L.take j) 0).2.2 = 23 ∧ (pAll (L.take j) 0).2.1 ≤ j ∧ (pAll (L.drop (pAll (L.take j) 0).2.1) 0).2.2 = 0) := by
  intro m
  induction m with
  | zero =>
    intro L hL hv j hj
    obtain rfl : L = [] := List.eq_nil_of_length_eq_zero (by omega)
    refine Or.inl ?_
    simp only [List.take_nil, List.drop_nil]
    exact ⟨hv, hv⟩
  | succ m ih =>
    intro L hL hv j hj
    by_cases hj0 : j = 0
    · subst hj0
      refine Or.inl ⟨?_, hv⟩
      rw [List.take_zero, pAll_end (by simp)]
    · have hlt : 0 < L.length := by omega
      have he : (pFirst (L.drop 0)).2.2 = 0 := by
        by_cases he : (pFirst (L.drop 0)).2.2 = 0
        · exact he
        · rw [pAll_err hlt he] at hv
          exact absurd hv he
      have he' : (pFirst L).2.2 = 0 := he
      have hok := pFirst_ok he'
      have hsplit : L.take (pFirst L).2.1 ++ L.drop (pFirst L).2.1 = L := List.take_append_drop _ _
      have hlen : (L.take (pFirst L).2.1).length = (pFirst L).2.1 := by rw [List.length_take]; omega
      have hv2 : (pAll (L.drop (pFirst L).2.1) 0).2.2 = 0 := by
        have := valid_app (L.take (pFirst L).2.1) (L.drop (pFirst L).2.1) (by omega) (first_take_app L _ he')
        rw [hsplit] at this
        rw [← this]; exact hv
      by_cases hn : (pFirst L).2.1 ≤ j
      · have hi := ih (L.drop (pFirst L).2.1) (by rw [List.length_drop]; omega) hv2 (j - (pFirst L).2.1) (by rw [List.length_drop]; omega)
        have htk : L.take j = L.take (pFirst L).2.1 ++ (L.drop (pFirst L).2.1).take (j - (pFirst L).2.1) := by
          have h0 : j = (pFirst L).2.1 + (j - (pFirst L).2.1) := by omega
          generalize (pFirst L).2.1 = n at *
          conv => lhs; rw [h0]
          rw [List.take_add]
        have hap := pAll_app (L.take (pFirst L).2.1) ((L.drop (pFirst L).2.1).take (j - (pFirst L).2.1)) (by omega) (first_take_app L _ he')
        rw [← htk, hlen] at hap
        rw [List.drop_drop, show (pFirst L).2.1 + (j - (pFirst L).2.1) = j by omega] at hi
        rcases hi with ⟨i1, i2⟩ | ⟨i1, i2, i3⟩
        · rw [if_pos i1] at hap
          exact Or.inl ⟨by rw [hap], i2⟩
        · rw [if_neg (by omega)] at hap
          refine Or.inr ⟨by rw [hap]; exact i1, by rw [hap]; dsimp only; omega, ?_⟩
          rw [hap]
          dsimp only
          rw [← List.drop_drop]
          exact i3
      · have hf : pFirst (L.take j) = (0, 0, 23) := by
          have hb := byt_take0 L j (by omega)
          have hb2 := byt_take0 L (psz (byt L 0))
          revert he' hn hok
          unfold pFirst
          dsimp only
          rw [hb]
          generalize hnn : psz (byt L 0) = n at *
          split
          · intro _ h _; simp at h
          · split
            · split <;> intro _ h _ <;> simp at h
            · split
              · rename_i g1 g2 g3
                intro hok _ hn
                dsimp only at hok hn
                have hlt2 : (L.take n).length = n := by rw [List.length_take]; omega
                have hbg := begins_take (L.take n) n j (by rw [hb2 (by omega)]; exact hnn) (by omega) hlt2 g3 (by omega) (by omega)
                rw [List.take_take, Nat.min_eq_left (by omega)] at hbg
                rw [if_pos (by rw [List.length_take]; omega), if_pos hbg]
              · intro _ h _; simp at h
        have herr : (pFirst ((L.take j).drop 0)).2.2 ≠ 0 := by show (pFirst (L.take j)).2.2 ≠ 0; rw [hf]; simp
        have hpa : pAll (L.take j) 0 = ([], 0, 23) := by
          rw [pAll_err (by rw [List.length_take]; omega) herr]
          show ([], 0, (pFirst (L.take j)).2.2) = _
          rw [hf]
        rw [hpa]
        exact Or.inr ⟨rfl, by simp, hv⟩
end Go.Proofs.Ytefncnmahimgpaa
