/- Plain laws: valid texts are the encodings of their code points, in the same order. -/
import Derived.Test.YtefncnmahimgpaaURepP
import Derived.Test.YtefncnmahimgpaaUInv2
import GoSem.Op.String
namespace Go.Proofs.Ytefncnmahimgpaa

/-- the code points of a text -/
def pts (l : List UInt8) : List Nat := (pAll l 0).1.map Prod.snd
theorem pts_drop (l : List UInt8) (k : Nat) : ∀ m j, l.length - (k + j) ≤ m → (pAll l (k + j)).1.map Prod.snd = (pAll (l.drop k) j).1.map Prod.snd := by
  intro m
  induction m with
  | zero =>
    intro j h
    rw [pAll_end (by omega), pAll_end (by simp; omega)]
  | succ m ih =>
    intro j h
    by_cases hlt : k + j < l.length
    · have hd : (l.drop k).drop j = l.drop (k + j) := by rw [List.drop_drop]
      by_cases he : (pFirst (l.drop (k + j))).2.2 = 0
      · have hp := pFirst_ok he
        rw [pAll_ok hlt he, pAll_ok (l := l.drop k) (by simp; omega) (by rw [hd]; exact he), hd]
        simp only [List.map_cons]
        have := ih (j + (pFirst (l.drop (k + j))).2.1) (by omega)
        rw [← Nat.add_assoc] at this
        rw [this]
      · rw [pAll_err hlt he, pAll_err (l := l.drop k) (by simp; omega) (by rw [hd]; exact he)]
    · rw [pAll_end hlt, pAll_end (by simp; omega)]
/-- may a number be encoded? -/
def Sc (r : Nat) : Prop := r ≤ 1114111 ∧ (r < 55296 ∨ 57343 < r)
theorem enc_cons (r : Nat) (h : Sc r) (rest : List UInt8) : pts (encL r ++ rest) = r :: pts rest ∧ (pAll (encL r ++ rest) 0).2.2 = (pAll rest 0).2.2 := by
  have hf := first_enc r h.1 h.2 rest
  have hl := encL_len r
  have he : (pFirst ((encL r ++ rest).drop 0)).2.2 = 0 := by show (pFirst (encL r ++ rest)).2.2 = 0; rw [hf]
  refine ⟨?_, valid_app _ _ hl.1 (by rw [hf])⟩
  unfold pts
  rw [pAll_ok (by rw [List.length_append]; omega) he]
  simp only [List.map_cons, List.drop_zero, hf]
  rw [Nat.zero_add]
  have := pts_drop (encL r ++ rest) (encL r).length _ 0 (Nat.le_refl _)
  rw [Nat.add_zero, List.drop_left] at this
  rw [this]
theorem valid_enc : ∀ (m : Nat) (l : List UInt8), l.length ≤ m → (pAll l 0).2.2 = 0 → (∀ r ∈ pts l, Sc r) ∧ l = (pts l).flatMap encL := by
  intro m
  induction m with
  | zero =>
    intro l h _
    obtain rfl := List.eq_nil_of_length_eq_zero (Nat.le_zero.1 h)
    unfold pts
    rw [pAll_end (by simp)]
    simp
  | succ m ih =>
    intro l h hv
    by_cases hlt : 0 < l.length
    · have he : (pFirst l).2.2 = 0 := by
        by_cases he : (pFirst (l.drop 0)).2.2 = 0
        · exact he
        · rw [pAll_err hlt he] at hv; exact absurd hv he
      have hp := pFirst_ok he
      have hE := enc_of_first l he
      have hsc : scalarB ((pFirst l).1 : Int) = true := by
        cases hs : scalarB ((pFirst l).1 : Int)
        · rw [pEnc, hs] at hE; simp at hE
        · rfl
      rw [pEnc, if_pos hsc] at hE
      have hL : encL (pFirst l).1 = l.take (pFirst l).2.1 := by
        have := congrArg (fun x => (Prod.fst x).data.toList) hE
        simpa using this
      have hS : Sc (pFirst l).1 := by
        unfold scalarB at hsc
        simp at hsc
        exact ⟨by omega, by omega⟩
      have hl : l = encL (pFirst l).1 ++ l.drop (pFirst l).2.1 := by rw [hL, List.take_append_drop]
      have hc := enc_cons (pFirst l).1 hS (l.drop (pFirst l).2.1)
      rw [← hl] at hc
      have hr := ih (l.drop (pFirst l).2.1) (by rw [List.length_drop]; omega) (by rw [← hc.2]; exact hv)
      rw [hc.1]
      refine ⟨fun r hr' => ?_, ?_⟩
      · rcases List.mem_cons.1 hr' with rfl | h'
        · exact hS
        · exact hr.1 r h'
      · rw [List.flatMap_cons, ← hr.2]; exact hl
    · have h0 : l = [] := List.eq_nil_of_length_eq_zero (by omega)
      subst h0
      unfold pts
      rw [pAll_end (by simp)]
      simp
theorem enc_all : ∀ rs : List Nat, (∀ r ∈ rs, Sc r) → ∀ rest, pts (rs.flatMap encL ++ rest) = rs ++ pts rest ∧ (pAll (rs.flatMap encL ++ rest) 0).2.2 = (pAll rest 0).2.2
  | [], _, rest => by simp
  | r :: rs, h, rest => by
    have hc := enc_cons r (h r (by simp)) (rs.flatMap encL ++ rest)
    have hi := enc_all rs (fun x hx => h x (by simp [hx])) rest
    rw [List.flatMap_cons, List.append_assoc, hc.1, hc.2, hi.1, hi.2]
    simp
/-- two valid texts in a row -/
theorem valid_both (s t : List UInt8) (hs : (pAll s 0).2.2 = 0) (ht : (pAll t 0).2.2 = 0) : (pAll (s ++ t) 0).2.2 = 0 ∧ pts (s ++ t) = pts s ++ pts t := by
  have h := valid_enc _ s (Nat.le_refl _) hs
  have h2 := enc_all (pts s) h.1 t
  rw [← h.2] at h2
  exact ⟨by rw [h2.2, ht], h2.1⟩

/-- the order of code points -/
def ordL : List Nat → List Nat → Bool
  | [], b => !b.isEmpty
  | _ :: _, [] => false
  | a :: x, b :: y => if a = b then ordL x y else decide (a < b)
theorem less_pre : ∀ (p x y : List UInt8), Op.bytesLess (p ++ x) (p ++ y) = Op.bytesLess x y
  | [], _, _ => rfl
  | a :: p, x, y => by
    have h := less_pre p x y
    have hn : ¬ a < a := fun h => by have := UInt8.lt_iff_toNat_lt.1 h; omega
    simp [Op.bytesLess, hn, h]

/-- two rows of numbers that differ: the first one is less where they do -/
def Dif (u v : List Nat) : Prop := ∃ p a b u' v', u = p ++ a :: u' ∧ v = p ++ b :: v' ∧ a < b ∧ b < 256
theorem less_dif {u v : List Nat} (h : Dif u v) (x y : List UInt8) : Op.bytesLess (u.map UInt8.ofNat ++ x) (v.map UInt8.ofNat ++ y) = true ∧ Op.bytesLess (v.map UInt8.ofNat ++ y) (u.map UInt8.ofNat ++ x) = false := by
  obtain ⟨p, a, b, u', v', rfl, rfl, hab, hb⟩ := h
  simp only [List.map_append, List.map_cons, List.append_assoc, less_pre, List.cons_append]
  have h1 : UInt8.ofNat a < UInt8.ofNat b := by rw [UInt8.lt_iff_toNat_lt, u8n a (by omega), u8n b hb]; exact hab
  have h2 : ¬ UInt8.ofNat b < UInt8.ofNat a := by rw [UInt8.lt_iff_toNat_lt, u8n a (by omega), u8n b hb]; omega
  have h3 : ¬ UInt8.ofNat b = UInt8.ofNat a := fun h => by rw [h] at h1; exact h2 (h ▸ h1)
  simp [Op.bytesLess, h1, h2, h3]
theorem dif_enc (r r' : Nat) (h' : Sc r') (hlt : r < r') : Dif (encN r) (encN r') := by
  have hb := h'.1
  unfold encN
  by_cases a1 : r ≤ 127
  · rw [if_pos a1]
    by_cases b1 : r' ≤ 127
    · rw [if_pos b1]; exact ⟨[], _, _, _, _, rfl, rfl, hlt, by omega⟩
    · rw [if_neg b1]
      (repeat' split) <;> exact ⟨[], _, _, _, _, rfl, rfl, by omega, by omega⟩
  · rw [if_neg a1, if_neg (show ¬ r' ≤ 127 by omega)]
    by_cases a2 : r ≤ 2047
    · rw [if_pos a2]
      by_cases b2 : r' ≤ 2047
      · rw [if_pos b2]
        by_cases q : r / 64 = r' / 64
        · exact ⟨[192 + r / 64], _, _, [], [], rfl, by rw [q]; rfl, by omega, by omega⟩
        · exact ⟨[], _, _, _, _, rfl, rfl, by omega, by omega⟩
      · rw [if_neg b2]
        (repeat' split) <;> exact ⟨[], _, _, _, _, rfl, rfl, by omega, by omega⟩
    · rw [if_neg a2, if_neg (show ¬ r' ≤ 2047 by omega)]
      by_cases a3 : r ≤ 65535
      · rw [if_pos a3]
        by_cases b3 : r' ≤ 65535
        · rw [if_pos b3]
          by_cases q : r / 4096 = r' / 4096
          · by_cases q2 : r / 64 % 64 = r' / 64 % 64
            · exact ⟨[224 + r / 4096, 128 + r / 64 % 64], _, _, [], [], rfl, by rw [q, q2]; rfl, by omega, by omega⟩
            · exact ⟨[224 + r / 4096], _, _, _, _, rfl, by rw [q]; rfl, by omega, by omega⟩
          · exact ⟨[], _, _, _, _, rfl, rfl, by omega, by omega⟩
        · rw [if_neg b3]
          exact ⟨[], _, _, _, _, rfl, rfl, by omega, by omega⟩
      · rw [if_neg a3, if_neg (show ¬ r' ≤ 65535 by omega)]
        by_cases q : r / 262144 = r' / 262144
        · by_cases q2 : r / 4096 % 64 = r' / 4096 % 64
          · by_cases q3 : r / 64 % 64 = r' / 64 % 64
            · exact ⟨[240 + r / 262144, 128 + r / 4096 % 64, 128 + r / 64 % 64], _, _, [], [], rfl, by rw [q, q2, q3]; rfl, by omega, by omega⟩
            · exact ⟨[240 + r / 262144, 128 + r / 4096 % 64], _, _, _, _, rfl, by rw [q, q2]; rfl, by omega, by omega⟩
          · exact ⟨[240 + r / 262144], _, _, _, _, rfl, by rw [q]; rfl, by omega, by omega⟩
        · exact ⟨[], _, _, _, _, rfl, rfl, by omega, by omega⟩
theorem less_enc : ∀ (al bl : List Nat), (∀ r ∈ al, Sc r) → (∀ r ∈ bl, Sc r) → Op.bytesLess (al.flatMap encL) (bl.flatMap encL) = ordL al bl
  | [], [], _, _ => by simp [ordL, Op.bytesLess]
  | [], b :: bl, _, _ => by
    have hl := encL_len b
    rw [List.flatMap_cons]
    cases he : encL b with
    | nil => rw [he] at hl; simp at hl
    | cons c r => simp [ordL, Op.bytesLess]
  | a :: al, [], _, _ => by
    have hl := encL_len a
    rw [List.flatMap_cons]
    cases he : encL a with
    | nil => rw [he] at hl; simp at hl
    | cons c r => simp [ordL, Op.bytesLess]
  | a :: al, b :: bl, ha, hb => by
    have ih := less_enc al bl (fun x hx => ha x (by simp [hx])) (fun x hx => hb x (by simp [hx]))
    rw [List.flatMap_cons, List.flatMap_cons]
    by_cases q : a = b
    · subst q
      rw [less_pre, ih]
      simp [ordL]
    · rcases Nat.lt_or_gt_of_ne q with h | h
      · have := (less_dif (dif_enc a b (hb b (by simp)) h) (al.flatMap encL) (bl.flatMap encL)).1
        simp only [ordL, if_neg q, decide_eq_true h]
        exact this
      · have := (less_dif (dif_enc b a (ha a (by simp)) h) (bl.flatMap encL) (al.flatMap encL)).2
        simp only [ordL, if_neg q, decide_eq_false (show ¬ a < b by omega)]
        exact this
/-- the order of two valid texts -/
theorem less_valid (s t : List UInt8) (hs : (pAll s 0).2.2 = 0) (ht : (pAll t 0).2.2 = 0) : Op.bytesLess s t = ordL (pts s) (pts t) := by
  have h := valid_enc _ s (Nat.le_refl _) hs
  have h2 := valid_enc _ t (Nat.le_refl _) ht
  rw [← less_enc _ _ h.1 h2.1, ← h.2, ← h2.2]
/-- the order, from the first place on at which they differ -/
theorem ord_at : ∀ (k : Nat) (al bl : List Nat), al.take k = bl.take k → k ≤ al.length → k ≤ bl.length → ordL al bl = ordL (al.drop k) (bl.drop k)
  | 0, _, _, _, _, _ => rfl
  | k + 1, [], _, _, h, _ => by simp at h
  | k + 1, _ :: _, [], _, _, h => by simp at h
  | k + 1, a :: al, b :: bl, h, h1, h2 => by
    simp only [List.take_succ_cons, List.cons.injEq] at h
    have := ord_at k al bl h.2 (by simpa using h1) (by simpa using h2)
    simp only [List.drop_succ_cons, ordL, if_pos h.1]
    exact this
theorem ord_end (k : Nat) (al bl : List Nat) (h : al.take k = bl.take k) (h1 : k ≤ al.length) (h2 : k ≤ bl.length) (he : k = al.length ∨ k = bl.length) : ordL al bl = decide (al.length < bl.length) := by
  rw [ord_at k al bl h h1 h2]
  by_cases q : k = al.length
  · rw [List.drop_of_length_le (by omega)]
    cases hb : bl.drop k with
    | nil => have := congrArg List.length hb; rw [List.length_drop] at this; simp at this; simp [ordL]; omega
    | cons c r => have := congrArg List.length hb; rw [List.length_drop] at this; simp at this; simp [ordL]; omega
  · rw [List.drop_of_length_le (l := bl) (by omega)]
    cases hb : al.drop k with
    | nil => have := congrArg List.length hb; rw [List.length_drop] at this; simp at this; omega
    | cons c r => simp [ordL]; omega
theorem ord_mid (k : Nat) (al bl : List Nat) (h : al.take k = bl.take k) (h1 : k < al.length) (h2 : k < bl.length) (he : al[k] ≠ bl[k]) : ordL al bl = decide (al[k] < bl[k]) := by
  rw [ord_at k al bl h (by omega) (by omega), List.drop_eq_getElem_cons h1, List.drop_eq_getElem_cons h2, ordL, if_neg he]
end Go.Proofs.Ytefncnmahimgpaa
