/- Rows of elements of k cells each: how they lie, a slice of the call's own, sorting. -/
import Derived.Test.YtblidphaolgilaaRow
import Derived.Test.YtblidphaolgilaaIdB
import Derived.WalkKit
import Derived.Deep.MidRow
import Derived.RangeFuncBound
import Derived.RangeFuncNested
import Derived.Maps.AppendAt
import Derived.Shelf.SlSortCmp.NoneTotal
import Derived.Sort.OwnSortedInts
namespace Go.Proofs.Ytblidphaolgilaa
open Go.RowKit Go.Shelf Go.Lib Go.Sort

section
variable {α : Type} (enc : α → List Value) (k : Nat)
/-- the cells of a row -/
def rcs (l : List α) : List Value := l.flatMap enc
/-- they lie from an address on, in blocks below B -/
def RowsAt (B : Nat) (a : Option Addr) (l : List α) (W : World) : Prop := ∀ i (h : i < l.length), ∃ g o, a = some ⟨g, o, none⟩ ∧ g < B ∧ W.rangeAt g (o + i * k) (enc l[i])
end
section
variable {α : Type} {enc : α → List Value} {k : Nat}
theorem rcs_nil : rcs enc [] = [] := rfl
theorem rcs_app (l m : List α) : rcs enc (l ++ m) = rcs enc l ++ rcs enc m := by simp [rcs]
theorem rcs_snoc (l : List α) (x : α) : rcs enc (l ++ [x]) = rcs enc l ++ enc x := by simp [rcs]
theorem rcs_len (hk : ∀ x, (enc x).length = k) : ∀ l : List α, (rcs enc l).length = l.length * k
  | [] => by simp [rcs]
  | a :: l => by
    have := rcs_len hk l
    unfold rcs at *
    rw [List.flatMap_cons, List.length_append, this, hk, List.length_cons, Nat.succ_mul]; omega
theorem rcs_at (hk : ∀ x, (enc x).length = k) : ∀ (l : List α) (i j : Nat) (h : i < l.length), j < k → (rcs enc l)[i * k + j]? = (enc l[i])[j]?
  | [], _, _, h, _ => by simp at h
  | a :: l, 0, j, _, hj => by
    unfold rcs
    rw [List.flatMap_cons, Nat.zero_mul, Nat.zero_add, List.getElem?_append_left (by rw [hk]; exact hj)]
    rfl
  | a :: l, i + 1, j, h, hj => by
    have := rcs_at hk l i j (by simpa using h) hj
    unfold rcs at *
    have e : (i + 1) * k + j - k = i * k + j := by rw [Nat.succ_mul]; omega
    rw [List.flatMap_cons, List.getElem?_append_right (by rw [hk, Nat.succ_mul]; omega), hk, e, this]
    rfl
theorem rcs_one (h1 : ∀ x, ∀ v ∈ enc x, v.oneCell' = true) (l : List α) : ∀ v ∈ rcs enc l, v.oneCell' = true := by
  intro v hv
  unfold rcs at hv
  obtain ⟨x, _, hx⟩ := List.mem_flatMap.1 hv
  exact h1 x v hx
theorem RowsAt.below {B n₀ : Nat} {a : Option Addr} {l : List α} {W W' : World} (h : RowsAt enc k B a l W) (hb : Below n₀ W W') (hB : B ≤ n₀) : RowsAt enc k B a l W' := fun i hi => by
  obtain ⟨g, o, e, hg, hc⟩ := h i hi
  exact ⟨g, o, e, hg, rangeAt_below hc hb (Nat.lt_of_lt_of_le hg hB)⟩
theorem RowsAt.mono {B B' : Nat} {a : Option Addr} {l : List α} {W : World} (h : RowsAt enc k B a l W) (hB : B ≤ B') : RowsAt enc k B' a l W := fun i hi => by
  obtain ⟨g, o, e, hg, hc⟩ := h i hi
  exact ⟨g, o, e, Nat.lt_of_lt_of_le hg hB, hc⟩
theorem RowsAt.at {B : Nat} {a : Option Addr} {l : List α} {W : World} (h : RowsAt enc k B a l W) {i : Nat} (hi : i < l.length) : ∃ g o, a = some ⟨g, o, none⟩ ∧ g < B ∧ W.rangeAt g (o + i * k) (enc l[i]) := h i hi
theorem RowsAt.take {B : Nat} {a : Option Addr} {l : List α} {W : World} (h : RowsAt enc k B a l W) (n : Nat) : RowsAt enc k B a (l.take n) W := fun i hi => by
  rw [List.length_take] at hi
  obtain ⟨g, o, e, hg, hc⟩ := h i (by omega)
  exact ⟨g, o, e, hg, by rw [List.getElem_take]; exact hc⟩
theorem RowsAt.drop {B g o : Nat} {l : List α} {W : World} (h : RowsAt enc k B (some ⟨g, o, none⟩) l W) (n : Nat) : RowsAt enc k B (some ⟨g, o + n * k, none⟩) (l.drop n) W := fun i hi => by
  rw [List.length_drop] at hi
  obtain ⟨g', o', e, hg, hc⟩ := h.at (i := n + i) (by omega)
  cases e
  refine ⟨g, o + n * k, rfl, hg, ?_⟩
  rw [List.getElem_drop, show o + n * k + i * k = o + (n + i) * k by rw [Nat.add_mul]; omega]
  exact hc
theorem rows_of_owns (hk : ∀ x, (enc x).length = k) (hk0 : 0 < k) {w : World} {B n : Nat} {e : TypeId} {v : Value} {l : List α} (h : w.ownsRow B e k v n (rcs enc l)) :
    l.length = n ∧ ∃ ao cap, v = .slice ao n cap ∧ (ao = none → n = 0 ∧ cap = 0) ∧ n ≤ cap ∧ cap ≤ maxLen ∧ RowsAt enc k w.heap.size ao l w := by
  have h' := h
  have hln : l.length = n := by have h1 := h.1; rw [rcs_len hk] at h1; exact Nat.eq_of_mul_eq_mul_right hk0 h1
  refine ⟨hln, ?_⟩
  obtain ⟨hl, ⟨rfl, rfl⟩ | ⟨g, cap, cur, rfl, h2, h3, h4, h5, h6, h7⟩⟩ := h
  · exact ⟨none, 0, rfl, fun _ => ⟨rfl, rfl⟩, Nat.le_refl _, Nat.zero_le _, fun j hj => absurd hj (by omega)⟩
  · refine ⟨_, cap, rfl, (fun h => by cases h), h4, h5, fun i hi => ⟨g, 0, rfl, (Array.getElem?_eq_some_iff.1 h3).1, fun j v hv => ?_⟩⟩
    have hj : j < k := by have := (List.getElem?_eq_some_iff.1 hv).1; rwa [hk] at this
    have hlt : i * k + j < n * k := by
      have : (i + 1) * k ≤ n * k := Nat.mul_le_mul_right k (by omega)
      rw [Nat.succ_mul] at this; omega
    rw [Nat.zero_add, h'.cellAt (i * k + j) hlt, rcs_at hk l i j hi hj]
    exact hv
theorem rows_of_owns_hi (hk : ∀ x, (enc x).length = k) (hk0 : 0 < k) {w : World} {B n c : Nat} {e : TypeId} {ao : Option Addr} {l : List α} (h : w.ownsRow B e k (.slice ao n c) n (rcs enc l)) :
    ∀ i (h : i < l.length), ∃ g o, ao = some ⟨g, o, none⟩ ∧ B ≤ g ∧ g < w.heap.size ∧ w.rangeAt g (o + i * k) (enc l[i]) := by
  obtain ⟨_, a', c', hv, _, _, _, hr⟩ := rows_of_owns hk hk0 h
  cases hv
  intro i hi
  obtain ⟨g, o, rfl, hg, hc⟩ := hr i hi
  exact ⟨g, o, rfl, (h.lt g rfl).1, hg, hc⟩
theorem rows_news (hk : ∀ x, (enc x).length = k) (hk0 : 0 < k) {B : Nat} {ao : Option Addr} {l : List α} {W : World} (h : RowsAt enc k B ao l W) : ∀ ad, ao = some ad → ∀ j u, (rcs enc l)[j]? = some u → W.cell? (ad.add j) = some u := by
  intro ad had j u hu
  have hj : j < l.length * k := by have := (List.getElem?_eq_some_iff.1 hu).1; rwa [rcs_len hk] at this
  have hi : j / k < l.length := Nat.div_lt_of_lt_mul (by rw [Nat.mul_comm]; exact hj)
  obtain ⟨g, o, e, _, hr⟩ := h.at hi
  rw [had] at e
  cases e
  have hm : j / k * k + j % k = j := by rw [Nat.mul_comm]; exact Nat.div_add_mod j k
  have h2 := rcs_at hk l (j / k) (j % k) hi (Nat.mod_lt _ hk0)
  rw [hm, hu] at h2
  have h3 := hr (j % k) u h2.symm
  rw [Addr.add_mid]
  rw [show o + j / k * k + j % k = o + j by omega] at h3
  exact h3
theorem rows_relen (hk : ∀ x, (enc x).length = k) (hk0 : 0 < k) {w : World} {base : Nat} {e : TypeId} {v : Value} {n : Nat} {l : List α} (h : w.ownsRow base e k v n (rcs enc l)) : w.ownsRow base e k v l.length (rcs enc l) := by
  have := (rows_of_owns hk hk0 h).1
  rw [this]; exact h

/-! ### sorting -/
variable [Inhabited α]
theorem flatK_rcs (hk : ∀ x, (enc x).length = k) (hk0 : 0 < k) (l : List α) : (flatK enc k l.toArray).toList = rcs enc l := by
  apply List.ext_getElem?
  intro t
  by_cases ht : t < l.length * k
  · have hd : t / k < l.length := Nat.div_lt_of_lt_mul (by rw [Nat.mul_comm]; exact ht)
    have hm : t / k * k + t % k = t := by rw [Nat.mul_comm]; exact Nat.div_add_mod t k
    have hmk : t % k < k := Nat.mod_lt _ hk0
    have h1 := rcs_at hk l (t / k) (t % k) hd hmk
    rw [hm] at h1
    have h2 := get_flatK enc k l.toArray t (by simpa using ht)
    rw [h1, Array.getElem?_toList, Array.getElem?_eq_getElem (by simp; omega)]
    have h3 : (flatK enc k l.toArray)[t]! = (flatK enc k l.toArray)[t]'(by simp; omega) := getElem!_pos _ _ _
    rw [← h3, h2]
    have h4 : l.toArray[t / k]! = l[t / k]'hd := by rw [getElem!_pos l.toArray (t / k) (by simpa using hd)]; simp
    rw [h4, getElem!_pos _ _ (by rw [hk]; exact hmk), List.getElem?_eq_getElem]
  · rw [List.getElem?_eq_none (l := rcs enc l) (by rw [rcs_len hk]; omega), List.getElem?_eq_none (by simp; omega)]
theorem holds_of_ownsK (hk : ∀ x, (enc x).length = k) (hk0 : 0 < k) {w : World} {base g cap n : Nat} {e : TypeId} {l : List α} (h : w.ownsRow base e k (.slice (some ⟨g, 0, none⟩) n cap) n (rcs enc l)) : HoldsK enc k w g 0 l.toArray := by
  have hln : l.length = n := (rows_of_owns hk hk0 h).1
  rcases h.2 with ⟨h0, _⟩ | ⟨g', cap', cur, hv, hb, hg, _⟩
  · cases h0
  cases hv
  intro j hj
  rw [size_flatK] at hj
  simp only [List.size_toArray] at hj
  have hc := h.cellAt j (by rw [← hln]; exact hj)
  refine ⟨?_, frozen_of_row _ _ _ _ _ hg⟩
  rw [Nat.zero_add, hc, ← flatK_rcs hk hk0, Array.getElem?_toList, Array.getElem?_eq_getElem (by simpa using hj), getElem!_pos _ _ (by simpa using hj)]
  rfl
theorem heap_sortedRK {w : World} {g n : Nat} {os : Array Obj} {cur : Array Value} {e : TypeId} {fr : Nat × Nat} (d : Array α) (hb : w.heap[g]? = some (.cells cur e fr)) :
    (sortWorldK enc k w g 0 n d os).heap[g]? = some (.cells (putCells id 0 (flatK enc k d) cur) e fr) := by
  have hg : g < w.heap.size := (Array.getElem?_eq_some_iff.1 hb).1
  unfold sortWorldK putRowK
  rw [heap_grow_old _ _ (by simpa using hg)]
  simp [putRow, mapBlock, Sort.ahead, Array.getElem?_modify, hb, onCells]
theorem grownBy_sortedRK {w : World} {g n : Nat} {os : Array Obj} (d : Array α) : w.grownBy (sortWorldK enc k w g 0 n d os) (some g) := by
  unfold sortWorldK putRowK
  refine ⟨rfl, rfl, rfl, by simp, fun k hk hne => ?_⟩
  rw [heap_grow_old _ _ (by simpa using hk)]
  have : g ≠ k := fun e => hne (by rw [e])
  simp [putRow, mapBlock, Sort.ahead, Array.getElem?_modify, this]
theorem take_putCellsRK (cur : Array Value) (ts : Array Value) (h : ts.size ≤ cur.size) : (putCells id 0 ts cur).toList.take ts.size = ts.toList := by
  apply List.ext_getElem?
  intro j
  by_cases hj : j < ts.size
  · rw [List.getElem?_take_of_lt hj, Array.getElem?_toList]
    simp [putCells, hj, show j < cur.size by omega]
  · rw [List.getElem?_take_eq_none (by omega), List.getElem?_eq_none (by simp; omega)]
theorem owns_sortedRK (hk : ∀ x, (enc x).length = k) (hk0 : 0 < k) {w : World} {base g cap n m : Nat} {e : TypeId} {os : Array Obj} {l l' : List α} (hl : l'.length = l.length) (h : w.ownsRow base e k (.slice (some ⟨g, 0, none⟩) n cap) n (rcs enc l)) :
    (sortWorldK enc k w g 0 m l'.toArray os).ownsRow base e k (.slice (some ⟨g, 0, none⟩) n cap) n (rcs enc l') := by
  have hln : l.length = n := (rows_of_owns hk hk0 h).1
  rcases h.2 with ⟨h0, _⟩ | ⟨g', cap', cur, hv, hb, hg, h4, h5, h6, h7⟩
  · cases h0
  cases hv
  refine ⟨by rw [rcs_len hk, hl, hln], .inr ⟨g, cap, _, rfl, hb, heap_sortedRK _ hg, h4, h5, by simp [putCells, h6], ?_⟩⟩
  have hsz : (flatK enc k l'.toArray).size = n * k := by rw [size_flatK]; simp [hl, hln]
  rw [← hsz, take_putCellsRK cur _ (by rw [hsz, h6]; exact Nat.mul_le_mul_right _ h4)]
  exact flatK_rcs hk hk0 l'
/-- the sorted list -/
def srt (cf : α → α → Int) (l : List α) : List α := l.mergeSort fun x y => !(ltOf cf) y x
omit [Inhabited α] in
theorem srt_len (cf : α → α → Int) (l : List α) : (srt cf l).length = l.length := by unfold srt; exact List.length_mergeSort _
omit [Inhabited α] in
theorem srt_perm (cf : α → α → Int) (l : List α) : (srt cf l).Perm l := List.mergeSort_perm _ _
omit [Inhabited α] in
/-- a list that stands in the order already, and is a permutation, is the sorted one -/
theorem srt_eq (cf : α → α → Int) (hO : SWO (ltOf cf)) (hT : ∀ x y, ltOf cf x y = false → ltOf cf y x = false → x = y) {l m : List α} (hp : l.Perm m) (hs : m.Pairwise fun a b => ltOf cf b a = false) : srt cf l = m := by
  have h1 : (srt cf l).Pairwise fun a b => ltOf cf b a = false := by
    have h := List.pairwise_mergeSort (le := fun x y : α => !(ltOf cf) y x) (fun a b c h1 h2 => by
      simp only [Bool.not_eq_true'] at h1 h2 ⊢
      exact hO.ntrans c b a h2 h1) (fun a b => by
      cases h1 : ltOf cf b a
      · rfl
      · cases h2 : ltOf cf a b
        · simp
        · have := hO.trans b a b h1 h2; rw [hO.irrefl] at this; cases this) l
    exact h.imp (fun {a b} h => by simpa using h)
  exact List.Perm.eq_of_pairwise (le := fun a b => ltOf cf b a = false) (fun a b _ _ h1 h2 => hT _ _ h2 h1) h1 hs ((srt_perm cf l).trans hp)
end
end Go.Proofs.Ytblidphaolgilaa
