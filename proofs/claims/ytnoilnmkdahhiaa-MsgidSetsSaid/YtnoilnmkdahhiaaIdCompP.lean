/- Plain laws for slices.Compact at identities: neighbours that are equal; stores of whole identities into a row of the call's own. -/
import Derived.Test.YtnoilnmkdahhiaaIds
import Derived.Test.YtnoilnmkdahhiaaIdTo
import Derived.Lib.SliceRun
import Derived.Laws.IdiomCopy
import Derived.Laws.OwnMore
import Derived.Lib.Hide
namespace Go.Proofs.Ytnoilnmkdahhiaa
open Go.RowKit

def dedGo (p : I32) : List I32 → List I32
  | [] => []
  | b :: r => if b = p then dedGo p r else b :: dedGo b r
/-- the list without elements that are equal to the one before -/
def ded : List I32 → List I32
  | [] => []
  | a :: r => a :: dedGo a r
theorem dedGo_snoc : ∀ (r : List I32) (p x : I32), dedGo p (r ++ [x]) = if (p :: r).getLast (by simp) = x then dedGo p r else dedGo p r ++ [x]
  | [], p, x => by
    by_cases h : x = p
    · subst h; simp [dedGo]
    · simp [dedGo, h, Ne.symm h]
  | b :: r, p, x => by
    have hl : (p :: b :: r).getLast (by simp) = (b :: r).getLast (by simp) := by rw [List.getLast_cons (by simp)]
    rw [hl]
    simp only [List.cons_append, dedGo]
    by_cases h : b = p
    · subst h
      rw [if_pos rfl, if_pos rfl]
      exact dedGo_snoc r b x
    · rw [if_neg h, if_neg h, dedGo_snoc r b x]
      by_cases q : (b :: r).getLast (by simp) = x
      · rw [if_pos q, if_pos q]
      · rw [if_neg q, if_neg q]; rfl
theorem ded_snoc (l : List I32) (h : l ≠ []) (x : I32) : ded (l ++ [x]) = if l.getLast h = x then ded l else ded l ++ [x] := by
  cases l with
  | nil => exact absurd rfl h
  | cons a r =>
    simp only [List.cons_append, ded]
    rw [dedGo_snoc]
    by_cases q : (a :: r).getLast (by simp) = x
    · rw [if_pos q, if_pos q]
    · rw [if_neg q, if_neg q]
theorem ded_take (l : List I32) (j : Nat) (h : j + 1 < l.length) : ded (l.take (j + 2)) = if l[j] = l[j + 1] then ded (l.take (j + 1)) else ded (l.take (j + 1)) ++ [l[j + 1]] := by
  rw [List.take_succ_eq_append_getElem h]
  have hne : l.take (j + 1) ≠ [] := by
    intro h'
    have := congrArg List.length h'
    rw [List.length_take] at this
    simp only [List.length_nil] at this
    omega
  rw [ded_snoc _ hne]
  have : (l.take (j + 1)).getLast hne = l[j] := by
    rw [List.getLast_eq_getElem]
    simp only [List.length_take, List.getElem_take]
    congr 1
    omega
  rw [this]
theorem dedGo_le : ∀ (r : List I32) (p : I32), (dedGo p r).length ≤ r.length
  | [], _ => by simp [dedGo]
  | b :: r, p => by
    have h1 := dedGo_le r p
    have h2 := dedGo_le r b
    simp only [dedGo]
    split <;> simp <;> omega
theorem ded_le (l : List I32) : (ded l).length ≤ l.length := by
  cases l with
  | nil => simp [ded]
  | cons a r => have := dedGo_le r a; simp [ded]; omega
theorem ded_short (l : List I32) (h : l.length < 2) : ded l = l := by
  match l, h with
  | [], _ => rfl
  | [a], _ => rfl
theorem dedGo_mem : ∀ (r : List I32) (p x : I32), x ∈ p :: dedGo p r ↔ x ∈ p :: r
  | [], _, _ => by simp [dedGo]
  | b :: r, p, x => by
    simp only [dedGo]
    by_cases h : b = p
    · subst h; rw [if_pos rfl, dedGo_mem r b x]; simp
    · rw [if_neg h]
      have := dedGo_mem r b x
      simp only [List.mem_cons] at this ⊢
      rw [this]
theorem ded_mem (l : List I32) (x : I32) : x ∈ ded l ↔ x ∈ l := by
  cases l with
  | nil => rfl
  | cons a r => exact dedGo_mem r a x

/-- stores one behind the other into a list -/
def setL (xs : List Value) : Nat → List Value → List Value
  | _, [] => xs
  | o, v :: r => setL (xs.set o v) (o + 1) r
theorem setL_len : ∀ (vs xs : List Value) (o : Nat), (setL xs o vs).length = xs.length
  | [], _, _ => rfl
  | v :: r, xs, o => by rw [setL, setL_len r]; simp
theorem setL_get : ∀ (vs xs : List Value) (o t : Nat), o + vs.length ≤ xs.length → (setL xs o vs)[t]? = if o ≤ t ∧ t < o + vs.length then vs[t - o]? else xs[t]?
  | [], xs, o, t, _ => by simp only [setL, List.length_nil]; rw [if_neg (by omega)]
  | v :: r, xs, o, t, h => by
    rw [setL, setL_get r _ _ _ (by simp at h ⊢; omega)]
    simp only [List.length_cons] at h ⊢
    by_cases h1 : o + 1 ≤ t ∧ t < o + 1 + r.length
    · rw [if_pos h1, if_pos (by omega), show t - o = (t - (o + 1)) + 1 by omega]; rfl
    · rw [if_neg h1]
      by_cases h2 : t = o
      · subst h2
        rw [if_pos (by omega), List.getElem?_set_self (by omega)]
        simp
      · rw [if_neg (by omega), List.getElem?_set_ne (Ne.symm h2)]
theorem owns_setCells {base g n cap size : Nat} {e : TypeId} : ∀ (vs xs : List Value) (o : Nat) (w : World), w.ownsRow base e size (.slice (some ⟨g, 0, none⟩) n cap) n xs →
    (w.setCells g o vs).ownsRow base e size (.slice (some ⟨g, 0, none⟩) n cap) n (setL xs o vs) ∧ w.grownBy (w.setCells g o vs) (some g)
  | [], _, _, w, h => ⟨h, World.grownBy.refl _ _⟩
  | v :: r, xs, o, w, h => by
    have h1 := h.stored o v
    have h2 := owns_setCells r _ (o + 1) _ h1.1
    exact ⟨h2.1, ⟨h2.2.os.trans h1.2.os, h2.2.tape.trans h1.2.tape, h2.2.output.trans h1.2.output, Nat.le_trans h1.2.size h2.2.size, fun k hk hr => (h2.2.block k (Nat.lt_of_lt_of_le hk h1.2.size) hr).trans (h1.2.block k hk hr)⟩⟩
theorem setL_id (l : List I32) (k : Nat) (hk : k < l.length) (x : I32) : setL (idcs l) (k * 32) (encI x) = idcs (l.set k x) := by
  apply List.ext_getElem?
  intro t
  rw [setL_get _ _ _ _ (by rw [encI_len, idcs_len]; omega), encI_len]
  by_cases ht : t < l.length * 32
  · have e1 : t / 32 * 32 + t % 32 = t := by omega
    have h1 := idcs_at (l.set k x) (t / 32) (t % 32) (by simp; omega) (by omega)
    have h2 := idcs_at l (t / 32) (t % 32) (by omega) (by omega)
    rw [e1] at h1 h2
    rw [h1, h2]
    by_cases hq : t / 32 = k
    · subst hq
      rw [if_pos (by omega)]
      have : (l.set (t / 32) x)[t / 32]'(by simp; omega) = x := by simp
      rw [this]
      congr 1; omega
    · rw [if_neg (by omega), List.getElem_set_ne (Ne.symm hq)]
  · rw [if_neg (by omega), List.getElem?_eq_none (by rw [idcs_len]; omega), List.getElem?_eq_none (by rw [idcs_len]; simp; omega)]
theorem owns_take {w : World} {base g n cap k : Nat} {e : TypeId} {l : List I32} (h : w.ownsRow base e 32 (.slice (some ⟨g, 0, none⟩) n cap) n (idcs l)) (hk : k ≤ n) :
    w.ownsRow base e 32 (.slice (some ⟨g, 0, none⟩) k cap) k (idcs (l.take k)) := by
  have hln : l.length = n := by have h1 := h.1; rw [idcs_len] at h1; omega
  rcases h.2 with ⟨h0, _⟩ | ⟨g', cap', cur, hv, hb, hg, h4, h5, h6, h7⟩
  · cases h0
  cases hv
  refine ⟨by rw [idcs_len, List.length_take]; congr 1; omega, .inr ⟨g, cap, cur, rfl, hb, hg, by omega, h5, h6, ?_⟩⟩
  have e1 : cur.toList.take (k * 32) = (cur.toList.take (n * 32)).take (k * 32) := by rw [List.take_take]; congr 1; omega
  rw [e1, h7]
  have e2 : idcs l = idcs (l.take k) ++ idcs (l.drop k) := by rw [← idcs_app, List.take_append_drop]
  have e3 : (idcs (l.take k)).length = k * 32 := by rw [idcs_len, List.length_take]; congr 1; omega
  rw [e2, List.take_left' e3]
theorem owns_takeR {w : World} {base g n cap k : Nat} {e : TypeId} {xs : List Value} (h : w.ownsRow base e 32 (.slice (some ⟨g, 0, none⟩) n cap) n xs) (hk : k ≤ n) :
    w.ownsRow base e 32 (.slice (some ⟨g, 0, none⟩) k cap) k (xs.take (k * 32)) := by
  have hl := h.1
  rcases h.2 with ⟨h0, _⟩ | ⟨g', cap', cur, hv, hb, hg, h4, h5, h6, h7⟩
  · cases h0
  cases hv
  refine ⟨by rw [List.length_take]; omega, .inr ⟨g, cap, cur, rfl, hb, hg, by omega, h5, h6, ?_⟩⟩
  rw [← h7, List.take_take]
  congr 1
  omega
theorem idcs_take (l : List I32) (k : Nat) (hk : k ≤ l.length) : (idcs l).take (k * 32) = idcs (l.take k) := by
  have e2 : idcs l = idcs (l.take k) ++ idcs (l.drop k) := by rw [← idcs_app, List.take_append_drop]
  have e3 : (idcs (l.take k)).length = k * 32 := by rw [idcs_len, List.length_take]; congr 1; omega
  rw [e2, List.take_left' e3]
theorem setL_take (xs vs : List Value) (o : Nat) (h : o + vs.length ≤ xs.length) : (setL xs o vs).take o = xs.take o := by
  apply List.ext_getElem?
  intro t
  by_cases ht : t < o
  · rw [List.getElem?_take_of_lt ht, List.getElem?_take_of_lt ht, setL_get _ _ _ _ h, if_neg (by omega)]
  · rw [List.getElem?_take_eq_none (by omega), List.getElem?_take_eq_none (by omega)]
/-- clear(s) of a slice of identities -/
theorem run_clear_ids {P : Program} (w : World) (t e ty : TypeId) (z : Value) (ht : P.underlying t = some (.slice e)) (hv : ∀ w, (zeroValue e).run P w = .ok z w) (hz : z.cells = (encI default).toArray) (b o n c : Nat) (hn : 0 < n)
    (hc : ∀ j, j < n * 32 → (w.cell? ⟨b, o + j, none⟩).isSome = true) (hf : ∀ j, j < n * 32 → w.frozen? ⟨b, o + j, none⟩ = false) :
    ∃ vs, vs.length = n * 32 ∧ (Builtin.clear_ #[t] ty #[.slice (some ⟨b, o, none⟩) n c]).run P w = .ok (.tuple #[]) (w.setCells b o vs) := by
  have hone : ∀ v ∈ (Builtin.zeroCells z.cells n).toList, v.oneCell' = true := by
    intro v hv'
    rw [hz] at hv'
    simp [Builtin.zeroCells] at hv'
    obtain ⟨k, _, rfl⟩ := hv'
    have hk : k % 32 < (encI default).length := by rw [encI_len]; omega
    refine encI_one default _ ?_
    have : (encI default)[k % (encI default).length]?.getD default = (encI default)[k % 32]'hk := by
      rw [encI_len, List.getElem?_eq_getElem hk]; rfl
    first
      | (rw [this]; exact List.getElem_mem _)
      | (simp only [encI_len] at *; rw [List.getElem?_eq_getElem (by rw [encI_len]; omega)]; exact List.getElem_mem _)
  have hlen : (Builtin.zeroCells z.cells n).toList.length = n * 32 := by rw [hz]; simp [Builtin.zeroCells, encI_len]
  have hst := run_storeCells_cells (P := P) b o (Builtin.zeroCells z.cells n).toList 0 w (by rw [hlen]; simpa using hc) (by rw [hlen]; simpa using hf) hone
  simp only [Nat.add_zero] at hst
  refine ⟨_, hlen, ?_⟩
  obtain ⟨m, rfl⟩ : ∃ m, n = m + 1 := ⟨n - 1, by omega⟩
  simp [Builtin.clear_, run_underlying ht, hv, hst]
end Go.Proofs.Ytnoilnmkdahhiaa
