/- Plain: a row ordered by arrival takes one more. -/
import Derived.Test.YtblidphaolgilaaHiB
namespace Go.Proofs.Ytblidphaolgilaa
open Go.RowKit Go.Maps Go.Sort
set_option linter.unusedSimpArgs false

/-- in the order of arrival -/
abbrev OA (l : List Ent) : Prop := l.Pairwise fun a b => ltOf cfA b a = false
def putA (out : List Ent) (k : Nat) (x : Ent) : List Ent := out.take k ++ [x] ++ out.drop k
theorem putA_len (out : List Ent) (k : Nat) (x : Ent) : (putA out k x).length = out.length + 1 := by
  unfold putA; simp only [List.length_append, List.length_take, List.length_drop, List.length_cons, List.length_nil]; omega
theorem putA_perm (out : List Ent) (k : Nat) (x : Ent) : (putA out k x).Perm (out ++ [x]) := by
  unfold putA
  rw [List.append_assoc]
  have h1 : (out.take k ++ ([x] ++ out.drop k)).Perm (out.take k ++ (out.drop k ++ [x])) := List.Perm.append_left _ List.perm_append_comm
  have h2 : out.take k ++ (out.drop k ++ [x]) = out ++ [x] := by rw [← List.append_assoc, List.take_append_drop]
  rw [h2] at h1
  exact h1
theorem putA_ne (out : List Ent) (k : Nat) (x : Ent) : putA out k x ≠ [] := by unfold putA; simp
theorem putA_oa {out : List Ent} {k : Nat} {x : Ent} (h : OA out) (hk : k ≤ out.length) (hge : ∀ j (hj : j < out.length), k ≤ j → x.arr.1 < out[j].arr.1) (hle : k = 0 ∨ ∃ h : k - 1 < out.length, out[k - 1].arr.1 ≤ x.arr.1)
    (hid : ∀ y ∈ out, ltOf cfE y x = true) : OA (putA out k x) := by
  have h' : OA (out.take k ++ out.drop k) := by rw [List.take_append_drop]; exact h
  obtain ⟨h1, h2, h3⟩ := List.pairwise_append.1 h'
  unfold putA
  refine List.pairwise_append.2 ⟨List.pairwise_append.2 ⟨h1, List.pairwise_singleton _ _, ?_⟩, h2, ?_⟩
  · intro y hy z hz
    rw [List.mem_singleton] at hz
    subst hz
    have hym : y ∈ out := List.mem_of_mem_take hy
    obtain ⟨j, hj, rfl⟩ := List.getElem_of_mem hy
    rw [List.length_take] at hj
    have hjo : j < out.length := by omega
    rw [List.getElem_take] at *
    have hya : out[j].arr.1 ≤ z.arr.1 := by
      rcases hle with h0 | ⟨h0, h4⟩
      · omega
      · by_cases e : j = k - 1
        · subst e; exact h4
        · have := (ltAF _ _).1 (List.pairwise_iff_getElem.1 h j (k - 1) hjo h0 (by omega))
          rcases this with h5 | ⟨h5, _⟩ <;> omega
    rw [ltAF]
    by_cases e : out[j].arr.1 < z.arr.1
    · exact .inl e
    · exact .inr ⟨by omega, ltI_asym (hid _ hym)⟩
  · intro y hy z hz
    obtain ⟨j, hj, rfl⟩ := List.getElem_of_mem hz
    rw [List.length_drop] at hj
    rw [List.getElem_drop]
    rcases List.mem_append.1 hy with hy | hy
    · have := h3 y hy _ hz
      rwa [List.getElem_drop] at this
    · rw [List.mem_singleton] at hy
      subst hy
      rw [ltAF]
      exact .inl (hge _ (by omega) (by omega))
/-- two orders by arrival of the same entries are one -/
theorem oa_uniq {l m r : List Ent} (hr : SE r) (hl : ∀ x ∈ l, x ∈ r) (h1 : OA l) (h2 : OA m) (hp : l.Perm m) : l = m := by
  refine List.Perm.eq_of_pairwise (le := fun a b => ltOf cfA b a = false) (fun a b ha hb h3 h4 => ?_) h1 h2 hp
  rw [ltAF] at h3 h4
  have e : a.id = b.id := by
    rcases h3 with h3 | ⟨h3, h3'⟩ <;> rcases h4 with h4 | ⟨h4, h4'⟩
    · omega
    · omega
    · omega
    · exact ltI_tot (a := a.id) (b := b.id) h4' h3'
  have h5 := hr.fnd (hl a ha)
  have h6 := hr.fnd (hl b (hp.mem_iff.2 hb))
  rw [e, h6] at h5
  exact (Option.some.inj h5).symm
end Go.Proofs.Ytblidphaolgilaa
