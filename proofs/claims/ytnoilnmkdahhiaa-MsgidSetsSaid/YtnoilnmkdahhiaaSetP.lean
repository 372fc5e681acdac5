/- Plain laws: sets of identities as strictly ascending lists. -/
import Derived.Test.YtnoilnmkdahhiaaIdSort
import Derived.Test.YtnoilnmkdahhiaaIdHas
namespace Go.Proofs.Ytnoilnmkdahhiaa
open Go.RowKit Go.Shelf Go.Lib Go.Sort

/-- is one before the other? -/
def ltI (a b : I32) : Bool := ltOf cfI a b
theorem ltI_irr (a : I32) : ltI a a = false := swoI.irrefl a
theorem ltI_trans {a b c : I32} (h : ltI a b = true) (k : ltI b c = true) : ltI a c = true := swoI.trans a b c h k
theorem ltI_tot {a b : I32} (h : ltI a b = false) (k : ltI b a = false) : a = b := totI a b h k
theorem ltI_asym {a b : I32} (h : ltI a b = true) : ltI b a = false := by
  cases hb : ltI b a
  · rfl
  · have := ltI_trans h hb; rw [ltI_irr] at this; cases this
/-- strictly ascending -/
def SS (l : List I32) : Prop := l.Pairwise fun a b => ltI a b = true
theorem ss_uniq : ∀ (l m : List I32), SS l → SS m → (∀ x, x ∈ l ↔ x ∈ m) → l = m
  | [], [], _, _, _ => rfl
  | [], b :: m, _, _, h => absurd ((h b).2 (by simp)) (by simp)
  | a :: l, [], _, _, h => absurd ((h a).1 (by simp)) (by simp)
  | a :: l, b :: m, hl, hm, h => by
    have hl' := List.pairwise_cons.1 hl
    have hm' := List.pairwise_cons.1 hm
    have hab : a = b := by
      have h1 : a ∈ b :: m := (h a).1 (by simp)
      have h2 : b ∈ a :: l := (h b).2 (by simp)
      rcases List.mem_cons.1 h1 with e | h1
      · exact e
      · rcases List.mem_cons.1 h2 with e | h2
        · exact e.symm
        · have p := hm'.1 a h1
          have q := hl'.1 b h2
          rw [ltI_asym p] at q; cases q
    subst hab
    congr 1
    refine ss_uniq l m hl'.2 hm'.2 (fun x => ?_)
    have hx := h x
    simp only [List.mem_cons] at hx
    constructor
    · intro hxl
      rcases hx.1 (.inr hxl) with e | h'
      · subst e; have := hl'.1 x hxl; rw [ltI_irr] at this; cases this
      · exact h'
    · intro hxm
      rcases hx.2 (.inr hxm) with e | h'
      · subst e; have := hm'.1 x hxm; rw [ltI_irr] at this; cases this
      · exact h'
/-- ascending -/
def SW (l : List I32) : Prop := l.Pairwise fun a b => ltI b a = false
theorem sortI_sw (l : List I32) : SW (sortI l) := by
  have h := List.pairwise_mergeSort (le := fun x y : I32 => !(ltOf cfI) y x) (fun a b c h1 h2 => by
    simp only [Bool.not_eq_true'] at h1 h2 ⊢
    exact swoI.ntrans c b a h2 h1) (fun a b => by
    cases h1 : ltOf cfI b a
    · rfl
    · have := ltI_asym (a := b) (b := a) h1
      unfold ltI at this
      simp [this]) l
  exact h.imp (fun {a b} h => by simpa [ltI] using h)
theorem dedGo_ss : ∀ (r : List I32) (p : I32), SW (p :: r) → SS (p :: dedGo p r)
  | [], p, _ => by simp [dedGo, SS]
  | b :: r, p, h => by
    have h1 := List.pairwise_cons.1 h
    have h2 := List.pairwise_cons.1 h1.2
    by_cases e : b = p
    · subst e
      simp only [dedGo, if_true]
      exact dedGo_ss r b h1.2
    · have ih := dedGo_ss r b h1.2
      simp only [dedGo, if_neg e]
      refine List.pairwise_cons.2 ⟨fun x hx => ?_, ih⟩
      have hpb : ltI p b = true := by
        cases hpb : ltI p b
        · exact absurd (ltI_tot (h1.1 b (by simp)) hpb) e
        · rfl
      rcases List.mem_cons.1 hx with rfl | hx
      · exact hpb
      · exact ltI_trans hpb ((List.pairwise_cons.1 ih).1 x hx)
theorem setI_ss (l : List I32) : SS (setI l) := by
  unfold setI
  have h := sortI_sw l
  cases hl : sortI l with
  | nil => simp [ded, SS]
  | cons a r => rw [hl] at h; exact dedGo_ss r a h
/-- what is strictly ascending and has the same elements is the set -/
theorem setI_eq (l m : List I32) (hs : SS m) (h : ∀ x, x ∈ m ↔ x ∈ l) : m = setI l :=
  ss_uniq m (setI l) hs (setI_ss l) (fun x => by rw [h, setI_mem])
/-- put into an ascending list -/
def insI (x : I32) : List I32 → List I32
  | [] => [x]
  | a :: l => if ltI a x = true then a :: insI x l else x :: a :: l
theorem insI_mem (x : I32) : ∀ (l : List I32) (y : I32), y ∈ insI x l ↔ y = x ∨ y ∈ l
  | [], y => by simp [insI]
  | a :: l, y => by
    simp only [insI]
    split
    · simp only [List.mem_cons, insI_mem x l y]
      constructor
      · rintro (h | h | h) <;> simp [h]
      · rintro (h | h | h) <;> simp [h]
    · simp
theorem insI_ss (x : I32) : ∀ (l : List I32), SS l → x ∉ l → SS (insI x l)
  | [], _, _ => by simp [insI, SS]
  | a :: l, h, hx => by
    have h1 := List.pairwise_cons.1 h
    simp only [insI]
    split
    · rename_i hax
      refine List.pairwise_cons.2 ⟨fun y hy => ?_, insI_ss x l h1.2 (fun h' => hx (by simp [h']))⟩
      rcases (insI_mem x l y).1 hy with rfl | hy
      · exact hax
      · exact h1.1 y hy
    · rename_i hax
      have hxa : ltI x a = true := by
        cases hxa : ltI x a
        · exact absurd (ltI_tot hxa (by simpa using hax)) (fun e => hx (by simp [e]))
        · rfl
      refine List.pairwise_cons.2 ⟨fun y hy => ?_, h⟩
      rcases List.mem_cons.1 hy with rfl | hy
      · exact hxa
      · exact ltI_trans hxa (h1.1 y hy)
/-- the reference's set -/
def refSet (l : List I32) : List I32 := l.foldl (fun out x => if x ∈ out then out else insI x out) []
theorem refSet_inv : ∀ (l out : List I32), SS out → SS (l.foldl (fun out x => if x ∈ out then out else insI x out) out) ∧ ∀ y, y ∈ l.foldl (fun out x => if x ∈ out then out else insI x out) out ↔ y ∈ out ∨ y ∈ l
  | [], out, h => ⟨h, fun y => by simp⟩
  | x :: l, out, h => by
    simp only [List.foldl_cons]
    by_cases hx : x ∈ out
    · rw [if_pos hx]
      have ih := refSet_inv l out h
      refine ⟨ih.1, fun y => ?_⟩
      rw [ih.2 y]
      simp only [List.mem_cons]
      constructor
      · rintro (h | h) <;> simp [h]
      · rintro (h | rfl | h)
        · exact .inl h
        · exact .inl hx
        · exact .inr h
    · rw [if_neg hx]
      have ih := refSet_inv l (insI x out) (insI_ss x out h hx)
      refine ⟨ih.1, fun y => ?_⟩
      rw [ih.2 y, insI_mem]
      simp only [List.mem_cons]
      constructor
      · rintro ((h | h) | h) <;> simp [h]
      · rintro (h | h | h) <;> simp [h]
theorem refSet_eq (l : List I32) : refSet l = setI l := by
  have h := refSet_inv l [] (by simp [SS])
  exact setI_eq l _ h.1 (fun x => by rw [refSet, h.2]; simp)
theorem refSet_snoc (l : List I32) (x : I32) : refSet (l ++ [x]) = if x ∈ refSet l then refSet l else insI x (refSet l) := by
  unfold refSet; rw [List.foldl_append]; rfl

/-- what merge keeps of two ascending lists -/
def mergeI (keep : Bool → Bool → Bool) : Nat → List I32 → List I32 → List I32
  | 0, _, _ => []
  | _ + 1, [], [] => []
  | n + 1, [], b :: m => if keep false true then b :: mergeI keep n [] m else mergeI keep n [] m
  | n + 1, a :: l, [] => if keep true false then a :: mergeI keep n l [] else mergeI keep n l []
  | n + 1, a :: l, b :: m =>
    if ltI a b = true then (if keep true false then a :: mergeI keep n l (b :: m) else mergeI keep n l (b :: m))
    else if ltI b a = true then (if keep false true then b :: mergeI keep n (a :: l) m else mergeI keep n (a :: l) m)
    else (if keep true true then b :: mergeI keep n l m else mergeI keep n l m)

theorem ss_head {a : I32} {l : List I32} (h : SS (a :: l)) : a ∉ l := fun hm => by
  have := (List.pairwise_cons.1 h).1 a hm
  rw [ltI_irr] at this; cases this
theorem ss_lt {a b : I32} {m : List I32} (h : SS (b :: m)) (hab : ltI a b = true) : ∀ y ∈ b :: m, ltI a y = true := fun y hy => by
  rcases List.mem_cons.1 hy with rfl | hy
  · exact hab
  · exact ltI_trans hab ((List.pairwise_cons.1 h).1 y hy)
theorem lt_notin {a : I32} {m : List I32} (h : ∀ y ∈ m, ltI a y = true) : a ∉ m := fun hm => by
  have := h a hm
  rw [ltI_irr] at this; cases this
/-- the elements that a function keeps -/
def Keeps (keep : Bool → Bool → Bool) (l m r : List I32) : Prop := ∀ y, y ∈ r ↔ (y ∈ l ∨ y ∈ m) ∧ keep (decide (y ∈ l)) (decide (y ∈ m)) = true
/-- one step: the least element x goes, from l, from m, or from both -/
theorem keeps_step {keep : Bool → Bool → Bool} {l l' m m' r : List I32} {x : I32} {p q : Bool} (hr : SS r ∧ Keeps keep l' m' r)
    (hl : ∀ y, y ∈ l ↔ (y = x ∧ p = true) ∨ y ∈ l') (hm : ∀ y, y ∈ m ↔ (y = x ∧ q = true) ∨ y ∈ m') (hx : ∀ y, y ∈ l' ∨ y ∈ m' → ltI x y = true) (hpq : (p || q) = true) :
    SS (if keep p q then x :: r else r) ∧ Keeps keep l m (if keep p q then x :: r else r) := by
  have hxl : x ∉ l' := lt_notin (fun y hy => hx y (.inl hy))
  have hxm : x ∉ m' := lt_notin (fun y hy => hx y (.inr hy))
  have hrx : ∀ y ∈ r, ltI x y = true := fun y hy => hx y ((hr.2 y).1 hy).1
  have hother : ∀ y, y ≠ x → ((y ∈ l ∨ y ∈ m) ∧ keep (decide (y ∈ l)) (decide (y ∈ m)) = true ↔ y ∈ r) := fun y hy => by
    have e1 : (y ∈ l) = (y ∈ l') := propext (by rw [hl y]; simp [hy])
    have e2 : (y ∈ m) = (y ∈ m') := propext (by rw [hm y]; simp [hy])
    have := hr.2 y
    simp only [e1, e2]
    exact this.symm
  have hself : ((x ∈ l ∨ x ∈ m) ∧ keep (decide (x ∈ l)) (decide (x ∈ m)) = true) ↔ keep p q = true := by
    have e1 : decide (x ∈ l) = p := by rw [Bool.eq_iff_iff]; simp [hl x, hxl]
    have e2 : decide (x ∈ m) = q := by rw [Bool.eq_iff_iff]; simp [hm x, hxm]
    rw [e1, e2]
    refine ⟨fun h => h.2, fun h => ⟨?_, h⟩⟩
    rw [hl x, hm x]
    cases p
    · cases q
      · cases hpq
      · exact .inr (.inl ⟨rfl, rfl⟩)
    · exact .inl (.inl ⟨rfl, rfl⟩)
  by_cases hk : keep p q = true
  · rw [if_pos hk]
    refine ⟨List.pairwise_cons.2 ⟨hrx, hr.1⟩, fun y => ?_⟩
    by_cases hy : y = x
    · subst hy
      exact ⟨fun _ => hself.2 hk, fun _ => by simp⟩
    · rw [hother y hy]
      simp [hy]
  · rw [if_neg hk]
    refine ⟨hr.1, fun y => ?_⟩
    by_cases hy : y = x
    · subst hy
      exact ⟨fun h => absurd h (lt_notin hrx), fun h => absurd (hself.1 h) hk⟩
    · rw [hother y hy]
theorem mergeI_spec (keep : Bool → Bool → Bool) : ∀ (n : Nat) (l m : List I32), SS l → SS m → l.length + m.length ≤ n → SS (mergeI keep n l m) ∧ Keeps keep l m (mergeI keep n l m)
  | 0, l, m, _, _, h => by
    obtain rfl : l = [] := List.eq_nil_of_length_eq_zero (by omega)
    obtain rfl : m = [] := List.eq_nil_of_length_eq_zero (by omega)
    exact ⟨by simp [mergeI, SS], fun y => by simp [mergeI]⟩
  | n + 1, [], [], _, _, _ => ⟨by simp [mergeI, SS], fun y => by simp [mergeI]⟩
  | n + 1, [], b :: m, hl, hm, h => by
    have hm' := List.pairwise_cons.1 hm
    have ih := mergeI_spec keep n [] m hl hm'.2 (by simp at h ⊢; omega)
    exact keeps_step (p := false) (q := true) ih (fun y => by simp) (fun y => by simp) (fun y hy => hm'.1 y (by simpa using hy)) rfl
  | n + 1, a :: l, [], hl, hm, h => by
    have hl' := List.pairwise_cons.1 hl
    have ih := mergeI_spec keep n l [] hl'.2 hm (by simp at h ⊢; omega)
    exact keeps_step (p := true) (q := false) ih (fun y => by simp) (fun y => by simp) (fun y hy => hl'.1 y (by simpa using hy)) rfl
  | n + 1, a :: l, b :: m, hl, hm, h => by
    have hl' := List.pairwise_cons.1 hl
    have hm' := List.pairwise_cons.1 hm
    simp only [mergeI]
    by_cases h1 : ltI a b = true
    · rw [if_pos h1]
      have ih := mergeI_spec keep n l (b :: m) hl'.2 hm (by simp at h ⊢; omega)
      exact keeps_step (p := true) (q := false) ih (fun y => by simp) (fun y => by simp) (fun y hy => hy.elim (hl'.1 y) (ss_lt hm h1 y)) rfl
    · rw [if_neg h1]
      by_cases h2 : ltI b a = true
      · rw [if_pos h2]
        have ih := mergeI_spec keep n (a :: l) m hl hm'.2 (by simp at h ⊢; omega)
        exact keeps_step (p := false) (q := true) ih (fun y => by simp) (fun y => by simp) (fun y hy => hy.elim (ss_lt hl h2 y) (hm'.1 y)) rfl
      · rw [if_neg h2]
        obtain rfl : a = b := ltI_tot (by simpa using h1) (by simpa using h2)
        have ih := mergeI_spec keep n l m hl'.2 hm'.2 (by simp at h ⊢; omega)
        exact keeps_step (p := true) (q := true) ih (fun y => by simp) (fun y => by simp) (fun y hy => hy.elim (hl'.1 y) (hm'.1 y)) rfl
end Go.Proofs.Ytnoilnmkdahhiaa
