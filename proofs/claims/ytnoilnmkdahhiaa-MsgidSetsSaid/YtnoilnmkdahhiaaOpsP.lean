/- What Union, Minus, Both answer: sets of lists. Plain. -/
import Derived.Test.YtnoilnmkdahhiaaSetP
import Derived.Test.YtnoilnmkdahhiaaIdOps
namespace Go.Proofs.Ytnoilnmkdahhiaa

def opL (K : Bool → Bool → Bool) (l m : List I32) : List I32 := mergeI K ((setI l).length + (setI m).length) (setI l) (setI m)
theorem opL_ss (K : Bool → Bool → Bool) (l m : List I32) : SS (opL K l m) := (mergeI_spec K _ _ _ (setI_ss l) (setI_ss m) (Nat.le_refl _)).1
theorem opL_mem (K : Bool → Bool → Bool) (l m : List I32) (y : I32) : y ∈ opL K l m ↔ (y ∈ l ∨ y ∈ m) ∧ K (decide (y ∈ l)) (decide (y ∈ m)) = true := by
  have h := (mergeI_spec K _ _ _ (setI_ss l) (setI_ss m) (Nat.le_refl _)).2 y
  have e1 : (y ∈ setI l) = (y ∈ l) := propext (setI_mem l y)
  have e2 : (y ∈ setI m) = (y ∈ m) := propext (setI_mem m y)
  simp only [e1, e2] at h
  exact h
theorem unionL_mem (l m : List I32) (y : I32) : y ∈ opL keepU l m ↔ y ∈ l ∨ y ∈ m := by rw [opL_mem]; simp [keepU]
theorem minusL_mem (l m : List I32) (y : I32) : y ∈ opL keepM l m ↔ y ∈ l ∧ y ∉ m := by rw [opL_mem]; simp [keepM]; intro h _; exact .inl h
theorem bothL_mem (l m : List I32) (y : I32) : y ∈ opL keepB l m ↔ y ∈ l ∧ y ∈ m := by rw [opL_mem]; simp [keepB]; intro h _; exact .inl h
theorem opL_le (K : Bool → Bool → Bool) : ∀ (n : Nat) (l m : List I32), (mergeI K n l m).length ≤ l.length + m.length
  | 0, l, m => by simp [mergeI]
  | n + 1, [], [] => by simp [mergeI]
  | n + 1, [], b :: m => by
    have := opL_le K n [] m
    unfold mergeI; split <;> simp at * <;> omega
  | n + 1, a :: l, [] => by
    have := opL_le K n l []
    unfold mergeI; split <;> simp at * <;> omega
  | n + 1, a :: l, b :: m => by
    have h1 := opL_le K n l (b :: m)
    have h2 := opL_le K n (a :: l) m
    have h3 := opL_le K n l m
    unfold mergeI
    simp at h1 h2 h3
    split
    · split <;> simp <;> omega
    · split
      · split <;> simp <;> omega
      · split <;> simp <;> omega
theorem opL_len (K : Bool → Bool → Bool) (l m : List I32) : (opL K l m).length ≤ l.length + m.length := by
  have h := opL_le K ((setI l).length + (setI m).length) (setI l) (setI m)
  have h1 := setI_le l
  have h2 := setI_le m
  unfold opL; omega
theorem union_set (l m : List I32) : opL keepU l m = setI (l ++ m) := setI_eq _ _ (opL_ss _ _ _) (fun x => by rw [unionL_mem, List.mem_append])
theorem minus_set (l m : List I32) : opL keepM l m = setI (l.filter fun x => decide (x ∈ m) == false) := setI_eq _ _ (opL_ss _ _ _) (fun x => by rw [minusL_mem, List.mem_filter]; simp)
theorem both_set (l m : List I32) : opL keepB l m = setI (l.filter fun x => decide (x ∈ m) == true) := setI_eq _ _ (opL_ss _ _ _) (fun x => by rw [bothL_mem, List.mem_filter]; simp)
theorem alg1 (a b c : List I32) : opL keepM a (opL keepU b c) = opL keepM (opL keepM a b) c :=
  ss_uniq _ _ (opL_ss _ _ _) (opL_ss _ _ _) (fun x => by rw [minusL_mem, minusL_mem, minusL_mem, unionL_mem, not_or, and_assoc])
theorem alg2 (a b : List I32) : opL keepU (opL keepB a b) (opL keepM a b) = setI a :=
  setI_eq _ _ (opL_ss _ _ _) (fun x => by rw [unionL_mem, bothL_mem, minusL_mem]; by_cases h : x ∈ b <;> simp [h])
end Go.Proofs.Ytnoilnmkdahhiaa
