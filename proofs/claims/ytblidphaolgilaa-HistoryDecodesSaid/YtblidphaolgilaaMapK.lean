/- Maps whose keys are arrays of bytes: what a key reads as, both ways; elements read by an encoding of one's own. -/
import Derived.Maps.OwnSet
import Derived.Maps.RangeWalk
import Derived.WideKeyArr
import Derived.Lib.UnsafeStr
import Derived.WalkArith
import Derived.OpenShut
namespace Go.Proofs.Ytblidphaolgilaa
open Go.RowKit Go.Maps Go.WideMaps

section
variable {P : Program} {k e : TypeId} {n : Nat}

theorem mapM_range {α : Type} (f : Nat → Option α) (g : Nat → α) (n : Nat) (h : ∀ i, i < n → f i = some (g i)) : (List.range n).mapM f = some ((List.range n).map g) := by
  have key : ∀ L : List Nat, (∀ i ∈ L, f i = some (g i)) → L.mapM f = some (L.map g) := by
    intro L
    induction L with
    | nil => intro _; rfl
    | cons a r ih =>
      intro hh
      rw [List.mapM_cons, hh a (by simp), ih (fun i hi => hh i (by simp [hi]))]
      rfl
  exact key _ (fun i hi => h i (List.mem_range.1 hi))
theorem mapM_some {α β : Type} (f : α → Option β) : ∀ (L : List α) (r : List β), L.mapM f = some r → ∀ x ∈ L, ∃ y, f x = some y
  | [], _, _, x, hx => by simp at hx
  | a :: t, r, h, x, hx => by
    rw [List.mapM_cons] at h
    cases hf : f a with
    | none => rw [hf] at h; simp at h
    | some y =>
      rw [hf] at h
      cases ht : t.mapM f with
      | none => rw [ht] at h; simp at h
      | some r' =>
        rcases List.mem_cons.1 hx with rfl | hx'
        · exact ⟨y, hf⟩
        · exact mapM_some f t r' ht x hx'

theorem bytesBE_u8 (c : UInt8) : Lit.keyBytes (.int .u8 c.toNat) = [c] := by
  have h := UInt8.toNat_lt c
  have h1 : IntKind.bits .u8 = 8 := rfl
  have h2 : ((c.toNat : Int) % 2 ^ IntKind.bits .u8).toNat = c.toNat := by rw [h1]; omega
  show bytesBE (IntKind.bits .u8 / 8) ((c.toNat : Int) % 2 ^ IntKind.bits .u8).toNat = [c]
  rw [h2]
  show bytesBE 1 c.toNat = [c]
  simp [bytesBE, bytesLE]

theorem keyOf_bytes (A : ArrKey P k e n) (he : P.underlying e = some (.int .u8)) (hsz : ∃ m, P.types.size = m + 1) (hkt : P.keyType k = true) (b : List UInt8) (hb : b.length = n) : keyOf P k (.agg (Lib.byteCells b).toArray) = some (.string b) := by
  have hlen : (Lib.byteCells b).length = n := by rw [Lib.byteCells_length]; exact hb
  have hf : Value.formed P k (.agg (Lib.byteCells b).toArray) = true := by
    simp [Value.formed, A.hu, A.size, hlen]
  unfold keyOf
  rw [A.hu]
  simp only [hkt, hf, Bool.and_self, if_true, Value.cells]
  unfold Program.keyLits
  rw [A.hu]
  simp only [A.size, hlen, if_true, A.one, Nat.mul_one]
  have hm : (List.range n).mapM (fun i => P.keyLits P.types.size e (((Lib.byteCells b).drop i).take 1)) = some ((List.range n).map fun i => [Lit.int .u8 (b.getD i 0).toNat]) := by
    refine mapM_range _ _ n (fun i hi => ?_)
    have h1 : ((Lib.byteCells b).drop i).take 1 = [.int .u8 ((b.getD i 0).toNat : Int)] := by
      have hib : i < b.length := by omega
      have h2 : (Lib.byteCells b)[i]? = some (.int .u8 ((b.getD i 0).toNat : Int)) := by
        simp [Lib.byteCells, List.getElem?_map, List.getElem?_eq_getElem hib]
      rw [List.take_one, List.head?_drop, h2]; rfl
    rw [h1]
    obtain ⟨m, hm⟩ := hsz
    rw [hm]
    unfold Program.keyLits
    rw [he]
    have hw : (Lit.int .u8 ((b.getD i 0).toNat : Int)).wf = true := WalkArith.wf_u8 (by have := UInt8.toNat_lt (b.getD i 0); omega)
    simp only [hw, and_self, if_true]
  rw [hm]
  simp only [Option.map_some]
  congr 2
  unfold keyBytes
  rw [← List.flatMap_def]
  rw [List.flatMap_assoc]
  apply List.ext_getElem?
  intro i
  have e1 : ((List.range n).flatMap fun i => [Lit.int .u8 ((b.getD i 0).toNat : Int)].flatMap Lit.keyBytes) = (List.range n).map fun i => b.getD i 0 := by
    have : ∀ L : List Nat, (L.flatMap fun i => [Lit.int .u8 ((b.getD i 0).toNat : Int)].flatMap Lit.keyBytes) = L.map fun i => b.getD i 0 := by
      intro L
      induction L with
      | nil => rfl
      | cons a r ih => rw [List.flatMap_cons, ih, List.map_cons, List.flatMap_cons, bytesBE_u8]; rfl
    exact this _
  rw [e1, List.getElem?_map]
  by_cases hi : i < n
  · rw [List.getElem?_range hi]
    simp [List.getElem?_eq_getElem (show i < b.length by omega)]
  · rw [List.getElem?_eq_none (by simp; omega), List.getElem?_eq_none (by omega)]; rfl
theorem keyOf_bytes_inv (A : ArrKey P k e n) (he : P.underlying e = some (.int .u8)) (hsz : ∃ m, P.types.size = m + 1) (hkt : P.keyType k = true) {v : Value} {l : Lit} (h : keyOf P k v = some l) : ∃ b : List UInt8, b.length = n ∧ v = .agg (Lib.byteCells b).toArray ∧ l = .string b := by
  have h0 := h
  unfold keyOf at h
  rw [A.hu] at h
  simp only at h
  split at h
  · rename_i hc
    simp only [Bool.and_eq_true] at hc
    obtain ⟨_, hf⟩ := hc
    cases v with
    | agg cs =>
      simp only [Value.formed, A.hu, beq_iff_eq, A.size] at hf
      simp only [Value.cells] at h
      cases hm : P.keyLits (P.types.size + 1) k cs.toList with
      | none => rw [hm] at h; simp at h
      | some r =>
        unfold Program.keyLits at hm
        rw [A.hu] at hm
        have hl : cs.toList.length = n := by simpa using hf
        simp only [A.size, hl, if_true, A.one, Nat.mul_one] at hm
        cases hm2 : (List.range n).mapM (fun i => P.keyLits P.types.size e ((cs.toList.drop i).take 1)) with
        | none => rw [hm2] at hm; simp at hm
        | some r2 =>
          have each : ∀ i, i < n → ∃ c : UInt8, cs.toList[i]? = some (.int .u8 c.toNat) := by
            intro i hi
            obtain ⟨y, hy⟩ := mapM_some _ _ _ hm2 i (List.mem_range.2 hi)
            have h1 : (cs.toList.drop i).take 1 = [cs.toList[i]'(by omega)] := by
              rw [List.take_one, List.head?_drop, List.getElem?_eq_getElem (by omega)]; rfl
            rw [h1] at hy
            unfold Program.keyLits at hy
            cases hts : P.types.size with
            | zero => rw [hts] at hy; simp at hy
            | succ m =>
              rw [hts] at hy
              simp only [he] at hy
              rw [List.getElem?_eq_getElem (by omega)]
              cases hv : cs.toList[i]'(by omega) with
              | int q' x =>
                rw [hv] at hy
                simp only at hy
                split at hy
                · rename_i hq
                  obtain ⟨rfl, hw⟩ := hq
                  have hb := bounds_u8 hw
                  refine ⟨UInt8.ofNat x.toNat, ?_⟩
                  congr 2
                  simp
                  omega
                · cases hy
              | _ => rw [hv] at hy; simp at hy
          let b : List UInt8 := (List.range n).map fun i => if hi : i < n then Classical.choose (each i hi) else 0
          have hbl : b.length = n := by simp [b]
          have hcs : cs = (Lib.byteCells b).toArray := by
            apply Array.ext'
            apply List.ext_getElem?
            intro i
            by_cases hi : i < n
            · have hs := Classical.choose_spec (each i hi)
              rw [hs]
              simp [Lib.byteCells, b, hi]
            · rw [List.getElem?_eq_none (by omega), List.getElem?_eq_none (by simp [Lib.byteCells_length, hbl]; omega)]
          refine ⟨b, hbl, by rw [hcs], ?_⟩
          have h5 := keyOf_bytes A he hsz hkt b hbl
          rw [hcs, h5] at h0
          exact (Option.some.inj h0).symm
    | _ => simp [Value.formed, A.hu] at hf
  · cases h
end

/-- elements read by an encoding of one's own: each as itself -/
noncomputable def RB {β : Type} (enc : β → Value) (v : Value) : Option (DataW β × List MemPlace) := by
  classical
  exact if h : ∃ x, enc x = v then some (.held (Classical.choose h), []) else none
theorem RB_mk {β : Type} {enc : β → Value} (inj : ∀ x y, enc x = enc y → x = y) (x : β) : RB enc (enc x) = some (.held x, []) := by
  classical
  unfold RB
  have h : ∃ y, enc y = enc x := ⟨x, rfl⟩
  rw [dif_pos h, inj _ _ (Classical.choose_spec h)]
theorem RB_inv {β : Type} {enc : β → Value} {v : Value} {y : DataW β × List MemPlace} (h : RB enc v = some y) : ∃ x, v = enc x ∧ y = (.held x, []) := by
  classical
  unfold RB at h
  split at h
  · rename_i hx
    exact ⟨_, (Classical.choose_spec hx).symm, (Option.some.inj h).symm⟩
  · cases h
end Go.Proofs.Ytblidphaolgilaa
