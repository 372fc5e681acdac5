/- slices.SortFunc at identities, by msgid.Compare. -/
import Derived.Test.YtnoilnmkdahhiaaRows
import Derived.Test.YtnoilnmkdahhiaaIds
import Derived.Test.YtnoilnmkdahhiaaIdTo
import Derived.Test.YtnoilnmkdahhiaaIdLib
import Derived.Test.YtnoilnmkdahhiaaOrder
import Derived.Test.YtnoilnmkdahhiaaShelfL
import Derived.Shelf.SlSortCmp.NoneTotal
import Derived.Sort.OwnSortedInts
import Derived.WalkKit
import Derived.OwnWalk
import Derived.WalkSpells
import Derived.Lib.Hide
import Derived.Outline
import Derived.Deep.QuietTactic
import Derived.BigQuiet
namespace Go.Proofs.Ytnoilnmkdahhiaa
open Go.RowKit Go.Shelf Go.Lib Go.Sort

/-- the order of identities -/
def cfI (x y : I32) : Int := Lib.compareBytes x.1 y.1
theorem cmp_trans : ∀ a b c : List UInt8, Lib.compareBytes a b = -1 → Lib.compareBytes b c = -1 → Lib.compareBytes a c = -1
  | [], [], _, h, _ => by simp [Lib.compareBytes] at h
  | [], _ :: _, [], _, h => by simp [Lib.compareBytes] at h
  | [], _ :: _, _ :: _, _, _ => by simp [Lib.compareBytes]
  | _ :: _, [], _, h, _ => by simp [Lib.compareBytes] at h
  | _ :: _, _ :: _, [], _, h => by simp [Lib.compareBytes] at h
  | a :: x, b :: y, c :: z, h1, h2 => by
    have ih := cmp_trans x y z
    simp only [Lib.compareBytes] at h1 h2 ⊢
    have e1 : ∀ p q : UInt8, p < q ↔ p.toNat < q.toNat := fun p q => UInt8.lt_iff_toNat_lt
    simp only [e1] at h1 h2 ⊢
    by_cases q1 : a.toNat < b.toNat
    · by_cases q2 : b.toNat < c.toNat
      · rw [if_pos (by omega)]
      · rw [if_neg q2] at h2
        by_cases q3 : c.toNat < b.toNat
        · rw [if_pos q3] at h2; simp at h2
        · rw [if_pos (by omega)]
    · rw [if_neg q1] at h1
      by_cases q4 : b.toNat < a.toNat
      · rw [if_pos q4] at h1; simp at h1
      · rw [if_neg q4] at h1
        by_cases q2 : b.toNat < c.toNat
        · rw [if_pos (by omega)]
        · rw [if_neg q2] at h2
          by_cases q3 : c.toNat < b.toNat
          · rw [if_pos q3] at h2; simp at h2
          · rw [if_neg q3] at h2
            rw [if_neg (by omega), if_neg (by omega)]
            exact ih h1 h2
theorem cmp_zero : ∀ a b : List UInt8, Lib.compareBytes a b = 0 → a = b := fun a b h => by
  have := eq_cmp a b
  rw [h] at this
  simpa using this
theorem ltI_iff (x y : I32) : ltOf cfI x y = true ↔ Lib.compareBytes x.1 y.1 = -1 := by
  unfold ltOf cfI
  have := cmp_range x.1 y.1
  simp only [decide_eq_true_eq]
  omega
theorem ltI_false (x y : I32) : ltOf cfI x y = false ↔ Lib.compareBytes x.1 y.1 ≠ -1 := by
  rw [Ne, ← ltI_iff]; simp
theorem cmp_ntrans (a b c : List UInt8) (h1 : Lib.compareBytes a b ≠ -1) (h2 : Lib.compareBytes b c ≠ -1) : Lib.compareBytes a c ≠ -1 := by
  intro h
  have s1 := cmp_swap a b
  have s2 := cmp_swap b c
  have r1 := cmp_range a b
  have r2 := cmp_range b c
  by_cases e1 : Lib.compareBytes a b = 0
  · have := cmp_zero _ _ e1; subst this; exact h2 h
  · by_cases e2 : Lib.compareBytes b c = 0
    · have := cmp_zero _ _ e2; subst this; exact h1 h
    · have t1 : Lib.compareBytes b a = -1 := by omega
      have t2 : Lib.compareBytes c b = -1 := by omega
      have := cmp_trans c b a t2 t1
      have s3 := cmp_swap a c
      omega
theorem swoI : SWO (ltOf cfI) where
  irrefl x := by rw [ltI_false, cmp_self]; decide
  trans x y z h1 h2 := by rw [ltI_iff] at *; exact cmp_trans _ _ _ h1 h2
  ntrans x y z h1 h2 := by rw [ltI_false] at *; exact cmp_ntrans _ _ _ h1 h2
theorem totI (x y : I32) (h1 : ltOf cfI x y = false) (h2 : ltOf cfI y x = false) : x = y := by
  rw [ltI_false] at h1 h2
  have s := cmp_swap x.1 y.1
  have r := cmp_range x.1 y.1
  exact Subtype.ext (cmp_zero _ _ (by omega))
/-- the sorted list -/
def sortI (l : List I32) : List I32 := l.mergeSort fun x y => !(ltOf cfI) y x

theorem flatK_idcs (l : List I32) : (flatK encI 32 l.toArray).toList = idcs l := by
  apply List.ext_getElem?
  intro t
  by_cases ht : t < l.length * 32
  · have h1 := idcs_at l (t / 32) (t % 32) (by omega) (by omega)
    rw [show t / 32 * 32 + t % 32 = t by omega] at h1
    have h2 := get_flatK encI 32 l.toArray t (by simpa using ht)
    rw [h1, Array.getElem?_toList, Array.getElem?_eq_getElem (by simp; omega)]
    have h3 : (flatK encI 32 l.toArray)[t]! = (flatK encI 32 l.toArray)[t]'(by simp; omega) := getElem!_pos _ _ _
    rw [← h3, h2]
    have h4 : l.toArray[t / 32]! = l[t / 32]'(by omega) := by rw [getElem!_pos l.toArray (t / 32) (by simp; omega)]; simp
    rw [h4, getElem!_pos _ _ (by rw [encI_len]; omega), List.getElem?_eq_getElem]
  · rw [List.getElem?_eq_none (l := idcs l) (by rw [idcs_len]; omega), List.getElem?_eq_none (by simp; omega)]
theorem holds_of_owns {w : World} {base g cap n : Nat} {e : TypeId} {l : List I32} (h : w.ownsRow base e 32 (.slice (some ⟨g, 0, none⟩) n cap) n (idcs l)) : HoldsK encI 32 w g 0 l.toArray := by
  have hln : l.length = n := by have h1 := h.1; rw [idcs_len] at h1; omega
  rcases h.2 with ⟨h0, _⟩ | ⟨g', cap', cur, hv, hb, hg, _⟩
  · cases h0
  cases hv
  intro j hj
  rw [size_flatK] at hj
  simp only [List.size_toArray] at hj
  have hc := h.cellAt j (by omega)
  refine ⟨?_, frozen_of_row _ _ _ _ _ hg⟩
  rw [Nat.zero_add, hc, ← flatK_idcs, Array.getElem?_toList, Array.getElem?_eq_getElem (by simp; omega), getElem!_pos _ _ (by simp; omega)]
  rfl
theorem heap_sortedK {w : World} {g n : Nat} {os : Array Obj} {cur : Array Value} {e : TypeId} {fr : Nat × Nat} (d : Array I32) (hb : w.heap[g]? = some (.cells cur e fr)) :
    (sortWorldK encI 32 w g 0 n d os).heap[g]? = some (.cells (putCells id 0 (flatK encI 32 d) cur) e fr) := by
  have hg : g < w.heap.size := (Array.getElem?_eq_some_iff.1 hb).1
  unfold sortWorldK putRowK
  rw [heap_grow_old _ _ (by simpa using hg)]
  simp [putRow, mapBlock, Sort.ahead, Array.getElem?_modify, hb, onCells]
theorem grownBy_sortedK {w : World} {g n : Nat} {os : Array Obj} (d : Array I32) : w.grownBy (sortWorldK encI 32 w g 0 n d os) (some g) := by
  unfold sortWorldK putRowK
  refine ⟨rfl, rfl, rfl, by simp, fun k hk hne => ?_⟩
  rw [heap_grow_old _ _ (by simpa using hk)]
  have : g ≠ k := fun e => hne (by rw [e])
  simp [putRow, mapBlock, Sort.ahead, Array.getElem?_modify, this]
theorem take_putCellsK (cur : Array Value) (ts : Array Value) (h : ts.size ≤ cur.size) : (putCells id 0 ts cur).toList.take ts.size = ts.toList := by
  apply List.ext_getElem?
  intro j
  by_cases hj : j < ts.size
  · rw [List.getElem?_take_of_lt hj, Array.getElem?_toList]
    simp [putCells, hj, show j < cur.size by omega]
  · rw [List.getElem?_take_eq_none (by omega), List.getElem?_eq_none (by simp; omega)]
theorem owns_sortedK {w : World} {base g cap n m : Nat} {e : TypeId} {os : Array Obj} {l l' : List I32} (hl : l'.length = l.length) (h : w.ownsRow base e 32 (.slice (some ⟨g, 0, none⟩) n cap) n (idcs l)) :
    (sortWorldK encI 32 w g 0 m l'.toArray os).ownsRow base e 32 (.slice (some ⟨g, 0, none⟩) n cap) n (idcs l') := by
  have hln : l.length = n := by have h1 := h.1; rw [idcs_len] at h1; omega
  rcases h.2 with ⟨h0, _⟩ | ⟨g', cap', cur, hv, hb, hg, h4, h5, h6, h7⟩
  · cases h0
  cases hv
  refine ⟨by rw [idcs_len]; omega, .inr ⟨g, cap, _, rfl, hb, heap_sortedK _ hg, h4, h5, by simp [putCells, h6], ?_⟩⟩
  have hsz : (flatK encI 32 l'.toArray).size = n * 32 := by rw [size_flatK]; simp; omega
  rw [← hsz, take_putCellsK cur _ (by rw [hsz, h6]; exact Nat.mul_le_mul_right _ h4)]
  exact flatK_idcs l'
theorem sortI_len (l : List I32) : (sortI l).length = l.length := by unfold sortI; exact List.length_mergeSort _

set_option maxHeartbeats 400000 in
theorem compare_grow (x y : I32) (w : World) :
    Calls Try.prog 21 #[.agg (encI x).toArray, .agg (encI y).toArray] w fun e w' => e = .returned (.int .i64 (cfI x y)) ∧ ∃ q os, w' = grow (w.drewN q) os := by
  unfold cfI
  obtain ⟨a, ha⟩ := x
  obtain ⟨b, hb⟩ := y
  show Calls Try.prog 21 #[idv a, idv b] w fun e w' => e = .returned (.int .i64 (Lib.compareBytes a b)) ∧ ∃ q os, w' = grow (w.drewN q) os
  have h1 := (IdAt.new w a 24).alloc (by simp) (.cells (Lib.byteCells b).toArray 24)
  have h2 := IdAt.new (w.alloc (.cells (Lib.byteCells a).toArray 24)) b 24
  have hsz : (w.alloc (.cells (Lib.byteCells a).toArray 24)).heap.size = w.heap.size + 1 := by simp
  rw [hsz] at h2
  have HC : Hid (∀ nq, Calls Try.prog 36 #[.slice (some ⟨w.heap.size, 0, none⟩) 32 32, .slice (some ⟨w.heap.size + 1, 0, none⟩) 32 32] (((w.alloc (.cells (Lib.byteCells a).toArray 24)).alloc (.cells (Lib.byteCells b).toArray 24)).drewN nq) fun e w' => e = .returned (.int .i64 (Lib.compareBytes a b)) ∧ w' = ((w.alloc (.cells (Lib.byteCells a).toArray 24)).alloc (.cells (Lib.byteCells b).toArray 24)).drewN nq) := Lib.hid (fun nq => bytesCompare_any _ 0 _ _ _ 0 _ _ a b _ ha hb (fun k hk => by simpa using h1 k hk) (fun k hk => by simpa using h2 k hk) |>.mono fun _ _ h => ⟨h.1, h.2.symm⟩)
  clear h1 h2 ha hb hsz
  go_enter Try.func21, Try.ntmps21
  go_wp2_with fail
  go_quiet ((go_at_call 36; exact Calls.quiet_of_same (HC.out _)))
  go_wp2
  go_ret
  exact ⟨rfl, _, _, by rw [alloc_eq_grow, alloc_eq_grow, grow_grow]; exact rfl⟩
theorem cmpLaysI (blk off size : Nat) (w : World) : CmpLays Try.prog 21 #[] encI 32 cfI blk off size w := fun _ _ _ _ x y => compare_grow x y _

/-- slices.SortFunc by msgid.Compare, of a slice of the call's own -/
theorem sort_any (base n : Nat) (v : Value) (l : List I32) (hn : l.length ≤ 1000000) (w : World) (h : w.ownsRow base 24 32 v n (idcs l)) :
    Calls Try.prog 39 #[v, .func (.func 21) #[] #[]] w fun e w' => e = .returned (.tuple #[]) ∧ w'.ownsRow base 24 32 v n (idcs (sortI l)) ∧ w.grownBy w' v.ownBlock := by
  have hln : l.length = n := by have h1 := h.1; rw [idcs_len] at h1; omega
  have h' := h
  rcases h.2 with ⟨rfl, rfl⟩ | ⟨g, cap, cur, rfl, hb, hg, h4, h5, h6, h7⟩
  · have hn := AnyF.slices_SortFunc_none Try.sortId none 0 (.func (.func 21) #[] #[]) w
    refine Calls.mono hn ?_
    rintro e w' ⟨rfl, rfl⟩
    obtain rfl := List.eq_nil_of_length_eq_zero hln
    exact ⟨rfl, by rw [show sortI [] = [] by simp [sortI]]; exact h', World.grownBy.refl _ _⟩
  · have eg : ∀ args w, (callFunc 21 args).run Try.prog w = .ok (.enter 21 args) w := enters_of Try.func21 (by kernel_rfl) rfl
    have hcon := AnyQ.slices_SortFunc_total Try.sortId 32 Try.isAgg24 Try.sizeOf24 encI encI_len encI_one cfI swoI 21 #[] g 0 cap l.toArray w eg (cmpLaysI g 0 _ w) (holds_of_owns h') (Array.getElem?_eq_some_iff.1 hg).1 (by simp; omega) totI
    have hsz : l.toArray.size = n := by simpa using hln
    rw [hsz] at hcon
    refine Calls.mono hcon ?_
    rintro e w' ⟨rfl, m, os, rfl⟩
    exact ⟨rfl, owns_sortedK (sortI_len l) h', grownBy_sortedK _⟩
end Go.Proofs.Ytnoilnmkdahhiaa
