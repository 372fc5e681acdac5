/- The contract of Printable. -/
import Derived.RangeFuncNested
import Derived.RangeFuncBound
import Derived.RangeFuncCalls
import Derived.RangeFuncLeaves
import Derived.Shelf.Abstract
import Derived.Shelf.RegionOpen
import Derived.WalkKit
import Derived.OwnWalkIn
import Derived.TacticsInMore
import Derived.LoopNIn
import Derived.LoopIn
import Derived.Test.YtefncnmahimgpaaRows
import Derived.Test.YtefncnmahimgpaaBase
import Derived.Test.YtefncnmahimgpaaUCheck
import Derived.Test.YtefncnmahimgpaaURunes
import Derived.Test.YtefncnmahimgpaaUCtl
import Derived.Lib.Hide
import Derived.Outline
namespace Go.Proofs.Ytefncnmahimgpaa
open Go.RowKit Go.Shelf
attribute [local go_sem] Oper.semAt_some

theorem cell_new_x (W : World) (v : Value) (t : TypeId) : (W.alloc (.cells #[v] t)).cell? ⟨W.heap.size, 0, none⟩ = some v ∧ (W.alloc (.cells #[v] t)).frozen? ⟨W.heap.size, 0, none⟩ = false :=
  ⟨by rw [cell_of_row _ _ _ _ _ _ (heap_alloc_new W _)]; rfl, frozen_of_row _ _ _ _ _ (heap_alloc_new W _)⟩
theorem cell_alloc_x {W : World} {a : Addr} {v : Value} (o : Obj) (h : W.cell? a = some v) : (W.alloc o).cell? a = some v := cell_kept h (World.grownBy_alloc W o none) (fun r e => by cases e)
theorem frozen_alloc_x {W : World} {a : Addr} {v : Value} (o : Obj) (h : W.cell? a = some v) (hf : W.frozen? a = false) : (W.alloc o).frozen? a = false := (frozen_kept h (World.grownBy_alloc W o none) (fun r e => by cases e)).trans hf
/-- are there no control characters among the code points? -/
def noCtl (l : List (Nat × Nat)) : Bool := l.all fun p => !ctl p.2

set_option maxRecDepth 100000 in
set_option maxHeartbeats 2000000 in
theorem printable_valid (s : ByteArray) (hs : s.size ≤ 1000000) (hok : okAll s.data.toList = true) (w : World) :
    Calls Try.prog 29 #[.string s] w fun e w' => e = .returned (.bool (noCtl (pAll s.data.toList 0).1)) ∧ Below w.heap.size w w' := by
  have HV0 := valid_any s (by unfold maxLen; omega)
  rw [hok] at HV0
  have HV := Lib.hid HV0
  clear HV0
  refine (callsIn_wide (n := 8)).1 ?_
  refine callsIn_of_wp_marks Try.func29 rfl trivial ?_ rfl
  simp only [Try.ntmps29, List.size_toArray, List.length_cons, List.length_nil, Nat.reduceAdd, Nat.reduceSub, Array.replicate_succ, Array.replicate_zero, List.push_toArray, List.append_toArray, List.nil_append, List.cons_append]
  gi_wp2_with fail
  refine ⟨trivial, (callsIn_wide.2 (HV.out _)).mono ?_⟩
  rintro e w1 ⟨rfl, b1⟩
  gi_wp2_with fail
  refine ⟨trivial, (callsIn_wide.2 (runes_any s _)).mono ?_⟩
  rintro e w2 ⟨rfl, rfl⟩
  gi_wp2_with fail
  have c0 := cell_new_x w (.bool false) 4
  have hsz1 : w.heap.size + 1 ≤ w1.heap.size := by have := b1.size; simpa using this
  have c1 : w1.cell? ⟨w.heap.size, 0, none⟩ = some (.bool false) := (b1.cell (p := ⟨w.heap.size, 0, none⟩) (by simp)).trans c0.1
  have f1 : w1.frozen? ⟨w.heap.size, 0, none⟩ = false := (World.frozen?_of_block (b1.block w.heap.size (by simp))).trans c0.2
  have cs := cell_new_x w1 (.string s) 9
  have hB1 : Below w.heap.size w w1 := ((Below.refl _ w).alloc (Nat.le_refl _) _).trans (b1.mono (by simp))
  have hB0 := hB1.alloc hB1.size (.cells #[.string s] 9)
  refine wpIn_rangeFunc_ownF rfl (by omega) (gf := 45) (lb := #[.pointer (some ⟨w1.heap.size, 0, none⟩)]) rfl trivial (enters_of Try.func45 (by kernel_rfl) rfl)
    (runes_stops (8 - 1) (by omega) w1.heap.size (w1.heap.size + 1) s hs _ (by omega) (by simp) cs.1) belowK_t (belowK_b (by simp)) (Below.refl _ _) (fun _ => rfl)
    (fun pre W => (noCtl pre = true ∧ W.cell? ⟨w.heap.size, 0, none⟩ = some (.bool false) ∧ W.frozen? ⟨w.heap.size, 0, none⟩ = false) ∧ Below w.heap.size w W)
    (fun c pre W => (c = .ret ∧ noCtl pre = false ∧ W.cell? ⟨w.heap.size, 0, none⟩ = some (.bool false)) ∧ Below w.heap.size w W)
    (OwnFrom.and (Own.from (fun s A B row hs hg hr => ⟨hs.1, cell_kept hs.2.1 hg hr, (frozen_kept hs.2.1 hg hr).trans hs.2.2⟩) _) (ownFrom_below (Nat.le_refl _) (by simp; omega)))
    (fun c => OwnFrom.and (Own.from (fun s A B row hs hg hr => ⟨hs.1, hs.2.1, cell_kept hs.2.2 hg hr⟩) _) (ownFrom_below (Nat.le_refl _) (by simp; omega)))
    ⟨⟨rfl, cell_alloc_x _ c1, frozen_alloc_x _ c1 f1⟩, hB0⟩
    (fun x => { tmps := #[.string s, undef, .pointer (some ⟨w.heap.size, 0, none⟩), undef, .int .i32 (x.2 : Int), .string s, .bool true, .bool false, .string s, .func (.func 45) #[] #[.pointer (some ⟨w1.heap.size, 0, none⟩)], .int .i64 (x.1 : Int), .int .i32 (x.2 : Int), undef, undef], defers := [] }) ?assign ?body ?done ?stop
  case assign =>
    intro l x W K hK
    simp only [rEnc]
    gi_wp2
    exact hK
  case body =>
    rintro l pre x W ⟨⟨hp, hcr, hfr⟩, hB⟩ _
    gi_wp2_with fail
    refine ⟨trivial, (CallsIn.inRound l (callsIn_wide.2 (control_any x.2 _))).mono ?_⟩
    rintro e W3 ⟨rfl, rfl⟩
    cases hc : ctl x.2
    · gi_wp2
      exact ⟨KeepsOthers.refl _, Below.refl _ _, ⟨by simp [noCtl, hc] at hp ⊢; exact hp, hcr, hfr⟩, hB⟩
    · gi_wp2
      exact ⟨KeepsOthers.setCell _ _ _, ⟨rfl, by simp [noCtl, hc], World.cell?_setCell_same' _ _ _ (by rw [hcr]; rfl)⟩, hB.setCell (p := ⟨w.heap.size, 0, none⟩) (by simp) _⟩
  case done =>
    rintro D ys W hD rfl ⟨⟨hne, hcr, hfr⟩, hB⟩ hK
    gi_wp2
    have hK' := (KeepsOthers.setCell W ⟨w.heap.size, 0, none⟩ (.bool true)).same D _ hK rfl
    refine ⟨by simp, .inl ⟨_, _, rfl, run_takeDeferred hK', ?_⟩⟩
    have hc5 := cell_kept (World.cell?_setCell_same' W ⟨w.heap.size, 0, none⟩ (.bool true) (by rw [hcr]; rfl)) (grownBy_putObj' _ D (.deferred none)) (fun r e => by cases e; exact ⟨_, hK', rfl⟩)
    refine ⟨.bool true, ?_, by rw [hne], (hB.setCell (p := ⟨w.heap.size, 0, none⟩) (by simp) _).trans (belowK_b (w := w) (Nat.le_refl _) _ D _ _ (by simp at hD; omega) hK' rfl rfl)⟩
    simp [results, Try.f29, go_sem, hc5]
  case stop =>
    rintro D c pre W hD hpre ⟨⟨rfl, hin, hcr⟩, hB⟩ hK
    gi_wp2
    refine ⟨by simp, .inl ⟨_, _, rfl, run_takeDeferred hK, ?_⟩⟩
    have hc5 := cell_kept hcr (grownBy_putObj' _ D (.deferred none)) (fun r e => by cases e; exact ⟨_, hK, rfl⟩)
    have hall : noCtl (pAll s.data.toList 0).1 = false := by
      obtain ⟨t, ht⟩ := hpre
      rw [← ht]
      unfold noCtl at hin ⊢
      rw [List.all_append, hin]; rfl
    refine ⟨.bool false, ?_, by rw [hall], hB.trans (belowK_b (w := w) (Nat.le_refl _) W D _ _ (by simp at hD; omega) hK rfl rfl)⟩
    simp [results, Try.f29, go_sem, hc5]

set_option maxRecDepth 100000 in
set_option maxHeartbeats 1000000 in
theorem printable_bad (s : ByteArray) (hs : s.size ≤ 1000000) (hok : okAll s.data.toList = false) (w : World) :
    Calls Try.prog 29 #[.string s] w fun e w' => e = .returned (.bool false) ∧ Below w.heap.size w w' := by
  have HV0 := valid_any s (by unfold maxLen; omega)
  rw [hok] at HV0
  have HV := Lib.hid HV0
  clear HV0
  refine (callsIn_wide (n := 8)).1 ?_
  refine callsIn_of_wp_marks Try.func29 rfl trivial ?_ rfl
  simp only [Try.ntmps29, List.size_toArray, List.length_cons, List.length_nil, Nat.reduceAdd, Nat.reduceSub, Array.replicate_succ, Array.replicate_zero, List.push_toArray, List.append_toArray, List.nil_append, List.cons_append]
  gi_wp2_with fail
  refine ⟨trivial, (callsIn_wide.2 (HV.out _)).mono ?_⟩
  rintro e w1 ⟨rfl, b1⟩
  have c0 := cell_new_x w (.bool false) 4
  have c1 : w1.cell? ⟨w.heap.size, 0, none⟩ = some (.bool false) := (b1.cell (p := ⟨w.heap.size, 0, none⟩) (by simp)).trans c0.1
  have f1 : w1.frozen? ⟨w.heap.size, 0, none⟩ = false := (World.frozen?_of_block (b1.block w.heap.size (by simp))).trans c0.2
  gi_wp2
  have hcr := World.cell?_setCell_same' w1 ⟨w.heap.size, 0, none⟩ (.bool false) (by rw [c1]; rfl)
  have hB1 : Below w.heap.size w w1 := ((Below.refl _ w).alloc (Nat.le_refl _) _).trans (b1.mono (by simp))
  refine ⟨.bool false, ?_, rfl, hB1.setCell (p := ⟨w.heap.size, 0, none⟩) (by simp) _⟩
  simp [results, Try.f29, go_sem, hcr]

/-- Printable, at every text -/
theorem printable_any (s : ByteArray) (hs : s.size ≤ 1000000) (w : World) :
    Calls Try.prog 29 #[.string s] w fun e w' => e = .returned (.bool (okAll s.data.toList && noCtl (pAll s.data.toList 0).1)) ∧ Below w.heap.size w w' := by
  cases hok : okAll s.data.toList
  · exact printable_bad s hs hok w
  · exact printable_valid s hs hok w
end Go.Proofs.Ytefncnmahimgpaa
