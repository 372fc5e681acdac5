/- AppendSeq, Collect, SortedFunc of identities. -/
import Derived.RangeFuncNested
import Derived.RangeFuncBound
import Derived.RangeFuncBox
import Derived.RangeFuncCalls
import Derived.RangeFuncLeaves
import Derived.Shelf.Abstract
import Derived.Shelf.RegionOpen
import Derived.WalkKit
import Derived.OwnWalkIn
import Derived.TacticsInMore
import Derived.LoopNIn
import Derived.LoopIn
import Derived.Maps.AppendAt
import Derived.Test.YtnoilnmkdahhiaaRows
import Derived.Test.YtnoilnmkdahhiaaIds
import Derived.Test.YtnoilnmkdahhiaaIdTo
import Derived.Test.YtnoilnmkdahhiaaIn
import Derived.Test.YtnoilnmkdahhiaaBuild1
import Derived.Test.YtnoilnmkdahhiaaIdIter
import Derived.Test.YtnoilnmkdahhiaaIdSort
import Derived.Lib.Hide
import Derived.Outline
namespace Go.Proofs.Ytnoilnmkdahhiaa
open Go.RowKit Go.Shelf
attribute [local go_sem] Oper.semAt_some

theorem blk_own {β : Type} (B : Nat) (cs : Array Value) (t : TypeId) (fr : Nat × Nat) : Own (fun (_ : β) W => W.heap[B]? = some (.cells cs t fr)) := fun s X Y row hs hg hrow =>
  (hg.block B (Array.getElem?_eq_some_iff.1 hs).1 (fun e' => by obtain ⟨o, ho, hc⟩ := hrow B e'.symm; rw [hs] at ho; cases ho; cases hc)).trans hs

/-- what a loop that collects identities keeps -/
def ColI (n₀ B : Nat) (t e : TypeId) (w : World) (pre : List I32) (W : World) : Prop := (∃ v, Boxed W B t v ∧ W.ownsRow n₀ e 32 v pre.length (idcs pre) ∧ True) ∧ Below n₀ w W
theorem colI_own (n₀ B D : Nat) (t e : TypeId) (w : World) (h1 : n₀ ≤ w.heap.size) (h2 : n₀ ≤ D) : OwnFrom D (ColI n₀ B t e w) := by
  intro s X Y row hs hg hr
  have h := holdsRow_own (β := List I32) n₀ B t e 32 List.length idcs (fun _ _ => True) s X Y row hs.1 hg (fun r e => (hr r e).2)
  exact ⟨h, hs.2.grown hg (Nat.le_trans h1 hs.2.size) (fun k e => Nat.le_trans h2 (hr k e).1)⟩

set_option maxRecDepth 100000 in
set_option maxHeartbeats 2000000 in
theorem appendSeq_any (l : List I32) (hl : l.length ≤ 1000000) (ao : Option Addr) (c Bs : Nat) (w : World) (hv : IdsAt w.heap.size ao l w) (hBs : Bs < w.heap.size) (hc : w.cell? ⟨Bs, 0, none⟩ = some (.slice ao l.length c)) :
    Calls Try.prog 47 #[.slice none 0 0, .func (.func 40) #[] #[.pointer (some ⟨Bs, 0, none⟩)]] w fun e w' => ∃ v, e = .returned v ∧
      w'.ownsRow w.heap.size 24 32 v l.length (idcs l) ∧ Below w.heap.size w w' := by
  obtain ⟨i0, hi, hz0, hz1, hz2⟩ := info_parts infoId
  have HI := Lib.hid hi
  clear hi
  refine (callsIn_wide (n := 8)).1 ?_
  refine callsIn_of_wp_marks Try.func47 rfl trivial ?_ rfl
  simp only [Try.ntmps47, List.size_toArray, List.length_cons, List.length_nil, Nat.reduceAdd, Nat.reduceSub, Array.replicate_succ, Array.replicate_zero, List.push_toArray, List.append_toArray, List.nil_append, List.cons_append]
  gi_wp2_with fail
  have bO := Boxed.new w 22 (.slice none 0 0)
  have hB0 : Below w.heap.size w (w.alloc (.cells #[.slice none 0 0] 22)) := (Below.refl _ w).alloc (Nat.le_refl _) _
  refine wpIn_rangeFunc_ownH rfl (by omega) (gf := 40) (lb := #[.pointer (some ⟨Bs, 0, none⟩)]) rfl trivial (enters_of Try.func40 (by kernel_rfl) rfl)
    (idvals_stops (8 - 1) (by omega) Bs w.heap.size ao c l hl _ (by simp; omega) (by simp) ((hB0.cell (p := ⟨Bs, 0, none⟩) hBs).trans hc) (hv.below hB0 (Nat.le_refl _))) belowK_t (belowK_b (by simp)) (Below.refl _ _) (fun _ => rfl)
    (ColI w.heap.size w.heap.size 22 24 w)
    (fun _ _ _ => False)
    (colI_own _ _ _ _ _ _ (Nat.le_refl _) (by simp))
    (fun _ _ _ _ _ hs _ _ => hs)
    ⟨⟨_, bO, World.ownsRow_nil _ _ _ _, trivial⟩, hB0⟩
    (fun x a' W => ∃ Bx, w.heap.size < Bx ∧ W.heap[Bx]? = some (.cells (encI x).toArray 24 (0, 0)) ∧ a' = { tmps := #[.slice none 0 0, .func (.func 40) #[] #[.pointer (some ⟨Bs, 0, none⟩)], .pointer (some ⟨w.heap.size, 0, none⟩), undef, .slice none 0 0, .pointer (some ⟨Bx, 0, none⟩), .func (.func 40) #[] #[.pointer (some ⟨Bs, 0, none⟩)], .agg (encI x).toArray, undef, undef, undef, undef, undef], defers := [] })
    (fun x a' _ X Y row hs hg hr => by obtain ⟨Bx, h1, h2, h3⟩ := hs; exact ⟨Bx, h1, blk_own Bx _ _ _ () X Y row h2 hg (fun r e => (hr r e).2), h3⟩)
    ?assign ?body ?done ?stop
  case assign =>
    rintro lp pre x W K ⟨⟨v, hv1, hrow, _⟩, hB⟩ hK
    have HS2 := Lib.hid ((idSize x).trans (by simp : some (encI x).length = some (encI x).toArray.size))
    have HO1 := Lib.hid (bytes_one x.1)
    simp only [iEnc]
    gi_wp2_with (refine wpListIn_store_abs rfl _ _ _ rfl W.heap.size (encI x).toArray rfl rfl 24 _ (heap_alloc_new W _) HS2.out (by simp [encI_len]) HO1.out ?_)
    intro w1 h1 g1
    have gg := grown_new g1
    gi_wp2
    have hWs := hB.size
    have hbl := hv1.lt
    have bb := (below_of_grown gg).mono hWs
    exact hK _ _ ((KeepsOthers.of_grownBy gg (fun j o e _ => by cases e)).from _) bb ⟨⟨v, hv1.kept gg (by simp), hrow.kept gg (by cases v.ownBlock <;> simp), trivial⟩, hB.trans bb⟩ ⟨W.heap.size, hbl, h1, rfl⟩
  case body =>
    rintro lp pre x a' W hlp ⟨r, hr⟩ ⟨⟨v, hv1, hrow, _⟩, hB⟩ ⟨Bx, hBx, hX, rfl⟩ hlt
    have hc1 := hv1.cell
    have hBs' := hB.size
    have hbl := hv1.lt
    have hx1 := Lib.hid (rangeAt_row hX)
    have HS := Lib.hid (idSize x)
    have hlm : pre.length + 1 ≤ maxLen := by unfold maxLen; omega
    have hlb : (pre.length + 1) * 32 ≤ 140737488355328 := by omega
    gi_wp2_with (first
      | (refine wpListIn_load_mid rfl _ _ rfl Bx 0 rfl (encI x) _ hx1.out Try.underlying24 rfl HS.out ?_)
      | (refine wpListIn_build1 rfl 22 24 _ rfl (encI x) rfl i0 _ Try.underlying22 HI.out hz0 (by rw [hz1, encI_len]) (by rw [encI_len]; omega) (by rw [encI_len]; omega) ?_)
      | (gi_at_builtin; refine wpListIn_append_own _ rfl _ _ 22 rfl w.heap.size 24 i0 _ 32 32 Try.underlying22 HI.out hz0 hz1 hz2 (by simp [Value.cells]) (by decide) _ _ _ rfl (hrow.alloc _) ⟨W.heap.size, 0, none⟩ 1 1 (encI x) rfl (by rw [encI_len]) (news_of_block0 (heap_alloc_new W _)) (encI_one x) hlm hlb (by rw [alloc_sz]; omega) ?_))
    intro v' w1 hown' hgrow _
    obtain ⟨g', cap', rfl⟩ := ownsRow_succ hown'
    obtain ⟨hv1', hv2, hr2, hk2, hb2⟩ := hv1.appended (by decide) hrow hBs' (Nat.le_refl _) hown' hgrow
    have hc2 := hv1'.cell
    have hf2 := hv1'.frozen
    gi_wp2
    exact ⟨hk2.from _, hb2, ⟨_, hv2, by rw [idcs_snoc]; simpa using hr2, trivial⟩, hB.trans hb2⟩
  case done =>
    rintro D ys W hD rfl ⟨⟨v, hv1, hrow, _⟩, hB⟩ hK
    have hc1 := hv1.cell
    gi_wp2
    refine ⟨by simp, .inl ⟨_, _, rfl, run_takeDeferred hK, ?_⟩⟩
    exact ⟨_, results_tmp rfl _ _ _, v, rfl, ownsRow_putObj hrow _ hK rfl, hB.trans (belowK_b (w := w) (Nat.le_refl _) W D _ _ (by simp at hD; omega) hK rfl rfl)⟩
  case stop =>
    rintro D c pre W _ _ h _
    exact h.elim

theorem collect_any (l : List I32) (hl : l.length ≤ 1000000) (ao : Option Addr) (c Bs : Nat) (w : World) (hv : IdsAt w.heap.size ao l w) (hBs : Bs < w.heap.size) (hc : w.cell? ⟨Bs, 0, none⟩ = some (.slice ao l.length c)) :
    Calls Try.prog 38 #[.func (.func 40) #[] #[.pointer (some ⟨Bs, 0, none⟩)]] w fun e w' => ∃ v, e = .returned v ∧
      w'.ownsRow w.heap.size 24 32 v l.length (idcs l) ∧ Below w.heap.size w w' := by
  have H := Lib.hid (appendSeq_any l hl ao c Bs w hv hBs hc)
  clear hv hBs hc
  go_enter Try.func38, Try.ntmps38
  go_wp2_with fail
  refine H.out.mono ?_
  rintro e w1 ⟨v, rfl, hr, b1⟩
  obtain ⟨_, a2, cap2, rfl, _, _⟩ := idsAt_of_owns hr
  go_wp2
  go_ret
  exact ⟨_, rfl, hr, b1⟩
theorem sorted_any (l : List I32) (hl : l.length ≤ 1000000) (ao : Option Addr) (c Bs : Nat) (w : World) (hv : IdsAt w.heap.size ao l w) (hBs : Bs < w.heap.size) (hc : w.cell? ⟨Bs, 0, none⟩ = some (.slice ao l.length c)) :
    Calls Try.prog 24 #[.func (.func 40) #[] #[.pointer (some ⟨Bs, 0, none⟩)], .func (.func 21) #[] #[]] w fun e w' => ∃ v, e = .returned v ∧
      w'.ownsRow w.heap.size 24 32 v l.length (idcs (sortI l)) ∧ Below w.heap.size w w' := by
  have H := Lib.hid (collect_any l hl ao c Bs w hv hBs hc)
  clear hv hBs hc
  go_enter Try.func24, Try.ntmps24
  go_wp2_with fail
  refine H.out.mono ?_
  rintro e w1 ⟨v, rfl, hr, b1⟩
  have HSrt := Lib.hid (sort_any w.heap.size l.length v l hl w1 hr)
  have hlt := hr.lt
  obtain ⟨_, a2, cap2, rfl, _, _⟩ := idsAt_of_owns hr
  go_wp2_with fail
  refine HSrt.out.mono ?_
  rintro e w2 ⟨rfl, hr2, g2⟩
  have b2 := b1.grown g2 b1.size (fun k hk => (hlt k hk).1)
  go_wp2
  go_ret
  exact ⟨_, rfl, hr2, b2⟩
end Go.Proofs.Ytnoilnmkdahhiaa
