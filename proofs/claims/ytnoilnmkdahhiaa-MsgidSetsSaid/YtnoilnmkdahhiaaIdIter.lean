/- The iterator slices.Values at identities; AppendSeq, Collect, SortedFunc over it. -/
import Derived.RangeFuncNested
import Derived.RangeFuncBound
import Derived.RangeFuncBox
import Derived.RangeFuncCalls
import Derived.RangeFuncLeaves
import Derived.Shelf.Abstract
import Derived.Shelf.RegionOpen
import Derived.WalkKit
import Derived.OwnWalkIn
import Derived.TacticsInMore
import Derived.LoopNIn
import Derived.LoopIn
import Derived.Maps.AppendAt
import Derived.Test.YtnoilnmkdahhiaaRows
import Derived.Test.YtnoilnmkdahhiaaIds
import Derived.Test.YtnoilnmkdahhiaaIdTo
import Derived.Test.YtnoilnmkdahhiaaIn
import Derived.Test.YtnoilnmkdahhiaaBuild1
import Derived.Lib.Hide
import Derived.Outline
namespace Go.Proofs.Ytnoilnmkdahhiaa
open Go.RowKit Go.Shelf
attribute [local go_sem] Oper.semAt_some

theorem rangeAt_row {w : World} {g : Nat} {cs : List Value} {t : TypeId} {fr : Nat × Nat} (h : w.heap[g]? = some (.cells cs.toArray t fr)) : w.rangeAt g 0 cs := fun j v hv => by
  rw [Nat.zero_add, cell_of_row w g j cs.toArray t fr h]; simpa using hv

theorem grown_new {w w1 : World} {o : Obj} (h : (w.alloc o).grownBy w1 (some w.heap.size)) : w.grownBy w1 none :=
  ⟨h.os, h.tape, h.output, by have := h.size; simp at this; omega, fun k hk _ => by
    rw [h.block k (by simp; omega) (by intro e; cases e; omega)]
    exact Below.heap_alloc w o k hk⟩
theorem below_of_grown {w w1 : World} (h : w.grownBy w1 none) : Below w.heap.size w w1 := ⟨h.os, h.tape, h.output, h.size, fun k hk => h.block k hk (by simp)⟩
theorem values_any (ao : Option Addr) (n c : Nat) (w : World) :
    Calls Try.prog 25 #[.slice ao n c] w fun e w' => e = .returned (.func (.func 40) #[] #[.pointer (some ⟨w.heap.size, 0, none⟩)]) ∧ w' = w.alloc (.cells #[.slice ao n c] 22) := by
  go_enter Try.func25, Try.ntmps25
  go_wp2
  go_ret
  exact ⟨rfl, rfl⟩

/-- an identity as a loop's variable -/
def iEnc (x : I32) : Array Value := #[.agg (encI x).toArray]

set_option maxRecDepth 100000 in
set_option maxHeartbeats 2000000 in
theorem idvals1_in (n : Nat) (hn : 1 ≤ n) (lp Bs n₀ : Nat) (ao : Option Addr) (c : Nat) (l : List I32) (hl : l.length ≤ 1000000) (J Jx : List I32 → World → Prop) (W : World) (hJ : AbidesFrom W.heap.size J)
    (hY : ∀ pre x W1, J pre W1 → pre.length < l.length → YieldAt Fence.wide (n - 1) Try.prog lp (iEnc x) W1 fun e W' =>
      (e = .returned (.bool true) ∧ J (pre ++ [x]) W' ∧ Below n₀ W1 W') ∨ (e = .returned (.bool false) ∧ Jx (pre ++ [x]) W'))
    (hn0 : n₀ ≤ W.heap.size) (hBs : W.cell? ⟨Bs, 0, none⟩ = some (.slice ao l.length c)) (hv : IdsAt n₀ ao l W) (h0 : J [] W) :
    CallsIn Fence.wide n Try.prog 40 #[.func (.yield lp) #[] #[], .pointer (some ⟨Bs, 0, none⟩)] W fun e W' => (∃ v, e = .returned v) ∧
      ((∃ ys, ys = l ∧ J ys W') ∨ (∃ pre, pre <+: l ∧ Jx pre W')) := by
  have HV := Lib.hid hv
  clear hv
  refine callsIn_of_wp Try.func40 rfl trivial ?_ rfl
  simp only [Try.ntmps40, List.size_toArray, List.length_cons, List.length_nil, Nat.reduceAdd, Nat.reduceSub, Array.replicate_succ, Array.replicate_zero, List.push_toArray, List.append_toArray, List.nil_append, List.cons_append]
  gi_wp2
  gi_loopw [7] (fun i wr => ∃ k : Nat, k ≤ l.length ∧ i = .int .i64 k ∧ J (l.take k) wr ∧ Below n₀ W wr) (fun i _ => l.length - (intOf i).toNat)
  case atStart => exact ⟨0, Nat.zero_le _, rfl, by simpa using h0, Below.refl _ _⟩
  case round =>
    obtain ⟨k, hk, rfl, hJs, hB⟩ := hrel
    by_cases hlt : k < l.length
    · have hlti : (k : Int) < (l.length : Int) := by omega
      have hk0 : (0 : Int) ≤ (k : Int) := by omega
      obtain ⟨g, o, rfl, hg, hr⟩ := HV.out.at hlt
      have HR := Lib.hid (rangeAt_below hr hB hg)
      have HT : Hid (l.take (k + 1) = l.take k ++ [l[k]]) := Lib.hid (List.take_succ_eq_append_getElem hlt)
      have HPr : Hid (l.take k ++ [l[k]] <+: l) := Lib.hid (by rw [← List.take_succ_eq_append_getElem hlt]; exact List.take_prefix _ _)
      have htl : Hid ((l.take k).length < l.length) := Lib.hid (by rw [List.length_take]; omega)
      clear hr
      generalize l[k] = x at *
      have HS := Lib.hid (idSize x)
      have HS2 := Lib.hid (HS.out.trans (by simp : some (encI x).length = some (encI x).toArray.size))
      have HO1 := Lib.hid (bytes_one x.1)
      have hWr : W.heap.size ≤ wr.heap.size := hB.size
      gi_wp2_with (first
        | (refine wpListIn_load_mid rfl _ _ rfl g (o + k * 32) rfl (encI x) _ HR.out Try.underlying24 rfl HS.out ?_)
        | (refine wpListIn_store_abs rfl _ _ _ rfl wr.heap.size (encI x).toArray rfl rfl 24 _ (heap_alloc_new wr _) HS2.out (by simp [encI_len]) HO1.out ?_))
      intro w1 h1 g1
      have hx1 := Lib.hid (rangeAt_row h1)
      have gg := grown_new g1
      have hB1 := hB.trans ((below_of_grown gg).mono (Nat.le_trans hn0 hWr))
      obtain ⟨fn, tmps, assign, body, hy, hR⟩ := hY (l.take k) x w1 (hJ _ _ _ _ hJs gg (fun r h => by cases h)) htl.out
      dsimp only [iEnc] at hy
      clear h1 g1 gg hB hJs
      gi_wp2_with (refine wpListIn_load_mid rfl _ _ rfl wr.heap.size 0 rfl (encI x) _ hx1.out Try.underlying24 rfl HS.out ?_)

      refine hR.mono ?_
      rintro e W3 (⟨rfl, hJ3, hk3⟩ | ⟨rfl, hJx3⟩)
      · rw [← HT.out] at hJ3
        have hB3 := hB1.trans hk3
        clear hB1 hk3
        gi_wp2
        go_roundw
        case rel => exact ⟨k + 1, by omega, by go_num, hJ3, hB3⟩
        case measure => simp [intOf]; omega
      · gi_wp2
        refine bodyPost_ret (results_none rfl _ _ _) rfl ?_
        exact ⟨⟨_, rfl⟩, .inr ⟨_, HPr.out, hJx3⟩⟩
    · have hlti : ¬ (k : Int) < (l.length : Int) := by omega
      have hkl : l.take k = l := List.take_of_length_le (by omega)
      rw [hkl] at hJs
      clear hkl HV
      gi_wp2
      go_end0
      exact ⟨⟨_, rfl⟩, .inl hJs⟩

theorem idvals_stops (n : Nat) (hn : 1 ≤ n) (Bs n₀ : Nat) (ao : Option Addr) (c : Nat) (l : List I32) (hl : l.length ≤ 1000000) (w : World) (hBs : Bs < w.heap.size) (hn0 : n₀ ≤ w.heap.size) (hc : w.cell? ⟨Bs, 0, none⟩ = some (.slice ao l.length c)) (hv : IdsAt n₀ ao l w) :
    SeqStopsK Fence.wide n Try.prog 40 #[.pointer (some ⟨Bs, 0, none⟩)] iEnc (Below n₀) (fun ys => ys = l) (fun pre => pre <+: l) l.length w := fun lp J Jx W hW hJ _ hY h0 =>
  idvals1_in n hn lp Bs n₀ ao c l hl J Jx W hJ hY (Nat.le_trans hn0 hW.size) ((hW.cell (p := ⟨Bs, 0, none⟩) hBs).trans hc) (hv.below hW hn0) h0
end Go.Proofs.Ytnoilnmkdahhiaa
