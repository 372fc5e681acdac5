/- The iterator slices.Chunk at bytes, where the length is a multiple of the parts'. -/
import Derived.RangeFuncWrites
import Derived.RangeFuncNested
import Derived.RangeFuncBound
import Derived.RangeFuncCalls
import Derived.RangeFuncLeaves
import Derived.Shelf.Abstract
import Derived.Shelf.RegionOpen
import Derived.WalkKit
import Derived.OwnWalkIn
import Derived.TacticsInMore
import Derived.LoopNIn
import Derived.LoopIn
import Derived.Test.YtblidphaolgilaaIn
import Derived.Test.YtblidphaolgilaaHiA
import Derived.Deep.QuietTactic
import Derived.BigQuiet
namespace Go.Proofs.Ytblidphaolgilaa
open Go.RowKit Go.Maps Go.Shelf
attribute [local go_sem] Oper.semAt_some
set_option linter.unusedSimpArgs false
set_option linter.unusedVariables false

theorem chunk_any (ao : Option Addr) (n c : Nat) (w : World) :
    Calls Try.prog 57 #[.slice ao n c, .int .i64 41] w fun e w' => e = .returned (.func (.func 69) #[] #[.pointer (some ⟨w.heap.size, 0, none⟩), .pointer (some ⟨w.heap.size + 1, 0, none⟩)]) ∧ w' = (w.alloc (.cells #[.slice ao n c] 64)).alloc (.cells #[.int .i64 41] 3) := by
  go_enter Try.func57, Try.ntmps57
  go_wp2
  go_ret
  exact ⟨rfl, rfl⟩

/-- a part as a loop's variable -/
def cEnc (g o : Nat) {n : Nat} (i : Fin n) : Array Value := #[.slice (some ⟨g, o + i.1 * 41, none⟩) 41 41]
/-- two blocks lie as they lay -/
structure KeepTwo (B C : Nat) (W W' : World) : Prop where
  size : W.heap.size ≤ W'.heap.size
  b : W'.heap[B]? = W.heap[B]?
  c : W'.heap[C]? = W.heap[C]?
theorem KeepTwo.t {B C : Nat} {X Y Z : World} (h : KeepTwo B C X Y) (k : KeepTwo B C Y Z) : KeepTwo B C X Z := ⟨Nat.le_trans h.size k.size, k.b.trans h.b, k.c.trans h.c⟩
theorem KeepTwo.b_ {B C : Nat} {w : World} (hB : B < w.heap.size) (hC : C < w.heap.size) (W : World) (l : Nat) (o o' : Obj) (hl : w.heap.size ≤ l) (h : W.heap[l]? = some o) (hc : o.isCells = false) (_ : o.isWalk = false) : KeepTwo B C W (W.putObj l o') := by
  have hlt : l < W.heap.size := (Array.getElem?_eq_some_iff.1 h).1
  exact ⟨(grownBy_putObj' W l o').size, (grownBy_putObj' W l o').block B (by omega) (fun e => by cases e; omega), (grownBy_putObj' W l o').block C (by omega) (fun e => by cases e; omega)⟩

set_option maxRecDepth 100000 in
set_option maxHeartbeats 4000000 in
theorem chunk1_in (m : Nat) (hm : 1 ≤ m) (lp B C g o : Nat) (ao : Option Addr) (n c : Nat) (hn : n ≤ 100000) (hc : n * 41 ≤ c) (hcm : c ≤ maxLen) (hao : 0 < n → ao = some ⟨g, o, none⟩) (J Jx : List (Fin n) → World → Prop) (W : World) (hJ : AbidesFrom W.heap.size J)
    (hY : ∀ pre x W1, J pre W1 → pre.length < n → YieldAt Fence.wide (m - 1) Try.prog lp (cEnc g o x) W1 fun e W' =>
      (e = .returned (.bool true) ∧ J (pre ++ [x]) W' ∧ KeepTwo B C W1 W') ∨ (e = .returned (.bool false) ∧ Jx (pre ++ [x]) W'))
    (hB : W.cell? ⟨B, 0, none⟩ = some (.slice ao (n * 41) c)) (hC : W.cell? ⟨C, 0, none⟩ = some (.int .i64 41)) (h0 : J [] W) :
    CallsIn Fence.wide m Try.prog 69 #[.func (.yield lp) #[] #[], .pointer (some ⟨B, 0, none⟩), .pointer (some ⟨C, 0, none⟩)] W fun e W' => (∃ v, e = .returned v) ∧
      ((∃ ys, ys = List.finRange n ∧ J ys W') ∨ (∃ pre, pre <+: List.finRange n ∧ Jx pre W')) := by
  have hcell : ∀ (W' : World) (k : Nat) (v : Value), W'.heap[k]? = W.heap[k]? → W.cell? ⟨k, 0, none⟩ = some v → W'.cell? ⟨k, 0, none⟩ = some v := fun W' k v h1 h2 => by
    unfold World.cell? at *; rw [h1]; exact h2
  have HCELL := Lib.hid hcell
  clear hcell
  refine callsIn_of_wp Try.func69 rfl trivial ?_ rfl
  simp only [Try.ntmps69, List.size_toArray, List.length_cons, List.length_nil, Nat.reduceAdd, Nat.reduceSub, Array.replicate_succ, Array.replicate_zero, List.push_toArray, List.append_toArray, List.nil_append, List.cons_append]
  have HB0 := Lib.hid hB
  have HC0 := Lib.hid hC
  clear hB hC
  gi_wp2
  gi_loopw [4] (fun i wr => ∃ k : Nat, k ≤ n ∧ i = .int .i64 (k * 41 : Nat) ∧ J ((List.finRange n).take k) wr ∧ KeepTwo B C W wr) (fun i _ => n * 41 - (intOf i).toNat)
  case atStart => exact ⟨0, Nat.zero_le _, rfl, by simpa using h0, ⟨Nat.le_refl _, rfl, rfl⟩⟩
  case round =>
    obtain ⟨k, hk, rfl, hJs, hK⟩ := hrel
    have hcB := HCELL.out wr B _ hK.b HB0.out
    have hcC := HCELL.out wr C _ hK.c HC0.out
    by_cases hlt : k < n
    · obtain rfl := hao (by omega)
      have hlti : ((k * 41 : Nat) : Int) < ((n * 41 : Nat) : Int) := by omega
      have HT : Hid ((List.finRange n).take (k + 1) = (List.finRange n).take k ++ [⟨k, hlt⟩]) := Lib.hid (by
        rw [List.take_succ_eq_append_getElem (by simpa using hlt)]; simp)
      have HPr : Hid ((List.finRange n).take k ++ [⟨k, hlt⟩] <+: List.finRange n) := Lib.hid (by rw [← HT.out]; exact List.take_prefix _ _)
      have htl : Hid (((List.finRange n).take k).length < n) := Lib.hid (by rw [List.length_take]; simp; omega)
      obtain ⟨L, hL⟩ : ∃ L, L = n * 41 := ⟨_, rfl⟩
      obtain ⟨i, hi⟩ : ∃ i, i = k * 41 := ⟨_, rfl⟩
      rw [← hi]
      rw [← hi, ← hL] at hlti
      rw [← hL] at hcB
      have hi41 : i + 41 ≤ L := by omega
      have hLc : L ≤ c := by omega
      have h1 : (i : Int) + 41 ≤ (L : Int) := by omega
      have h2 : (i : Int) + 41 ≤ (c : Int) := by omega
      have h3 : (i : Int) ≤ (L : Int) := by omega
      have h5 : (i : Int) + 41 ≤ 5000000 := by omega
      have h0i : (0 : Int) ≤ (i : Int) := by omega
      have hHI := Lib.hid hi
      have hHL := Lib.hid hL
      clear hi hL
      gi_wp2_with fail
      refine wpIn_wide.2 ?_
      go_quiet (fail)
      have hmin : min (41 : Int) ((L - i : Nat) : Int) = 41 := by omega
      rw [hmin]
      clear hmin
      generalize hw2 : World.drewN wr _ = w2
      have hg2 : wr.grownBy w2 none := by rw [← hw2]; exact ⟨rfl, rfl, rfl, Nat.le_refl _, fun _ _ _ => rfl⟩
      have hcB2 : w2.cell? ⟨B, 0, none⟩ = some (.slice (some ⟨g, o, none⟩) L c) := by rw [← hw2]; exact hcB
      have hcC2 : w2.cell? ⟨C, 0, none⟩ = some (.int .i64 41) := by rw [← hw2]; exact hcC
      have hK2 : KeepTwo B C W w2 := by rw [← hw2]; exact ⟨hK.size, hK.b, hK.c⟩
      obtain ⟨fn, tmps, assign, body, hy, hR⟩ := hY _ ⟨k, hlt⟩ w2 (hJ _ _ _ _ hJs hg2 (fun r h => by cases h)) htl.out
      dsimp only [cEnc] at hy
      rw [← hHI.out] at hy
      clear hw2 hcB hcC hJs hg2 hK
      have h4 : ((i : Int) + 41).toNat - i = 41 := by omega
      gi_wp2_with fail
      refine hR.mono ?_
      rintro e W3 (⟨rfl, hJ3, hk3⟩ | ⟨rfl, hJx3⟩)
      · rw [← HT.out] at hJ3
        have hK3 := hK2.t hk3
        have hcC3 := HCELL.out W3 C _ hK3.c HC0.out
        clear hK2 hk3
        gi_wp2
        go_roundw
        case rel => exact ⟨k + 1, by omega, by have := hHI.out; rw [show (k + 1) * 41 = i + 41 by omega]; go_num, hJ3, hK3⟩
        case measure => have := hHI.out; have := hHL.out; simp [intOf]; omega
      · gi_wp2
        refine bodyPost_ret (results_none rfl _ _ _) rfl ?_
        exact ⟨⟨_, rfl⟩, .inr ⟨_, HPr.out, hJx3⟩⟩
    · have hlti : ¬ ((k * 41 : Nat) : Int) < ((n * 41 : Nat) : Int) := by omega
      have hkl : (List.finRange n).take k = List.finRange n := List.take_of_length_le (by simp; omega)
      rw [hkl] at hJs
      clear hkl
      generalize k * 41 = i at *
      generalize n * 41 = L at *
      gi_wp2
      go_end0
      exact ⟨⟨_, rfl⟩, .inl hJs⟩
theorem chunk_stops (m : Nat) (hm : 1 ≤ m) (B C g o : Nat) (ao : Option Addr) (n c : Nat) (hn : n ≤ 100000) (hc : n * 41 ≤ c) (hcm : c ≤ maxLen) (hao : 0 < n → ao = some ⟨g, o, none⟩) (w : World) (hB : B < w.heap.size) (hC : C < w.heap.size) (hcB : w.cell? ⟨B, 0, none⟩ = some (.slice ao (n * 41) c)) (hcC : w.cell? ⟨C, 0, none⟩ = some (.int .i64 41)) :
    SeqStopsK Fence.wide m Try.prog 69 #[.pointer (some ⟨B, 0, none⟩), .pointer (some ⟨C, 0, none⟩)] (cEnc g o (n := n)) (KeepTwo B C) (fun ys => ys = List.finRange n) (fun pre => pre <+: List.finRange n) n w := fun lp J Jx W hW hJ _ hY h0 =>
  chunk1_in m hm lp B C g o ao n c hn hc hcm hao J Jx W hJ hY ((hW.cell (p := ⟨B, 0, none⟩) hB).trans hcB) ((hW.cell (p := ⟨C, 0, none⟩) hC).trans hcC) h0
end Go.Proofs.Ytblidphaolgilaa
