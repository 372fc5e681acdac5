/- The contract of the iterator Runes. -/
import Derived.RangeFuncNested
import Derived.RangeFuncBound
import Derived.RangeFuncCalls
import Derived.RangeFuncLeaves
import Derived.Shelf.Abstract
import Derived.Shelf.RegionOpen
import Derived.WalkKit
import Derived.OwnWalkIn
import Derived.TacticsInMore
import Derived.LoopNIn
import Derived.LoopIn
import Derived.Test.YtefncnmahimgpaaRows
import Derived.Test.YtefncnmahimgpaaBase
import Derived.Test.YtefncnmahimgpaaUCheck
import Derived.Lib.Hide
import Derived.Outline
namespace Go.Proofs.Ytefncnmahimgpaa
open Go.RowKit Go.Shelf
attribute [local go_sem] Oper.semAt_some

theorem runes_any (s : ByteArray) (w : World) :
    Calls Try.prog 26 #[.string s] w fun e w' => e = .returned (.func (.func 45) #[] #[.pointer (some ⟨w.heap.size, 0, none⟩)]) ∧ w' = w.alloc (.cells #[.string s] 9) := by
  go_enter Try.func26, Try.ntmps26
  go_wp2
  go_ret
  exact ⟨rfl, rfl⟩

/-- a code point with its place, as the loop's variables -/
def rEnc (x : Nat × Nat) : Array Value := #[.int .i64 (x.1 : Int), .int .i32 (x.2 : Int)]

set_option maxRecDepth 100000 in
set_option maxHeartbeats 2000000 in
theorem runes1_in (n : Nat) (hn : 3 ≤ n) (l Bs n₀ : Nat) (s : ByteArray) (hs : s.size ≤ 1000000) (hBs0 : Bs < n₀) (J Jx : List (Nat × Nat) → World → Prop) (W : World) (hJ : AbidesFrom W.heap.size J)
    (hY : ∀ pre x W1, J pre W1 → pre.length < (pAll s.data.toList 0).1.length → YieldAt Fence.wide (n - 1) Try.prog l (rEnc x) W1 fun e W' =>
      (e = .returned (.bool true) ∧ J (pre ++ [x]) W' ∧ Below n₀ W1 W') ∨ (e = .returned (.bool false) ∧ Jx (pre ++ [x]) W'))
    (hn0 : n₀ ≤ W.heap.size) (hBs : W.cell? ⟨Bs, 0, none⟩ = some (.string s)) (h0 : J [] W) :
    CallsIn Fence.wide n Try.prog 45 #[.func (.yield l) #[] #[], .pointer (some ⟨Bs, 0, none⟩)] W fun e W' => (∃ v, e = .returned v) ∧
      ((∃ ys, ys = (pAll s.data.toList 0).1 ∧ J ys W') ∨ (∃ pre, pre <+: (pAll s.data.toList 0).1 ∧ Jx pre W')) := by
  have HL : Hid (s.data.toList.length = s.size) := Lib.hid (by simp)
  refine callsIn_of_wp Try.func45 rfl trivial ?_ rfl
  simp only [Try.ntmps45, List.size_toArray, List.length_cons, List.length_nil, Nat.reduceAdd, Nat.reduceSub, Array.replicate_succ, Array.replicate_zero, List.push_toArray, List.append_toArray, List.nil_append, List.cons_append]
  gi_wp2
  gi_loopw [3] (fun i wr => ∃ (k : Nat) (pre : List (Nat × Nat)), k ≤ s.size ∧ i = .int .i64 k ∧ Hid (pre ++ (pAll s.data.toList k).1 = (pAll s.data.toList 0).1) ∧ J pre wr ∧ Below n₀ W wr) (fun i _ => s.size - (intOf i).toNat)
  case atStart => exact ⟨0, [], Nat.zero_le _, rfl, Lib.hid rfl, h0, Below.refl _ _⟩
  case round =>
    obtain ⟨k, pre, hk, rfl, HP, hJs, hB⟩ := hrel
    have hBsr : wr.cell? ⟨Bs, 0, none⟩ = some (.string s) := (hB.cell (p := ⟨Bs, 0, none⟩) hBs0).trans hBs
    by_cases hlt : k < s.size
    · have hlti : (k : Int) < (s.size : Int) := by omega
      have HF0 := first_any (s.extract k s.size) (by rw [ByteArray.size_extract]; omega) (by rw [ByteArray.size_extract]; unfold maxLen; omega)
      rw [drop_list] at HF0
      have HF' := Lib.hid HF0
      have hok := @pFirst_ok (s.data.toList.drop k)
      have HE : Hid ((pFirst (s.data.toList.drop k)).2.2 ≠ 0 → (pAll s.data.toList k) = ([], k, (pFirst (s.data.toList.drop k)).2.2)) := Lib.hid (fun h => pAll_err (by rw [HL.out]; exact hlt) h)
      have HO : Hid ((pFirst (s.data.toList.drop k)).2.2 = 0 → (pAll s.data.toList k) = ((k, (pFirst (s.data.toList.drop k)).1) :: (pAll s.data.toList (k + (pFirst (s.data.toList.drop k)).2.1)).1, (pAll s.data.toList (k + (pFirst (s.data.toList.drop k)).2.1)).2)) := Lib.hid (fun h => pAll_ok (by rw [HL.out]; exact hlt) h)
      have hlen : (s.data.toList.drop k).length = s.size - k := by simp
      rw [hlen] at hok
      clear HF0 hlen
      generalize pFirst (s.data.toList.drop k) = p at *
      obtain ⟨r, m, e⟩ := p
      dsimp only at hok HF' HE HO
      gi_wp2_with fail
      refine ⟨trivial, fun _ => by omega, (callsIn_wide.2 (HF'.out _)).mono ?_⟩
      rintro e w1 ⟨rfl, b1⟩
      have hWs : W.heap.size ≤ wr.heap.size := hB.size
      have g1 : wr.grownBy w1 none := ⟨b1.os, b1.tape, b1.output, b1.size, fun q hq _ => b1.block q hq⟩
      have hJ1 := hJ _ _ _ _ hJs g1 (fun r h => by cases h)
      have c1 := hB.trans (b1.mono (Nat.le_trans hn0 hWs))
      clear hJs g1 hB b1
      cases he : ((e : Int) != 0)
      · have h0 : e = 0 := by simpa using he
        have hn' := hok h0
        have HO' := HO.out h0
        have hpl : pre.length < (pAll s.data.toList 0).1.length := by rw [← HP.out, HO']; simp
        have H3 : Hid ((pre ++ [(k, r)]) ++ (pAll s.data.toList (k + m)).1 = (pAll s.data.toList 0).1) := Lib.hid (by rw [← HP.out, HO']; simp)
        obtain ⟨fn, tmps, assign, body, hy, hR⟩ := hY pre (k, r) w1 hJ1 hpl
        dsimp only [rEnc] at hy
        clear hok HE HO HO' HP
        gi_wp2_with fail
        refine ⟨fun _ => by omega, hR.mono ?_⟩
        rintro e W3 (⟨rfl, hJ3, hk3⟩ | ⟨rfl, hJx3⟩)
        · gi_wp2
          go_roundw
          case rel => exact ⟨k + m, pre ++ [(k, r)], by omega, by go_num, H3, hJ3, c1.trans hk3⟩
          case measure => simp [intOf]; omega
        · gi_wp2
          refine bodyPost_ret (results_none rfl _ _ _) rfl ?_
          exact ⟨⟨_, rfl⟩, .inr ⟨pre ++ [(k, r)], ⟨_, H3.out⟩, hJx3⟩⟩
      · have h0 : e ≠ 0 := by simpa using he
        have hall : pre = (pAll s.data.toList 0).1 := by rw [← HP.out, HE.out h0]; simp
        clear hok HE HO HP
        gi_wp2_with fail
        refine ⟨fun _ h => (by cases h), ?_⟩
        gi_wp2
        refine bodyPost_ret (results_none rfl _ _ _) rfl ?_
        exact ⟨⟨_, rfl⟩, .inl ⟨_, rfl, hall ▸ hJ1⟩⟩
    · have hlti : ¬ (k : Int) < (s.size : Int) := by omega
      have hall : pre = (pAll s.data.toList 0).1 := by rw [← HP.out, pAll_end (by rw [HL.out]; exact hlt)]; simp
      gi_wp2
      go_end0
      rw [hall] at hJs
      exact ⟨⟨_, rfl⟩, .inl hJs⟩

/-- what Runes answers hands all code points with their places to the loop's body, up to the first error, till the body says no more -/
theorem runes_stops (n : Nat) (hn : 3 ≤ n) (Bs n₀ : Nat) (s : ByteArray) (hs : s.size ≤ 1000000) (w : World) (hBs : Bs < n₀) (hn₀ : n₀ ≤ w.heap.size) (hc : w.cell? ⟨Bs, 0, none⟩ = some (.string s)) :
    SeqStopsK Fence.wide n Try.prog 45 #[.pointer (some ⟨Bs, 0, none⟩)] rEnc (Below n₀) (fun ys => ys = (pAll s.data.toList 0).1) (fun pre => pre <+: (pAll s.data.toList 0).1) (pAll s.data.toList 0).1.length w := fun l J Jx W hW hJ _ hY h0 =>
  runes1_in n hn l Bs n₀ s hs hBs J Jx W hJ hY (Nat.le_trans hn₀ hW.size) ((hW.cell (p := ⟨Bs, 0, none⟩) (Nat.lt_of_lt_of_le hBs hn₀)).trans hc) h0
end Go.Proofs.Ytefncnmahimgpaa
