/- The contract of the iterator Runes. -/
import Derived.RangeFuncNested
import Derived.RangeFuncBound
import Derived.RangeFuncCalls
import Derived.RangeFuncLeaves
import Derived.Shelf.Abstract
import Derived.Shelf.RegionOpen
import Derived.WalkKit
import Derived.OwnWalkIn
import Derived.TacticsInMore
import Derived.LoopNIn
import Derived.LoopIn
import Derived.Test.YtefncnmahimgpaaRows
import Derived.Test.YtefncnmahimgpaaBase
import Derived.Test.YtefncnmahimgpaaUCheck

import Derived.Lib.Hide
import Derived.Outline
namespace Go.Proofs.Ytefncnmahimgpaa
open Go.RowKit Go.Shelf
attribute [local go_sem] Oper.semAt_some

theorem runes_any (s : ByteArray) (w : World) :
    Calls Try.prog 26 #[.string s] w fun e w' => e = .returned (.func (.func 45) #[] #[.pointer (some ⟨w.heap.size, 0, none⟩)]) ∧ w' = w.alloc (.cells #[.string s] 9) := by
  go_enter Try.func26, Try.ntmps26
  go_wp2
  go_ret
  exact ⟨rfl, rfl⟩

/-- a code point with its place, as the loop's variables -/
def rEnc (x : Nat × Nat) : Array Value := #[.int .i64 (x.1 : Int), .int .i32 (x.2 : Int)]

/-- a box that a round leaves as it was -/
def KeepsAt (Bs : Nat) (W W' : World) : Prop := ∀ v, W.cell? ⟨Bs, 0, none⟩ = some v → W'.cell? ⟨Bs, 0, none⟩ = some v
theorem keepsAt_t {Bs : Nat} {A B C : World} (h : KeepsAt Bs A B) (k : KeepsAt Bs B C) : KeepsAt Bs A C := fun v hv => k v (h v hv)
theorem keepsAt_b {w : World} {Bs : Nat} (W : World) (l : Nat) (o o' : Obj) (_ : w.heap.size ≤ l) (h : W.heap[l]? = some o) (hc : o.isCells = false) (_ : o.isWalk = false) : KeepsAt Bs W (W.putObj l o') :=
  fun _ hv => cell_kept hv (grownBy_putObj' W l o') (fun r e => by cases e; exact ⟨o, h, hc⟩)
theorem keepsAt_below {Bs n₀ : Nat} (hB : Bs < n₀) {A B : World} (h : Below n₀ A B) : KeepsAt Bs A B := fun _ hv => (h.cell (p := ⟨Bs, 0, none⟩) hB).trans hv
theorem keepsAt_refl (Bs : Nat) (W : World) : KeepsAt Bs W W := fun _ h => h
theorem keepsAt_set {Bs b : Nat} (hb : b ≠ Bs) (W : World) (v : Value) : KeepsAt Bs W (W.setCell ⟨b, 0, none⟩ v) := fun u hu => by
  rw [World.cell?_setCell_other _ _ _ _ (by simp)]; exact hu

theorem cell_lt {W : World} {a : Addr} {v : Value} (h : W.cell? a = some v) : a.block < W.heap.size := by
  unfold World.cell? at h
  cases hb : W.heap[a.block]? with
  | none => simp [hb] at h
  | some o => exact (Array.getElem?_eq_some_iff.1 hb).1

set_option maxRecDepth 100000 in
set_option maxHeartbeats 2000000 in
theorem runes1_in (n : Nat) (hn : 3 ≤ n) (l Bs : Nat) (s : ByteArray) (hs : s.size ≤ 1000000) (J Jx : List (Nat × Nat) → World → Prop) (W : World) (hJ : AbidesFrom W.heap.size J)
    (hY : ∀ pre x W1, J pre W1 → pre.length < (pAll s.data.toList 0).1.length → x.2 < 33554432 → YieldAt Fence.wide (n - 1) Try.prog l (rEnc x) W1 fun e W' =>
      (e = .returned (.bool true) ∧ J (pre ++ [x]) W' ∧ KeepsAt Bs W1 W') ∨ (e = .returned (.bool false) ∧ Jx (pre ++ [x]) W'))
    (hBs : W.cell? ⟨Bs, 0, none⟩ = some (.string s)) (h0 : J [] W) :
    CallsIn Fence.wide n Try.prog 45 #[.func (.yield l) #[] #[], .pointer (some ⟨Bs, 0, none⟩)] W fun e W' => (∃ v, e = .returned v) ∧
      ((∃ ys, ys = (pAll s.data.toList 0).1 ∧ J ys W') ∨ (∃ pre, pre <+: (pAll s.data.toList 0).1 ∧ Jx pre W')) := by
  have HL : Hid (s.data.toList.length = s.size) := Lib.hid (by simp)
  refine callsIn_of_wp Try.func45 rfl trivial ?_ rfl
  simp only [Try.ntmps45, List.size_toArray, List.length_cons, List.length_nil, Nat.reduceAdd, Nat.reduceSub, Array.replicate_succ, Array.replicate_zero, List.push_toArray, List.append_toArray, List.nil_append, List.cons_append]
  gi_wp2
  gi_loopw [3] (fun i wr => ∃ (k : Nat) (pre : List (Nat × Nat)), k ≤ s.size ∧ i = .int .i64 k ∧ Hid (pre ++ (pAll s.data.toList k).1 = (pAll s.data.toList 0).1) ∧ J pre wr ∧ wr.cell? ⟨Bs, 0, none⟩ = some (.string s)) (fun i _ => s.size - (intOf i).toNat)
  case atStart => exact ⟨0, [], Nat.zero_le _, rfl, Lib.hid rfl, h0, hBs⟩
  case round =>
    obtain ⟨k, pre, hk, rfl, HP, hJs, hBsr⟩ := hrel
    by_cases hlt : k < s.size
    · have hlti : (k : Int) < (s.size : Int) := by omega
      have HF0 := first_any (s.extract k s.size) (by rw [ByteArray.size_extract]; omega) (by rw [ByteArray.size_extract]; unfold maxLen; omega)
      rw [drop_list] at HF0
      have HF' := Lib.hid HF0
      have hok := @pFirst_ok (s.data.toList.drop k)
      have hbd := @pFirst_lt (s.data.toList.drop k)
      have HE : Hid ((pFirst (s.data.toList.drop k)).2.2 ≠ 0 → (pAll s.data.toList k) = ([], k, (pFirst (s.data.toList.drop k)).2.2)) := Lib.hid (fun h => pAll_err (by rw [HL.out]; exact hlt) h)
      have HO : Hid ((pFirst (s.data.toList.drop k)).2.2 = 0 → (pAll s.data.toList k) = ((k, (pFirst (s.data.toList.drop k)).1) :: (pAll s.data.toList (k + (pFirst (s.data.toList.drop k)).2.1)).1, (pAll s.data.toList (k + (pFirst (s.data.toList.drop k)).2.1)).2)) := Lib.hid (fun h => pAll_ok (by rw [HL.out]; exact hlt) h)
      have hlen : (s.data.toList.drop k).length = s.size - k := by simp
      rw [hlen] at hok
      clear HF0 hlen
      generalize pFirst (s.data.toList.drop k) = p at *
      obtain ⟨r, m, e⟩ := p
      dsimp only at hok hbd HF' HE HO
      gi_wp2_with fail
      refine ⟨trivial, fun _ => by omega, (callsIn_wide.2 (HF'.out _)).mono ?_⟩
      rintro e w1 ⟨rfl, b1⟩
      have c1 : w1.cell? ⟨Bs, 0, none⟩ = some (.string s) := (b1.cell (p := ⟨Bs, 0, none⟩) (cell_lt hBsr)).trans hBsr
      have g1 : wr.grownBy w1 none := ⟨b1.os, b1.tape, b1.output, b1.size, fun q hq _ => b1.block q hq⟩
      have hJ1 := hJ _ _ _ _ hJs g1 (fun r h => by cases h)
      clear hJs g1 hBsr b1
      cases he : ((e : Int) != 0)
      · have h0 : e = 0 := by simpa using he
        have hn' := hok h0
        have HO' := HO.out h0
        have hpl : pre.length < (pAll s.data.toList 0).1.length := by rw [← HP.out, HO']; simp
        have H3 : Hid ((pre ++ [(k, r)]) ++ (pAll s.data.toList (k + m)).1 = (pAll s.data.toList 0).1) := Lib.hid (by rw [← HP.out, HO']; simp)
        obtain ⟨fn, tmps, assign, body, hy, hR⟩ := hY pre (k, r) w1 hJ1 hpl hbd.1
        dsimp only [rEnc] at hy
        clear hok hbd HE HO HO' HP
        gi_wp2_with fail
        refine ⟨fun _ => by omega, hR.mono ?_⟩
        rintro e W3 (⟨rfl, hJ3, hk3⟩ | ⟨rfl, hJx3⟩)
        · gi_wp2
          go_roundw
          case rel => exact ⟨k + m, pre ++ [(k, r)], by omega, by go_num, H3, hJ3, hk3 _ c1⟩
          case measure => simp [intOf]; omega
        · gi_wp2
          refine bodyPost_ret (results_none rfl _ _ _) rfl ?_
          exact ⟨⟨_, rfl⟩, .inr ⟨pre ++ [(k, r)], ⟨_, H3.out⟩, hJx3⟩⟩
      · have h0 : e ≠ 0 := by simpa using he
        have hall : pre = (pAll s.data.toList 0).1 := by rw [← HP.out, HE.out h0]; simp
        clear hok hbd HE HO HP
        gi_wp2_with fail
        refine ⟨fun _ h => (by cases h), ?_⟩
        gi_wp2
        refine bodyPost_ret (results_none rfl _ _ _) rfl ?_
        exact ⟨⟨_, rfl⟩, .inl ⟨_, rfl, hall ▸ hJ1⟩⟩
    · have hlti : ¬ (k : Int) < (s.size : Int) := by omega
      have hall : pre = (pAll s.data.toList 0).1 := by rw [← HP.out, pAll_end (by rw [HL.out]; exact hlt)]; simp
      gi_wp2
      go_end0
      rw [hall] at hJs
      exact ⟨⟨_, rfl⟩, .inl hJs⟩

/-- what Runes answers hands all code points with their places to the loop's body, up to the first error, till the body says no more -/
theorem runes_stopsA (n : Nat) (hn : 3 ≤ n) (Bs : Nat) (s : ByteArray) (hs : s.size ≤ 1000000) (w : World) (hBs : Bs < w.heap.size) (hc : w.cell? ⟨Bs, 0, none⟩ = some (.string s)) :
    SeqStopsK Fence.wide n Try.prog 45 #[.pointer (some ⟨Bs, 0, none⟩)] rEnc (KeepsAt Bs) (fun ys => ys = (pAll s.data.toList 0).1) (fun pre => pre <+: (pAll s.data.toList 0).1) (pAll s.data.toList 0).1.length w := fun l J Jx W hW hJ _ hY h0 =>
  runes1_in n hn l Bs s hs J Jx W hJ (fun pre x W1 h1 h2 _ => hY pre x W1 h1 h2) ((hW.cell (p := ⟨Bs, 0, none⟩) hBs).trans hc) h0
/-- the same with the code point held below the greatest one -/
def rEncB (x : Nat × Nat) : Array Value := #[.int .i64 (x.1 : Int), .int .i32 ((x.2 % 33554432 : Nat) : Int)]
theorem runes_stopsB (n : Nat) (hn : 3 ≤ n) (Bs : Nat) (s : ByteArray) (hs : s.size ≤ 1000000) (w : World) (hBs : Bs < w.heap.size) (hc : w.cell? ⟨Bs, 0, none⟩ = some (.string s)) :
    SeqStopsK Fence.wide n Try.prog 45 #[.pointer (some ⟨Bs, 0, none⟩)] rEncB (KeepsAt Bs) (fun ys => ys = (pAll s.data.toList 0).1) (fun pre => pre <+: (pAll s.data.toList 0).1) (pAll s.data.toList 0).1.length w := fun l J Jx W hW hJ _ hY h0 =>
  runes1_in n hn l Bs s hs J Jx W hJ (fun pre x W1 h1 h2 h3 => by
    have := hY pre x W1 h1 h2
    unfold rEncB at this
    rw [Nat.mod_eq_of_lt h3] at this
    exact this) ((hW.cell (p := ⟨Bs, 0, none⟩) hBs).trans hc) h0
theorem runes_stops (n : Nat) (hn : 3 ≤ n) (Bs n₀ : Nat) (s : ByteArray) (hs : s.size ≤ 1000000) (w : World) (hBs : Bs < n₀) (hn₀ : n₀ ≤ w.heap.size) (hc : w.cell? ⟨Bs, 0, none⟩ = some (.string s)) :
    SeqStopsK Fence.wide n Try.prog 45 #[.pointer (some ⟨Bs, 0, none⟩)] rEnc (Below n₀) (fun ys => ys = (pAll s.data.toList 0).1) (fun pre => pre <+: (pAll s.data.toList 0).1) (pAll s.data.toList 0).1.length w := fun l J Jx W hW hJ hJx hY h0 =>
  runes_stopsA n hn Bs s hs w (Nat.lt_of_lt_of_le hBs hn₀) hc l J Jx W hW hJ hJx (fun pre x W1 h1 h2 => YieldAt.mono (hY pre x W1 h1 h2) (fun _ _ h => h.imp (fun ⟨a, b, c⟩ => ⟨a, b, keepsAt_below hBs c⟩) id)) h0
end Go.Proofs.Ytefncnmahimgpaa
