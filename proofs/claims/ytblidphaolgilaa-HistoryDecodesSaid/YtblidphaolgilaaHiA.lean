/- The iterator All of a history; Of. -/
import Derived.RangeFuncWrites
import Derived.RangeFuncNested
import Derived.RangeFuncBound
import Derived.RangeFuncCalls
import Derived.RangeFuncLeaves
import Derived.Shelf.Abstract
import Derived.Shelf.RegionOpen
import Derived.WalkKit
import Derived.OwnWalkIn
import Derived.TacticsInMore
import Derived.LoopNIn
import Derived.LoopIn
import Derived.Test.YtblidphaolgilaaHiPl
import Derived.Test.YtblidphaolgilaaIn
namespace Go.Proofs.Ytblidphaolgilaa
open Go.RowKit Go.Maps Go.Shelf
attribute [local go_sem] Oper.semAt_some
set_option linter.unusedSimpArgs false

/-- rows of cells from block B on lie as they lay -/
structure KeepUp (B : Nat) (W W' : World) : Prop where
  size : W.heap.size ≤ W'.heap.size
  same : ∀ (k : Nat) (o : Obj), B ≤ k → W.heap[k]? = some o → o.isCells = true → W'.heap[k]? = some o
theorem KeepUp.t {B : Nat} {X Y Z : World} (h : KeepUp B X Y) (k : KeepUp B Y Z) : KeepUp B X Z := ⟨Nat.le_trans h.size k.size, fun i o hB hi ho => k.same i o hB (h.same i o hB hi ho) ho⟩
theorem KeepUp.b {B : Nat} {w : World} (W : World) (l : Nat) (o o' : Obj) (_ : w.heap.size ≤ l) (h : W.heap[l]? = some o) (hc : o.isCells = false) (_ : o.isWalk = false) : KeepUp B W (W.putObj l o') :=
  ⟨(grownBy_putObj' W l o').size, fun k u _ hk hu => by
    have hne : k ≠ l := by rintro rfl; rw [h] at hk; cases hk; rw [hc] at hu; cases hu
    exact ((grownBy_putObj' W l o').block k (Array.getElem?_eq_some_iff.1 hk).1 (fun e => hne (by cases e; rfl))).trans hk⟩
theorem KeepUp.of_but {B : Nat} {ms : Nat → Prop} {W W' : World} (h : But ms W W') (hm : ∀ k, ms k → k < B) : KeepUp B W W' :=
  ⟨h.size, fun k o hB hk _ => (h.block k (Array.getElem?_eq_some_iff.1 hk).1 (fun e => by have := hm k e; omega)).trans hk⟩
theorem KeepsFrom.of_but {B : Nat} {ms : Nat → Prop} {W W' : World} (h : But ms W W') (hm : ∀ k, ms k → k < B) : KeepsFrom B W W' :=
  ⟨h.size, fun k o hB hk _ => (h.block k (Array.getElem?_eq_some_iff.1 hk).1 (fun e => by have := hm k e; omega)).trans hk⟩
theorem cell_cells {W : World} {g j : Nat} {v : Value} (h : W.cell? ⟨g, j, none⟩ = some v) : ∃ o, W.heap[g]? = some o ∧ o.isCells = true := by
  unfold World.cell? at h
  cases hb : W.heap[g]? with
  | none => simp [hb] at h
  | some o =>
    refine ⟨o, rfl, ?_⟩
    cases o <;> simp_all [Obj.isCells]
theorem KeepUp.range {B g o : Nat} {cs : List Value} {W W' : World} (h : KeepUp B W W') (hg : B ≤ g) (hr : W.rangeAt g o cs) : W'.rangeAt g o cs := fun j v hv => by
  have hc := hr j v hv
  obtain ⟨ob, ho, hi⟩ := cell_cells hc
  have := h.same g ob hg ho hi
  unfold World.cell? at *
  rw [this]; rw [ho] at hc; exact hc
theorem rangeAt_row {w : World} {g : Nat} {cs : List Value} {t : TypeId} {fr : Nat × Nat} (h : w.heap[g]? = some (.cells cs.toArray t fr)) : w.rangeAt g 0 cs := fun j v hv => by
  rw [Nat.zero_add, cell_of_row w g j cs.toArray t fr h]; simpa using hv
theorem grown_new {w w1 : World} {o : Obj} (h : (w.alloc o).grownBy w1 (some w.heap.size)) : w.grownBy w1 none :=
  ⟨h.os, h.tape, h.output, by have := h.size; simp at this; omega, fun k hk _ => by
    rw [h.block k (by simp; omega) (by intro e; cases e; omega)]
    exact Below.heap_alloc w o k hk⟩
theorem below_of_grown {w w1 : World} (h : w.grownBy w1 none) : Below w.heap.size w w1 := ⟨h.os, h.tape, h.output, h.size, fun k hk => h.block k hk (by simp)⟩

/-- the entries as rows from block B on -/
def Copies (B : Nat) (ao : Option Addr) (l : List Ent) (W : World) : Prop := ∀ i (h : i < l.length), ∃ g o, ao = some ⟨g, o, none⟩ ∧ B ≤ g ∧ g < W.heap.size ∧ W.rangeAt g (o + i * 36) (encE l[i])
theorem Copies.keep {B : Nat} {ao : Option Addr} {l : List Ent} {W W' : World} (h : Copies B ao l W) (k : KeepUp B W W') : Copies B ao l W' := fun i hi => by
  obtain ⟨g, o, e, h1, h2, h3⟩ := h i hi
  exact ⟨g, o, e, h1, Nat.lt_of_lt_of_le h2 k.size, k.range h1 h3⟩
theorem Copies.mono {B B' : Nat} {ao : Option Addr} {l : List Ent} {W : World} (h : Copies B ao l W) (k : B' ≤ B) : Copies B' ao l W := fun i hi => by
  obtain ⟨g, o, e, h1, h2, h3⟩ := h i hi
  exact ⟨g, o, e, Nat.le_trans k h1, h2, h3⟩
theorem Copies.at {B : Nat} {ao : Option Addr} {l : List Ent} {W : World} (h : Copies B ao l W) {i : Nat} (hi : i < l.length) : ∃ g o, ao = some ⟨g, o, none⟩ ∧ B ≤ g ∧ g < W.heap.size ∧ W.rangeAt g (o + i * 36) (encE l[i]) := h i hi

theorem all_any (hb : Option Addr) (w : World) :
    Calls Try.prog 22 #[.pointer hb] w fun e w' => e = .returned (.func (.func 50) #[] #[.pointer (some ⟨w.heap.size, 0, none⟩)]) ∧ w' = w.alloc (.cells #[.pointer hb] 35) := by
  go_enter Try.func22, Try.ntmps22
  go_wp2
  go_ret
  exact ⟨rfl, rfl⟩

/-- an entry as a loop's variable -/
def eEnc (x : Ent) : Array Value := #[encX x]

set_option maxRecDepth 100000 in
set_option maxHeartbeats 2000000 in
theorem all1_in (n : Nat) (hn : 3 ≤ n) (lp Bs B hb mb : Nat) (l : List Ent) (cut : Int) (hl : l.length ≤ 1000) (J Jx : List Ent → World → Prop) (W : World) (hJ : AbidesFrom W.heap.size J)
    (hY : ∀ pre x W1, J pre W1 → pre.length < l.length → YieldAt Fence.wide (n - 1) Try.prog lp (eEnc x) W1 fun e W' =>
      (e = .returned (.bool true) ∧ J (pre ++ [x]) W' ∧ KeepUp B W1 W') ∨ (e = .returned (.bool false) ∧ Jx (pre ++ [x]) W'))
    (hBW : B ≤ W.heap.size) (hBs : W.cell? ⟨Bs, 0, none⟩ = some (.pointer (some ⟨hb, 0, none⟩))) (hH : HistAt W hb mb l cut) (h0 : J [] W) :
    CallsIn Fence.wide n Try.prog 50 #[.func (.yield lp) #[] #[], .pointer (some ⟨Bs, 0, none⟩)] W fun e W' => (∃ v, e = .returned v) ∧
      ((∃ ys, ys = l ∧ J ys W') ∨ (∃ pre, pre <+: l ∧ Jx pre W')) := by
  have HH := Lib.hid hH
  clear hH
  refine callsIn_of_wp Try.func50 rfl trivial ?_ rfl
  simp only [Try.ntmps50, List.size_toArray, List.length_cons, List.length_nil, Nat.reduceAdd, Nat.reduceSub, Array.replicate_succ, Array.replicate_zero, List.push_toArray, List.append_toArray, List.nil_append, List.cons_append]
  gi_wp2_with fail
  refine ⟨trivial, fun _ => by omega, (callsIn_wide.2 (sortedAll_any hb mb l cut hl W HH.out)).mono ?_⟩
  rintro e w1 ⟨v, rfl, hr, b1⟩
  obtain ⟨_, a3, cap3, rfl, _, _, _, _⟩ := rows_of_owns encE_len (by decide) hr
  have HC : Hid (Copies B a3 l w1) := Lib.hid (Copies.mono (rows_of_owns_hi encE_len (by decide) hr) hBW)
  have hJ1 := hJ _ _ _ _ h0 (grown_of_below b1) (fun r h => by cases h)
  have hs1 : W.heap.size ≤ w1.heap.size := b1.size
  clear hr b1 h0 HH hBs
  gi_wp2
  gi_loopw [8] (fun i wr => ∃ k : Nat, k ≤ l.length ∧ i = .int .i64 k ∧ J (l.take k) wr ∧ Hid (Copies B a3 l wr) ∧ W.heap.size ≤ wr.heap.size) (fun i _ => l.length - (intOf i).toNat)
  case atStart => exact ⟨0, Nat.zero_le _, rfl, by simpa using hJ1, HC, hs1⟩
  case round =>
    obtain ⟨k, hk, rfl, hJs, HCr, hWr⟩ := hrel
    by_cases hlt : k < l.length
    · have hlti : (k : Int) < (l.length : Int) := by omega
      have hk0 : (0 : Int) ≤ (k : Int) := by omega
      obtain ⟨g, o, rfl, hBg, hg, hr⟩ := HCr.out.at hlt
      have HR := Lib.hid hr
      have HT : Hid (l.take (k + 1) = l.take k ++ [l[k]]) := Lib.hid (List.take_succ_eq_append_getElem hlt)
      have HPr : Hid (l.take k ++ [l[k]] <+: l) := Lib.hid (by rw [← List.take_succ_eq_append_getElem hlt]; exact List.take_prefix _ _)
      have htl : Hid ((l.take k).length < l.length) := Lib.hid (by rw [List.length_take]; omega)
      clear hr
      generalize l[k] = x at *
      have HS := Lib.hid (xSize x)
      have HSL := Lib.hid (xLen x)
      have HO1 := Lib.hid (ent_one x)
      gi_wp2_with (first
        | (refine wpListIn_load_mid rfl _ _ rfl g (o + k * 36) rfl (encE x) _ HR.out Try.underlying29 rfl HSL.out ?_)
        | (refine wpListIn_store_abs rfl _ _ _ rfl wr.heap.size (encE x).toArray rfl rfl 29 _ (heap_alloc_new wr _) HS.out (by simp [encE_len]) HO1.out ?_))
      intro w2 h1 g1
      have hx1 := Lib.hid (rangeAt_row h1)
      have gg := grown_new g1
      have HC2 := Lib.hid (HCr.out.keep (KeepUp.of_but (B := B) (ms := fun _ => False) (But.of_below (below_of_grown gg)) (fun _ h => h.elim)))
      have hs2 : W.heap.size ≤ w2.heap.size := Nat.le_trans hWr gg.size
      obtain ⟨fn, tmps, assign, body, hy, hR⟩ := hY (l.take k) x w2 (hJ _ _ _ _ hJs gg (fun r h => by cases h)) htl.out
      dsimp only [eEnc] at hy
      unfold encX at hy
      clear h1 g1 gg hJs
      gi_wp2_with (refine wpListIn_load_mid rfl _ _ rfl wr.heap.size 0 rfl (encE x) _ hx1.out Try.underlying29 rfl HSL.out ?_)
      refine ⟨fun _ => by omega, hR.mono ?_⟩
      rintro e W3 (⟨rfl, hJ3, hk3⟩ | ⟨rfl, hJx3⟩)
      · rw [← HT.out] at hJ3
        have HC3 := Lib.hid (HC2.out.keep hk3)
        have hs3 := Nat.le_trans hs2 hk3.size
        clear hk3
        gi_wp2
        go_roundw
        case rel => exact ⟨k + 1, by omega, by go_num, hJ3, HC3, hs3⟩
        case measure => simp [intOf]; omega
      · gi_wp2
        refine bodyPost_ret (results_none rfl _ _ _) rfl ?_
        exact ⟨⟨_, rfl⟩, .inr ⟨_, HPr.out, hJx3⟩⟩
    · have hlti : ¬ (k : Int) < (l.length : Int) := by omega
      have hkl : l.take k = l := List.take_of_length_le (by omega)
      rw [hkl] at hJs
      clear hkl
      gi_wp2
      go_end0
      exact ⟨⟨_, rfl⟩, .inl hJs⟩

theorem all_stops (n : Nat) (hn : 3 ≤ n) (Bs B hb mb : Nat) (l : List Ent) (cut : Int) (hl : l.length ≤ 1000) (w : World) (hB : B ≤ w.heap.size) (hBs : Bs < w.heap.size) (hc : w.cell? ⟨Bs, 0, none⟩ = some (.pointer (some ⟨hb, 0, none⟩))) (hH : HistAt w hb mb l cut) :
    SeqStopsK Fence.wide n Try.prog 50 #[.pointer (some ⟨Bs, 0, none⟩)] eEnc (KeepUp B) (fun ys => ys = l) (fun pre => pre <+: l) l.length w := fun lp J Jx W hW hJ _ hY h0 =>
  all1_in n hn lp Bs B hb mb l cut hl J Jx W hJ hY (Nat.le_trans hB hW.size) ((hW.cell (p := ⟨Bs, 0, none⟩) hBs).trans hc) (hH.kept hW) h0
theorem of_any (x : Ent) (w : World) : Calls Try.prog 23 #[encX x] w fun e w' => e = .returned (encX x) ∧ Below w.heap.size w w' := by
  have hN := EntAt.new w x 29
  have hB : Below w.heap.size w (w.alloc (.cells (encE x).toArray 29)) := (Below.refl _ w).alloc (Nat.le_refl _) _
  have hsz : w.heap.size < (w.alloc (.cells (encE x).toArray 29)).heap.size := by simp
  obtain ⟨w1, hw1⟩ : ∃ w1, w.alloc (.cells (encE x).toArray 29) = w1 := ⟨_, rfl⟩
  rw [hw1] at hN hB hsz
  have hN2 : ∀ o, EntAt (w1.alloc o) w.heap.size 29 x := fun o => heap_alloc_old' hN
  have c32 := fun o => (hN2 o).cell 32 _ (encE_32 x)
  have c33 := fun o => (hN2 o).cell 33 _ (encE_33 x)
  have c34 := fun o => (hN2 o).cell 34 _ (encE_34 x)
  have c35 := fun o => (hN2 o).cell 35 _ (encE_35 x)
  have HR := Lib.hid (fun o => (hN2 o).idr)
  have HS := Lib.hid (idSize29 x.id)
  have HN := Lib.hid hN
  clear hN hN2
  have HSX := Lib.hid (rxSize x)
  unfold encX
  go_enter Try.func23, Try.ntmps23
  have HQ := Lib.hid (heap_alloc_new w1 (.cells (encE Ent.zero).toArray 24 (0, 0)))
  go_wp2_with (first
    | (refine wpList_load_mid (by rfl) 27 (.tmp 3) (by rfl) w.heap.size 0 (by rfl) (encI x.id) _ (HR.out _) Try.underlying27 rfl HS.out ?_)
    | (refine wpList_build_to (by rfl) 24 #[(0, .tmp 4), (1, .tmp 6), (2, .tmp 8), (3, .tmp 10), (4, .tmp 12)] (by rfl) [(0, .agg (encI x.id).toArray), (1, .int .i64 x.arr.1), (2, .int .i64 x.dat.1), (3, .int .i64 x.st.1), (4, .bool x.perm)] (by kernel_rfl) (encE x).toArray (built_rx x) ?_)
    | (refine wpList_store_abs (by rfl) 24 (.tmp 2) (.tmp 13) (by rfl) w1.heap.size (encE x).toArray (by rfl) (by rfl) _ (encE Ent.zero).toArray HQ.out HSX.out (by rw [List.size_toArray, List.size_toArray, encE_len, encE_len]) (ent_one x) w1.heap.size w1 ((Below.refl _ _).alloc (Nat.le_refl _) _) (Nat.le_refl _) ?_))
  intro w2 H2 b2 _
  go_wp2
  exact bodyPost_ret (v := .agg (encE x).toArray) (results_cell1 rfl _ _ _ _ _ _ _ rfl H2.out Try.underlying24 rfl HSX.out) rfl ⟨rfl, hB.trans (b2.mono (Nat.le_of_lt hsz))⟩
end Go.Proofs.Ytblidphaolgilaa
