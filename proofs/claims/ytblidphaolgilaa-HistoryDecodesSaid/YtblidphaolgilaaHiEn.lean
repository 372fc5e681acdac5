/- The iterator All of a history, for a body that may turn whatever is no row of entries; the entries of a history. -/
import Derived.Test.YtblidphaolgilaaHiA
import Derived.Test.YtblidphaolgilaaZ
import Derived.Test.YtblidphaolgilaaIns
import Derived.RangeFuncBox
import Derived.Outline
namespace Go.Proofs.Ytblidphaolgilaa
open Go.RowKit Go.Maps Go.Shelf
attribute [local go_sem] Oper.semAt_some
set_option linter.unusedSimpArgs false
set_option linter.unusedVariables false

theorem heap_two (w : World) (a b : Obj) : ((w.alloc a).alloc b).heap[w.heap.size + 1]? = some b := by
  have := World.alloc_heap_new (w.alloc a) b
  rwa [World.size_alloc] at this
theorem low_grown {B : Nat} {W W' : World} {row : Option Nat} (hg : W.grownBy W' row) (hr : ∀ r, row = some r → B ≤ r ∧ ∃ o : Obj, W.heap[r]? = some o ∧ o.isCells = false) (hB : B ≤ W.heap.size) : Below B W W' :=
  ⟨hg.os, hg.tape, hg.output, hg.size, fun k hk => hg.block k (Nat.lt_of_lt_of_le hk hB) (fun e => by have := (hr k e.symm).1; omega)⟩
/-- rows of elements of one type from block B on lie as they lay -/
structure KeepT (T : TypeId) (B : Nat) (W W' : World) : Prop where
  size : W.heap.size ≤ W'.heap.size
  same : ∀ (k : Nat) (cs : Array Value) (fr : Nat × Nat), B ≤ k → W.heap[k]? = some (.cells cs T fr) → W'.heap[k]? = some (.cells cs T fr)
theorem KeepT.refl {T : TypeId} {B : Nat} (W : World) : KeepT T B W W := ⟨Nat.le_refl _, fun _ _ _ _ h => h⟩
theorem KeepT.t {T : TypeId} {B : Nat} {X Y Z : World} (h : KeepT T B X Y) (k : KeepT T B Y Z) : KeepT T B X Z := ⟨Nat.le_trans h.size k.size, fun i cs fr hB hi => k.same i cs fr hB (h.same i cs fr hB hi)⟩
theorem KeepT.b {T : TypeId} {B : Nat} {w : World} (W : World) (l : Nat) (o o' : Obj) (_ : w.heap.size ≤ l) (h : W.heap[l]? = some o) (hc : o.isCells = false) (_ : o.isWalk = false) : KeepT T B W (W.putObj l o') :=
  ⟨(grownBy_putObj' W l o').size, fun k cs fr _ hk => by
    have hne : k ≠ l := by rintro rfl; rw [h] at hk; cases hk; cases hc
    exact ((grownBy_putObj' W l o').block k (Array.getElem?_eq_some_iff.1 hk).1 (fun e => hne (by cases e; rfl))).trans hk⟩
theorem KeepT.of_grown {T : TypeId} {B : Nat} {W W' : World} {row : Option Nat} (h : W.grownBy W' row) (hr : ∀ k, row = some k → B ≤ k → ∀ cs fr, W.heap[k]? ≠ some (.cells cs T fr)) : KeepT T B W W' :=
  ⟨h.size, fun k cs fr hB hk => (h.block k (Array.getElem?_eq_some_iff.1 hk).1 (fun e => hr k e.symm hB cs fr hk)).trans hk⟩
theorem KeepT.of_below {T : TypeId} {B : Nat} {W W' : World} (h : Below W.heap.size W W') : KeepT T B W W' :=
  ⟨h.size, fun k cs fr _ hk => (h.block k (Array.getElem?_eq_some_iff.1 hk).1).trans hk⟩
theorem KeepT.of_up {T : TypeId} {B : Nat} {W W' : World} (h : KeepUp B W W') : KeepT T B W W' := ⟨h.size, fun k cs fr hB hk => h.same k _ hB hk rfl⟩
/-- the entries as rows from block B on, in blocks of one type -/
def CopiesT (T : TypeId) (B : Nat) (ao : Option Addr) (l : List Ent) (W : World) : Prop := ∀ i (h : i < l.length), ∃ g o cs fr, ao = some ⟨g, o, none⟩ ∧ B ≤ g ∧ W.heap[g]? = some (.cells cs T fr) ∧ W.rangeAt g (o + i * 36) (encE l[i])
theorem CopiesT.keep {T : TypeId} {B : Nat} {ao : Option Addr} {l : List Ent} {W W' : World} (h : CopiesT T B ao l W) (k : KeepT T B W W') : CopiesT T B ao l W' := fun i hi => by
  obtain ⟨g, o, cs, fr, e, h1, h2, h3⟩ := h i hi
  have h4 := k.same g cs fr h1 h2
  refine ⟨g, o, cs, fr, e, h1, h4, fun j v hv => ?_⟩
  have := h3 j v hv
  unfold World.cell? at *
  rw [h4]; rw [h2] at this; exact this
theorem CopiesT.mono {T : TypeId} {B B' : Nat} {ao : Option Addr} {l : List Ent} {W : World} (h : CopiesT T B ao l W) (k : B' ≤ B) : CopiesT T B' ao l W := fun i hi => by
  obtain ⟨g, o, cs, fr, e, h1, h2, h3⟩ := h i hi
  exact ⟨g, o, cs, fr, e, Nat.le_trans k h1, h2, h3⟩
theorem CopiesT.at {T : TypeId} {B : Nat} {ao : Option Addr} {l : List Ent} {W : World} (h : CopiesT T B ao l W) {i : Nat} (hi : i < l.length) : ∃ g o, ao = some ⟨g, o, none⟩ ∧ B ≤ g ∧ g < W.heap.size ∧ W.rangeAt g (o + i * 36) (encE l[i]) := by
  obtain ⟨g, o, cs, fr, e, h1, h2, h3⟩ := h i hi
  exact ⟨g, o, e, h1, (Array.getElem?_eq_some_iff.1 h2).1, h3⟩
theorem copiesT_of_owns {w : World} {B n c : Nat} {e : TypeId} {ao : Option Addr} {l : List Ent} (h : w.ownsRow B e 36 (.slice ao n c) n (rcs encE l)) : CopiesT e B ao l w := fun i hi => by
  obtain ⟨g, o, rfl, hB, hg, hr⟩ := rows_of_owns_hi encE_len (by decide) h i hi
  rcases h.2 with ⟨h0, _⟩ | ⟨g', cap', cur, hv, hb, hgb, _⟩
  · cases h0
  · cases hv
    exact ⟨g, 0, cur, _, rfl, hB, hgb, hr⟩

set_option maxRecDepth 100000 in
set_option maxHeartbeats 2000000 in
theorem all1_inT (n : Nat) (hn : 3 ≤ n) (lp Bs B hb mb : Nat) (l : List Ent) (cut : Int) (hl : l.length ≤ 1000) (J Jx : List Ent → World → Prop) (W : World) (hJ : AbidesFrom W.heap.size J)
    (hY : ∀ pre x W1, J pre W1 → pre.length < l.length → YieldAt Fence.wide (n - 1) Try.prog lp (eEnc x) W1 fun e W' =>
      (e = .returned (.bool true) ∧ J (pre ++ [x]) W' ∧ KeepT 29 B W1 W') ∨ (e = .returned (.bool false) ∧ Jx (pre ++ [x]) W'))
    (hBW : B ≤ W.heap.size) (hBs : W.cell? ⟨Bs, 0, none⟩ = some (.pointer (some ⟨hb, 0, none⟩))) (hH : HistAt W hb mb l cut) (h0 : J [] W) :
    CallsIn Fence.wide n Try.prog 50 #[.func (.yield lp) #[] #[], .pointer (some ⟨Bs, 0, none⟩)] W fun e W' => (∃ v, e = .returned v) ∧
      ((∃ ys, ys = l ∧ J ys W') ∨ (∃ pre, pre <+: l ∧ Jx pre W')) := by
  have HH := Lib.hid hH
  clear hH
  refine callsIn_of_wp Try.func50 rfl trivial ?_ rfl
  simp only [Try.ntmps50, List.size_toArray, List.length_cons, List.length_nil, Nat.reduceAdd, Nat.reduceSub, Array.replicate_succ, Array.replicate_zero, List.push_toArray, List.append_toArray, List.nil_append, List.cons_append]
  gi_wp2_with fail
  refine ⟨trivial, fun _ => by omega, (callsIn_wide.2 (sortedAll_any hb mb l cut hl W HH.out)).mono ?_⟩
  rintro e w1 ⟨v, rfl, hr, b1⟩
  obtain ⟨_, a3, cap3, rfl, _, _, _, _⟩ := rows_of_owns encE_len (by decide) hr
  have HC : Hid (CopiesT 29 B a3 l w1) := Lib.hid (CopiesT.mono (copiesT_of_owns hr) hBW)
  have hJ1 := hJ _ _ _ _ h0 (grown_of_below b1) (fun r h => by cases h)
  have hs1 : W.heap.size ≤ w1.heap.size := b1.size
  clear hr b1 h0 HH hBs
  gi_wp2
  gi_loopw [8] (fun i wr => ∃ k : Nat, k ≤ l.length ∧ i = .int .i64 k ∧ J (l.take k) wr ∧ Hid (CopiesT 29 B a3 l wr) ∧ W.heap.size ≤ wr.heap.size) (fun i _ => l.length - (intOf i).toNat)
  case atStart => exact ⟨0, Nat.zero_le _, rfl, by simpa using hJ1, HC, hs1⟩
  case round =>
    obtain ⟨k, hk, rfl, hJs, HCr, hWr⟩ := hrel
    by_cases hlt : k < l.length
    · have hlti : (k : Int) < (l.length : Int) := by omega
      have hk0 : (0 : Int) ≤ (k : Int) := by omega
      obtain ⟨g, o, rfl, hBg, hg, hr⟩ := HCr.out.at hlt
      have HR := Lib.hid hr
      have HT : Hid (l.take (k + 1) = l.take k ++ [l[k]]) := Lib.hid (List.take_succ_eq_append_getElem hlt)
      have HPr : Hid (l.take k ++ [l[k]] <+: l) := Lib.hid (by rw [← List.take_succ_eq_append_getElem hlt]; exact List.take_prefix _ _)
      have htl : Hid ((l.take k).length < l.length) := Lib.hid (by rw [List.length_take]; omega)
      clear hr
      generalize l[k] = x at *
      have HS := Lib.hid (xSize x)
      have HSL := Lib.hid (xLen x)
      have HO1 := Lib.hid (ent_one x)
      gi_wp2_with (first
        | (refine wpListIn_load_mid rfl _ _ rfl g (o + k * 36) rfl (encE x) _ HR.out Try.underlying29 rfl HSL.out ?_)
        | (refine wpListIn_store_abs rfl _ _ _ rfl wr.heap.size (encE x).toArray rfl rfl 29 _ (heap_alloc_new wr _) HS.out (by simp [encE_len]) HO1.out ?_))
      intro w2 h1 g1
      have hx1 := Lib.hid (rangeAt_row h1)
      have gg := grown_new g1
      have HC2 := Lib.hid (HCr.out.keep (KeepT.of_below (B := B) (below_of_grown gg)))
      have hs2 : W.heap.size ≤ w2.heap.size := Nat.le_trans hWr gg.size
      obtain ⟨fn, tmps, assign, body, hy, hR⟩ := hY (l.take k) x w2 (hJ _ _ _ _ hJs gg (fun r h => by cases h)) htl.out
      dsimp only [eEnc] at hy
      unfold encX at hy
      clear h1 g1 gg hJs
      gi_wp2_with (refine wpListIn_load_mid rfl _ _ rfl wr.heap.size 0 rfl (encE x) _ hx1.out Try.underlying29 rfl HSL.out ?_)
      refine ⟨fun _ => by omega, hR.mono ?_⟩
      rintro e W3 (⟨rfl, hJ3, hk3⟩ | ⟨rfl, hJx3⟩)
      · rw [← HT.out] at hJ3
        have HC3 := Lib.hid (HC2.out.keep hk3)
        have hs3 := Nat.le_trans hs2 hk3.size
        clear hk3
        gi_wp2
        go_roundw
        case rel => exact ⟨k + 1, by omega, by go_num, hJ3, HC3, hs3⟩
        case measure => simp [intOf]; omega
      · gi_wp2
        refine bodyPost_ret (results_none rfl _ _ _) rfl ?_
        exact ⟨⟨_, rfl⟩, .inr ⟨_, HPr.out, hJx3⟩⟩
    · have hlti : ¬ (k : Int) < (l.length : Int) := by omega
      have hkl : l.take k = l := List.take_of_length_le (by omega)
      rw [hkl] at hJs
      clear hkl
      gi_wp2
      go_end0
      exact ⟨⟨_, rfl⟩, .inl hJs⟩

theorem all_stopsT (n : Nat) (hn : 3 ≤ n) (Bs B hb mb : Nat) (l : List Ent) (cut : Int) (hl : l.length ≤ 1000) (w : World) (hB : B ≤ w.heap.size) (hBs : Bs < w.heap.size) (hc : w.cell? ⟨Bs, 0, none⟩ = some (.pointer (some ⟨hb, 0, none⟩))) (hH : HistAt w hb mb l cut) :
    SeqStopsK Fence.wide n Try.prog 50 #[.pointer (some ⟨Bs, 0, none⟩)] eEnc (KeepT 29 B) (fun ys => ys = l) (fun pre => pre <+: l) l.length w := fun lp J Jx W hW hJ _ hY h0 =>
  all1_inT n hn lp Bs B hb mb l cut hl J Jx W hJ hY (Nat.le_trans hB hW.size) ((hW.cell (p := ⟨Bs, 0, none⟩) hBs).trans hc) (hH.kept hW) h0

theorem row_cells {W : World} {base : Nat} {e : TypeId} {size k : Nat} {v : Value} {xs : List Value} (hr : W.ownsRow base e size v k xs) {j : Nat} {o : Obj} (ej : v.ownBlock = some j) (hj : W.heap[j]? = some o) : o.isCells = true := by
  rcases hr.2 with ⟨rfl, _⟩ | ⟨g, cap, cur, rfl, _, hgb, _⟩
  · simp [Value.ownBlock] at ej
  · obtain rfl : g = j := by simpa [Value.ownBlock] using ej
    rw [hgb] at hj; cases hj; rfl
theorem ent_own {β : Type} (B : Nat) (T : TypeId) (x : Ent) : Own (fun (_ : β) W => EntAt W B T x) := fun s X Y row hs hg hrow =>
  (hg.block B (Array.getElem?_eq_some_iff.1 hs).1 (fun e' => by obtain ⟨o, ho, hc⟩ := hrow B e'.symm; have h2 : X.heap[B]? = some _ := hs; rw [h2] at ho; cases ho; cases hc)).trans hs
/-- what a loop that collects entries keeps -/
def ColE (n₀ B : Nat) (t e : TypeId) (w : World) (pre : List Ent) (W : World) : Prop := (∃ v, Boxed W B t v ∧ W.ownsRow n₀ e 36 v pre.length (rcs encE pre) ∧ True) ∧ Below n₀ w W
theorem colE_own (n₀ B D : Nat) (t e : TypeId) (w : World) (h1 : n₀ ≤ w.heap.size) (h2 : n₀ ≤ D) : OwnFrom D (ColE n₀ B t e w) := by
  intro s X Y row hs hg hr
  have h := holdsRow_own (β := List Ent) n₀ B t e 36 List.length (rcs encE) (fun _ _ => True) s X Y row hs.1 hg (fun r e => (hr r e).2)
  exact ⟨h, hs.2.grown hg (Nat.le_trans h1 hs.2.size) (fun k e => Nat.le_trans h2 (hr k e).1)⟩
set_option maxRecDepth 100000 in
set_option maxHeartbeats 4000000 in
theorem entries_any (hb mb : Nat) (l : List Ent) (cut : Int) (hl : l.length ≤ 1000) (w : World) (hH : HistAt w hb mb l cut) :
    Calls Try.prog 29 #[.pointer (some ⟨hb, 0, none⟩)] w fun e w' => ∃ v, e = .returned v ∧ w'.ownsRow w.heap.size 24 36 v l.length (rcs encE l) ∧ Below w.heap.size w w' := by
  obtain ⟨i0, hif, hz0, hz1, hz2⟩ := info_parts infoX
  have HI := Lib.hid hif
  have HH := Lib.hid hH
  clear hif hH
  refine (callsIn_wide (n := 8)).1 ?_
  refine callsIn_of_wp_marks Try.func29 rfl trivial ?_ rfl
  simp only [Try.ntmps29, List.size_toArray, List.length_cons, List.length_nil, Nat.reduceAdd, Nat.reduceSub, Array.replicate_succ, Array.replicate_zero, List.push_toArray, List.append_toArray, List.nil_append, List.cons_append]
  gi_wp2_with fail
  refine ⟨trivial, (callsIn_wide.2 (all_any _ _)).mono ?_⟩
  rintro e w3 ⟨rfl, rfl⟩
  gi_wp2_with fail
  obtain ⟨wb, hwb⟩ : ∃ wb, (w.alloc (.cells #[.slice none 0 0] 36)).alloc (.cells #[.pointer (some ⟨hb, 0, none⟩)] 35) = wb := ⟨_, rfl⟩
  have hsb : wb.heap.size = w.heap.size + 1 + 1 := by rw [← hwb]; simp
  have bO : Boxed wb w.heap.size 36 (.slice none 0 0) := by rw [← hwb]; exact (Boxed.new w _ _).alloc _
  have bA : Boxed wb (w.heap.size + 1) 35 (.pointer (some ⟨hb, 0, none⟩)) := by rw [← hwb]; exact heap_two _ _ _
  have hB0 : Below w.heap.size w wb := by rw [← hwb]; exact ((Below.refl _ w).alloc (Nat.le_refl _) _).alloc (by simp) _
  rw [hwb]
  clear hwb
  refine wpIn_rangeFunc_ownH rfl (by omega) (gf := 50) (lb := #[.pointer (some ⟨w.heap.size + 1, 0, none⟩)]) rfl trivial (enters_of Try.func50 (by kernel_rfl) rfl)
    (all_stopsT (8 - 1) (by omega) (w.heap.size + 1) wb.heap.size hb mb l cut hl wb (Nat.le_refl _) (by omega) bA.cell (HH.out.kept hB0)) KeepT.t KeepT.b (Below.refl _ _) (fun _ => rfl)
    (ColE w.heap.size w.heap.size 36 24 w)
    (fun _ _ _ => False)
    (colE_own _ _ _ _ _ _ (Nat.le_refl _) (by omega))
    (fun _ _ _ _ _ hs _ _ => hs)
    ⟨⟨_, bO, World.ownsRow_nil _ _ _ _, trivial⟩, hB0⟩
    (fun x a' W => ∃ Bx, w.heap.size < Bx ∧ EntAt W Bx 29 x ∧ a' = { tmps := #[.pointer (some ⟨hb, 0, none⟩), undef, .slice none 0 0, .pointer (some ⟨w.heap.size, 0, none⟩), .pointer (some ⟨Bx, 0, none⟩), .pointer (some ⟨hb, 0, none⟩), .func (.func 50) #[] #[.pointer (some ⟨w.heap.size + 1, 0, none⟩)], .agg (encE x).toArray, undef, undef, undef, undef, undef, undef], defers := [] })
    (fun x a' _ X Y row hs hg hr => by obtain ⟨Bx, h1, h2, h3⟩ := hs; exact ⟨Bx, h1, ent_own Bx _ _ () X Y row h2 hg (fun r e => (hr r e).2), h3⟩)
    ?assign ?body ?done ?stop
  case assign =>
    rintro lp pre x W K ⟨⟨v, hv1, hrow, _⟩, hB⟩ hK
    have HSX := Lib.hid (xSize x)
    have HO1 := Lib.hid (ent_one x)
    simp only [eEnc]
    unfold encX
    gi_wp2_with (refine wpListIn_store_abs rfl _ _ _ rfl W.heap.size (encE x).toArray rfl rfl 29 _ (heap_alloc_new W _) HSX.out (by simp [encE_len]) HO1.out ?_)
    intro w1 h1 g1
    have gg := grown_new g1
    have kb := below_of_grown gg
    have hWs := hB.size
    have hbl := hv1.lt
    gi_wp2
    exact hK _ _ ((KeepsOthers.of_grownBy gg (fun j o e _ => by cases e)).from _) (KeepT.of_below kb) ⟨⟨v, hv1.kept gg (by simp), hrow.kept gg (by cases v.ownBlock <;> simp), trivial⟩, hB.trans (kb.mono hWs)⟩ ⟨W.heap.size, hbl, h1, rfl⟩
  case body =>
    rintro lp pre x a' W hlp ⟨r, hr⟩ ⟨⟨v, hv1, hrow, _⟩, hB⟩ ⟨Bx, hBx, hX, rfl⟩ hlt
    have hWs := hB.size
    have hbl := hv1.lt
    have hxlt : Bx < W.heap.size := (Array.getElem?_eq_some_iff.1 hX).1
    have HCB : Hid (∀ w', Below W.heap.size W w' → w'.cell? ⟨w.heap.size, 0, none⟩ = some v) := Lib.hid (fun w' k => Boxed.cell (heap_below k hbl hv1))
    have HRE : Hid (∀ w', Below W.heap.size W w' → w'.rangeAt Bx 0 (encE x)) := Lib.hid (fun w' k => EntAt.range (hX.below k hxlt))
    have HSE := Lib.hid (xLen x)
    have hlm : pre.length + 1 ≤ maxLen := by unfold maxLen; omega
    have hlb : (pre.length + 1) * 64 ≤ 140737488355328 := by omega
    have hbt : v.ownBlock ≠ some w.heap.size := fun e => by
      rcases hrow.2 with ⟨rfl, _⟩ | ⟨g, cap, cur, rfl, _, hg, _⟩
      · cases e
      · simp only [Value.ownBlock, Option.some.injEq] at e
        subst e
        have h2 : W.heap[w.heap.size]? = some _ := hv1
        rw [hg] at h2
        simp at h2
    gi_wp2_with fail
    refine region_zIn (S := fun w' => Below W.heap.size W w') [4, 5] (by kernel_rfl) (by kernel_rfl) ((Below.refl _ _).drew) (fun hHeld => ?_)
    refine takeZ 0 (v := ?_) rfl (by kernel_rfl) (by kernel_rfl) (by kernel_rfl) (by kernel_rfl) (by kernel_rfl) (fun _ _ _ h => h) (by rfl) hHeld ?_ ?_
    rotate_left 1
    · intro w2 hSw; have q0 := HCB.out w2 hSw; go_simp <;> with_reducible rfl
    try simp only [Act.put, List.setIfInBounds_toArray, List.set_cons_zero, List.set_cons_succ]
    refine takeRowZ 1 rfl (by kernel_rfl) (by kernel_rfl) (by kernel_rfl) (by kernel_rfl) (by kernel_rfl) 29 (.tmp 4) rfl (Bx) (0) rfl (encE x) _ (fun _ _ _ h => h) (by rfl) hHeld HRE.out Try.underlying29 rfl HSE.out ?_
    try simp only [Act.put, List.setIfInBounds_toArray, List.set_cons_zero, List.set_cons_succ]
    refine heavyZ 2 rfl (by kernel_rfl) (fun K hK => ?_)
    go_simp
    refine (of_any x _).mono ?_
    rintro e w4 ⟨rfl, b4⟩
    try unfold encX
    try go_simp
    refine hK.out _ _ (hHeld.trans (b4.mono hHeld.size)) (fun hHeld => ?_)
    clear hK K
    try simp only [Act.put, List.setIfInBounds_toArray, List.set_cons_zero, List.set_cons_succ]
    refine heavyZ 3 rfl (by kernel_rfl) (fun K hK => ?_)
    rw [if_pos (by rfl)]
    refine wp_build1 36 24 (.tmp 10) (by rfl) (encE x) (by rfl) i0 _ Try.underlying36 HI.out hz0 (by rw [hz1, encE_len]) (by rw [encE_len]; omega) (by rw [encE_len]; omega) ?_
    refine hK.out _ _ (hHeld.alloc hHeld.size _) (fun hHeld => ?_)
    clear hK K
    try simp only [Act.put, List.setIfInBounds_toArray, List.set_cons_zero, List.set_cons_succ]
    have hrow4 := hrow.kept (grown_of_below hHeld) (by cases v.ownBlock <;> simp)
    have hv4 : Boxed _ w.heap.size 36 v := heap_below hHeld hbl hv1
    have s4 := hHeld.size
    obtain ⟨w5, hw5⟩ : ∃ w5, w4.alloc (.cells (encE x).toArray 24) = w5 := ⟨_, rfl⟩
    have hn4 := heap_alloc_new w4 (.cells (encE x).toArray 24 (0, 0))
    rw [hw5] at hHeld hrow4 hv4 hn4 s4
    rw [hw5]
    refine lastZ 4 rfl (by kernel_rfl) (by kernel_rfl) (fun K hK => ?_)
    rw [if_pos (by rfl)]
    refine wp_append_from (.tmp 8) (.tmp 11) 36 (by rfl) w.heap.size 24 i0 _ 36 64 Try.underlying36 HI.out hz0 hz1 hz2 (by simp [encX, Value.cells, encE_len]) (by decide) v pre.length _ (by rfl) hrow4 (some ⟨w4.heap.size, 0, none⟩) 1 1 (by rfl) (fun h => by cases h) (encE x) (by rw [encE_len]) (fun ad e => by cases e; exact news_of_block0 hn4) (encE_one x) hlm hlb (by omega) ?_
    intro v' w6 ov6 g6 hob6
    refine hK.out _ _ ?_
    clear hK K
    try simp only [Act.put, List.setIfInBounds_toArray, List.set_cons_zero, List.set_cons_succ]
    have hv6 : Boxed w6 w.heap.size 36 v := hv4.kept g6 (fun e => hbt e.symm)
    have hc6 := hv6.cell
    have hf6 := hv6.frozen
    obtain ⟨g', cap', rfl⟩ := ownsRow_succ ov6
    have hne6 : some w.heap.size ≠ (Value.slice (some ⟨g', 0, none⟩) (pre.length + 1) cap').ownBlock := by
      intro e
      rcases hob6 with h | h
      · exact hbt (h ▸ e.symm)
      · rw [h] at e; simp only [Option.some.injEq] at e; omega
    have hr7 := ov6.kept (grownBy_setCell' w6 w.heap.size (.slice (some ⟨g', 0, none⟩) (pre.length + 1) cap')) (.inr (fun e => hne6 e.symm))
    have hk6 : KeepsOthers W w6 := (KeepsOthers.of_grownBy (grown_of_below hHeld) (fun j o e _ => by cases e)).trans (KeepsOthers.of_grownBy g6 fun j o ej hj => row_cells hrow4 ej hj)
    have ht6 : KeepT 29 wb.heap.size W w6 := (KeepT.of_below hHeld).t (KeepT.of_grown g6 (fun k ek _ cs fr hk => by
      rcases hrow4.2 with ⟨rfl, _⟩ | ⟨g, cap, cur, rfl, _, hg, _⟩
      · cases ek
      · simp only [Value.ownBlock, Option.some.injEq] at ek
        subst ek
        rw [hg] at hk
        simp at hk))
    have ht7 : KeepT 29 wb.heap.size w6 (w6.setCell ⟨w.heap.size, 0, none⟩ (.slice (some ⟨g', 0, none⟩) (pre.length + 1) cap')) := KeepT.of_grown (grownBy_setCell' _ _ _) (fun k ek hk cs fr => by
      cases ek; omega)
    have hB6 : Below w.heap.size w w6 := (hB.trans (hHeld.mono hWs)).grown g6 (Nat.le_trans hWs hHeld.size) (fun j hj => (hrow4.lt j hj).1)
    refine lastZ 5 rfl (by kernel_rfl) (by kernel_rfl) (fun K hK => ?_)
    go_simp
    refine hK.out _ _ ?_
    clear hK K
    try simp only [Act.put, List.setIfInBounds_toArray, List.set_cons_zero, List.set_cons_succ]
    refine wpAnyZ_done (by kernel_rfl) ?_ _
    refine NoPanic.normal (OnlyN.normal ?_)
    exact ⟨(hk6.trans (KeepsOthers.setCell _ _ _)).from _, ht6.t ht7, ⟨_, hv6.set _, by rw [rcs_snoc]; simpa using hr7, trivial⟩, hB6.setCell (p := ⟨w.heap.size, 0, none⟩) (Nat.le_refl _) _⟩
  case done =>
    rintro D ys W hD rfl ⟨⟨v, hv1, hrow, _⟩, hB⟩ hK
    have hc1 := hv1.cell
    gi_wp2
    refine ⟨by simp, .inl ⟨_, _, rfl, run_takeDeferred hK, ?_⟩⟩
    exact ⟨_, results_tmp rfl _ _ _, v, rfl, ownsRow_putObj hrow _ hK rfl, hB.trans (belowK_b (w := w) (Nat.le_refl _) W D _ _ (by omega) hK rfl rfl)⟩
  case stop =>
    rintro D c pre W _ _ h _
    exact h.elim
end Go.Proofs.Ytblidphaolgilaa
