/- The order by arrival; the predicate of Since; Since. -/
import Derived.Test.YtblidphaolgilaaHiSm
namespace Go.Proofs.Ytblidphaolgilaa
open Go.RowKit Go.Maps Go.Sort
set_option linter.unusedSimpArgs false

/-- grown by new blocks, and drawn from -/
def Gr (w w' : World) : Prop := ∃ q os, w' = grow (w.drewN q) os
theorem Gr.refl (w : World) : Gr w w := ⟨0, #[], by simp [grow, World.drewN]⟩
theorem Gr.trans {a b c : World} (h : Gr a b) (k : Gr b c) : Gr a c := by
  obtain ⟨q, os, rfl⟩ := h
  obtain ⟨q2, os2, rfl⟩ := k
  exact ⟨q + q2, os ++ os2, by simp [grow, World.drewN, Array.append_assoc, Nat.add_assoc]⟩
theorem Gr.drew {a b : World} (h : Gr a b) : Gr a b.drew := h.trans ⟨1, #[], by rw [grow_empty]; rfl⟩
theorem Gr.alloc {a b : World} (h : Gr a b) (o : Obj) : Gr a (b.alloc o) := h.trans ⟨0, #[o], by rw [alloc_eq_grow]; simp [grow, World.drewN]⟩
theorem Gr.below {a b : World} (h : Gr a b) : Below a.heap.size a b := by
  obtain ⟨q, os, rfl⟩ := h
  exact ⟨rfl, rfl, rfl, by simp [grow, World.drewN], fun k hk => by simp [grow, World.drewN, Array.getElem?_append_left hk]⟩

def cmpI (x y : Int) : Int := if x < y then -1 else if y < x then 1 else 0
theorem cmpInt_any (x y : Int) (w : World) : Calls Try.prog 67 #[.int .i64 x, .int .i64 y] w fun e w' => e = .returned (.int .i64 (cmpI x y)) ∧ w = w' := by
  have HN : Hid (∀ (x : Int) (w : World), Calls Try.prog 73 #[.int .i64 x] w fun e w' => e = .returned (.bool false) ∧ w = w') := Lib.hid (fun x w => by
    go_enter Try.func73, Try.ntmps73
    go_wp2
    go_ret
    exact ⟨rfl, rfl⟩)
  by_cases h1 : x < y
  · have e : cmpI x y = -1 := by unfold cmpI; rw [if_pos h1]
    rw [e]
    go_enter Try.func67, Try.ntmps67
    go_wp2_with (first | (go_at_call 73; refine (HN.out _ _).mono ?_; rintro e w' ⟨rfl, rfl⟩))
    go_ret
    exact ⟨rfl, rfl⟩
  · by_cases h2 : y < x
    · have e : cmpI x y = 1 := by unfold cmpI; rw [if_neg h1, if_pos h2]
      rw [e]
      go_enter Try.func67, Try.ntmps67
      go_wp2_with (first | (go_at_call 73; refine (HN.out _ _).mono ?_; rintro e w' ⟨rfl, rfl⟩))
      go_ret
      exact ⟨rfl, rfl⟩
    · have e : cmpI x y = 0 := by unfold cmpI; rw [if_neg h1, if_neg h2]
      rw [e]
      go_enter Try.func67, Try.ntmps67
      go_wp2_with (first | (go_at_call 73; refine (HN.out _ _).mono ?_; rintro e w' ⟨rfl, rfl⟩))
      go_ret
      exact ⟨rfl, rfl⟩

def orI (a b : Int) : Int := if a = 0 then b else a
theorem or2_any (a b : Int) (g : Nat) (w : World) (c0 : w.cell? ⟨g, 0, none⟩ = some (.int .i64 a)) (c1 : w.cell? ⟨g, 1, none⟩ = some (.int .i64 b)) :
    Calls Try.prog 66 #[.slice (some ⟨g, 0, none⟩) 2 2] w fun e w' => e = .returned (.int .i64 (orI a b)) ∧ w = w' := by
  go_enter Try.func66, Try.ntmps66
  go_wp2_with fail
  go_loopw [8] (fun iv wr => ∃ (k : Nat), k ≤ 2 ∧ iv = .int .i64 (k : Int) ∧ (0 < k → a = 0) ∧ (1 < k → b = 0) ∧ wr = w) (fun iv _ => 2 - (intOf iv).toNat)
  case atStart => exact ⟨0, by omega, rfl, by omega, by omega, rfl⟩
  case round =>
    obtain ⟨k, hk, rfl, h1, h2, rfl⟩ := hrel
    obtain rfl | rfl | rfl : k = 0 ∨ k = 1 ∨ k = 2 := by omega
    · by_cases ha : a = 0
      · have haB : (a != 0) = false := by simpa using ha
        have HA := Lib.hid ha
        clear h1 h2 ha
        go_wp2
        go_roundw
        case rel => refine ⟨1, by omega, rfl, fun _ => HA.out, fun h => ?_, by first | rfl | trivial⟩; omega
        case measure => simp [intOf]
      · have haB : (a != 0) = true := by simpa using ha
        have E := Lib.hid (show orI a b = a by unfold orI; rw [if_neg ha])
        clear h1 h2 ha
        go_wp2
        go_ret
        exact ⟨by rw [E.out]; rfl, rfl⟩
    · have ha := h1 (by omega)
      have E := Lib.hid (show orI a b = b by unfold orI; rw [if_pos ha])
      by_cases hb : b = 0
      · have hbB : (b != 0) = false := by simpa using hb
        have HA := Lib.hid ha
        have HB := Lib.hid hb
        clear h1 h2 ha hb
        go_wp2
        go_roundw
        case rel => exact ⟨2, by omega, rfl, fun _ => HA.out, fun _ => HB.out, by first | rfl | trivial⟩
        case measure => simp [intOf]
      · have hbB : (b != 0) = true := by simpa using hb
        clear h1 h2 ha hb
        go_wp2
        go_ret
        exact ⟨by rw [E.out]; rfl, rfl⟩
    · have ha := h1 (by omega)
      have hb := h2 (by omega)
      have E := Lib.hid (show orI a b = 0 by unfold orI; rw [if_pos ha, hb])
      clear h1 h2 ha hb
      go_wp2
      go_ret
      exact ⟨by rw [E.out]; rfl, rfl⟩

def cfA (x y : Ent) : Int := orI (cmpI x.arr.1 y.arr.1) (cfE x y)
theorem ltA (x y : Ent) : ltOf cfA x y = true ↔ x.arr.1 < y.arr.1 ∨ (x.arr.1 = y.arr.1 ∧ ltOf cfE x y = true) := by
  unfold ltOf cfA orI cmpI
  simp only [decide_eq_true_eq]
  by_cases h1 : x.arr.1 < y.arr.1
  · simp [h1]
  · by_cases h2 : y.arr.1 < x.arr.1
    · have h3 : ¬ x.arr.1 = y.arr.1 := by omega
      simp [h1, h2, h3]
    · have h3 : x.arr.1 = y.arr.1 := by omega
      simp [h3]
theorem ltAF (x y : Ent) : ltOf cfA x y = false ↔ y.arr.1 < x.arr.1 ∨ (x.arr.1 = y.arr.1 ∧ ltOf cfE x y = false) := by
  rw [Bool.eq_false_iff, Ne, ltA, not_or, not_and, Bool.not_eq_true]
  constructor
  · rintro ⟨h1, h2⟩
    by_cases h : x.arr.1 = y.arr.1
    · exact .inr ⟨h, h2 h⟩
    · exact .inl (by omega)
  · rintro (h | ⟨h1, h2⟩)
    · exact ⟨by omega, fun h => by omega⟩
    · exact ⟨by omega, fun _ => h2⟩
theorem swoA : SWO (ltOf cfA) where
  irrefl x := (ltAF x x).2 (.inr ⟨rfl, swoE.irrefl x⟩)
  trans x y z h1 h2 := by
    rw [ltA] at *
    rcases h1 with h1 | ⟨h1, h1'⟩ <;> rcases h2 with h2 | ⟨h2, h2'⟩
    · exact .inl (by omega)
    · exact .inl (by omega)
    · exact .inl (by omega)
    · exact .inr ⟨by omega, swoE.trans x y z h1' h2'⟩
  ntrans x y z h1 h2 := by
    rw [ltAF] at *
    rcases h1 with h1 | ⟨h1, h1'⟩ <;> rcases h2 with h2 | ⟨h2, h2'⟩
    · exact .inl (by omega)
    · exact .inl (by omega)
    · exact .inl (by omega)
    · exact .inr ⟨by omega, swoE.ntrans x y z h1' h2'⟩

theorem since1_any (x : Ent) (m : Int) (g : Nat) (w : World) (hg : w.cell? ⟨g, 0, none⟩ = some (.int .i64 m)) (hgl : g < w.heap.size) :
    Calls Try.prog 52 #[encX x, .pointer (some ⟨g, 0, none⟩)] w fun e w' => e = .returned (.bool (decide (m ≤ x.arr.1))) ∧ Below w.heap.size w w' := by
  have hN := EntAt.new w x 29
  have hB : Below w.heap.size w (w.alloc (.cells (encE x).toArray 29)) := (Below.refl _ w).alloc (Nat.le_refl _) _
  obtain ⟨w1, hw1⟩ : ∃ w1, w.alloc (.cells (encE x).toArray 29) = w1 := ⟨_, rfl⟩
  rw [hw1] at hN hB
  have c32 := hN.cell 32 _ (encE_32 x)
  have cg : w1.cell? ⟨g, 0, none⟩ = some (.int .i64 m) := by rw [hB.cell (p := ⟨g, 0, none⟩) hgl]; exact hg
  clear hN hg
  unfold encX
  generalize x.arr.1 = k at *
  go_enter Try.func52, Try.ntmps52
  go_wp2
  go_ret
  exact ⟨rfl, hB⟩

set_option maxRecDepth 100000 in
set_option maxHeartbeats 1000000 in
theorem byArrival_gr (x y : Ent) (w : World) :
    Calls Try.prog 53 #[encX x, encX y] w fun e w' => e = .returned (.int .i64 (cfA x y)) ∧ Gr w w' := by
  have h1 : EntAt ((w.alloc (.cells (encE x).toArray 29)).alloc (.cells (encE y).toArray 29)) w.heap.size 29 x := heap_alloc_old' (EntAt.new w x _)
  have h2 := EntAt.new (w.alloc (.cells (encE x).toArray 29)) y 29
  have hG : Gr w ((w.alloc (.cells (encE x).toArray 29)).alloc (.cells (encE y).toArray 29)) := ((Gr.refl w).alloc _).alloc _
  have hsz : (w.alloc (.cells (encE x).toArray 29)).heap.size = w.heap.size + 1 := by simp
  have hs2 : ((w.alloc (.cells (encE x).toArray 29)).alloc (.cells (encE y).toArray 29)).heap.size = w.heap.size + 1 + 1 := by simp
  rw [hsz] at h2
  obtain ⟨w2, hw2⟩ : ∃ w2, (w.alloc (.cells (encE x).toArray 29)).alloc (.cells (encE y).toArray 29) = w2 := ⟨_, rfl⟩
  rw [hw2] at h1 h2 hG hs2
  clear hsz
  have HC1 : Hid (∀ w', Gr w2 w' → w'.cell? ⟨w.heap.size, 32, none⟩ = some (.int .i64 x.arr.1)) := Lib.hid (fun w' k => (h1.below k.below (by omega)).cell 32 _ (encE_32 x))
  have HC2 : Hid (∀ w', Gr w2 w' → w'.cell? ⟨w.heap.size + 1, 32, none⟩ = some (.int .i64 y.arr.1)) := Lib.hid (fun w' k => (h2.below k.below (by omega)).cell 32 _ (encE_32 y))
  have HR1 : Hid (∀ w', Gr w2 w' → w'.rangeAt w.heap.size 0 (encE x)) := Lib.hid (fun w' k => EntAt.range (h1.below k.below (by omega)))
  have HR2 : Hid (∀ w', Gr w2 w' → w'.rangeAt (w.heap.size + 1) 0 (encE y)) := Lib.hid (fun w' k => EntAt.range (h2.below k.below (by omega)))
  have HSX := Lib.hid (xLen x)
  have HSY := Lib.hid (xLen y)
  clear h1 h2
  unfold encX
  go_enter Try.func53, Try.ntmps53
  go_wp2_with fail
  clear hw2
  refine wp_region_noPanic ?_
  refine wp_region_held_drew (S := fun w' => Gr w2 w') (by kernel_rfl) ((Gr.refl _).drew) (fun hHeld => ?_)
  refine takeL 0 (v := ?_) rfl (by kernel_rfl) (by kernel_rfl) (by kernel_rfl) (fun _ _ _ h => h) (by rfl) hHeld ?_ ?_
  rotate_left 1
  · intro w2 hSw; have q0 := HC1.out w2 hSw; have q1 := HC2.out w2 hSw; go_simp <;> with_reducible rfl
  try simp only [Act.put, List.setIfInBounds_toArray, List.set_cons_zero, List.set_cons_succ]
  refine takeL 1 (v := ?_) rfl (by kernel_rfl) (by kernel_rfl) (by kernel_rfl) (fun _ _ _ h => h) (by rfl) hHeld ?_ ?_
  rotate_left 1
  · intro w2 hSw; have q0 := HC1.out w2 hSw; have q1 := HC2.out w2 hSw; go_simp <;> with_reducible rfl
  try simp only [Act.put, List.setIfInBounds_toArray, List.set_cons_zero, List.set_cons_succ]
  refine takeL 2 (v := ?_) rfl (by kernel_rfl) (by kernel_rfl) (by kernel_rfl) (fun _ _ _ h => h) (by rfl) hHeld ?_ ?_
  rotate_left 1
  · intro w2 hSw; have q0 := HC1.out w2 hSw; have q1 := HC2.out w2 hSw; go_simp <;> with_reducible rfl
  try simp only [Act.put, List.setIfInBounds_toArray, List.set_cons_zero, List.set_cons_succ]
  refine takeL 3 (v := ?_) rfl (by kernel_rfl) (by kernel_rfl) (by kernel_rfl) (fun _ _ _ h => h) (by rfl) hHeld ?_ ?_
  rotate_left 1
  · intro w2 hSw; have q0 := HC1.out w2 hSw; have q1 := HC2.out w2 hSw; go_simp <;> with_reducible rfl
  try simp only [Act.put, List.setIfInBounds_toArray, List.set_cons_zero, List.set_cons_succ]
  refine takeRow 5 rfl (by kernel_rfl) (by kernel_rfl) (by kernel_rfl) 29 (.tmp 2) rfl (w.heap.size) (0) rfl (encE x) _ (fun _ _ _ h => h) (by rfl) hHeld HR1.out Try.underlying29 rfl HSX.out ?_
  try simp only [Act.put, List.setIfInBounds_toArray, List.set_cons_zero, List.set_cons_succ]
  refine takeRow 6 rfl (by kernel_rfl) (by kernel_rfl) (by kernel_rfl) 29 (.tmp 3) rfl (w.heap.size + 1) (0) rfl (encE y) _ (fun _ _ _ h => h) (by rfl) hHeld HR2.out Try.underlying29 rfl HSY.out ?_
  try simp only [Act.put, List.setIfInBounds_toArray, List.set_cons_zero, List.set_cons_succ]
  refine heavyL 4 rfl (by kernel_rfl) (fun K hK => ?_)
  go_simp
  refine (cmpInt_any x.arr.1 y.arr.1 _).mono ?_
  rintro e w' ⟨rfl, rfl⟩
  try go_simp
  refine hK.out _ _ (hHeld) (fun hHeld => ?_)
  clear hK K
  try simp only [Act.put, List.setIfInBounds_toArray, List.set_cons_zero, List.set_cons_succ]
  refine heavyL 7 rfl (by kernel_rfl) (fun K hK => ?_)
  go_simp
  refine (byId_grow x y _).mono ?_
  rintro e w4 ⟨rfl, g4⟩
  try go_simp
  refine hK.out _ _ (hHeld.trans g4) (fun hHeld => ?_)
  clear hK K
  try simp only [Act.put, List.setIfInBounds_toArray, List.set_cons_zero, List.set_cons_succ]
  refine heavyL 8 rfl (by kernel_rfl) (fun K hK => ?_)
  go_simp
  refine hK.out _ _ (hHeld.alloc _) (fun hHeld => ?_)
  clear hK K
  try simp only [Act.put, List.setIfInBounds_toArray, List.set_cons_zero, List.set_cons_succ]
  refine heavyL 9 rfl (by kernel_rfl) (fun K hK => ?_)
  go_simp
  refine (or2_any (cmpI x.arr.1 y.arr.1) (cfE x y) w4.heap.size _ (by rw [cell_of_row _ _ 0 _ _ _ (heap_alloc_new w4 _)]; rfl) (by rw [cell_of_row _ _ 1 _ _ _ (heap_alloc_new w4 _)]; rfl)).mono ?_
  rintro e w' ⟨rfl, rfl⟩
  try go_simp
  refine hK.out _ _ (hHeld) (fun hHeld => ?_)
  clear hK K
  try simp only [Act.put, List.setIfInBounds_toArray, List.set_cons_zero, List.set_cons_succ]
  refine takeL 10 (v := ?_) rfl (by kernel_rfl) (by kernel_rfl) (by kernel_rfl) (fun _ _ _ h => h) (by rfl) hHeld ?_ ?_
  rotate_left 1
  · intro w2 hSw; go_simp <;> with_reducible rfl
  try simp only [Act.put, List.setIfInBounds_toArray, List.set_cons_zero, List.set_cons_succ]
  refine wpAnyH_done (by kernel_rfl) ?_ _
  refine NoPanic.normal ?_
  go_wp2
  go_ret
  exact ⟨rfl, hG.trans hHeld⟩

theorem enters52 : ∀ args w, (callFunc 52 args).run Try.prog w = .ok (.enter 52 args) w := enters_of Try.func52 (by kernel_rfl) rfl
theorem enters53 : ∀ args w, (callFunc 53 args).run Try.prog w = .ok (.enter 53 args) w := enters_of Try.func53 (by kernel_rfl) rfl
set_option maxRecDepth 100000 in
theorem since_any (m : Int) (hb mb : Nat) (l : List Ent) (cut : Int) (hl : l.length ≤ 1000) (w : World) (h : HistAt w hb mb l cut) :
    Calls Try.prog 24 #[.pointer (some ⟨hb, 0, none⟩), .int .i64 m] w fun e w' => ∃ v l', e = .returned v ∧ l'.Perm (l.filter fun x => decide (m ≤ x.arr.1)) ∧ (l'.Pairwise fun a b => ltOf cfA b a = false) ∧
      w'.ownsRow w.heap.size 29 36 v l'.length (ecs l') ∧ Below w.heap.size w w' := by
  have hB : Below w.heap.size w (w.alloc (.cells #[.int .i64 m] 3)) := (Below.refl _ w).alloc (Nat.le_refl _) _
  have hbox := heap_alloc_new w (.cells #[.int .i64 m] 3 (0, 0))
  have hs1 : (w.alloc (.cells #[.int .i64 m] 3)).heap.size = w.heap.size + 1 := by simp
  obtain ⟨w1, hw1⟩ : ∃ w1, w.alloc (.cells #[.int .i64 m] 3) = w1 := ⟨_, rfl⟩
  rw [hw1] at hB hbox hs1
  have cb := cell_of_row _ _ 0 _ _ _ hbox
  have HSo := Lib.hid (sorted_any 52 53 #[.pointer (some ⟨w.heap.size, 0, none⟩)] (fun x => decide (m ≤ x.arr.1)) cfA swoA hb mb l cut hl w1 (h.kept hB) enters52
      (fun x W b => since1_any x m w.heap.size W (by rw [b.cell (p := ⟨w.heap.size, 0, none⟩) (by show w.heap.size < w1.heap.size; omega)]; exact cb) (by have := b.size; omega)) enters53 (fun x y W => byArrival_gr x y W))
  clear h hbox cb
  go_enter Try.func24, Try.ntmps24
  go_wp2_with fail
  refine HSo.out.mono ?_
  rintro e w2 ⟨v, l', rfl, hp', ho', hr2, b2⟩
  have HP := Lib.hid hp'
  have HO := Lib.hid ho'
  have HR2 := Lib.hid hr2
  clear hp' ho' hr2 hw1
  go_wp2
  go_ret
  exact ⟨v, l', rfl, HP.out, HO.out, owns_base HR2.out (by omega), hB.trans (b2.mono (by omega))⟩
end Go.Proofs.Ytblidphaolgilaa
