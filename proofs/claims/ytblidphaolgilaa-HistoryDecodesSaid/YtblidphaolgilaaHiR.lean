/- History: the reference's Find, Before, Judge. -/
import Derived.Test.YtblidphaolgilaaHiK
import Derived.Test.YtblidphaolgilaaOpenR
import Derived.Laws.IdiomStrings
namespace Go.Proofs.Ytblidphaolgilaa
open Go.RowKit Go.Maps
set_option linter.unusedSimpArgs false

theorem eqI22 (x y : I32) (w : World) : (Op.equalIn 10000 22 (.agg (encI x).toArray) (.agg (encI y).toArray)).run Try.prog w = .ok (x.1 == y.1) w :=
  run_equalIn_bytes w 9998 22 5 32 Try.underlying22 Try.underlying5 Try.sizeOf5 x.1 y.1 x.2 y.2
theorem beqI (x y : I32) : (x.1 == y.1) = decide (x = y) := by
  rw [Bool.eq_iff_iff]; simp [Subtype.ext_iff]
/-- rows of entries in memory -/
abbrev EntsAt (B : Nat) (ao : Option Addr) (l : List Ent) (W : World) : Prop := RowsAt encE 36 B ao l W
theorem rangeE_id {w : World} {g o : Nat} {x : Ent} (h : w.rangeAt g o (encE x)) : w.rangeAt g o (encI x.id) := fun j v hv => h j v (by rw [encE_at x j (by have := (List.getElem?_eq_some_iff.1 hv).1; rwa [encI_len] at this)]; exact hv)
/-- the place of an identity, or -1 -/
def idxE (l : List Ent) (id : I32) : Int := if l.findIdx (fun y => decide (y.id = id)) < l.length then (l.findIdx (fun y => decide (y.id = id)) : Int) else -1
theorem idxE_at {l : List Ent} {id : I32} {i : Nat} (hi : i < l.length) (h : l[i].id = id) (hb : ∀ j (hj : j < l.length), j < i → l[j].id ≠ id) : idxE l id = i := by
  have : l.findIdx (fun y => decide (y.id = id)) = i := by
    rw [List.findIdx_eq hi]
    exact ⟨by simp [h], fun j hj => by simp [hb j (by omega) hj]⟩
  unfold idxE; rw [this, if_pos hi]
theorem idxE_none {l : List Ent} {id : I32} (h : ∀ j (hj : j < l.length), l[j].id ≠ id) : idxE l id = -1 := by
  unfold idxE
  have : l.findIdx (fun y => decide (y.id = id)) = l.length := List.findIdx_eq_length.2 (fun x hx => by
    obtain ⟨j, hj, rfl⟩ := List.getElem_of_mem hx
    simp [h j hj])
  rw [this, if_neg (by omega)]
theorem idxE_cases (l : List Ent) (id : I32) : (idxE l id = -1 ∧ fnd l id = none) ∨ ∃ (i : Nat) (hi : i < l.length), idxE l id = i ∧ fnd l id = some l[i] ∧ l[i].id = id := by
  cases hf : fnd l id with
  | none => exact .inl ⟨idxE_none (fun j hj e => fnd_none.1 hf _ (List.getElem_mem hj) e), rfl⟩
  | some y =>
    have hf' := hf
    unfold fnd at hf'
    rw [List.find?_eq_some_iff_getElem] at hf'
    obtain ⟨hy, i, hi, he, hmin⟩ := hf'
    have hid : l[i].id = id := by rw [he]; simpa using hy
    exact .inr ⟨i, hi, idxE_at hi hid (fun j hj hji => by have := hmin j hji; simpa using this), by rw [he], hid⟩
set_option maxRecDepth 100000 in
set_option maxHeartbeats 1000000 in
theorem find_any (l : List Ent) (id : I32) (hl : l.length ≤ 1000000) (ao : Option Addr) (c : Nat) (w : World) (hv : EntsAt w.heap.size ao l w) :
    Calls Try.prog 45 #[.slice ao l.length c, .agg (encI id).toArray] w fun e w' => e = .returned (.int .i64 (idxE l id)) ∧ Below w.heap.size w w' := by
  have hN := rangeAt_row' (heap_alloc_new w (.cells (encI id).toArray 22 (0, 0)))
  have hB : Below w.heap.size w (w.alloc (.cells (encI id).toArray 22)) := (Below.refl _ w).alloc (Nat.le_refl _) _
  have hsz : w.heap.size < (w.alloc (.cells (encI id).toArray 22)).heap.size := by simp
  obtain ⟨w1, hw1⟩ : ∃ w1, w.alloc (.cells (encI id).toArray 22) = w1 := ⟨_, rfl⟩
  rw [hw1] at hN hB hsz
  have HN := Lib.hid hN
  have HV := Lib.hid (hv.below hB (Nat.le_refl _))
  have HSI := Lib.hid (idSize22 id)
  clear hv hN
  go_enter Try.func45, Try.ntmps45
  go_wp2_with fail
  clear hw1
  go_loopw [5] (fun iv wr => ∃ (i : Nat), i ≤ l.length ∧ iv = .int .i64 (i : Int) ∧ Hid (∀ j (hj : j < l.length), j < i → l[j].id ≠ id) ∧ Below w1.heap.size w1 wr) (fun iv _ => (l.length - intOf iv).toNat)
  case atStart => exact ⟨0, Nat.zero_le _, rfl, Lib.hid (fun j hj h => absurd h (Nat.not_lt_zero _)), Below.refl _ _⟩
  case round =>
    obtain ⟨i, hil, rfl, HK, hBr⟩ := hrel
    by_cases hlt : i < l.length
    · have hlti : (i : Int) < (l.length : Int) := by omega
      obtain ⟨g, o, rfl, hg, hr⟩ := HV.out.at hlt
      have HR : Hid (∀ w', Below w1.heap.size w1 w' → w'.rangeAt g (o + i * 36) (encI l[i].id)) := Lib.hid (fun w' b => rangeE_id (rangeAt_below hr b (Nat.lt_of_lt_of_le hg hB.size)))
      have HI : Hid (∀ w', Below w1.heap.size w1 w' → w'.rangeAt w.heap.size 0 (encI id)) := Lib.hid (fun w' b => rangeAt_below HN.out b hsz)
      have HSJ := Lib.hid (idSize22 l[i].id)
      cases heq : (l[i].id.1 == id.1) with
      | true =>
        have HEQ : Hid (∀ w', Below w1.heap.size w1 w' → (Op.equalIn 10000 22 (.agg (encI l[i].id).toArray) (.agg (encI id).toArray)).run Try.prog w' = .ok true w') := Lib.hid (fun w' _ => by rw [eqI22, heq])
        have HID := Lib.hid (idxE_at hlt (by rw [beqI] at heq; simpa using heq) HK.out)
        clear hr heq
        generalize l[i].id = y at *
        go_wp2_with fail
        refine wp_region_noPanic ?_
        refine wp_region_held_drew (S := fun w' => Below w1.heap.size w1 w') (by kernel_rfl) (hBr.drew) (fun hHeld => ?_)
        refine takeL 0 (v := ?_) rfl (by kernel_rfl) (by kernel_rfl) (by kernel_rfl) (fun _ _ _ h => h) (by rfl) hHeld ?_ ?_
        rotate_left 1
        · intro w2 hSw; go_simp <;> with_reducible rfl
        try simp only [Act.put, List.setIfInBounds_toArray, List.set_cons_zero, List.set_cons_succ]
        refine takeL 1 (v := ?_) rfl (by kernel_rfl) (by kernel_rfl) (by kernel_rfl) (fun _ _ _ h => h) (by rfl) hHeld ?_ ?_
        rotate_left 1
        · intro w2 hSw; go_simp <;> with_reducible rfl
        try simp only [Act.put, List.setIfInBounds_toArray, List.set_cons_zero, List.set_cons_succ]
        refine takeL 2 (v := ?_) rfl (by kernel_rfl) (by kernel_rfl) (by kernel_rfl) (fun _ _ _ h => h) (by rfl) hHeld ?_ ?_
        rotate_left 1
        · intro w2 hSw; go_simp <;> with_reducible rfl
        try simp only [Act.put, List.setIfInBounds_toArray, List.set_cons_zero, List.set_cons_succ]
        refine takeL 3 (v := ?_) rfl (by kernel_rfl) (by kernel_rfl) (by kernel_rfl) (fun _ _ _ h => h) (by rfl) hHeld ?_ ?_
        rotate_left 1
        · intro w2 hSw; go_simp <;> with_reducible rfl
        try simp only [Act.put, List.setIfInBounds_toArray, List.set_cons_zero, List.set_cons_succ]
        refine takeRow 4 rfl (by kernel_rfl) (by kernel_rfl) (by kernel_rfl) 22 (.tmp 15) rfl (g) (o + i * 36) rfl (encI y) _ (fun _ _ _ h => h) (by rfl) hHeld HR.out Try.underlying22 rfl HSJ.out ?_
        try simp only [Act.put, List.setIfInBounds_toArray, List.set_cons_zero, List.set_cons_succ]
        refine takeRow 5 rfl (by kernel_rfl) (by kernel_rfl) (by kernel_rfl) 22 (.tmp 3) rfl (w.heap.size) (0) rfl (encI id) _ (fun _ _ _ h => h) (by rfl) hHeld HI.out Try.underlying22 rfl HSI.out ?_
        try simp only [Act.put, List.setIfInBounds_toArray, List.set_cons_zero, List.set_cons_succ]
        refine takeL 6 (v := ?_) rfl (by kernel_rfl) (by kernel_rfl) (by kernel_rfl) (fun _ _ _ h => h) (by rfl) hHeld ?_ ?_
        rotate_left 1
        · intro w2 hSw; have q0 := HEQ.out w2 hSw; go_simp <;> with_reducible rfl
        try simp only [Act.put, List.setIfInBounds_toArray, List.set_cons_zero, List.set_cons_succ]
        refine wpAnyH_done (by kernel_rfl) ?_ _
        refine NoPanic.normal ?_
        go_wp2
        go_ret
        exact ⟨ret_int (by rw [HID.out]), hB.trans (hHeld.mono (Nat.le_of_lt hsz))⟩
      | false =>
        have HEQ : Hid (∀ w', Below w1.heap.size w1 w' → (Op.equalIn 10000 22 (.agg (encI l[i].id).toArray) (.agg (encI id).toArray)).run Try.prog w' = .ok false w') := Lib.hid (fun w' _ => by rw [eqI22, heq])
        have HK2 : Hid (∀ j (hj : j < l.length), j < i + 1 → l[j].id ≠ id) := Lib.hid (fun j hj h => by
          by_cases e : j = i
          · subst e; rw [beqI] at heq; simpa using heq
          · exact HK.out j hj (by omega))
        clear hr heq HK
        generalize l[i].id = y at *
        go_wp2_with fail
        refine wp_region_noPanic ?_
        refine wp_region_held_drew (S := fun w' => Below w1.heap.size w1 w') (by kernel_rfl) (hBr.drew) (fun hHeld => ?_)
        refine takeL 0 (v := ?_) rfl (by kernel_rfl) (by kernel_rfl) (by kernel_rfl) (fun _ _ _ h => h) (by rfl) hHeld ?_ ?_
        rotate_left 1
        · intro w2 hSw; go_simp <;> with_reducible rfl
        try simp only [Act.put, List.setIfInBounds_toArray, List.set_cons_zero, List.set_cons_succ]
        refine takeL 1 (v := ?_) rfl (by kernel_rfl) (by kernel_rfl) (by kernel_rfl) (fun _ _ _ h => h) (by rfl) hHeld ?_ ?_
        rotate_left 1
        · intro w2 hSw; go_simp <;> with_reducible rfl
        try simp only [Act.put, List.setIfInBounds_toArray, List.set_cons_zero, List.set_cons_succ]
        refine takeL 2 (v := ?_) rfl (by kernel_rfl) (by kernel_rfl) (by kernel_rfl) (fun _ _ _ h => h) (by rfl) hHeld ?_ ?_
        rotate_left 1
        · intro w2 hSw; go_simp <;> with_reducible rfl
        try simp only [Act.put, List.setIfInBounds_toArray, List.set_cons_zero, List.set_cons_succ]
        refine takeL 3 (v := ?_) rfl (by kernel_rfl) (by kernel_rfl) (by kernel_rfl) (fun _ _ _ h => h) (by rfl) hHeld ?_ ?_
        rotate_left 1
        · intro w2 hSw; go_simp <;> with_reducible rfl
        try simp only [Act.put, List.setIfInBounds_toArray, List.set_cons_zero, List.set_cons_succ]
        refine takeRow 4 rfl (by kernel_rfl) (by kernel_rfl) (by kernel_rfl) 22 (.tmp 15) rfl (g) (o + i * 36) rfl (encI y) _ (fun _ _ _ h => h) (by rfl) hHeld HR.out Try.underlying22 rfl HSJ.out ?_
        try simp only [Act.put, List.setIfInBounds_toArray, List.set_cons_zero, List.set_cons_succ]
        refine takeRow 5 rfl (by kernel_rfl) (by kernel_rfl) (by kernel_rfl) 22 (.tmp 3) rfl (w.heap.size) (0) rfl (encI id) _ (fun _ _ _ h => h) (by rfl) hHeld HI.out Try.underlying22 rfl HSI.out ?_
        try simp only [Act.put, List.setIfInBounds_toArray, List.set_cons_zero, List.set_cons_succ]
        refine takeL 6 (v := ?_) rfl (by kernel_rfl) (by kernel_rfl) (by kernel_rfl) (fun _ _ _ h => h) (by rfl) hHeld ?_ ?_
        rotate_left 1
        · intro w2 hSw; have q0 := HEQ.out w2 hSw; go_simp <;> with_reducible rfl
        try simp only [Act.put, List.setIfInBounds_toArray, List.set_cons_zero, List.set_cons_succ]
        refine wpAnyH_done (by kernel_rfl) ?_ _
        refine NoPanic.normal ?_
        go_wp2
        go_roundw
        case rel => exact ⟨i + 1, by omega, by go_num, HK2, hHeld⟩
        case measure => simp [intOf]; omega
    · have hlti : ¬ (i : Int) < (l.length : Int) := by omega
      have HID := Lib.hid (idxE_none (l := l) (id := id) (fun j hj => HK.out j hj (by omega)))
      clear HK
      go_wp2
      go_ret
      exact ⟨ret_int (by rw [HID.out]), hB.trans (hBr.mono (Nat.le_of_lt hsz))⟩
theorem ba_toList (l : List UInt8) : (⟨l.toArray⟩ : ByteArray).toList = l := by rw [ByteArray.toList_eq]
theorem ltI_less (x y : I32) : Op.bytesLess x.1 y.1 = ltI x y := by
  rw [less_cmp]
  unfold ltI ltOf cfI
  have := cmp_range x.1 y.1
  rw [decide_eq_decide]
  omega
set_option maxRecDepth 100000 in
set_option maxHeartbeats 1000000 in
theorem before_any (x y : I32) (w : World) :
    Calls Try.prog 60 #[.agg (encI x).toArray, .agg (encI y).toArray] w fun e w' => e = .returned (.bool (ltI x y)) ∧ Below w.heap.size w w' := by
  have h1 := heap_alloc_old' (o := .cells (encI y).toArray 22 (0, 0)) (heap_alloc_new w (.cells (encI x).toArray 22 (0, 0)))
  have h2 := heap_alloc_new (w.alloc (.cells (encI x).toArray 22 (0, 0))) (.cells (encI y).toArray 22 (0, 0))
  have hs1 : (w.alloc (.cells (encI x).toArray 22 (0, 0))).heap.size = w.heap.size + 1 := by simp
  rw [hs1] at h2
  have hB : Below w.heap.size w ((w.alloc (.cells (encI x).toArray 22)).alloc (.cells (encI y).toArray 22)) := ((Below.refl _ w).alloc (Nat.le_refl _) _).alloc (by simp) _
  have hcv : ∀ (b : I32) (g : Nat) (W : World), W.heap[g]? = some (.cells (encI b).toArray 22 (0, 0)) → (convert 64 9 (.slice (some ⟨g, 0, none⟩) 32 32)).run Try.prog W = .ok (.string ⟨b.1.toArray⟩) W := by
    intro b g W hg
    have h := run_convert_bytes_back (P := Try.prog) W 64 9 5 ⟨g, 0, none⟩ 32 b.1 Try.underlying64 Try.underlying5 Try.underlying9 (fun j hj => by
      rw [Addr.add_mid, Nat.zero_add]
      have := rangeAt_row' hg j (.int .u8 (b.1[j].toNat : Int)) (by simp [encI, Lib.byteCells, List.getElem?_eq_getElem hj])
      simpa using this)
    rw [b.2] at h
    exact h
  obtain ⟨w2, hw2⟩ : ∃ w2, (w.alloc (.cells (encI x).toArray 22)).alloc (.cells (encI y).toArray 22) = w2 := ⟨_, rfl⟩
  rw [hw2] at hB h1 h2
  have hl1 := (Array.getElem?_eq_some_iff.1 h1).1
  have hl2 := (Array.getElem?_eq_some_iff.1 h2).1
  have Q1 : Hid (∀ w', Below w2.heap.size w2 w' → (convert 64 9 (.slice (some ⟨w.heap.size, 0, none⟩) 32 32)).run Try.prog w' = .ok (.string ⟨x.1.toArray⟩) w') := Lib.hid (fun w' b => hcv x _ w' (heap_below b hl1 h1))
  have Q2 : Hid (∀ w', Below w2.heap.size w2 w' → (convert 64 9 (.slice (some ⟨w.heap.size + 1, 0, none⟩) 32 32)).run Try.prog w' = .ok (.string ⟨y.1.toArray⟩) w') := Lib.hid (fun w' b => hcv y _ w' (heap_below b hl2 h2))
  clear hcv h1 h2 hs1
  go_enter Try.func60, Try.ntmps60
  go_wp2_with fail
  try rw [hw2]
  clear hw2
  refine wp_region_noPanic ?_
  refine wp_region_held_drew (S := fun w' => Below w2.heap.size w2 w') (by kernel_rfl) ((Below.refl _ _).drew) (fun hHeld => ?_)
  refine takeL 0 (v := ?_) rfl (by kernel_rfl) (by kernel_rfl) (by kernel_rfl) (fun _ _ _ h => h) (by rfl) hHeld ?_ ?_
  rotate_left 1
  · intro w2 hSw; go_simp <;> with_reducible rfl
  try simp only [Act.put, List.setIfInBounds_toArray, List.set_cons_zero, List.set_cons_succ]
  refine takeL 1 (v := ?_) rfl (by kernel_rfl) (by kernel_rfl) (by kernel_rfl) (fun _ _ _ h => h) (by rfl) hHeld ?_ ?_
  rotate_left 1
  · intro w2 hSw; have q0 := Q1.out w2 hSw; go_simp <;> with_reducible rfl
  try simp only [Act.put, List.setIfInBounds_toArray, List.set_cons_zero, List.set_cons_succ]
  refine takeL 2 (v := ?_) rfl (by kernel_rfl) (by kernel_rfl) (by kernel_rfl) (fun _ _ _ h => h) (by rfl) hHeld ?_ ?_
  rotate_left 1
  · intro w2 hSw; go_simp <;> with_reducible rfl
  try simp only [Act.put, List.setIfInBounds_toArray, List.set_cons_zero, List.set_cons_succ]
  refine takeL 3 (v := ?_) rfl (by kernel_rfl) (by kernel_rfl) (by kernel_rfl) (fun _ _ _ h => h) (by rfl) hHeld ?_ ?_
  rotate_left 1
  · intro w2 hSw; have q0 := Q2.out w2 hSw; go_simp <;> with_reducible rfl
  try simp only [Act.put, List.setIfInBounds_toArray, List.set_cons_zero, List.set_cons_succ]
  refine takeL 4 (v := ?_) rfl (by kernel_rfl) (by kernel_rfl) (by kernel_rfl) (fun _ _ _ h => h) (by rfl) hHeld ?_ ?_
  rotate_left 1
  · intro w2 hSw; go_simp <;> with_reducible rfl
  try simp only [Act.put, List.setIfInBounds_toArray, List.set_cons_zero, List.set_cons_succ]
  refine takeL 5 (v := ?_) rfl (by kernel_rfl) (by kernel_rfl) (by kernel_rfl) (fun _ _ _ h => h) (by rfl) hHeld ?_ ?_
  rotate_left 1
  · intro w2 hSw; go_simp <;> with_reducible rfl
  try simp only [Act.put, List.setIfInBounds_toArray, List.set_cons_zero, List.set_cons_succ]
  refine wpAnyH_done (by kernel_rfl) ?_ _
  refine NoPanic.normal ?_
  go_wp2
  go_ret
  exact ⟨ret_bool (ltI_less x y), hB.trans (hHeld.mono hB.size)⟩
end Go.Proofs.Ytblidphaolgilaa
