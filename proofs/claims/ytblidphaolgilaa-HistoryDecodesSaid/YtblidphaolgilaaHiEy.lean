/- The entry that 41 bytes say: the program's function. -/
import Derived.Test.YtblidphaolgilaaHiB4
import Derived.Test.YtblidphaolgilaaHiW2
import Derived.Test.YtblidphaolgilaaHiE
import Derived.Test.YtblidphaolgilaaZ
import Derived.Laws.Cover3
namespace Go.Proofs.Ytblidphaolgilaa
open Go.RowKit Go.Maps Go.Sort
set_option linter.unusedSimpArgs false
set_option linter.unusedVariables false

theorem u8_and1 (x : Nat) (h : x < 256) : bits .and .u8 (x : Int) 1 = ((x % 2 : Nat) : Int) := by
  have := Go.bits_mask .u8 8 (by decide) Go.wraps_u8 1 (by decide) (x : Int) (by omega) (by omega)
  rw [show ((2 : Int) ^ 1 - 1) = 1 by decide] at this
  rw [this]; omega
theorem u8_and2 (x : Nat) (h : x < 256) : (bits .and .u8 (x : Int) 2 != 0) = decide (x / 2 % 2 = 1) := by
  have key : ∀ n : Fin 256, (bits .and .u8 (n.1 : Int) 2 != 0) = decide (n.1 / 2 % 2 = 1) := by decide +kernel
  exact key ⟨x, h⟩
theorem But.setRow {ms : Nat → Prop} (w : World) {g : Nat} (h : ms g) (cs : Array Value) : But ms w (w.setRow g cs) :=
  ⟨rfl, rfl, rfl, by simp, fun k hk hn => setRow_other w g k cs (fun e => hn (e ▸ h))⟩
theorem exec_build {P : Program} {o : Oper} {ev : Operand → Value} (t : TypeId) (parts : Array (Nat × Operand)) (ho : o.op = .build t parts)
    (vs : List (Nat × Value)) (hv : (parts.map fun (i, x) => (i, ev x)).toList = vs) (cells : Array Value) (hb : P.built t vs = some cells) (w : World) : (execOp ev o).run P w = .ok (.value (.agg cells)) w := by
  unfold execOp
  simp only [ho, Sem.run_bind, run_build w t (parts.map fun (i, x) => (i, ev x)) cells (by rw [hv]; exact hb), Result.andThen_ok]
  rfl
set_option maxRecDepth 100000 in
set_option maxHeartbeats 4000000 in
theorem entry_any (b : List UInt8) (hl : b.length = 41) (ao : Option Addr) (c : Nat) (hc : 41 ≤ c) (hcm : c ≤ 1000000) (w : World) (hv : RowsAt b1 1 w.heap.size ao b w) :
    Calls Try.prog 58 #[.slice ao b.length c] w fun e w' => e = .returned (.tuple #[encX (pE b), .bool (okB b)]) ∧ Below w.heap.size w w' := by
  have HV := Lib.hid hv
  obtain ⟨g, o, rfl, hg, hr0⟩ := hv.at (i := 0) (by omega)
  have hc40 : w.cell? ⟨g, o + 40, none⟩ = some (.int .u8 (byt b 40 : Int)) := by
    obtain ⟨g', o', e, _, hr⟩ := hv.at (i := 40) (by omega)
    cases e
    have := hr 0 _ rfl
    rw [Nat.mul_one, Nat.add_zero] at this
    rw [this]
    unfold byt
    rw [List.getD_eq_getElem?_getD, List.getElem?_eq_getElem (by omega)]
    rfl
  have hrow : w.rangeAt g o (encI (pE b).id) := fun j u hu => by
    have hid : (pE b).id.1 = b.take 32 := by
      show (pId b).1 = _
      unfold pId
      rw [dif_pos (by rw [List.length_take]; omega)]
    have hj : j < 32 := by have := (List.getElem?_eq_some_iff.1 hu).1; rwa [encI_len] at this
    obtain ⟨g', o', e, _, hr⟩ := hv.at (i := j) (by omega)
    cases e
    have := hr 0 _ rfl
    rw [Nat.mul_one, Nat.add_zero] at this
    rw [this]
    unfold encI Lib.byteCells at hu
    rw [hid, List.getElem?_map, List.getElem?_take_of_lt hj, List.getElem?_eq_getElem (by omega)] at hu
    exact hu
  have hl40 := byt_lt b 40
  obtain ⟨sv, hsv⟩ : ∃ sv : I64, (pE b).st = sv := ⟨_, rfl⟩
  obtain ⟨pv, hpv⟩ : ∃ pv : Bool, (pE b).perm = pv := ⟨_, rfl⟩
  have HA1 : Hid (bits .and .u8 (byt b 40 : Int) 1 = sv.1) := Lib.hid ((u8_and1 _ hl40).trans (by rw [← hsv]; rfl))
  have HA2 : Hid ((bits .and .u8 (byt b 40 : Int) 2 != 0) = pv) := Lib.hid ((u8_and2 _ hl40).trans hpv)
  have HBE := Lib.hid (built_ent (pE b))
  rw [hsv, hpv] at HBE
  clear hsv hpv
  have HSI := Lib.hid (idSize29 (pE b).id)
  have HSZ := Lib.hid (xSize (pE b))
  have HSL := Lib.hid (xLen (pE b))
  have hi40 : (40 : Int) < (b.length : Int) := by omega
  have hb36 : 32 + 4 ≤ b.length := by omega
  have hb40 : 36 + 4 ≤ b.length := by omega
  have hbm : b.length ≤ 1000000 := by omega
  have HL := Lib.hid hl
  clear hr0 hl
  go_enter Try.func58, Try.ntmps58
  have HRW := Lib.hid hrow
  clear hv hrow
  go_wp2_with fail
  generalize hw1 : World.alloc w _ = w1
  have hB1 : Below w.heap.size w w1 := by rw [← hw1]; exact (Below.refl _ w).alloc (Nat.le_refl _) _
  have hs1 : w1.heap.size = w.heap.size + 1 := by rw [← hw1]; simp
  have HV1 := Lib.hid (HV.out.below hB1 (Nat.le_refl _))
  have HRI : Hid (∀ w', Below w1.heap.size w1 w' → w'.rangeAt g o (encI (pE b).id)) := Lib.hid (fun w' k => rangeAt_below (rangeAt_below HRW.out hB1 hg) k (by omega))
  have HN1 : Hid (EntAt w1 w.heap.size 29 Ent.zero) := Lib.hid (by rw [← hw1]; exact EntAt.new w Ent.zero _)
  have HVA : Hid (∀ w', Below w1.heap.size w1 w' → RowsAt b1 1 w'.heap.size (some ⟨g, o, none⟩) b w') := Lib.hid (fun w' k => ((HV1.out.below k (by omega)).mono (by have := k.size; omega)))
  clear hw1 hc40 HV HV1
  have hln : (32 : Int) ≤ (c : Int) := by omega
  refine wp_region_noPanic ?_
  refine wp_region_held_drew (S := fun w' => Below w1.heap.size w1 w') (by kernel_rfl) ((Below.refl _ _).drew) (fun hHeld => ?_)
  refine takeL 0 (v := ?_) rfl (by kernel_rfl) (by kernel_rfl) (by kernel_rfl) (fun _ _ _ h => h) (by rfl) hHeld ?_ ?_
  rotate_left 1
  · intro w2 hSw; go_simp <;> with_reducible rfl
  try simp only [Act.put, List.setIfInBounds_toArray, List.set_cons_zero, List.set_cons_succ]
  refine takeL 1 (v := ?_) rfl (by kernel_rfl) (by kernel_rfl) (by kernel_rfl) (fun _ _ _ h => h) (by rfl) hHeld ?_ ?_
  rotate_left 1
  · intro w2 hSw; go_simp <;> with_reducible rfl
  try simp only [Act.put, List.setIfInBounds_toArray, List.set_cons_zero, List.set_cons_succ]
  refine takeL 2 (v := .pointer (some ⟨g, o, none⟩)) rfl (by kernel_rfl) (by kernel_rfl) (by kernel_rfl) (fun _ _ _ h => h) (by rfl) hHeld ?_ ?_
  · intro w2 hSw; exact by go_simp; rw [run_arrayAt w2 27 5 32 _ _ _ Try.underlying27 (by decide)]; rfl
  try simp only [Act.put, List.setIfInBounds_toArray, List.set_cons_zero, List.set_cons_succ]
  refine takeRow 3 rfl (by kernel_rfl) (by kernel_rfl) (by kernel_rfl) 27 (.tmp 11) rfl (g) (o) rfl (encI (pE b).id) _ (fun _ _ _ h => h) (by rfl) hHeld HRI.out Try.underlying27 rfl HSI.out ?_
  try simp only [Act.put, List.setIfInBounds_toArray, List.set_cons_zero, List.set_cons_succ]
  refine takeL 4 (v := ?_) rfl (by kernel_rfl) (by kernel_rfl) (by kernel_rfl) (fun _ _ _ h => h) (by rfl) hHeld ?_ ?_
  rotate_left 1
  · intro w2 hSw; go_simp <;> with_reducible rfl
  try simp only [Act.put, List.setIfInBounds_toArray, List.set_cons_zero, List.set_cons_succ]
  refine takeL 6 (v := ?_) rfl (by kernel_rfl) (by kernel_rfl) (by kernel_rfl) (fun _ _ _ h => h) (by rfl) hHeld ?_ ?_
  rotate_left 1
  · intro w2 hSw; go_simp <;> with_reducible rfl
  try simp only [Act.put, List.setIfInBounds_toArray, List.set_cons_zero, List.set_cons_succ]
  refine takeL 8 (v := ?_) rfl (by kernel_rfl) (by kernel_rfl) (by kernel_rfl) (fun _ _ _ h => h) (by rfl) hHeld ?_ ?_
  rotate_left 1
  · intro w2 hSw; go_simp <;> with_reducible rfl
  try simp only [Act.put, List.setIfInBounds_toArray, List.set_cons_zero, List.set_cons_succ]
  refine takeL 9 (v := .int .u8 sv.1) rfl (by kernel_rfl) (by kernel_rfl) (by kernel_rfl) (fun _ _ _ h => h) (by rfl) hHeld ?_ ?_
  · intro w2 hSw; exact by have h := HA1.out; go_simp
  try simp only [Act.put, List.setIfInBounds_toArray, List.set_cons_zero, List.set_cons_succ]
  refine takeL 10 (v := .int .i64 sv.1) rfl (by kernel_rfl) (by kernel_rfl) (by kernel_rfl) (fun _ _ _ h => h) (by rfl) hHeld ?_ ?_
  · intro w2 hSw; exact by go_simp; rw [IntWalk.i64_in _ (by have := sv.2; omega)]
  try simp only [Act.put, List.setIfInBounds_toArray, List.set_cons_zero, List.set_cons_succ]
  refine takeL 11 (v := ?_) rfl (by kernel_rfl) (by kernel_rfl) (by kernel_rfl) (fun _ _ _ h => h) (by rfl) hHeld ?_ ?_
  rotate_left 1
  · intro w2 hSw; go_simp <;> with_reducible rfl
  try simp only [Act.put, List.setIfInBounds_toArray, List.set_cons_zero, List.set_cons_succ]
  refine takeL 12 (v := ?_) rfl (by kernel_rfl) (by kernel_rfl) (by kernel_rfl) (fun _ _ _ h => h) (by rfl) hHeld ?_ ?_
  rotate_left 1
  · intro w2 hSw; go_simp <;> with_reducible rfl
  try simp only [Act.put, List.setIfInBounds_toArray, List.set_cons_zero, List.set_cons_succ]
  refine takeL 13 (v := .bool pv) rfl (by kernel_rfl) (by kernel_rfl) (by kernel_rfl) (fun _ _ _ h => h) (by rfl) hHeld ?_ ?_
  · intro w2 hSw; exact by have h := HA2.out; go_simp
  try simp only [Act.put, List.setIfInBounds_toArray, List.set_cons_zero, List.set_cons_succ]
  refine heavy2 5 15 rfl rfl (by kernel_rfl) (fun K hK => ?_) (fun K hK => ?_)
  · skip
    go_simp
    refine (number_any b 32 hb36 hbm _ c _ (HVA.out _ hHeld)).mono ?_
    rintro e w4 ⟨rfl, b4⟩
    try go_simp
    refine hK.out _ _ (hHeld.trans (b4.mono hHeld.size)) (fun hHeld => ?_)
    clear hK K
    try simp only [Act.put, List.setIfInBounds_toArray, List.set_cons_zero, List.set_cons_succ]
    refine heavy2 7 15 rfl rfl (by kernel_rfl) (fun K hK => ?_) (fun K hK => ?_)
    · skip
      go_simp
      refine (number_any b 36 hb40 hbm _ c _ (HVA.out _ hHeld)).mono ?_
      rintro e w5 ⟨rfl, b5⟩
      try go_simp
      refine hK.out _ _ (hHeld.trans (b5.mono hHeld.size)) (fun hHeld => ?_)
      clear hK K
      try simp only [Act.put, List.setIfInBounds_toArray, List.set_cons_zero, List.set_cons_succ]
      refine takeL 14 (v := .agg (encE (pE b)).toArray) rfl (by kernel_rfl) (by kernel_rfl) (by kernel_rfl) (fun _ _ _ h => h) (by rfl) hHeld ?_ ?_
      · intro w2 hSw; exact exec_build 29 #[(0, .tmp 12), (1, .tmp 14), (2, .tmp 16), (3, .tmp 19), (4, .tmp 22)] rfl [(0, .agg (encI (pE b).id).toArray), (1, .int .i64 (pE b).arr.1), (2, .int .i64 (pE b).dat.1), (3, .int .i64 sv.1), (4, .bool pv)] (by simp only [List.map_toArray, List.map_cons, List.map_nil]; rfl) _ HBE.out w2
      try simp only [Act.put, List.setIfInBounds_toArray, List.set_cons_zero, List.set_cons_succ]
      have hge := hHeld.size
      refine heavyL 15 rfl (by kernel_rfl) (fun K hK => ?_)
      go_simp
      refine hK.out _ _ (hHeld.alloc hHeld.size _) (fun hHeld => ?_)
      clear hK K
      try simp only [Act.put, List.setIfInBounds_toArray, List.set_cons_zero, List.set_cons_succ]
      have hold := heap_alloc_new w5 (.cells (encE Ent.zero).toArray 29 (0, 0))
      refine heavyL 16 rfl (by kernel_rfl) (fun K hK => ?_)
      rw [if_pos (by rfl)]
      refine wp_store_abs 29 (.tmp 5) (.tmp 23) (by rfl) (w5.heap.size) ((encE (pE b)).toArray) (by rfl) (by rfl) _ ((encE Ent.zero).toArray) (hold) HSZ.out (by simp [encE_len]) (ent_one _) _ _ hHeld (hge) ?_
      intro w6 Hw6 bw6 Ow6
      refine hK.out _ _ bw6 (fun hHeld => ?_)
      clear hK K
      try simp only [Act.put, List.setIfInBounds_toArray, List.set_cons_zero, List.set_cons_succ]
      refine wpAnyH_done (by kernel_rfl) ?_ _
      refine NoPanic.normal ?_
      have hE6 : EntAt w6 (w5.heap.size) 29 (pE b) := Hw6.out
      have hZ6 : Hid (EntAt w6 w.heap.size 29 Ent.zero) := Lib.hid (HN1.out.below hHeld (by omega))
      have hB6 := hB1.trans (hHeld.mono hB1.size)
      have hb6 : w5.heap.size < w6.heap.size := (Array.getElem?_eq_some_iff.1 hE6).1
      obtain ⟨ms, hms⟩ : ∃ ms : Nat → Prop, ms = fun k => k = w.heap.size := ⟨_, rfl⟩
      have hnm : ¬ ms (w5.heap.size) := by rw [hms]; show ¬ _ = _; omega
      have HRE : Hid (∀ w', (But ms w6 w' ∧ ∃ z, EntAt w' w.heap.size 29 z) → w'.rangeAt (w5.heap.size) 0 (encE (pE b))) := Lib.hid (fun w' k => k.1.range hb6 hnm (EntAt.range hE6))
      have hs6 := hB6.size
      have hbw : ∀ W, But ms w6 W → Below w.heap.size w W := fun W k => hB6.trans (k.below hs6 (fun i h => by rw [hms] at h; exact Nat.le_of_eq h.symm))
      have hmw : ms w.heap.size := by rw [hms]
      have HBW := Lib.hid hbw
      clear Hw6 hold hHeld hE6 HVA HRI HN1 hms hbw
      by_cases h4 : byt b 40 < 4
      · have hok : Hid (okB b = (chk (pE b) == 0)) := Lib.hid (by unfold okB; simp [h4]; rfl)
        have h4i : (byt b 40 : Int) < 4 := by omega
        go_wp2_with fail
        refine wp_region_noPanic ?_
        refine wp_region_held_drew (S := fun w' => But ms w6 w' ∧ ∃ z, EntAt w' w.heap.size 29 z) (by kernel_rfl) (⟨(But.refl _ _).drew, _, hZ6.out⟩) (fun hHeld => ?_)
        refine takeRow 0 rfl (by kernel_rfl) (by kernel_rfl) (by kernel_rfl) 29 (.tmp 5) rfl (w5.heap.size) (0) rfl (encE (pE b)) _ (fun _ _ _ h => h) (by rfl) hHeld HRE.out Try.underlying29 rfl HSL.out ?_
        try simp only [Act.put, List.setIfInBounds_toArray, List.set_cons_zero, List.set_cons_succ]
        refine takeL 1 (v := ?_) rfl (by kernel_rfl) (by kernel_rfl) (by kernel_rfl) (fun _ _ _ h => h) (by rfl) hHeld ?_ ?_
        rotate_left 1
        · intro w2 hSw; go_simp <;> with_reducible rfl
        try simp only [Act.put, List.setIfInBounds_toArray, List.set_cons_zero, List.set_cons_succ]
        refine takeL 2 (v := ?_) rfl (by kernel_rfl) (by kernel_rfl) (by kernel_rfl) (fun _ _ _ h => h) (by rfl) hHeld ?_ ?_
        rotate_left 1
        · intro w2 hSw; go_simp <;> with_reducible rfl
        try simp only [Act.put, List.setIfInBounds_toArray, List.set_cons_zero, List.set_cons_succ]
        refine takeL 3 (v := ?_) rfl (by kernel_rfl) (by kernel_rfl) (by kernel_rfl) (fun _ _ _ h => h) (by rfl) hHeld ?_ ?_
        rotate_left 1
        · intro w2 hSw; go_simp <;> with_reducible rfl
        try simp only [Act.put, List.setIfInBounds_toArray, List.set_cons_zero, List.set_cons_succ]
        refine takeRow 4 rfl (by kernel_rfl) (by kernel_rfl) (by kernel_rfl) 29 (.tmp 5) rfl (w5.heap.size) (0) rfl (encE (pE b)) _ (fun _ _ _ h => h) (by rfl) hHeld HRE.out Try.underlying29 rfl HSL.out ?_
        try simp only [Act.put, List.setIfInBounds_toArray, List.set_cons_zero, List.set_cons_succ]
        refine heavyL 5 rfl (by kernel_rfl) (fun K hK => ?_)
        go_simp
        refine (check_any (pE b) _).mono ?_
        rintro e w7 ⟨rfl, b7⟩
        try unfold encX
        try go_simp
        refine hK.out _ _ (⟨hHeld.1.trans (But.of_below b7), hHeld.2.elim fun z hz => ⟨z, hz.below b7 (Array.getElem?_eq_some_iff.1 hz).1⟩⟩) (fun hHeld => ?_)
        clear hK K
        try simp only [Act.put, List.setIfInBounds_toArray, List.set_cons_zero, List.set_cons_succ]
        refine takeL 6 (v := ?_) rfl (by kernel_rfl) (by kernel_rfl) (by kernel_rfl) (fun _ _ _ h => h) (by rfl) hHeld ?_ ?_
        rotate_left 1
        · intro w2 hSw; go_simp <;> with_reducible rfl
        try simp only [Act.put, List.setIfInBounds_toArray, List.set_cons_zero, List.set_cons_succ]
        refine takeL 7 (v := ?_) rfl (by kernel_rfl) (by kernel_rfl) (by kernel_rfl) (fun _ _ _ h => h) (by rfl) hHeld ?_ ?_
        rotate_left 1
        · intro w2 hSw; go_simp <;> with_reducible rfl
        try simp only [Act.put, List.setIfInBounds_toArray, List.set_cons_zero, List.set_cons_succ]
        obtain ⟨kB, z, hz⟩ := hHeld
        refine heavyL 8 rfl (by kernel_rfl) (fun K hK => ?_)
        rw [if_pos (by rfl)]
        refine wp_store_row 29 (.tmp 2) (.tmp 24) (by rfl) w.heap.size (encE (pE b)).toArray (by rfl) (by rfl) _ (encE z).toArray hz HSZ.out (by simp [encE_len]) (ent_one _) ?_
        refine hK.out _ _ (⟨kB.trans (But.setRow _ hmw _), _, setRow_heap _ _ _ _ _ _ hz⟩) (fun hHeld => ?_)
        clear hK K
        try simp only [Act.put, List.setIfInBounds_toArray, List.set_cons_zero, List.set_cons_succ]
        refine takeL 9 (v := ?_) rfl (by kernel_rfl) (by kernel_rfl) (by kernel_rfl) (fun _ _ _ h => h) (by rfl) hHeld ?_ ?_
        rotate_left 1
        · intro w2 hSw; go_simp <;> with_reducible rfl
        try simp only [Act.put, List.setIfInBounds_toArray, List.set_cons_zero, List.set_cons_succ]
        refine wpAnyH_done (by kernel_rfl) ?_ _
        refine NoPanic.normal ?_
        have hBf := HBW.out _ hHeld.1
        have hR := setRow_heap _ _ _ (encE (pE b)).toArray _ _ hz
        go_wp2
        refine bodyPost_ret (results_cell2 rfl _ _ _ _ _ _ _ rfl hR Try.underlying29 rfl HSZ.out) rfl ⟨?_, hBf⟩
        rw [hok.out]
        rfl
      · have hok : Hid (okB b = false) := Lib.hid (by unfold okB; simp [h4])
        have h4i : decide ((byt b 40 : Int) < 4) = false := by simp; omega
        clear h4
        go_wp2_with fail
        refine wp_region_noPanic ?_
        refine wp_region_held_drew (S := fun w' => But ms w6 w' ∧ ∃ z, EntAt w' w.heap.size 29 z) (by kernel_rfl) (⟨(But.refl _ _).drew, _, hZ6.out⟩) (fun hHeld => ?_)
        refine takeRow 0 rfl (by kernel_rfl) (by kernel_rfl) (by kernel_rfl) 29 (.tmp 5) rfl (w5.heap.size) (0) rfl (encE (pE b)) _ (fun _ _ _ h => h) (by rfl) hHeld HRE.out Try.underlying29 rfl HSL.out ?_
        try simp only [Act.put, List.setIfInBounds_toArray, List.set_cons_zero, List.set_cons_succ]
        refine takeL 1 (v := ?_) rfl (by kernel_rfl) (by kernel_rfl) (by kernel_rfl) (fun _ _ _ h => h) (by rfl) hHeld ?_ ?_
        rotate_left 1
        · intro w2 hSw; go_simp <;> with_reducible rfl
        try simp only [Act.put, List.setIfInBounds_toArray, List.set_cons_zero, List.set_cons_succ]
        refine takeL 2 (v := ?_) rfl (by kernel_rfl) (by kernel_rfl) (by kernel_rfl) (fun _ _ _ h => h) (by rfl) hHeld ?_ ?_
        rotate_left 1
        · intro w2 hSw; go_simp <;> with_reducible rfl
        try simp only [Act.put, List.setIfInBounds_toArray, List.set_cons_zero, List.set_cons_succ]
        refine takeL 3 (v := ?_) rfl (by kernel_rfl) (by kernel_rfl) (by kernel_rfl) (fun _ _ _ h => h) (by rfl) hHeld ?_ ?_
        rotate_left 1
        · intro w2 hSw; go_simp <;> with_reducible rfl
        try simp only [Act.put, List.setIfInBounds_toArray, List.set_cons_zero, List.set_cons_succ]
        refine skipL 4 rfl (by kernel_rfl) (by kernel_rfl) (by kernel_rfl) (fun _ _ _ h => h) (by rfl) hHeld ?_
        try simp only [Act.put, List.setIfInBounds_toArray, List.set_cons_zero, List.set_cons_succ]
        refine skipL 5 rfl (by kernel_rfl) (by kernel_rfl) (by kernel_rfl) (fun _ _ _ h => h) (by rfl) hHeld ?_
        try simp only [Act.put, List.setIfInBounds_toArray, List.set_cons_zero, List.set_cons_succ]
        refine skipL 6 rfl (by kernel_rfl) (by kernel_rfl) (by kernel_rfl) (fun _ _ _ h => h) (by rfl) hHeld ?_
        try simp only [Act.put, List.setIfInBounds_toArray, List.set_cons_zero, List.set_cons_succ]
        refine takeL 7 (v := ?_) rfl (by kernel_rfl) (by kernel_rfl) (by kernel_rfl) (fun _ _ _ h => h) (by rfl) hHeld ?_ ?_
        rotate_left 1
        · intro w2 hSw; go_simp <;> with_reducible rfl
        try simp only [Act.put, List.setIfInBounds_toArray, List.set_cons_zero, List.set_cons_succ]
        obtain ⟨kB, z, hz⟩ := hHeld
        refine heavyL 8 rfl (by kernel_rfl) (fun K hK => ?_)
        rw [if_pos (by rfl)]
        refine wp_store_row 29 (.tmp 2) (.tmp 24) (by rfl) w.heap.size (encE (pE b)).toArray (by rfl) (by rfl) _ (encE z).toArray hz HSZ.out (by simp [encE_len]) (ent_one _) ?_
        refine hK.out _ _ (⟨kB.trans (But.setRow _ hmw _), _, setRow_heap _ _ _ _ _ _ hz⟩) (fun hHeld => ?_)
        clear hK K
        try simp only [Act.put, List.setIfInBounds_toArray, List.set_cons_zero, List.set_cons_succ]
        refine takeL 9 (v := ?_) rfl (by kernel_rfl) (by kernel_rfl) (by kernel_rfl) (fun _ _ _ h => h) (by rfl) hHeld ?_ ?_
        rotate_left 1
        · intro w2 hSw; go_simp <;> with_reducible rfl
        try simp only [Act.put, List.setIfInBounds_toArray, List.set_cons_zero, List.set_cons_succ]
        refine wpAnyH_done (by kernel_rfl) ?_ _
        refine NoPanic.normal ?_
        have hBf := HBW.out _ hHeld.1
        have hR := setRow_heap _ _ _ (encE (pE b)).toArray _ _ hz
        go_wp2
        refine bodyPost_ret (results_cell2 rfl _ _ _ _ _ _ _ rfl hR Try.underlying29 rfl HSZ.out) rfl ⟨?_, hBf⟩
        rw [hok.out]
        rfl
    · skip
      have hge := hHeld.size
      go_simp
      refine hK.out _ _ (hHeld.alloc hHeld.size _) (fun hHeld => ?_)
      clear hK K
      try simp only [Act.put, List.setIfInBounds_toArray, List.set_cons_zero, List.set_cons_succ]
      refine heavyL 7 rfl (by kernel_rfl) (fun K hK => ?_)
      go_simp
      refine (number_any b 36 hb40 hbm _ c _ (HVA.out _ hHeld)).mono ?_
      rintro e w5 ⟨rfl, b5⟩
      try go_simp
      refine hK.out _ _ (hHeld.trans (b5.mono hHeld.size)) (fun hHeld => ?_)
      clear hK K
      try simp only [Act.put, List.setIfInBounds_toArray, List.set_cons_zero, List.set_cons_succ]
      refine takeL 14 (v := .agg (encE (pE b)).toArray) rfl (by kernel_rfl) (by kernel_rfl) (by kernel_rfl) (fun _ _ _ h => h) (by rfl) hHeld ?_ ?_
      · intro w2 hSw; exact exec_build 29 #[(0, .tmp 12), (1, .tmp 14), (2, .tmp 16), (3, .tmp 19), (4, .tmp 22)] rfl [(0, .agg (encI (pE b).id).toArray), (1, .int .i64 (pE b).arr.1), (2, .int .i64 (pE b).dat.1), (3, .int .i64 sv.1), (4, .bool pv)] (by simp only [List.map_toArray, List.map_cons, List.map_nil]; rfl) _ HBE.out w2
      try simp only [Act.put, List.setIfInBounds_toArray, List.set_cons_zero, List.set_cons_succ]
      have hold := heap_below b5 (by simp) (heap_alloc_new w4 (.cells (encE Ent.zero).toArray 29 (0, 0)))
      refine heavyL 16 rfl (by kernel_rfl) (fun K hK => ?_)
      rw [if_pos (by rfl)]
      refine wp_store_abs 29 (.tmp 5) (.tmp 23) (by rfl) (w4.heap.size) ((encE (pE b)).toArray) (by rfl) (by rfl) _ ((encE Ent.zero).toArray) (hold) HSZ.out (by simp [encE_len]) (ent_one _) _ _ hHeld (hge) ?_
      intro w6 Hw6 bw6 Ow6
      refine hK.out _ _ bw6 (fun hHeld => ?_)
      clear hK K
      try simp only [Act.put, List.setIfInBounds_toArray, List.set_cons_zero, List.set_cons_succ]
      refine wpAnyH_done (by kernel_rfl) ?_ _
      refine NoPanic.normal ?_
      have hE6 : EntAt w6 (w4.heap.size) 29 (pE b) := Hw6.out
      have hZ6 : Hid (EntAt w6 w.heap.size 29 Ent.zero) := Lib.hid (HN1.out.below hHeld (by omega))
      have hB6 := hB1.trans (hHeld.mono hB1.size)
      have hb6 : w4.heap.size < w6.heap.size := (Array.getElem?_eq_some_iff.1 hE6).1
      obtain ⟨ms, hms⟩ : ∃ ms : Nat → Prop, ms = fun k => k = w.heap.size := ⟨_, rfl⟩
      have hnm : ¬ ms (w4.heap.size) := by rw [hms]; show ¬ _ = _; omega
      have HRE : Hid (∀ w', (But ms w6 w' ∧ ∃ z, EntAt w' w.heap.size 29 z) → w'.rangeAt (w4.heap.size) 0 (encE (pE b))) := Lib.hid (fun w' k => k.1.range hb6 hnm (EntAt.range hE6))
      have hs6 := hB6.size
      have hbw : ∀ W, But ms w6 W → Below w.heap.size w W := fun W k => hB6.trans (k.below hs6 (fun i h => by rw [hms] at h; exact Nat.le_of_eq h.symm))
      have hmw : ms w.heap.size := by rw [hms]
      have HBW := Lib.hid hbw
      clear Hw6 hold hHeld hE6 HVA HRI HN1 hms hbw
      by_cases h4 : byt b 40 < 4
      · have hok : Hid (okB b = (chk (pE b) == 0)) := Lib.hid (by unfold okB; simp [h4]; rfl)
        have h4i : (byt b 40 : Int) < 4 := by omega
        go_wp2_with fail
        refine wp_region_noPanic ?_
        refine wp_region_held_drew (S := fun w' => But ms w6 w' ∧ ∃ z, EntAt w' w.heap.size 29 z) (by kernel_rfl) (⟨(But.refl _ _).drew, _, hZ6.out⟩) (fun hHeld => ?_)
        refine takeRow 0 rfl (by kernel_rfl) (by kernel_rfl) (by kernel_rfl) 29 (.tmp 5) rfl (w4.heap.size) (0) rfl (encE (pE b)) _ (fun _ _ _ h => h) (by rfl) hHeld HRE.out Try.underlying29 rfl HSL.out ?_
        try simp only [Act.put, List.setIfInBounds_toArray, List.set_cons_zero, List.set_cons_succ]
        refine takeL 1 (v := ?_) rfl (by kernel_rfl) (by kernel_rfl) (by kernel_rfl) (fun _ _ _ h => h) (by rfl) hHeld ?_ ?_
        rotate_left 1
        · intro w2 hSw; go_simp <;> with_reducible rfl
        try simp only [Act.put, List.setIfInBounds_toArray, List.set_cons_zero, List.set_cons_succ]
        refine takeL 2 (v := ?_) rfl (by kernel_rfl) (by kernel_rfl) (by kernel_rfl) (fun _ _ _ h => h) (by rfl) hHeld ?_ ?_
        rotate_left 1
        · intro w2 hSw; go_simp <;> with_reducible rfl
        try simp only [Act.put, List.setIfInBounds_toArray, List.set_cons_zero, List.set_cons_succ]
        refine takeL 3 (v := ?_) rfl (by kernel_rfl) (by kernel_rfl) (by kernel_rfl) (fun _ _ _ h => h) (by rfl) hHeld ?_ ?_
        rotate_left 1
        · intro w2 hSw; go_simp <;> with_reducible rfl
        try simp only [Act.put, List.setIfInBounds_toArray, List.set_cons_zero, List.set_cons_succ]
        refine takeRow 4 rfl (by kernel_rfl) (by kernel_rfl) (by kernel_rfl) 29 (.tmp 5) rfl (w4.heap.size) (0) rfl (encE (pE b)) _ (fun _ _ _ h => h) (by rfl) hHeld HRE.out Try.underlying29 rfl HSL.out ?_
        try simp only [Act.put, List.setIfInBounds_toArray, List.set_cons_zero, List.set_cons_succ]
        refine heavyL 5 rfl (by kernel_rfl) (fun K hK => ?_)
        go_simp
        refine (check_any (pE b) _).mono ?_
        rintro e w7 ⟨rfl, b7⟩
        try unfold encX
        try go_simp
        refine hK.out _ _ (⟨hHeld.1.trans (But.of_below b7), hHeld.2.elim fun z hz => ⟨z, hz.below b7 (Array.getElem?_eq_some_iff.1 hz).1⟩⟩) (fun hHeld => ?_)
        clear hK K
        try simp only [Act.put, List.setIfInBounds_toArray, List.set_cons_zero, List.set_cons_succ]
        refine takeL 6 (v := ?_) rfl (by kernel_rfl) (by kernel_rfl) (by kernel_rfl) (fun _ _ _ h => h) (by rfl) hHeld ?_ ?_
        rotate_left 1
        · intro w2 hSw; go_simp <;> with_reducible rfl
        try simp only [Act.put, List.setIfInBounds_toArray, List.set_cons_zero, List.set_cons_succ]
        refine takeL 7 (v := ?_) rfl (by kernel_rfl) (by kernel_rfl) (by kernel_rfl) (fun _ _ _ h => h) (by rfl) hHeld ?_ ?_
        rotate_left 1
        · intro w2 hSw; go_simp <;> with_reducible rfl
        try simp only [Act.put, List.setIfInBounds_toArray, List.set_cons_zero, List.set_cons_succ]
        obtain ⟨kB, z, hz⟩ := hHeld
        refine heavyL 8 rfl (by kernel_rfl) (fun K hK => ?_)
        rw [if_pos (by rfl)]
        refine wp_store_row 29 (.tmp 2) (.tmp 24) (by rfl) w.heap.size (encE (pE b)).toArray (by rfl) (by rfl) _ (encE z).toArray hz HSZ.out (by simp [encE_len]) (ent_one _) ?_
        refine hK.out _ _ (⟨kB.trans (But.setRow _ hmw _), _, setRow_heap _ _ _ _ _ _ hz⟩) (fun hHeld => ?_)
        clear hK K
        try simp only [Act.put, List.setIfInBounds_toArray, List.set_cons_zero, List.set_cons_succ]
        refine takeL 9 (v := ?_) rfl (by kernel_rfl) (by kernel_rfl) (by kernel_rfl) (fun _ _ _ h => h) (by rfl) hHeld ?_ ?_
        rotate_left 1
        · intro w2 hSw; go_simp <;> with_reducible rfl
        try simp only [Act.put, List.setIfInBounds_toArray, List.set_cons_zero, List.set_cons_succ]
        refine wpAnyH_done (by kernel_rfl) ?_ _
        refine NoPanic.normal ?_
        have hBf := HBW.out _ hHeld.1
        have hR := setRow_heap _ _ _ (encE (pE b)).toArray _ _ hz
        go_wp2
        refine bodyPost_ret (results_cell2 rfl _ _ _ _ _ _ _ rfl hR Try.underlying29 rfl HSZ.out) rfl ⟨?_, hBf⟩
        rw [hok.out]
        rfl
      · have hok : Hid (okB b = false) := Lib.hid (by unfold okB; simp [h4])
        have h4i : decide ((byt b 40 : Int) < 4) = false := by simp; omega
        clear h4
        go_wp2_with fail
        refine wp_region_noPanic ?_
        refine wp_region_held_drew (S := fun w' => But ms w6 w' ∧ ∃ z, EntAt w' w.heap.size 29 z) (by kernel_rfl) (⟨(But.refl _ _).drew, _, hZ6.out⟩) (fun hHeld => ?_)
        refine takeRow 0 rfl (by kernel_rfl) (by kernel_rfl) (by kernel_rfl) 29 (.tmp 5) rfl (w4.heap.size) (0) rfl (encE (pE b)) _ (fun _ _ _ h => h) (by rfl) hHeld HRE.out Try.underlying29 rfl HSL.out ?_
        try simp only [Act.put, List.setIfInBounds_toArray, List.set_cons_zero, List.set_cons_succ]
        refine takeL 1 (v := ?_) rfl (by kernel_rfl) (by kernel_rfl) (by kernel_rfl) (fun _ _ _ h => h) (by rfl) hHeld ?_ ?_
        rotate_left 1
        · intro w2 hSw; go_simp <;> with_reducible rfl
        try simp only [Act.put, List.setIfInBounds_toArray, List.set_cons_zero, List.set_cons_succ]
        refine takeL 2 (v := ?_) rfl (by kernel_rfl) (by kernel_rfl) (by kernel_rfl) (fun _ _ _ h => h) (by rfl) hHeld ?_ ?_
        rotate_left 1
        · intro w2 hSw; go_simp <;> with_reducible rfl
        try simp only [Act.put, List.setIfInBounds_toArray, List.set_cons_zero, List.set_cons_succ]
        refine takeL 3 (v := ?_) rfl (by kernel_rfl) (by kernel_rfl) (by kernel_rfl) (fun _ _ _ h => h) (by rfl) hHeld ?_ ?_
        rotate_left 1
        · intro w2 hSw; go_simp <;> with_reducible rfl
        try simp only [Act.put, List.setIfInBounds_toArray, List.set_cons_zero, List.set_cons_succ]
        refine skipL 4 rfl (by kernel_rfl) (by kernel_rfl) (by kernel_rfl) (fun _ _ _ h => h) (by rfl) hHeld ?_
        try simp only [Act.put, List.setIfInBounds_toArray, List.set_cons_zero, List.set_cons_succ]
        refine skipL 5 rfl (by kernel_rfl) (by kernel_rfl) (by kernel_rfl) (fun _ _ _ h => h) (by rfl) hHeld ?_
        try simp only [Act.put, List.setIfInBounds_toArray, List.set_cons_zero, List.set_cons_succ]
        refine skipL 6 rfl (by kernel_rfl) (by kernel_rfl) (by kernel_rfl) (fun _ _ _ h => h) (by rfl) hHeld ?_
        try simp only [Act.put, List.setIfInBounds_toArray, List.set_cons_zero, List.set_cons_succ]
        refine takeL 7 (v := ?_) rfl (by kernel_rfl) (by kernel_rfl) (by kernel_rfl) (fun _ _ _ h => h) (by rfl) hHeld ?_ ?_
        rotate_left 1
        · intro w2 hSw; go_simp <;> with_reducible rfl
        try simp only [Act.put, List.setIfInBounds_toArray, List.set_cons_zero, List.set_cons_succ]
        obtain ⟨kB, z, hz⟩ := hHeld
        refine heavyL 8 rfl (by kernel_rfl) (fun K hK => ?_)
        rw [if_pos (by rfl)]
        refine wp_store_row 29 (.tmp 2) (.tmp 24) (by rfl) w.heap.size (encE (pE b)).toArray (by rfl) (by rfl) _ (encE z).toArray hz HSZ.out (by simp [encE_len]) (ent_one _) ?_
        refine hK.out _ _ (⟨kB.trans (But.setRow _ hmw _), _, setRow_heap _ _ _ _ _ _ hz⟩) (fun hHeld => ?_)
        clear hK K
        try simp only [Act.put, List.setIfInBounds_toArray, List.set_cons_zero, List.set_cons_succ]
        refine takeL 9 (v := ?_) rfl (by kernel_rfl) (by kernel_rfl) (by kernel_rfl) (fun _ _ _ h => h) (by rfl) hHeld ?_ ?_
        rotate_left 1
        · intro w2 hSw; go_simp <;> with_reducible rfl
        try simp only [Act.put, List.setIfInBounds_toArray, List.set_cons_zero, List.set_cons_succ]
        refine wpAnyH_done (by kernel_rfl) ?_ _
        refine NoPanic.normal ?_
        have hBf := HBW.out _ hHeld.1
        have hR := setRow_heap _ _ _ (encE (pE b)).toArray _ _ hz
        go_wp2
        refine bodyPost_ret (results_cell2 rfl _ _ _ _ _ _ _ rfl hR Try.underlying29 rfl HSZ.out) rfl ⟨?_, hBf⟩
        rw [hok.out]
        rfl
  · skip
    go_simp
    refine hK.out _ _ (hHeld.alloc hHeld.size _) (fun hHeld => ?_)
    clear hK K
    try simp only [Act.put, List.setIfInBounds_toArray, List.set_cons_zero, List.set_cons_succ]
    refine heavyL 5 rfl (by kernel_rfl) (fun K hK => ?_)
    go_simp
    refine (number_any b 32 hb36 hbm _ c _ (HVA.out _ hHeld)).mono ?_
    rintro e w4 ⟨rfl, b4⟩
    try go_simp
    refine hK.out _ _ (hHeld.trans (b4.mono hHeld.size)) (fun hHeld => ?_)
    clear hK K
    try simp only [Act.put, List.setIfInBounds_toArray, List.set_cons_zero, List.set_cons_succ]
    refine heavyL 7 rfl (by kernel_rfl) (fun K hK => ?_)
    go_simp
    refine (number_any b 36 hb40 hbm _ c _ (HVA.out _ hHeld)).mono ?_
    rintro e w5 ⟨rfl, b5⟩
    try go_simp
    refine hK.out _ _ (hHeld.trans (b5.mono hHeld.size)) (fun hHeld => ?_)
    clear hK K
    try simp only [Act.put, List.setIfInBounds_toArray, List.set_cons_zero, List.set_cons_succ]
    refine takeL 14 (v := .agg (encE (pE b)).toArray) rfl (by kernel_rfl) (by kernel_rfl) (by kernel_rfl) (fun _ _ _ h => h) (by rfl) hHeld ?_ ?_
    · intro w2 hSw; exact exec_build 29 #[(0, .tmp 12), (1, .tmp 14), (2, .tmp 16), (3, .tmp 19), (4, .tmp 22)] rfl [(0, .agg (encI (pE b).id).toArray), (1, .int .i64 (pE b).arr.1), (2, .int .i64 (pE b).dat.1), (3, .int .i64 sv.1), (4, .bool pv)] (by simp only [List.map_toArray, List.map_cons, List.map_nil]; rfl) _ HBE.out w2
    try simp only [Act.put, List.setIfInBounds_toArray, List.set_cons_zero, List.set_cons_succ]
    have hold := heap_below b5 (by have := b4.size; simp at this ⊢; omega) (heap_below b4 (by simp) (heap_alloc_new w1.drew (.cells (encE Ent.zero).toArray 29 (0, 0))))
    rw [show w1.drew.heap.size = w.heap.size + 1 from hs1] at hold
    refine heavyL 16 rfl (by kernel_rfl) (fun K hK => ?_)
    rw [if_pos (by rfl)]
    refine wp_store_abs 29 (.tmp 5) (.tmp 23) (by rfl) (w.heap.size + 1) ((encE (pE b)).toArray) (by rfl) (by rfl) _ ((encE Ent.zero).toArray) (hold) HSZ.out (by simp [encE_len]) (ent_one _) _ _ hHeld ((by omega)) ?_
    intro w6 Hw6 bw6 Ow6
    refine hK.out _ _ bw6 (fun hHeld => ?_)
    clear hK K
    try simp only [Act.put, List.setIfInBounds_toArray, List.set_cons_zero, List.set_cons_succ]
    refine wpAnyH_done (by kernel_rfl) ?_ _
    refine NoPanic.normal ?_
    have hE6 : EntAt w6 (w.heap.size + 1) 29 (pE b) := Hw6.out
    have hZ6 : Hid (EntAt w6 w.heap.size 29 Ent.zero) := Lib.hid (HN1.out.below hHeld (by omega))
    have hB6 := hB1.trans (hHeld.mono hB1.size)
    have hb6 : w.heap.size + 1 < w6.heap.size := (Array.getElem?_eq_some_iff.1 hE6).1
    obtain ⟨ms, hms⟩ : ∃ ms : Nat → Prop, ms = fun k => k = w.heap.size := ⟨_, rfl⟩
    have hnm : ¬ ms (w.heap.size + 1) := by rw [hms]; show ¬ _ = _; omega
    have HRE : Hid (∀ w', (But ms w6 w' ∧ ∃ z, EntAt w' w.heap.size 29 z) → w'.rangeAt (w.heap.size + 1) 0 (encE (pE b))) := Lib.hid (fun w' k => k.1.range hb6 hnm (EntAt.range hE6))
    have hs6 := hB6.size
    have hbw : ∀ W, But ms w6 W → Below w.heap.size w W := fun W k => hB6.trans (k.below hs6 (fun i h => by rw [hms] at h; exact Nat.le_of_eq h.symm))
    have hmw : ms w.heap.size := by rw [hms]
    have HBW := Lib.hid hbw
    clear Hw6 hold hHeld hE6 HVA HRI HN1 hms hbw
    by_cases h4 : byt b 40 < 4
    · have hok : Hid (okB b = (chk (pE b) == 0)) := Lib.hid (by unfold okB; simp [h4]; rfl)
      have h4i : (byt b 40 : Int) < 4 := by omega
      go_wp2_with fail
      refine wp_region_noPanic ?_
      refine wp_region_held_drew (S := fun w' => But ms w6 w' ∧ ∃ z, EntAt w' w.heap.size 29 z) (by kernel_rfl) (⟨(But.refl _ _).drew, _, hZ6.out⟩) (fun hHeld => ?_)
      refine takeRow 0 rfl (by kernel_rfl) (by kernel_rfl) (by kernel_rfl) 29 (.tmp 5) rfl (w.heap.size + 1) (0) rfl (encE (pE b)) _ (fun _ _ _ h => h) (by rfl) hHeld HRE.out Try.underlying29 rfl HSL.out ?_
      try simp only [Act.put, List.setIfInBounds_toArray, List.set_cons_zero, List.set_cons_succ]
      refine takeL 1 (v := ?_) rfl (by kernel_rfl) (by kernel_rfl) (by kernel_rfl) (fun _ _ _ h => h) (by rfl) hHeld ?_ ?_
      rotate_left 1
      · intro w2 hSw; go_simp <;> with_reducible rfl
      try simp only [Act.put, List.setIfInBounds_toArray, List.set_cons_zero, List.set_cons_succ]
      refine takeL 2 (v := ?_) rfl (by kernel_rfl) (by kernel_rfl) (by kernel_rfl) (fun _ _ _ h => h) (by rfl) hHeld ?_ ?_
      rotate_left 1
      · intro w2 hSw; go_simp <;> with_reducible rfl
      try simp only [Act.put, List.setIfInBounds_toArray, List.set_cons_zero, List.set_cons_succ]
      refine takeL 3 (v := ?_) rfl (by kernel_rfl) (by kernel_rfl) (by kernel_rfl) (fun _ _ _ h => h) (by rfl) hHeld ?_ ?_
      rotate_left 1
      · intro w2 hSw; go_simp <;> with_reducible rfl
      try simp only [Act.put, List.setIfInBounds_toArray, List.set_cons_zero, List.set_cons_succ]
      refine takeRow 4 rfl (by kernel_rfl) (by kernel_rfl) (by kernel_rfl) 29 (.tmp 5) rfl (w.heap.size + 1) (0) rfl (encE (pE b)) _ (fun _ _ _ h => h) (by rfl) hHeld HRE.out Try.underlying29 rfl HSL.out ?_
      try simp only [Act.put, List.setIfInBounds_toArray, List.set_cons_zero, List.set_cons_succ]
      refine heavyL 5 rfl (by kernel_rfl) (fun K hK => ?_)
      go_simp
      refine (check_any (pE b) _).mono ?_
      rintro e w7 ⟨rfl, b7⟩
      try unfold encX
      try go_simp
      refine hK.out _ _ (⟨hHeld.1.trans (But.of_below b7), hHeld.2.elim fun z hz => ⟨z, hz.below b7 (Array.getElem?_eq_some_iff.1 hz).1⟩⟩) (fun hHeld => ?_)
      clear hK K
      try simp only [Act.put, List.setIfInBounds_toArray, List.set_cons_zero, List.set_cons_succ]
      refine takeL 6 (v := ?_) rfl (by kernel_rfl) (by kernel_rfl) (by kernel_rfl) (fun _ _ _ h => h) (by rfl) hHeld ?_ ?_
      rotate_left 1
      · intro w2 hSw; go_simp <;> with_reducible rfl
      try simp only [Act.put, List.setIfInBounds_toArray, List.set_cons_zero, List.set_cons_succ]
      refine takeL 7 (v := ?_) rfl (by kernel_rfl) (by kernel_rfl) (by kernel_rfl) (fun _ _ _ h => h) (by rfl) hHeld ?_ ?_
      rotate_left 1
      · intro w2 hSw; go_simp <;> with_reducible rfl
      try simp only [Act.put, List.setIfInBounds_toArray, List.set_cons_zero, List.set_cons_succ]
      obtain ⟨kB, z, hz⟩ := hHeld
      refine heavyL 8 rfl (by kernel_rfl) (fun K hK => ?_)
      rw [if_pos (by rfl)]
      refine wp_store_row 29 (.tmp 2) (.tmp 24) (by rfl) w.heap.size (encE (pE b)).toArray (by rfl) (by rfl) _ (encE z).toArray hz HSZ.out (by simp [encE_len]) (ent_one _) ?_
      refine hK.out _ _ (⟨kB.trans (But.setRow _ hmw _), _, setRow_heap _ _ _ _ _ _ hz⟩) (fun hHeld => ?_)
      clear hK K
      try simp only [Act.put, List.setIfInBounds_toArray, List.set_cons_zero, List.set_cons_succ]
      refine takeL 9 (v := ?_) rfl (by kernel_rfl) (by kernel_rfl) (by kernel_rfl) (fun _ _ _ h => h) (by rfl) hHeld ?_ ?_
      rotate_left 1
      · intro w2 hSw; go_simp <;> with_reducible rfl
      try simp only [Act.put, List.setIfInBounds_toArray, List.set_cons_zero, List.set_cons_succ]
      refine wpAnyH_done (by kernel_rfl) ?_ _
      refine NoPanic.normal ?_
      have hBf := HBW.out _ hHeld.1
      have hR := setRow_heap _ _ _ (encE (pE b)).toArray _ _ hz
      go_wp2
      refine bodyPost_ret (results_cell2 rfl _ _ _ _ _ _ _ rfl hR Try.underlying29 rfl HSZ.out) rfl ⟨?_, hBf⟩
      rw [hok.out]
      rfl
    · have hok : Hid (okB b = false) := Lib.hid (by unfold okB; simp [h4])
      have h4i : decide ((byt b 40 : Int) < 4) = false := by simp; omega
      clear h4
      go_wp2_with fail
      refine wp_region_noPanic ?_
      refine wp_region_held_drew (S := fun w' => But ms w6 w' ∧ ∃ z, EntAt w' w.heap.size 29 z) (by kernel_rfl) (⟨(But.refl _ _).drew, _, hZ6.out⟩) (fun hHeld => ?_)
      refine takeRow 0 rfl (by kernel_rfl) (by kernel_rfl) (by kernel_rfl) 29 (.tmp 5) rfl (w.heap.size + 1) (0) rfl (encE (pE b)) _ (fun _ _ _ h => h) (by rfl) hHeld HRE.out Try.underlying29 rfl HSL.out ?_
      try simp only [Act.put, List.setIfInBounds_toArray, List.set_cons_zero, List.set_cons_succ]
      refine takeL 1 (v := ?_) rfl (by kernel_rfl) (by kernel_rfl) (by kernel_rfl) (fun _ _ _ h => h) (by rfl) hHeld ?_ ?_
      rotate_left 1
      · intro w2 hSw; go_simp <;> with_reducible rfl
      try simp only [Act.put, List.setIfInBounds_toArray, List.set_cons_zero, List.set_cons_succ]
      refine takeL 2 (v := ?_) rfl (by kernel_rfl) (by kernel_rfl) (by kernel_rfl) (fun _ _ _ h => h) (by rfl) hHeld ?_ ?_
      rotate_left 1
      · intro w2 hSw; go_simp <;> with_reducible rfl
      try simp only [Act.put, List.setIfInBounds_toArray, List.set_cons_zero, List.set_cons_succ]
      refine takeL 3 (v := ?_) rfl (by kernel_rfl) (by kernel_rfl) (by kernel_rfl) (fun _ _ _ h => h) (by rfl) hHeld ?_ ?_
      rotate_left 1
      · intro w2 hSw; go_simp <;> with_reducible rfl
      try simp only [Act.put, List.setIfInBounds_toArray, List.set_cons_zero, List.set_cons_succ]
      refine skipL 4 rfl (by kernel_rfl) (by kernel_rfl) (by kernel_rfl) (fun _ _ _ h => h) (by rfl) hHeld ?_
      try simp only [Act.put, List.setIfInBounds_toArray, List.set_cons_zero, List.set_cons_succ]
      refine skipL 5 rfl (by kernel_rfl) (by kernel_rfl) (by kernel_rfl) (fun _ _ _ h => h) (by rfl) hHeld ?_
      try simp only [Act.put, List.setIfInBounds_toArray, List.set_cons_zero, List.set_cons_succ]
      refine skipL 6 rfl (by kernel_rfl) (by kernel_rfl) (by kernel_rfl) (fun _ _ _ h => h) (by rfl) hHeld ?_
      try simp only [Act.put, List.setIfInBounds_toArray, List.set_cons_zero, List.set_cons_succ]
      refine takeL 7 (v := ?_) rfl (by kernel_rfl) (by kernel_rfl) (by kernel_rfl) (fun _ _ _ h => h) (by rfl) hHeld ?_ ?_
      rotate_left 1
      · intro w2 hSw; go_simp <;> with_reducible rfl
      try simp only [Act.put, List.setIfInBounds_toArray, List.set_cons_zero, List.set_cons_succ]
      obtain ⟨kB, z, hz⟩ := hHeld
      refine heavyL 8 rfl (by kernel_rfl) (fun K hK => ?_)
      rw [if_pos (by rfl)]
      refine wp_store_row 29 (.tmp 2) (.tmp 24) (by rfl) w.heap.size (encE (pE b)).toArray (by rfl) (by rfl) _ (encE z).toArray hz HSZ.out (by simp [encE_len]) (ent_one _) ?_
      refine hK.out _ _ (⟨kB.trans (But.setRow _ hmw _), _, setRow_heap _ _ _ _ _ _ hz⟩) (fun hHeld => ?_)
      clear hK K
      try simp only [Act.put, List.setIfInBounds_toArray, List.set_cons_zero, List.set_cons_succ]
      refine takeL 9 (v := ?_) rfl (by kernel_rfl) (by kernel_rfl) (by kernel_rfl) (fun _ _ _ h => h) (by rfl) hHeld ?_ ?_
      rotate_left 1
      · intro w2 hSw; go_simp <;> with_reducible rfl
      try simp only [Act.put, List.setIfInBounds_toArray, List.set_cons_zero, List.set_cons_succ]
      refine wpAnyH_done (by kernel_rfl) ?_ _
      refine NoPanic.normal ?_
      have hBf := HBW.out _ hHeld.1
      have hR := setRow_heap _ _ _ (encE (pE b)).toArray _ _ hz
      go_wp2
      refine bodyPost_ret (results_cell2 rfl _ _ _ _ _ _ _ rfl hR Try.underlying29 rfl HSZ.out) rfl ⟨?_, hBf⟩
      rw [hok.out]
      rfl
end Go.Proofs.Ytblidphaolgilaa
