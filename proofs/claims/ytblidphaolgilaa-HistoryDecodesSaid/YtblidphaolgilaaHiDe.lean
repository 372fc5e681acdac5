/- Decode: the program's. -/
import Derived.Test.YtblidphaolgilaaHiCh
import Derived.Test.YtblidphaolgilaaHiEy
import Derived.Test.YtblidphaolgilaaHiEn
import Derived.WideKeyEntry
namespace Go.Proofs.Ytblidphaolgilaa
open Go.RowKit Go.Maps Go.Shelf Go.Sort
open Go.ChangeMaps (setBlock)
attribute [local go_sem] Oper.semAt_some
set_option linter.unusedSimpArgs false
set_option linter.unusedVariables false

/-- 'm[id], .. = x, ..' : the entry first, the value later -/
theorem MapAt.entry {w : World} {mb : Nat} {l : List Ent} (h : MapAt w mb l) (hl : l.length < 1000000) (x : Ent) :
    ∃ (v0 : Value) (st : Nat) (w1 : World), (Instr.mapEntry 84 (.map (some mb)) (.agg (encI x.id).toArray)).run Try.prog w = .ok (.tuple #[v0, goInt st]) w1 ∧ w.grownBy w1 (some mb) ∧
      ∀ w2, w2.heap[mb]? = w1.heap[mb]? → ∃ w3, (Instr.entryStore 84 (.map (some mb)) (goInt st) (encX x)).run Try.prog w2 = .ok () w3 ∧ w2.grownBy w3 (some mb) ∧
        (∀ l', (∀ i, fnd l' i = if i = x.id then some x else fnd l i) → l'.length = (if (fnd l x.id).isSome then l.length else l.length + 1) → MapAt w3 mb l') := by
  obtain ⟨w', hrun, _, hm⟩ := h.store hl x
  obtain ⟨D, ⟨es, clock, hg, F, hs, hD⟩, _⟩ := h
  obtain ⟨v0, st, es1, clock1, h1, _, h2⟩ := Go.WideElems.entry_then_store arrKeyId.law Try.underlying84 zeroE hg F (keyOfI x.id)
  have hmb : mb < w.heap.size := (Array.getElem?_eq_some_iff.1 hg).1
  have hset : ∀ (u : World) (cs : Array MapEntry) (ck : Nat), u.grownBy (setBlock u mb (.map cs ck)) (some mb) := fun u cs ck => by
    refine ⟨rfl, rfl, rfl, by simp [setBlock], fun k hk hne => ?_⟩
    have : mb ≠ k := fun e => hne (by rw [e])
    simp [setBlock, Array.getElem?_setIfInBounds_ne this]
  refine ⟨v0, st, _, h1, hset _ _ _, fun w2 hw2 => ?_⟩
  have hw2' : w2.heap[mb]? = some (.map es1 clock1) := by
    rw [hw2]; exact Go.ChangeMaps.heap_setBlock_same hg _
  obtain ⟨es', clock', h3, h4⟩ := h2 w2 (encX x) hw2'
  refine ⟨_, h3, hset _ _ _, fun l' hf hlen => ?_⟩
  have he : w' = setBlock w mb (.map es' clock') := by
    rw [hrun] at h4
    injection h4
  have h5 := hm l' hf hlen
  rw [he] at h5
  exact h5.of_heap (by rw [Go.ChangeMaps.heap_setBlock_same hw2' _, Go.ChangeMaps.heap_setBlock_same hg _])
theorem byId_any (x y : Ent) (w : World) : Calls Try.prog 49 #[encX x, encX y] w fun e w' => e = .returned (.int .i64 (cfE x y)) ∧ Below w.heap.size w w' :=
  (byId_grow x y w).mono fun e w' ⟨h, q, os, hw⟩ => ⟨h, by
    rw [hw]
    exact ⟨rfl, rfl, rfl, Nat.le_trans (Nat.le_of_eq rfl) (by simp), fun k hk => Go.Sort.heap_grow_old _ _ (by simpa using hk)⟩⟩
theorem snoc_facts {l : List Ent} {x : Ent} (h : SE l) (hx : ∀ y, l.getLast? = some y → ltI y.id x.id = true) : SE (l ++ [x]) ∧ (∀ i, fnd (l ++ [x]) i = if i = x.id then some x else fnd l i) ∧ fnd l x.id = none := by
  have hs := h.snoc hx
  have hn : fnd l x.id = none := fnd_none.2 (fun y hy e => by
    have := (List.pairwise_append.1 hs).2.2 y hy x (by simp)
    rw [e, ltI_irr] at this; cases this)
  refine ⟨hs, fun i => ?_, hn⟩
  by_cases e : i = x.id
  · subst e; rw [if_pos rfl]; exact hs.fnd (by simp)
  · rw [if_neg e]
    have hne : ¬ x.id = i := fun h => e h.symm
    unfold fnd
    rw [List.find?_append]
    simp [hne]
theorem minB_nat (n : Nat) : minB (n : Int) = decide (n ≤ 105190559) := by
  unfold minB
  rw [Bool.eq_iff_iff]; simp; omega
/-- what Decode answers -/
def DecPost (b : List UInt8) (w : World) (e : Ending) (w' : World) : Prop := Below w.heap.size w w' ∧ match decB b with
  | none => e = .returned (.tuple #[.pointer none, .int .i64 3])
  | some (rows, cut) => ∃ hb mb, e = .returned (.tuple #[.pointer (some ⟨hb, 0, none⟩), .int .i64 0]) ∧ HistAt w' hb mb rows cut ∧ w.heap.size ≤ hb ∧ w.heap.size ≤ mb
theorem DecPost.err {b : List UInt8} {w w' : World} (h : decB b = none) (hB : Below w.heap.size w w') : DecPost b w (.returned (.tuple #[.pointer none, .int .i64 3])) w' := by
  unfold DecPost; rw [h]; exact ⟨hB, rfl⟩
theorem DecPost.ok {b : List UInt8} {w w' : World} {rows : List Ent} {cut : Int} {hb mb : Nat} (h : decB b = some (rows, cut)) (hB : Below w.heap.size w w') (hH : HistAt w' hb mb rows cut) (h1 : w.heap.size ≤ hb) (h2 : w.heap.size ≤ mb) : DecPost b w (.returned (.tuple #[.pointer (some ⟨hb, 0, none⟩), .int .i64 0])) w' := by
  unfold DecPost; rw [h]; exact ⟨hB, hb, mb, rfl, hH, h1, h2⟩
theorem foldB_len : ∀ (l : List (List UInt8)) (acc acc' : List Ent), foldB acc l = some acc' → acc'.length = acc.length + l.length
  | [], acc, acc', h => by simp only [foldB, Option.some.injEq] at h; subst h; simp
  | b :: l, acc, acc', h => by
    have h' : (match stepB acc b with | some a => foldB a l | none => none) = some acc' := h
    cases hs : stepB acc b with
    | none => rw [hs] at h'; cases h'
    | some a =>
      rw [hs] at h'
      have := foldB_len l a acc' h'
      obtain ⟨_, _, rfl⟩ := stepB_some hs
      simp at this ⊢; omega
theorem parts_fin (b : List UInt8) (n : Nat) : parts b n = (List.finRange n).map fun i => part b i.1 := by
  unfold parts
  apply List.ext_getElem (by simp)
  intro i h1 h2
  simp
/-- what the loop of Decode keeps -/
structure DI (G p hb mb t4 tb : Nat) (cut : Int) (acc : List Ent) (W : World) : Prop where
  rP : Boxed W p 35 (.pointer none)
  rE : Boxed W (p + 1) 26 (.int .i64 0)
  bH : Boxed W t4 35 (.pointer (some ⟨hb, 0, none⟩))
  hist : HistAt W hb mb acc cut
  bef : EntAt W tb 29 (acc.getLast?.getD Ent.zero)
  sz : G ≤ W.heap.size
theorem DI.below {G p hb mb t4 tb : Nat} {cut : Int} {acc : List Ent} {W W' : World} (h : DI G p hb mb t4 tb cut acc W) (k : Below G W W') (h1 : p + 1 < G) (h2 : t4 < G) (h3 : hb < G) (h4 : mb < G) (h5 : tb < G) : DI G p hb mb t4 tb cut acc W' :=
  ⟨heap_below k (by omega) h.rP, heap_below k h1 h.rE, heap_below k h2 h.bH, h.hist.below k h3 h4, h.bef.below k h5, Nat.le_trans h.sz k.size⟩
set_option maxRecDepth 100000 in
set_option maxHeartbeats 8000000 in
theorem decode_any (b : List UInt8) (hl : b.length ≤ 5000) (ao : Option Addr) (c : Nat) (hlc : b.length ≤ c) (hcm : c ≤ maxLen) (w : World) (hv : RowsAt b1 1 w.heap.size ao b w) :
    Calls Try.prog 31 #[.slice ao b.length c] w fun e w' => DecPost b w e w' := by
  have HV := Lib.hid hv
  have HVK := Lib.hid hv
  clear hv
  refine (callsIn_wide (n := 8)).1 ?_
  refine callsIn_of_wp_marks Try.func31 rfl trivial ?_ rfl
  simp only [Try.ntmps31, List.size_toArray, List.length_cons, List.length_nil, Nat.reduceAdd, Nat.reduceSub, Array.replicate_succ, Array.replicate_zero, List.push_toArray, List.append_toArray, List.nil_append, List.cons_append]
  by_cases h4 : b.length < 4
  · have hd : Hid (decB b = none) := Lib.hid (by unfold decB; rw [if_pos (.inl h4)])
    have h4i : (b.length : Int) < 4 := by omega
    clear h4
    gi_wp2_with fail
    refine ⟨trivial, ?_⟩
    gi_wp2_with fail
    refine ⟨trivial, ?_⟩
    gi_wp2
    refine ⟨.tuple #[.pointer none, .int .i64 3], ?_, DecPost.err hd.out (((Below.refl _ w).alloc (Nat.le_refl _) _).alloc (by simp) _)⟩
    simp [results, Try.f31, go_sem]
  · have h4i : decide ((b.length : Int) < 4) = false := by simp; omega
    by_cases hm : (b.length - 4) % 41 = 0
    · have hmi2 : (((b.length - 4 : Nat) : Int) % 41 != 0) = false := by simp; omega
      have hV2 : RowsAt b1 1 ((w.alloc (.cells #[.pointer none] 35)).alloc (.cells #[.int .i64 0] 26)).heap.size ao b ((w.alloc (.cells #[.pointer none] 35)).alloc (.cells #[.int .i64 0] 26)) :=
        (HV.out.below (((Below.refl _ w).alloc (Nat.le_refl _) _).alloc (by simp) _) (Nat.le_refl _)).mono (by simp; omega)
      have HV2 := Lib.hid hV2
      clear hV2
      gi_wp2_with fail
      refine ⟨trivial, (callsIn_wide.2 (number_any b 0 (by omega) (by omega) ao c _ HV2.out)).mono ?_⟩
      rintro e w1 ⟨rfl, b1'⟩
      gi_wp2_with fail
      refine ⟨trivial, (callsIn_wide.2 (minute_any _ _)).mono ?_⟩
      rintro e w2 ⟨rfl, rfl⟩
      have hP : Boxed w1 w.heap.size 35 (.pointer none) := heap_below b1' (by simp; omega) ((Boxed.new w _ _).alloc _)
      have hE : Boxed w1 (w.heap.size + 1) 26 (.int .i64 0) := heap_below b1' (by simp) (heap_two _ _ _)
      have hB1 : Below w.heap.size w w1 := (((Below.refl _ w).alloc (Nat.le_refl _) _).alloc (by simp) _).trans (b1'.mono (by simp; omega))
      have HV3 := Lib.hid (HV.out.below hB1 (Nat.le_refl _))
      have hs1 := hB1.size
      have hss : w.heap.size + 2 ≤ w1.heap.size := by have := b1'.size; simp at this; omega
      clear HV HV2 b1'
      cases hmin : minB (num4 b 0 : Int) with
      | false =>
        have hd : Hid (decB b = none) := Lib.hid (by unfold decB; rw [if_pos (.inr (.inr hmin))])
        have hcP := hP.cell; have hfP := hP.frozen
        have hcE := hE.cell; have hfE := hE.frozen
        gi_wp2
        refine ⟨.tuple #[.pointer none, .int .i64 3], ?_, DecPost.err hd.out ?_⟩
        · have p1 := (hP.set (.pointer none)).kept (grownBy_setCell' (w1.setCell ⟨w.heap.size, 0, none⟩ (.pointer none)) (w.heap.size + 1) (.int .i64 3)) (by simp)
          have p2 := (hE.kept (grownBy_setCell' w1 w.heap.size (.pointer none)) (by simp)).set (.int .i64 3)
          have c1 := p1.cell; have c2 := p2.cell
          simp [results, Try.f31, go_sem, c1, c2]
        · exact (hB1.setCell (p := ⟨w.heap.size, 0, none⟩) (Nat.le_refl _) _).setCell (p := ⟨w.heap.size + 1, 0, none⟩) (by show w.heap.size ≤ w.heap.size + 1; omega) _
      | true =>
        gi_wp2_with fail
        refine ⟨trivial, (callsIn_wide.2 (new_any w1)).mono ?_⟩
        rintro e w2 ⟨rfl, hH2, b2, s2⟩
        obtain ⟨hb, hhb⟩ : ∃ hb, w1.heap.size + 1 = hb := ⟨_, rfl⟩
        obtain ⟨mb, hmb⟩ : ∃ mb, w1.heap.size = mb := ⟨_, rfl⟩
        rw [hhb, hmb] at hH2
        rw [hhb]
        have HH2 := Lib.hid hH2
        have hP2 : Boxed w2 w.heap.size 35 (.pointer none) := heap_below b2 (by omega) hP
        have hE2 : Boxed w2 (w.heap.size + 1) 26 (.int .i64 0) := heap_below b2 (by omega) hE
        have hB2 := hB1.trans (b2.mono hs1)
        have HV4 := Lib.hid (HV3.out.below b2 hs1)
        have hhb1 : w.heap.size + 2 ≤ hb := by omega
        have hmb1 : w.heap.size + 2 ≤ mb := by omega
        have hhb2 : hb < w2.heap.size := by omega
        have hmb2 : mb < w2.heap.size := by omega
        have hnem : hb ≠ mb := by omega
        have hs12 : w1.heap.size ≤ w2.heap.size := by omega
        clear hH2 hP hE hB1 HV3 b2 s2 hhb hmb
        gi_wp2_with fail
        generalize hw3 : World.alloc w2 _ = w3
        have b3 : Below w2.heap.size w2 w3 := by rw [← hw3]; exact (Below.refl _ _).alloc (Nat.le_refl _) _
        have s3 : w2.heap.size < w3.heap.size := by rw [← hw3]; simp
        have bH3 : Boxed w3 w2.heap.size 35 (.pointer (some ⟨hb, 0, none⟩)) := by rw [← hw3]; exact Boxed.new w2 _ _
        have HH3 := Lib.hid (HH2.out.kept b3)
        have hP3 : Boxed w3 w.heap.size 35 (.pointer none) := heap_below b3 (by omega) hP2
        have hE3 : Boxed w3 (w.heap.size + 1) 26 (.int .i64 0) := heap_below b3 (by omega) hE2
        have hB3 := hB2.trans (b3.mono hB2.size)
        have HV5 : Hid (RowsAt b1 1 w.heap.size ao b w3) := Lib.hid (HV4.out.below b3 hB2.size)
        obtain ⟨g, o, rfl, hg, _⟩ := HV5.out.at (i := 0) (by omega)
        obtain ⟨ms, hms⟩ : ∃ ms : Nat → Prop, ms = fun k => k = hb := ⟨_, rfl⟩
        have hnm : ¬ ms w2.heap.size := by rw [hms]; show ¬ _ = _; omega
        have HCB : Hid (∀ w', (But ms w3 w' ∧ ∃ v, w'.heap[hb]? = some (.cells #[.map (some mb), .int .i64 v] 86 (0, 0))) → w'.cell? ⟨w2.heap.size, 0, none⟩ = some (.pointer (some ⟨hb, 0, none⟩))) := Lib.hid (fun w' k => Boxed.cell (k.1.heap bH3 hnm))
        have HVW : Hid (∀ w', But ms w3 w' → RowsAt b1 1 w'.heap.size (some ⟨g, o, none⟩) b w') := Lib.hid (fun w' k => ((HV5.out.below (k.below (B := w.heap.size) hB3.size (fun i h => by rw [hms] at h; have : i = hb := h; omega)) (Nat.le_refl _)).mono (Nat.le_trans hB3.size k.size)))
        have hmsb : ms hb := by rw [hms]
        have HMS : Hid (∀ k, ms k → k = hb) := Lib.hid (fun k h => by rw [hms] at h; exact h)
        have HMN : Hid (0 ≤ (num4 b 0 : Int) ∧ (num4 b 0 : Int) ≤ 105190559) := Lib.hid (by simp only [minB, Bool.and_eq_true, decide_eq_true_eq] at hmin; exact hmin)
        clear hw3 HH2 hP2 hE2 HV4 b3 hms
        have hc4 : (4 : Int) ≤ (b.length : Int) := by omega
        refine wpIn_wide.2 ?_
        refine wp_region_noPanic ?_
        refine wp_region_held_drew (S := fun w' => But ms w3 w' ∧ ∃ v, w'.heap[hb]? = some (.cells #[.map (some mb), .int .i64 v] 86 (0, 0))) (by kernel_rfl) (⟨(But.refl _ _).drew, _, HH3.out.blk⟩) (fun hHeld => ?_)
        refine takeL 0 (v := ?_) rfl (by kernel_rfl) (by kernel_rfl) (by kernel_rfl) (fun _ _ _ h => h) (by rfl) hHeld ?_ ?_
        rotate_left 1
        · intro w2 hSw; have q0 := HCB.out w2 hSw; go_simp <;> with_reducible rfl
        try simp only [Act.put, List.setIfInBounds_toArray, List.set_cons_zero, List.set_cons_succ]
        refine takeL 1 (v := ?_) rfl (by kernel_rfl) (by kernel_rfl) (by kernel_rfl) (fun _ _ _ h => h) (by rfl) hHeld ?_ ?_
        rotate_left 1
        · intro w2 hSw; go_simp <;> with_reducible rfl
        try simp only [Act.put, List.setIfInBounds_toArray, List.set_cons_zero, List.set_cons_succ]
        refine takeL 3 (v := ?_) rfl (by kernel_rfl) (by kernel_rfl) (by kernel_rfl) (fun _ _ _ h => h) (by rfl) hHeld ?_ ?_
        rotate_left 1
        · intro w2 hSw; go_simp <;> with_reducible rfl
        try simp only [Act.put, List.setIfInBounds_toArray, List.set_cons_zero, List.set_cons_succ]
        refine takeL 4 (v := ?_) rfl (by kernel_rfl) (by kernel_rfl) (by kernel_rfl) (fun _ _ _ h => h) (by rfl) hHeld ?_ ?_
        rotate_left 1
        · intro w2 hSw; go_simp <;> with_reducible rfl
        try simp only [Act.put, List.setIfInBounds_toArray, List.set_cons_zero, List.set_cons_succ]
        refine heavyL 2 rfl (by kernel_rfl) (fun K hK => ?_)
        go_simp
        refine (number_any b 0 (by omega) (by omega) _ c _ (HVW.out _ hHeld.1)).mono ?_
        rintro e w4 ⟨rfl, b4⟩
        try go_simp
        refine hK.out _ _ (⟨hHeld.1.trans (But.of_below b4), hHeld.2.elim fun v hv => ⟨v, heap_below b4 (Array.getElem?_eq_some_iff.1 hv).1 hv⟩⟩) (fun hHeld => ?_)
        clear hK K
        try simp only [Act.put, List.setIfInBounds_toArray, List.set_cons_zero, List.set_cons_succ]
        refine takeL 5 (v := ?_) rfl (by kernel_rfl) (by kernel_rfl) (by kernel_rfl) (fun _ _ _ h => h) (by rfl) hHeld ?_ ?_
        rotate_left 1
        · intro w2 hSw; go_simp <;> with_reducible rfl
        try simp only [Act.put, List.setIfInBounds_toArray, List.set_cons_zero, List.set_cons_succ]
        refine takeL 6 (v := ?_) rfl (by kernel_rfl) (by kernel_rfl) (by kernel_rfl) (fun _ _ _ h => h) (by rfl) hHeld ?_ ?_
        rotate_left 1
        · intro w2 hSw; go_simp <;> with_reducible rfl
        try simp only [Act.put, List.setIfInBounds_toArray, List.set_cons_zero, List.set_cons_succ]
        obtain ⟨n, hn⟩ : ∃ n, n = (b.length - 4) / 41 := ⟨_, rfl⟩
        have hln : b.length = 4 + n * 41 := by omega
        obtain ⟨ao2, hao2⟩ : ∃ ao2, (if c = 4 then some (⟨g, o, none⟩ : Addr) else some ⟨g, o + 4, none⟩) = ao2 := ⟨_, rfl⟩
        have HAO : Hid (0 < n → ao2 = some ⟨g, o + 4, none⟩) := Lib.hid (fun hp => by rw [← hao2, if_neg (by omega)])
        rw [hao2]
        have HLN := Lib.hid hln
        have HN := Lib.hid hn
        clear hao2 hln hn
        obtain ⟨kB, v4, hv4⟩ := hHeld
        have c41 : w4.cell? ⟨hb, 1, none⟩ = some (.int .i64 v4) := by rw [cell_of_row _ _ _ _ _ _ hv4]; rfl
        have f41 : w4.frozen? ⟨hb, 1, none⟩ = false := frozen_of_row _ _ _ _ _ hv4
        have h5b : (w4.setCell ⟨hb, 1, none⟩ (.int .i64 (num4 b 0 : Int))).heap[hb]? = some (.cells #[.map (some mb), .int .i64 (num4 b 0 : Int)] 86 (0, 0)) := by rw [Go.heap_setCell_same _ _ _ _ _ _ hv4]; rfl
        have k5 : But ms w3 (w4.setCell ⟨hb, 1, none⟩ (.int .i64 (num4 b 0 : Int))) := kB.trans ⟨rfl, rfl, rfl, by simp, fun k hk hn => RowKit.Below.heap_setCell _ _ _ k (fun e => hn (by rw [e]; exact hmsb))⟩
        refine heavyL 7 rfl (by kernel_rfl) (fun K hK => ?_)
        go_simp
        refine hK.out _ _ (⟨k5, _, h5b⟩) (fun hHeld => ?_)
        clear hK K
        try simp only [Act.put, List.setIfInBounds_toArray, List.set_cons_zero, List.set_cons_succ]
        refine takeL 8 (v := ?_) rfl (by kernel_rfl) (by kernel_rfl) (by kernel_rfl) (fun _ _ _ h => h) (by rfl) hHeld ?_ ?_
        rotate_left 1
        · intro w2 hSw; go_simp <;> with_reducible rfl
        try simp only [Act.put, List.setIfInBounds_toArray, List.set_cons_zero, List.set_cons_succ]
        refine wpAnyH_done (by kernel_rfl) ?_ _
        refine NoPanic.normal ?_
        generalize hw5 : World.setCell w4 _ _ = w5 at *
        clear hHeld kB hv4 c41 f41 hw5
        have hp3 := k5.heap hP3 (fun e => by have := HMS.out _ e; omega)
        have he3 := k5.heap hE3 (fun e => by have := HMS.out _ e; omega)
        have bh3 := k5.heap bH3 hnm
        have hh3 : HistAt w5 hb mb [] (num4 b 0 : Int) := ⟨h5b, HH3.out.map.of_heap (k5.block mb HH3.out.map.lt (fun e => by have := HMS.out _ e; omega)), SE.nil, HMN.out.1, HMN.out.2⟩
        have hv3 := HV5.out.below (k5.below (B := w.heap.size) hB3.size (fun i h => by have := HMS.out _ h; omega)) (Nat.le_refl _)
        have HB5 := hB3.trans (k5.below hB3.size (fun i h => by have := HMS.out _ h; omega))
        have s5 := k5.size
        have HP5 : Hid (Boxed w5 w.heap.size 35 (.pointer none)) := Lib.hid hp3
        have HE5 : Hid (Boxed w5 (w.heap.size + 1) 26 (.int .i64 0)) := Lib.hid he3
        have HBH5 : Hid (Boxed w5 w2.heap.size 35 (.pointer (some ⟨hb, 0, none⟩))) := Lib.hid bh3
        have HH5 := Lib.hid hh3
        have HVV := Lib.hid hv3
        clear hp3 he3 bh3 hh3 hv3 k5 h5b hP3 hE3 bH3 HH3 HV5 HCB HVW hmsb hnm hB3
        gi_wp2_with fail
        generalize hw6 : World.alloc w5 _ = w6
        have b6 : Below w5.heap.size w5 w6 := by rw [← hw6]; exact (Below.refl _ _).alloc (Nat.le_refl _) _
        have s6 : w5.heap.size < w6.heap.size := by rw [← hw6]; simp
        have hT6 : EntAt w6 w5.heap.size 29 Ent.zero := by rw [← hw6]; exact EntAt.new w5 Ent.zero _
        rw [show b.length - 4 = n * 41 by have := HLN.out; omega]
        refine ⟨trivial, (callsIn_wide.2 (chunk_any ao2 (n * 41) (c - 4) w6)).mono ?_⟩
        rintro e w7 ⟨rfl, rfl⟩
        clear hw6
        gi_wp2_with fail
        obtain ⟨wg, hwg⟩ : ∃ wg, (w6.alloc (.cells #[.slice ao2 (n * 41) (c - 4)] 64)).alloc (.cells #[.int .i64 41] 3) = wg := ⟨_, rfl⟩
        have sg : wg.heap.size = w6.heap.size + 2 := by rw [← hwg]; simp
        have bg : Below w6.heap.size w6 wg := by rw [← hwg]; exact ((Below.refl _ _).alloc (Nat.le_refl _) _).alloc (by simp) _
        have cB : wg.cell? ⟨w6.heap.size, 0, none⟩ = some (.slice ao2 (n * 41) (c - 4)) := by
          have h : Boxed wg w6.heap.size 64 (.slice ao2 (n * 41) (c - 4)) := by rw [← hwg]; exact (Boxed.new w6 _ _).alloc _
          exact h.cell
        have cC : wg.cell? ⟨w6.heap.size + 1, 0, none⟩ = some (.int .i64 41) := by
          have h : Boxed wg (w6.heap.size + 1) 3 (.int .i64 41) := by rw [← hwg]; exact heap_two _ _ _
          exact h.cell
        rw [hwg]
        have k5g : Below w5.heap.size w5 wg := b6.trans (bg.mono (by omega))
        have BG : Below w.heap.size w wg := HB5.trans (k5g.mono HB5.size)
        have hI0 : DI wg.heap.size w.heap.size hb mb w2.heap.size w5.heap.size (num4 b 0 : Int) [] wg :=
          ⟨heap_below k5g (by omega) HP5.out, heap_below k5g (by omega) HE5.out, heap_below k5g (by omega) HBH5.out, HH5.out.kept k5g, heap_below bg (by omega) hT6, Nat.le_refl _⟩
        have HVG : Hid (RowsAt b1 1 w.heap.size (some ⟨g, o, none⟩) b wg) := Lib.hid (HVV.out.below k5g HB5.size)
        have hn100 : n ≤ 1000 := by have := HLN.out; omega
        clear hwg b6 bg HP5 HE5 HBH5 HH5 hT6 HVV k5g
        refine wpIn_rangeFunc_ownG rfl (by omega) (gf := 69) (lb := #[.pointer (some ⟨w6.heap.size, 0, none⟩), .pointer (some ⟨w6.heap.size + 1, 0, none⟩)]) rfl trivial (enters_of Try.func69 (by kernel_rfl) rfl)
          (chunk_stops (8 - 1) (by omega) w6.heap.size (w6.heap.size + 1) g (o + 4) ao2 n (c - 4) (by omega) (by have := HLN.out; omega) (by omega) HAO.out wg (by omega) (by omega) cB cC) KeepTwo.t (KeepTwo.b_ (by omega) (by omega)) (Below.refl _ _) (fun _ => rfl)
          (fun pre W => (∃ acc, foldB [] (pre.map fun i => part b i.1) = some acc ∧ DI wg.heap.size w.heap.size hb mb w2.heap.size w5.heap.size (num4 b 0 : Int) acc W) ∧ Below w.heap.size w W)
          (fun cd pre W => cd = .ret ∧ foldB [] (pre.map fun i => part b i.1) = none ∧ Boxed W w.heap.size 35 (.pointer none) ∧ Boxed W (w.heap.size + 1) 26 (.int .i64 3) ∧ Below w.heap.size w W ∧ wg.heap.size ≤ W.heap.size)
          ?hI ?hIx ?h0
          (fun i => { tmps := #[.slice ao2 (n * 41) (c - 4), undef, .pointer (some ⟨w.heap.size, 0, none⟩), .pointer (some ⟨w.heap.size + 1, 0, none⟩), .pointer (some ⟨w2.heap.size, 0, none⟩), .pointer (some ⟨w5.heap.size, 0, none⟩), .slice (some ⟨g, o + 4 + i.1 * 41, none⟩) 41 41, undef, undef, .slice (some ⟨g, o, none⟩) b.length c, .int .i64 b.length, .bool false, .bool false, .slice (some ⟨g, o, none⟩) b.length c, .int .i64 b.length, .int .i64 ((b.length : Int) - 4), .int .i64 0, .bool false, .bool false, .bool false, .slice (some ⟨g, o, none⟩) b.length c, .int .i64 (num4 b 0 : Int), .bool true, .bool false, .bool false, .pointer (some ⟨hb, 0, none⟩), .pointer (some ⟨hb, 0, none⟩), .slice (some ⟨g, o, none⟩) b.length c, .int .i64 (num4 b 0 : Int), .slice (some ⟨g, o, none⟩) b.length c, .slice ao2 (n * 41) (c - 4), .pointer (some ⟨hb, 0, none⟩), .pointer (some ⟨hb, 1, none⟩), .slice ao2 (n * 41) (c - 4), .func (.func 69) #[] #[.pointer (some ⟨w6.heap.size, 0, none⟩), .pointer (some ⟨w6.heap.size + 1, 0, none⟩)], .slice (some ⟨g, o + 4 + i.1 * 41, none⟩) 41 41, undef, undef, undef, undef, undef, undef, undef, undef, undef, undef, undef, undef, undef, undef, undef, undef, undef, undef, undef, undef, undef, undef, undef, undef, undef, undef, undef, undef, undef, undef, undef, undef, undef, undef, undef, undef, undef, undef], defers := [] })
          ?assign ?body ?done ?stop
        case hI =>
          rintro pre A A' row ⟨⟨acc, h1, h2⟩, h3⟩ hg hr
          have k := low_grown hg hr h2.sz
          exact ⟨⟨acc, h1, h2.below k (by omega) (by omega) (by omega) (by omega) (by omega)⟩, h3.trans (k.mono (by omega))⟩
        case hIx =>
          rintro cd pre A A' row ⟨h1, h2, h3, h4, h5, h6⟩ hg hr
          have k := low_grown hg hr h6
          exact ⟨h1, h2, heap_below k (by omega) h3, heap_below k (by omega) h4, h5.trans (k.mono (by omega)), Nat.le_trans h6 k.size⟩
        case h0 => exact ⟨⟨[], rfl, hI0⟩, BG⟩
        case assign =>
          intro l i W K hK
          simp only [cEnc]
          gi_wp2
          exact hK
        case body =>
          rintro l pre i W ⟨⟨acc, h1, hd⟩, hB⟩ hlt
          have hal : acc.length = pre.length := by have := foldB_len _ _ _ h1; simpa using this
          have hH1 := Lib.hid h1
          have hplen : (part b i.1).length = 41 := by unfold part; rw [List.length_take, List.length_drop, HLN.out]; have := i.2; omega
          have hsz := hd.sz
          have hrow : RowsAt b1 1 W.heap.size (some ⟨g, o + 4 + i.1 * 41, none⟩) (part b i.1) W := by
            have h2 := (((HVK.out.below hB (Nat.le_refl _)).mono hB.size).drop (4 + i.1 * 41)).take 41
            rw [Nat.mul_one, ← Nat.add_assoc] at h2
            exact h2
          have HEN := entry_any (part b i.1) hplen (some ⟨g, o + 4 + i.1 * 41, none⟩) 41 (by omega) (by omega) W hrow
          rw [hplen] at HEN
          have HEN := Lib.hid HEN
          have HFS : Hid (foldB [] ((pre ++ [i]).map fun i => part b i.1) = stepB acc (part b i.1)) := Lib.hid (by rw [List.map_append, List.map_cons, List.map_nil, foldB_snoc, h1]; rfl)
          have HST : Hid (stepB acc (part b i.1) = if okB (part b i.1) && (acc.getLast?.all fun y => ltI y.id (pE (part b i.1)).id) then some (acc ++ [pE (part b i.1)]) else none) := Lib.hid rfl
          generalize part b i.1 = pb at *
          generalize pE pb = x at *
          generalize okB pb = ok at *
          have hwsz := hB.size
          have HD := Lib.hid hd
          have HSZX := Lib.hid (xSize x)
          have HSLX := Lib.hid (xLen x)
          clear hrow h1 hplen
          gi_wp2_with fail
          refine ⟨trivial, (CallsIn.inRound l (callsIn_wide.2 HEN.out)).mono ?_⟩
          rintro e w8 ⟨rfl, b8⟩
          have s8 := b8.size
          have D8 := HD.out.below (b8.mono hsz) (by omega) (by omega) (by omega) (by omega) (by omega)
          have B8 := hB.trans (b8.mono hwsz)
          have HD8 := Lib.hid D8
          unfold encX
          gi_wp2_with (refine wpListIn_store_abs rfl _ _ _ rfl w8.heap.size (encE x).toArray rfl rfl 29 _ (heap_alloc_new w8 _) HSZX.out (by simp [encE_len]) (ent_one x) ?_)
          intro w9 h9 g9
          have b9 := below_of_grown (grown_new g9)
          have s9 := b9.size
          have E9 : EntAt w9 w8.heap.size 29 x := h9
          have D9 := HD8.out.below (b9.mono (by omega)) (by omega) (by omega) (by omega) (by omega) (by omega)
          have B9 := B8.trans (b9.mono (by omega))
          have K9 : KeepsFrom wg.heap.size W w9 := (KeepsFrom.of_but (ms := fun _ => False) (But.of_below b8) (fun _ h => h.elim)).trans (KeepsFrom.of_but (ms := fun _ => False) (But.of_below b9) (fun _ h => h.elim))
          have KT9 : KeepTwo w6.heap.size (w6.heap.size + 1) W w9 := ⟨by omega, (b9.block _ (by omega)).trans (b8.block _ (by omega)), (b9.block _ (by omega)).trans (b8.block _ (by omega))⟩
          have HD9 := Lib.hid D9
          have HE9 := Lib.hid E9
          clear HD HD8 D8 D9 E9 h9 g9 b8 b9 HEN
          cases ok with
          | false =>
            have hnone : Hid (foldB [] ((pre ++ [i]).map fun i => part b i.1) = none) := Lib.hid (by rw [HFS.out, HST.out]; rfl)
            have hun : ∀ q : Bool, ¬ (some undef = some (Value.bool q)) := fun q h => by cases h
            gi_wp2_with fail
            all_goals (first | (rename_i hx _; exact absurd hx (hun _)) | (rename_i hx; exact absurd hx (hun _)) | skip)
            refine ⟨trivial, ?_⟩
            have hcP := HD9.out.rP.cell; have hfP := HD9.out.rP.frozen
            have hcE := HD9.out.rE.cell; have hfE := HD9.out.rE.frozen
            gi_wp2
            have p1 := (HD9.out.rP.set (.pointer none)).kept (grownBy_setCell' (w9.setCell ⟨w.heap.size, 0, none⟩ (.pointer none)) (w.heap.size + 1) (.int .i64 3)) (by simp)
            have p2 := (HD9.out.rE.kept (grownBy_setCell' w9 w.heap.size (.pointer none)) (by simp)).set (.int .i64 3)
            exact ⟨(K9.trans ((KeepsOthers.setCell _ _ _).from _)).trans ((KeepsOthers.setCell _ _ _).from _), rfl, hnone.out, p1, p2, (B9.setCell (p := ⟨w.heap.size, 0, none⟩) (Nat.le_refl _) _).setCell (p := ⟨w.heap.size + 1, 0, none⟩) (by show w.heap.size ≤ w.heap.size + 1; omega) _, by simp; omega⟩
          | true =>
            have hlen := fun ty => HD9.out.hist.map.len ty
            have hcH := HD9.out.bH.cell
            have hcM : w9.cell? ⟨hb, 0, none⟩ = some (.map (some mb)) := by rw [cell_of_row _ _ _ _ _ _ HD9.out.hist.blk]; rfl
            have hun : ∀ q : Bool, ¬ (some undef = some (Value.bool q)) := fun q h => by cases h
            by_cases hnil : acc = []
            · subst hnil
              have hal0 : (([] : List Ent).length : Int) = 0 := rfl
              have hsome : Hid (foldB [] ((pre ++ [i]).map fun i => part b i.1) = some ([] ++ [x])) := Lib.hid (by rw [HFS.out, HST.out]; rfl)
              gi_wp2_with fail
              all_goals (first | (rename_i hx _; exact absurd hx (hun _)) | (rename_i hx; exact absurd hx (hun _)) | skip)
              refine ⟨trivial, ?_⟩
              gi_wp2_with fail
              have HSN := Lib.hid (snoc_facts HD9.out.hist.asc (x := x) (fun y hy => by simp at hy))
              have hacl : ([] : List Ent).length < 1000000 := by simp
              have hszW := (HD9).out.sz
              have hxW : w8.heap.size < (w9).heap.size := (Array.getElem?_eq_some_iff.1 (HE9).out).1
              obtain ⟨m2, hm2⟩ : ∃ m2 : Nat → Prop, m2 = fun k => k = mb ∨ k = w5.heap.size := ⟨_, rfl⟩
              have HM2 : Hid (∀ k, m2 k → k = mb ∨ k = w5.heap.size) := Lib.hid (fun k h => by rw [hm2] at h; exact h)
              have hm2m : m2 mb := by rw [hm2]; exact .inl rfl
              have hm2t : m2 w5.heap.size := by rw [hm2]; exact .inr rfl
              have HCH : Hid (∀ w', But m2 (w9) w' → w'.cell? ⟨w2.heap.size, 0, none⟩ = some (.pointer (some ⟨hb, 0, none⟩))) := Lib.hid (fun w' k => Boxed.cell (k.heap (HD9).out.bH (fun e => by rcases HM2.out _ e with e | e <;> omega)))
              have HCM : Hid (∀ w', But m2 (w9) w' → w'.cell? ⟨hb, 0, none⟩ = some (.map (some mb))) := Lib.hid (fun w' k => by rw [cell_of_row _ _ _ _ _ _ (k.heap (HD9).out.hist.blk (fun e => by rcases HM2.out _ e with e | e <;> omega))]; rfl)
              have HEK : Hid (∀ w', But m2 (w9) w' → EntAt w' w8.heap.size 29 x) := Lib.hid (fun w' k => k.heap (HE9).out (fun e => by rcases HM2.out _ e with e | e <;> omega))
              have HRI : Hid (∀ w', But m2 (w9) w' → w'.rangeAt w8.heap.size 0 (encI x.id)) := Lib.hid (fun w' k => EntAt.idr (HEK.out w' k))
              have HRX : Hid (∀ w', But m2 (w9) w' → w'.rangeAt w8.heap.size 0 (encE x)) := Lib.hid (fun w' k => EntAt.range (HEK.out w' k))
              have HSI := Lib.hid (idSize29 x.id)
              obtain ⟨v0, st, wE, hrunE, hgE, hE⟩ := MapAt.entry (w := (w9).drew) ((HD9).out.hist.map.of_heap rfl) hacl x
              have kE : But m2 (w9) wE := (But.refl _ _).drew.trans (But.grown hgE (fun k hk => by cases hk; exact hm2m))
              have hTE : wE.heap[w5.heap.size]? = (w9).heap[w5.heap.size]? := hgE.block w5.heap.size (by show w5.heap.size < (w9).heap.size; omega) (fun e => by cases e; omega)
              have HRE := Lib.hid hrunE
              have HEE := Lib.hid hE
              clear hrunE hE hgE hm2
              refine region_inRound (S := fun w' => But m2 (w9) w') (by kernel_rfl) (by kernel_rfl) ((But.refl _ _).drew) (fun hHeld => ?_)
              refine takeL 0 (v := ?_) rfl (by kernel_rfl) (by kernel_rfl) (by kernel_rfl) (fun _ _ _ h => h) (by rfl) hHeld ?_ ?_
              rotate_left 1
              · intro w2 hSw; have q0 := HCH.out w2 hSw; go_simp <;> with_reducible rfl
              try simp only [Act.put, List.setIfInBounds_toArray, List.set_cons_zero, List.set_cons_succ]
              refine takeL 1 (v := ?_) rfl (by kernel_rfl) (by kernel_rfl) (by kernel_rfl) (fun _ _ _ h => h) (by rfl) hHeld ?_ ?_
              rotate_left 1
              · intro w2 hSw; go_simp <;> with_reducible rfl
              try simp only [Act.put, List.setIfInBounds_toArray, List.set_cons_zero, List.set_cons_succ]
              refine takeL 2 (v := ?_) rfl (by kernel_rfl) (by kernel_rfl) (by kernel_rfl) (fun _ _ _ h => h) (by rfl) hHeld ?_ ?_
              rotate_left 1
              · intro w2 hSw; go_simp <;> with_reducible rfl
              try simp only [Act.put, List.setIfInBounds_toArray, List.set_cons_zero, List.set_cons_succ]
              refine takeL 3 (v := ?_) rfl (by kernel_rfl) (by kernel_rfl) (by kernel_rfl) (fun _ _ _ h => h) (by rfl) hHeld ?_ ?_
              rotate_left 1
              · intro w2 hSw; have q0 := HCM.out w2 hSw; go_simp <;> with_reducible rfl
              try simp only [Act.put, List.setIfInBounds_toArray, List.set_cons_zero, List.set_cons_succ]
              refine takeL 4 (v := ?_) rfl (by kernel_rfl) (by kernel_rfl) (by kernel_rfl) (fun _ _ _ h => h) (by rfl) hHeld ?_ ?_
              rotate_left 1
              · intro w2 hSw; go_simp <;> with_reducible rfl
              try simp only [Act.put, List.setIfInBounds_toArray, List.set_cons_zero, List.set_cons_succ]
              refine takeRow 5 rfl (by kernel_rfl) (by kernel_rfl) (by kernel_rfl) 27 (.tmp 61) rfl (w8.heap.size) (0) rfl (encI x.id) _ (fun _ _ _ h => h) (by rfl) hHeld HRI.out Try.underlying27 rfl HSI.out ?_
              try simp only [Act.put, List.setIfInBounds_toArray, List.set_cons_zero, List.set_cons_succ]
              refine takeRow 6 rfl (by kernel_rfl) (by kernel_rfl) (by kernel_rfl) 29 (.tmp 7) rfl (w8.heap.size) (0) rfl (encE x) _ (fun _ _ _ h => h) (by rfl) hHeld HRX.out Try.underlying29 rfl HSLX.out ?_
              try simp only [Act.put, List.setIfInBounds_toArray, List.set_cons_zero, List.set_cons_succ]
              refine takeRow 7 rfl (by kernel_rfl) (by kernel_rfl) (by kernel_rfl) 29 (.tmp 7) rfl (w8.heap.size) (0) rfl (encE x) _ (fun _ _ _ h => h) (by rfl) hHeld HRX.out Try.underlying29 rfl HSLX.out ?_
              try simp only [Act.put, List.setIfInBounds_toArray, List.set_cons_zero, List.set_cons_succ]
              refine heavyL 8 rfl (by kernel_rfl) (fun K hK => ?_)
              rw [if_pos (by rfl)]
              have hrun := HRE.out
              go_simp
              refine hK.out _ _ (kE) (fun hHeld => ?_)
              clear hK K
              try simp only [Act.put, List.setIfInBounds_toArray, List.set_cons_zero, List.set_cons_succ]
              refine takeL 9 (v := ?_) rfl (by kernel_rfl) (by kernel_rfl) (by kernel_rfl) (fun _ _ _ h => h) (by rfl) hHeld ?_ ?_
              rotate_left 1
              · intro w2 hSw; go_simp <;> with_reducible rfl
              try simp only [Act.put, List.setIfInBounds_toArray, List.set_cons_zero, List.set_cons_succ]
              obtain ⟨wF, hrunF, hgF, hmF⟩ := HEE.out wE rfl
              have kF : But m2 (w9) wF := kE.trans (But.grown hgF (fun k hk => by cases hk; exact hm2m))
              have hTF : EntAt wF w5.heap.size 29 _ := (hgF.block _ (by have := kE.size; omega) (fun e => by cases e; omega)).trans (hTE.trans (HD9).out.bef)
              have HMF := Lib.hid hmF
              unfold encX goInt at hrunF
              refine heavyL 10 rfl (by kernel_rfl) (fun K hK => ?_)
              rw [if_pos (by rfl)]
              go_simp
              refine hK.out _ _ (kF) (fun hHeld => ?_)
              clear hK K
              try simp only [Act.put, List.setIfInBounds_toArray, List.set_cons_zero, List.set_cons_succ]
              refine heavyL 11 rfl (by kernel_rfl) (fun K hK => ?_)
              rw [if_pos (by rfl)]
              refine wp_store_row 29 (.tmp 5) (.tmp 64) (by rfl) w5.heap.size (encE x).toArray (by rfl) (by rfl) _ (encE _).toArray hTF HSZX.out (by simp [encE_len]) (ent_one _) ?_
              refine hK.out _ _ (kF.trans (But.setRow _ hm2t _)) (fun hHeld => ?_)
              clear hK K
              try simp only [Act.put, List.setIfInBounds_toArray, List.set_cons_zero, List.set_cons_succ]
              refine wpAnyH_done (by kernel_rfl) ?_ _
              refine NoPanic.normal (OnlyN.normal ?_)
              have hTG := setRow_heap _ _ _ (encE x).toArray _ _ hTF
              generalize hwG : World.setRow wF _ _ = wG at *
              have hmbG : wG.heap[mb]? = wF.heap[mb]? := by rw [← hwG]; exact setRow_other _ _ _ _ (by omega)
              have nm : ∀ k, k < w2.heap.size → k ≠ mb → ¬ m2 k := fun k h1 h2 e => by rcases HM2.out _ e with e | e <;> omega
              have nm4 : ¬ m2 w2.heap.size := fun e => by rcases HM2.out _ e with e | e <;> omega
              have hDG : DI wg.heap.size w.heap.size hb mb w2.heap.size w5.heap.size (num4 b 0 : Int) ([] ++ [x]) wG :=
                ⟨hHeld.heap (HD9).out.rP (nm _ (by omega) (by omega)), hHeld.heap (HD9).out.rE (nm _ (by omega) (by omega)), hHeld.heap (HD9).out.bH nm4,
                  ⟨hHeld.heap (HD9).out.hist.blk (nm _ hhb2 hnem), (HMF.out ([] ++ [x]) (HSN.out.2.1) (by rw [HSN.out.2.2]; simp)).of_heap hmbG, HSN.out.1, (HD9).out.hist.c0, (HD9).out.hist.c1⟩,
                  by rw [List.getLast?_append, List.getLast?_singleton]; exact hTG, Nat.le_trans hszW hHeld.size⟩
              have hm2lt : ∀ k, m2 k → k < wg.heap.size := fun k e => by rcases HM2.out _ e with e | e <;> omega
              exact ⟨(K9).trans (KeepsFrom.of_but hHeld hm2lt), (KT9).t ⟨hHeld.size, hHeld.block _ (by omega) (fun e => by rcases HM2.out _ e with e | e <;> omega), hHeld.block _ (by omega) (fun e => by rcases HM2.out _ e with e | e <;> omega)⟩,
                ⟨_, hsome.out, hDG⟩, (B9).trans (hHeld.below (by omega) (fun k e => by rcases HM2.out _ e with e | e <;> omega))⟩
            · obtain ⟨y, hy⟩ : ∃ y, acc.getLast? = some y := by
                cases hg : acc.getLast? with
                | none => rw [List.getLast?_eq_none_iff] at hg; exact absurd hg hnil
                | some z => exact ⟨z, rfl⟩
              have hpos : (0 : Int) < (acc.length : Int) := by
                cases acc with
                | nil => exact absurd rfl hnil
                | cons a r => simp only [List.length_cons]; omega
              have hbef := HD9.out.bef
              rw [hy] at hbef
              have HRY := Lib.hid (EntAt.range hbef)
              have HRX9 := Lib.hid (EntAt.range HE9.out)
              have HSLY := Lib.hid (xLen y)
              have HST2 : Hid (stepB acc pb = if ltI y.id x.id then some (acc ++ [x]) else none) := Lib.hid (by rw [HST.out, hy]; rfl)
              have HYL := Lib.hid hy
              obtain ⟨L, hL⟩ : ∃ L, acc.length = L := ⟨_, rfl⟩
              have HAL := Lib.hid hal
              rw [hL] at hpos
              have hposB : decide (0 < L) = true := by simp; omega
              have hposN : 0 < L := by omega
              clear hpos
              simp only [hL] at hlen
              clear hbef hnil hy HST hal hL
              gi_wp2_with (first
                | (refine wpListIn_load_midG (by rfl) 29 (.tmp 5) rfl w5.heap.size 0 rfl (encE y) _ HRY.out Try.underlying29 rfl HSLY.out ?_)
                | (refine wpListIn_load_midG (by rfl) 29 (.tmp 7) rfl w8.heap.size 0 rfl (encE x) _ HRX9.out Try.underlying29 rfl HSLX.out ?_))
              all_goals (first | (rename_i hx _; exact absurd hx (hun _)) | (rename_i hx; exact absurd hx (hun _)) | skip)
              refine ⟨trivial, (CallsIn.inRound l (callsIn_wide.2 (byId_any y x w9))).mono ?_⟩
              rintro e w10 ⟨rfl, b10⟩
              have s10 := b10.size
              have HD10 := Lib.hid (HD9.out.below (b10.mono (by have := HD9.out.sz; omega)) (by omega) (by omega) (by omega) (by omega) (by omega))
              have HE10 : Hid (EntAt w10 w8.heap.size 29 x) := Lib.hid (HE9.out.below b10 (Array.getElem?_eq_some_iff.1 HE9.out).1)
              have B10 := B9.trans (b10.mono (by omega))
              have K10 := K9.trans (KeepsFrom.of_but (ms := fun _ => False) (But.of_below b10) (fun _ h => h.elim))
              have KT10 : KeepTwo w6.heap.size (w6.heap.size + 1) W w10 := KT9.t ⟨b10.size, b10.block _ (by omega), b10.block _ (by omega)⟩
              clear HRY HRX9 HD9 HE9 B9 K9 KT9 b10
              by_cases hc : cfE y x < 0
              · have hcB : decide (0 ≤ cfE y x) = false := by simp; omega
                have hlt2 : ltI y.id x.id = true := by
                  have h' : cfI y.id x.id < 0 := hc
                  unfold ltI ltOf; simpa using h'
                have hsome : Hid (foldB [] ((pre ++ [i]).map fun i => part b i.1) = some (acc ++ [x])) := Lib.hid (by rw [HFS.out, HST2.out, if_pos hlt2])
                have HSN := Lib.hid (snoc_facts HD10.out.hist.asc (x := x) (fun z hz => by rw [HYL.out] at hz; cases hz; exact hlt2))
                clear hc
                gi_wp2_with fail
                have hacl : acc.length < 1000000 := by have := HAL.out; omega
                have hszW := (HD10).out.sz
                have hxW : w8.heap.size < (w10).heap.size := (Array.getElem?_eq_some_iff.1 (HE10).out).1
                obtain ⟨m2, hm2⟩ : ∃ m2 : Nat → Prop, m2 = fun k => k = mb ∨ k = w5.heap.size := ⟨_, rfl⟩
                have HM2 : Hid (∀ k, m2 k → k = mb ∨ k = w5.heap.size) := Lib.hid (fun k h => by rw [hm2] at h; exact h)
                have hm2m : m2 mb := by rw [hm2]; exact .inl rfl
                have hm2t : m2 w5.heap.size := by rw [hm2]; exact .inr rfl
                have HCH : Hid (∀ w', But m2 (w10) w' → w'.cell? ⟨w2.heap.size, 0, none⟩ = some (.pointer (some ⟨hb, 0, none⟩))) := Lib.hid (fun w' k => Boxed.cell (k.heap (HD10).out.bH (fun e => by rcases HM2.out _ e with e | e <;> omega)))
                have HCM : Hid (∀ w', But m2 (w10) w' → w'.cell? ⟨hb, 0, none⟩ = some (.map (some mb))) := Lib.hid (fun w' k => by rw [cell_of_row _ _ _ _ _ _ (k.heap (HD10).out.hist.blk (fun e => by rcases HM2.out _ e with e | e <;> omega))]; rfl)
                have HEK : Hid (∀ w', But m2 (w10) w' → EntAt w' w8.heap.size 29 x) := Lib.hid (fun w' k => k.heap (HE10).out (fun e => by rcases HM2.out _ e with e | e <;> omega))
                have HRI : Hid (∀ w', But m2 (w10) w' → w'.rangeAt w8.heap.size 0 (encI x.id)) := Lib.hid (fun w' k => EntAt.idr (HEK.out w' k))
                have HRX : Hid (∀ w', But m2 (w10) w' → w'.rangeAt w8.heap.size 0 (encE x)) := Lib.hid (fun w' k => EntAt.range (HEK.out w' k))
                have HSI := Lib.hid (idSize29 x.id)
                obtain ⟨v0, st, wE, hrunE, hgE, hE⟩ := MapAt.entry (w := (w10).drew) ((HD10).out.hist.map.of_heap rfl) hacl x
                have kE : But m2 (w10) wE := (But.refl _ _).drew.trans (But.grown hgE (fun k hk => by cases hk; exact hm2m))
                have hTE : wE.heap[w5.heap.size]? = (w10).heap[w5.heap.size]? := hgE.block w5.heap.size (by show w5.heap.size < (w10).heap.size; omega) (fun e => by cases e; omega)
                have HRE := Lib.hid hrunE
                have HEE := Lib.hid hE
                clear hrunE hE hgE hm2
                refine region_inRound (S := fun w' => But m2 (w10) w') (by kernel_rfl) (by kernel_rfl) ((But.refl _ _).drew) (fun hHeld => ?_)
                refine takeL 0 (v := ?_) rfl (by kernel_rfl) (by kernel_rfl) (by kernel_rfl) (fun _ _ _ h => h) (by rfl) hHeld ?_ ?_
                rotate_left 1
                · intro w2 hSw; have q0 := HCH.out w2 hSw; go_simp <;> with_reducible rfl
                try simp only [Act.put, List.setIfInBounds_toArray, List.set_cons_zero, List.set_cons_succ]
                refine takeL 1 (v := ?_) rfl (by kernel_rfl) (by kernel_rfl) (by kernel_rfl) (fun _ _ _ h => h) (by rfl) hHeld ?_ ?_
                rotate_left 1
                · intro w2 hSw; go_simp <;> with_reducible rfl
                try simp only [Act.put, List.setIfInBounds_toArray, List.set_cons_zero, List.set_cons_succ]
                refine takeL 2 (v := ?_) rfl (by kernel_rfl) (by kernel_rfl) (by kernel_rfl) (fun _ _ _ h => h) (by rfl) hHeld ?_ ?_
                rotate_left 1
                · intro w2 hSw; go_simp <;> with_reducible rfl
                try simp only [Act.put, List.setIfInBounds_toArray, List.set_cons_zero, List.set_cons_succ]
                refine takeL 3 (v := ?_) rfl (by kernel_rfl) (by kernel_rfl) (by kernel_rfl) (fun _ _ _ h => h) (by rfl) hHeld ?_ ?_
                rotate_left 1
                · intro w2 hSw; have q0 := HCM.out w2 hSw; go_simp <;> with_reducible rfl
                try simp only [Act.put, List.setIfInBounds_toArray, List.set_cons_zero, List.set_cons_succ]
                refine takeL 4 (v := ?_) rfl (by kernel_rfl) (by kernel_rfl) (by kernel_rfl) (fun _ _ _ h => h) (by rfl) hHeld ?_ ?_
                rotate_left 1
                · intro w2 hSw; go_simp <;> with_reducible rfl
                try simp only [Act.put, List.setIfInBounds_toArray, List.set_cons_zero, List.set_cons_succ]
                refine takeRow 5 rfl (by kernel_rfl) (by kernel_rfl) (by kernel_rfl) 27 (.tmp 61) rfl (w8.heap.size) (0) rfl (encI x.id) _ (fun _ _ _ h => h) (by rfl) hHeld HRI.out Try.underlying27 rfl HSI.out ?_
                try simp only [Act.put, List.setIfInBounds_toArray, List.set_cons_zero, List.set_cons_succ]
                refine takeRow 6 rfl (by kernel_rfl) (by kernel_rfl) (by kernel_rfl) 29 (.tmp 7) rfl (w8.heap.size) (0) rfl (encE x) _ (fun _ _ _ h => h) (by rfl) hHeld HRX.out Try.underlying29 rfl HSLX.out ?_
                try simp only [Act.put, List.setIfInBounds_toArray, List.set_cons_zero, List.set_cons_succ]
                refine takeRow 7 rfl (by kernel_rfl) (by kernel_rfl) (by kernel_rfl) 29 (.tmp 7) rfl (w8.heap.size) (0) rfl (encE x) _ (fun _ _ _ h => h) (by rfl) hHeld HRX.out Try.underlying29 rfl HSLX.out ?_
                try simp only [Act.put, List.setIfInBounds_toArray, List.set_cons_zero, List.set_cons_succ]
                refine heavyL 8 rfl (by kernel_rfl) (fun K hK => ?_)
                rw [if_pos (by rfl)]
                have hrun := HRE.out
                go_simp
                refine hK.out _ _ (kE) (fun hHeld => ?_)
                clear hK K
                try simp only [Act.put, List.setIfInBounds_toArray, List.set_cons_zero, List.set_cons_succ]
                refine takeL 9 (v := ?_) rfl (by kernel_rfl) (by kernel_rfl) (by kernel_rfl) (fun _ _ _ h => h) (by rfl) hHeld ?_ ?_
                rotate_left 1
                · intro w2 hSw; go_simp <;> with_reducible rfl
                try simp only [Act.put, List.setIfInBounds_toArray, List.set_cons_zero, List.set_cons_succ]
                obtain ⟨wF, hrunF, hgF, hmF⟩ := HEE.out wE rfl
                have kF : But m2 (w10) wF := kE.trans (But.grown hgF (fun k hk => by cases hk; exact hm2m))
                have hTF : EntAt wF w5.heap.size 29 _ := (hgF.block _ (by have := kE.size; omega) (fun e => by cases e; omega)).trans (hTE.trans (HD10).out.bef)
                have HMF := Lib.hid hmF
                unfold encX goInt at hrunF
                refine heavyL 10 rfl (by kernel_rfl) (fun K hK => ?_)
                rw [if_pos (by rfl)]
                go_simp
                refine hK.out _ _ (kF) (fun hHeld => ?_)
                clear hK K
                try simp only [Act.put, List.setIfInBounds_toArray, List.set_cons_zero, List.set_cons_succ]
                refine heavyL 11 rfl (by kernel_rfl) (fun K hK => ?_)
                rw [if_pos (by rfl)]
                refine wp_store_row 29 (.tmp 5) (.tmp 64) (by rfl) w5.heap.size (encE x).toArray (by rfl) (by rfl) _ (encE _).toArray hTF HSZX.out (by simp [encE_len]) (ent_one _) ?_
                refine hK.out _ _ (kF.trans (But.setRow _ hm2t _)) (fun hHeld => ?_)
                clear hK K
                try simp only [Act.put, List.setIfInBounds_toArray, List.set_cons_zero, List.set_cons_succ]
                refine wpAnyH_done (by kernel_rfl) ?_ _
                refine NoPanic.normal (OnlyN.normal ?_)
                have hTG := setRow_heap _ _ _ (encE x).toArray _ _ hTF
                generalize hwG : World.setRow wF _ _ = wG at *
                have hmbG : wG.heap[mb]? = wF.heap[mb]? := by rw [← hwG]; exact setRow_other _ _ _ _ (by omega)
                have nm : ∀ k, k < w2.heap.size → k ≠ mb → ¬ m2 k := fun k h1 h2 e => by rcases HM2.out _ e with e | e <;> omega
                have nm4 : ¬ m2 w2.heap.size := fun e => by rcases HM2.out _ e with e | e <;> omega
                have hDG : DI wg.heap.size w.heap.size hb mb w2.heap.size w5.heap.size (num4 b 0 : Int) (acc ++ [x]) wG :=
                  ⟨hHeld.heap (HD10).out.rP (nm _ (by omega) (by omega)), hHeld.heap (HD10).out.rE (nm _ (by omega) (by omega)), hHeld.heap (HD10).out.bH nm4,
                    ⟨hHeld.heap (HD10).out.hist.blk (nm _ hhb2 hnem), (HMF.out (acc ++ [x]) (HSN.out.2.1) (by rw [HSN.out.2.2]; simp)).of_heap hmbG, HSN.out.1, (HD10).out.hist.c0, (HD10).out.hist.c1⟩,
                    by rw [List.getLast?_append, List.getLast?_singleton]; exact hTG, Nat.le_trans hszW hHeld.size⟩
                have hm2lt : ∀ k, m2 k → k < wg.heap.size := fun k e => by rcases HM2.out _ e with e | e <;> omega
                exact ⟨(K10).trans (KeepsFrom.of_but hHeld hm2lt), (KT10).t ⟨hHeld.size, hHeld.block _ (by omega) (fun e => by rcases HM2.out _ e with e | e <;> omega), hHeld.block _ (by omega) (fun e => by rcases HM2.out _ e with e | e <;> omega)⟩,
                  ⟨_, hsome.out, hDG⟩, (B10).trans (hHeld.below (by omega) (fun k e => by rcases HM2.out _ e with e | e <;> omega))⟩
              · have hcB : decide (0 ≤ cfE y x) = true := by simp; omega
                have hlt2 : ltI y.id x.id = false := by
                  have h' : ¬ cfI y.id x.id < 0 := hc
                  unfold ltI ltOf; simpa using h'
                have hnone : Hid (foldB [] ((pre ++ [i]).map fun i => part b i.1) = none) := Lib.hid (by rw [HFS.out, HST2.out, hlt2]; rfl)
                have hc0 : (0 : Int) ≤ cfE y x := by omega
                clear hc
                have hcP := HD10.out.rP.cell; have hfP := HD10.out.rP.frozen
                have hcE := HD10.out.rE.cell; have hfE := HD10.out.rE.frozen
                gi_wp2
                have p1 := (HD10.out.rP.set (.pointer none)).kept (grownBy_setCell' (w10.setCell ⟨w.heap.size, 0, none⟩ (.pointer none)) (w.heap.size + 1) (.int .i64 3)) (by simp)
                have p2 := (HD10.out.rE.kept (grownBy_setCell' w10 w.heap.size (.pointer none)) (by simp)).set (.int .i64 3)
                exact ⟨(K10.trans ((KeepsOthers.setCell _ _ _).from _)).trans ((KeepsOthers.setCell _ _ _).from _), rfl, hnone.out, p1, p2, (B10.setCell (p := ⟨w.heap.size, 0, none⟩) (Nat.le_refl _) _).setCell (p := ⟨w.heap.size + 1, 0, none⟩) (by show w.heap.size ≤ w.heap.size + 1; omega) _, by simp; omega⟩
        case done =>
          rintro D ys W hD rfl ⟨⟨acc, h1, hd⟩, hB⟩ hK
          have hlen := fun ty => hd.hist.map.len ty
          have hal : acc.length = n := by have := foldB_len _ _ _ h1; simpa using this
          obtain ⟨L, hL⟩ : ∃ L, acc.length = L := ⟨_, rfl⟩
          have hl1 : decide (1048576 < L) = false := by simp; omega
          have hl2 : ¬ 1048576 < L := by omega
          have hl3 : decide ((1048576 : Int) < (L : Int)) = false := by simp; omega
          simp only [hL] at hlen
          have hcH := hd.bH.cell
          have hcM : W.cell? ⟨hb, 0, none⟩ = some (.map (some mb)) := by rw [cell_of_row _ _ _ _ _ _ hd.hist.blk]; rfl
          have hcP := hd.rP.cell; have hfP := hd.rP.frozen
          have hcE := hd.rE.cell; have hfE := hd.rE.frozen
          have hdec : Hid (decB b = some (acc, (num4 b 0 : Int))) := Lib.hid (by
            unfold decB
            rw [if_neg (by rintro (h | h | h); exact h4 h; exact h hm; rw [hmin] at h; cases h), ← HN.out, parts_fin, h1]
            rfl)
          have HD := Lib.hid hd
          have hwW := hB.size
          have hsz := hd.sz
          clear hd h1 hal hL
          gi_wp2
          have p1 := (HD.out.rP.set (.pointer (some ⟨hb, 0, none⟩))).kept (grownBy_setCell' (W.setCell ⟨w.heap.size, 0, none⟩ (.pointer (some ⟨hb, 0, none⟩))) (w.heap.size + 1) (.int .i64 0)) (by simp)
          have p2 := (HD.out.rE.kept (grownBy_setCell' W w.heap.size (.pointer (some ⟨hb, 0, none⟩))) (by simp)).set (.int .i64 0)
          have hB2 := (hB.setCell (p := ⟨w.heap.size, 0, none⟩) (Nat.le_refl _) (.pointer (some ⟨hb, 0, none⟩))).setCell (p := ⟨w.heap.size + 1, 0, none⟩) (by show w.heap.size ≤ w.heap.size + 1; omega) (.int .i64 0)
          have hHf : HistAt ((W.setCell ⟨w.heap.size, 0, none⟩ (.pointer (some ⟨hb, 0, none⟩))).setCell ⟨w.heap.size + 1, 0, none⟩ (.int .i64 0)) hb mb acc (num4 b 0 : Int) := HD.out.hist.of_heap
            ((RowKit.Below.heap_setCell _ _ _ hb (by show hb ≠ w.heap.size + 1; omega)).trans (RowKit.Below.heap_setCell _ _ _ hb (by show hb ≠ w.heap.size; omega)))
            ((RowKit.Below.heap_setCell _ _ _ mb (by show mb ≠ w.heap.size + 1; omega)).trans (RowKit.Below.heap_setCell _ _ _ mb (by show mb ≠ w.heap.size; omega)))
          have hK2 := ((KeepsOthers.setCell W ⟨w.heap.size, 0, none⟩ (.pointer (some ⟨hb, 0, none⟩))).trans (KeepsOthers.setCell _ ⟨w.heap.size + 1, 0, none⟩ (.int .i64 0))).same D _ hK rfl
          generalize World.setCell (World.setCell W _ _) _ _ = W2 at *
          refine ⟨by simp, .inl ⟨_, _, rfl, run_takeDeferred hK2, ?_⟩⟩
          have c1 := cell_kept p1.cell (grownBy_putObj' W2 D (.deferred none)) (fun r e => by cases e; exact ⟨_, hK2, rfl⟩)
          have c2 := cell_kept p2.cell (grownBy_putObj' W2 D (.deferred none)) (fun r e => by cases e; exact ⟨_, hK2, rfl⟩)
          have bD := belowK_b (w := w) (Nat.le_refl _) W2 D _ (Obj.deferred none) (by omega) hK2 rfl rfl
          refine ⟨.tuple #[.pointer (some ⟨hb, 0, none⟩), .int .i64 0], ?_, DecPost.ok hdec.out (hB2.trans bD) (hHf.of_heap ?_ ?_) (by omega) (by omega)⟩
          · simp [results, Try.f31, go_sem, c1, c2]
          · exact (grownBy_putObj' W2 D (.deferred none)).block hb hHf.lt (fun e => by cases e; omega)
          · exact (grownBy_putObj' W2 D (.deferred none)).block mb hHf.map.lt (fun e => by cases e; omega)
        case stop =>
          rintro D cd pre W hD hpre ⟨rfl, hnone, hP, hE, hB, hsz⟩ hK
          have hdec : Hid (decB b = none) := Lib.hid (by
            unfold decB
            rw [if_neg (by rintro (h | h | h); exact h4 h; exact h hm; rw [hmin] at h; cases h), ← HN.out, parts_fin]
            obtain ⟨q, hq⟩ := hpre
            rw [← hq, List.map_append, foldB_app, hnone]
            rfl)
          have hcP := hP.cell; have hcE := hE.cell
          gi_wp2
          refine ⟨by simp, .inl ⟨_, _, rfl, run_takeDeferred hK, ?_⟩⟩
          have c1 := cell_kept hcP (grownBy_putObj' W D (.deferred none)) (fun r e => by cases e; exact ⟨_, hK, rfl⟩)
          have c2 := cell_kept hcE (grownBy_putObj' W D (.deferred none)) (fun r e => by cases e; exact ⟨_, hK, rfl⟩)
          refine ⟨.tuple #[.pointer none, .int .i64 3], ?_, DecPost.err hdec.out (hB.trans (belowK_b (w := w) (Nat.le_refl _) _ D _ _ (by omega) hK rfl rfl))⟩
          simp [results, Try.f31, go_sem, c1, c2]
    · have hd : Hid (decB b = none) := Lib.hid (by unfold decB; rw [if_pos (.inr (.inl hm))])
      have hmi2 : (((b.length - 4 : Nat) : Int) % 41 != 0) = true := by simp; omega
      gi_wp2_with fail
      refine ⟨trivial, ?_⟩
      gi_wp2_with fail
      refine ⟨trivial, ?_⟩
      gi_wp2
      refine ⟨.tuple #[.pointer none, .int .i64 3], ?_, DecPost.err hd.out (((Below.refl _ w).alloc (Nat.le_refl _) _).alloc (by simp) _)⟩
      simp [results, Try.f31, go_sem]
end Go.Proofs.Ytblidphaolgilaa
