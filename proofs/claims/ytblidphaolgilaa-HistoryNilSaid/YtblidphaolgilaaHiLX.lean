/- The walk of the law HistoryNil. -/
import Derived.Test.YtblidphaolgilaaHiNilA
import Derived.Test.YtblidphaolgilaaRound
import Derived.Test.YtblidphaolgilaaHiLS
import Derived.Outline
namespace Go.Proofs.Ytblidphaolgilaa
open Go.RowKit Go.Maps Go.Shelf
attribute [local go_sem] Oper.semAt_some
set_option linter.unusedSimpArgs false
set_option linter.unusedVariables false
set_option maxRecDepth 100000 in
set_option maxHeartbeats 4000000 in
theorem nil_walk (x : Ent) (now : Int) (w : World) :
    Calls Try.prog 11 #[encX x, .int .i64 now] w fun e w' => e = .returned (.bool true) ∧ Below w.heap.size w w' := by
  obtain ⟨wa, hwa⟩ : ∃ wa, w.alloc (.cells (encE x).toArray 24) = wa := ⟨_, rfl⟩
  have hsa : wa.heap.size = w.heap.size + 1 := by rw [← hwa]; simp
  have hX : EntAt wa w.heap.size 24 x := by rw [← hwa]; exact EntAt.new w x _
  have hBa : Below w.heap.size w wa := by rw [← hwa]; exact (Below.refl _ w).alloc (Nat.le_refl _) _
  have HX := Lib.hid hX
  clear hX
  refine (callsIn_wide (n := 8)).1 ?_
  refine callsIn_of_wp_marks Try.func11 rfl trivial ?_ rfl
  unfold encX
  simp only [Try.ntmps11, List.size_toArray, List.length_cons, List.length_nil, Nat.reduceAdd, Nat.reduceSub, Array.replicate_succ, Array.replicate_zero, List.push_toArray, List.append_toArray, List.nil_append, List.cons_append]
  gi_wp2_with fail
  refine ⟨trivial, (callsIn_wide.2 (known_any _)).mono ?_⟩
  rintro e w2 ⟨rfl, b2⟩
  gi_wp2_with fail
  refine ⟨trivial, (callsIn_wide.2 (all_any none _)).mono ?_⟩
  rintro e w3 ⟨rfl, rfl⟩
  gi_wp2_with fail
  obtain ⟨wb, hwb⟩ : ∃ wb, (w2.alloc (.cells #[.int .i64 0] 3)).alloc (.cells #[.pointer none] 35) = wb := ⟨_, rfl⟩
  have h2 := b2.size
  have hsb : wb.heap.size = w2.heap.size + 1 + 1 := by rw [← hwb]; simp
  have bN : Boxed wb w2.heap.size 3 (.int .i64 0) := by rw [← hwb]; exact (Boxed.new w2 _ _).alloc _
  have bA : Boxed wb (w2.heap.size + 1) 35 (.pointer none) := by rw [← hwb]; exact heap_new2 _ _ _
  have hb2 : Below w2.heap.size w2 wb := by rw [← hwb]; exact ((Below.refl _ w2).alloc (Nat.le_refl _) _).alloc (by simp) _
  have HXb : Hid (EntAt wb w.heap.size 24 x) := Lib.hid ((HX.out.below b2 (by omega)).below hb2 (by omega))
  have hBb : Below w.heap.size w wb := hBa.trans ((b2.trans (hb2.mono h2)).mono (by omega))
  rw [hwb]
  clear hwb hwa HX b2 hb2
  refine wpIn_rangeFunc_ownG rfl (by omega) (gf := 50) (lb := #[.pointer (some ⟨w2.heap.size + 1, 0, none⟩)]) rfl trivial (enters_of Try.func50 (by kernel_rfl) rfl)
    (allnil_stops (8 - 1) (by omega) (w2.heap.size + 1) wb (by omega) bA.cell (KeepUp wb.heap.size)) KeepUp.t KeepUp.b (Below.refl _ _) (fun _ => rfl)
    (fun pre W => Boxed W w2.heap.size 3 (.int .i64 0) ∧ EntAt W w.heap.size 24 x ∧ Below w.heap.size w W ∧ wb.heap.size ≤ W.heap.size)
    (fun _ _ _ => False) ?hI ?hIx ⟨bN, HXb.out, hBb, Nat.le_refl _⟩ (fun y => { tmps := #[.agg (encE x).toArray, .int .i64 now, .pointer (some ⟨w.heap.size, 0, none⟩), undef, .bool false, .pointer none, .pointer (some ⟨w2.heap.size, 0, none⟩), undef, undef, .bool true, .bool false, .pointer none, .func (.func 50) #[] #[.pointer (some ⟨w2.heap.size + 1, 0, none⟩)], .agg (encE y).toArray, undef, undef, undef, undef, undef, undef, undef, undef, undef, undef, undef, undef, undef, undef, undef, undef, undef, undef, undef, undef, undef, undef, undef, undef, undef, undef, undef, undef, undef, undef, undef, undef, undef, undef, undef, undef, undef, undef, undef, undef, undef, undef, undef, undef, undef, undef, undef, undef, undef, undef, undef, undef, undef, undef, undef, undef, undef, undef, undef, undef, undef, undef, undef, undef, undef, undef, undef, undef, undef, undef, undef, undef, undef, undef, undef, undef, undef, undef, undef, undef, undef, undef, undef], defers := [] }) ?assign ?body ?done ?stop
  case hI =>
    rintro pre A A' row ⟨h1, h3, h4, h5⟩ hg hr
    have k := low_of_grown hg hr h5
    exact ⟨heap_below k (by omega) h1, h3.below k (by omega), h4.trans (k.mono (by omega)), Nat.le_trans h5 k.size⟩
  case hIx => intro c pre A A' row h; exact h.elim
  case assign =>
    intro l y W K hK
    simp only [eEnc]
    unfold encX
    gi_wp2
    exact hK
  case body => intro l pre y W h hl; exact absurd hl (Nat.not_lt_zero _)
  case stop => intro D c pre W _ _ h; exact h.elim
  case done =>
    rintro D ys W hD rfl ⟨h1, h3, h4, h5⟩ hK
    have hcN := h1.cell
    have HX := Lib.hid h3
    have HSI := Lib.hid (idSize22 x.id)
    have HSX := Lib.hid (rxLen x)
    clear h1 h3
    gi_wp2_with (refine wpListIn_load_mid rfl _ _ rfl w.heap.size 0 rfl (encI x.id) _ HX.out.idr Try.underlying22 rfl HSI.out ?_)
    refine ⟨trivial, (callsIn_wide.2 (nilGet_any x.id W)).mono ?_⟩
    rintro e w4 ⟨rfl, b4⟩
    have HX4 := Lib.hid (HX.out.below b4 (by omega))
    have hcN4 : w4.cell? ⟨w2.heap.size, 0, none⟩ = some (.int .i64 0) := (b4.cell (p := ⟨w2.heap.size, 0, none⟩) (by show w2.heap.size < W.heap.size; omega)).trans hcN
    have s4 := b4.size
    clear hcN HX
    unfold encX
    gi_wp2_with (refine wpListIn_store_abs rfl _ _ _ rfl w4.heap.size (encE Ent.zero).toArray rfl rfl 29 _ (heap_alloc_new w4 _) (xSize Ent.zero) (by simp [encE_len]) (ent_one Ent.zero) ?_)
    intro w5 h5' g5
    have b5 := below_of_grown (grown_new g5)
    have s5 := b5.size
    have HX5 := Lib.hid (HX4.out.below b5 (by omega))
    have hcN5 : w5.cell? ⟨w2.heap.size, 0, none⟩ = some (.int .i64 0) := (b5.cell (p := ⟨w2.heap.size, 0, none⟩) (by show w2.heap.size < w4.heap.size; omega)).trans hcN4
    have hK5 : w5.heap[D]? = some (Obj.deferred (some [])) := heap_below b5 (by have := (Array.getElem?_eq_some_iff.1 hK).1; omega) (heap_below b4 (Array.getElem?_eq_some_iff.1 hK).1 hK)
    have B5 : Below w.heap.size w w5 := (h4.trans (b4.mono (by omega))).trans (b5.mono (by omega))
    have HIR := Lib.hid HX5.out.idr
    have HER := Lib.hid HX5.out.range
    clear hcN4 h5' g5 HX4
    iterate 8 (first | go_values | gi_guarded | gi_step | gi_upon | gi_back)
    dsimp only [List.append, List.cons_append, List.nil_append]
    gi_wp2_with (refine wpListIn_load_midG (by rfl) _ _ rfl w.heap.size 0 rfl (encE x) _ HER.out Try.underlying24 rfl HSX.out ?_)
    refine ⟨trivial, (callsIn_wide.2 (to_any x _)).mono ?_⟩
    rintro e w6 ⟨rfl, b6⟩
    have X6 := HX5.out.below b6 (by omega)
    have B6 := B5.trans (b6.mono (by omega))
    have s6 := b6.size
    have K6 := heap_below b6 (Array.getElem?_eq_some_iff.1 hK5).1 hK5
    clear HIR HER HX5 hcN5 B5 hK5 hK
    try unfold encX
    gi_wp2_with fail
    refine ⟨trivial, (callsIn_wide.2 (nilAdd_any x _)).mono ?_⟩
    rintro e w7 ⟨rfl, b7⟩
    have X7 := X6.below b7 (by omega)
    have B7 := B6.trans (b7.mono (by omega))
    have s7 := b7.size
    have K7 := heap_below b7 (Array.getElem?_eq_some_iff.1 K6).1 K6
    clear K6 X6 B6
    have HIR := Lib.hid X7.idr
    have hcD := X7.cell 33 _ (encE_33 x)
    gi_wp2_with (refine wpListIn_load_midG (by rfl) _ _ rfl w.heap.size 0 rfl (encI x.id) _ HIR.out Try.underlying22 rfl HSI.out ?_)
    clear HIR
    refine ⟨trivial, (callsIn_wide.2 (nilJudge_any x.id x.dat.1 now false _)).mono ?_⟩
    rintro e w8 ⟨rfl, b8⟩
    have X8 := X7.below b8 (by omega)
    have B8 := B7.trans (b8.mono (by omega))
    have s8 := b8.size
    have K8 := heap_below b8 (Array.getElem?_eq_some_iff.1 K7).1 K7
    clear K7 X7 B7
    clear hcD
    have HIR := Lib.hid X8.idr
    gi_wp2_with (refine wpListIn_load_midG (by rfl) _ _ rfl w.heap.size 0 rfl (encI x.id) _ HIR.out Try.underlying22 rfl HSI.out ?_)
    clear HIR
    refine ⟨trivial, (callsIn_wide.2 (nilSetGone_any x.id _)).mono ?_⟩
    rintro e w9 ⟨rfl, b9⟩
    have X9 := X8.below b9 (by omega)
    have B9 := B8.trans (b9.mono (by omega))
    have s9 := b9.size
    have K9 := heap_below b9 (Array.getElem?_eq_some_iff.1 K8).1 K8
    clear K8 X8 B8
    gi_wp2_with fail
    refine ⟨trivial, (callsIn_wide.2 (nilForget_any now _)).mono ?_⟩
    rintro e w10 ⟨rfl, b10⟩
    have X10 := X9.below b10 (by omega)
    have B10 := B9.trans (b10.mono (by omega))
    have s10 := b10.size
    have K10 := heap_below b10 (Array.getElem?_eq_some_iff.1 K9).1 K9
    clear K9 X9 B9
    gi_wp2_with fail
    refine ⟨trivial, (callsIn_wide.2 (nilSince_any now _)).mono ?_⟩
    rintro e w11 ⟨rfl, b11⟩
    have X11 := X10.below b11 (by omega)
    have B11 := B10.trans (b11.mono (by omega))
    have s11 := b11.size
    have K11 := heap_below b11 (Array.getElem?_eq_some_iff.1 K10).1 K10
    clear K10 X10 B10
    gi_wp2_with fail
    refine ⟨trivial, (callsIn_wide.2 (nilLen_any _)).mono ?_⟩
    rintro e _ ⟨rfl, rfl⟩
    gi_wp2_with fail
    refine ⟨trivial, (callsIn_wide.2 (nilCount_any 0 _)).mono ?_⟩
    rintro e w12 ⟨rfl, b12⟩
    have X12 := X11.below b12 (by omega)
    have B12 := B11.trans (b12.mono (by omega))
    have s12 := b12.size
    have K12 := heap_below b12 (Array.getElem?_eq_some_iff.1 K11).1 K11
    clear K11 X11 B11
    gi_wp2_with fail
    refine ⟨trivial, (callsIn_wide.2 (nilEncode_any _)).mono ?_⟩
    rintro e _ ⟨rfl, rfl⟩
    gi_wp2_with fail
    refine ⟨trivial, (callsIn_wide.2 (nilCutoff_any _)).mono ?_⟩
    rintro e _ ⟨rfl, rfl⟩
    gi_wp2_with fail
    refine ⟨trivial, (callsIn_wide.2 (nilClone_any _)).mono ?_⟩
    rintro e _ ⟨rfl, rfl⟩
    gi_wp2_with fail
    refine ⟨trivial, (callsIn_wide.2 (nilEqual_any _)).mono ?_⟩
    rintro e _ ⟨rfl, rfl⟩
    gi_wp2
    refine ⟨by simp, .inl ⟨_, _, rfl, run_takeDeferred K12, ?_⟩⟩
    refine ⟨_, results_tmp rfl _ _ _, rfl, B12.trans (belowK_b (w := w) (Nat.le_refl _) _ D _ _ (by omega) K12 rfl rfl)⟩
end Go.Proofs.Ytblidphaolgilaa
