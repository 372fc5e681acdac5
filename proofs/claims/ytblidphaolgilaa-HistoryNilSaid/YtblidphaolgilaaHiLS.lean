/- The walk of the law HistoryStops. -/
import Derived.Test.YtblidphaolgilaaHiA
import Derived.Test.YtblidphaolgilaaHiE
import Derived.Test.YtblidphaolgilaaRound
import Derived.Outline
namespace Go.Proofs.Ytblidphaolgilaa
open Go.RowKit Go.Maps Go.Shelf
attribute [local go_sem] Oper.semAt_some
set_option linter.unusedSimpArgs false

theorem rows_apart {w : World} {hb mb g o : Nat} {rs : List Ent} {cu : Int} {x : Ent} (h : HistAt w hb mb rs cu) (hr : w.rangeAt g o (encE x)) : ¬ Two hb mb g := by
  have hc := hr 35 _ (encE_35 x)
  rintro (rfl | rfl)
  · rw [cell_of_row _ _ _ _ _ _ h.blk] at hc
    simp at hc
  · obtain ⟨ob, ho, hi⟩ := cell_cells hc
    obtain ⟨D, ⟨es, clock, hg, _⟩, _⟩ := h.map
    rw [hg] at ho
    cases ho
    cases hi
/-- what the loop finds in memory, n rounds being over -/
structure SI (B b p hb mb st : Nat) (x : Ent) (rows : List Ent) (ao : Option Addr) (c n : Nat) (W : World) : Prop where
  boxS : Boxed W b 5 (.int .u8 st)
  ent : EntAt W (b + 1) 24 x
  boxP : Boxed W p 35 (.pointer (some ⟨hb, 0, none⟩))
  boxL : Boxed W (p + 1) 36 (.slice ao rows.length c)
  boxN : Boxed W (p + 1 + 1) 3 (.int .i64 (n : Int))
  hist : ∃ rs cu, HistAt W hb mb rs cu ∧ rs.length ≤ 40 + n
  ra : RowsAt encE 36 p ao rows W
  sz : B ≤ W.heap.size
theorem low_of_grown {B : Nat} {W W' : World} {row : Option Nat} (hg : W.grownBy W' row) (hr : ∀ r, row = some r → B ≤ r ∧ ∃ o : Obj, W.heap[r]? = some o ∧ o.isCells = false) (hB : B ≤ W.heap.size) : Below B W W' :=
  ⟨hg.os, hg.tape, hg.output, hg.size, fun k hk => hg.block k (Nat.lt_of_lt_of_le hk hB) (fun e => by have := (hr k e.symm).1; omega)⟩
/-- a step that leaves all but the history and the counter -/
theorem SI.step {B b p hb mb st : Nat} {x : Ent} {rows : List Ent} {ao : Option Addr} {c n m : Nat} {ms : Nat → Prop} {W W' : World} (h : SI B b p hb mb st x rows ao c n W) (k : But ms W W') (h1 : b + 1 < p) (h2 : p + 1 + 1 < B) (hm : ∀ i, i < p → ms i → b + 1 < i ∧ (i = hb ∨ i = mb))
    (hm2 : ¬ ms p ∧ ¬ ms (p + 1)) (hra : ∀ i, i < p → ms i → ∀ g o, ao = some ⟨g, o, none⟩ → rows ≠ [] → i ≠ g) (bN : Boxed W' (p + 1 + 1) 3 (.int .i64 (m : Int))) (hh : ∃ rs cu, HistAt W' hb mb rs cu ∧ rs.length ≤ 40 + m) : SI B b p hb mb st x rows ao c m W' :=
  ⟨k.heap h.boxS (fun e => by have := (hm b (by omega) e).1; omega), k.heap h.ent (fun e => by have := (hm (b + 1) (by omega) e).1; omega), k.heap h.boxP hm2.1, k.heap h.boxL hm2.2, bN, hh, fun i hi => by
    obtain ⟨g, o, e, hg, hr⟩ := h.ra.at hi
    exact ⟨g, o, e, hg, k.range (by have := h.sz; omega) (fun q => hra g hg q g o e (by rintro rfl; simp at hi) rfl) hr⟩, Nat.le_trans h.sz k.size⟩
theorem SI.apart {B b p hb mb st : Nat} {x : Ent} {rows : List Ent} {ao : Option Addr} {c n : Nat} {W : World} (h : SI B b p hb mb st x rows ao c n W) {g o : Nat} (he : ao = some ⟨g, o, none⟩) (hn : rows ≠ []) : ¬ Two hb mb g := by
  obtain ⟨rs, cu, hh, _⟩ := h.hist
  obtain ⟨g', o', e, _, hr⟩ := h.ra.at (i := 0) (List.length_pos_iff.2 hn)
  rw [he] at e
  cases e
  exact rows_apart hh hr
theorem SI.below {B b p hb mb st : Nat} {x : Ent} {rows : List Ent} {ao : Option Addr} {c n B' : Nat} {W W' : World} (h : SI B b p hb mb st x rows ao c n W) (k : Below B' W W') (h1 : b + 1 < B') (h2 : p + 1 + 1 < B') (h3 : hb < B') (h4 : mb < B') : SI B b p hb mb st x rows ao c n W' := by
  obtain ⟨rs, cu, hh, hl⟩ := h.hist
  exact ⟨heap_below k (by omega) h.boxS, h.ent.below k h1, heap_below k (by omega) h.boxP, heap_below k (by omega) h.boxL, heap_below k (by omega) h.boxN, ⟨rs, cu, hh.below k h3 h4, hl⟩, h.ra.below k (by omega), Nat.le_trans h.sz k.size⟩

set_option maxRecDepth 100000 in
set_option maxHeartbeats 4000000 in
theorem stops_walk (v : Value) (ops : List OpE) (st : Nat) (hst : st < 256) (x : Ent) (w : World) (hv : RowsArg encO 37 v ops w) :
    Calls Try.prog 6 #[v, .int .u8 st, encX x] w fun e w' => e = .returned (.bool true) ∧ Below w.heap.size w w' := by
  obtain ⟨wa, hwa⟩ : ∃ wa, w.alloc (.cells #[.int .u8 st] 5) = wa := ⟨_, rfl⟩
  obtain ⟨wb, hwb⟩ : ∃ wb, wa.alloc (.cells (encE x).toArray 24) = wb := ⟨_, rfl⟩
  obtain ⟨wc, hwc⟩ : ∃ wc, wb.alloc (.cells #[.bool false] 4) = wc := ⟨_, rfl⟩
  have hsa : wa.heap.size = w.heap.size + 1 := by rw [← hwa]; simp
  have hsb : wb.heap.size = w.heap.size + 1 + 1 := by rw [← hwb]; simp [hsa]
  have hsc : wc.heap.size = w.heap.size + 1 + 1 + 1 := by rw [← hwc]; simp [hsb]
  refine (callsIn_wide (n := 8)).1 ?_
  refine callsIn_of_wp_marks Try.func6 rfl trivial ?_ rfl
  unfold encX
  simp only [Try.ntmps6, List.size_toArray, List.length_cons, List.length_nil, Nat.reduceAdd, Nat.reduceSub, Array.replicate_succ, Array.replicate_zero, List.push_toArray, List.append_toArray, List.nil_append, List.cons_append]
  gi_wp2_with fail
  have bS : Boxed wc w.heap.size 5 (.int .u8 st) := by
    rw [← hwc, ← hwb, ← hwa]
    exact ((Boxed.new w _ _).alloc _).alloc _
  have hX : EntAt wc (w.heap.size + 1) 24 x := by
    rw [← hwc, ← hwb, ← hsa]
    exact heap_alloc_old' (EntAt.new wa x 24)
  have bR : Boxed wc (w.heap.size + 1 + 1) 4 (.bool false) := by
    rw [← hwc, ← hsb]
    exact Boxed.new wb _ _
  have hBc : Below w.heap.size w wc := by
    rw [← hwc, ← hwb, ← hwa]
    exact (((Below.refl _ w).alloc (Nat.le_refl _) _).alloc (by simp) _).alloc (by simp; omega) _
  have HX := Lib.hid hX
  have HV := Lib.hid (hv.below hBc)
  clear hX hv
  refine ⟨trivial, (callsIn_wide.2 (known_any _)).mono ?_⟩
  rintro e w2 ⟨rfl, b2⟩
  have h2 := b2.size
  have HV2 := Lib.hid (HV.out.below b2)
  clear hwa hwb hwc
  gi_wp2_with fail
  refine ⟨trivial, (callsIn_wide.2 (play_any ops v w2 HV2.out)).mono ?_⟩
  rintro e w3 ⟨hb, mb, vr, rows, cut, rfl, hH, hR, hlen, hhb, hmb, b3⟩
  have h3 := b3.size
  have b13 : Below wc.heap.size wc w3 := b2.trans (b3.mono h2)
  obtain ⟨ao, c, rfl, _, _, _, hRA⟩ := hR
  have HRA := Lib.hid hRA
  have HH := Lib.hid hH
  have HX3 : Hid (EntAt w3 (w.heap.size + 1) 24 x) := Lib.hid (HX.out.below b13 (by omega))
  have bR3 : Boxed w3 (w.heap.size + 1 + 1) 4 (.bool false) := heap_below b13 (by omega) bR
  have bS3 : Boxed w3 w.heap.size 5 (.int .u8 st) := heap_below b13 (by omega) bS
  have hB3 : Below w.heap.size w w3 := hBc.trans (b13.mono (by omega))
  clear hH hRA HV HV2 b2 b3 HX bR bS hBc b13
  obtain ⟨wd, hwd⟩ : ∃ wd, w3.alloc (.cells #[.pointer (some ⟨hb, 0, none⟩)] 35) = wd := ⟨_, rfl⟩
  obtain ⟨we, hwe⟩ : ∃ we, wd.alloc (.cells #[.slice ao rows.length c] 36) = we := ⟨_, rfl⟩
  obtain ⟨wf, hwf⟩ : ∃ wf, we.alloc (.cells #[.int .i64 0] 3) = wf := ⟨_, rfl⟩
  have hsd : wd.heap.size = w3.heap.size + 1 := by rw [← hwd]; simp
  have hse : we.heap.size = w3.heap.size + 1 + 1 := by rw [← hwe]; simp [hsd]
  have hsf : wf.heap.size = w3.heap.size + 1 + 1 + 1 := by rw [← hwf]; simp [hse]
  have hb36 : Below w3.heap.size w3 wf := by
    rw [← hwf, ← hwe, ← hwd]
    exact (((Below.refl _ w3).alloc (Nat.le_refl _) _).alloc (by simp) _).alloc (by simp; omega) _
  have hB6 := hB3.trans (hb36.mono (by omega))
  have bP6 : Boxed wf w3.heap.size 35 (.pointer (some ⟨hb, 0, none⟩)) := by
    rw [← hwf, ← hwe, ← hwd]
    exact ((Boxed.new w3 _ _).alloc _).alloc _
  have bL6 : Boxed wf (w3.heap.size + 1) 36 (.slice ao rows.length c) := by
    rw [← hwf, ← hwe, ← hsd]
    exact (Boxed.new wd _ _).alloc _
  have bN6 : Boxed wf (w3.heap.size + 1 + 1) 3 (.int .i64 0) := by
    rw [← hwf, ← hse]
    exact Boxed.new we _ _
  have bR6 : Boxed wf (w.heap.size + 1 + 1) 4 (.bool false) := heap_below hb36 (by omega) bR3
  have bS6 : Boxed wf w.heap.size 5 (.int .u8 st) := heap_below hb36 (by omega) bS3
  have hX6 : EntAt wf (w.heap.size + 1) 24 x := HX3.out.below hb36 (by omega)
  have hRA6 : RowsAt encE 36 w3.heap.size ao rows wf := HRA.out.below hb36 (Nat.le_refl _)
  have cSt6 := bS6.cell
  have cL6 := bL6.cell
  have cP6 := bP6.cell
  have HX6 := Lib.hid hX6
  have HRA6 := Lib.hid hRA6
  clear bR3 bS3 hB3 hX6 hRA6
  have HSF := Lib.hid hsf
  clear hsd hse hsf
  subst hwf hwe hwd
  gi_wp2_with fail
  obtain ⟨wf, hwf⟩ : ∃ wf, ((w3.alloc (.cells #[.pointer (some ⟨hb, 0, none⟩)] 35)).alloc (.cells #[.slice ao rows.length c] 36)).alloc (.cells #[.int .i64 0] 3) = wf := ⟨_, rfl⟩
  rw [hwf] at HSF bP6 bL6 bN6 bR6 cSt6 hB6 hb36 bS6 HX6 HRA6
  have hsf := HSF.out
  have hHf := HH.out.kept hb36
  refine ⟨trivial, ?_⟩
  rw [hwf]
  refine (callsIn_wide.2 (all_any (some ⟨hb, 0, none⟩) wf)).mono ?_
  rintro e w7 ⟨rfl, rfl⟩
  clear hwf cL6 cP6
  gi_wp2_with fail
  obtain ⟨wg, hwg⟩ : ∃ wg, wf.alloc (.cells #[.pointer (some ⟨hb, 0, none⟩)] 35) = wg := ⟨_, rfl⟩
  have hsg : wg.heap.size = w3.heap.size + 1 + 1 + 1 + 1 := by rw [← hwg]; simp [hsf]
  have hbfg : Below wf.heap.size wf wg := by rw [← hwg]; exact (Below.refl _ wf).alloc (Nat.le_refl _) _
  have bA : Boxed wg wf.heap.size 35 (.pointer (some ⟨hb, 0, none⟩)) := by rw [← hwg]; exact Boxed.new wf _ _
  rw [hsf] at bA
  have hI0 : SI wg.heap.size w.heap.size w3.heap.size hb mb st x rows ao c 0 wg := by
    refine ⟨heap_below hbfg (by omega) bS6, HX6.out.below hbfg (by omega), heap_below hbfg (by omega) bP6, heap_below hbfg (by omega) bL6, heap_below hbfg (by omega) bN6, ⟨rows, cut, hHf.kept hbfg, by omega⟩, HRA6.out.below hbfg (by omega), Nat.le_refl _⟩
  have hb0 : hb < w3.heap.size := HH.out.lt
  have hm0 : mb < w3.heap.size := HH.out.map.lt
  have hHg := hHf.kept hbfg
  rw [hwg]
  refine wpIn_rangeFunc_ownH rfl (by omega) (gf := 50) (lb := #[.pointer (some ⟨w3.heap.size + 1 + 1 + 1, 0, none⟩)]) rfl trivial (enters_of Try.func50 (by kernel_rfl) rfl)
    (all_stops (8 - 1) (by omega) (w3.heap.size + 1 + 1 + 1) wg.heap.size hb mb rows cut (by omega) wg (Nat.le_refl _) (by omega) bA.cell hHg) KeepUp.t KeepUp.b (Below.refl _ _) (fun _ => rfl)
    (fun pre W => (pre <+: rows ∧ pre.length ≤ st % 20) ∧ SI wg.heap.size w.heap.size w3.heap.size hb mb st x rows ao c pre.length W ∧ Boxed W (w.heap.size + 1 + 1) 4 (.bool false) ∧ Below w.heap.size w W)
    (fun cd pre W => ((cd = .ret ∧ ¬ pre <+: rows) ∨ (cd = .exit 0 ∧ pre.length = 1 + st % 20 ∧ Boxed W (w3.heap.size + 1 + 1) 3 (.int .i64 (pre.length : Int)))) ∧ Boxed W (w.heap.size + 1 + 1) 4 (.bool false) ∧ Below w.heap.size w W ∧ wg.heap.size ≤ W.heap.size)
    ?hI ?hIx ?h0
    (fun y a' W => ∃ Bx, wg.heap.size ≤ Bx ∧ EntAt W Bx 29 y ∧ a' = { tmps := #[v, .int .u8 st, .agg (encE x).toArray, undef, .pointer (some ⟨w.heap.size, 0, none⟩), .pointer (some ⟨w.heap.size + 1, 0, none⟩), .pointer (some ⟨w.heap.size + 1 + 1, 0, none⟩), .pointer (some ⟨w3.heap.size, 0, none⟩), .pointer (some ⟨w3.heap.size + 1, 0, none⟩), .int .i64 cut, .bool true, .pointer (some ⟨w3.heap.size + 1 + 1, 0, none⟩), .int .i64 (min (1 + (st : Int) % 20) rows.length), .pointer (some ⟨Bx, 0, none⟩), .bool true, .bool false, .tuple #[.pointer (some ⟨hb, 0, none⟩), .slice ao rows.length c, .int .i64 cut, .bool true], v, .tuple #[.pointer (some ⟨hb, 0, none⟩), .slice ao rows.length c, .int .i64 cut, .bool true], .pointer (some ⟨hb, 0, none⟩), .slice ao rows.length c, .int .i64 cut, .bool true, .bool true, .bool false, .int .u8 st, .int .i64 st, .int .i64 ((st : Int) % 20), .int .i64 (1 + (st : Int) % 20), .slice ao rows.length c, .int .i64 rows.length, .int .i64 (min (1 + (st : Int) % 20) rows.length), .pointer (some ⟨hb, 0, none⟩), .func (.func 50) #[] #[.pointer (some ⟨w3.heap.size + 1 + 1 + 1, 0, none⟩)], .agg (encE y).toArray, undef, undef, undef, undef, undef, undef, undef, undef, undef, undef, undef, undef, undef, undef, undef, undef, undef, undef, undef, undef, undef, undef, undef, undef, undef, undef, undef, undef, undef, undef, undef, undef], defers := [] }) ?hAx ?assign ?body ?done ?stop
  case hI =>
    rintro pre A A' row ⟨h1, h2, h3, h4⟩ hg hr
    have k := low_of_grown hg hr h2.sz
    exact ⟨h1, h2.below k (by omega) (by omega) (by omega) (by omega), heap_below k (by omega) h3, h4.trans (k.mono (by omega))⟩
  case hIx =>
    rintro cd pre A A' row ⟨h1, h3, h4, h5⟩ hg hr
    have k := low_of_grown hg hr h5
    refine ⟨?_, heap_below k (by omega) h3, h4.trans (k.mono (by omega)), Nat.le_trans h5 k.size⟩
    rcases h1 with h1 | ⟨h1, h2, h6⟩
    · exact .inl h1
    · exact .inr ⟨h1, h2, heap_below k (by omega) h6⟩
  case h0 => exact ⟨⟨List.nil_prefix, Nat.zero_le _⟩, hI0, heap_below hbfg (by omega) bR6, hB6.trans (hbfg.mono (by omega))⟩
  case hAx =>
    rintro y a' _ A A' row ⟨Bx, h1, h2, h3⟩ hg hr
    refine ⟨Bx, h1, (hg.block Bx (Array.getElem?_eq_some_iff.1 h2).1 (fun e => ?_)).trans h2, h3⟩
    obtain ⟨_, o, ho, hc⟩ := hr Bx e.symm
    have h2' : A.heap[Bx]? = some _ := h2
    rw [h2'] at ho
    cases ho
    cases hc
  case assign =>
    rintro l pre y W K ⟨hi1, hi2, hi3, hi4⟩ hK
    have HSY := Lib.hid (xSize y)
    have HO1 := Lib.hid (ent_one y)
    have hsz := hi2.sz
    simp only [eEnc]
    unfold encX
    gi_wp2_with (refine wpListIn_store_abs rfl _ _ _ rfl W.heap.size (encE y).toArray rfl rfl 29 _ (heap_alloc_new W _) HSY.out (by simp [encE_len]) HO1.out ?_)
    intro W2 h2 g2
    have gg := grown_new g2
    have k := below_of_grown gg
    refine hK _ _ (KeepsFrom.of_but (ms := fun _ => False) (But.of_below k) (fun _ h => h.elim)) (KeepUp.of_but (ms := fun _ => False) (But.of_below k) (fun _ h => h.elim))
      ⟨hi1, hi2.below k (by omega) (by omega) (by omega) (by omega), heap_below k (by omega) hi3, hi4.trans (k.mono (by omega))⟩ ⟨W.heap.size, hsz, h2, rfl⟩
  case body =>
    rintro l pre y a' W hl ⟨r, hr⟩ ⟨⟨hp, hps⟩, hSI, hR, hB⟩ ⟨Bx, hBx, hE, rfl⟩ hlt
    have hlti : (pre.length : Int) < (rows.length : Int) := by omega
    have hge : ¬ rows.length ≤ pre.length := by omega
    have hgeB : decide (rows.length ≤ pre.length) = false := by simp; omega
    have hn0 : (0 : Int) ≤ (pre.length : Int) := by omega
    have hszW := hSI.sz
    obtain ⟨g, o, rfl, hg, hrg⟩ := hSI.ra.at hlt
    have hxlt : Bx < W.heap.size := (Array.getElem?_eq_some_iff.1 hE).1
    have HCN : Hid (∀ w', Below W.heap.size W w' → w'.cell? ⟨w3.heap.size + 1 + 1, 0, none⟩ = some (.int .i64 (pre.length : Int))) := Lib.hid (fun w' k => Boxed.cell (heap_below k (by omega) hSI.boxN))
    have HCL : Hid (∀ w', Below W.heap.size W w' → w'.cell? ⟨w3.heap.size + 1, 0, none⟩ = some (.slice (some ⟨g, o, none⟩) rows.length c)) := Lib.hid (fun w' k => Boxed.cell (heap_below k (by omega) hSI.boxL))
    have HRE : Hid (∀ w', Below W.heap.size W w' → w'.rangeAt Bx 0 (encE y)) := Lib.hid (fun w' k => EntAt.range (hE.below k hxlt))
    have HRR : Hid (∀ w', Below W.heap.size W w' → w'.rangeAt g (o + pre.length * 36) (encE rows[pre.length])) := Lib.hid (fun w' k => rangeAt_below hrg k (by omega))
    have HSE := Lib.hid (xLen y)
    have HSX := Lib.hid (rxLen rows[pre.length])
    have HPF : Hid (∀ z, z = rows[pre.length] → (pre ++ [z]) <+: rows) := Lib.hid (fun z hz => by
      obtain ⟨q, hq⟩ := hp
      cases q with
      | nil => rw [List.append_nil] at hq; rw [hq] at hlt; omega
      | cons u q =>
        refine ⟨q, ?_⟩
        rw [hz]
        have : rows[pre.length] = u := by simp [← hq]
        rw [this, List.append_assoc]
        exact hq)
    have HPN : Hid (∀ z, z ≠ rows[pre.length] → ¬ (pre ++ [z]) <+: rows) := Lib.hid (fun z hz ⟨q, hq⟩ => hz (by simp [← hq]))
    have HSI := Lib.hid hSI
    have HE := Lib.hid hE
    have HR := Lib.hid hR
    clear hp hrg hSI hE hR
    generalize rows[pre.length] = z at *
    have HEQ : Hid (∀ w', Below W.heap.size W w' → (Op.equalIn 10000 24 (.agg (encE y).toArray) (.agg (encE z).toArray)).run Try.prog w' = .ok (decide (y = z)) w') := Lib.hid (fun w' _ => eqX y z w')
    cases hyz : decide (y = z) with
    | false =>
      rw [hyz] at HEQ
      have hne : y ≠ z := by simpa using hyz
      gi_wp2_with fail
      refine region_inRound (S := fun w' => Below W.heap.size W w') (by kernel_rfl) (by kernel_rfl) ((Below.refl _ _).drew) (fun hHeld => ?_)
      refine takeL 0 (v := ?_) rfl (by kernel_rfl) (by kernel_rfl) (by kernel_rfl) (fun _ _ _ h => h) (by rfl) hHeld ?_ ?_
      rotate_left 1
      · intro w2 hSw; have q0 := HCN.out w2 hSw; have q1 := HCL.out w2 hSw; go_simp <;> with_reducible rfl
      try simp only [Act.put, List.setIfInBounds_toArray, List.set_cons_zero, List.set_cons_succ]
      refine takeL 1 (v := ?_) rfl (by kernel_rfl) (by kernel_rfl) (by kernel_rfl) (fun _ _ _ h => h) (by rfl) hHeld ?_ ?_
      rotate_left 1
      · intro w2 hSw; have q0 := HCN.out w2 hSw; have q1 := HCL.out w2 hSw; go_simp <;> with_reducible rfl
      try simp only [Act.put, List.setIfInBounds_toArray, List.set_cons_zero, List.set_cons_succ]
      refine takeL 2 (v := ?_) rfl (by kernel_rfl) (by kernel_rfl) (by kernel_rfl) (fun _ _ _ h => h) (by rfl) hHeld ?_ ?_
      rotate_left 1
      · intro w2 hSw; have q0 := HCN.out w2 hSw; have q1 := HCL.out w2 hSw; go_simp <;> with_reducible rfl
      try simp only [Act.put, List.setIfInBounds_toArray, List.set_cons_zero, List.set_cons_succ]
      refine takeL 3 (v := ?_) rfl (by kernel_rfl) (by kernel_rfl) (by kernel_rfl) (fun _ _ _ h => h) (by rfl) hHeld ?_ ?_
      rotate_left 1
      · intro w2 hSw; have q0 := HCN.out w2 hSw; have q1 := HCL.out w2 hSw; go_simp <;> with_reducible rfl
      try simp only [Act.put, List.setIfInBounds_toArray, List.set_cons_zero, List.set_cons_succ]
      refine takeL 4 (v := ?_) rfl (by kernel_rfl) (by kernel_rfl) (by kernel_rfl) (fun _ _ _ h => h) (by rfl) hHeld ?_ ?_
      rotate_left 1
      · intro w2 hSw; have q0 := HCN.out w2 hSw; have q1 := HCL.out w2 hSw; go_simp <;> with_reducible rfl
      try simp only [Act.put, List.setIfInBounds_toArray, List.set_cons_zero, List.set_cons_succ]
      refine takeL 7 (v := ?_) rfl (by kernel_rfl) (by kernel_rfl) (by kernel_rfl) (fun _ _ _ h => h) (by rfl) hHeld ?_ ?_
      rotate_left 1
      · intro w2 hSw; have q0 := HCN.out w2 hSw; have q1 := HCL.out w2 hSw; go_simp <;> with_reducible rfl
      try simp only [Act.put, List.setIfInBounds_toArray, List.set_cons_zero, List.set_cons_succ]
      refine takeL 8 (v := ?_) rfl (by kernel_rfl) (by kernel_rfl) (by kernel_rfl) (fun _ _ _ h => h) (by rfl) hHeld ?_ ?_
      rotate_left 1
      · intro w2 hSw; have q0 := HCN.out w2 hSw; have q1 := HCL.out w2 hSw; go_simp <;> with_reducible rfl
      try simp only [Act.put, List.setIfInBounds_toArray, List.set_cons_zero, List.set_cons_succ]
      refine takeL 9 (v := ?_) rfl (by kernel_rfl) (by kernel_rfl) (by kernel_rfl) (fun _ _ _ h => h) (by rfl) hHeld ?_ ?_
      rotate_left 1
      · intro w2 hSw; have q0 := HCN.out w2 hSw; have q1 := HCL.out w2 hSw; go_simp <;> with_reducible rfl
      try simp only [Act.put, List.setIfInBounds_toArray, List.set_cons_zero, List.set_cons_succ]
      refine takeRow 5 rfl (by kernel_rfl) (by kernel_rfl) (by kernel_rfl) 29 (.tmp 13) rfl (Bx) (0) rfl (encE y) _ (fun _ _ _ h => h) (by rfl) hHeld HRE.out Try.underlying29 rfl HSE.out ?_
      try simp only [Act.put, List.setIfInBounds_toArray, List.set_cons_zero, List.set_cons_succ]
      refine takeRow 10 rfl (by kernel_rfl) (by kernel_rfl) (by kernel_rfl) 24 (.tmp 44) rfl (g) (o + pre.length * 36) rfl (encE z) _ (fun _ _ _ h => h) (by rfl) hHeld HRR.out Try.underlying24 rfl HSX.out ?_
      try simp only [Act.put, List.setIfInBounds_toArray, List.set_cons_zero, List.set_cons_succ]
      refine heavyL 6 rfl (by kernel_rfl) (fun K hK => ?_)
      go_simp
      refine (of_any y _).mono ?_
      rintro e w4 ⟨rfl, b4⟩
      try unfold encX
      try go_simp
      refine hK.out _ _ (hHeld.trans (b4.mono hHeld.size)) (fun hHeld => ?_)
      clear hK K
      try simp only [Act.put, List.setIfInBounds_toArray, List.set_cons_zero, List.set_cons_succ]
      refine takeL 11 (v := .bool true) rfl (by kernel_rfl) (by kernel_rfl) (by kernel_rfl) (fun _ _ _ h => h) (by rfl) hHeld ?_ ?_
      · intro w2 hSw; exact exec_neq 24 _ (.tmp 41) (.tmp 45) rfl _ _ rfl rfl (by kernel_rfl) false (HEQ.out w2 hSw)
      try simp only [Act.put, List.setIfInBounds_toArray, List.set_cons_zero, List.set_cons_succ]
      refine takeL 12 (v := ?_) rfl (by kernel_rfl) (by kernel_rfl) (by kernel_rfl) (fun _ _ _ h => h) (by rfl) hHeld ?_ ?_
      rotate_left 1
      · intro w2 hSw; go_simp <;> with_reducible rfl
      try simp only [Act.put, List.setIfInBounds_toArray, List.set_cons_zero, List.set_cons_succ]
      refine wpAnyH_done (by kernel_rfl) ?_ _
      refine NoPanic.normal (OnlyN.normal ?_)
      have HN := Lib.hid (HPN.out y hne)
      have kR : Boxed w4 (w.heap.size + 1 + 1) 4 (.bool false) := heap_below hHeld (by omega) HR.out
      have hcR := kR.cell; have hfR := kR.frozen
      have hB4 := hB.trans (hHeld.mono (by omega))
      have kf : KeepsFrom wg.heap.size W w4 := KeepsFrom.of_but (ms := fun _ => False) (But.of_below hHeld) (fun _ h => h.elim)
      gi_wp2
      exact ⟨kf.trans ((KeepsOthers.setCell _ _ _).from _), .inl ⟨rfl, HN.out⟩, kR.set _, hB4.setCell (p := ⟨w.heap.size + 1 + 1, 0, none⟩) (by show w.heap.size ≤ w.heap.size + 1 + 1; omega) _, by have := hHeld.size; simp; omega⟩
    | true =>
      rw [hyz] at HEQ
      have heq : y = z := by simpa using hyz
      have HP := Lib.hid (HPF.out y heq)
      clear HPF HPN hyz heq
      gi_wp2_with fail
      refine region_inRound (S := fun w' => Below W.heap.size W w') (by kernel_rfl) (by kernel_rfl) ((Below.refl _ _).drew) (fun hHeld => ?_)
      refine takeL 0 (v := ?_) rfl (by kernel_rfl) (by kernel_rfl) (by kernel_rfl) (fun _ _ _ h => h) (by rfl) hHeld ?_ ?_
      rotate_left 1
      · intro w2 hSw; have q0 := HCN.out w2 hSw; have q1 := HCL.out w2 hSw; go_simp <;> with_reducible rfl
      try simp only [Act.put, List.setIfInBounds_toArray, List.set_cons_zero, List.set_cons_succ]
      refine takeL 1 (v := ?_) rfl (by kernel_rfl) (by kernel_rfl) (by kernel_rfl) (fun _ _ _ h => h) (by rfl) hHeld ?_ ?_
      rotate_left 1
      · intro w2 hSw; have q0 := HCN.out w2 hSw; have q1 := HCL.out w2 hSw; go_simp <;> with_reducible rfl
      try simp only [Act.put, List.setIfInBounds_toArray, List.set_cons_zero, List.set_cons_succ]
      refine takeL 2 (v := ?_) rfl (by kernel_rfl) (by kernel_rfl) (by kernel_rfl) (fun _ _ _ h => h) (by rfl) hHeld ?_ ?_
      rotate_left 1
      · intro w2 hSw; have q0 := HCN.out w2 hSw; have q1 := HCL.out w2 hSw; go_simp <;> with_reducible rfl
      try simp only [Act.put, List.setIfInBounds_toArray, List.set_cons_zero, List.set_cons_succ]
      refine takeL 3 (v := ?_) rfl (by kernel_rfl) (by kernel_rfl) (by kernel_rfl) (fun _ _ _ h => h) (by rfl) hHeld ?_ ?_
      rotate_left 1
      · intro w2 hSw; have q0 := HCN.out w2 hSw; have q1 := HCL.out w2 hSw; go_simp <;> with_reducible rfl
      try simp only [Act.put, List.setIfInBounds_toArray, List.set_cons_zero, List.set_cons_succ]
      refine takeL 4 (v := ?_) rfl (by kernel_rfl) (by kernel_rfl) (by kernel_rfl) (fun _ _ _ h => h) (by rfl) hHeld ?_ ?_
      rotate_left 1
      · intro w2 hSw; have q0 := HCN.out w2 hSw; have q1 := HCL.out w2 hSw; go_simp <;> with_reducible rfl
      try simp only [Act.put, List.setIfInBounds_toArray, List.set_cons_zero, List.set_cons_succ]
      refine takeL 7 (v := ?_) rfl (by kernel_rfl) (by kernel_rfl) (by kernel_rfl) (fun _ _ _ h => h) (by rfl) hHeld ?_ ?_
      rotate_left 1
      · intro w2 hSw; have q0 := HCN.out w2 hSw; have q1 := HCL.out w2 hSw; go_simp <;> with_reducible rfl
      try simp only [Act.put, List.setIfInBounds_toArray, List.set_cons_zero, List.set_cons_succ]
      refine takeL 8 (v := ?_) rfl (by kernel_rfl) (by kernel_rfl) (by kernel_rfl) (fun _ _ _ h => h) (by rfl) hHeld ?_ ?_
      rotate_left 1
      · intro w2 hSw; have q0 := HCN.out w2 hSw; have q1 := HCL.out w2 hSw; go_simp <;> with_reducible rfl
      try simp only [Act.put, List.setIfInBounds_toArray, List.set_cons_zero, List.set_cons_succ]
      refine takeL 9 (v := ?_) rfl (by kernel_rfl) (by kernel_rfl) (by kernel_rfl) (fun _ _ _ h => h) (by rfl) hHeld ?_ ?_
      rotate_left 1
      · intro w2 hSw; have q0 := HCN.out w2 hSw; have q1 := HCL.out w2 hSw; go_simp <;> with_reducible rfl
      try simp only [Act.put, List.setIfInBounds_toArray, List.set_cons_zero, List.set_cons_succ]
      refine takeRow 5 rfl (by kernel_rfl) (by kernel_rfl) (by kernel_rfl) 29 (.tmp 13) rfl (Bx) (0) rfl (encE y) _ (fun _ _ _ h => h) (by rfl) hHeld HRE.out Try.underlying29 rfl HSE.out ?_
      try simp only [Act.put, List.setIfInBounds_toArray, List.set_cons_zero, List.set_cons_succ]
      refine takeRow 10 rfl (by kernel_rfl) (by kernel_rfl) (by kernel_rfl) 24 (.tmp 44) rfl (g) (o + pre.length * 36) rfl (encE z) _ (fun _ _ _ h => h) (by rfl) hHeld HRR.out Try.underlying24 rfl HSX.out ?_
      try simp only [Act.put, List.setIfInBounds_toArray, List.set_cons_zero, List.set_cons_succ]
      refine heavyL 6 rfl (by kernel_rfl) (fun K hK => ?_)
      go_simp
      refine (of_any y _).mono ?_
      rintro e w4 ⟨rfl, b4⟩
      try unfold encX
      try go_simp
      refine hK.out _ _ (hHeld.trans (b4.mono hHeld.size)) (fun hHeld => ?_)
      clear hK K
      try simp only [Act.put, List.setIfInBounds_toArray, List.set_cons_zero, List.set_cons_succ]
      refine takeL 11 (v := .bool false) rfl (by kernel_rfl) (by kernel_rfl) (by kernel_rfl) (fun _ _ _ h => h) (by rfl) hHeld ?_ ?_
      · intro w2 hSw; exact exec_neq 24 _ (.tmp 41) (.tmp 45) rfl _ _ rfl rfl (by kernel_rfl) true (HEQ.out w2 hSw)
      try simp only [Act.put, List.setIfInBounds_toArray, List.set_cons_zero, List.set_cons_succ]
      refine takeL 12 (v := ?_) rfl (by kernel_rfl) (by kernel_rfl) (by kernel_rfl) (fun _ _ _ h => h) (by rfl) hHeld ?_ ?_
      rotate_left 1
      · intro w2 hSw; go_simp <;> with_reducible rfl
      try simp only [Act.put, List.setIfInBounds_toArray, List.set_cons_zero, List.set_cons_succ]
      refine wpAnyH_done (by kernel_rfl) ?_ _
      refine NoPanic.normal (OnlyN.normal ?_)
      clear HCN HCL HRE HRR HEQ
      have S4 := HSI.out.below hHeld (by omega) (by omega) (by omega) (by omega)
      have kR : Boxed w4 (w.heap.size + 1 + 1) 4 (.bool false) := heap_below hHeld (by omega) HR.out
      have kE : Hid (EntAt w4 Bx 29 y) := Lib.hid (HE.out.below hHeld hxlt)
      have hcN := S4.boxN.cell; have hfN := S4.boxN.frozen
      obtain ⟨T, hT⟩ : ∃ T : Nat → Prop, T = fun k => k = w3.heap.size + 1 + 1 ∨ Two hb mb k := ⟨_, rfl⟩
      have hTlt : ∀ k, T k → k < wg.heap.size := fun k h => by rw [hT] at h; rcases h with h | h | h <;> omega
      have hTge : ∀ k, T k → w.heap.size + 1 + 1 < k := fun k h => by rw [hT] at h; rcases h with h | h | h <;> omega
      have bT4 : But T W w4 := But.of_below hHeld
      obtain ⟨rs, cu, hh4, hl4⟩ := S4.hist
      have hs4 := hHeld.size
      obtain ⟨wn, hwn⟩ : ∃ wn, w4.setCell ⟨w3.heap.size + 1 + 1, 0, none⟩ (.int .i64 ((pre.length : Int) + 1)) = wn := ⟨_, rfl⟩
      have bN5 : But (fun k => k = w3.heap.size + 1 + 1) w4 wn := by rw [← hwn]; exact But.grown (grownBy_setCell' _ _ _) (fun k e => by cases e; rfl)
      have kN5 : Boxed wn (w3.heap.size + 1 + 1) 3 (.int .i64 ((pre.length + 1 : Nat) : Int)) := by rw [← hwn]; exact S4.boxN.set _
      have hh5 : HistAt wn hb mb rs cu := hh4.but bN5 (by omega) (by omega)
      have S5 : SI wg.heap.size w.heap.size w3.heap.size hb mb st x rows (some ⟨g, o, none⟩) c (pre.length + 1) wn :=
        S4.step bN5 (by omega) (by omega) (fun i hi e => by omega) ⟨by omega, by omega⟩ (fun i hi e => by omega) kN5 ⟨rs, cu, hh5, by omega⟩
      have bT5 : But T W wn := bT4.trans (bN5.mono (fun k _ e => by rw [hT]; exact .inl e))
      have hrne : rows ≠ [] := by rintro rfl; simp at hlt
      have hR := HR.out
      clear b4 HSI HR hh4 bN5 bT4
      gi_wp2_with fail
      clear hwn S4 hcN hfN
      have HH5 := Lib.hid hh5
      have HS5 := Lib.hid S5
      have HCP : Hid (∀ w', But (Two hb mb) wn w' → w'.cell? ⟨w3.heap.size, 0, none⟩ = some (.pointer (some ⟨hb, 0, none⟩))) := Lib.hid (fun w' k => Boxed.cell (k.heap S5.boxP (by rintro (e | e) <;> omega)))
      have HRX : Hid (∀ w', But (Two hb mb) wn w' → w'.rangeAt (w.heap.size + 1) 0 (encE x)) := Lib.hid (fun w' k => EntAt.range (k.heap S5.ent (by rintro (e | e) <;> omega)))
      have HSXX := Lib.hid (rxLen x)
      clear hh5 S5
      refine region_inRound (S := fun w' => But (Two hb mb) wn w') (by kernel_rfl) (by kernel_rfl) ((But.refl _ _).drew) (fun hHeld => ?_)
      refine takeL 0 (v := ?_) rfl (by kernel_rfl) (by kernel_rfl) (by kernel_rfl) (fun _ _ _ h => h) (by rfl) hHeld ?_ ?_
      rotate_left 1
      · intro w2 hSw; have q0 := HCP.out w2 hSw; go_simp <;> with_reducible rfl
      try simp only [Act.put, List.setIfInBounds_toArray, List.set_cons_zero, List.set_cons_succ]
      refine takeRow 1 rfl (by kernel_rfl) (by kernel_rfl) (by kernel_rfl) 24 (.tmp 5) rfl (w.heap.size + 1) (0) rfl (encE x) _ (fun _ _ _ h => h) (by rfl) hHeld HRX.out Try.underlying24 rfl HSXX.out ?_
      try simp only [Act.put, List.setIfInBounds_toArray, List.set_cons_zero, List.set_cons_succ]
      refine heavyL 2 rfl (by kernel_rfl) (fun K hK => ?_)
      go_simp
      refine (to_any x _).mono ?_
      rintro e w5 ⟨rfl, b5⟩
      try go_simp
      refine hK.out _ _ (hHeld.trans (But.of_below b5)) (fun hHeld => ?_)
      clear hK K
      try simp only [Act.put, List.setIfInBounds_toArray, List.set_cons_zero, List.set_cons_succ]
      have HH6 := Lib.hid (HH5.out.kept (((Below.refl _ wn).drew).trans b5))
      refine heavyL 3 rfl (by kernel_rfl) (fun K hK => ?_)
      go_simp
      refine (add_any x hb mb rs cu (by omega) _ HH6.out).mono ?_
      rintro e w6 ⟨rfl, hh6, b6⟩
      try go_simp
      refine hK.out _ _ (hHeld.trans b6) (fun hHeld => ?_)
      clear hK K
      try simp only [Act.put, List.setIfInBounds_toArray, List.set_cons_zero, List.set_cons_succ]
      refine wpAnyH_done (by kernel_rfl) ?_ _
      refine NoPanic.normal (OnlyN.normal ?_)
      have hl6 := addE_len rs x
      have S6 := HS5.out.step (m := pre.length + 1) hHeld (by omega) (by omega) (fun i hi e => ⟨by rcases e with e | e <;> omega, e⟩) ⟨by rintro (e | e) <;> omega, by rintro (e | e) <;> omega⟩ (fun i hi e g' o' e' hne => by
        rintro rfl; exact HS5.out.apart e' hne e) (hHeld.heap HS5.out.boxN (by rintro (e | e) <;> omega)) ⟨_, cu, hh6, by omega⟩
      have bT6 : But T W w6 := bT5.trans (hHeld.mono (fun k _ e => by rw [hT]; exact .inr e))
      have HRY : Hid (w6.rangeAt Bx 0 (encI y.id)) := Lib.hid (EntAt.idr (T := 29) (bT6.heap HE.out (fun e => by have := hTlt _ e; omega)))
      have HSY := Lib.hid (idSize29 y.id)
      have hcP6 := S6.boxP.cell
      have hl6' : (addE rs x).1.length < 1000000 := by omega
      have HH7 := Lib.hid hh6
      have HS6 := Lib.hid S6
      clear b5 b6 hHeld HH5 HS5 HCP HRX bT5 hh6 S6 HH6
      generalize (addE rs x).1 = rs6 at *
      generalize (addE rs x).2 = ec6 at *
      gi_wp2_with (refine wpListIn_load_mid rfl _ _ rfl Bx 0 rfl (encI y.id) _ HRY.out Try.underlying27 rfl HSY.out ?_)
      refine ⟨trivial, (CallsIn.inRound l (callsIn_wide.2 (setGone_any y.id hb mb rs6 cu hl6' w6 HH7.out))).mono ?_⟩
      rintro e w7 ⟨rfl, hh7, b7⟩
      have hl7 := goneE_len rs6 y.id
      have S7 := HS6.out.step (m := pre.length + 1) b7 (by omega) (by omega) (fun i hi e => ⟨by rcases e with e | e <;> omega, e⟩) ⟨by rintro (e | e) <;> omega, by rintro (e | e) <;> omega⟩ (fun i hi e g' o' e' hne => by
        rintro rfl; exact HS6.out.apart e' hne e) (b7.heap HS6.out.boxN (by rintro (e | e) <;> omega)) ⟨_, cu, hh7, by omega⟩
      have bT7 : But T W w7 := bT6.trans (b7.mono (fun k _ e => by rw [hT]; exact .inr e))
      have hcN := S7.boxN.cell; have hcS := S7.boxS.cell
      have kR7 : Boxed w7 (w.heap.size + 1 + 1) 4 (.bool false) := bT7.heap hR (fun e => by have := hTge _ e; omega)
      have hB7 : Below w.heap.size w w7 := hB.trans (bT7.below (by omega) (fun k e => by have := hTge _ e; omega))
      have kf : KeepsFrom wg.heap.size W w7 := KeepsFrom.of_but bT7 hTlt
      have ku : KeepUp wg.heap.size W w7 := KeepUp.of_but bT7 hTlt
      have hs7 := bT7.size
      have HS7 := Lib.hid S7
      clear b7 HS6 hh7 bT6 HH7 HRY HE S7 bT7
      have hlen1 : (pre ++ [y]).length = pre.length + 1 := by simp
      by_cases hq : pre.length = st % 20
      · have hqB : ((pre.length : Int) + 1 == 1 + (st : Int) % 20) = true := by simp; omega
        have HQ := Lib.hid hq
        clear hq
        gi_wp2
        exact ⟨kf, .inr ⟨rfl, by rw [hlen1, HQ.out]; omega, by rw [hlen1]; exact HS7.out.boxN⟩, kR7, hB7, by omega⟩
      · have hqB : ((pre.length : Int) + 1 == 1 + (st : Int) % 20) = false := by simp; omega
        have HQ := Lib.hid hq
        clear hq
        gi_wp2
        exact ⟨kf, ku, ⟨HP.out, by have := HQ.out; rw [hlen1]; omega⟩, by rw [hlen1]; exact HS7.out, kR7, hB7⟩
  case done =>
    rintro D ys W hD rfl ⟨⟨_, hle⟩, hSI, hR, hB⟩ hK
    have hcR := hR.cell; have hfR := hR.frozen
    have hcN := hSI.boxN.cell
    have HSI := Lib.hid hSI
    clear hSI
    gi_wp2
    have hb : ((ys.length : Int) == min (1 + (st : Int) % 20) (ys.length : Int)) = true := by simp; omega
    rw [hb]
    have hK' := (KeepsOthers.setCell W ⟨w.heap.size + 1 + 1, 0, none⟩ (.bool true)).same D _ hK rfl
    refine ⟨by simp, .inl ⟨_, _, rfl, run_takeDeferred hK', ?_⟩⟩
    have hc5 := cell_kept (World.cell?_setCell_same' W ⟨w.heap.size + 1 + 1, 0, none⟩ (.bool true) (by rw [hcR]; rfl)) (grownBy_putObj' _ D (.deferred none)) (fun r e => by cases e; exact ⟨_, hK', rfl⟩)
    refine ⟨.bool true, ?_, rfl, (hB.setCell (p := ⟨w.heap.size + 1 + 1, 0, none⟩) (by show w.heap.size ≤ w.heap.size + 1 + 1; omega) _).trans (belowK_b (w := w) (Nat.le_refl _) _ D _ _ (by omega) hK' rfl rfl)⟩
    simp [results, Try.f6, go_sem, hc5]
  case stop =>
    rintro D cd pre W hD hpre ⟨hc, hR, hB, hsz⟩ hK
    have hcR := hR.cell; have hfR := hR.frozen
    rcases hc with ⟨rfl, hn⟩ | ⟨rfl, hn, hN⟩
    · exact absurd hpre hn
    · have hcN := hN.cell
      rw [hn] at hcN
      have hle : 1 + st % 20 ≤ rows.length := by rw [← hn]; exact hpre.length_le
      clear hpre hn hN
      gi_wp2
      have hb : (1 + (st : Int) % 20 == min (1 + (st : Int) % 20) (rows.length : Int)) = true := by simp; omega
      rw [hb]
      have hK' := (KeepsOthers.setCell W ⟨w.heap.size + 1 + 1, 0, none⟩ (.bool true)).same D _ hK rfl
      refine ⟨by simp, .inl ⟨_, _, rfl, run_takeDeferred hK', ?_⟩⟩
      have hc5 := cell_kept (World.cell?_setCell_same' W ⟨w.heap.size + 1 + 1, 0, none⟩ (.bool true) (by rw [hcR]; rfl)) (grownBy_putObj' _ D (.deferred none)) (fun r e => by cases e; exact ⟨_, hK', rfl⟩)
      refine ⟨.bool true, ?_, rfl, (hB.setCell (p := ⟨w.heap.size + 1 + 1, 0, none⟩) (by show w.heap.size ≤ w.heap.size + 1 + 1; omega) _).trans (belowK_b (w := w) (Nat.le_refl _) _ D _ _ (by omega) hK' rfl rfl)⟩
      simp [results, Try.f6, go_sem, hc5]
end Go.Proofs.Ytblidphaolgilaa
