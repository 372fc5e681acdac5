/- History: sorted (what is collected out of the map, in order). -/
import Derived.Test.YtblidphaolgilaaHiS
import Derived.Test.YtblidphaolgilaaIns
namespace Go.Proofs.Ytblidphaolgilaa
open Go.RowKit Go.Shelf Go.Lib Go.Sort Go.Maps
set_option linter.unusedSimpArgs false

theorem grown_of_below {w w' : World} (h : Below w.heap.size w w') : w.grownBy w' none := ⟨h.os, h.tape, h.output, h.size, fun k hk _ => h.block k hk⟩
theorem infoE : (Try.prog.info? 29).map (fun i => (i.zero, i.size, i.bytes)) = some (some (encX Ent.zero), 36, 64) := by kernel_rfl
/-- those that have been met already, in whatever order -/
def Met (l : List Ent) (p : Ent → Bool) (left : Lit → Bool) (lc : List Ent) : Prop := lc.Perm ((l.filter p).filter fun x => !left (klI x.id))
theorem Met.start {l : List Ent} {p : Ent → Bool} {left : Lit → Bool} (h : ∀ x ∈ l, left (klI x.id) = true) : Met l p left [] := by
  unfold Met
  rw [List.filter_eq_nil_iff.2 (fun x hx => by simp [h x (List.mem_filter.1 hx).1])]
theorem Met.done {l : List Ent} {p : Ent → Bool} {left : Lit → Bool} {lc : List Ent} (h : Met l p left lc) (hl : ∀ kl, left kl = false) : lc.Perm (l.filter p) := by
  unfold Met at h
  rw [List.filter_eq_self.2 (fun x _ => by simp [hl])] at h
  exact h
theorem sameKey_klI (x y : I32) : (klI x).sameKey (klI y) = decide (x = y) := by
  by_cases h : x = y
  · subst h; simp [WideAt.sameKey_self (klI_key x)]
  · rw [Maps.sameKey_ne (klI_ne h)]; simp [h]
theorem filter_split {l : List Ent} (hs : SE l) {c : Ent} (hc : c ∈ l) (q q' : Ent → Bool) (h1 : q c = false) (h2 : q' c = true) (h : ∀ y ∈ l, y.id ≠ c.id → q' y = q y) : (l.filter q').Perm (c :: l.filter q) := by
  induction l with
  | nil => simp at hc
  | cons a r ih =>
    have hs' := List.pairwise_cons.1 hs
    rcases List.mem_cons.1 hc with rfl | hr
    · have e : r.filter q' = r.filter q := List.filter_congr (fun y hy => h y (by simp [hy]) (fun e => by have := hs'.1 y hy; rw [e, ltI_irr] at this; cases this))
      rw [List.filter_cons_of_pos h2, List.filter_cons_of_neg (by simp [h1]), e]
    · have hne : a.id ≠ c.id := fun e => by have := hs'.1 c hr; rw [e, ltI_irr] at this; cases this
      have ih' := ih hs'.2 hr (fun y hy hn => h y (by simp [hy]) hn)
      have ha := h a (by simp) hne
      cases hq : q a
      · rw [List.filter_cons_of_neg (by simp [ha, hq]), List.filter_cons_of_neg (by simp [hq])]; exact ih'
      · rw [List.filter_cons_of_pos (by simp [ha, hq]), List.filter_cons_of_pos (by simp [hq])]
        exact (ih'.cons a).trans (List.Perm.swap c a _)
theorem Met.take {l : List Ent} {p : Ent → Bool} {left : Lit → Bool} {lc : List Ent} (h : Met l p left lc) (hs : SE l) {c : Ent} (hc : c ∈ l) (hp : p c = true) (hl : left (klI c.id) = true) : Met l p (fun z => left z && !z.sameKey (klI c.id)) (lc ++ [c]) := by
  unfold Met at *
  have h2 := filter_split (hs.filter p) (List.mem_filter.2 ⟨hc, hp⟩) (fun x => !left (klI x.id)) (fun x => !(left (klI x.id) && !(klI x.id).sameKey (klI c.id))) (by simp [hl]) (by simp [sameKey_klI]) (fun y _ hn => by simp [sameKey_klI, hn])
  exact (List.perm_append_comm (l₁ := lc) (l₂ := [c])).trans ((h.cons c).trans h2.symm)
theorem Met.skip {l : List Ent} {p : Ent → Bool} {left : Lit → Bool} {lc : List Ent} (h : Met l p left lc) (hs : SE l) {c : Ent} (hc : c ∈ l) (hp : p c = false) : Met l p (fun z => left z && !z.sameKey (klI c.id)) lc := by
  unfold Met at *
  have e : (l.filter p).filter (fun x => !(left (klI x.id) && !(klI x.id).sameKey (klI c.id))) = (l.filter p).filter (fun x => !left (klI x.id)) := List.filter_congr (fun y hy => by
    have hne : y.id ≠ c.id := fun e => by
      have h1 := hs.fnd (List.mem_filter.1 hy).1
      rw [e, hs.fnd hc] at h1
      cases h1
      have := (List.mem_filter.1 hy).2
      rw [hp] at this; cases this
    simp [sameKey_klI, hne])
  rw [e]; exact h
theorem Met.len {l : List Ent} {p : Ent → Bool} {left : Lit → Bool} {lc : List Ent} (h : Met l p left lc) : lc.length ≤ l.length := by
  rw [h.length_eq]
  exact Nat.le_trans (List.length_filter_le _ _) (List.length_filter_le _ _)

set_option maxRecDepth 100000 in
set_option maxHeartbeats 2000000 in
theorem sorted_any (F G : Nat) (cb : Array Value) (p : Ent → Bool) (cf : Ent → Ent → Int) (hO : SWO (ltOf cf)) (hb mb : Nat) (l : List Ent) (cut : Int) (hl : l.length ≤ 1000) (w : World) (h : HistAt w hb mb l cut)
    (ef : ∀ args w, (callFunc F args).run Try.prog w = .ok (.enter F args) w)
    (hp : ∀ x W, Below w.heap.size w W → Calls Try.prog F (#[encX x] ++ cb) W fun e w' => e = .returned (.bool (p x)) ∧ Below W.heap.size W w')
    (eg : ∀ args w, (callFunc G args).run Try.prog w = .ok (.enter G args) w)
    (hc : ∀ x y W, Calls Try.prog G #[encX x, encX y] W fun e w' => e = .returned (.int .i64 (cf x y)) ∧ ∃ q os, w' = grow (W.drewN q) os) :
    Calls Try.prog 47 #[.pointer (some ⟨hb, 0, none⟩), .func (.func F) #[] cb, .func (.func G) #[] #[]] w fun e w' => ∃ v l', e = .returned v ∧ l'.Perm (l.filter p) ∧ (l'.Pairwise fun a b => ltOf cf b a = false) ∧
      w'.ownsRow w.heap.size 29 36 v l'.length (ecs l') ∧ Below w.heap.size w w' := by
  obtain ⟨i0, hi, hz0, hz1, hz2⟩ := info_parts infoE
  have HI := Lib.hid hi
  have HP := Lib.hid hp
  have HC := Lib.hid hc
  have HEG := Lib.hid eg
  have HEF := Lib.hid ef
  have hmb := h.map.lt
  have hlt := h.lt
  have c0 : w.cell? ⟨hb, 0, none⟩ = some (.map (some mb)) := by rw [cell_of_row _ _ _ _ _ _ h.blk]; rfl
  obtain ⟨D, ho, hr, hs⟩ := h.map
  have HR := Lib.hid hr
  have HSE := Lib.hid h.asc
  clear hi hp hc eg ef h hr
  go_enter Try.func47, Try.ntmps47
  go_wp2_with (first | (at_range; refine wpList_range_own _ rfl _ 84 rfl 27 29 keyedId Try.underlying84 RE mb l.length D rfl ho ?_; intro w0 hrg0 hg0 hs0))
  go_frame
  go_loopw [7] (fun ov wr => ∃ (left : Lit → Bool) (cnt : Nat) (lc : List Ent), wr.ranges Try.prog 27 RE mb w.heap.size l.length D left cnt ∧ Hid (Met l p left lc) ∧ wr.ownsRow (w.heap.size + 1) 29 36 ov lc.length (ecs lc) ∧ Below w.heap.size w wr)
    (fun _ wr => wr.rangeLeft mb w.heap.size)
  case atStart => exact ⟨_, _, [], hrg0, Lib.hid (Met.start (fun x hx => (HR.out.some (HSE.out.fnd hx)).1)), World.ownsRow_nil _ _ _ _, (Below.refl _ _).grown hg0 (Nat.le_refl _) (fun j hj => by cases hj)⟩
  case round =>
    obtain ⟨left, cnt, lc, hrg, HM, hov, hB⟩ := hrel
    have hbs := hB.size
    go_wp2_with (first | (at_next; refine wpList_next_ranges _ rfl _ rfl 27 keyedId RE (fun x : I32 => .agg (encI x).toArray) encX (fun key kl hk => by obtain ⟨x, hx, _⟩ := keyOfI_inv hk; exact ⟨x, hx⟩) (fun v y hv => by obtain ⟨x, hx, _⟩ := RB_inv hv; exact ⟨x, hx⟩) mb w.heap.size l.length _ _ _ rfl hrg ?_ ?_))
    · intro _ hl0
      have hperm := HM.out.done hl0
      obtain ⟨_, a3, cap3, rfl, hn3, hcap3, _, hia⟩ := rows_of_owns encE_len (by decide) hov
      have hlen : lc.length ≤ 1000000 := by have := HM.out.len; omega
      have HSO := Lib.hid (sortE_any cf hO G _ _ _ lc hlen wr HEG.out HC.out hov)
      have HPm := Lib.hid hperm
      clear hperm hia hn3 hrg hl0
      go_wp2_with fail
      refine HSO.out.mono ?_
      rintro e w3 ⟨rfl, ⟨l', hp', hs', ho'⟩, hg3⟩
      have hB3 := hB.grown hg3 hbs (fun j hj => by have := (hov.lt j hj).1; omega)
      have HP' := Lib.hid (hp'.trans HPm.out)
      have HS' := Lib.hid hs'
      have hln := hp'.length_eq
      have ho2 := owns_base (base' := w.heap.size) ho' (by omega)
      have ho3 := rows_relen encE_len (by decide) ho2
      have HO3 := Lib.hid ho3
      clear hov hp' hs' ho' hg3 ho2 ho3 hln
      go_wp2
      go_ret
      exact ⟨_, l', rfl, HP'.out, HS'.out, HO3.out, hB3⟩
    · intro x0 hx0 c kl yd yp w2 cnt2 hkey hlk hv hat hrg2 hlt2 hg2 hs2 hen
      have hxe : kl = klI ⟨x0, hx0⟩ := by
        have := keyOfI ⟨x0, hx0⟩
        rw [hkey] at this; exact Option.some.inj this
      obtain ⟨c', hcc, hce⟩ := RB_inv hv
      have := encX_inj _ _ hcc
      subst this
      obtain ⟨rfl, rfl⟩ : yd = .held c ∧ yp = [] := by simpa using hce
      subst hxe
      have hhas := Maps.has_true_of_atKey hat
      rw [HR.out.has] at hhas
      obtain ⟨v, hv'⟩ := Option.isSome_iff_exists.1 hhas
      have hvc : v = c := by
        have h1 := (HR.out.some hv').2 (.held c)
        rw [hat] at h1
        injection h1 with h1; exact h1.symm
      subst hvc
      obtain ⟨hmem, hid⟩ := fnd_mem hv'
      have HME := Lib.hid hmem
      have HK := Lib.hid hlk
      rw [← hid] at HK hrg2
      have HRG := Lib.hid hrg2
      have hB2 := hB.grown hg2 hbs (fun j hj => by cases hj; exact Nat.le_refl _)
      have hov2 := owns_keep hov hg2 (fun j hj => by cases hj; omega)
      have hb2 := hB2.size
      have HLE := Lib.hid hrg.left_eq
      clear hkey hcc hce hv hat hhas hv' hmem hid hlk hrg hg2 hs2 hB hov hrg2
      have HSX := Lib.hid (xSize v)
      have HPc := HP.out v
      cases hpv : p v with
      | true =>
        rw [hpv] at HPc
        have HPC := Lib.hid HPc
        clear HPc
        go_wp2_with (first | (refine wpList_store_abs (by rfl) 29 (.tmp 9) (.tmp 20) (by rfl) w2.heap.size (encE v).toArray (by rfl) (by rfl) _ (encE Ent.zero).toArray (heap_alloc_new w2 _) HSX.out (by simp [encE_len]) (ent_one v) w2.heap.size w2 ((Below.refl _ _).alloc (Nat.le_refl _) _) (Nat.le_refl _) ?_))
        intro w3 H3 b3 O3
        have hB3 := hB2.trans (b3.mono hb2)
        have HRG3 := Lib.hid (HRG.out.kept (grown_of_below b3) (by simp) (by simp))
        have hov3 := owns_keep hov2 (grown_of_below b3) (fun j hj => by cases hj)
        have HC3 := Lib.hid (HPC.out w3 hB3)
        clear hov2 HRG b3 O3
        go_wp2_with (first | (refine wpList_load_abs (by rfl) 29 (.tmp 9) (by rfl) w2.heap.size (by rfl) _ _ _ _ H3.out Try.underlying29 rfl HSX.out ?_))
        rw [HEF.out, Oper.upon_enter]
        refine HC3.out.mono ?_
        rintro e w4 ⟨rfl, b4⟩
        have hB4 := hB3.trans (b4.mono hB3.size)
        have H4 := Lib.hid (heap_below b4 (Array.getElem?_eq_some_iff.1 H3.out).1 H3.out)
        have HRG4 := Lib.hid (HRG3.out.kept (grown_of_below b4) (by simp) (by simp))
        have hov4 := owns_keep hov3 (grown_of_below b4) (fun j hj => by cases hj)
        have hb4 : w.heap.size + 1 ≤ w4.heap.size := by have := HRG4.out.lt; omega
        have hln := HM.out.len
        have hkm : lc.length + 1 ≤ maxLen := by unfold maxLen; omega
        have hkb : (lc.length + 1) * 64 ≤ 140737488355328 := by omega
        clear hov3 HRG3 b4 HC3 H3 hln
        go_wp2_with (first
          | (refine wpList_load_abs (by rfl) 29 (.tmp 9) (by rfl) w2.heap.size (by rfl) _ _ _ _ H4.out Try.underlying29 rfl HSX.out ?_)
          | (refine wpList_build1 (by rfl) 54 29 (.tmp 25) (by rfl) (encE v) (by rfl) i0 _ Try.underlying54 HI.out hz0 (by rw [hz1, encE_len]) (by rw [encE_len]; omega) (by rw [encE_len]; omega) ?_)
          | (at_builtin; refine wpList_append_own_at _ rfl _ _ 54 rfl (w.heap.size + 1) 29 i0 _ 36 64 Try.underlying54 HI.out hz0 hz1 hz2 (by simp [encX, Value.cells, encE_len]) (by decide) _ _ _ rfl (hov4.alloc _) ⟨w4.heap.size, 0, none⟩ 1 1 (encE v) rfl (by rw [encE_len]) (news_of_block0 (heap_alloc_new w4 _)) (encE_one v) hkm hkb (by simp; omega) ?_))
        intro v' wA hA gA _ _
        have hob := fun j (hj : u7.ownBlock = some j) => (hov4.lt j hj).1
        have HRGA := Lib.hid ((HRG4.out.alloc (.cells (encE v).toArray 29 (0, 0))).kept gA (fun e => by have := hob _ e.symm; omega) (fun e => by have := hob _ e.symm; omega))
        have hBA := (hB4.alloc (by omega) (.cells (encE v).toArray 29 (0, 0))).grown gA (by simp; omega) (fun j hj => by have := hob j hj; omega)
        have HMA := Lib.hid (HM.out.take HSE.out HME.out hpv HK.out)
        rw [← rcs_snoc] at hA
        have hA2 := rows_relen encE_len (by decide) hA
        have HA2 := Lib.hid hA2
        clear hA hA2 gA hob hov4 HRG4 hen
        go_wp2
        go_roundw
        case rel => exact ⟨_, cnt2, lc ++ [v], HRGA.out, HMA, HA2.out, hBA⟩
        case measure => rw [HRGA.out.left_eq, HLE.out]; omega
      | false =>
        rw [hpv] at HPc
        have HPC := Lib.hid HPc
        clear HPc
        go_wp2_with (first | (refine wpList_store_abs (by rfl) 29 (.tmp 9) (.tmp 20) (by rfl) w2.heap.size (encE v).toArray (by rfl) (by rfl) _ (encE Ent.zero).toArray (heap_alloc_new w2 _) HSX.out (by simp [encE_len]) (ent_one v) w2.heap.size w2 ((Below.refl _ _).alloc (Nat.le_refl _) _) (Nat.le_refl _) ?_))
        intro w3 H3 b3 O3
        have hB3 := hB2.trans (b3.mono hb2)
        have HRG3 := Lib.hid (HRG.out.kept (grown_of_below b3) (by simp) (by simp))
        have hov3 := owns_keep hov2 (grown_of_below b3) (fun j hj => by cases hj)
        have HC3 := Lib.hid (HPC.out w3 hB3)
        clear hov2 HRG b3 O3
        go_wp2_with (first | (refine wpList_load_abs (by rfl) 29 (.tmp 9) (by rfl) w2.heap.size (by rfl) _ _ _ _ H3.out Try.underlying29 rfl HSX.out ?_))
        rw [HEF.out, Oper.upon_enter]
        refine HC3.out.mono ?_
        rintro e w4 ⟨rfl, b4⟩
        have hB4 := hB3.trans (b4.mono hB3.size)
        have HRG4 := Lib.hid (HRG3.out.kept (grown_of_below b4) (by simp) (by simp))
        have hov4 := Lib.hid (owns_keep hov3 (grown_of_below b4) (fun j hj => by cases hj))
        have HMA := Lib.hid (HM.out.skip HSE.out HME.out hpv)
        clear hov3 HRG3 b4 HC3 H3 hen
        go_wp2
        go_roundw
        case rel => exact ⟨_, cnt2, lc, HRG4.out, HMA, hov4.out, hB4⟩
        case measure => rw [HRG4.out.left_eq, HLE.out]; omega
end Go.Proofs.Ytblidphaolgilaa
