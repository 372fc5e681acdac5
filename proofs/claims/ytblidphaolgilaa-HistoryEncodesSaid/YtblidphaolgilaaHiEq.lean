/- maps.Equal at entries. -/
import Derived.Test.YtblidphaolgilaaHiLN
namespace Go.Proofs.Ytblidphaolgilaa
open Go.RowKit Go.Maps Go.Sort
set_option linter.unusedSimpArgs false
set_option linter.unusedVariables false

theorem SE.sub : ∀ {m l : List Ent}, SE l → SE m → (∀ x ∈ l, x ∈ m) → l.Sublist m
  | [], [], _, _, _ => List.Sublist.slnil
  | [], a :: l, _, _, h => absurd (h a (by simp)) (by simp)
  | _ :: _, [], _, _, _ => List.nil_sublist _
  | b :: m, a :: l, hl, hm, h => by
    have hl' := List.pairwise_cons.1 hl
    have hm' := List.pairwise_cons.1 hm
    by_cases e : a = b
    · subst e
      refine List.Sublist.cons_cons _ (SE.sub hl'.2 hm'.2 (fun x hx => ?_))
      rcases List.mem_cons.1 (h x (by simp [hx])) with rfl | h1
      · have := hl'.1 x hx; rw [ltI_irr] at this; cases this
      · exact h1
    · have ham : a ∈ m := by
        rcases List.mem_cons.1 (h a (by simp)) with h1 | h1
        · exact absurd h1 e
        · exact h1
      refine List.Sublist.cons _ (SE.sub hl hm'.2 (fun x hx => ?_))
      rcases List.mem_cons.1 (h x hx) with rfl | h1
      · rcases List.mem_cons.1 hx with rfl | h2
        · exact absurd rfl e
        · have h3 := hl'.1 x h2
          have h4 := hm'.1 a ham
          have := ltI_asym h3
          rw [this] at h4; cases h4
      · exact h1
theorem eq_of_fnd {l m : List Ent} (hl : SE l) (hm : SE m) (hn : l.length = m.length) (h : ∀ x ∈ l, fnd m x.id = some x) : l = m :=
  (SE.sub hl hm (fun x hx => (fnd_mem (h x hx)).1)).eq_of_length hn
theorem heap_new2 (w : World) (a b : Obj) : ((w.alloc a).alloc b).heap[w.heap.size + 1]? = some b := by
  have h := heap_alloc_new (w.alloc a) b
  rw [World.size_alloc] at h
  exact h
theorem wp_neqE {P : Program} {w : World} {o : Oper} {a : Act} {K : Act → World → Prop} {Q : Exit → Act → World → Prop} (T T2 : TypeId) (p q : Operand) (ho : o.op = .binOp .neq T p q T2) (xs ys : Array Value) (hp : a.eval p = .agg xs) (hq : a.eval q = .agg ys) (hm : P.eqGuardType P.depth T = false) (r : Bool)
    (he : (Op.equalIn 10000 T (.agg xs) (.agg ys)).run P w = .ok r w) (h : K (a.put o.dst (.bool (!r))) w) : o.wp P a w K Q := by
  unfold Oper.wp
  rw [exec_neq T T2 p q ho xs ys hp hq hm r he]
  exact h

set_option maxRecDepth 100000 in
set_option maxHeartbeats 4000000 in
theorem mapsEqual_any (mb kb : Nat) (l m : List Ent) (hsl : SE l) (hsm : SE m) (hl : l.length ≤ 1000) (hm : m.length ≤ 1000) (w : World) (h1 : MapAt w mb l) (h2 : MapAt w kb m) :
    Calls Try.prog 54 #[.map (some mb), .map (some kb)] w fun e w' => e = .returned (.bool (decide (l = m))) ∧ Below w.heap.size w w' := by
  have q1 := h1.len 3
  have q2 := h2.len 3
  have hk := h2.lt
  by_cases hlm : l.length = m.length
  · have hlmB : ((l.length : Int) != (m.length : Int)) = false := by simp; omega
    obtain ⟨D, ho, hr, hs⟩ := h1
    have HR := Lib.hid hr
    have H2 := Lib.hid h2
    have HSL := Lib.hid hsl
    have HSM := Lib.hid hsm
    clear hr h2 hsl hsm
    go_enter Try.func54, Try.ntmps54
    go_wp2_with (first | (at_range; refine wpList_range_own _ rfl _ 84 rfl 27 29 keyedId Try.underlying84 RE mb l.length D rfl ho ?_; intro w0 hrg0 hg0 hs0))
    go_frame
    go_loopw [4] (fun ov wr => ∃ (left : Lit → Bool) (cnt : Nat), wr.ranges Try.prog 27 RE mb w.heap.size l.length D left cnt ∧ Hid (∀ x ∈ l, left (klI x.id) = false → fnd m x.id = some x) ∧ Below w.heap.size w wr)
      (fun _ wr => wr.rangeLeft mb w.heap.size)
    case atStart => exact ⟨_, _, hrg0, Lib.hid (fun x hx hq => by rw [(HR.out.some (HSL.out.fnd hx)).1] at hq; cases hq), (Below.refl _ _).grown hg0 (Nat.le_refl _) (fun j hj => by cases hj)⟩
    case round =>
      obtain ⟨left, cnt, hrg, HM, hB⟩ := hrel
      have hbs := hB.size
      go_wp2_with (first | (at_next; refine wpList_next_ranges _ rfl _ rfl 27 keyedId RE (fun x : I32 => .agg (encI x).toArray) encX (fun key kl hk => by obtain ⟨x, hx, _⟩ := keyOfI_inv hk; exact ⟨x, hx⟩) (fun v y hv => by obtain ⟨x, hx, _⟩ := RB_inv hv; exact ⟨x, hx⟩) mb w.heap.size l.length _ _ _ rfl hrg ?_ ?_))
      · intro _ hl0
        have HEQ : Hid (decide (l = m) = true) := Lib.hid (by
          have : l = m := eq_of_fnd HSL.out HSM.out hlm (fun x hx => HM.out x hx (hl0 _))
          simpa using this)
        clear hrg hl0
        go_wp2
        go_ret
        rw [HEQ.out]
        exact ⟨rfl, hB⟩
      · intro x0 hx0 c kl yd yp w2 cnt2 hkey hlk hv hat hrg2 hlt2 hg2 hs2 hen
        have hxe : kl = klI ⟨x0, hx0⟩ := by
          have := keyOfI ⟨x0, hx0⟩
          rw [hkey] at this; exact Option.some.inj this
        obtain ⟨c', hcc, hce⟩ := RB_inv hv
        have := encX_inj _ _ hcc
        subst this
        obtain ⟨rfl, rfl⟩ : yd = .held c ∧ yp = [] := by simpa using hce
        subst hxe
        have hhas := Maps.has_true_of_atKey hat
        rw [HR.out.has] at hhas
        obtain ⟨v, hv'⟩ := Option.isSome_iff_exists.1 hhas
        have hvc : v = c := by
          have h1 := (HR.out.some hv').2 (.held c)
          rw [hat] at h1
          injection h1 with h1; exact h1.symm
        subst hvc
        obtain ⟨hmem, hid⟩ := fnd_mem hv'
        have HM2 : Hid (fnd m v.id = some v → ∀ x ∈ l, (left (klI x.id) && !(klI x.id).sameKey (klI v.id)) = false → fnd m x.id = some x) := Lib.hid (fun h x hx hq => by
          by_cases e : x.id = v.id
          · have : x = v := by
              have h1 := HSL.out.fnd hx
              rw [e, HSL.out.fnd hmem] at h1
              exact (Option.some.inj h1).symm
            rw [this]; exact h
          · rw [sameKey_klI] at hq
            simp [e] at hq
            exact HM.out x hx hq)
        have HNE : Hid (fnd m v.id ≠ some v → decide (l = m) = false) := Lib.hid (fun h => by
          have : l ≠ m := fun e => h (by rw [← e]; exact HSL.out.fnd hmem)
          simpa using this)
        rw [← hid] at hrg2 hen ⊢
        have HRG := Lib.hid hrg2
        have HLE := Lib.hid hrg.left_eq
        have hB2 := hB.grown hg2 hbs (fun j hj => by cases hj; exact Nat.le_refl _)
        have hb2 := hB2.size
        have HL : Hid (∀ w', Below w.heap.size w w' → (Instr.lookup 84 (.map (some kb)) (.agg (encI v.id).toArray) true).run Try.prog w' = .ok (.tuple #[encX ((fnd m v.id).getD Ent.zero), .bool (fnd m v.id).isSome]) w') := Lib.hid (fun w' b => (H2.out.of_heap (b.block kb hk)).look_ok v.id)
        have HSX := Lib.hid (xSize v)
        have HSI : Hid ((Try.prog.info? 27).map (·.size) = some (encI v.id).toArray.size) := Lib.hid ((idSize29 v.id).trans (by simp))
        have HIO : Hid ((encI v.id).toArray.all (·.oneCell') = true) := Lib.hid (bytes_one v.id.1)
        clear hkey hlk hcc hce hv hat hhas hv' hmem hid hrg hg2 hs2 hrg2 HM hB hx0
        unfold encX at hen
        go_wp2_with (refine wpList_store_abs (by rfl) 27 (.tmp 5) (.tmp 19) (by rfl) w2.heap.size (encI v.id).toArray (by rfl) (by rfl) _ _ (heap_alloc_old' (heap_alloc_new w2 _)) HSI.out (by simp [encI_len]) HIO.out w2.heap.size w2 (((Below.refl _ _).alloc (Nat.le_refl _) _).alloc (by simp) _) (Nat.le_refl _) ?_)
        intro w3 H3 b3 O3
        have HE3 : Hid (w3.heap[w2.heap.size + 1]? = some (.cells (encE Ent.zero).toArray 29 (0, 0))) := Lib.hid ((O3.out (w2.heap.size + 1) (by omega)).trans (heap_new2 _ _ _))
        have hs3 := b3.size
        clear O3 hen
        go_wp2_with (refine wpList_store_abs (by rfl) 29 (.tmp 6) (.tmp 20) (by rfl) (w2.heap.size + 1) (encE v).toArray (by rfl) (by rfl) _ (encE Ent.zero).toArray HE3.out HSX.out (by simp [encE_len]) (ent_one v) w2.heap.size w2 b3 (by omega) ?_)
        intro w4 H4 b4 O4
        have HI4 : Hid (w4.heap[w2.heap.size]? = some (.cells (encI v.id).toArray 27 (0, 0))) := Lib.hid ((O4.out _ (by omega)).trans H3.out)
        have hB4 := hB2.trans (b4.mono hb2)
        have hL4 := HL.out w4 hB4
        have hs4 : w2.heap.size + 1 < w4.heap.size := (Array.getElem?_eq_some_iff.1 H4.out).1
        clear O4 H3 HE3 b3 HL
        cases hf : fnd m v.id with
        | none =>
          have HN := Lib.hid (HNE.out (by rw [hf]; simp))
          rw [hf] at hL4
          simp only [Option.getD_none, Option.isSome_none] at hL4
          unfold encX at hL4
          have HSZ := Lib.hid (xSize Ent.zero)
          go_wp2_with (first
            | (refine wpList_load_abs (by rfl) 27 (.tmp 5) (by rfl) w2.heap.size (by rfl) _ _ _ _ HI4.out Try.underlying27 rfl HSI.out ?_)
            | (refine wpList_store_abs (by rfl) 29 (.tmp 7) (.tmp 25) (by rfl) w4.heap.size (encE Ent.zero).toArray (by rfl) (by rfl) _ (encE Ent.zero).toArray (heap_alloc_new w4 _) HSZ.out (by simp [encE_len]) (ent_one Ent.zero) w4.heap.size w4 ((Below.refl _ _).alloc (Nat.le_refl _) _) (Nat.le_refl _) ?_))
          intro w5 H5 b5 O5
          have hB5 := hB4.trans (b5.mono hB4.size)
          clear hL4 O5
          go_wp2
          go_ret
          rw [HN.out]
          exact ⟨rfl, hB5⟩
        | some z =>
          rw [hf] at hL4
          simp only [Option.getD_some, Option.isSome_some] at hL4
          unfold encX at hL4
          have HSZ := Lib.hid (xSize z)
          cases hvz : decide (v = z) with
          | true =>
            have hq : v = z := by simpa using hvz
            have HM3 := Lib.hid (HM2.out (by rw [hf, hq]))
            have HEQ : Hid (∀ w', (Op.equalIn 10000 29 (.agg (encE v).toArray) (.agg (encE z).toArray)).run Try.prog w' = .ok true w') := Lib.hid (fun w' => by rw [eqE, hvz])
            clear hf hvz hq HM2 HNE
            go_wp2_with (first
              | (refine wpList_load_abs (by rfl) 27 (.tmp 5) (by rfl) w2.heap.size (by rfl) _ _ _ _ HI4.out Try.underlying27 rfl HSI.out ?_)
              | (refine wpList_store_abs (by rfl) 29 (.tmp 7) (.tmp 25) (by rfl) w4.heap.size (encE z).toArray (by rfl) (by rfl) _ (encE Ent.zero).toArray (heap_alloc_new w4 _) HSZ.out (by simp [encE_len]) (ent_one z) w4.heap.size w4 ((Below.refl _ _).alloc (Nat.le_refl _) _) (Nat.le_refl _) ?_))
            intro w5 H5 b5 O5
            have hB5 := hB4.trans (b5.mono hB4.size)
            have H6 := Lib.hid (heap_below b5 hs4 H4.out)
            have HRG5 := Lib.hid (HRG.out.kept (grown_of_below (b4.trans (b5.mono (by omega)))) (by simp) (by simp))
            clear hL4 O5 H4 HRG
            go_wp2_with (first
              | (refine wpList_one (.inr (by rfl)) (wp_load_row 29 (.tmp 6) (by rfl) (w2.heap.size + 1) (by rfl) _ _ _ _ H6.out Try.underlying29 rfl HSX.out ?_))
              | (refine wpList_one (.inr (by rfl)) (wp_load_row 29 (.tmp 7) (by rfl) w4.heap.size (by rfl) _ _ _ _ H5.out Try.underlying29 rfl HSZ.out ?_))
              | (refine wpList_one (.inr (by rfl)) (wp_neqE 29 _ (.tmp 30) (.tmp 31) (by rfl) _ _ (by rfl) (by rfl) (by kernel_rfl) true (HEQ.out _) ?_)))
            go_roundw
            case rel => exact ⟨_, cnt2, by rw [hlm]; exact HRG5.out, HM3, hB5⟩
            case measure => rw [HRG5.out.left_eq, HLE.out]; exact hlt2
          | false =>
            have hq : v ≠ z := by simpa using hvz
            have HN := Lib.hid (HNE.out (by rw [hf]; intro e; exact hq (Option.some.inj e).symm))
            have HEQ : Hid (∀ w', (Op.equalIn 10000 29 (.agg (encE v).toArray) (.agg (encE z).toArray)).run Try.prog w' = .ok false w') := Lib.hid (fun w' => by rw [eqE, hvz])
            clear hf hvz hq HM2 HNE
            go_wp2_with (first
              | (refine wpList_load_abs (by rfl) 27 (.tmp 5) (by rfl) w2.heap.size (by rfl) _ _ _ _ HI4.out Try.underlying27 rfl HSI.out ?_)
              | (refine wpList_store_abs (by rfl) 29 (.tmp 7) (.tmp 25) (by rfl) w4.heap.size (encE z).toArray (by rfl) (by rfl) _ (encE Ent.zero).toArray (heap_alloc_new w4 _) HSZ.out (by simp [encE_len]) (ent_one z) w4.heap.size w4 ((Below.refl _ _).alloc (Nat.le_refl _) _) (Nat.le_refl _) ?_))
            intro w5 H5 b5 O5
            have hB5 := hB4.trans (b5.mono hB4.size)
            have H6 := Lib.hid (heap_below b5 hs4 H4.out)
            have HRG5 := Lib.hid (HRG.out.kept (grown_of_below (b4.trans (b5.mono (by omega)))) (by simp) (by simp))
            clear hL4 O5 H4 HRG
            go_wp2_with (first
              | (refine wpList_one (.inr (by rfl)) (wp_load_row 29 (.tmp 6) (by rfl) (w2.heap.size + 1) (by rfl) _ _ _ _ H6.out Try.underlying29 rfl HSX.out ?_))
              | (refine wpList_one (.inr (by rfl)) (wp_load_row 29 (.tmp 7) (by rfl) w4.heap.size (by rfl) _ _ _ _ H5.out Try.underlying29 rfl HSZ.out ?_))
              | (refine wpList_one (.inr (by rfl)) (wp_neqE 29 _ (.tmp 30) (.tmp 31) (by rfl) _ _ (by rfl) (by rfl) (by kernel_rfl) false (HEQ.out _) ?_)))
            go_ret
            rw [HN.out]
            exact ⟨rfl, hB5⟩
  · have hlmB : ((l.length : Int) != (m.length : Int)) = true := by simp; omega
    have hne : decide (l = m) = false := by
      have : l ≠ m := by rintro rfl; exact hlm rfl
      simpa using this
    rw [hne]
    clear h1 h2
    go_enter Try.func54, Try.ntmps54
    go_wp2
    go_ret
    exact ⟨rfl, Below.refl _ _⟩
end Go.Proofs.Ytblidphaolgilaa
