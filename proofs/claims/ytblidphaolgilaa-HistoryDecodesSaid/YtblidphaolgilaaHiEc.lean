/- Encode: the program's. -/
import Derived.Test.YtblidphaolgilaaHiB4
import Derived.Test.YtblidphaolgilaaHiEn
namespace Go.Proofs.Ytblidphaolgilaa
open Go.RowKit Go.Maps Go.Shelf Go.Sort
attribute [local go_sem] Oper.semAt_some
set_option linter.unusedSimpArgs false
set_option linter.unusedVariables false

/-- an entry in 41 bytes, whatever its numbers -/
def lastz (x : Ent) : UInt8 := UInt8.ofNat ((x.st.1 + if x.perm then 2 else 0) % 256).toNat
def encZ (x : Ent) : List UInt8 := x.id.1 ++ (f4z x.arr.1 ++ (f4z x.dat.1 ++ [lastz x]))
theorem lastz_t {x : Ent} (h : x.perm = true) : rcs b1 [lastz x] = [Value.int .u8 (wrap64 (x.st.1 + 2) % 256)] := by
  have e : ((lastz x).toNat : Int) = wrap64 (x.st.1 + 2) % 256 := by
    unfold lastz
    rw [h, UInt8.toNat_ofNat', if_pos rfl]
    unfold wrap64
    omega
  simp only [rcs, b1, List.flatMap_cons, List.flatMap_nil, List.append_nil, e]
theorem lastz_f {x : Ent} (h : x.perm = false) : rcs b1 [lastz x] = [Value.int .u8 (x.st.1 % 256)] := by
  have e : ((lastz x).toNat : Int) = x.st.1 % 256 := by
    unfold lastz
    rw [h, UInt8.toNat_ofNat', if_neg (by simp)]
    omega
  simp only [rcs, b1, List.flatMap_cons, List.flatMap_nil, List.append_nil, e]
theorem encZ_len (x : Ent) : (encZ x).length = 41 := by simp [encZ, f4z_len, x.id.2]
theorem encZ_eq {x : Ent} (h : chk x = 0) : encZ x = encB x := by
  unfold chk at h
  split at h
  · rename_i hm
    split at h
    · rename_i hs
      simp only [minB, Bool.and_eq_true, decide_eq_true_eq] at hm
      obtain ⟨⟨a0, a1⟩, d0, d1⟩ := hm
      unfold encZ encB lastz lastB
      rw [f4z_nat (by omega) (by omega), f4z_nat (by omega) (by omega)]
      congr 5
      rcases hs with e | e <;> rw [e] <;> cases x.perm <;> simp
    · cases h
  · cases h
theorem flatZ_len : ∀ l : List Ent, (l.flatMap encZ).length = l.length * 41
  | [] => rfl
  | a :: l => by rw [List.flatMap_cons, List.length_append, flatZ_len l, encZ_len, List.length_cons]; omega
theorem flatZ_eq {l : List Ent} (h : ∀ x ∈ l, chk x = 0) : l.flatMap encZ = l.flatMap encB := by
  induction l with
  | nil => rfl
  | cons a r ih => rw [List.flatMap_cons, List.flatMap_cons, encZ_eq (h a (by simp)), ih (fun x hx => h x (by simp [hx]))]
/-- what the loop of Encode keeps -/
def ColB (n₀ B : Nat) (t : TypeId) (w : World) (bs : List UInt8) (W : World) : Prop := (∃ v, Boxed W B t v ∧ W.ownsRow n₀ 5 1 v bs.length (rcs b1 bs) ∧ True) ∧ Below n₀ w W
theorem colB_own (n₀ B D : Nat) (t : TypeId) (w : World) (f : List Ent → List UInt8) (h1 : n₀ ≤ w.heap.size) (h2 : n₀ ≤ D) : OwnFrom D (fun pre W => ColB n₀ B t w (f pre) W) := by
  intro s X Y row hs hg hr
  have h := holdsRow_own (β := List Ent) n₀ B t 5 1 (fun p => (f p).length) (fun p => rcs b1 (f p)) (fun _ _ => True) s X Y row hs.1 hg (fun r e => (hr r e).2)
  exact ⟨h, hs.2.grown hg (Nat.le_trans h1 hs.2.size) (fun k e => Nat.le_trans h2 (hr k e).1)⟩
theorem keepsOthers_but {W W' : World} {n₀ k : Nat} {v : Value} {xs : List Value} {e : TypeId} {size : Nat} (h : But (fun j => v.ownBlock = some j) W W') (hrow : W.ownsRow n₀ e size v k xs) : KeepsOthers W W' :=
  ⟨h.size, fun j o hj ho => (h.block j (Array.getElem?_eq_some_iff.1 hj).1 (fun e' => by have := row_cells hrow e' hj; rw [ho] at this; cases this)).trans hj⟩
theorem keepT_but {T : TypeId} {W W' : World} {n₀ k : Nat} {v : Value} {xs : List Value} {e : TypeId} {size : Nat} (hne : e ≠ T) (h : But (fun j => v.ownBlock = some j) W W') (hrow : W.ownsRow n₀ e size v k xs) : KeepT T 0 W W' :=
  ⟨h.size, fun j cs fr _ hj => (h.block j (Array.getElem?_eq_some_iff.1 hj).1 (fun e' => by
    rcases hrow.2 with ⟨rfl, _⟩ | ⟨g, cap, cur, rfl, _, hg, _⟩
    · cases e'
    · simp only [Value.ownBlock, Option.some.injEq] at e'
      subst e'
      rw [hg] at hj
      simp only [Option.some.injEq, Obj.cells.injEq] at hj
      exact hne hj.2.1)).trans hj⟩
theorem KeepT.from0 {T : TypeId} {B : Nat} {W W' : World} (h : KeepT T 0 W W') : KeepT T B W W' := ⟨h.size, fun k cs fr _ hk => h.same k cs fr (Nat.zero_le _) hk⟩
theorem KeepT.ent {W W' : World} {b : Nat} {x : Ent} (h : KeepT 29 0 W W') (hx : EntAt W b 29 x) : EntAt W' b 29 x := h.same b _ _ (Nat.zero_le _) hx
/-- bytes were put behind those of a captured slice -/
theorem col_step {n₀ tO : Nat} {W W6 : World} {v v' : Value} {k k' : Nat} {xs xs' : List Value} (hv : Boxed W tO 64 v) (hrow : W.ownsRow n₀ 5 1 v k xs) (k6 : But (fun j => v.ownBlock = some j) W W6) (ov6 : W6.ownsRow n₀ 5 1 v' k' xs')
    (ho : v'.ownBlock = v.ownBlock ∨ ∃ j, v'.ownBlock = some j ∧ W.heap.size ≤ j) (hn : n₀ ≤ tO) (hn2 : n₀ ≤ W.heap.size) :
    Boxed W6 tO 64 v ∧ Boxed (W6.setCell ⟨tO, 0, none⟩ v') tO 64 v' ∧ (W6.setCell ⟨tO, 0, none⟩ v').ownsRow n₀ 5 1 v' k' xs' ∧ KeepsOthers W (W6.setCell ⟨tO, 0, none⟩ v') ∧ KeepT 29 0 W (W6.setCell ⟨tO, 0, none⟩ v') ∧ Below n₀ W (W6.setCell ⟨tO, 0, none⟩ v') := by
  have hbt : v.ownBlock ≠ some tO := fun e => by
    rcases hrow.2 with ⟨rfl, _⟩ | ⟨g, cap, cur, rfl, _, hg, _⟩
    · cases e
    · simp only [Value.ownBlock, Option.some.injEq] at e
      subst e
      have h2 : W.heap[g]? = some _ := hv
      rw [hg] at h2
      simp at h2
  have hv6 : Boxed W6 tO 64 v := k6.heap hv hbt
  have hne : v'.ownBlock ≠ some tO := fun e => by
    rcases ho with h | ⟨j, h, hj⟩
    · exact hbt (h ▸ e)
    · rw [h] at e; cases e; have := hv.lt; omega
  refine ⟨hv6, hv6.set v', ov6.kept (grownBy_setCell' W6 tO v') (.inr (fun e => hne e)), (keepsOthers_but k6 hrow).trans (KeepsOthers.setCell _ _ _), (keepT_but (by decide) k6 hrow).t (KeepT.of_grown (grownBy_setCell' W6 tO v') (fun j ej _ cs fr hj => ?_)), ?_⟩
  · cases ej
    have h2 : W6.heap[tO]? = some _ := hv6
    rw [hj] at h2
    simp at h2
  · exact (k6.below hn2 (fun j ej => (hrow.lt j ej).1)).setCell (p := ⟨tO, 0, none⟩) hn v'
theorem wpListIn_runs {F : Fence} {n : Nat} {P : Program} {w : World} {ops : Array Oper} {rest : List Oper} {o : Oper} {a : Act} {Q : Exit → Act → World → Prop} (hg : o.guard = none) (v : Value)
    (hr : (execOp a.eval o).run P w = .ok (.value v) w) (hd : ∀ c, o.op ≠ .defer c) (ha : o.about P w a.eval = none)
    (hK : wpListIn F n P ops Q rest (a.put o.dst v) w) : wpListIn F n P ops Q (o :: rest) a w := by
  refine wpListIn_plain hg fun K hK' => ?_
  unfold Oper.wpIn
  refine ⟨fun f hf => (by rw [ha] at hf; cases hf), ?_⟩
  rw [Oper.semAt_plain F _ _ hd, hr]
  exact hK' _ _ hK
set_option maxRecDepth 100000 in
set_option maxHeartbeats 8000000 in
theorem encode_any (hb mb : Nat) (l : List Ent) (cut : Int) (hl : l.length ≤ 1000) (w : World) (hH : HistAt w hb mb l cut) :
    Calls Try.prog 33 #[.pointer (some ⟨hb, 0, none⟩)] w fun e w' => ∃ v, e = .returned v ∧ w'.ownsRow w.heap.size 5 1 v (4 + l.length * 41) (rcs b1 (f4z cut ++ l.flatMap encZ)) ∧ Below w.heap.size w w' := by
  obtain ⟨i0, hif, hz0, hz1, hz2⟩ := info_parts infoU8
  have HI := Lib.hid hif
  have HH := Lib.hid hH
  have hc1 : w.cell? ⟨hb, 1, none⟩ = some (.int .i64 cut) := by rw [cell_of_row _ _ _ _ _ _ hH.blk]; rfl
  obtain ⟨cz, hcz⟩ : ∃ cz : I64, cz.1 = cut := ⟨⟨cut, by have := hH.c0; have := hH.c1; omega⟩, rfl⟩
  rw [← hcz] at hc1
  have HCZ := Lib.hid hcz
  clear hif hH hcz
  refine (callsIn_wide (n := 8)).1 ?_
  refine callsIn_of_wp_marks Try.func33 rfl trivial ?_ rfl
  simp only [Try.ntmps33, List.size_toArray, List.length_cons, List.length_nil, Nat.reduceAdd, Nat.reduceSub, Array.replicate_succ, Array.replicate_zero, List.push_toArray, List.append_toArray, List.nil_append, List.cons_append]
  gi_wp2_with fail
  refine ⟨trivial, (callsIn_wide.2 (four_any (.slice none 0 0) 0 w.heap.size [] cz (by omega) w (Nat.le_refl _) (World.ownsRow_nil _ _ _ _))).mono ?_⟩
  rintro e w1 ⟨v1, rfl, ov1, k1, ho1⟩
  obtain ⟨g1, cap1, rfl⟩ := ownsRow_succ ov1
  have b1' : Below w.heap.size w w1 := k1.below (Nat.le_refl _) (fun j e => by cases e)
  have s1 := b1'.size
  have HH1 := Lib.hid (HH.out.kept b1')
  clear HH hc1 k1 ho1
  gi_wp2_with fail
  refine ⟨trivial, (callsIn_wide.2 (all_any _ _)).mono ?_⟩
  rintro e w2 ⟨rfl, rfl⟩
  gi_wp2_with fail
  obtain ⟨wb, hwb⟩ : ∃ wb, (w1.alloc (.cells #[.slice (some ⟨g1, 0, none⟩) 4 cap1] 64)).alloc (.cells #[.pointer (some ⟨hb, 0, none⟩)] 35) = wb := ⟨_, rfl⟩
  have hsb : wb.heap.size = w1.heap.size + 1 + 1 := by rw [← hwb]; simp
  have bO : Boxed wb w1.heap.size 64 (.slice (some ⟨g1, 0, none⟩) 4 cap1) := by rw [← hwb]; exact (Boxed.new w1 _ _).alloc _
  have bA : Boxed wb (w1.heap.size + 1) 35 (.pointer (some ⟨hb, 0, none⟩)) := by rw [← hwb]; exact heap_two _ _ _
  have b1b : Below w1.heap.size w1 wb := by rw [← hwb]; exact ((Below.refl _ w1).alloc (Nat.le_refl _) _).alloc (by simp) _
  have hB0 : Below w.heap.size w wb := b1'.trans (b1b.mono s1)
  have ovb : wb.ownsRow w.heap.size 5 1 (.slice (some ⟨g1, 0, none⟩) 4 cap1) 4 (rcs b1 (f4z cz.1)) := by
    have h := ov1.kept (grown_of_below b1b) (by simp [Value.ownBlock])
    simpa using h
  rw [hwb]
  clear hwb ov1
  have HHB := Lib.hid (HH1.out.kept b1b)
  refine wpIn_rangeFunc_ownH rfl (by omega) (gf := 50) (lb := #[.pointer (some ⟨w1.heap.size + 1, 0, none⟩)]) rfl trivial (enters_of Try.func50 (by kernel_rfl) rfl)
    (all_stopsT (8 - 1) (by omega) (w1.heap.size + 1) wb.heap.size hb mb l cut hl wb (Nat.le_refl _) (by omega) bA.cell HHB.out) KeepT.t KeepT.b (Below.refl _ _) (fun _ => rfl)
    (fun pre W => ColB w.heap.size w1.heap.size 64 w (f4z cz.1 ++ pre.flatMap encZ) W)
    (fun _ _ _ => False)
    (colB_own _ _ _ _ _ _ (Nat.le_refl _) (by omega))
    (fun _ _ _ _ _ hs _ _ => hs)
    ⟨⟨_, bO, by rw [List.flatMap_nil, List.append_nil]; exact ovb, trivial⟩, hB0⟩
    (fun x a' W => ∃ Bx, w1.heap.size < Bx ∧ EntAt W Bx 29 x ∧ a' = { tmps := #[.pointer (some ⟨hb, 0, none⟩), undef, .slice none 0 0, .pointer (some ⟨w1.heap.size, 0, none⟩), .pointer (some ⟨Bx, 0, none⟩), undef, undef, undef, .pointer (some ⟨hb, 0, none⟩), .bool false, .pointer (some ⟨hb, 0, none⟩), .pointer (some ⟨hb, 0, none⟩), .pointer (some ⟨hb, 1, none⟩), .int .i64 cz.1, .slice (some ⟨g1, 0, none⟩) 4 cap1, .pointer (some ⟨hb, 0, none⟩), .func (.func 50) #[] #[.pointer (some ⟨w1.heap.size + 1, 0, none⟩)], .agg (encE x).toArray, undef, undef, undef, undef, undef, undef, undef, undef, undef, undef, undef, undef, undef, undef, undef, undef, undef, undef, undef, undef, undef, undef, undef, undef, undef, undef, undef, undef], defers := [] })
    (fun x a' _ X Y row hs hg hr => by obtain ⟨Bx, h1, h2, h3⟩ := hs; exact ⟨Bx, h1, ent_own Bx _ _ () X Y row h2 hg (fun r e => (hr r e).2), h3⟩)
    ?assign ?body ?done ?stop
  case assign =>
    rintro lp pre x W K ⟨⟨v, hv1, hrow, _⟩, hB⟩ hK
    have HSX := Lib.hid (xSize x)
    have HO1 := Lib.hid (ent_one x)
    simp only [eEnc]
    unfold encX
    gi_wp2_with (refine wpListIn_store_abs rfl _ _ _ rfl W.heap.size (encE x).toArray rfl rfl 29 _ (heap_alloc_new W _) HSX.out (by simp [encE_len]) HO1.out ?_)
    intro w1' h1 g1'
    have gg := grown_new g1'
    have kb := below_of_grown gg
    have hWs := hB.size
    have hbl := hv1.lt
    gi_wp2
    exact hK _ _ ((KeepsOthers.of_grownBy gg (fun j o e _ => by cases e)).from _) (KeepT.of_below kb) ⟨⟨v, hv1.kept gg (by simp), hrow.kept gg (by cases v.ownBlock <;> simp), trivial⟩, hB.trans (kb.mono hWs)⟩ ⟨W.heap.size, hbl, h1, rfl⟩
  case body =>
    rintro lp pre x a' W hlp ⟨r, hr⟩ ⟨⟨v, hv1, hrow, _⟩, hB⟩ ⟨Bx, hBx, hX, rfl⟩ hlt
    have hWs := hB.size
    have hbl := hv1.lt
    have hxlt : Bx < W.heap.size := (Array.getElem?_eq_some_iff.1 hX).1
    have hpl := flatZ_len pre
    obtain ⟨bs, hbs⟩ : ∃ bs, bs = f4z cz.1 ++ pre.flatMap encZ := ⟨_, rfl⟩
    have hbl2 : bs.length ≤ 100000 := by rw [hbs, List.length_append, f4z_len, hpl]; omega
    have HFL : Hid (f4z cz.1 ++ (pre ++ [x]).flatMap encZ = bs ++ encZ x) := Lib.hid (by rw [hbs, List.flatMap_append, List.flatMap_singleton, List.append_assoc])
    rw [← hbs] at hrow
    clear hbs hpl
    have HCB : Hid (∀ w', Below W.heap.size W w' → w'.cell? ⟨w1.heap.size, 0, none⟩ = some v) := Lib.hid (fun w' k => Boxed.cell (heap_below k hbl hv1))
    have HX := Lib.hid hX
    have HV1 := Lib.hid hv1
    have HR1 := Lib.hid hrow
    clear hX hv1
    gi_wp2_with fail
    refine region_zIn (S := fun w' => Below W.heap.size W w') [3, 4] (by kernel_rfl) (by kernel_rfl) ((Below.refl _ _).drew) (fun hHeld => ?_)
    refine takeZ 0 (v := ?_) rfl (by kernel_rfl) (by kernel_rfl) (by kernel_rfl) (by kernel_rfl) (by kernel_rfl) (fun _ _ _ h => h) (by rfl) hHeld ?_ ?_
    rotate_left 1
    · intro w2 hSw; have q0 := HCB.out w2 hSw; go_simp <;> with_reducible rfl
    try simp only [Act.put, List.setIfInBounds_toArray, List.set_cons_zero, List.set_cons_succ]
    refine takeZ 1 (v := ?_) rfl (by kernel_rfl) (by kernel_rfl) (by kernel_rfl) (by kernel_rfl) (by kernel_rfl) (fun _ _ _ h => h) (by rfl) hHeld ?_ ?_
    rotate_left 1
    · intro w2 hSw; go_simp <;> with_reducible rfl
    try simp only [Act.put, List.setIfInBounds_toArray, List.set_cons_zero, List.set_cons_succ]
    refine takeZ 2 (v := ?_) rfl (by kernel_rfl) (by kernel_rfl) (by kernel_rfl) (by kernel_rfl) (by kernel_rfl) (fun _ _ _ h => h) (by rfl) hHeld ?_ ?_
    rotate_left 1
    · intro w2 hSw; go_simp <;> with_reducible rfl
    try simp only [Act.put, List.setIfInBounds_toArray, List.set_cons_zero, List.set_cons_succ]
    have hrow4 : W.drew.ownsRow w.heap.size 5 1 v bs.length (rcs b1 bs) := hrow
    have hnews : W.drew.rangeAt Bx 0 (encI x.id) := EntAt.idr HX.out
    refine lastZ 3 rfl (by kernel_rfl) (by kernel_rfl) (fun K hK => ?_)
    rw [if_pos (by rfl)]
    refine wp_append_from (.tmp 18) (.tmp 20) 64 (by rfl) w.heap.size 5 i0 _ 1 1 Try.underlying64 HI.out hz0 hz1 hz2 (by rfl) (by decide) v bs.length _ (by rfl) hrow4 (some ⟨Bx, 0, none⟩) 32 32 (by rfl) (fun h => by cases h) (encI x.id) (by rw [encI_len]) (fun ad e => by cases e; exact fun j u hu => by rw [Addr.add_mid]; exact hnews j u hu) (encI_one x.id) (by unfold maxLen; omega) (by omega) hWs ?_
    intro v' w6 ov6 g6 hob6
    refine hK.out _ _ ?_
    clear hK K
    try simp only [Act.put, List.setIfInBounds_toArray, List.set_cons_zero, List.set_cons_succ]
    have hbi : rcs b1 bs ++ encI x.id = rcs b1 (bs ++ x.id.1) := by rw [rcs_app, rcs_b1 x.id.1]; rfl
    rw [hbi] at ov6
    have st := col_step HV1.out HR1.out ((But.refl _ _).drew.trans (But.grown g6 (fun j e => e))) ov6 (hob6.imp id (fun h => ⟨_, h, Nat.le_refl _⟩)) (by omega) hWs
    obtain ⟨g', cap', rfl⟩ := ownsRow_succ ov6
    obtain ⟨hv6, hv7, ov7, ko7, kt7, b7⟩ := st
    have c6 := hv6.cell; have f6 := hv6.frozen
    refine lastZ 4 rfl (by kernel_rfl) (by kernel_rfl) (fun K hK => ?_)
    go_simp
    refine hK.out _ _ ?_
    clear hK K
    try simp only [Act.put, List.setIfInBounds_toArray, List.set_cons_zero, List.set_cons_succ]
    refine wpAnyZ_done (by kernel_rfl) ?_ _
    refine NoPanic.normal (OnlyN.normal ?_)
    generalize World.setCell w6 _ _ = W1 at *
    have HX1 := Lib.hid (kt7.ent HX.out)
    have HV7 := Lib.hid hv7
    have HO7 : Hid (W1.ownsRow w.heap.size 5 1 (.slice (some ⟨g', 0, none⟩) (bs.length + 32) cap') (bs ++ x.id.1).length (rcs b1 (bs ++ x.id.1))) := Lib.hid (by rw [List.length_append, x.id.2]; exact ov7)
    have HK7 := Lib.hid ko7
    have HT7 := Lib.hid kt7
    have HB7 := Lib.hid b7
    have hl1 : (bs ++ x.id.1).length ≤ 100032 := by rw [List.length_append, x.id.2]; omega
    have HBS : Hid (bs ++ encZ x = (bs ++ x.id.1) ++ (f4z x.arr.1 ++ (f4z x.dat.1 ++ [lastz x]))) := Lib.hid (by unfold encZ; rw [List.append_assoc])
    have s7 := b7.size
    have c32 := HX1.out.cell 32 _ (encE_32 x)
    have c33 := HX1.out.cell 33 _ (encE_33 x)
    generalize bs ++ x.id.1 = bs1 at *
    clear hv6 hv7 ov7 ko7 kt7 b7 c6 f6 ov6 g6 hob6 hrow4 hnews hHeld HX HV1 HR1 hrow HCB hbi
    gi_wp2_with fail
    have hsz3 : ∀ h, (Try.prog.types[3]'h).size = 1 := fun h => by kernel_rfl
    clear c32 c33
    gi_loopw [27] (fun iv wr => ∃ (i : Nat) (v2 : Value) (bsr : List UInt8), i ≤ 2 ∧ iv = .int .i64 (i : Int) ∧ Hid (Boxed wr w1.heap.size 64 v2) ∧ Hid (wr.ownsRow w.heap.size 5 1 v2 bsr.length (rcs b1 bsr)) ∧ Hid (bsr = bs1 ++ (if i = 0 then [] else if i = 1 then f4z x.arr.1 else f4z x.arr.1 ++ f4z x.dat.1)) ∧ Hid (KeepsOthers W1 wr) ∧ Hid (KeepT 29 0 W1 wr) ∧ Hid (Below w.heap.size W1 wr))
      (fun iv _ => 2 - (intOf iv).toNat)
    case atStart => exact ⟨0, _, bs1, by omega, rfl, HV7, HO7, Lib.hid (by simp), Lib.hid (KeepsOthers.refl _), Lib.hid (KeepT.refl _), Lib.hid (Below.refl _ _)⟩
    case round =>
      obtain ⟨i, v2, bsr, hi2, rfl, HVr, HOr, HBr, HKr, HTr, HBb⟩ := hrel
      have hcv := HVr.out.cell
      have hsr := HBb.out.size
      have hlr : bsr.length ≤ 100040 := by
        rw [HBr.out, List.length_append]
        split
        · simp; omega
        · split
          · rw [f4z_len]; omega
          · rw [List.length_append, f4z_len, f4z_len]; omega
      have hi3 : i = 0 ∨ i = 1 ∨ i = 2 := by omega
      rcases hi3 with rfl | rfl | rfl
      · skip
        have HIX : Hid (∀ (o : Oper), o.op = .index 102 (.tmp 26) (.tmp 27) → ∀ (ev : Operand → Value), ev (.tmp 26) = .agg #[.int .i64 x.arr.1, .int .i64 x.dat.1] → ev (.tmp 27) = .int .i64 0 → (execOp ev o).run Try.prog wr = .ok (.value (.int .i64 (x.arr).1)) wr) := Lib.hid (fun o ho ev h1 h2 => by unfold execOp; simp only [ho, h1, h2]; rfl)
        gi_wp2_with (refine wpListIn_runs rfl (.int .i64 (x.arr).1) (HIX.out _ rfl _ rfl rfl) (by intro c h; cases h) (by rfl) ?_)
        refine ⟨trivial, (CallsIn.inRound lp (callsIn_wide.2 (four_any v2 bsr.length w.heap.size bsr x.arr (by omega) wr (by omega) HOr.out))).mono ?_⟩
        rintro e w8 ⟨v8, rfl, ov8, k8, ho8⟩
        have st := col_step HVr.out HOr.out k8 ov8 ho8 (by omega) (by omega)
        obtain ⟨g8, cap8, rfl⟩ := ownsRow_succ ov8
        obtain ⟨hv6, hv7, ov7, ko7, kt7, b7⟩ := st
        have c6 := hv6.cell; have f6 := hv6.frozen
        have HV9 := Lib.hid hv7
        have HO9 := Lib.hid ov7
        have HK9 := Lib.hid (HKr.out.trans ko7)
        have HT9 := Lib.hid (HTr.out.t kt7)
        have HB9 := Lib.hid (HBb.out.trans b7)
        have HL9 : Hid ((bsr ++ f4z (x.arr).1).length = bsr.length + 4) := Lib.hid (by rw [List.length_append, f4z_len])
        clear hv6 hv7 ov7 ko7 kt7 b7 ov8 k8 ho8 HVr HOr HKr HTr HBb hcv
        gi_wp2
        go_roundw
        case rel => exact ⟨0 + 1, _, bsr ++ f4z (x.arr).1, by omega, by go_num, HV9, Lib.hid (by rw [HL9.out]; exact HO9.out), Lib.hid (by rw [HBr.out]; simp), HK9, HT9, HB9⟩
        case measure => simp [intOf]
      · skip
        have HIX : Hid (∀ (o : Oper), o.op = .index 102 (.tmp 26) (.tmp 27) → ∀ (ev : Operand → Value), ev (.tmp 26) = .agg #[.int .i64 x.arr.1, .int .i64 x.dat.1] → ev (.tmp 27) = .int .i64 1 → (execOp ev o).run Try.prog wr = .ok (.value (.int .i64 (x.dat).1)) wr) := Lib.hid (fun o ho ev h1 h2 => by unfold execOp; simp only [ho, h1, h2]; rfl)
        gi_wp2_with (refine wpListIn_runs rfl (.int .i64 (x.dat).1) (HIX.out _ rfl _ rfl rfl) (by intro c h; cases h) (by rfl) ?_)
        refine ⟨trivial, (CallsIn.inRound lp (callsIn_wide.2 (four_any v2 bsr.length w.heap.size bsr x.dat (by omega) wr (by omega) HOr.out))).mono ?_⟩
        rintro e w8 ⟨v8, rfl, ov8, k8, ho8⟩
        have st := col_step HVr.out HOr.out k8 ov8 ho8 (by omega) (by omega)
        obtain ⟨g8, cap8, rfl⟩ := ownsRow_succ ov8
        obtain ⟨hv6, hv7, ov7, ko7, kt7, b7⟩ := st
        have c6 := hv6.cell; have f6 := hv6.frozen
        have HV9 := Lib.hid hv7
        have HO9 := Lib.hid ov7
        have HK9 := Lib.hid (HKr.out.trans ko7)
        have HT9 := Lib.hid (HTr.out.t kt7)
        have HB9 := Lib.hid (HBb.out.trans b7)
        have HL9 : Hid ((bsr ++ f4z (x.dat).1).length = bsr.length + 4) := Lib.hid (by rw [List.length_append, f4z_len])
        clear hv6 hv7 ov7 ko7 kt7 b7 ov8 k8 ho8 HVr HOr HKr HTr HBb hcv
        gi_wp2
        go_roundw
        case rel => exact ⟨1 + 1, _, bsr ++ f4z (x.dat).1, by omega, by go_num, HV9, Lib.hid (by rw [HL9.out]; exact HO9.out), Lib.hid (by rw [HBr.out]; simp), HK9, HT9, HB9⟩
        case measure => simp [intOf]
      · have c34 := (HTr.out.ent HX1.out).cell 34 _ (encE_34 x)
        have c35 := (HTr.out.ent HX1.out).cell 35 _ (encE_35 x)
        have hs1 := x.st.2.1
        have hs2 := x.st.2.2
        generalize hps : x.perm = ps at *
        cases ps with
        | true =>
          have HLZ : Hid ([Value.int .u8 (wrap64 (x.st.1 + 2) % 256)] = rcs b1 [lastz x]) := Lib.hid ((lastz_t hps).symm)
          gi_wp2_with (gi_at_builtin; refine wpListIn_append_own _ rfl _ _ 64 rfl w.heap.size 5 i0 (.int .u8 0) 1 1 Try.underlying64 HI.out hz0 hz1 hz2 rfl (by decide) _ _ _ rfl (HOr.out.alloc _) ⟨wr.heap.size, 0, none⟩ 1 1 [.int .u8 (wrap64 (x.st.1 + 2) % 256)] rfl rfl (cell_one_new _ _ _) (by simp [Value.oneCell']) (by unfold maxLen; omega) (by omega) (by simp; omega) ?_)
          intro v' w8 hown' hgrow _
          have hap := HVr.out.appended (by decide) HOr.out (by omega) (by omega) hown' hgrow
          have kt8 : KeepT 29 0 wr w8 := keepT_but (by decide) ((But.of_below ((Below.refl _ wr).alloc (Nat.le_refl _) _)).trans' (But.grown hgrow (fun j e => e)) (fun i _ h => h)) HOr.out
          obtain ⟨g9, cap9, rfl⟩ := ownsRow_succ hown'
          obtain ⟨hv8, hv9, hr9, hk9, hb9⟩ := hap
          have c8 := hv8.cell; have f8 := hv8.frozen
          have HK9 := Lib.hid (HK7.out.trans (HKr.out.trans hk9))
          have HT9 := Lib.hid (HT7.out.t (HTr.out.t (kt8.t (KeepT.of_grown (B := 0) (grownBy_setCell' w8 w1.heap.size (.slice (some ⟨g9, 0, none⟩) (bsr.length + 1) cap9)) (fun j ej _ cs fr hj => by
            cases ej
            have h2 : w8.heap[w1.heap.size]? = some _ := hv8
            rw [hj] at h2
            simp at h2)))))
          have HB9 := Lib.hid (hB.trans ((HB7.out.trans HBb.out).trans hb9))
          have HV9 := Lib.hid hv9
          have HR9 := Lib.hid hr9
          clear hv9 hr9 hk9 hb9 kt8 hown' hgrow HK7 HKr HT7 HTr HB7 HBb hB
          gi_wp2
          refine ⟨HK9.out.from _, HT9.out.from0, ⟨_, HV9.out, ?_, trivial⟩, HB9.out⟩
          have h := HR9.out
          rw [HLZ.out, ← rcs_app] at h
          rw [HFL.out, HBS.out]
          have e1 : bsr ++ [lastz x] = bs1 ++ (f4z x.arr.1 ++ (f4z x.dat.1 ++ [lastz x])) := by rw [HBr.out]; simp
          rw [← e1, List.length_append]
          exact h
        | false =>
          have HLZ : Hid ([Value.int .u8 (x.st.1 % 256)] = rcs b1 [lastz x]) := Lib.hid ((lastz_f hps).symm)
          gi_wp2_with (gi_at_builtin; refine wpListIn_append_own _ rfl _ _ 64 rfl w.heap.size 5 i0 (.int .u8 0) 1 1 Try.underlying64 HI.out hz0 hz1 hz2 rfl (by decide) _ _ _ rfl (HOr.out.alloc _) ⟨wr.heap.size, 0, none⟩ 1 1 [.int .u8 (x.st.1 % 256)] rfl rfl (cell_one_new _ _ _) (by simp [Value.oneCell']) (by unfold maxLen; omega) (by omega) (by simp; omega) ?_)
          intro v' w8 hown' hgrow _
          have hap := HVr.out.appended (by decide) HOr.out (by omega) (by omega) hown' hgrow
          have kt8 : KeepT 29 0 wr w8 := keepT_but (by decide) ((But.of_below ((Below.refl _ wr).alloc (Nat.le_refl _) _)).trans' (But.grown hgrow (fun j e => e)) (fun i _ h => h)) HOr.out
          obtain ⟨g9, cap9, rfl⟩ := ownsRow_succ hown'
          obtain ⟨hv8, hv9, hr9, hk9, hb9⟩ := hap
          have c8 := hv8.cell; have f8 := hv8.frozen
          have HK9 := Lib.hid (HK7.out.trans (HKr.out.trans hk9))
          have HT9 := Lib.hid (HT7.out.t (HTr.out.t (kt8.t (KeepT.of_grown (B := 0) (grownBy_setCell' w8 w1.heap.size (.slice (some ⟨g9, 0, none⟩) (bsr.length + 1) cap9)) (fun j ej _ cs fr hj => by
            cases ej
            have h2 : w8.heap[w1.heap.size]? = some _ := hv8
            rw [hj] at h2
            simp at h2)))))
          have HB9 := Lib.hid (hB.trans ((HB7.out.trans HBb.out).trans hb9))
          have HV9 := Lib.hid hv9
          have HR9 := Lib.hid hr9
          clear hv9 hr9 hk9 hb9 kt8 hown' hgrow HK7 HKr HT7 HTr HB7 HBb hB
          gi_wp2
          refine ⟨HK9.out.from _, HT9.out.from0, ⟨_, HV9.out, ?_, trivial⟩, HB9.out⟩
          have h := HR9.out
          rw [HLZ.out, ← rcs_app] at h
          rw [HFL.out, HBS.out]
          have e1 : bsr ++ [lastz x] = bs1 ++ (f4z x.arr.1 ++ (f4z x.dat.1 ++ [lastz x])) := by rw [HBr.out]; simp
          rw [← e1, List.length_append]
          exact h
  case done =>
    rintro D ys W hD rfl ⟨⟨v, hv1, hrow, _⟩, hB⟩ hK
    have hc1 := hv1.cell
    gi_wp2
    refine ⟨by simp, .inl ⟨_, _, rfl, run_takeDeferred hK, ?_⟩⟩
    refine ⟨_, results_tmp rfl _ _ _, v, rfl, ?_, hB.trans (belowK_b (w := w) (Nat.le_refl _) W D _ _ (by omega) hK rfl rfl)⟩
    have h := ownsRow_putObj hrow (Obj.deferred none) hK rfl
    rw [List.length_append, f4z_len, flatZ_len, HCZ.out] at h
    exact h
  case stop =>
    rintro D c pre W _ _ h _
    exact h.elim
end Go.Proofs.Ytblidphaolgilaa
