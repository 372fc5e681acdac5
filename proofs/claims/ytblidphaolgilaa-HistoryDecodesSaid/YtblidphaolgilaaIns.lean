/- Moves for regions that put rows together by append: two operations that do not wait for one another; append of a slice that may be nil; slice literals of no element and of one. -/
import Derived.Test.YtblidphaolgilaaHeld
import Derived.Test.YtblidphaolgilaaBuild1
import Derived.Test.YtblidphaolgilaaIdB
import Derived.Laws.AppendOwnNone
import Derived.Maps.AppendAt
namespace Go.Proofs.Ytblidphaolgilaa
open Go.RowKit

section
variable {P : Program} {l rest rest' : List Oper} {oi oj : Oper} {Q : Exit → Act → World → Prop} {md : Region.Mode} {S : World → Prop} {fuel : Nat} {listed : Array Bool} {a : Act} {w : World}
theorem heavy2 (i j : Nat) (hi : l.drop i = oi :: rest) (hj : l.drop j = oj :: rest') (hr : Region.ready md l.toArray listed = [i, j])
    (h : ∀ K' : Act → World → Prop, Shut (∀ a w, S w → (S w → wpAnyH P md l.toArray Q S fuel (listed.setIfInBounds i true) a w) → K' a w) → if Region.wanted oi (yielded l.toArray a.tmps) = true then Oper.wp P oi a w K' Q else K' (a.put oi.dst undef) w)
    (h' : ∀ K' : Act → World → Prop, Shut (∀ a w, S w → (S w → wpAnyH P md l.toArray Q S fuel (listed.setIfInBounds j true) a w) → K' a w) → if Region.wanted oj (yielded l.toArray a.tmps) = true then Oper.wp P oj a w K' Q else K' (a.put oj.dst undef) w) :
    wpAnyH P md l.toArray Q S (fuel + 1) listed a w :=
  wpAnyH_ready hr (by simp) (AllReadyH.cons (drop_at hi) h (AllReadyH.cons (drop_at hj) h' AllReadyH.nil))
end

theorem run_append_from {P : Program} (w : World) (base : Nat) (t ty e : TypeId) (i : TypeInfo) (z : Value) (size bytes : Nat) (ht : P.underlying t = some (.slice e)) (hi : P.info? e = some i) (hz : i.zero = some z)
    (hsize : i.size = size) (hby : i.bytes = bytes) (hzs : z.cells.size = size) (hsz : 0 < size) (v : Value) (n : Nat) (xs : List Value) (hown : w.ownsRow base e size v n xs)
    (ao : Option Addr) (m c : Nat) (hn : ao = none → m = 0 ∧ c = 0) (news : List Value) (hl : news.length = m * size) (hnews : ∀ ad, ao = some ad → ∀ j u, news[j]? = some u → w.cell? (ad.add j) = some u) (h1 : ∀ u ∈ news, u.oneCell' = true)
    (h63 : n + m ≤ maxLen) (hbytes : (n + m) * bytes ≤ 140737488355328) (hbase : base ≤ w.heap.size) :
    ∃ v' w', (Builtin.append_ #[t, t] ty #[v, .slice ao m c]).run P w = .ok v' w' ∧ w'.ownsRow base e size v' (n + m) (xs ++ news) ∧ w.grownBy w' v.ownBlock ∧ (v'.ownBlock = v.ownBlock ∨ v'.ownBlock = some w.heap.size) := by
  cases ao with
  | none =>
    obtain ⟨rfl, rfl⟩ := hn rfl
    obtain rfl := List.eq_nil_of_length_eq_zero (by rw [hl]; omega)
    refine ⟨v, w, run_append_owned_none w base t ty e i size ht hi v n xs hown, by simpa using hown, World.grownBy.refl _ _, .inl rfl⟩
  | some ad =>
    obtain ⟨v', w', hr, h2, h3, h4, h5⟩ := run_append_own_at (P := P) w base t ty e i z size bytes ht hi hz hsize hby hzs hsz v n xs hown ad m c news hl (hnews ad rfl) h1 h63 hbytes hbase
    exact ⟨v', w', hr, h2, h3, h5⟩
/-- append(v, src..), v a row of the call's own -/
theorem wp_append_from {P : Program} {w : World} {o : Oper} {a : Act} {K : Act → World → Prop} {Q : Exit → Act → World → Prop} (s x : Operand) (t : TypeId)
    (ho : o.op = .call { callee := .builtin .append, args := #[s, x], argTypes := #[t, t] })
    (base : Nat) (e : TypeId) (i : TypeInfo) (z : Value) (size bytes : Nat) (ht : P.underlying t = some (.slice e)) (hi : P.info? e = some i) (hz : i.zero = some z)
    (hsize : i.size = size) (hby : i.bytes = bytes) (hzs : z.cells.size = size) (hsz : 0 < size) (v : Value) (n : Nat) (xs : List Value) (hs : a.eval s = v) (hown : w.ownsRow base e size v n xs)
    (ao : Option Addr) (m c : Nat) (hx : a.eval x = .slice ao m c) (hn : ao = none → m = 0 ∧ c = 0) (news : List Value) (hl : news.length = m * size) (hnews : ∀ ad, ao = some ad → ∀ j u, news[j]? = some u → w.cell? (ad.add j) = some u) (h1 : ∀ u ∈ news, u.oneCell' = true)
    (h63 : n + m ≤ maxLen) (hbytes : (n + m) * bytes ≤ 140737488355328) (hbase : base ≤ w.heap.size)
    (h : ∀ v' w', w'.ownsRow base e size v' (n + m) (xs ++ news) → w.grownBy w' v.ownBlock → (v'.ownBlock = v.ownBlock ∨ v'.ownBlock = some w.heap.size) → K (a.put o.dst v') w') : o.wp P a w K Q := by
  obtain ⟨v', w', hr, h2, h3, h5⟩ := run_append_from (P := P) w base t o.type e i z size bytes ht hi hz hsize hby hzs hsz v n xs hown ao m c hn news hl hnews h1 h63 hbytes hbase
  unfold Oper.wp execOp
  simp only [ho, resolve, invoke, builtin, Sem.run_bind, Sem.run_pure, Result.andThen_ok, List.map_toArray, List.map_cons, List.map_nil, hs, hx, hr]
  exact h v' w' h2 h3 h5
theorem wpList_append_from {P : Program} {w : World} {ops : Array Oper} {rest : List Oper} {o : Oper} {a : Act} {Q : Exit → Act → World → Prop} (hgd : o.guard = none ∨ Region.wanted o (yielded ops a.tmps) = true) (s x : Operand) (t : TypeId)
    (ho : o.op = .call { callee := .builtin .append, args := #[s, x], argTypes := #[t, t] })
    (base : Nat) (e : TypeId) (i : TypeInfo) (z : Value) (size bytes : Nat) (ht : P.underlying t = some (.slice e)) (hi : P.info? e = some i) (hz : i.zero = some z)
    (hsize : i.size = size) (hby : i.bytes = bytes) (hzs : z.cells.size = size) (hsz : 0 < size) (v : Value) (n : Nat) (xs : List Value) (hs : a.eval s = v) (hown : w.ownsRow base e size v n xs)
    (ao : Option Addr) (m c : Nat) (hx : a.eval x = .slice ao m c) (hn : ao = none → m = 0 ∧ c = 0) (news : List Value) (hl : news.length = m * size) (hnews : ∀ ad, ao = some ad → ∀ j u, news[j]? = some u → w.cell? (ad.add j) = some u) (h1 : ∀ u ∈ news, u.oneCell' = true)
    (h63 : n + m ≤ maxLen) (hbytes : (n + m) * bytes ≤ 140737488355328) (hbase : base ≤ w.heap.size)
    (h : ∀ v' w', w'.ownsRow base e size v' (n + m) (xs ++ news) → w.grownBy w' v.ownBlock → (v'.ownBlock = v.ownBlock ∨ v'.ownBlock = some w.heap.size) → wpList P ops Q rest (a.put o.dst v') w') : wpList P ops Q (o :: rest) a w := by
  have hw : Region.wanted o (yielded ops a.tmps) = true := hgd.elim (fun h => by simp [Region.wanted, h]) id
  unfold wpList
  rw [if_pos hw]
  refine .inl ?_
  exact wp_append_from s x t ho base e i z size bytes ht hi hz hsize hby hzs hsz v n xs hs hown ao m c hx hn news hl hnews h1 h63 hbytes hbase h
theorem wpList_one {P : Program} {w : World} {ops : Array Oper} {rest : List Oper} {o : Oper} {a : Act} {Q : Exit → Act → World → Prop} (hgd : o.guard = none ∨ Region.wanted o (yielded ops a.tmps) = true)
    (h : o.wp P a w (wpList P ops Q rest) Q) : wpList P ops Q (o :: rest) a w := by
  have hw : Region.wanted o (yielded ops a.tmps) = true := hgd.elim (fun h => by simp [Region.wanted, h]) id
  unfold wpList
  rw [if_pos hw]
  exact .inl h
theorem wp_build1 {P : Program} {o : Oper} {a : Act} {w : World} {K : Act → World → Prop} {Q : Exit → Act → World → Prop} (t e : TypeId) (x : Operand) (ho : o.op = .buildSlice t 1 #[(0, x)])
    (cs : List Value) (hx : a.eval x = .agg cs.toArray) (ie : TypeInfo) (z : Value)
    (hu : P.underlying t = some (.slice e)) (hie : P.info? e = some ie) (hz : ie.zero = some z) (hsz : ie.size = cs.length) (hpos : 0 < cs.length) (hsmall : cs.length ≤ 16777216)
    (h : K (a.put o.dst (.slice (some ⟨w.heap.size, 0, none⟩) 1 1)) (w.alloc (.cells cs.toArray e))) : o.wp P a w K Q := by
  unfold Oper.wp execOp
  simp only [ho, Sem.run_bind, Sem.run_pure, Result.andThen_ok, List.map_toArray, List.map_cons, List.map_nil, hx, run_build1 w t e cs ie z hu hie hz hsz hpos hsmall]
  exact h
theorem run_build0 {P : Program} (w : World) (t e : TypeId) (ie : TypeInfo) (hu : P.underlying t = some (.slice e)) (hie : P.info? e = some ie) :
    (Instr.buildSlice t 0 #[]).run P w = .ok (.slice (some ⟨w.heap.size, 0, none⟩) 0 0) (w.alloc (.cells #[] e)) := by
  simp [Instr.buildSlice, run_underlying hu, sizeOf, typeInfo, hie, newRow, Instr.fill]
  rw [show Array.map (fun x => (default : Value)) (Array.range 0) = #[] from by apply Array.ext <;> simp]
theorem wp_build0 {P : Program} {o : Oper} {a : Act} {w : World} {K : Act → World → Prop} {Q : Exit → Act → World → Prop} (t e : TypeId) (ho : o.op = .buildSlice t 0 #[]) (ie : TypeInfo)
    (hu : P.underlying t = some (.slice e)) (hie : P.info? e = some ie)
    (h : K (a.put o.dst (.slice (some ⟨w.heap.size, 0, none⟩) 0 0)) (w.alloc (.cells #[] e))) : o.wp P a w K Q := by
  unfold Oper.wp execOp
  simp only [ho, Sem.run_bind, Sem.run_pure, Result.andThen_ok, List.map_toArray, List.map_nil, run_build0 w t e ie hu hie]
  exact h
theorem owns_empty (w : World) (base : Nat) (e : TypeId) (size : Nat) (hb : base ≤ w.heap.size) : (w.alloc (.cells #[] e)).ownsRow base e size (.slice (some ⟨w.heap.size, 0, none⟩) 0 0) 0 [] :=
  ⟨by simp, .inr ⟨w.heap.size, 0, #[], rfl, hb, heap_alloc_new w _, Nat.le_refl _, by unfold maxLen; omega, by simp, by simp⟩⟩
theorem owns_caps {w : World} {base : Nat} {e : TypeId} {size : Nat} {a : Option Addr} {n c : Nat} {xs : List Value} (h : w.ownsRow base e size (.slice a n c) n xs) : n ≤ c ∧ c ≤ maxLen ∧ (a = none → c = 0) ∧ ∀ ad, a = some ad → ad.off = 0 ∧ ad.spot = none := by
  rcases h.2 with ⟨h1, h2⟩ | ⟨g, cap, cur, h1, h2, h3, h4, h5, h6, h7⟩
  · cases h1; exact ⟨by omega, Nat.zero_le _, fun _ => rfl, fun _ h => (by cases h)⟩
  · cases h1; exact ⟨h4, h5, (fun h => by cases h), (fun ad h => by cases h; exact ⟨rfl, rfl⟩)⟩
/-- where a row of the call's own lies -/
theorem owns_lt {w : World} {base : Nat} {e : TypeId} {size : Nat} {v : Value} {n : Nat} {xs : List Value} (h : w.ownsRow base e size v n xs) : ∀ j, v.ownBlock = some j → base ≤ j := fun j hj => (h.lt j hj).1
theorem ids_news {B : Nat} {ao : Option Addr} {l : List I32} {W : World} (h : IdsAt B ao l W) : ∀ ad, ao = some ad → ∀ j u, (idcs l)[j]? = some u → W.cell? (ad.add j) = some u := by
  intro ad had j u hu
  have hj : j < l.length * 32 := by have := (List.getElem?_eq_some_iff.1 hu).1; rwa [idcs_len] at this
  have hi : j / 32 < l.length := by omega
  obtain ⟨g, o, e, _, hr⟩ := h.at hi
  rw [had] at e
  cases e
  have h2 := idcs_at l (j / 32) (j % 32) hi (by omega)
  rw [show j / 32 * 32 + j % 32 = j by omega, hu] at h2
  have h3 := hr (j % 32) u h2.symm
  rw [Addr.add_mid]
  rw [show o + j / 32 * 32 + j % 32 = o + j by omega] at h3
  exact h3
theorem IdsAt.drop {B g o : Nat} {l : List I32} {W : World} (h : IdsAt B (some ⟨g, o, none⟩) l W) (k : Nat) : IdsAt B (some ⟨g, o + k * 32, none⟩) (l.drop k) W := fun i hi => by
  rw [List.length_drop] at hi
  obtain ⟨g', o', e, hg, hc⟩ := h.at (i := k + i) (by omega)
  cases e
  refine ⟨g, o + k * 32, rfl, hg, ?_⟩
  rw [List.getElem_drop, show o + k * 32 + i * 32 = o + (k + i) * 32 by omega]
  exact hc
theorem owns_base {w : World} {base base' : Nat} {e : TypeId} {size : Nat} {v : Value} {n : Nat} {xs : List Value} (h : w.ownsRow base e size v n xs) (hb : base' ≤ base) : w.ownsRow base' e size v n xs := by
  refine ⟨h.1, ?_⟩
  rcases h.2 with h1 | ⟨g, cap, cur, h1, h2, r⟩
  · exact .inl h1
  · exact .inr ⟨g, cap, cur, h1, Nat.le_trans hb h2, r⟩
/-- the same, the world and the place under names -/
theorem wp_build1_abs {P : Program} {o : Oper} {a : Act} {w : World} {K : Act → World → Prop} {Q : Exit → Act → World → Prop} (t e : TypeId) (x : Operand) (ho : o.op = .buildSlice t 1 #[(0, x)])
    (cs : List Value) (hx : a.eval x = .agg cs.toArray) (ie : TypeInfo) (z : Value)
    (hu : P.underlying t = some (.slice e)) (hie : P.info? e = some ie) (hz : ie.zero = some z) (hsz : ie.size = cs.length) (hpos : 0 < cs.length) (hsmall : cs.length ≤ 16777216)
    (h : ∀ g w', Hid (w'.heap[g]? = some (.cells cs.toArray e (0, 0))) → w.grownBy w' none → w.heap.size ≤ g → g < w'.heap.size → K (a.put o.dst (.slice (some ⟨g, 0, none⟩) 1 1)) w') : o.wp P a w K Q :=
  wp_build1 t e x ho cs hx ie z hu hie hz hsz hpos hsmall (h _ _ (Lib.hid (heap_alloc_new w _)) (World.grownBy_alloc w _ none) (Nat.le_refl _) (by simp))
theorem wp_build0_abs {P : Program} {o : Oper} {a : Act} {w : World} {K : Act → World → Prop} {Q : Exit → Act → World → Prop} (t e : TypeId) (ho : o.op = .buildSlice t 0 #[]) (ie : TypeInfo)
    (hu : P.underlying t = some (.slice e)) (hie : P.info? e = some ie) (base size : Nat) (hb : base ≤ w.heap.size)
    (h : ∀ v w', w'.ownsRow base e size v 0 [] → w.grownBy w' none → (∀ j, v.ownBlock = some j → w.heap.size ≤ j) → K (a.put o.dst v) w') : o.wp P a w K Q :=
  wp_build0 t e ho ie hu hie (h _ _ (owns_empty w base e size hb) (World.grownBy_alloc w _ none) (fun j hj => by cases hj; exact Nat.le_refl _))
theorem heap_kept {w w' : World} {g : Nat} {o : Obj} {v : Value} {base n size : Nat} {e : TypeId} {xs : List Value} {w0 : World} (hx : w.heap[g]? = some o) (hg : w.grownBy w' v.ownBlock) (ov : w0.ownsRow base e size v n xs) (hl : w0.heap.size ≤ g) : w'.heap[g]? = some o :=
  (hg.block g (Array.getElem?_eq_some_iff.1 hx).1 (fun h => by have := (ov.lt g h.symm).2; omega)).trans hx
theorem heap_kept' {w w' : World} {g : Nat} {o : Obj} {v : Value} (hx : w.heap[g]? = some o) (hg : w.grownBy w' v.ownBlock) (hne : v.ownBlock ≠ some g) : w'.heap[g]? = some o :=
  (hg.block g (Array.getElem?_eq_some_iff.1 hx).1 (fun h => hne h.symm)).trans hx
theorem owns_relen {w : World} {base : Nat} {e : TypeId} {v : Value} {n : Nat} {l : List I32} (h : w.ownsRow base e 32 v n (idcs l)) : w.ownsRow base e 32 v l.length (idcs l) := by
  have h1 := h.1
  rw [idcs_len] at h1
  have : n = l.length := by omega
  rw [← this]; exact h
theorem owns_keep {w w' : World} {base : Nat} {e : TypeId} {size : Nat} {v : Value} {n : Nat} {xs : List Value} {row : Option Nat} (h : w.ownsRow base e size v n xs) (hg : w.grownBy w' row) (hr : ∀ j, row = some j → j < base) : w'.ownsRow base e size v n xs :=
  h.kept hg (by
    cases hv : v.ownBlock with
    | none => simp
    | some b =>
      have hb := (h.lt b hv).1
      cases row with
      | none => simp
      | some j => have := hr j rfl; simp; omega)
end Go.Proofs.Ytblidphaolgilaa
