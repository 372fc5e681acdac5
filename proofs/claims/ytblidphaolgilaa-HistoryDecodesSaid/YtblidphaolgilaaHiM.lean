/- A history in memory: its block, its map, what the map holds. -/
import Derived.Test.YtblidphaolgilaaHiW1
import Derived.Test.YtblidphaolgilaaHeld
import Derived.Deep.RegionHeld3
import Derived.WideKeyArr
import Derived.Maps.RangeWalk
namespace Go.Proofs.Ytblidphaolgilaa
open Go.RowKit Go.Maps Go.WideMaps
set_option linter.unusedSimpArgs false

theorem arrKeyId : ArrKey Try.prog 27 5 32 where
  hu := Try.underlying27
  plain := by kernel_rfl
  one := by kernel_rfl
  size := by kernel_rfl
theorem keyedId : Keyed Try.prog 27 := Keyed.of_law arrKeyId.law
theorem typesSucc : ∃ m, Try.prog.types.size = m + 1 := ⟨Try.prog.types.size - 1, by kernel_rfl⟩
theorem keyTypeId : Try.prog.keyType 27 = true := by kernel_rfl
theorem keyOfI (x : I32) : keyOf Try.prog 27 (.agg (encI x).toArray) = some (klI x) :=
  keyOf_bytes arrKeyId Try.underlying5 typesSucc keyTypeId x.1 x.2
theorem keyOfI_inv {v : Value} {l : Lit} (h : keyOf Try.prog 27 v = some l) : ∃ x : I32, v = .agg (encI x).toArray ∧ l = klI x := by
  obtain ⟨b, hb, hv, hl⟩ := keyOf_bytes_inv arrKeyId Try.underlying5 typesSucc keyTypeId h
  exact ⟨⟨b, hb⟩, hv, hl⟩
theorem zeroE (w : World) : (zeroValue 29).run Try.prog w = .ok (encX Ent.zero) w := by kernel_rfl

/-- entries as the map's elements read -/
noncomputable abbrev RE : Value → Option (DataW Ent × List MemPlace) := RB encX
theorem RE_mk (x : Ent) : RE (encX x) = some (.held x, []) := RB_mk encX_inj x

/-- nothing but the blocks named has turned -/
structure But (ms : Nat → Prop) (w w' : World) : Prop where
  os : w'.os = w.os
  tape : w'.tape = w.tape
  output : w'.output = w.output
  size : w.heap.size ≤ w'.heap.size
  block : ∀ k, k < w.heap.size → ¬ ms k → w'.heap[k]? = w.heap[k]?
theorem But.refl (ms : Nat → Prop) (w : World) : But ms w w := ⟨rfl, rfl, rfl, Nat.le_refl _, fun _ _ _ => rfl⟩
theorem But.trans {ms : Nat → Prop} {a b c : World} (h : But ms a b) (k : But ms b c) : But ms a c :=
  ⟨k.os.trans h.os, k.tape.trans h.tape, k.output.trans h.output, Nat.le_trans h.size k.size, fun i hi hn => (k.block i (Nat.lt_of_lt_of_le hi h.size) hn).trans (h.block i hi hn)⟩
theorem But.trans' {ms ns : Nat → Prop} {a b c : World} (h : But ms a b) (k : But ns b c) (hn : ∀ i, i < a.heap.size → ns i → ms i) : But ms a c :=
  ⟨k.os.trans h.os, k.tape.trans h.tape, k.output.trans h.output, Nat.le_trans h.size k.size, fun i hi hm => (k.block i (Nat.lt_of_lt_of_le hi h.size) (fun e => hm (hn i hi e))).trans (h.block i hi hm)⟩
theorem But.of_below {ms : Nat → Prop} {w w' : World} (h : Below w.heap.size w w') : But ms w w' := ⟨h.os, h.tape, h.output, h.size, fun k hk _ => h.block k hk⟩
theorem But.mono {ms ns : Nat → Prop} {w w' : World} (h : But ms w w') (hn : ∀ k, k < w.heap.size → ms k → ns k) : But ns w w' := ⟨h.os, h.tape, h.output, h.size, fun k hk hk' => h.block k hk (fun e => hk' (hn k hk e))⟩
theorem But.drew {ms : Nat → Prop} {w w' : World} (h : But ms w w') : But ms w w'.drew := ⟨h.os, h.tape, h.output, h.size, h.block⟩
theorem But.below {ms : Nat → Prop} {w w' : World} {B : Nat} (h : But ms w w') (hB : B ≤ w.heap.size) (hm : ∀ k, ms k → B ≤ k) : Below B w w' :=
  ⟨h.os, h.tape, h.output, h.size, fun k hk => h.block k (Nat.lt_of_lt_of_le hk hB) (fun e => by have := hm k e; omega)⟩
theorem But.grown {ms : Nat → Prop} {w w' : World} {row : Option Nat} (h : w.grownBy w' row) (hr : ∀ k, row = some k → ms k) : But ms w w' :=
  ⟨h.os, h.tape, h.output, h.size, fun k hk hn => h.block k hk (fun e => hn (hr k e.symm))⟩
theorem But.heap {ms : Nat → Prop} {w w' : World} (h : But ms w w') {g : Nat} {o : Obj} (hg : w.heap[g]? = some o) (hn : ¬ ms g) : w'.heap[g]? = some o :=
  (h.block g (Array.getElem?_eq_some_iff.1 hg).1 hn).trans hg

theorem But.cell {ms : Nat → Prop} {w w' : World} (h : But ms w w') {g j : Nat} (hg : g < w.heap.size) (hn : ¬ ms g) : w'.cell? ⟨g, j, none⟩ = w.cell? ⟨g, j, none⟩ := by
  unfold World.cell?
  rw [h.block g hg hn]
theorem But.range {ms : Nat → Prop} {w w' : World} (h : But ms w w') {g o : Nat} {cs : List Value} (hg : g < w.heap.size) (hn : ¬ ms g) (hr : w.rangeAt g o cs) : w'.rangeAt g o cs := fun j v hv => (h.cell hg hn).trans (hr j v hv)
/-- block mb holds the map of the rows -/
def MapAt (w : World) (mb : Nat) (l : List Ent) : Prop := ∃ D, w.ownsMap Try.prog 27 RE mb l.length D ∧ RepF D (fnd l) ∧ Maps.size D = l.length
/-- block hb holds a history: its rows, its cut-off -/
structure HistAt (w : World) (hb mb : Nat) (l : List Ent) (cut : Int) : Prop where
  blk : w.heap[hb]? = some (.cells #[.map (some mb), .int .i64 cut] 86 (0, 0))
  map : MapAt w mb l
  asc : SE l
  c0 : 0 ≤ cut
  c1 : cut ≤ 105190559
theorem ownsMap_tight {w : World} {P : Program} {k : TypeId} {β : Type} {R : Value → Option (DataW β × List MemPlace)} {b n m : Nat} {D : DataW β} (h : w.ownsMap P k R b n D) (hm : Maps.size D = m) : w.ownsMap P k R b m D := by
  obtain ⟨es, clock, hb, F, hs, rfl⟩ := h
  have e1 : Maps.size (DataW.map ((es.toList.map (Go.WideElems.rg P k R)).foldr DataW.insert [])) = es.size := by simp [Maps.size, length_sorted]
  exact ⟨es, clock, hb, F, by omega, rfl⟩
theorem ownsMap_heap {w w' : World} {P : Program} {k : TypeId} {β : Type} {R : Value → Option (DataW β × List MemPlace)} {b n : Nat} {D : DataW β} (h : w.ownsMap P k R b n D) (hb : w'.heap[b]? = w.heap[b]?) : w'.ownsMap P k R b n D := by
  obtain ⟨es, clock, hg, r⟩ := h
  exact ⟨es, clock, hb.trans hg, r⟩
theorem MapAt.lt {w : World} {mb : Nat} {l : List Ent} (h : MapAt w mb l) : mb < w.heap.size := by obtain ⟨D, h, _⟩ := h; exact h.lt
theorem MapAt.of_heap {w w' : World} {mb : Nat} {l : List Ent} (h : MapAt w mb l) (hb : w'.heap[mb]? = w.heap[mb]?) : MapAt w' mb l := by
  obtain ⟨D, h, r⟩ := h
  exact ⟨D, ownsMap_heap h hb, r⟩
theorem HistAt.ne {w : World} {hb mb : Nat} {l : List Ent} {cut : Int} (h : HistAt w hb mb l cut) : hb ≠ mb := by
  obtain ⟨D, ⟨es, clock, hg, _⟩, _⟩ := h.map
  intro e
  have := h.blk
  rw [e, hg] at this
  cases this
theorem HistAt.lt {w : World} {hb mb : Nat} {l : List Ent} {cut : Int} (h : HistAt w hb mb l cut) : hb < w.heap.size := (Array.getElem?_eq_some_iff.1 h.blk).1
theorem HistAt.of_heap {w w' : World} {hb mb : Nat} {l : List Ent} {cut : Int} (h : HistAt w hb mb l cut) (h1 : w'.heap[hb]? = w.heap[hb]?) (h2 : w'.heap[mb]? = w.heap[mb]?) : HistAt w' hb mb l cut :=
  ⟨h1.trans h.blk, h.map.of_heap h2, h.asc, h.c0, h.c1⟩
theorem HistAt.below {w w' : World} {hb mb : Nat} {l : List Ent} {cut : Int} (h : HistAt w hb mb l cut) {n : Nat} (b : Below n w w') (h1 : hb < n) (h2 : mb < n) : HistAt w' hb mb l cut := h.of_heap (b.block hb h1) (b.block mb h2)
theorem HistAt.kept {w w' : World} {hb mb : Nat} {l : List Ent} {cut : Int} (h : HistAt w hb mb l cut) (b : Below w.heap.size w w') : HistAt w' hb mb l cut := h.below b h.lt h.map.lt
theorem HistAt.but {w w' : World} {hb mb : Nat} {l : List Ent} {cut : Int} {ms : Nat → Prop} (h : HistAt w hb mb l cut) (b : But ms w w') (h1 : ¬ ms hb) (h2 : ¬ ms mb) : HistAt w' hb mb l cut := h.of_heap (b.block hb h.lt h1) (b.block mb h.map.lt h2)
/-- the two blocks of a history -/
def Two (hb mb : Nat) (k : Nat) : Prop := k = hb ∨ k = mb
/-- 'v, ok := m[id]' -/
theorem MapAt.look_ok {w : World} {mb : Nat} {l : List Ent} (h : MapAt w mb l) (id : I32) :
    (Instr.lookup 84 (.map (some mb)) (.agg (encI id).toArray) true).run Try.prog w = .ok (.tuple #[encX ((fnd l id).getD Ent.zero), .bool (fnd l id).isSome]) w := by
  obtain ⟨D, ho, hr, _⟩ := h
  obtain ⟨v, ps, hrun, hv⟩ := ho.look_ok keyedId Try.underlying84 (zeroE w) (RE_mk _) (keyOfI id)
  rw [hr.at_] at hv
  obtain ⟨x, rfl, hx⟩ := RB_inv hv
  simp only [Prod.mk.injEq, DataW.held.injEq] at hx
  rw [hrun, hr.has, hx.1]
theorem MapAt.len {w : World} {mb : Nat} {l : List Ent} (h : MapAt w mb l) (ty : TypeId) : (Builtin.len_ #[84] ty #[.map (some mb)]).run Try.prog w = .ok (.int .i64 l.length) w := by
  obtain ⟨D, ho, _, hs⟩ := h
  rw [← hs]
  exact ho.len Try.underlying84 ty
/-- 'm[id] = x' -/
theorem MapAt.store {w : World} {mb : Nat} {l : List Ent} (h : MapAt w mb l) (hl : l.length < 1000000) (x : Ent) :
    ∃ w', (Instr.mapUpdate 84 (.map (some mb)) (.agg (encI x.id).toArray) (encX x)).run Try.prog w = .ok () w' ∧ w.grownBy w' (some mb) ∧
      (∀ l', (∀ i, fnd l' i = if i = x.id then some x else fnd l i) → l'.length = (if (fnd l x.id).isSome then l.length else l.length + 1) → MapAt w' mb l') := by
  obtain ⟨D, ho, hr, hs⟩ := h
  obtain ⟨w', hrun, ho', ht⟩ := ho.store keyedId Try.underlying84 (by unfold maxLen; omega) (keyOfI x.id) (RE_mk x)
  refine ⟨w', hrun, ht.grown, fun l' hf hlen => ?_⟩
  have hsz : Maps.size (D.put (klI x.id) (.held x)) = l'.length := by
    rw [hr.put_size (ho.tidy keyedId), hlen, hs]
  exact ⟨_, ownsMap_tight ho' hsz, (hr.put ho.isMap x.id x).congr (fun i => (hf i).symm), hsz⟩
/-- 'delete(m, id)' -/
theorem MapAt.drop {w : World} {mb : Nat} {l : List Ent} (h : MapAt w mb l) (id : I32) (ty : TypeId) :
    ∃ w', (Builtin.delete_ #[84, 27] ty #[.map (some mb), .agg (encI id).toArray]).run Try.prog w = .ok (.tuple #[]) w' ∧ w.grownBy w' (some mb) ∧
      (∀ l', (∀ i, fnd l' i = if i = id then none else fnd l i) → l'.length + (if (fnd l id).isSome then 1 else 0) = l.length → MapAt w' mb l') := by
  obtain ⟨D, ho, hr, hs⟩ := h
  obtain ⟨w', hrun, ho', ht⟩ := ho.drop keyedId Try.underlying84 (keyOfI id) ty
  refine ⟨w', hrun, ht.grown, fun l' hf hlen => ?_⟩
  have hsz : Maps.size (D.del (klI id)) = l'.length := by
    have := hr.del_size (ho.tidy keyedId) id
    omega
  exact ⟨_, ownsMap_tight ho' hsz, (hr.del id).congr (fun i => (hf i).symm), hsz⟩
theorem MapAt.made (w : World) : MapAt (w.alloc (.map #[] 0)) w.heap.size [] :=
  ⟨.map [], World.ownsMap_made w _ _ _, RepF.empty, rfl⟩
end Go.Proofs.Ytblidphaolgilaa
