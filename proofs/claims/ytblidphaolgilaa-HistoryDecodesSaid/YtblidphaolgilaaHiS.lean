/- History: the orders of entries; slices.SortFunc at entries. -/
import Derived.Test.YtblidphaolgilaaHiW3
import Derived.Test.YtblidphaolgilaaRowK
import Derived.Test.YtblidphaolgilaaBCmp
import Derived.Test.YtblidphaolgilaaShelfL
namespace Go.Proofs.Ytblidphaolgilaa
open Go.RowKit Go.Shelf Go.Lib Go.Sort Go.Maps
set_option linter.unusedSimpArgs false

instance : Inhabited Ent := ⟨Ent.zero⟩
/-- the cells of a row of entries -/
abbrev ecs (l : List Ent) : List Value := rcs encE l
/-- the order by identities -/
def cfE (x y : Ent) : Int := cfI x.id y.id
theorem swoE : SWO (ltOf cfE) where
  irrefl x := swoI.irrefl x.id
  trans x y z h1 h2 := swoI.trans x.id y.id z.id h1 h2
  ntrans x y z h1 h2 := swoI.ntrans x.id y.id z.id h1 h2
theorem EntAt.byt {w : World} {b : Nat} {T : TypeId} {x : Ent} (h : EntAt w b T x) (k : Nat) (hk : k < x.id.1.length) : w.cell? ⟨b, 0 + k, none⟩ = some (.int .u8 (byt x.id.1 k)) := by
  rw [Nat.zero_add]
  have h32 := x.id.2
  exact h.cell k _ (by rw [encE_at x k (by omega)]; exact byteCells_get x.id.1 k hk)
set_option maxRecDepth 100000 in
set_option maxHeartbeats 400000 in
theorem byId_grow (x y : Ent) (w : World) :
    Calls Try.prog 49 #[encX x, encX y] w fun e w' => e = .returned (.int .i64 (cfE x y)) ∧ ∃ q os, w' = grow (w.drewN q) os := by
  unfold cfE cfI encX
  have h1 : EntAt ((w.alloc (.cells (encE x).toArray 29)).alloc (.cells (encE y).toArray 29)) w.heap.size 29 x := heap_alloc_old' (EntAt.new w x _)
  have h2 := EntAt.new (w.alloc (.cells (encE x).toArray 29)) y 29
  have hsz : (w.alloc (.cells (encE x).toArray 29)).heap.size = w.heap.size + 1 := by simp
  rw [hsz] at h2
  have HC : Hid (∀ nq, Calls Try.prog 65 #[.slice (some ⟨w.heap.size, 0, none⟩) 32 32, .slice (some ⟨w.heap.size + 1, 0, none⟩) 32 32] (((w.alloc (.cells (encE x).toArray 29)).alloc (.cells (encE y).toArray 29)).drewN nq) fun e w' => e = .returned (.int .i64 (Lib.compareBytes x.id.1 y.id.1)) ∧ w' = ((w.alloc (.cells (encE x).toArray 29)).alloc (.cells (encE y).toArray 29)).drewN nq) := Lib.hid (fun nq => bytesCompare_any _ 0 _ _ _ 0 _ _ x.id.1 y.id.1 _ x.id.2 y.id.2 (fun k hk => by simpa using h1.byt k hk) (fun k hk => by simpa using h2.byt k hk) |>.mono fun _ _ h => ⟨h.1, h.2.symm⟩)
  clear h1 h2 hsz
  go_enter Try.func49, Try.ntmps49
  go_wp2_with fail
  go_quiet ((go_at_call 65; exact Calls.quiet_of_same (HC.out _)))
  go_wp2
  go_ret
  exact ⟨rfl, _, _, by rw [alloc_eq_grow, alloc_eq_grow, grow_grow]; exact rfl⟩
theorem isAggE (w : World) : (isAgg 29).run Try.prog w = .ok true w := Try.isAgg29 w
/-- slices.SortFunc at entries, by a function that orders them -/
theorem sortE_any (cf : Ent → Ent → Int) (hO : SWO (ltOf cf)) (g : Nat) (base n : Nat) (v : Value) (l : List Ent) (hn : l.length ≤ 1000000) (w : World)
    (eg : ∀ args w, (callFunc g args).run Try.prog w = .ok (.enter g args) w)
    (hc : ∀ x y W, Calls Try.prog g #[encX x, encX y] W fun e w' => e = .returned (.int .i64 (cf x y)) ∧ ∃ q os, w' = grow (W.drewN q) os)
    (h : w.ownsRow base 29 36 v n (ecs l)) :
    Calls Try.prog 64 #[v, .func (.func g) #[] #[]] w fun e w' => e = .returned (.tuple #[]) ∧ (∃ l', l'.Perm l ∧ (l'.Pairwise fun a b => ltOf cf b a = false) ∧ w'.ownsRow base 29 36 v n (ecs l')) ∧ w.grownBy w' v.ownBlock := by
  have hln := (rows_of_owns encE_len (by decide) h).1
  have h' := h
  rcases h.2 with ⟨rfl, rfl⟩ | ⟨gg, cap, cur, rfl, hb, hg, h4, h5, h6, h7⟩
  · have hn := AnyF.slices_SortFunc_none Try.sortE none 0 (.func (.func g) #[] #[]) w
    refine Calls.mono hn ?_
    rintro e w' ⟨rfl, rfl⟩
    obtain rfl := List.eq_nil_of_length_eq_zero hln
    exact ⟨rfl, ⟨[], List.Perm.refl _, List.Pairwise.nil, h'⟩, World.grownBy.refl _ _⟩
  · have hcon := AnyQ.slices_SortFunc Try.sortE 36 Try.isAgg29 Try.sizeOf29 encE encE_len encE_one cf hO g #[] gg 0 cap l.toArray w eg (fun _ _ _ _ x y => hc x y _) (holds_of_ownsK encE_len (by decide) h') (Array.getElem?_eq_some_iff.1 hg).1 (by simp; omega)
    have hsz : l.toArray.size = n := by simpa using hln
    rw [hsz] at hcon
    refine Calls.mono hcon ?_
    rintro e w' ⟨rfl, d', m, os, hp, hs, rfl⟩
    obtain ⟨p1, _, p3⟩ := hp
    have hd : d'.size = n := by rw [p1]; simpa using hln
    have hpm : d'.toList.Perm l := by
      rw [Array.extract_eq_self_of_le (by omega), Array.extract_eq_self_of_le (by simp; omega)] at p3
      simpa using p3
    refine ⟨rfl, ⟨d'.toList, hpm, ?_, ?_⟩, grownBy_sortedRK _⟩
    · rw [List.pairwise_iff_getElem]
      intro i j hi hj hij
      have h5 : j < d'.size := by simpa using hj
      have := hs i j (Nat.zero_le _) hij (by omega)
      rw [getElem!_pos d' j (by simpa using hj), getElem!_pos d' i (by simpa using hi)] at this
      simpa using this
    · have := owns_sortedRK (os := os) (m := m) encE_len (by decide) (l := l) (l' := d'.toList) hpm.length_eq h'
      simpa using this
end Go.Proofs.Ytblidphaolgilaa
