/- Moves of a walk through a region that draws its order and whose last operations write what its first ones read: the condition on the world is asked as long as none of the last ones has come up. -/
import Derived.WalkKit
import Derived.OrdersHeld
import Derived.Deep.RegionHeld
import Derived.Deep.RegionHeld3
import Derived.Deep.MidRow
import Derived.Lib.Hide
import Derived.Test.YtblidphaolgilaaHeld
import Derived.Test.YtblidphaolgilaaRound
namespace Go.Proofs.Ytblidphaolgilaa
open Go.RowKit

section
variable {P : Program} {ops : Array Oper} {Q : Exit → Act → World → Prop} {md : Region.Mode} {S : World → Prop} {zs : List Nat}

/-- whatever order is picked from here on, and S holds behind every operation but those of zs -/
def wpAnyZ (P : Program) (md : Region.Mode) (ops : Array Oper) (Q : Exit → Act → World → Prop) (S : World → Prop) (zs : List Nat) : Nat → Array Bool → Act → World → Prop
  | 0, listed, a, w => Region.ready md ops listed = [] ∧ Q .normal a w
  | fuel + 1, listed, a, w =>
    (Region.ready md ops listed = [] → Q .normal a w) ∧
    ∀ i ∈ Region.ready md ops listed, wpOp P ops Q i (fun a' w' => (i ∉ zs → S w') ∧ wpAnyZ P md ops Q S zs fuel (listed.setIfInBounds i true) a' w') a w
theorem wpAny_of_z : ∀ (fuel : Nat) (listed : Array Bool) (a : Act) (w : World), wpAnyZ P md ops Q S zs fuel listed a w → wpAny P md ops Q fuel listed a w
  | 0, _, _, _, h => h
  | fuel + 1, _, _, _, h => ⟨h.1, fun i hi => wpOp_mono (fun a' w' h' => wpAny_of_z fuel _ a' w' h'.2) (h.2 i hi)⟩

/-- z waits for i, straight or through others -/
def reach (md : Region.Mode) (ops : Array Oper) : Nat → Nat → Nat → Bool
  | 0, _, _ => false
  | fuel + 1, z, i => match ops[z]? with
    | some o => o.after.any fun e => Region.binds md e && (e.on == i || reach md ops fuel e.on i)
    | none => false
/-- whatever has come up, all that it waits for has, too -/
def Shutup (md : Region.Mode) (ops : Array Oper) (listed : Array Bool) : Prop := ∀ j o, ops[j]? = some o → listed.getD j false = true → ∀ e ∈ o.after, Region.binds md e = true → listed.getD e.on false = true
def shutupB (md : Region.Mode) (ops : Array Oper) (listed : Array Bool) : Bool :=
  (List.range ops.size).all fun j => !listed.getD j false || ((ops[j]?).map (·.after.all fun e => !Region.binds md e || listed.getD e.on false)).getD true
theorem shutup_of {listed : Array Bool} (h : shutupB md ops listed = true) : Shutup md ops listed := by
  intro j o ho hj e he hb
  have hlt : j < ops.size := (Array.getElem?_eq_some_iff.1 ho).1
  have h1 := List.all_eq_true.1 h j (List.mem_range.2 hlt)
  simp only [ho, hj, Bool.not_true, Bool.false_or, Option.map_some, Option.getD_some] at h1
  have h2 := Array.all_eq_true_iff_forall_mem.1 h1 e he
  simpa [hb] using h2
theorem Shutup.set {listed : Array Bool} (h : Shutup md ops listed) {j : Nat} (hj : j ∈ Region.ready md ops listed) : Shutup md ops (listed.setIfInBounds j true) := by
  intro k o ho hk e he hb
  obtain ⟨_, oj, hoj, hall⟩ := mem_ready.1 hj
  by_cases hkj : k = j
  · subst hkj
    rw [ho] at hoj
    cases hoj
    exact getD_set_true (hall e he hb)
  · rw [getD_set_ne false (Ne.symm hkj)] at hk
    exact getD_set_true (h k o ho hk e he hb)
/-- who has all that he waits for, has all that lies below -/
theorem reach_listed {listed : Array Bool} (h : Shutup md ops listed) : ∀ (fuel z i : Nat), reach md ops fuel z i = true → (∀ o, ops[z]? = some o → ∀ e ∈ o.after, Region.binds md e = true → listed.getD e.on false = true) → listed.getD i false = true
  | 0, _, _, hr, _ => by simp [reach] at hr
  | fuel + 1, z, i, hr, hz => by
    unfold reach at hr
    cases ho : ops[z]? with
    | none => rw [ho] at hr; cases hr
    | some o =>
      rw [ho] at hr
      simp only at hr
      obtain ⟨k, hk, hc⟩ := Array.any_eq_true.1 hr
      obtain ⟨e, hek⟩ : ∃ e, e = o.after[k] := ⟨_, rfl⟩
      have he : e ∈ o.after := hek ▸ Array.getElem_mem hk
      rw [← hek] at hc
      simp only [Bool.and_eq_true, Bool.or_eq_true, beq_iff_eq] at hc
      obtain ⟨hb, hc⟩ := hc
      have h1 := hz o ho e he hb
      rcases hc with rfl | hc
      · exact h1
      · exact reach_listed h fuel e.on i hc (fun o' ho' e' he' hb' => h e.on o' ho' h1 e' he' hb')

theorem wpAnyZ_first {i : Nat} {oi : Oper} {v : Value} (hi : ops[i]? = some oi) (hsel : ∀ (j : Nat) (o : Oper) cs b, ops[j]? = some o → o.op ≠ .select cs b)
    (hQ : ∀ c a w, Q (.panic c) (a.put oi.dst v) w → Q (.panic c) a w) (N : Nat) (hz : ∀ z ∈ zs, reach md ops N z i = true) :
    ∀ (fuel : Nat) (listed : Array Bool) (a : Act) (w : World), Shutup md ops listed →
      (∀ j oj, ops[j]? = some oj → j ≠ i → listed.getD j true = false → (∀ e ∈ oj.after, Region.binds md e = true → e.on ≠ i) → oi.apart ops oj = true) →
      i ∈ Region.ready md ops listed → YieldsIf P ops S oi v a → S w →
      wpAnyZ P md ops Q S zs fuel (listed.setIfInBounds i true) (a.put oi.dst v) w → wpAnyZ P md ops Q S zs (fuel + 1) listed a w := by
  intro fuel
  induction fuel with
  | zero =>
    intro listed a w _ _ hr hy hS H
    refine ⟨fun h => (by rw [h] at hr; cases hr), fun j hj => ?_⟩
    by_cases hji : j = i
    · subst hji; exact hy.wpOp hi hS ⟨fun _ => hS, H⟩
    · have := ready_mono hj hji
      rw [H.1] at this
      cases this
  | succ fuel ih =>
    intro listed a w hsh hfree hr hy hS H
    refine ⟨fun h => (by rw [h] at hr; cases hr), fun j hj => ?_⟩
    by_cases hji : j = i
    · subst hji; exact hy.wpOp hi hS ⟨fun _ => hS, H⟩
    · have h1 := H.2 j (ready_mono hj hji)
      obtain ⟨hjun, oj, hoj, hall⟩ := mem_ready.1 hj
      have hiu : listed.getD i false = false := by
        have h0 := (mem_ready.1 hr).1
        rcases Nat.lt_or_ge i listed.size with h' | h'
        · simp [h'] at h0 ⊢; exact h0
        · simp [Array.getElem?_eq_none h']
      have hjz : j ∉ zs := fun hm => by
        have h2 := reach_listed hsh N j i (hz j hm) (fun o ho e he hb => by rw [hoj] at ho; cases ho; exact hall e he hb)
        rw [h2] at hiu
        cases hiu
      have hnot : ∀ e ∈ oj.after, Region.binds md e = true → e.on ≠ i := fun e he hb heq => by
        have h1 := hall e he hb
        rw [heq, hiu] at h1
        cases h1
      have h2 := wpOp_putIf hoj (hfree j oj hoj hji hjun hnot) (fun cs b => hsel i oi cs b hi) (fun cs b => hsel j oj cs b hoj) hQ hy h1
      have hfree' : ∀ k ok, ops[k]? = some ok → k ≠ i → (listed.setIfInBounds j true).getD k true = false →
          (∀ e ∈ ok.after, Region.binds md e = true → e.on ≠ i) → oi.apart ops ok = true := fun k ok hk hki hun hno => by
        refine hfree k ok hk hki ?_ hno
        by_cases hjk : j = k
        · subst hjk; exact hjun
        · rw [getD_set_ne true hjk] at hun; exact hun
      refine wpOp_mono (fun a' w' h3 => ⟨h3.2.1, ih (listed.setIfInBounds j true) a' w' (hsh.set hj) hfree' (ready_mono hr (Ne.symm hji)) h3.1 (h3.2.1 hjz) ?_⟩) h2
      rw [Array.setIfInBounds_comm _ _ hji]
      exact h3.2.2

theorem wpAnyZ_take {i : Nat} {oi : Oper} {v : Value} {fuel : Nat} {listed : Array Bool} {a : Act} {w : World} (hi : ops[i]? = some oi)
    (hs : Region.noSelect ops = true) (hf : Region.free md ops listed i = true) (hr : (Region.ready md ops listed).contains i = true)
    (hz : (zs.all fun z => reach md ops ops.size z i) = true) (hsh : shutupB md ops listed = true)
    (hQ : ∀ c a w, Q (.panic c) (a.put oi.dst v) w → Q (.panic c) a w) (hy : YieldsIf P ops S oi v a) (hS : S w)
    (h : wpAnyZ P md ops Q S zs fuel (listed.setIfInBounds i true) (a.put oi.dst v) w) : wpAnyZ P md ops Q S zs (fuel + 1) listed a w :=
  wpAnyZ_first hi (Region.noSelect_spec hs) hQ ops.size (fun z hm => List.all_eq_true.1 hz z hm) fuel listed a w (shutup_of hsh) (Region.free_spec hi hf) (by simpa using hr) hy hS h
theorem wpAnyZ_done {listed : Array Bool} {a : Act} {w : World} (hr : Region.ready md ops listed = []) (h : Q .normal a w) :
    ∀ fuel, wpAnyZ P md ops Q S zs fuel listed a w
  | 0 => ⟨hr, h⟩
  | _ + 1 => ⟨fun _ => h, by rw [hr]; simp⟩
end

section
variable {P : Program} {l rest : List Oper} {oi : Oper} {Q : Exit → Act → World → Prop} {md : Region.Mode} {S : World → Prop} {zs : List Nat} {fuel : Nat} {listed : Array Bool} {a : Act} {w : World}
theorem takeZ (i : Nat) {v : Value} (hl : l.drop i = oi :: rest) (hs : Region.noSelect l.toArray = true) (hf : Region.free md l.toArray listed i = true) (hr : (Region.ready md l.toArray listed).contains i = true)
    (hz : (zs.all fun z => reach md l.toArray l.toArray.size z i) = true) (hsh : shutupB md l.toArray listed = true)
    (hQ : ∀ c a w, Q (.panic c) (a.put oi.dst v) w → Q (.panic c) a w) (hw : Region.wanted oi (yielded l.toArray a.tmps) = true) (hS : S w)
    (hy : ∀ w, S w → (execOp a.eval oi).run P w = .ok (.value v) w)
    (h : wpAnyZ P md l.toArray Q S zs fuel (listed.setIfInBounds i true) (a.put oi.dst v) w) : wpAnyZ P md l.toArray Q S zs (fuel + 1) listed a w :=
  wpAnyZ_take (drop_at hl) hs hf hr hz hsh hQ (.inl ⟨hw, hy⟩) hS h
theorem skipZ (i : Nat) (hl : l.drop i = oi :: rest) (hs : Region.noSelect l.toArray = true) (hf : Region.free md l.toArray listed i = true) (hr : (Region.ready md l.toArray listed).contains i = true)
    (hz : (zs.all fun z => reach md l.toArray l.toArray.size z i) = true) (hsh : shutupB md l.toArray listed = true)
    (hQ : ∀ c a w, Q (.panic c) (a.put oi.dst undef) w → Q (.panic c) a w) (hw : Region.wanted oi (yielded l.toArray a.tmps) = false) (hS : S w)
    (h : wpAnyZ P md l.toArray Q S zs fuel (listed.setIfInBounds i true) (a.put oi.dst undef) w) : wpAnyZ P md l.toArray Q S zs (fuel + 1) listed a w :=
  wpAnyZ_take (drop_at hl) hs hf hr hz hsh hQ (.inr ⟨hw, rfl⟩) hS h
theorem takeRowZ (i : Nat) (hl : l.drop i = oi :: rest) (hs : Region.noSelect l.toArray = true) (hf : Region.free md l.toArray listed i = true) (hr : (Region.ready md l.toArray listed).contains i = true)
    (hz : (zs.all fun z => reach md l.toArray l.toArray.size z i) = true) (hsh : shutupB md l.toArray listed = true)
    (ty : TypeId) (x : Operand) (ho : oi.op = .load ty x) (b o : Nat) (hx : a.eval x = .pointer (some ⟨b, o, none⟩)) (cs : List Value) (d : TypeDesc)
    (hQ : ∀ c a w, Q (.panic c) (a.put oi.dst (.agg cs.toArray)) w → Q (.panic c) a w) (hw : Region.wanted oi (yielded l.toArray a.tmps) = true) (hS : S w)
    (hc : ∀ w, S w → w.rangeAt b o cs) (hu : P.underlying ty = some d) (hd : d.isRow = true) (hi : (P.info? ty).map (·.size) = some cs.length)
    (h : wpAnyZ P md l.toArray Q S zs fuel (listed.setIfInBounds i true) (a.put oi.dst (.agg cs.toArray)) w) : wpAnyZ P md l.toArray Q S zs (fuel + 1) listed a w :=
  wpAnyZ_take (drop_at hl) hs hf hr hz hsh hQ (yieldsIf_load_mid hw ty x ho b o hx cs d hc hu hd hi) hS h
/-- the only one that may come up: one of those behind which S is to be shown -/
theorem heavyZ (i : Nat) (hl : l.drop i = oi :: rest) (hr : Region.ready md l.toArray listed = [i])
    (h : ∀ K' : Act → World → Prop, Shut (∀ a w, S w → (S w → wpAnyZ P md l.toArray Q S zs fuel (listed.setIfInBounds i true) a w) → K' a w) → if Region.wanted oi (yielded l.toArray a.tmps) = true then Oper.wp P oi a w K' Q else K' (a.put oi.dst undef) w) :
    wpAnyZ P md l.toArray Q S zs (fuel + 1) listed a w := by
  refine ⟨fun h0 => (by rw [hr] at h0; cases h0), fun j hj => ?_⟩
  rw [hr] at hj
  obtain rfl : j = i := by simpa using hj
  have h1 := h (fun a' w' => S w' ∧ wpAnyZ P md l.toArray Q S zs fuel (listed.setIfInBounds j true) a' w') (fun a w hs hh => ⟨hs, hh hs⟩)
  unfold wpOp
  rw [drop_at hl]
  simp only
  split
  · rename_i hw
    rw [if_pos hw] at h1
    exact .inl (Oper.wp_mono (fun a' w' h => ⟨fun _ => h.1, h.2⟩) h1)
  · rename_i hw
    rw [if_neg hw] at h1
    exact ⟨fun _ => h1.1, h1.2⟩
/-- the only one that may come up: one of the last -/
theorem lastZ (i : Nat) (hl : l.drop i = oi :: rest) (hr : Region.ready md l.toArray listed = [i]) (hz : zs.contains i = true)
    (h : ∀ K' : Act → World → Prop, Shut (∀ a w, wpAnyZ P md l.toArray Q S zs fuel (listed.setIfInBounds i true) a w → K' a w) → if Region.wanted oi (yielded l.toArray a.tmps) = true then Oper.wp P oi a w K' Q else K' (a.put oi.dst undef) w) :
    wpAnyZ P md l.toArray Q S zs (fuel + 1) listed a w := by
  refine ⟨fun h0 => (by rw [hr] at h0; cases h0), fun j hj => ?_⟩
  rw [hr] at hj
  obtain rfl : j = i := by simpa using hj
  have hm : j ∈ zs := by simpa using hz
  have h1 := h (fun a' w' => wpAnyZ P md l.toArray Q S zs fuel (listed.setIfInBounds j true) a' w') (fun a w hh => hh)
  unfold wpOp
  rw [drop_at hl]
  simp only
  split
  · rename_i hw
    rw [if_pos hw] at h1
    exact .inl (Oper.wp_mono (fun a' w' h => ⟨fun hn => absurd hm hn, h⟩) h1)
  · rename_i hw
    rw [if_neg hw] at h1
    exact ⟨fun hn => absurd hm hn, h1⟩
end
section
variable {P : Program} {Q : Exit → Act → World → Prop} {S : World → Prop}
/-- the beginning -/
theorem region_z {id : Nat} {ops : Array Oper} {a : Act} {w : World} (zs : List Nat) (hm : P.follows .mixedOrders = true) (hS : S w.drew)
    (h : S w.drew → wpAnyZ P .any ops Q S zs ops.size (Array.replicate ops.size false) a w.drew) : (Code.region id ops true).wp P Q a w :=
  wp_region_any hm (wpAny_of_z _ _ _ _ (h hS))
/-- the same in a round -/
theorem region_zIn {l n id : Nat} {ops : Array Oper} {a : Act} {w : World} (zs : List Nat) (hm : P.follows .mixedOrders = true) (hd : noDefer ops = true) (hS : S w.drew)
    (h : S w.drew → wpAnyZ P .any ops (NoPanic (OnlyN Q)) S zs ops.size (Array.replicate ops.size false) a w.drew) : (Code.region id ops true).wpIn (Fence.wide.inRound l) n P Q a w :=
  wpIn_mono (wpIn_region_any hm (wpAny_inRound OnlyN.shut hd _ _ _ _ (wpAny_of_z _ _ _ _ (h hS)))) OnlyN.imp
end
end Go.Proofs.Ytblidphaolgilaa
