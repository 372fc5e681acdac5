/- Entries of a history, its rows in ascending order of identities, and what is done with them. Plain. -/
import Derived.Test.YtblidphaolgilaaOrdB
namespace Go.Proofs.Ytblidphaolgilaa
open Go.RowKit Go.Lib Go.Sort

/-- a number of 64 bits -/
abbrev I64 := { n : Int // -9223372036854775808 ≤ n ∧ n ≤ 9223372036854775807 }
theorem i64_wf (x : I64) : (Lit.int .i64 x.1).wf = true := WalkArith.wf_i64 x.2
def i64 (n : Int) (h : -9223372036854775808 ≤ n ∧ n ≤ 9223372036854775807 := by decide) : I64 := ⟨n, h⟩
/-- an entry -/
structure Ent where
  id : I32
  arr : I64
  dat : I64
  st : I64
  perm : Bool
def Ent.zero : Ent := ⟨default, ⟨0, by decide⟩, ⟨0, by decide⟩, ⟨0, by decide⟩, false⟩
def encE (x : Ent) : List Value := encI x.id ++ [.int .i64 x.arr.1, .int .i64 x.dat.1, .int .i64 x.st.1, .bool x.perm]
theorem encE_len (x : Ent) : (encE x).length = 36 := by simp [encE, encI_len]
theorem encE_one (x : Ent) : ∀ v ∈ encE x, v.oneCell' = true := by
  intro v hv
  unfold encE at hv
  rcases List.mem_append.1 hv with h | h
  · exact encI_one x.id v h
  · simp only [List.mem_cons, List.not_mem_nil, or_false] at h
    rcases h with rfl | rfl | rfl | rfl <;> rfl
theorem encE_inj {x y : Ent} (h : encE x = encE y) : x = y := by
  unfold encE at h
  have h1 := List.append_inj h (by rw [encI_len, encI_len])
  obtain ⟨h2, h3⟩ := h1
  simp only [List.cons.injEq, Value.int.injEq, true_and, Value.bool.injEq, and_true] at h3
  obtain ⟨a, b, c, d⟩ := h3
  have e := encI_inj h2
  cases x; cases y
  simp only at *
  subst e
  have := Subtype.ext a
  subst this
  have := Subtype.ext b
  subst this
  have := Subtype.ext c
  subst this
  subst d
  rfl
theorem encE_id (x : Ent) : (encE x).take 32 = encI x.id := by
  unfold encE
  rw [List.take_append_of_le_length (by rw [encI_len]; omega), List.take_of_length_le (by rw [encI_len]; omega)]
theorem encE_at (x : Ent) (j : Nat) (h : j < 32) : (encE x)[j]? = (encI x.id)[j]? := by
  unfold encE; rw [List.getElem?_append_left (by rw [encI_len]; omega)]
theorem encE_32 (x : Ent) : (encE x)[32]? = some (.int .i64 x.arr.1) := by unfold encE; rw [List.getElem?_append_right (by rw [encI_len]; omega), encI_len]; rfl
theorem encE_33 (x : Ent) : (encE x)[33]? = some (.int .i64 x.dat.1) := by unfold encE; rw [List.getElem?_append_right (by rw [encI_len]; omega), encI_len]; rfl
theorem encE_34 (x : Ent) : (encE x)[34]? = some (.int .i64 x.st.1) := by unfold encE; rw [List.getElem?_append_right (by rw [encI_len]; omega), encI_len]; rfl
theorem encE_35 (x : Ent) : (encE x)[35]? = some (.bool x.perm) := by unfold encE; rw [List.getElem?_append_right (by rw [encI_len]; omega), encI_len]; rfl

/-- a minute -/
def minB (n : Int) : Bool := decide (0 ≤ n) && decide (n ≤ 105190559)
/-- the first error of an entry -/
def chk (x : Ent) : Int := if minB x.arr.1 && minB x.dat.1 then (if x.st.1 = 0 ∨ x.st.1 = 1 then 0 else 11) else 13
def fnd (l : List Ent) (id : I32) : Option Ent := l.find? (fun y => decide (y.id = id))
def insE (x : Ent) : List Ent → List Ent
  | [] => [x]
  | a :: l => if ltI a.id x.id then a :: insE x l else x :: a :: l
def addE (l : List Ent) (x : Ent) : List Ent × Int := if chk x = 0 then (if (fnd l x.id).isSome then (l, 7) else (insE x l, 0)) else (l, chk x)
def gone1 (id : I32) (z : Ent) : Ent := if z.id = id then { z with st := ⟨1, by decide⟩ } else z
def goneE (l : List Ent) (id : I32) : List Ent × Int :=
  match fnd l id with
  | none => (l, 8)
  | some y => if y.st.1 = 1 then (l, 10) else (l.map (gone1 id), 0)
def oldB (d now : Int) : Bool := decide (d < now - 20160)
def goesE (now : Int) (x : Ent) : Bool := decide (x.st.1 = 1) && !x.perm && oldB x.dat.1 now
def forgR (l : List Ent) (now : Int) : List Ent := if minB now then l.filter (fun x => !goesE now x) else l
def forgO (l : List Ent) (now : Int) : List I32 := if minB now then (l.filter (goesE now)).map (·.id) else []
def forgC (l : List Ent) (cut now : Int) : Int := if forgO l now = [] then cut else max cut now
def judgeE (l : List Ent) (cut : Int) (id : I32) (d now : Int) (perm : Bool) : Int :=
  if minB d && minB now then (if (fnd l id).isSome then 7 else if d > now + 1440 then 15 else if (oldB d now || oldB d cut) && !perm then 14 else 0) else 13

/-- strictly ascending by identities -/
def SE (l : List Ent) : Prop := l.Pairwise fun a b => ltI a.id b.id = true
theorem SE.nil : SE [] := List.Pairwise.nil
theorem SE.filter {l : List Ent} (h : SE l) (p : Ent → Bool) : SE (l.filter p) := List.Pairwise.filter p h
theorem fnd_none {l : List Ent} {id : I32} : fnd l id = none ↔ ∀ y ∈ l, y.id ≠ id := by
  unfold fnd; rw [List.find?_eq_none]; simp
theorem fnd_mem {l : List Ent} {id : I32} {y : Ent} (h : fnd l id = some y) : y ∈ l ∧ y.id = id := by
  unfold fnd at h
  exact ⟨List.mem_of_find?_eq_some h, by simpa using List.find?_some h⟩
theorem SE.fnd {l : List Ent} (h : SE l) {y : Ent} (hy : y ∈ l) : fnd l y.id = some y := by
  induction l with
  | nil => simp at hy
  | cons a r ih =>
    have h' := List.pairwise_cons.1 h
    unfold Go.Proofs.Ytblidphaolgilaa.fnd
    rw [List.find?_cons]
    rcases List.mem_cons.1 hy with rfl | hr
    · simp
    · have h1 := h'.1 y hr
      have hne : a.id ≠ y.id := fun e => by rw [e, ltI_irr] at h1; cases h1
      simp only [hne, decide_false]
      exact ih h'.2 hr
theorem insE_perm (x : Ent) : ∀ l, (insE x l).Perm (x :: l)
  | [] => List.Perm.refl _
  | a :: l => by
    unfold insE
    split
    · exact ((insE_perm x l).cons a).trans (List.Perm.swap x a l)
    · exact List.Perm.refl _
theorem insE_mem {x y : Ent} {l : List Ent} : y ∈ insE x l ↔ y = x ∨ y ∈ l := by rw [(insE_perm x l).mem_iff]; simp
theorem insE_len (x : Ent) (l : List Ent) : (insE x l).length = l.length + 1 := by rw [(insE_perm x l).length_eq]; rfl
theorem insE_SE {x : Ent} : ∀ {l : List Ent}, SE l → fnd l x.id = none → SE (insE x l)
  | [], _, _ => List.pairwise_singleton _ _
  | a :: l, h, hn => by
    have h' := List.pairwise_cons.1 h
    have hn' : fnd l x.id = none := fnd_none.2 (fun y hy => fnd_none.1 hn y (by simp [hy]))
    have hne : a.id ≠ x.id := fnd_none.1 hn a (by simp)
    unfold insE
    split
    · rename_i hlt
      refine List.pairwise_cons.2 ⟨fun y hy => ?_, insE_SE h'.2 hn'⟩
      rcases insE_mem.1 hy with rfl | hy
      · exact hlt
      · exact h'.1 y hy
    · rename_i hlt
      have hxa : ltI x.id a.id = true := by
        cases hc : ltI x.id a.id
        · exact absurd (ltI_tot (by simpa using hlt) hc) hne
        · rfl
      refine List.pairwise_cons.2 ⟨fun y hy => ?_, h⟩
      rcases List.mem_cons.1 hy with rfl | hy
      · exact hxa
      · exact ltI_trans hxa (h'.1 y hy)
/-- where it is put -/
theorem insE_at (x : Ent) : ∀ (l : List Ent) (k : Nat), k ≤ l.length → (∀ j (h : j < l.length), j < k → ltI l[j].id x.id = true) → (∀ h : k < l.length, ltI l[k].id x.id = false) → insE x l = l.take k ++ [x] ++ l.drop k
  | [], k, _, _, _ => by simp [insE]
  | a :: l, 0, _, _, h2 => by
    have := h2 (by simp)
    simp only [List.getElem_cons_zero] at this
    simp [insE, this]
  | a :: l, k + 1, hk, h1, h2 => by
    have h0 := h1 0 (by simp) (by omega)
    simp only [List.getElem_cons_zero] at h0
    have ih := insE_at x l k (by simpa using hk) (fun j h hj => by have := h1 (j + 1) (by simpa using h) (by omega); simpa using this) (fun h => by have := h2 (by simpa using h); simpa using this)
    simp [insE, h0, ih]
theorem fnd_ins {x : Ent} {l : List Ent} (h : SE l) (hn : fnd l x.id = none) (id : I32) : fnd (insE x l) id = if id = x.id then some x else fnd l id := by
  have hs := insE_SE h hn
  by_cases e : id = x.id
  · subst e
    rw [if_pos rfl]
    exact hs.fnd (insE_mem.2 (.inl rfl))
  · rw [if_neg e]
    cases hf : fnd l id with
    | none => exact fnd_none.2 (fun y hy => by rcases insE_mem.1 hy with rfl | hy; exact fun e' => e e'.symm; exact fnd_none.1 hf y hy)
    | some y =>
      obtain ⟨hm, rfl⟩ := fnd_mem hf
      exact hs.fnd (insE_mem.2 (.inr hm))
theorem gone1_id (id : I32) (z : Ent) : (gone1 id z).id = z.id := by unfold gone1; split <;> rfl
theorem gone_SE {l : List Ent} (h : SE l) (id : I32) : SE (l.map (gone1 id)) := by
  unfold SE; rw [List.pairwise_map]; exact List.Pairwise.imp (fun {a b} hab => by rw [gone1_id, gone1_id]; exact hab) h
theorem fnd_gone {l : List Ent} (id : I32) {y : Ent} (hy : fnd l id = some y) (h : SE l) (i : I32) : fnd (l.map (gone1 id)) i = if i = id then some { y with st := ⟨1, by decide⟩ } else fnd l i := by
  have hs := gone_SE h id
  obtain ⟨hm, rfl⟩ := fnd_mem hy
  by_cases e : i = y.id
  · subst e
    rw [if_pos rfl]
    have := hs.fnd (List.mem_map_of_mem (f := gone1 y.id) hm)
    rw [gone1_id] at this
    rw [this]
    simp [gone1]
  · rw [if_neg e]
    cases hf : fnd l i with
    | none => exact fnd_none.2 (fun z hz => by obtain ⟨u, hu, rfl⟩ := List.mem_map.1 hz; rw [gone1_id]; exact fnd_none.1 hf u hu)
    | some z =>
      obtain ⟨hm', rfl⟩ := fnd_mem hf
      have := hs.fnd (List.mem_map_of_mem (f := gone1 y.id) hm')
      rw [gone1_id] at this
      rw [this]
      simp [gone1, e]
theorem fnd_filter {l : List Ent} (h : SE l) (p : Ent → Bool) (i : I32) : fnd (l.filter p) i = (fnd l i).filter p := by
  cases hf : fnd l i with
  | none => exact fnd_none.2 (fun z hz => fnd_none.1 hf z (List.mem_filter.1 hz).1)
  | some z =>
    obtain ⟨hm, rfl⟩ := fnd_mem hf
    cases hp : p z
    · rw [show (some z).filter p = none by simp [Option.filter, hp]]
      refine fnd_none.2 (fun u hu e => ?_)
      obtain ⟨h1, h2⟩ := List.mem_filter.1 hu
      have h3 := h.fnd h1
      rw [e, hf] at h3
      cases h3
      rw [hp] at h2; cases h2
    · rw [show (some z).filter p = some z by simp [Option.filter, hp]]
      exact (h.filter p).fnd (List.mem_filter.2 ⟨hm, hp⟩)
theorem addE_SE {l : List Ent} (h : SE l) (x : Ent) : SE (addE l x).1 := by
  unfold addE
  split
  · split
    · exact h
    · rename_i hn; exact insE_SE h (by simpa using hn)
  · exact h
theorem goneE_SE {l : List Ent} (h : SE l) (id : I32) : SE (goneE l id).1 := by
  unfold goneE
  split
  · exact h
  · split
    · exact h
    · exact gone_SE h id
theorem forgR_SE {l : List Ent} (h : SE l) (now : Int) : SE (forgR l now) := by
  unfold forgR; split
  · exact h.filter _
  · exact h
theorem addE_len (l : List Ent) (x : Ent) : (addE l x).1.length ≤ l.length + 1 := by
  unfold addE; split
  · split <;> simp [insE_len]
  · simp
theorem goneE_len (l : List Ent) (id : I32) : (goneE l id).1.length = l.length := by
  unfold goneE; split
  · rfl
  · split <;> simp
theorem forgR_len (l : List Ent) (now : Int) : (forgR l now).length ≤ l.length := by
  unfold forgR; split
  · exact List.length_filter_le _ _
  · exact Nat.le_refl _
theorem chk_range (x : Ent) : chk x = 0 ∨ chk x = 11 ∨ chk x = 13 := by unfold chk; split <;> (try split) <;> simp
end Go.Proofs.Ytblidphaolgilaa
