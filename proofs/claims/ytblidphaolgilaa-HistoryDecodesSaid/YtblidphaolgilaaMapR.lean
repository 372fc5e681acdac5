/- Maps keyed by identities as functions: what a map as read holds at each identity. -/
import Derived.Test.YtblidphaolgilaaMapK
import Derived.Test.YtblidphaolgilaaIdB
import Derived.Maps.OwnSet
import Derived.Maps.RangeWalk
namespace Go.Proofs.Ytblidphaolgilaa
open Go.RowKit Go.Maps

def klI (x : I32) : Lit := .string x.1
theorem klI_inj {x y : I32} (h : klI x = klI y) : x = y := Subtype.ext (by injection h)
theorem klI_ne {x y : I32} (h : x ≠ y) : klI x ≠ klI y := fun e => h (klI_inj e)
theorem klI_key (x : I32) : WideAt.IsKeyLit (klI x) := trivial

/-- the map as read holds f x at x, and nothing else at identities -/
def RepF {β : Type} (D : DataW β) (f : I32 → Option β) : Prop :=
  ∀ x, match f x with
    | some v => Maps.has D (klI x) = true ∧ ∀ z, D.atKey (klI x) z = .held v
    | none => Maps.has D (klI x) = false
theorem RepF.some {β : Type} {D : DataW β} {f : I32 → Option β} (h : RepF D f) {x : I32} {v : β} (hx : f x = some v) : Maps.has D (klI x) = true ∧ ∀ z, D.atKey (klI x) z = .held v := by
  have := h x
  rw [hx] at this
  exact this
theorem RepF.none {β : Type} {D : DataW β} {f : I32 → Option β} (h : RepF D f) {x : I32} (hx : f x = none) : Maps.has D (klI x) = false := by
  have := h x
  rw [hx] at this
  exact this
theorem RepF.has {β : Type} {D : DataW β} {f : I32 → Option β} (h : RepF D f) (x : I32) : Maps.has D (klI x) = (f x).isSome := by
  cases hx : f x with
  | none => exact h.none hx
  | some v => exact (h.some hx).1
theorem RepF.at_ {β : Type} {D : DataW β} {f : I32 → Option β} (h : RepF D f) (x : I32) (z : β) : D.atKey (klI x) (.held z) = .held ((f x).getD z) := by
  cases hx : f x with
  | none => exact atKey_of_not_has (h.none hx) _
  | some v => exact (h.some hx).2 _
theorem RepF.empty {β : Type} : RepF (.map [] : DataW β) (fun _ => Option.none) := fun _ => rfl
theorem RepF.put {β : Type} {D : DataW β} {f : I32 → Option β} (h : RepF D f) (hD : IsMap D) (x : I32) (v : β) : RepF (D.put (klI x) (.held v)) (fun y => if y = x then Option.some v else f y) := fun y => by
  by_cases e : y = x
  · subst e
    simp only [if_true]
    exact ⟨has_put_same hD (klI_key _) _, fun z => atKey_put_same hD (klI_key _) _ z⟩
  · simp only [if_neg e]
    cases hy : f y with
    | none => exact (has_put_other (klI_ne e) _).trans (h.none hy)
    | some u => exact ⟨(has_put_other (klI_ne e) _).trans (h.some hy).1, fun z => (atKey_put_other (klI_ne e) _ z).trans ((h.some hy).2 z)⟩
theorem RepF.del {β : Type} {D : DataW β} {f : I32 → Option β} (h : RepF D f) (x : I32) : RepF (D.del (klI x)) (fun y => if y = x then Option.none else f y) := fun y => by
  by_cases e : y = x
  · subst e
    simp only [if_true]
    exact has_del_same
  · simp only [if_neg e]
    cases hy : f y with
    | none => exact (has_del_other (klI_ne e)).trans (h.none hy)
    | some u => exact ⟨(has_del_other (klI_ne e)).trans (h.some hy).1, fun z => (atKey_del_other (klI_ne e) z).trans ((h.some hy).2 z)⟩
theorem RepF.congr {β : Type} {D : DataW β} {f g : I32 → Option β} (h : RepF D f) (e : ∀ x, f x = g x) : RepF D g := by
  have : f = g := funext e
  rw [← this]; exact h
theorem RepF.put_size {β : Type} {D : DataW β} {f : I32 → Option β} (h : RepF D f) (hD : Tidy D) (x : I32) (d : DataW β) : Maps.size (D.put (klI x) d) = if (f x).isSome then Maps.size D else Maps.size D + 1 := by
  rw [size_put hD, h.has]
theorem RepF.del_size {β : Type} {D : DataW β} {f : I32 → Option β} (h : RepF D f) (hD : Tidy D) (x : I32) : Maps.size (D.del (klI x)) + (if (f x).isSome then 1 else 0) = Maps.size D := by
  have := size_del (k := klI x) hD
  rw [h.has] at this
  exact this
end Go.Proofs.Ytblidphaolgilaa
