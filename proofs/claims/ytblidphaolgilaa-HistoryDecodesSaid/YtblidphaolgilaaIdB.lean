/- Identities (arrays of 32 bytes) and slices of them: how they lie; opening an argument; rows of the call's own. -/
import Derived.Test.YtblidphaolgilaaRow
import Derived.Test.YtblidphaolgilaaOpenId
import Derived.WalkKit
import Derived.ProofKit
import Derived.OpenShut
import Derived.Lib.UnsafeStr
import Derived.Deep.MidRow
import Derived.Deep.Slices
import Derived.RangeFuncBound
import Derived.RangeFuncNested
import Derived.Maps.AppendAt
import Derived.WideShapes
namespace Go.Proofs.Ytblidphaolgilaa
open Go.RowKit Go.WideShapes

/-- an identity -/
abbrev I32 := { b : List UInt8 // b.length = 32 }
instance : Inhabited I32 := ⟨⟨List.replicate 32 0, by simp⟩⟩
def encI (x : I32) : List Value := Lib.byteCells x.1
theorem encI_len (x : I32) : (encI x).length = 32 := by rw [encI, Lib.byteCells_length]; exact x.2
theorem encI_one (x : I32) : ∀ v ∈ encI x, v.oneCell' = true := byteCells_one1 x.1
theorem encI_inj {x y : I32} (h : encI x = encI y) : x = y := by
  apply Subtype.ext
  unfold encI at h
  have key : ∀ a b : List UInt8, Lib.byteCells a = Lib.byteCells b → a = b := by
    intro a
    induction a with
    | nil => intro b h; cases b with
      | nil => rfl
      | cons c r => simp [Lib.byteCells] at h
    | cons c r ih => intro b h; cases b with
      | nil => simp [Lib.byteCells] at h
      | cons d t =>
        simp only [Lib.byteCells, List.map_cons, List.cons.injEq, Value.int.injEq, true_and] at h
        have hcd : c.toNat = d.toNat := by omega
        rw [ih t h.2, UInt8.toNat_inj.1 hcd]
  exact key _ _ h
/-- the cells of a row of identities -/
def idcs (l : List I32) : List Value := l.flatMap encI
theorem idcs_len : ∀ l : List I32, (idcs l).length = l.length * 32
  | [] => rfl
  | a :: l => by
    have := idcs_len l
    unfold idcs at *
    rw [List.flatMap_cons, List.length_append, this, encI_len, List.length_cons]; omega
theorem idcs_snoc (l : List I32) (x : I32) : idcs (l ++ [x]) = idcs l ++ encI x := by simp [idcs]
theorem idcs_app (l m : List I32) : idcs (l ++ m) = idcs l ++ idcs m := by simp [idcs]
theorem idcs_at : ∀ (l : List I32) (i j : Nat) (h : i < l.length), j < 32 → (idcs l)[i * 32 + j]? = (encI l[i])[j]?
  | [], _, _, h, _ => by simp at h
  | a :: l, 0, j, _, hj => by
    unfold idcs
    rw [List.flatMap_cons, Nat.zero_mul, Nat.zero_add, List.getElem?_append_left (by rw [encI_len]; exact hj)]
    rfl
  | a :: l, i + 1, j, h, hj => by
    have := idcs_at l i j (by simpa using h) hj
    unfold idcs at *
    rw [List.flatMap_cons, List.getElem?_append_right (by rw [encI_len]; omega), encI_len, show (i + 1) * 32 + j - 32 = i * 32 + j by omega, this]
    rfl
theorem idcs_one (l : List I32) : ∀ v ∈ idcs l, v.oneCell' = true := by
  intro v hv
  unfold idcs at hv
  obtain ⟨x, _, hx⟩ := List.mem_flatMap.1 hv
  exact encI_one x v hx

/-- the identities lie from an address on, in blocks below B -/
def IdsAt (B : Nat) (a : Option Addr) (l : List I32) (W : World) : Prop := ∀ i (h : i < l.length), ∃ g o, a = some ⟨g, o, none⟩ ∧ g < B ∧ W.rangeAt g (o + i * 32) (encI l[i])
theorem rangeAt_below {W W' : World} {n₀ g o : Nat} {cs : List Value} (h : W.rangeAt g o cs) (hb : Below n₀ W W') (hg : g < n₀) : W'.rangeAt g o cs := fun j v hv => (hb.cell (p := ⟨g, o + j, none⟩) hg).trans (h j v hv)
theorem IdsAt.below {B n₀ : Nat} {a : Option Addr} {l : List I32} {W W' : World} (h : IdsAt B a l W) (hb : Below n₀ W W') (hB : B ≤ n₀) : IdsAt B a l W' := fun i hi => by
  obtain ⟨g, o, e, hg, hc⟩ := h i hi
  exact ⟨g, o, e, hg, rangeAt_below hc hb (Nat.lt_of_lt_of_le hg hB)⟩
theorem IdsAt.mono {B B' : Nat} {a : Option Addr} {l : List I32} {W : World} (h : IdsAt B a l W) (hB : B ≤ B') : IdsAt B' a l W := fun i hi => by
  obtain ⟨g, o, e, hg, hc⟩ := h i hi
  exact ⟨g, o, e, Nat.lt_of_lt_of_le hg hB, hc⟩
theorem IdsAt.at {B : Nat} {a : Option Addr} {l : List I32} {W : World} (h : IdsAt B a l W) {i : Nat} (hi : i < l.length) : ∃ g o, a = some ⟨g, o, none⟩ ∧ g < B ∧ W.rangeAt g (o + i * 32) (encI l[i]) := h i hi
theorem IdsAt.take {B : Nat} {a : Option Addr} {l : List I32} {W : World} (h : IdsAt B a l W) (k : Nat) : IdsAt B a (l.take k) W := fun i hi => by
  rw [List.length_take] at hi
  obtain ⟨g, o, e, hg, hc⟩ := h i (by omega)
  exact ⟨g, o, e, hg, by rw [List.getElem_take]; exact hc⟩
theorem idsAt_of_owns {w : World} {B n : Nat} {e : TypeId} {v : Value} {l : List I32} (h : w.ownsRow B e 32 v n (idcs l)) : l.length = n ∧ ∃ ao cap, v = .slice ao n cap ∧ (ao = none → n = 0 ∧ cap = 0) ∧ IdsAt w.heap.size ao l w := by
  have h' := h
  have hln : l.length = n := by have h1 := h.1; rw [idcs_len] at h1; omega
  refine ⟨hln, ?_⟩
  obtain ⟨hl, ⟨rfl, rfl⟩ | ⟨g, cap, cur, rfl, h2, h3, h4, h5, h6, h7⟩⟩ := h
  · exact ⟨none, 0, rfl, fun _ => ⟨rfl, rfl⟩, fun j hj => absurd hj (by omega)⟩
  · refine ⟨_, cap, rfl, (fun h => by cases h), fun i hi => ⟨g, 0, rfl, (Array.getElem?_eq_some_iff.1 h3).1, fun j v hv => ?_⟩⟩
    have hj : j < 32 := by have := (List.getElem?_eq_some_iff.1 hv).1; rwa [encI_len] at this
    rw [Nat.zero_add, h'.cellAt (i * 32 + j) (by omega), idcs_at l i j hi hj]
    exact hv

/-- a slice of identities from without -/
def IdsArg (v : Value) (l : List I32) (W : World) : Prop := ∃ ao c, v = .slice ao l.length c ∧ l.length ≤ c ∧ c ≤ maxLen ∧ (ao = none → l.length = 0 ∧ c = 0) ∧ IdsAt W.heap.size ao l W

theorem bytes_of_trod {H : Type} {enc : TypeId × Value → H} {P : Program} {w : World} {base : Nat} {spare : Nat → Bool} {held : Bool} {T e : TypeId} {n fuel : Nat} {cs : List Value} {x : DataW H × List MemPlace}
    (ht : P.underlying T = some (.array n e)) (he : P.underlying e = some (.int .u8)) (hce : P.cellsOf e = 1) (hsz : cs.length = n)
    (hf : DataW.trod enc P w base spare held fuel T cs = some x) : ∃ b : List UInt8, b.length = n ∧ cs = Lib.byteCells b := by
  obtain ⟨xs, m, _, ex, hlen, hl, hel⟩ := DataW.trod_array ht hf
  rw [hce] at hel
  refine ⟨cs.map byteOfV, by simpa using hsz, ?_⟩
  unfold Lib.byteCells
  rw [List.map_map]
  apply List.ext_getElem (by simp)
  intro i h1 h2
  have hi : i < n := by omega
  have hx := hel i hi
  rw [List.getElem?_eq_getElem (by omega)] at hx
  obtain ⟨k, hk, _, hw⟩ := DataW.trod_int he hx
  have hc : cs[i] = .int .u8 k := by
    rw [Nat.mul_one] at hk
    have h3 : ((cs.drop i).take 1)[0]? = some (.int .u8 k) := by rw [hk]; rfl
    rw [List.getElem?_take] at h3
    simp only [Nat.lt_one_iff, if_true, List.getElem?_drop, Nat.add_zero] at h3
    rw [List.getElem?_eq_getElem h1] at h3
    exact Option.some.inj h3
  have hb := bounds_u8 hw
  rw [List.getElem_map, hc]
  simp [byteOfV]
  omega
theorem open_ids {H : Type} {enc : TypeId × Value → H} {P : Program} {W : World} {base : Nat} {T e q : TypeId} {v : Value} {d : DataW H} {p : List MemPlace} (ht : P.underlying T = some (.slice e)) (he : P.underlying e = some (.array 32 q)) (hq : P.underlying q = some (.int .u8)) (ce : P.cellsOf e = 32) (cq : P.cellsOf q = 1)
    (hval : Value.okWide P W .any base T v) (h : DataW.Trod enc P W 0 (fun _ => true) true T v d p) : ∃ l, IdsArg v l W := by
  obtain ⟨a1, len, cap, rfl⟩ := okWide_slice ht hval
  obtain ⟨fuel, hf⟩ := h
  rcases Go.Deep.open_slice ht hf with ⟨hcs, _⟩ | ⟨a, len', cap', m, n, D, Pl, hcs, _, hl, hm, hmm, _, hr⟩
  · simp [Value.cells] at hcs
    obtain ⟨rfl, rfl, rfl⟩ := hcs
    exact ⟨[], none, 0, rfl, Nat.le_refl _, Nat.zero_le _, fun _ => ⟨rfl, rfl⟩, fun i hi => absurd hi (Nat.not_lt_zero _)⟩
  · simp [Value.cells] at hcs
    obtain ⟨rfl, rfl, rfl⟩ := hcs
    simp only [if_true] at hmm
    subst hmm
    have each : ∀ i, i < m → ∃ b : I32, ∀ j, j < 32 → W.cell? ((a.add (i * 32)).add j) = (encI b)[j]? := by
      intro i hi
      obtain ⟨cs', hc, htr⟩ := hr i hi
      rw [ce] at hc
      obtain ⟨_, hlen, hat⟩ := World.cells?_some hc
      obtain ⟨b, hb, hcs⟩ := bytes_of_trod he hq cq hlen htr
      exact ⟨⟨b, hb⟩, fun j hj => by rw [hat j hj, hcs]; rfl⟩
    have hL : ∃ f : Nat → I32, ∀ i, i < m → ∀ j, j < 32 → W.cell? ((a.add (i * 32)).add j) = (encI (f i))[j]? :=
      ⟨fun i => if h : i < m then Classical.choose (each i h) else default, fun i hi => by dsimp only; rw [dif_pos hi]; exact Classical.choose_spec (each i hi)⟩
    obtain ⟨f, hfI⟩ := hL
    refine ⟨(List.range len).map f, some a, m, by simp, by simpa using hl, hm, (fun h => by cases h), fun i hi => ?_⟩
    simp only [List.length_map, List.length_range] at hi
    obtain ⟨ab, ao, spot⟩ := a
    have h00 := hfI i (by omega) 0 (by omega)
    rw [List.getElem?_eq_getElem (by rw [encI_len]; omega)] at h00
    have hspot : spot = none := by
      have h0 := hfI 0 (by omega) 0 (by omega)
      rw [List.getElem?_eq_getElem (by rw [encI_len]; omega)] at h0
      simpa [Addr.add] using World.cell?_spot h0
    subst hspot
    rw [Addr.add_mid, Addr.add_mid] at h00
    refine ⟨ab, ao, rfl, World.block_lt_of_cell? W _ h00, fun j v hv => ?_⟩
    have hj : j < 32 := by have := (List.getElem?_eq_some_iff.1 hv).1; rwa [encI_len] at this
    have := hfI i (by omega) j hj
    rw [Addr.add_mid, Addr.add_mid] at this
    rw [this, ← hv]
    simp
end Go.Proofs.Ytblidphaolgilaa
