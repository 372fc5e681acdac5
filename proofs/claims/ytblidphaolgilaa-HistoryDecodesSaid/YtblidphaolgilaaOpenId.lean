/- Opening an argument that is an array of bytes (by value). -/
import Derived.Test.YtblidphaolgilaaRow
import Derived.WalkKit
import Derived.ProofKit
import Derived.OpenShut
import Derived.Lib.UnsafeStr
namespace Go.Proofs.Ytblidphaolgilaa
open Go.RowKit

def byteOfV : Value → UInt8
  | .int _ n => n.toNat.toUInt8
  | _ => 0
theorem open_bytes {H : Type} {enc : TypeId × Value → H} {P : Program} {w : World} {base : Nat} {r : Reach} {spare : Nat → Bool} {held : Bool} {T e : TypeId} {n : Nat} {v : Value} {d : DataW H} {p : List MemPlace}
    (ht : P.underlying T = some (.array n e)) (he : P.underlying e = some (.int .u8)) (hct : P.cellsOf T = n) (hce : P.cellsOf e = 1)
    (hv : Value.okWide P w r base T v) (h : DataW.Trod enc P w 0 spare held T v d p) : ∃ b : List UInt8, b.length = n ∧ v = .agg (Lib.byteCells b).toArray := by
  obtain ⟨cs, rfl, hsz, _⟩ : ∃ cs, v = .agg cs ∧ cs.size = P.cellsOf T ∧ Row.okWide P w r base T cs := by
    simpa [Value.okWide, ht] using hv
  obtain ⟨fuel, hf⟩ := h
  obtain ⟨xs, m, _, ex, hlen, hl, hel⟩ := DataW.trod_array ht hf
  have hcs : (Value.cells (.agg cs)).toList = cs.toList := rfl
  rw [hcs, hce] at hel
  have hsz' : cs.toList.length = n := by simpa [hct] using hsz
  refine ⟨cs.toList.map byteOfV, by simpa using hsz', ?_⟩
  congr 1
  apply Array.ext'
  show cs.toList = Lib.byteCells (cs.toList.map byteOfV)
  unfold Lib.byteCells
  rw [List.map_map]
  apply List.ext_getElem (by simp)
  intro i h1 h2
  have hi : i < n := by omega
  have hx := hel i hi
  rw [List.getElem?_eq_getElem (by omega)] at hx
  obtain ⟨k, hk, _, hw⟩ := DataW.trod_int he hx
  have hc : cs.toList[i] = .int .u8 k := by
    rw [Nat.mul_one] at hk
    have h3 : ((cs.toList.drop i).take 1)[0]? = some (.int .u8 k) := by rw [hk]; rfl
    rw [List.getElem?_take] at h3
    simp only [Nat.lt_one_iff, if_true, List.getElem?_drop, Nat.add_zero] at h3
    rw [List.getElem?_eq_getElem h1] at h3
    exact Option.some.inj h3
  have hb := bounds_u8 hw
  rw [List.getElem_map, hc]
  simp [byteOfV]
  omega
end Go.Proofs.Ytblidphaolgilaa
