/- bytes.Compare, by the model's own entry. -/
import Derived.Test.YtblidphaolgilaaRows
import Derived.Test.YtblidphaolgilaaProg
import Derived.Test.YtblidphaolgilaaBase
import Derived.Test.YtblidphaolgilaaIdB
import Derived.WalkKit
import Derived.WalkSpells
import Derived.WalkLawsBesides
import Derived.Lib.Hide
import Derived.Stop.BytesEq
import Derived.Deep.QuietTactic
import Derived.BigQuiet
import Derived.Outline
import Derived.Lib.Bytealg
import Derived.Lib.UnsafeStr
namespace Go.Proofs.Ytblidphaolgilaa
open Go.RowKit

theorem byteCells_get (b : List UInt8) (k : Nat) (h : k < b.length) : (Lib.byteCells b)[k]? = some (.int .u8 (byt b k)) := by
  unfold byt Lib.byteCells
  rw [List.getElem?_map, List.getD_eq_getElem?_getD, List.getElem?_eq_getElem h]; rfl
theorem run_extLoadBytes (w : World) : ∀ (l : List UInt8) (a : Addr) (acc : ByteArray), (∀ j x, l[j]? = some x → w.cell? (a.add j) = some (.int .u8 x.toNat)) →
    (Extern.Bytes.loadBytes a l.length acc).run Try.prog w = .ok ⟨acc.data ++ l.toArray⟩ w
  | [], a, acc, _ => by simp [Extern.Bytes.loadBytes]
  | x :: l, a, acc, h => by
    have h0 : w.cell? a = some (.int .u8 x.toNat) := by
      have := h 0 x rfl
      simpa [Addr.add] using this
    have ih := run_extLoadBytes w l (a.add 1) (acc.push x) (fun j y hy => by
      have := h (j + 1) y (by simpa using hy)
      have e : (a.add 1).add j = a.add (j + 1) := by
        unfold Addr.add
        by_cases hj : j = 0
        · subst hj; simp
        · simp [hj]; omega
      rw [e]; exact this)
    have hx : ((x.toNat : Int).toNat).toUInt8 = x := by simp
    simp only [List.length_cons, Extern.Bytes.loadBytes, Sem.run_bind, run_load, h0, Result.andThen, hx]
    rw [ih]
    congr 1
    apply ByteArray.ext
    simp [ByteArray.push]

theorem run_bytesCompare (g o n c g' o' n' c' : Nat) (a b : List UInt8) (w : World) (ha : a.length = n) (hb : b.length = n')
    (h1 : ∀ k, k < a.length → w.cell? ⟨g, o + k, none⟩ = some (.int .u8 (byt a k))) (h2 : ∀ k, k < b.length → w.cell? ⟨g', o' + k, none⟩ = some (.int .u8 (byt b k))) :
    (Extern.BytealgCompare.compare #[.slice (some ⟨g, o, none⟩) n c, .slice (some ⟨g', o', none⟩) n' c']).run Try.prog w = .ok (.int .i64 (Lib.compareBytes a b)) w := by
  have l1 : (Extern.Bytes.bytesOf (.slice (some ⟨g, o, none⟩) n c)).run Try.prog w = .ok ⟨a.toArray⟩ w := by
    show (Extern.Bytes.loadBytes ⟨g, o, none⟩ n .empty).run Try.prog w = _
    rw [← ha, run_extLoadBytes w a ⟨g, o, none⟩ .empty (fun j x hx => by
      have hj : j < a.length := (List.getElem?_eq_some_iff.1 hx).1
      rw [Addr.add_mid, h1 j hj]; unfold byt; rw [List.getD_eq_getElem?_getD, hx]; rfl)]
    congr 1
    apply ByteArray.ext
    simp
  have l2 : (Extern.Bytes.bytesOf (.slice (some ⟨g', o', none⟩) n' c')).run Try.prog w = .ok ⟨b.toArray⟩ w := by
    show (Extern.Bytes.loadBytes ⟨g', o', none⟩ n' .empty).run Try.prog w = _
    rw [← hb, run_extLoadBytes w b ⟨g', o', none⟩ .empty (fun j x hx => by
      have hj : j < b.length := (List.getElem?_eq_some_iff.1 hx).1
      rw [Addr.add_mid, h2 j hj]; unfold byt; rw [List.getD_eq_getElem?_getD, hx]; rfl)]
    congr 1
    apply ByteArray.ext
    simp
  change Sem.run Try.prog (do pure (goInt (Extern.BytealgCompare.cmp (← Extern.Bytes.bytesOf (.slice (some ⟨g, o, none⟩) n c)) (← Extern.Bytes.bytesOf (.slice (some ⟨g', o', none⟩) n' c'))))) w = _
  simp only [Sem.run_bind, l1, l2, Result.andThen, Sem.run_pure]
  rw [Lib.cmp_eq]
  rfl

set_option maxHeartbeats 400000 in
/-- what bytes.Compare says of two slices of bytes -/
theorem bytesCompare_any (g o n c g' o' n' c' : Nat) (a b : List UInt8) (w : World) (ha : a.length = n) (hb : b.length = n')
    (h1 : ∀ k, k < a.length → w.cell? ⟨g, o + k, none⟩ = some (.int .u8 (byt a k))) (h2 : ∀ k, k < b.length → w.cell? ⟨g', o' + k, none⟩ = some (.int .u8 (byt b k))) :
    Calls Try.prog 65 #[.slice (some ⟨g, o, none⟩) n c, .slice (some ⟨g', o', none⟩) n' c'] w fun e w' => e = .returned (.int .i64 (Lib.compareBytes a b)) ∧ w = w' := by
  have HR := Lib.hid (run_bytesCompare g o n c g' o' n' c' a b w ha hb h1 h2)
  clear h1 h2 ha hb
  go_enter Try.func65, Try.ntmps65
  go_wp2
  rw [run_callFunc_extern Try.func72 (by kernel_rfl) (by kernel_rfl) (by kernel_rfl) (e := Extern.BytealgCompare.compare) (by kernel_rfl), HR.out]
  simp only [Result.andThen]
  rw [Oper.upon_value]
  go_wp2
  go_ret
  exact ⟨rfl, rfl⟩
end Go.Proofs.Ytblidphaolgilaa
