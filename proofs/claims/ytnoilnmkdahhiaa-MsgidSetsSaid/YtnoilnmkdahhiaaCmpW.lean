/- Contracts of msgid.IsZero, msgid.Compare and the reference's Compare. -/
import Derived.Test.YtnoilnmkdahhiaaRows
import Derived.Test.YtnoilnmkdahhiaaBase
import Derived.Test.YtnoilnmkdahhiaaRefDigW
import Derived.WalkKit
import Derived.WalkSpells
import Derived.WalkLawsBesides
import Derived.Lib.Hide
import Derived.Stop.BytesEq
import Derived.Deep.QuietTactic
import Derived.BigQuiet
import Derived.Outline
import Derived.Lib.Bytealg
import Derived.Lib.UnsafeStr
namespace Go.Proofs.Ytnoilnmkdahhiaa
open Go.RowKit

theorem id_eql (a b : List UInt8) (ha : a.length = 32) (hb : b.length = 32) (w : World) :
    (Op.equalIn 10000 24 (idv a) (idv b)).run Try.prog w = .ok (a == b) w :=
  run_equalIn_bytes w 9998 24 5 32 Try.underlying24 Try.underlying5 Try.sizeOf5 a b ha hb
theorem refid_eql (a b : List UInt8) (ha : a.length = 32) (hb : b.length = 32) (w : World) :
    (Op.equalIn 10000 28 (idv a) (idv b)).run Try.prog w = .ok (a == b) w :=
  run_equalIn_bytes w 9998 28 5 32 Try.underlying28 Try.underlying5 Try.sizeOf5 a b ha hb
/-- the zero identity -/
def zeroL : List UInt8 := List.replicate 32 0

theorem id_eql_zero (b : List UInt8) (hb : b.length = 32) (w : World) :
    (Sem.run Try.prog (Op.equalIn 10000 24 (.agg (Lib.byteCells b).toArray) (.agg #[.int .u8 0, .int .u8 0, .int .u8 0, .int .u8 0, .int .u8 0, .int .u8 0, .int .u8 0, .int .u8 0, .int .u8 0, .int .u8 0, .int .u8 0, .int .u8 0, .int .u8 0, .int .u8 0, .int .u8 0, .int .u8 0, .int .u8 0, .int .u8 0, .int .u8 0, .int .u8 0, .int .u8 0, .int .u8 0, .int .u8 0, .int .u8 0, .int .u8 0, .int .u8 0, .int .u8 0, .int .u8 0, .int .u8 0, .int .u8 0, .int .u8 0, .int .u8 0])) w) = .ok (b == zeroL) w := id_eql b zeroL hb (by rfl) w

set_option maxHeartbeats 400000 in
theorem isZero_any (b : List UInt8) (hb : b.length = 32) (w : World) :
    Calls Try.prog 20 #[idv b] w fun e w' => e = .returned (.bool (b == zeroL)) ∧ Below w.heap.size w w' := by
  have HI := Lib.hid (idInfo.trans (by simp [Lib.byteCells_length, hb] : some 32 = some (Lib.byteCells b).toArray.size))
  have hq := fun w => id_eql_zero b hb w
  clear hb
  go_enter Try.func20, Try.ntmps20
  go_wp2_with (refine wpList_load_row rfl _ _ rfl _ rfl _ _ _ _ (heap_alloc_new _ _) Try.underlying24 rfl HI.out ?_)
  go_ret
  exact ⟨rfl, (Below.refl _ w).alloc (Nat.le_refl _) _⟩

theorem run_extLoadBytes (w : World) : ∀ (l : List UInt8) (a : Addr) (acc : ByteArray), (∀ j x, l[j]? = some x → w.cell? (a.add j) = some (.int .u8 x.toNat)) →
    (Extern.Bytes.loadBytes a l.length acc).run Try.prog w = .ok ⟨acc.data ++ l.toArray⟩ w
  | [], a, acc, _ => by simp [Extern.Bytes.loadBytes]
  | x :: l, a, acc, h => by
    have h0 : w.cell? a = some (.int .u8 x.toNat) := by
      have := h 0 x rfl
      simpa [Addr.add] using this
    have ih := run_extLoadBytes w l (a.add 1) (acc.push x) (fun j y hy => by
      have := h (j + 1) y (by simpa using hy)
      have e : (a.add 1).add j = a.add (j + 1) := by
        unfold Addr.add
        by_cases hj : j = 0
        · subst hj; simp
        · simp [hj]; omega
      rw [e]; exact this)
    have hx : ((x.toNat : Int).toNat).toUInt8 = x := by simp
    simp only [List.length_cons, Extern.Bytes.loadBytes, Sem.run_bind, run_load, h0, Result.andThen, hx]
    rw [ih]
    congr 1
    apply ByteArray.ext
    simp [ByteArray.push]

theorem run_bytesCompare (g o n c g' o' n' c' : Nat) (a b : List UInt8) (w : World) (ha : a.length = n) (hb : b.length = n')
    (h1 : ∀ k, k < a.length → w.cell? ⟨g, o + k, none⟩ = some (.int .u8 (byt a k))) (h2 : ∀ k, k < b.length → w.cell? ⟨g', o' + k, none⟩ = some (.int .u8 (byt b k))) :
    (Extern.BytealgCompare.compare #[.slice (some ⟨g, o, none⟩) n c, .slice (some ⟨g', o', none⟩) n' c']).run Try.prog w = .ok (.int .i64 (Lib.compareBytes a b)) w := by
  have l1 : (Extern.Bytes.bytesOf (.slice (some ⟨g, o, none⟩) n c)).run Try.prog w = .ok ⟨a.toArray⟩ w := by
    show (Extern.Bytes.loadBytes ⟨g, o, none⟩ n .empty).run Try.prog w = _
    rw [← ha, run_extLoadBytes w a ⟨g, o, none⟩ .empty (fun j x hx => by
      have hj : j < a.length := (List.getElem?_eq_some_iff.1 hx).1
      rw [Addr.add_mid, h1 j hj]; unfold byt; rw [List.getD_eq_getElem?_getD, hx]; rfl)]
    congr 1
    apply ByteArray.ext
    simp
  have l2 : (Extern.Bytes.bytesOf (.slice (some ⟨g', o', none⟩) n' c')).run Try.prog w = .ok ⟨b.toArray⟩ w := by
    show (Extern.Bytes.loadBytes ⟨g', o', none⟩ n' .empty).run Try.prog w = _
    rw [← hb, run_extLoadBytes w b ⟨g', o', none⟩ .empty (fun j x hx => by
      have hj : j < b.length := (List.getElem?_eq_some_iff.1 hx).1
      rw [Addr.add_mid, h2 j hj]; unfold byt; rw [List.getD_eq_getElem?_getD, hx]; rfl)]
    congr 1
    apply ByteArray.ext
    simp
  change Sem.run Try.prog (do pure (goInt (Extern.BytealgCompare.cmp (← Extern.Bytes.bytesOf (.slice (some ⟨g, o, none⟩) n c)) (← Extern.Bytes.bytesOf (.slice (some ⟨g', o', none⟩) n' c'))))) w = _
  simp only [Sem.run_bind, l1, l2, Result.andThen, Sem.run_pure]
  rw [Lib.cmp_eq]
  rfl

set_option maxHeartbeats 400000 in
/-- what bytes.Compare says of two slices of bytes -/
theorem bytesCompare_any (g o n c g' o' n' c' : Nat) (a b : List UInt8) (w : World) (ha : a.length = n) (hb : b.length = n')
    (h1 : ∀ k, k < a.length → w.cell? ⟨g, o + k, none⟩ = some (.int .u8 (byt a k))) (h2 : ∀ k, k < b.length → w.cell? ⟨g', o' + k, none⟩ = some (.int .u8 (byt b k))) :
    Calls Try.prog 36 #[.slice (some ⟨g, o, none⟩) n c, .slice (some ⟨g', o', none⟩) n' c'] w fun e w' => e = .returned (.int .i64 (Lib.compareBytes a b)) ∧ w = w' := by
  have HR := Lib.hid (run_bytesCompare g o n c g' o' n' c' a b w ha hb h1 h2)
  clear h1 h2 ha hb
  go_enter Try.func36, Try.ntmps36
  go_wp2
  rw [run_callFunc_extern Try.func46 (by kernel_rfl) (by kernel_rfl) (by kernel_rfl) (e := Extern.BytealgCompare.compare) (by kernel_rfl), HR.out]
  simp only [Result.andThen]
  rw [Oper.upon_value]
  go_wp2
  go_ret
  exact ⟨rfl, rfl⟩
theorem IdAt.alloc {w : World} {g : Nat} {b : List UInt8} (h : IdAt w g b) (hg : g < w.heap.size) (o : Obj) : IdAt (w.alloc o) g b := fun k hk => by
  rw [World.cell?_alloc_lt _ _ _ (by exact hg)]; exact h k hk
theorem IdAt.new (w : World) (b : List UInt8) (T : TypeId) : IdAt (w.alloc (.cells (Lib.byteCells b).toArray T)) w.heap.size b := fun k h => by simpa using idblock_cell w b T k h

set_option maxHeartbeats 400000 in
theorem compare_any (a b : List UInt8) (ha : a.length = 32) (hb : b.length = 32) (w : World) :
    Calls Try.prog 21 #[idv a, idv b] w fun e w' => e = .returned (.int .i64 (Lib.compareBytes a b)) ∧ Below w.heap.size w w' := by
  have h1 := (IdAt.new w a 24).alloc (by simp) (.cells (Lib.byteCells b).toArray 24)
  have h2 := IdAt.new (w.alloc (.cells (Lib.byteCells a).toArray 24)) b 24
  have hsz : (w.alloc (.cells (Lib.byteCells a).toArray 24)).heap.size = w.heap.size + 1 := by simp
  rw [hsz] at h2
  have HC : Hid (∀ nq, Calls Try.prog 36 #[.slice (some ⟨w.heap.size, 0, none⟩) 32 32, .slice (some ⟨w.heap.size + 1, 0, none⟩) 32 32] (((w.alloc (.cells (Lib.byteCells a).toArray 24)).alloc (.cells (Lib.byteCells b).toArray 24)).drewN nq) fun e w' => e = .returned (.int .i64 (Lib.compareBytes a b)) ∧ w' = ((w.alloc (.cells (Lib.byteCells a).toArray 24)).alloc (.cells (Lib.byteCells b).toArray 24)).drewN nq) := Lib.hid (fun nq => bytesCompare_any _ 0 _ _ _ 0 _ _ a b _ ha hb (fun k hk => by simpa using h1 k hk) (fun k hk => by simpa using h2 k hk) |>.mono fun _ _ h => ⟨h.1, h.2.symm⟩)
  clear h1 h2 ha hb hsz
  go_enter Try.func21, Try.ntmps21
  go_wp2_with fail
  go_quiet ((go_at_call 36; exact Calls.quiet_of_same (HC.out _)))
  go_wp2
  go_ret
  exact ⟨rfl, below_drewN (((Below.refl _ w).alloc (Nat.le_refl _) _).alloc (by simp) _)⟩
theorem cmp_lt : ∀ (k : Nat) (a b : List UInt8), k < a.length → k < b.length → (∀ j, j < k → byt a j = byt b j) → byt a k < byt b k → Lib.compareBytes a b = -1
  | _, [], _, h, _, _, _ => by simp at h
  | _, _ :: _, [], _, h, _, _ => by simp at h
  | 0, x :: xs, y :: ys, _, _, _, h => by
    have h' : x < y := UInt8.lt_iff_toNat_lt.2 (by simpa [byt] using h)
    simp [Lib.compareBytes, h']
  | k + 1, x :: xs, y :: ys, h1, h2, he, h => by
    have h0 : x = y := UInt8.toNat_inj.1 (by simpa [byt] using he 0 (by omega))
    subst h0
    have ih := cmp_lt k xs ys (by simpa using h1) (by simpa using h2) (fun j hj => by simpa [byt] using he (j + 1) (by omega)) (by simpa [byt] using h)
    simp [Lib.compareBytes, ih]
theorem cmp_gt : ∀ (k : Nat) (a b : List UInt8), k < a.length → k < b.length → (∀ j, j < k → byt a j = byt b j) → byt b k < byt a k → Lib.compareBytes a b = 1
  | _, [], _, h, _, _, _ => by simp at h
  | _, _ :: _, [], _, h, _, _ => by simp at h
  | 0, x :: xs, y :: ys, _, _, _, h => by
    have h' : y < x := UInt8.lt_iff_toNat_lt.2 (by simpa [byt] using h)
    have h'' : ¬ x < y := fun h2 => by have := UInt8.lt_iff_toNat_lt.1 h2; have := UInt8.lt_iff_toNat_lt.1 h'; omega
    simp [Lib.compareBytes, h', h'']
  | k + 1, x :: xs, y :: ys, h1, h2, he, h => by
    have h0 : x = y := UInt8.toNat_inj.1 (by simpa [byt] using he 0 (by omega))
    subst h0
    have ih := cmp_gt k xs ys (by simpa using h1) (by simpa using h2) (fun j hj => by simpa [byt] using he (j + 1) (by omega)) (by simpa [byt] using h)
    simp [Lib.compareBytes, ih]
theorem cmp_self : ∀ a : List UInt8, Lib.compareBytes a a = 0
  | [] => rfl
  | x :: xs => by simp [Lib.compareBytes, cmp_self xs]
theorem eq_of_byt (a b : List UInt8) (h : a.length = b.length) (he : ∀ j, j < a.length → byt a j = byt b j) : a = b := by
  apply List.ext_getElem h
  intro j h1 h2
  have := he j h1
  unfold byt at this
  rw [List.getD_eq_getElem?_getD, List.getD_eq_getElem?_getD, List.getElem?_eq_getElem h1, List.getElem?_eq_getElem h2] at this
  exact UInt8.toNat_inj.1 this

/-- the first k bytes are equal (behind a name that the walk does not open) -/
def SameTo (a b : List UInt8) (k : Nat) : Prop := ∀ j, j < k → byt a j = byt b j

set_option maxHeartbeats 400000 in
theorem refcompare_any (a b : List UInt8) (ha : a.length = 32) (hb : b.length = 32) (w : World) :
    Calls Try.prog 26 #[idv a, idv b] w fun e w' => e = .returned (.int .i64 (Lib.compareBytes a b)) ∧ Below w.heap.size w w' := by
  have h1 := (IdAt.new w a 28).alloc (by simp) (.cells (Lib.byteCells b).toArray 28)
  have h2 := IdAt.new (w.alloc (.cells (Lib.byteCells a).toArray 28)) b 28
  have hsz : (w.alloc (.cells (Lib.byteCells a).toArray 28)).heap.size = w.heap.size + 1 := by simp
  rw [hsz] at h2
  have H1 := Lib.hid h1
  have H2 := Lib.hid h2
  have HA := Lib.hid ha
  have HB := Lib.hid hb
  clear h1 h2 ha hb hsz
  go_enter Try.func26, Try.ntmps26
  go_wp2
  go_loopw [5] (fun i wr => ∃ k : Nat, k ≤ 32 ∧ i = .int .i64 k ∧ SameTo a b k ∧ IdAt wr w.heap.size a ∧ IdAt wr (w.heap.size + 1) b ∧ Below w.heap.size w wr) (fun i _ => 32 - (intOf i).toNat)
  case atStart => exact ⟨0, Nat.zero_le _, rfl, fun _ h => absurd h (Nat.not_lt_zero _), H1.out, H2.out, ((Below.refl _ w).alloc (Nat.le_refl _) _).alloc (by simp) _⟩
  case round =>
    obtain ⟨k, hk, rfl, hs, hI1, hI2, hbw⟩ := hrel
    by_cases hlt : k < 32
    · have hc1 := hI1 k (by have := HA.out; omega)
      have hc2 := hI2 k (by have := HB.out; omega)
      have hi1 : (0 : Int) ≤ (k : Int) := by omega
      have hi2 : (k : Int) < 32 := by omega
      have hka : k < a.length := by have := HA.out; omega
      have hkb : k < b.length := by have := HB.out; omega
      have HI1 := Lib.hid hI1
      have HI2 := Lib.hid hI2
      have HL : Hid (byt a k < byt b k → Lib.compareBytes a b = -1) := Lib.hid (cmp_lt k a b hka hkb hs)
      have HG : Hid (byt b k < byt a k → Lib.compareBytes a b = 1) := Lib.hid (cmp_gt k a b hka hkb hs)
      have HS : Hid (byt a k = byt b k → SameTo a b (k + 1)) := Lib.hid (fun e j hj => by
        by_cases hjk : j = k
        · rw [hjk]; exact e
        · exact hs j (by omega))
      clear hI1 hI2 hka hkb hs
      generalize byt a k = x at *
      generalize byt b k = y at *
      by_cases hxy : x < y
      · have hd : decide ((x : Int) < (y : Int)) = true := by simp; omega
        go_wp2_with fail
        go_quiet (fail)
        go_wp2
        go_ret
        exact ⟨ret_int (HL.out hxy).symm, (by repeat (first | exact hbw | apply below_drewN))⟩
      · have hd : decide ((x : Int) < (y : Int)) = false := by simp; omega
        go_wp2_with fail
        go_quiet (fail)
        go_wp2_with fail
        by_cases hyx : y < x
        · have hd2 : decide ((y : Int) < (x : Int)) = true := by simp; omega
          go_quiet (fail)
          go_wp2
          go_ret
          exact ⟨ret_int (HG.out hyx).symm, (by repeat (first | exact hbw | apply below_drewN))⟩
        · have hd2 : decide ((y : Int) < (x : Int)) = false := by simp; omega
          go_quiet (fail)
          go_wp2
          go_roundw
          case rel => exact ⟨k + 1, by omega, by go_num, HS.out (by omega), fun j hj => by simpa using HI1.out j hj, fun j hj => by simpa using HI2.out j hj, (by repeat (first | exact hbw | apply below_drewN))⟩
          case measure => simp [intOf]; omega
    · have hke : k = 32 := by omega
      subst hke
      have he : a = b := eq_of_byt a b (HA.out.trans HB.out.symm) (fun j hj => hs j (by have := HA.out; omega))
      have HE := Lib.hid he
      clear he
      go_wp2
      go_ret
      exact ⟨ret_int (by rw [HE.out, cmp_self]), hbw⟩
end Go.Proofs.Ytnoilnmkdahhiaa
