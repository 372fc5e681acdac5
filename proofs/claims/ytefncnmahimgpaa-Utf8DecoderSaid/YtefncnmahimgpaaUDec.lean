/- Contracts of utf8's Decoder. -/
import Derived.Test.YtefncnmahimgpaaRows
import Derived.Test.YtefncnmahimgpaaBase
import Derived.Test.YtefncnmahimgpaaRow
import Derived.Test.YtefncnmahimgpaaUCheck
import Derived.WalkKit
import Derived.OwnWalk
import Derived.WalkSpells
import Derived.WalkLawsBesides
import Derived.Lib.Hide
import Derived.Deep.QuietTactic
import Derived.BigQuiet
import Derived.Outline
namespace Go.Proofs.Ytefncnmahimgpaa
open Go.RowKit

/-- a decoder at the head of a block -/
def DecAt (D : Nat) (p : ByteArray) (c : Bool) (w : World) : Prop := w.heap[D]? = some (.cells #[.string p, .bool c] 83 (0, 0))

theorem usable_open (D : Nat) (p : ByteArray) (c : Bool) (w : World) (h : DecAt D p c w) :
    Calls Try.prog 48 #[.pointer (some ⟨D, 0, none⟩)] w fun e w' => e = .returned (.int .i64 (if c then 10 else 0)) ∧ w' = w := by
  have g1 : w.cell? ⟨D, 1, none⟩ = some (.bool c) := by rw [cell_of_row _ _ _ _ _ _ h]; rfl
  cases c
  · go_enter Try.func48, Try.ntmps48
    go_wp2
    go_ret
    exact ⟨rfl, rfl⟩
  · go_enter Try.func48, Try.ntmps48
    go_wp2
    go_ret
    exact ⟨rfl, rfl⟩
theorem usable_nil (w : World) :
    Calls Try.prog 48 #[.pointer none] w fun e w' => e = .returned (.int .i64 1) ∧ w' = w := by
  go_enter Try.func48, Try.ntmps48
  go_wp2
  go_ret
  exact ⟨rfl, rfl⟩
theorem newDec (w : World) :
    Calls Try.prog 30 #[] w fun e w' => e = .returned (.pointer (some ⟨w.heap.size, 0, none⟩)) ∧ DecAt w.heap.size ⟨#[]⟩ false w' ∧ Below w.heap.size w w' := by
  go_enter Try.func30, Try.ntmps30
  go_wp2
  go_ret
  exact ⟨rfl, heap_alloc_new w _, (Below.refl _ w).alloc (Nat.le_refl _) _⟩
theorem pending_any (D : Nat) (p : ByteArray) (c : Bool) (w : World) (h : DecAt D p c w) :
    Calls Try.prog 34 #[.pointer (some ⟨D, 0, none⟩)] w fun e w' => e = .returned (.int .i64 p.size) ∧ w' = w := by
  have g1 : w.cell? ⟨D, 0, none⟩ = some (.string p) := by rw [cell_of_row _ _ _ _ _ _ h]; rfl
  go_enter Try.func34, Try.ntmps34
  go_wp2
  go_ret
  exact ⟨rfl, rfl⟩

theorem close_closed (D : Nat) (p : ByteArray) (w : World) (h : DecAt D p true w) :
    Calls Try.prog 32 #[.pointer (some ⟨D, 0, none⟩)] w fun e w' => e = .returned (.int .i64 10) ∧ w' = w := by
  have HU := Lib.hid (usable_open D p true w h)
  go_enter Try.func32, Try.ntmps32
  go_wp2_with fail
  refine HU.out.mono ?_
  rintro e w1 ⟨rfl, rfl⟩
  go_wp2
  go_ret
  exact ⟨rfl, rfl⟩
theorem close_pending (D : Nat) (p : ByteArray) (w : World) (h : DecAt D p false w) (hp : p.size ≠ 0) :
    Calls Try.prog 32 #[.pointer (some ⟨D, 0, none⟩)] w fun e w' => e = .returned (.int .i64 23) ∧ w' = w := by
  have HU := Lib.hid (usable_open D p false w h)
  have g0 : w.cell? ⟨D, 0, none⟩ = some (.string p) := by rw [cell_of_row _ _ _ _ _ _ h]; rfl
  have he := isEmpty_false hp
  go_enter Try.func32, Try.ntmps32
  go_wp2_with fail
  refine HU.out.mono ?_
  rintro e w1 ⟨rfl, rfl⟩
  go_wp2
  go_ret
  exact ⟨rfl, rfl⟩
theorem close_ok (D : Nat) (p : ByteArray) (w : World) (h : DecAt D p false w) (hp : p.size = 0) :
    Calls Try.prog 32 #[.pointer (some ⟨D, 0, none⟩)] w fun e w' => e = .returned (.int .i64 0) ∧ DecAt D p true w' ∧ Below D w w' := by
  have HU := Lib.hid (usable_open D p false w h)
  have g0 : w.cell? ⟨D, 0, none⟩ = some (.string p) := by rw [cell_of_row _ _ _ _ _ _ h]; rfl
  have g1 : w.cell? ⟨D, 1, none⟩ = some (.bool false) := by rw [cell_of_row _ _ _ _ _ _ h]; rfl
  have f1 : w.frozen? ⟨D, 1, none⟩ = false := frozen_of_row _ _ _ _ _ h
  have h2 : DecAt D p true (w.setCell ⟨D, 1, none⟩ (.bool true)) := heap_setCell_same w D 1 _ _ _ h
  have b2 : Below D w (w.setCell ⟨D, 1, none⟩ (.bool true)) := (Below.refl D w).setCell (Nat.le_refl _) _
  have he := isEmpty_true hp
  go_enter Try.func32, Try.ntmps32
  go_wp2_with fail
  refine HU.out.mono ?_
  rintro e w1 ⟨rfl, rfl⟩
  go_wp2
  go_ret
  exact ⟨rfl, h2, b2⟩

theorem write_closed (D : Nat) (p : ByteArray) (v : Value) (w : World) (h : DecAt D p true w) :
    Calls Try.prog 31 #[.pointer (some ⟨D, 0, none⟩), v] w fun e w' => e = .returned (.tuple #[.string ⟨#[]⟩, .int .i64 10]) ∧ w' = w := by
  have HU := Lib.hid (usable_open D p true w h)
  go_enter Try.func31, Try.ntmps31
  go_wp2_with fail
  refine HU.out.mono ?_
  rintro e w1 ⟨rfl, rfl⟩
  go_wp2
  go_ret2
  exact ⟨rfl, rfl⟩
theorem write_nil (v : Value) (w : World) :
    Calls Try.prog 31 #[.pointer none, v] w fun e w' => e = .returned (.tuple #[.string ⟨#[]⟩, .int .i64 1]) ∧ w' = w := by
  have HU := Lib.hid (usable_nil w)
  go_enter Try.func31, Try.ntmps31
  go_wp2_with fail
  refine HU.out.mono ?_
  rintro e w1 ⟨rfl, rfl⟩
  go_wp2
  go_ret2
  exact ⟨rfl, rfl⟩

theorem pAll_at (l : List UInt8) : (pAll l 0).2.1 ≤ l.length := by
  have key : ∀ m k, l.length - k ≤ m → (pAll l k).2.1 ≤ l.length := by
    intro m
    induction m with
    | zero => intro k h; rw [pAll_end (by omega)]; simp
    | succ m ih =>
      intro k h
      by_cases hlt : k < l.length
      · by_cases he : (pFirst (l.drop k)).2.2 = 0
        · have hp := pFirst_ok he
          rw [pAll_ok hlt he]
          exact ih _ (by omega)
        · rw [pAll_err hlt he]; dsimp only; omega
      · rw [pAll_end hlt]; simp
  exact key l.length 0 (by omega)

set_option maxHeartbeats 800000 in
theorem write_open (D : Nat) (p bs t : ByteArray) (ht : p ++ bs = t) (at' e : Nat) (hq : (pAll t.data.toList 0).2 = (at', e)) (v : Value) (w : World) (h : DecAt D p false w)
    (hv : ∀ n, (convert 38 9 v).run Try.prog (w.drewN n) = .ok (.string bs) (w.drewN n)) (hs : t.size ≤ 1000000) :
    Calls Try.prog 31 #[.pointer (some ⟨D, 0, none⟩), v] w fun r w' =>
      (e = 0 ∧ r = .returned (.tuple #[.string t, .int .i64 0]) ∧ DecAt D ⟨#[]⟩ false w' ∧ Below D w w') ∨
      (e = 23 ∧ r = .returned (.tuple #[.string (t.extract 0 at'), .int .i64 0]) ∧ DecAt D (t.extract at' t.size) false w' ∧ Below D w w') ∨
      (e ≠ 0 ∧ e ≠ 23 ∧ r = .returned (.tuple #[.string ⟨#[]⟩, .int .i64 e]) ∧ DecAt D p false w' ∧ Below D w w') := by
  have HU := Lib.hid (usable_open D p false w h)
  have g0 : w.cell? ⟨D, 0, none⟩ = some (.string p) := by rw [cell_of_row _ _ _ _ _ _ h]; rfl
  have hD : D < w.heap.size := (Array.getElem?_eq_some_iff.1 h).1
  have hsz : t.size = p.size + bs.size := by rw [← ht]; exact ByteArray.size_append
  have hsum : p.size + bs.size ≤ 1000000 := by omega
  have HC := check_any t (by unfold maxLen; omega)
  rw [hq] at HC
  have HC := Lib.hid HC
  have hat : at' ≤ t.size := by
    have := pAll_at t.data.toList
    rw [hq] at this
    simpa using this
  have HSZ := Lib.hid hsz
  clear hq hsz
  go_enter Try.func31, Try.ntmps31
  go_wp2_with fail
  refine HU.out.mono ?_
  rintro e w1 ⟨rfl, rfl⟩
  go_wp2_with fail
  go_quiet (fail)
  have h2 : DecAt D p false (w1.drewN nq) := h
  have b2 : Below D w1 (w1.drewN nq) := below_drewN (Below.refl D w1)
  have hD2 : D < (w1.drewN nq).heap.size := hD
  clear hv g0 h
  generalize w1.drewN nq = w2 at *
  go_wp2_with fail
  refine (HC.out _).mono ?_
  rintro e w3 ⟨rfl, b3⟩
  have h3 : DecAt D p false w3 := heap_below b3 hD2 h2
  have b3' := b2.trans (b3.mono (Nat.le_of_lt hD2))
  have g0 : w3.cell? ⟨D, 0, none⟩ = some (.string p) := by rw [cell_of_row _ _ _ _ _ _ h3]; rfl
  have f0 : w3.frozen? ⟨D, 0, none⟩ = false := frozen_of_row _ _ _ _ _ h3
  clear h2 b2 b3 hsum
  have hset : ∀ x : ByteArray, DecAt D x false (w3.setCell ⟨D, 0, none⟩ (.string x)) := fun x => heap_setCell_same w3 D 0 _ _ _ h3
  have hbel : ∀ x : ByteArray, Below D w1 (w3.setCell ⟨D, 0, none⟩ (.string x)) := fun x => b3'.setCell (Nat.le_refl _) _
  have HSET := Lib.hid hset
  have HBEL := Lib.hid hbel
  clear hset hbel
  by_cases h0 : e = 0
  · subst h0
    go_wp2
    go_ret2
    exact ⟨rfl, HSET.out _, HBEL.out _⟩
  · by_cases h23 : e = 23
    · subst h23
      go_wp2
      go_ret2
      exact ⟨rfl, HSET.out _, HBEL.out _⟩
    · have hb0 : ((e : Int) == 0) = false := by simp; omega
      have hb23 : ((e : Int) == 23) = false := by simp; omega
      go_wp2
      go_ret2
      exact Or.inr (Or.inr ⟨h0, h23, rfl, h3, b3'⟩)
end Go.Proofs.Ytefncnmahimgpaa
