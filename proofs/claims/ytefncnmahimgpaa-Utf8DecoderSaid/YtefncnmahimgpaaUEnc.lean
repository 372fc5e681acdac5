/- Contracts of utf8.within, Encode. -/
import Derived.Test.YtefncnmahimgpaaRows
import Derived.Test.YtefncnmahimgpaaBase
import Derived.Test.YtefncnmahimgpaaRow
import Derived.Test.YtefncnmahimgpaaUSize
import Derived.WalkKit
import Derived.OwnWalk
import Derived.WalkSpells
import Derived.WalkLawsBesides
import Derived.Lib.Hide
import Derived.Lib.ConvBytes
import Derived.Deep.MidRow
import Derived.Laws.IdiomStrings
import Derived.Deep.QuietTactic
import Derived.BigQuiet
import Derived.Outline
import Derived.KernelRfl
import Derived.Laws.BitsLemmas
namespace Go.Proofs.Ytefncnmahimgpaa
open Go.RowKit

/-- does a code point belong to a class? -/
def inC (mn mx r : Int) : Bool := decide (mn ≤ r) && (decide (r ≤ mx) && (decide (r < 55296) || decide (57343 < r)))

set_option maxHeartbeats 800000 in
theorem within_any (c0 c1 c2 mn mx r : Int) (w : World) :
    Calls Try.prog 40 #[.agg #[.int .u8 c0, .int .u8 c1, .int .u8 c2, .int .i32 mn, .int .i32 mx], .int .i32 r] w fun e w' => e = .returned (.bool (inC mn mx r)) ∧ Below w.heap.size w w' := by
  have hB := fun ob => (Below.refl w.heap.size w).alloc (Nat.le_refl _) ob
  by_cases q1 : mn ≤ r <;> by_cases q2 : r ≤ mx <;> by_cases q3 : r < 55296 <;> by_cases q4 : 57343 < r
  all_goals first
    | (exfalso; omega)
    | (go_enter Try.func40, Try.ntmps40
       go_wp2
       go_ret
       exact ⟨ret_bool (by simp [inC, q1, q2, q3, q4]), hB _⟩)

theorem or128 : ∀ a : Nat, a < 64 → bits BinOp.or IntKind.u8 128 (a : Int) = 128 + (a : Int) := by decide +kernel
theorem or0 : ∀ a : Nat, a < 128 → bits BinOp.or IntKind.u8 0 (a : Int) = (a : Int) := by decide +kernel
theorem or192 : ∀ a : Nat, a < 32 → bits BinOp.or IntKind.u8 192 (a : Int) = 192 + (a : Int) := by decide +kernel
theorem or224 : ∀ a : Nat, a < 16 → bits BinOp.or IntKind.u8 224 (a : Int) = 224 + (a : Int) := by decide +kernel
theorem or240 : ∀ a : Nat, a < 8 → bits BinOp.or IntKind.u8 240 (a : Int) = 240 + (a : Int) := by decide +kernel
theorem bits_hi0 : bits BinOp.andNot IntKind.u8 0 127 = 0 := by kernel_rfl
theorem bits_hi1 : bits BinOp.andNot IntKind.u8 194 31 = 192 := by kernel_rfl
theorem bits_hi2 : bits BinOp.andNot IntKind.u8 224 15 = 224 := by kernel_rfl
theorem bits_hi3 : bits BinOp.andNot IntKind.u8 240 7 = 240 := by kernel_rfl
theorem mk1 (w : World) : (Instr.makeSlice 38 (.int .i64 1) (.int .i64 1)).run Try.prog w = .ok (.slice (some ⟨w.heap.size, 0, none⟩) 1 1) (w.alloc (.cells #[.int .u8 0] 5)) := by kernel_rfl
theorem mk2 (w : World) : (Instr.makeSlice 38 (.int .i64 2) (.int .i64 2)).run Try.prog w = .ok (.slice (some ⟨w.heap.size, 0, none⟩) 2 2) (w.alloc (.cells #[.int .u8 0, .int .u8 0] 5)) := by kernel_rfl
theorem mk3 (w : World) : (Instr.makeSlice 38 (.int .i64 3) (.int .i64 3)).run Try.prog w = .ok (.slice (some ⟨w.heap.size, 0, none⟩) 3 3) (w.alloc (.cells #[.int .u8 0, .int .u8 0, .int .u8 0] 5)) := by kernel_rfl
theorem mk4 (w : World) : (Instr.makeSlice 38 (.int .i64 4) (.int .i64 4)).run Try.prog w = .ok (.slice (some ⟨w.heap.size, 0, none⟩) 4 4) (w.alloc (.cells #[.int .u8 0, .int .u8 0, .int .u8 0, .int .u8 0] 5)) := by kernel_rfl

/-- the bytes of a code point -/
def encN (r : Nat) : List Nat := if r ≤ 127 then [r] else if r ≤ 2047 then [192 + r / 64, 128 + r % 64] else if r ≤ 65535 then [224 + r / 4096, 128 + r / 64 % 64, 128 + r % 64] else [240 + r / 262144, 128 + r / 4096 % 64, 128 + r / 64 % 64, 128 + r % 64]
def encL (r : Nat) : List UInt8 := (encN r).map UInt8.ofNat
def scalarB (r : Int) : Bool := decide (0 ≤ r) && decide (r ≤ 1114111) && (decide (r < 55296) || decide (57343 < r))
/-- what Encode answers -/
def pEnc (r : Int) : ByteArray × Nat := if scalarB r then (⟨(encL r.toNat).toArray⟩, 0) else (⟨#[]⟩, 2)
def tailN (rn : Nat) : Nat → List Nat
  | 0 => []
  | t + 1 => (128 + rn / 64 ^ t % 64) :: tailN rn t
/-- the row of the bytes of a code point of k + 1 bytes, of which j + 1 are not yet written -/
def rowN (k j rn : Nat) : Array Value := ((List.replicate (j + 1) 0 ++ tailN rn (k - j)).map (fun x : Nat => Value.int .u8 (x : Int))).toArray
/-- the code point belongs to none of the first k classes -/
def NoIn (r : Int) (k : Nat) : Prop := (1 ≤ k → inC 0 127 r = false) ∧ (2 ≤ k → inC 128 2047 r = false) ∧ (3 ≤ k → inC 2048 65535 r = false) ∧ (4 ≤ k → inC 65536 1114111 r = false)

theorem u8z (v : Nat) (h : v < 256) : (((UInt8.ofNat v).toNat : Nat) : Int) = (v : Int) := by simp; omega
theorem enc_back0 (rn : Nat) (h : rn / 64 ^ (0 - 0) < 128) (W : World) (bk : Nat) (hrow : W.heap[bk]? = some (.cells ((rowN 0 0 rn).setIfInBounds 0 (.int .u8 (((rn / 64 ^ (0 - 0) : Nat) : Int)))) 5 (0, 0))) :
    (convert 38 9 (.slice (some ⟨bk, 0, none⟩) 1 1)).run Try.prog W = .ok (.string ⟨[UInt8.ofNat rn].toArray⟩) W := by
  have h' : rn / 1 < 128 := h
  refine run_convert_bytes_back (P := Try.prog) W 38 9 5 ⟨bk, 0, none⟩ 1 [UInt8.ofNat rn] Try.underlying38 Try.underlying5 Try.underlying9 (fun x hx => ?_)
  have hx' : x < 1 := hx
  rw [Addr.add_mid, Nat.zero_add, cell_of_row _ _ _ _ _ _ hrow]
  obtain rfl : x = 0 := by omega
  · refine congrArg (fun z => some (Value.int .u8 z)) (Eq.trans ?_ (u8z (rn) (by omega)).symm)
    show (((rn / 64 ^ (0 - 0) : Nat)) : Int) = _; simp
theorem enc_back1 (rn : Nat) (h : rn / 64 ^ (1 - 0) < 32) (W : World) (bk : Nat) (hrow : W.heap[bk]? = some (.cells ((rowN 1 0 rn).setIfInBounds 0 (.int .u8 (192 + ((rn / 64 ^ (1 - 0) : Nat) : Int)))) 5 (0, 0))) :
    (convert 38 9 (.slice (some ⟨bk, 0, none⟩) 2 2)).run Try.prog W = .ok (.string ⟨[UInt8.ofNat (192 + rn / 64), UInt8.ofNat (128 + rn % 64)].toArray⟩) W := by
  have h' : rn / 64 < 32 := h
  refine run_convert_bytes_back (P := Try.prog) W 38 9 5 ⟨bk, 0, none⟩ 2 [UInt8.ofNat (192 + rn / 64), UInt8.ofNat (128 + rn % 64)] Try.underlying38 Try.underlying5 Try.underlying9 (fun x hx => ?_)
  have hx' : x < 2 := hx
  rw [Addr.add_mid, Nat.zero_add, cell_of_row _ _ _ _ _ _ hrow]
  obtain rfl | rfl : x = 0 ∨ x = 1 := by omega
  · refine congrArg (fun z => some (Value.int .u8 z)) (Eq.trans ?_ (u8z (192 + rn / 64) (by omega)).symm)
    show 192 + ((rn / 64 : Nat) : Int) = _; omega
  · exact congrArg (fun z => some (Value.int .u8 z)) (Eq.trans (show (((128 + rn / 64 ^ 0 % 64 : Nat)) : Int) = ((128 + rn % 64 : Nat) : Int) by simp) (u8z (128 + rn % 64) (by omega)).symm)
theorem enc_back2 (rn : Nat) (h : rn / 64 ^ (2 - 0) < 16) (W : World) (bk : Nat) (hrow : W.heap[bk]? = some (.cells ((rowN 2 0 rn).setIfInBounds 0 (.int .u8 (224 + ((rn / 64 ^ (2 - 0) : Nat) : Int)))) 5 (0, 0))) :
    (convert 38 9 (.slice (some ⟨bk, 0, none⟩) 3 3)).run Try.prog W = .ok (.string ⟨[UInt8.ofNat (224 + rn / 4096), UInt8.ofNat (128 + rn / 64 % 64), UInt8.ofNat (128 + rn % 64)].toArray⟩) W := by
  have h' : rn / 4096 < 16 := h
  refine run_convert_bytes_back (P := Try.prog) W 38 9 5 ⟨bk, 0, none⟩ 3 [UInt8.ofNat (224 + rn / 4096), UInt8.ofNat (128 + rn / 64 % 64), UInt8.ofNat (128 + rn % 64)] Try.underlying38 Try.underlying5 Try.underlying9 (fun x hx => ?_)
  have hx' : x < 3 := hx
  rw [Addr.add_mid, Nat.zero_add, cell_of_row _ _ _ _ _ _ hrow]
  obtain rfl | rfl | rfl : x = 0 ∨ x = 1 ∨ x = 2 := by omega
  · refine congrArg (fun z => some (Value.int .u8 z)) (Eq.trans ?_ (u8z (224 + rn / 4096) (by omega)).symm)
    show 224 + ((rn / 4096 : Nat) : Int) = _; omega
  · exact congrArg (fun z => some (Value.int .u8 z)) (Eq.trans (show (((128 + rn / 64 ^ 1 % 64 : Nat)) : Int) = ((128 + rn / 64 % 64 : Nat) : Int) by simp) (u8z (128 + rn / 64 % 64) (by omega)).symm)
  · exact congrArg (fun z => some (Value.int .u8 z)) (Eq.trans (show (((128 + rn / 64 ^ 0 % 64 : Nat)) : Int) = ((128 + rn % 64 : Nat) : Int) by simp) (u8z (128 + rn % 64) (by omega)).symm)
theorem enc_back3 (rn : Nat) (h : rn / 64 ^ (3 - 0) < 8) (W : World) (bk : Nat) (hrow : W.heap[bk]? = some (.cells ((rowN 3 0 rn).setIfInBounds 0 (.int .u8 (240 + ((rn / 64 ^ (3 - 0) : Nat) : Int)))) 5 (0, 0))) :
    (convert 38 9 (.slice (some ⟨bk, 0, none⟩) 4 4)).run Try.prog W = .ok (.string ⟨[UInt8.ofNat (240 + rn / 262144), UInt8.ofNat (128 + rn / 4096 % 64), UInt8.ofNat (128 + rn / 64 % 64), UInt8.ofNat (128 + rn % 64)].toArray⟩) W := by
  have h' : rn / 262144 < 8 := h
  refine run_convert_bytes_back (P := Try.prog) W 38 9 5 ⟨bk, 0, none⟩ 4 [UInt8.ofNat (240 + rn / 262144), UInt8.ofNat (128 + rn / 4096 % 64), UInt8.ofNat (128 + rn / 64 % 64), UInt8.ofNat (128 + rn % 64)] Try.underlying38 Try.underlying5 Try.underlying9 (fun x hx => ?_)
  have hx' : x < 4 := hx
  rw [Addr.add_mid, Nat.zero_add, cell_of_row _ _ _ _ _ _ hrow]
  obtain rfl | rfl | rfl | rfl : x = 0 ∨ x = 1 ∨ x = 2 ∨ x = 3 := by omega
  · refine congrArg (fun z => some (Value.int .u8 z)) (Eq.trans ?_ (u8z (240 + rn / 262144) (by omega)).symm)
    show 240 + ((rn / 262144 : Nat) : Int) = _; omega
  · exact congrArg (fun z => some (Value.int .u8 z)) (Eq.trans (show (((128 + rn / 64 ^ 2 % 64 : Nat)) : Int) = ((128 + rn / 4096 % 64 : Nat) : Int) by simp) (u8z (128 + rn / 4096 % 64) (by omega)).symm)
  · exact congrArg (fun z => some (Value.int .u8 z)) (Eq.trans (show (((128 + rn / 64 ^ 1 % 64 : Nat)) : Int) = ((128 + rn / 64 % 64 : Nat) : Int) by simp) (u8z (128 + rn / 64 % 64) (by omega)).symm)
  · exact congrArg (fun z => some (Value.int .u8 z)) (Eq.trans (show (((128 + rn / 64 ^ 0 % 64 : Nat)) : Int) = ((128 + rn % 64 : Nat) : Int) by simp) (u8z (128 + rn % 64) (by omega)).symm)

set_option maxRecDepth 100000 in
set_option maxHeartbeats 3200000 in
theorem encode_any (r : Int) (w : World) :
    Calls Try.prog 21 #[.int .i32 r] w fun e w' => e = .returned (.tuple #[.string (pEnc r).1, .int .i64 (pEnc r).2]) ∧ Below w.heap.size w w' := by
  go_enter Try.func21, Try.ntmps21
  go_wp2_with fail
  refine (classes_any _).mono ?_
  rintro e w1 ⟨rfl, b1⟩
  have i0 := fun w => cls_at0 w
  have i1 := fun w => cls_at1 w
  have i2 := fun w => cls_at2 w
  have i3 := fun w => cls_at3 w
  go_wp2_with fail
  go_loopw [0, 9] (fun rr i wr => ∃ k : Nat, k ≤ 4 ∧ rr = .int .i32 r ∧ i = .int .i64 k ∧ NoIn r k ∧ Below w.heap.size w wr) (fun _ i _ => 4 - (intOf i).toNat)
  case atStart => exact ⟨0, by omega, rfl, rfl, ⟨fun h => by omega, fun h => by omega, fun h => by omega, fun h => by omega⟩, b1⟩
  case round =>
    obtain ⟨k, hk, rfl, rfl, hn, hb⟩ := hrel
    rename World => wo
    have hsz := hb.size
    obtain rfl | rfl | rfl | rfl | rfl : k = 0 ∨ k = 1 ∨ k = 2 ∨ k = 3 ∨ k = 4 := by omega
    · have HQ : Hid ((wo.alloc (.cells #[.int .u8 0, .int .u8 0, .int .u8 0, .int .i32 0, .int .i32 0] 63)).heap[wo.heap.size]? = some (.cells #[.int .u8 0, .int .u8 0, .int .u8 0, .int .i32 0, .int .i32 0] 63 (0, 0))) := Lib.hid (heap_alloc_new wo _)
      go_wp2_with (refine wpList_store_abs (by rfl) 63 (.tmp 5) (.tmp 12) (by rfl) wo.heap.size cls0 (by rfl) (by rfl) _ _ HQ.out cls0Info rfl cls0_one w.heap.size w (hb.alloc hsz _) hsz ?_)
      intro w2 h2 b2 o2
      go_wp2_with (refine wpList_load_abs (by rfl) 63 (.tmp 5) (by rfl) wo.heap.size (by rfl) _ _ _ _ h2.out Try.underlying63 rfl cls0Info ?_)
      refine (within_any 0 127 127 0 127 r w2).mono ?_
      rintro e w3 ⟨rfl, b3⟩
      have c3 := b2.trans (b3.mono b2.size)
      have hlt2 : wo.heap.size < w2.heap.size := by
        have := (Array.getElem?_eq_some_iff.1 h2.out).1
        exact this
      have h3 : Hid (w3.heap[wo.heap.size]? = some (.cells cls0 63 (0, 0))) := Lib.hid (heap_below b3 hlt2 h2.out)
      clear o2 HQ b2 b3
      cases hin : inC 0 127 r
      · go_wp2
        go_roundw
        case rel => exact ⟨1, by omega, rfl, by go_num, by obtain ⟨m1, m2, m3, m4⟩ := hn; exact ⟨fun _ => hin, fun _ => by omega, fun _ => by omega, fun _ => by omega⟩, c3⟩
        case measure => simp [intOf]
      · obtain ⟨rn, rfl⟩ : ∃ rn : Nat, r = (rn : Int) := ⟨r.toNat, by simp [inC] at hin; omega⟩
        have hlo : 0 ≤ rn := by simp [inC] at hin; omega
        have hhi : rn ≤ 127 := by simp [inC] at hin; omega
        have HE : Hid (pEnc (rn : Int) = (⟨(encL rn).toArray⟩, 0)) := by
          apply Lib.hid
          have hs : scalarB (rn : Int) = true := by simp [inC] at hin; simp [scalarB]; omega
          rw [pEnc, hs]; rfl
        have HR0 : Hid ((w3.alloc (.cells (rowN 0 0 rn) 5)).heap[w3.heap.size]? = some (.cells (rowN 0 0 rn) 5 (0, 0))) := Lib.hid (heap_alloc_new w3 _)
        have HC0 : Hid ((w3.alloc (.cells (rowN 0 0 rn) 5)).heap[wo.heap.size]? = some (.cells cls0 63 (0, 0))) := Lib.hid (heap_alloc_old' h3.out)
        have hB0 : Below w.heap.size w (w3.alloc (.cells (rowN 0 0 rn) 5)) := c3.alloc c3.size _
        have hmk : (Instr.makeSlice 38 (.int .i64 1) (.int .i64 1)).run Try.prog w3 = .ok (.slice (some ⟨w3.heap.size, 0, none⟩) 1 1) (w3.alloc (.cells (rowN 0 0 rn) 5)) := mk1 w3
        have hne : w3.heap.size ≠ wo.heap.size := by have := (Array.getElem?_eq_some_iff.1 h3.out).1; omega
        have c3s := c3.size
        generalize w3.alloc (.cells (rowN 0 0 rn) 5) = w4 at *
        generalize w3.heap.size = bk at *
        clear hn hin h3 h2 c3 b1 hb
        go_wp2
        go_loopw [0, 7] (fun rr i wr => ∃ j : Nat, j ≤ 0 ∧ i = .int .i64 j ∧ rr = .int .i32 ((rn / 64 ^ (0 - j) : Nat) : Int) ∧ Hid (wr.heap[bk]? = some (.cells (rowN 0 j rn) 5 (0, 0))) ∧ Hid (wr.heap[wo.heap.size]? = some (.cells cls0 63 (0, 0))) ∧ Below w.heap.size w wr) (fun _ i _ => (intOf i).toNat)
        case atStart => exact ⟨0, by omega, rfl, by simp, HR0, HC0, hB0⟩
        case round =>
          obtain ⟨j, hj, rfl, rfl, HR, HC, hb⟩ := hrel
          clear HR0 HC0 hB0
          obtain rfl : j = 0 := by omega
          · obtain ⟨a, ha⟩ : ∃ a : Nat, a = rn / 64 ^ (0 - 0) := ⟨_, rfl⟩
            have hab : a < 1114112 := by rw [ha]; have := Nat.div_le_self rn (64 ^ (0 - 0)); omega
            rw [← ha]
            have HA := Lib.hid ha
            have g0 : wr.cell? ⟨bk, 0, none⟩ = some (.int .u8 0) := by rw [cell_of_row _ _ _ _ _ _ HR.out]; rfl
            have f0 : wr.frozen? ⟨bk, 0, none⟩ = false := frozen_of_row _ _ _ _ _ HR.out
            have hlead : a < 128 := by rw [ha]; show rn / 1 < 128; omega
            have g1 : wr.cell? ⟨wo.heap.size, 0, none⟩ = some (.int .u8 0) := by rw [cell_of_row _ _ _ _ _ _ HC.out]; rfl
            have g2 : wr.cell? ⟨wo.heap.size, 2, none⟩ = some (.int .u8 127) := by rw [cell_of_row _ _ _ _ _ _ HC.out]; rfl
            have e1 := bits_hi0
            have e2 := or0 a (by omega)
            have hrow := heap_setCell_same wr bk 0 (rowN 0 0 rn) 5 (.int .u8 ((a : Int))) HR.out
            have hb5 : Below w.heap.size w (wr.setCell ⟨bk, 0, none⟩ (.int .u8 ((a : Int)))) := hb.setCell (by exact c3s) _
            have hel : encL rn = [UInt8.ofNat rn] := by simp [encL, encN, show rn ≤ 127 by omega]
            rw [ha] at hrow
            have hback := enc_back0 rn (by rw [← ha]; exact hlead) _ bk hrow
            rw [← hel, ← ha] at hback
            have e4 : (a : Int) % 256 = (a : Int) := by omega
            clear ha HA hrow hel
            go_wp2_with fail
            go_ret2
            rw [HE.out]
            exact ⟨rfl, hb5⟩
    · have HQ : Hid ((wo.alloc (.cells #[.int .u8 0, .int .u8 0, .int .u8 0, .int .i32 0, .int .i32 0] 63)).heap[wo.heap.size]? = some (.cells #[.int .u8 0, .int .u8 0, .int .u8 0, .int .i32 0, .int .i32 0] 63 (0, 0))) := Lib.hid (heap_alloc_new wo _)
      go_wp2_with (refine wpList_store_abs (by rfl) 63 (.tmp 5) (.tmp 12) (by rfl) wo.heap.size cls1 (by rfl) (by rfl) _ _ HQ.out cls1Info rfl cls1_one w.heap.size w (hb.alloc hsz _) hsz ?_)
      intro w2 h2 b2 o2
      go_wp2_with (refine wpList_load_abs (by rfl) 63 (.tmp 5) (by rfl) wo.heap.size (by rfl) _ _ _ _ h2.out Try.underlying63 rfl cls1Info ?_)
      refine (within_any 194 223 31 128 2047 r w2).mono ?_
      rintro e w3 ⟨rfl, b3⟩
      have c3 := b2.trans (b3.mono b2.size)
      have hlt2 : wo.heap.size < w2.heap.size := by
        have := (Array.getElem?_eq_some_iff.1 h2.out).1
        exact this
      have h3 : Hid (w3.heap[wo.heap.size]? = some (.cells cls1 63 (0, 0))) := Lib.hid (heap_below b3 hlt2 h2.out)
      clear o2 HQ b2 b3
      cases hin : inC 128 2047 r
      · go_wp2
        go_roundw
        case rel => exact ⟨2, by omega, rfl, by go_num, by obtain ⟨m1, m2, m3, m4⟩ := hn; exact ⟨fun _ => m1 (by omega), fun _ => hin, fun _ => by omega, fun _ => by omega⟩, c3⟩
        case measure => simp [intOf]
      · obtain ⟨rn, rfl⟩ : ∃ rn : Nat, r = (rn : Int) := ⟨r.toNat, by simp [inC] at hin; omega⟩
        have hlo : 128 ≤ rn := by simp [inC] at hin; omega
        have hhi : rn ≤ 2047 := by simp [inC] at hin; omega
        have HE : Hid (pEnc (rn : Int) = (⟨(encL rn).toArray⟩, 0)) := by
          apply Lib.hid
          have hs : scalarB (rn : Int) = true := by simp [inC] at hin; simp [scalarB]; omega
          rw [pEnc, hs]; rfl
        have HR0 : Hid ((w3.alloc (.cells (rowN 1 1 rn) 5)).heap[w3.heap.size]? = some (.cells (rowN 1 1 rn) 5 (0, 0))) := Lib.hid (heap_alloc_new w3 _)
        have HC0 : Hid ((w3.alloc (.cells (rowN 1 1 rn) 5)).heap[wo.heap.size]? = some (.cells cls1 63 (0, 0))) := Lib.hid (heap_alloc_old' h3.out)
        have hB0 : Below w.heap.size w (w3.alloc (.cells (rowN 1 1 rn) 5)) := c3.alloc c3.size _
        have hmk : (Instr.makeSlice 38 (.int .i64 2) (.int .i64 2)).run Try.prog w3 = .ok (.slice (some ⟨w3.heap.size, 0, none⟩) 2 2) (w3.alloc (.cells (rowN 1 1 rn) 5)) := mk2 w3
        have hne : w3.heap.size ≠ wo.heap.size := by have := (Array.getElem?_eq_some_iff.1 h3.out).1; omega
        have c3s := c3.size
        generalize w3.alloc (.cells (rowN 1 1 rn) 5) = w4 at *
        generalize w3.heap.size = bk at *
        clear hn hin h3 h2 c3 b1 hb
        go_wp2
        go_loopw [0, 7] (fun rr i wr => ∃ j : Nat, j ≤ 1 ∧ i = .int .i64 j ∧ rr = .int .i32 ((rn / 64 ^ (1 - j) : Nat) : Int) ∧ Hid (wr.heap[bk]? = some (.cells (rowN 1 j rn) 5 (0, 0))) ∧ Hid (wr.heap[wo.heap.size]? = some (.cells cls1 63 (0, 0))) ∧ Below w.heap.size w wr) (fun _ i _ => (intOf i).toNat)
        case atStart => exact ⟨1, by omega, rfl, by simp, HR0, HC0, hB0⟩
        case round =>
          obtain ⟨j, hj, rfl, rfl, HR, HC, hb⟩ := hrel
          clear HR0 HC0 hB0
          obtain rfl | rfl : j = 0 ∨ j = 1 := by omega
          · obtain ⟨a, ha⟩ : ∃ a : Nat, a = rn / 64 ^ (1 - 0) := ⟨_, rfl⟩
            have hab : a < 1114112 := by rw [ha]; have := Nat.div_le_self rn (64 ^ (1 - 0)); omega
            rw [← ha]
            have HA := Lib.hid ha
            have g0 : wr.cell? ⟨bk, 0, none⟩ = some (.int .u8 0) := by rw [cell_of_row _ _ _ _ _ _ HR.out]; rfl
            have f0 : wr.frozen? ⟨bk, 0, none⟩ = false := frozen_of_row _ _ _ _ _ HR.out
            have hlead : a < 32 := by rw [ha]; show rn / 64 < 32; omega
            have g1 : wr.cell? ⟨wo.heap.size, 0, none⟩ = some (.int .u8 194) := by rw [cell_of_row _ _ _ _ _ _ HC.out]; rfl
            have g2 : wr.cell? ⟨wo.heap.size, 2, none⟩ = some (.int .u8 31) := by rw [cell_of_row _ _ _ _ _ _ HC.out]; rfl
            have e1 := bits_hi1
            have e2 := or192 a (by omega)
            have hrow := heap_setCell_same wr bk 0 (rowN 1 0 rn) 5 (.int .u8 (192 + (a : Int))) HR.out
            have hb5 : Below w.heap.size w (wr.setCell ⟨bk, 0, none⟩ (.int .u8 (192 + (a : Int)))) := hb.setCell (by exact c3s) _
            have hel : encL rn = [UInt8.ofNat (192 + rn / 64), UInt8.ofNat (128 + rn % 64)] := by simp [encL, encN, show ¬ rn ≤ 127 by omega, show rn ≤ 2047 by omega]
            rw [ha] at hrow
            have hback := enc_back1 rn (by rw [← ha]; exact hlead) _ bk hrow
            rw [← hel, ← ha] at hback
            have e4 : (a : Int) % 256 = (a : Int) := by omega
            clear ha HA hrow hel
            go_wp2_with fail
            go_ret2
            rw [HE.out]
            exact ⟨rfl, hb5⟩
          · obtain ⟨a, ha⟩ : ∃ a : Nat, a = rn / 64 ^ (1 - 1) := ⟨_, rfl⟩
            have hab : a < 1114112 := by rw [ha]; have := Nat.div_le_self rn (64 ^ (1 - 1)); omega
            rw [← ha]
            have HA := Lib.hid ha
            have g0 : wr.cell? ⟨bk, 1, none⟩ = some (.int .u8 0) := by rw [cell_of_row _ _ _ _ _ _ HR.out]; rfl
            have f0 : wr.frozen? ⟨bk, 1, none⟩ = false := frozen_of_row _ _ _ _ _ HR.out
            have e0 : bits BinOp.and IntKind.i32 (a : Int) 63 = (a : Int) % 64 := bits_mask .i32 31 (by decide) wraps_i32 6 (by decide) (a : Int) (by omega) (by omega)
            have e00 : (a : Int) % 64 % 256 = (a : Int) % 64 := by omega
            have e1 : bits BinOp.or IntKind.u8 128 ((a : Int) % 64) = 128 + (a : Int) % 64 := or128 (a % 64) (by omega)
            have hrow := heap_setCell_same wr bk 1 (rowN 1 1 rn) 5 (.int .u8 (128 + (a : Int) % 64)) HR.out
            have hold := heap_setCell_other wr ⟨bk, 1, none⟩ wo.heap.size (.int .u8 (128 + (a : Int) % 64)) (Ne.symm hne)
            have hb5 : Below w.heap.size w (wr.setCell ⟨bk, 1, none⟩ (.int .u8 (128 + (a : Int) % 64))) := hb.setCell (by exact c3s) _
            have hR5 : Hid ((wr.setCell ⟨bk, 1, none⟩ (.int .u8 (128 + (a : Int) % 64))).heap[bk]? = some (.cells (rowN 1 0 rn) 5 (0, 0))) := by
              apply Lib.hid
              rw [hrow, ha]
              rfl
            have hC5 : Hid ((wr.setCell ⟨bk, 1, none⟩ (.int .u8 (128 + (a : Int) % 64))).heap[wo.heap.size]? = some (.cells cls1 63 (0, 0))) := Lib.hid (hold.trans HC.out)
            clear hrow hold ha
            go_wp2
            go_roundw
            case rel => exact ⟨0, by omega, by go_num, by rw [HA.out]; go_num, hR5, hC5, hb5⟩
            case measure => simp [intOf]
    · have HQ : Hid ((wo.alloc (.cells #[.int .u8 0, .int .u8 0, .int .u8 0, .int .i32 0, .int .i32 0] 63)).heap[wo.heap.size]? = some (.cells #[.int .u8 0, .int .u8 0, .int .u8 0, .int .i32 0, .int .i32 0] 63 (0, 0))) := Lib.hid (heap_alloc_new wo _)
      go_wp2_with (refine wpList_store_abs (by rfl) 63 (.tmp 5) (.tmp 12) (by rfl) wo.heap.size cls2 (by rfl) (by rfl) _ _ HQ.out cls2Info rfl cls2_one w.heap.size w (hb.alloc hsz _) hsz ?_)
      intro w2 h2 b2 o2
      go_wp2_with (refine wpList_load_abs (by rfl) 63 (.tmp 5) (by rfl) wo.heap.size (by rfl) _ _ _ _ h2.out Try.underlying63 rfl cls2Info ?_)
      refine (within_any 224 239 15 2048 65535 r w2).mono ?_
      rintro e w3 ⟨rfl, b3⟩
      have c3 := b2.trans (b3.mono b2.size)
      have hlt2 : wo.heap.size < w2.heap.size := by
        have := (Array.getElem?_eq_some_iff.1 h2.out).1
        exact this
      have h3 : Hid (w3.heap[wo.heap.size]? = some (.cells cls2 63 (0, 0))) := Lib.hid (heap_below b3 hlt2 h2.out)
      clear o2 HQ b2 b3
      cases hin : inC 2048 65535 r
      · go_wp2
        go_roundw
        case rel => exact ⟨3, by omega, rfl, by go_num, by obtain ⟨m1, m2, m3, m4⟩ := hn; exact ⟨fun _ => m1 (by omega), fun _ => m2 (by omega), fun _ => hin, fun _ => by omega⟩, c3⟩
        case measure => simp [intOf]
      · obtain ⟨rn, rfl⟩ : ∃ rn : Nat, r = (rn : Int) := ⟨r.toNat, by simp [inC] at hin; omega⟩
        have hlo : 2048 ≤ rn := by simp [inC] at hin; omega
        have hhi : rn ≤ 65535 := by simp [inC] at hin; omega
        have HE : Hid (pEnc (rn : Int) = (⟨(encL rn).toArray⟩, 0)) := by
          apply Lib.hid
          have hs : scalarB (rn : Int) = true := by simp [inC] at hin; simp [scalarB]; omega
          rw [pEnc, hs]; rfl
        have HR0 : Hid ((w3.alloc (.cells (rowN 2 2 rn) 5)).heap[w3.heap.size]? = some (.cells (rowN 2 2 rn) 5 (0, 0))) := Lib.hid (heap_alloc_new w3 _)
        have HC0 : Hid ((w3.alloc (.cells (rowN 2 2 rn) 5)).heap[wo.heap.size]? = some (.cells cls2 63 (0, 0))) := Lib.hid (heap_alloc_old' h3.out)
        have hB0 : Below w.heap.size w (w3.alloc (.cells (rowN 2 2 rn) 5)) := c3.alloc c3.size _
        have hmk : (Instr.makeSlice 38 (.int .i64 3) (.int .i64 3)).run Try.prog w3 = .ok (.slice (some ⟨w3.heap.size, 0, none⟩) 3 3) (w3.alloc (.cells (rowN 2 2 rn) 5)) := mk3 w3
        have hne : w3.heap.size ≠ wo.heap.size := by have := (Array.getElem?_eq_some_iff.1 h3.out).1; omega
        have c3s := c3.size
        generalize w3.alloc (.cells (rowN 2 2 rn) 5) = w4 at *
        generalize w3.heap.size = bk at *
        clear hn hin h3 h2 c3 b1 hb
        go_wp2
        go_loopw [0, 7] (fun rr i wr => ∃ j : Nat, j ≤ 2 ∧ i = .int .i64 j ∧ rr = .int .i32 ((rn / 64 ^ (2 - j) : Nat) : Int) ∧ Hid (wr.heap[bk]? = some (.cells (rowN 2 j rn) 5 (0, 0))) ∧ Hid (wr.heap[wo.heap.size]? = some (.cells cls2 63 (0, 0))) ∧ Below w.heap.size w wr) (fun _ i _ => (intOf i).toNat)
        case atStart => exact ⟨2, by omega, rfl, by simp, HR0, HC0, hB0⟩
        case round =>
          obtain ⟨j, hj, rfl, rfl, HR, HC, hb⟩ := hrel
          clear HR0 HC0 hB0
          obtain rfl | rfl | rfl : j = 0 ∨ j = 1 ∨ j = 2 := by omega
          · obtain ⟨a, ha⟩ : ∃ a : Nat, a = rn / 64 ^ (2 - 0) := ⟨_, rfl⟩
            have hab : a < 1114112 := by rw [ha]; have := Nat.div_le_self rn (64 ^ (2 - 0)); omega
            rw [← ha]
            have HA := Lib.hid ha
            have g0 : wr.cell? ⟨bk, 0, none⟩ = some (.int .u8 0) := by rw [cell_of_row _ _ _ _ _ _ HR.out]; rfl
            have f0 : wr.frozen? ⟨bk, 0, none⟩ = false := frozen_of_row _ _ _ _ _ HR.out
            have hlead : a < 16 := by rw [ha]; show rn / 4096 < 16; omega
            have g1 : wr.cell? ⟨wo.heap.size, 0, none⟩ = some (.int .u8 224) := by rw [cell_of_row _ _ _ _ _ _ HC.out]; rfl
            have g2 : wr.cell? ⟨wo.heap.size, 2, none⟩ = some (.int .u8 15) := by rw [cell_of_row _ _ _ _ _ _ HC.out]; rfl
            have e1 := bits_hi2
            have e2 := or224 a (by omega)
            have hrow := heap_setCell_same wr bk 0 (rowN 2 0 rn) 5 (.int .u8 (224 + (a : Int))) HR.out
            have hb5 : Below w.heap.size w (wr.setCell ⟨bk, 0, none⟩ (.int .u8 (224 + (a : Int)))) := hb.setCell (by exact c3s) _
            have hel : encL rn = [UInt8.ofNat (224 + rn / 4096), UInt8.ofNat (128 + rn / 64 % 64), UInt8.ofNat (128 + rn % 64)] := by simp [encL, encN, show ¬ rn ≤ 127 by omega, show ¬ rn ≤ 2047 by omega, show rn ≤ 65535 by omega]
            rw [ha] at hrow
            have hback := enc_back2 rn (by rw [← ha]; exact hlead) _ bk hrow
            rw [← hel, ← ha] at hback
            have e4 : (a : Int) % 256 = (a : Int) := by omega
            clear ha HA hrow hel
            go_wp2_with fail
            go_ret2
            rw [HE.out]
            exact ⟨rfl, hb5⟩
          · obtain ⟨a, ha⟩ : ∃ a : Nat, a = rn / 64 ^ (2 - 1) := ⟨_, rfl⟩
            have hab : a < 1114112 := by rw [ha]; have := Nat.div_le_self rn (64 ^ (2 - 1)); omega
            rw [← ha]
            have HA := Lib.hid ha
            have g0 : wr.cell? ⟨bk, 1, none⟩ = some (.int .u8 0) := by rw [cell_of_row _ _ _ _ _ _ HR.out]; rfl
            have f0 : wr.frozen? ⟨bk, 1, none⟩ = false := frozen_of_row _ _ _ _ _ HR.out
            have e0 : bits BinOp.and IntKind.i32 (a : Int) 63 = (a : Int) % 64 := bits_mask .i32 31 (by decide) wraps_i32 6 (by decide) (a : Int) (by omega) (by omega)
            have e00 : (a : Int) % 64 % 256 = (a : Int) % 64 := by omega
            have e1 : bits BinOp.or IntKind.u8 128 ((a : Int) % 64) = 128 + (a : Int) % 64 := or128 (a % 64) (by omega)
            have hrow := heap_setCell_same wr bk 1 (rowN 2 1 rn) 5 (.int .u8 (128 + (a : Int) % 64)) HR.out
            have hold := heap_setCell_other wr ⟨bk, 1, none⟩ wo.heap.size (.int .u8 (128 + (a : Int) % 64)) (Ne.symm hne)
            have hb5 : Below w.heap.size w (wr.setCell ⟨bk, 1, none⟩ (.int .u8 (128 + (a : Int) % 64))) := hb.setCell (by exact c3s) _
            have hR5 : Hid ((wr.setCell ⟨bk, 1, none⟩ (.int .u8 (128 + (a : Int) % 64))).heap[bk]? = some (.cells (rowN 2 0 rn) 5 (0, 0))) := by
              apply Lib.hid
              rw [hrow, ha]
              rfl
            have hC5 : Hid ((wr.setCell ⟨bk, 1, none⟩ (.int .u8 (128 + (a : Int) % 64))).heap[wo.heap.size]? = some (.cells cls2 63 (0, 0))) := Lib.hid (hold.trans HC.out)
            clear hrow hold ha
            go_wp2
            go_roundw
            case rel => exact ⟨0, by omega, by go_num, by rw [HA.out]; go_num, hR5, hC5, hb5⟩
            case measure => simp [intOf]
          · obtain ⟨a, ha⟩ : ∃ a : Nat, a = rn / 64 ^ (2 - 2) := ⟨_, rfl⟩
            have hab : a < 1114112 := by rw [ha]; have := Nat.div_le_self rn (64 ^ (2 - 2)); omega
            rw [← ha]
            have HA := Lib.hid ha
            have g0 : wr.cell? ⟨bk, 2, none⟩ = some (.int .u8 0) := by rw [cell_of_row _ _ _ _ _ _ HR.out]; rfl
            have f0 : wr.frozen? ⟨bk, 2, none⟩ = false := frozen_of_row _ _ _ _ _ HR.out
            have e0 : bits BinOp.and IntKind.i32 (a : Int) 63 = (a : Int) % 64 := bits_mask .i32 31 (by decide) wraps_i32 6 (by decide) (a : Int) (by omega) (by omega)
            have e00 : (a : Int) % 64 % 256 = (a : Int) % 64 := by omega
            have e1 : bits BinOp.or IntKind.u8 128 ((a : Int) % 64) = 128 + (a : Int) % 64 := or128 (a % 64) (by omega)
            have hrow := heap_setCell_same wr bk 2 (rowN 2 2 rn) 5 (.int .u8 (128 + (a : Int) % 64)) HR.out
            have hold := heap_setCell_other wr ⟨bk, 2, none⟩ wo.heap.size (.int .u8 (128 + (a : Int) % 64)) (Ne.symm hne)
            have hb5 : Below w.heap.size w (wr.setCell ⟨bk, 2, none⟩ (.int .u8 (128 + (a : Int) % 64))) := hb.setCell (by exact c3s) _
            have hR5 : Hid ((wr.setCell ⟨bk, 2, none⟩ (.int .u8 (128 + (a : Int) % 64))).heap[bk]? = some (.cells (rowN 2 1 rn) 5 (0, 0))) := by
              apply Lib.hid
              rw [hrow, ha]
              rfl
            have hC5 : Hid ((wr.setCell ⟨bk, 2, none⟩ (.int .u8 (128 + (a : Int) % 64))).heap[wo.heap.size]? = some (.cells cls2 63 (0, 0))) := Lib.hid (hold.trans HC.out)
            clear hrow hold ha
            go_wp2
            go_roundw
            case rel => exact ⟨1, by omega, by go_num, by rw [HA.out]; go_num, hR5, hC5, hb5⟩
            case measure => simp [intOf]
    · have HQ : Hid ((wo.alloc (.cells #[.int .u8 0, .int .u8 0, .int .u8 0, .int .i32 0, .int .i32 0] 63)).heap[wo.heap.size]? = some (.cells #[.int .u8 0, .int .u8 0, .int .u8 0, .int .i32 0, .int .i32 0] 63 (0, 0))) := Lib.hid (heap_alloc_new wo _)
      go_wp2_with (refine wpList_store_abs (by rfl) 63 (.tmp 5) (.tmp 12) (by rfl) wo.heap.size cls3 (by rfl) (by rfl) _ _ HQ.out cls3Info rfl cls3_one w.heap.size w (hb.alloc hsz _) hsz ?_)
      intro w2 h2 b2 o2
      go_wp2_with (refine wpList_load_abs (by rfl) 63 (.tmp 5) (by rfl) wo.heap.size (by rfl) _ _ _ _ h2.out Try.underlying63 rfl cls3Info ?_)
      refine (within_any 240 244 7 65536 1114111 r w2).mono ?_
      rintro e w3 ⟨rfl, b3⟩
      have c3 := b2.trans (b3.mono b2.size)
      have hlt2 : wo.heap.size < w2.heap.size := by
        have := (Array.getElem?_eq_some_iff.1 h2.out).1
        exact this
      have h3 : Hid (w3.heap[wo.heap.size]? = some (.cells cls3 63 (0, 0))) := Lib.hid (heap_below b3 hlt2 h2.out)
      clear o2 HQ b2 b3
      cases hin : inC 65536 1114111 r
      · go_wp2
        go_roundw
        case rel => exact ⟨4, by omega, rfl, by go_num, by obtain ⟨m1, m2, m3, m4⟩ := hn; exact ⟨fun _ => m1 (by omega), fun _ => m2 (by omega), fun _ => m3 (by omega), fun _ => hin⟩, c3⟩
        case measure => simp [intOf]
      · obtain ⟨rn, rfl⟩ : ∃ rn : Nat, r = (rn : Int) := ⟨r.toNat, by simp [inC] at hin; omega⟩
        have hlo : 65536 ≤ rn := by simp [inC] at hin; omega
        have hhi : rn ≤ 1114111 := by simp [inC] at hin; omega
        have HE : Hid (pEnc (rn : Int) = (⟨(encL rn).toArray⟩, 0)) := by
          apply Lib.hid
          have hs : scalarB (rn : Int) = true := by simp [inC] at hin; simp [scalarB]; omega
          rw [pEnc, hs]; rfl
        have HR0 : Hid ((w3.alloc (.cells (rowN 3 3 rn) 5)).heap[w3.heap.size]? = some (.cells (rowN 3 3 rn) 5 (0, 0))) := Lib.hid (heap_alloc_new w3 _)
        have HC0 : Hid ((w3.alloc (.cells (rowN 3 3 rn) 5)).heap[wo.heap.size]? = some (.cells cls3 63 (0, 0))) := Lib.hid (heap_alloc_old' h3.out)
        have hB0 : Below w.heap.size w (w3.alloc (.cells (rowN 3 3 rn) 5)) := c3.alloc c3.size _
        have hmk : (Instr.makeSlice 38 (.int .i64 4) (.int .i64 4)).run Try.prog w3 = .ok (.slice (some ⟨w3.heap.size, 0, none⟩) 4 4) (w3.alloc (.cells (rowN 3 3 rn) 5)) := mk4 w3
        have hne : w3.heap.size ≠ wo.heap.size := by have := (Array.getElem?_eq_some_iff.1 h3.out).1; omega
        have c3s := c3.size
        generalize w3.alloc (.cells (rowN 3 3 rn) 5) = w4 at *
        generalize w3.heap.size = bk at *
        clear hn hin h3 h2 c3 b1 hb
        go_wp2
        go_loopw [0, 7] (fun rr i wr => ∃ j : Nat, j ≤ 3 ∧ i = .int .i64 j ∧ rr = .int .i32 ((rn / 64 ^ (3 - j) : Nat) : Int) ∧ Hid (wr.heap[bk]? = some (.cells (rowN 3 j rn) 5 (0, 0))) ∧ Hid (wr.heap[wo.heap.size]? = some (.cells cls3 63 (0, 0))) ∧ Below w.heap.size w wr) (fun _ i _ => (intOf i).toNat)
        case atStart => exact ⟨3, by omega, rfl, by simp, HR0, HC0, hB0⟩
        case round =>
          obtain ⟨j, hj, rfl, rfl, HR, HC, hb⟩ := hrel
          clear HR0 HC0 hB0
          obtain rfl | rfl | rfl | rfl : j = 0 ∨ j = 1 ∨ j = 2 ∨ j = 3 := by omega
          · obtain ⟨a, ha⟩ : ∃ a : Nat, a = rn / 64 ^ (3 - 0) := ⟨_, rfl⟩
            have hab : a < 1114112 := by rw [ha]; have := Nat.div_le_self rn (64 ^ (3 - 0)); omega
            rw [← ha]
            have HA := Lib.hid ha
            have g0 : wr.cell? ⟨bk, 0, none⟩ = some (.int .u8 0) := by rw [cell_of_row _ _ _ _ _ _ HR.out]; rfl
            have f0 : wr.frozen? ⟨bk, 0, none⟩ = false := frozen_of_row _ _ _ _ _ HR.out
            have hlead : a < 8 := by rw [ha]; show rn / 262144 < 8; omega
            have g1 : wr.cell? ⟨wo.heap.size, 0, none⟩ = some (.int .u8 240) := by rw [cell_of_row _ _ _ _ _ _ HC.out]; rfl
            have g2 : wr.cell? ⟨wo.heap.size, 2, none⟩ = some (.int .u8 7) := by rw [cell_of_row _ _ _ _ _ _ HC.out]; rfl
            have e1 := bits_hi3
            have e2 := or240 a (by omega)
            have hrow := heap_setCell_same wr bk 0 (rowN 3 0 rn) 5 (.int .u8 (240 + (a : Int))) HR.out
            have hb5 : Below w.heap.size w (wr.setCell ⟨bk, 0, none⟩ (.int .u8 (240 + (a : Int)))) := hb.setCell (by exact c3s) _
            have hel : encL rn = [UInt8.ofNat (240 + rn / 262144), UInt8.ofNat (128 + rn / 4096 % 64), UInt8.ofNat (128 + rn / 64 % 64), UInt8.ofNat (128 + rn % 64)] := by simp [encL, encN, show ¬ rn ≤ 127 by omega, show ¬ rn ≤ 2047 by omega, show ¬ rn ≤ 65535 by omega]
            rw [ha] at hrow
            have hback := enc_back3 rn (by rw [← ha]; exact hlead) _ bk hrow
            rw [← hel, ← ha] at hback
            have e4 : (a : Int) % 256 = (a : Int) := by omega
            clear ha HA hrow hel
            go_wp2_with fail
            go_ret2
            rw [HE.out]
            exact ⟨rfl, hb5⟩
          · obtain ⟨a, ha⟩ : ∃ a : Nat, a = rn / 64 ^ (3 - 1) := ⟨_, rfl⟩
            have hab : a < 1114112 := by rw [ha]; have := Nat.div_le_self rn (64 ^ (3 - 1)); omega
            rw [← ha]
            have HA := Lib.hid ha
            have g0 : wr.cell? ⟨bk, 1, none⟩ = some (.int .u8 0) := by rw [cell_of_row _ _ _ _ _ _ HR.out]; rfl
            have f0 : wr.frozen? ⟨bk, 1, none⟩ = false := frozen_of_row _ _ _ _ _ HR.out
            have e0 : bits BinOp.and IntKind.i32 (a : Int) 63 = (a : Int) % 64 := bits_mask .i32 31 (by decide) wraps_i32 6 (by decide) (a : Int) (by omega) (by omega)
            have e00 : (a : Int) % 64 % 256 = (a : Int) % 64 := by omega
            have e1 : bits BinOp.or IntKind.u8 128 ((a : Int) % 64) = 128 + (a : Int) % 64 := or128 (a % 64) (by omega)
            have hrow := heap_setCell_same wr bk 1 (rowN 3 1 rn) 5 (.int .u8 (128 + (a : Int) % 64)) HR.out
            have hold := heap_setCell_other wr ⟨bk, 1, none⟩ wo.heap.size (.int .u8 (128 + (a : Int) % 64)) (Ne.symm hne)
            have hb5 : Below w.heap.size w (wr.setCell ⟨bk, 1, none⟩ (.int .u8 (128 + (a : Int) % 64))) := hb.setCell (by exact c3s) _
            have hR5 : Hid ((wr.setCell ⟨bk, 1, none⟩ (.int .u8 (128 + (a : Int) % 64))).heap[bk]? = some (.cells (rowN 3 0 rn) 5 (0, 0))) := by
              apply Lib.hid
              rw [hrow, ha]
              rfl
            have hC5 : Hid ((wr.setCell ⟨bk, 1, none⟩ (.int .u8 (128 + (a : Int) % 64))).heap[wo.heap.size]? = some (.cells cls3 63 (0, 0))) := Lib.hid (hold.trans HC.out)
            clear hrow hold ha
            go_wp2
            go_roundw
            case rel => exact ⟨0, by omega, by go_num, by rw [HA.out]; go_num, hR5, hC5, hb5⟩
            case measure => simp [intOf]
          · obtain ⟨a, ha⟩ : ∃ a : Nat, a = rn / 64 ^ (3 - 2) := ⟨_, rfl⟩
            have hab : a < 1114112 := by rw [ha]; have := Nat.div_le_self rn (64 ^ (3 - 2)); omega
            rw [← ha]
            have HA := Lib.hid ha
            have g0 : wr.cell? ⟨bk, 2, none⟩ = some (.int .u8 0) := by rw [cell_of_row _ _ _ _ _ _ HR.out]; rfl
            have f0 : wr.frozen? ⟨bk, 2, none⟩ = false := frozen_of_row _ _ _ _ _ HR.out
            have e0 : bits BinOp.and IntKind.i32 (a : Int) 63 = (a : Int) % 64 := bits_mask .i32 31 (by decide) wraps_i32 6 (by decide) (a : Int) (by omega) (by omega)
            have e00 : (a : Int) % 64 % 256 = (a : Int) % 64 := by omega
            have e1 : bits BinOp.or IntKind.u8 128 ((a : Int) % 64) = 128 + (a : Int) % 64 := or128 (a % 64) (by omega)
            have hrow := heap_setCell_same wr bk 2 (rowN 3 2 rn) 5 (.int .u8 (128 + (a : Int) % 64)) HR.out
            have hold := heap_setCell_other wr ⟨bk, 2, none⟩ wo.heap.size (.int .u8 (128 + (a : Int) % 64)) (Ne.symm hne)
            have hb5 : Below w.heap.size w (wr.setCell ⟨bk, 2, none⟩ (.int .u8 (128 + (a : Int) % 64))) := hb.setCell (by exact c3s) _
            have hR5 : Hid ((wr.setCell ⟨bk, 2, none⟩ (.int .u8 (128 + (a : Int) % 64))).heap[bk]? = some (.cells (rowN 3 1 rn) 5 (0, 0))) := by
              apply Lib.hid
              rw [hrow, ha]
              rfl
            have hC5 : Hid ((wr.setCell ⟨bk, 2, none⟩ (.int .u8 (128 + (a : Int) % 64))).heap[wo.heap.size]? = some (.cells cls3 63 (0, 0))) := Lib.hid (hold.trans HC.out)
            clear hrow hold ha
            go_wp2
            go_roundw
            case rel => exact ⟨1, by omega, by go_num, by rw [HA.out]; go_num, hR5, hC5, hb5⟩
            case measure => simp [intOf]
          · obtain ⟨a, ha⟩ : ∃ a : Nat, a = rn / 64 ^ (3 - 3) := ⟨_, rfl⟩
            have hab : a < 1114112 := by rw [ha]; have := Nat.div_le_self rn (64 ^ (3 - 3)); omega
            rw [← ha]
            have HA := Lib.hid ha
            have g0 : wr.cell? ⟨bk, 3, none⟩ = some (.int .u8 0) := by rw [cell_of_row _ _ _ _ _ _ HR.out]; rfl
            have f0 : wr.frozen? ⟨bk, 3, none⟩ = false := frozen_of_row _ _ _ _ _ HR.out
            have e0 : bits BinOp.and IntKind.i32 (a : Int) 63 = (a : Int) % 64 := bits_mask .i32 31 (by decide) wraps_i32 6 (by decide) (a : Int) (by omega) (by omega)
            have e00 : (a : Int) % 64 % 256 = (a : Int) % 64 := by omega
            have e1 : bits BinOp.or IntKind.u8 128 ((a : Int) % 64) = 128 + (a : Int) % 64 := or128 (a % 64) (by omega)
            have hrow := heap_setCell_same wr bk 3 (rowN 3 3 rn) 5 (.int .u8 (128 + (a : Int) % 64)) HR.out
            have hold := heap_setCell_other wr ⟨bk, 3, none⟩ wo.heap.size (.int .u8 (128 + (a : Int) % 64)) (Ne.symm hne)
            have hb5 : Below w.heap.size w (wr.setCell ⟨bk, 3, none⟩ (.int .u8 (128 + (a : Int) % 64))) := hb.setCell (by exact c3s) _
            have hR5 : Hid ((wr.setCell ⟨bk, 3, none⟩ (.int .u8 (128 + (a : Int) % 64))).heap[bk]? = some (.cells (rowN 3 2 rn) 5 (0, 0))) := by
              apply Lib.hid
              rw [hrow, ha]
              rfl
            have hC5 : Hid ((wr.setCell ⟨bk, 3, none⟩ (.int .u8 (128 + (a : Int) % 64))).heap[wo.heap.size]? = some (.cells cls3 63 (0, 0))) := Lib.hid (hold.trans HC.out)
            clear hrow hold ha
            go_wp2
            go_roundw
            case rel => exact ⟨2, by omega, by go_num, by rw [HA.out]; go_num, hR5, hC5, hb5⟩
            case measure => simp [intOf]
    · go_wp2
      go_ret2
      have he : pEnc r = (⟨#[]⟩, 2) := by
        obtain ⟨h1, h2, h3, h4⟩ := hn
        have m1 := h1 (by omega)
        have m2 := h2 (by omega)
        have m3 := h3 (by omega)
        have m4 := h4 (by omega)
        have hs : scalarB r = false := by
          simp [inC] at m1 m2 m3 m4
          simp [scalarB]
          omega
        rw [pEnc, hs]
        rfl
      rw [he]
      exact ⟨rfl, hb⟩
end Go.Proofs.Ytefncnmahimgpaa
