/- Contracts of utf8.classes and utf8.sizeOf. -/
import Derived.Test.YtefncnmahimgpaaRows
import Derived.Test.YtefncnmahimgpaaBase
import Derived.Test.YtefncnmahimgpaaRow
import Derived.WalkKit
import Derived.WalkSpells
import Derived.WalkLawsBesides
import Derived.Lib.Hide
import Derived.Outline
import Derived.KernelRfl
namespace Go.Proofs.Ytefncnmahimgpaa
open Go.RowKit

/-- the table of the classes, as cells -/
def clsA : Array Value := #[.int .u8 0, .int .u8 127, .int .u8 127, .int .i32 0, .int .i32 127, .int .u8 194, .int .u8 223, .int .u8 31, .int .i32 128, .int .i32 2047, .int .u8 224, .int .u8 239, .int .u8 15, .int .i32 2048, .int .i32 65535, .int .u8 240, .int .u8 244, .int .u8 7, .int .i32 65536, .int .i32 1114111]
def cls0 : Array Value := #[.int .u8 0, .int .u8 127, .int .u8 127, .int .i32 0, .int .i32 127]
def cls1 : Array Value := #[.int .u8 194, .int .u8 223, .int .u8 31, .int .i32 128, .int .i32 2047]
def cls2 : Array Value := #[.int .u8 224, .int .u8 239, .int .u8 15, .int .i32 2048, .int .i32 65535]
def cls3 : Array Value := #[.int .u8 240, .int .u8 244, .int .u8 7, .int .i32 65536, .int .i32 1114111]
theorem cls0_one : cls0.all (·.oneCell') = true := by kernel_rfl
theorem cls0Info : (Try.prog.info? 63).map (·.size) = some cls0.size := by kernel_rfl
theorem cls1_one : cls1.all (·.oneCell') = true := by kernel_rfl
theorem cls1Info : (Try.prog.info? 63).map (·.size) = some cls1.size := by kernel_rfl
theorem cls2_one : cls2.all (·.oneCell') = true := by kernel_rfl
theorem cls2Info : (Try.prog.info? 63).map (·.size) = some cls2.size := by kernel_rfl
theorem cls3_one : cls3.all (·.oneCell') = true := by kernel_rfl
theorem cls3Info : (Try.prog.info? 63).map (·.size) = some cls3.size := by kernel_rfl
theorem clsInfo : (Try.prog.info? 64).map (·.size) = some clsA.size := by kernel_rfl
theorem cls_one : clsA.all (·.oneCell') = true := by kernel_rfl
theorem cls_at0 (w : World) : (Instr.index 64 (.agg clsA) (.int .i64 0)).run Try.prog w = .ok (.agg cls0) w := by kernel_rfl
theorem cls_at1 (w : World) : (Instr.index 64 (.agg clsA) (.int .i64 1)).run Try.prog w = .ok (.agg cls1) w := by kernel_rfl
theorem cls_at2 (w : World) : (Instr.index 64 (.agg clsA) (.int .i64 2)).run Try.prog w = .ok (.agg cls2) w := by kernel_rfl
theorem cls_at3 (w : World) : (Instr.index 64 (.agg clsA) (.int .i64 3)).run Try.prog w = .ok (.agg cls3) w := by kernel_rfl

set_option maxHeartbeats 400000 in
theorem classes_any (w : World) :
    Calls Try.prog 39 #[] w fun e w' => e = .returned (.agg clsA) ∧ Below w.heap.size w w' := by
  have HQ : Hid ((w.alloc (.cells #[.int .u8 0, .int .u8 0, .int .u8 0, .int .i32 0, .int .i32 0, .int .u8 0, .int .u8 0, .int .u8 0, .int .i32 0, .int .i32 0, .int .u8 0, .int .u8 0, .int .u8 0, .int .i32 0, .int .i32 0, .int .u8 0, .int .u8 0, .int .u8 0, .int .i32 0, .int .i32 0] 64)).heap[w.heap.size]? = some (.cells #[.int .u8 0, .int .u8 0, .int .u8 0, .int .i32 0, .int .i32 0, .int .u8 0, .int .u8 0, .int .u8 0, .int .i32 0, .int .i32 0, .int .u8 0, .int .u8 0, .int .u8 0, .int .i32 0, .int .i32 0, .int .u8 0, .int .u8 0, .int .u8 0, .int .i32 0, .int .i32 0] 64 (0, 0))) := Lib.hid (heap_alloc_new w _)
  go_enter Try.func39, Try.ntmps39
  go_wp2_with (refine wpList_store_abs (by rfl) 64 (.tmp 0) (.tmp 5) (by rfl) w.heap.size clsA (by rfl) (by rfl) _ _ HQ.out clsInfo rfl cls_one w.heap.size w ((Below.refl _ w).alloc (Nat.le_refl _) _) (Nat.le_refl _) ?_)
  intro w1 h1 b1 o1
  go_wp2
  exact bodyPost_ret (results_cell_row rfl _ _ w.heap.size _ _ _ _ rfl h1.out Try.underlying64 rfl clsInfo) rfl ⟨rfl, b1⟩

/-- the number of bytes of the encodings that begin with a byte -/
def psz (c : Nat) : Nat := if c ≤ 127 then 1 else if 194 ≤ c ∧ c ≤ 223 then 2 else if 224 ≤ c ∧ c ≤ 239 then 3 else if 240 ≤ c ∧ c ≤ 244 then 4 else 0
/-- the byte lies in none of the first k classes -/
def NoCls (c k : Nat) : Prop := (1 ≤ k → ¬ c ≤ 127) ∧ (2 ≤ k → ¬ (194 ≤ c ∧ c ≤ 223)) ∧ (3 ≤ k → ¬ (224 ≤ c ∧ c ≤ 239)) ∧ (4 ≤ k → ¬ (240 ≤ c ∧ c ≤ 244))

set_option maxHeartbeats 1600000 in
theorem sizeOf_any (c : Nat) (hc : c < 256) (w : World) :
    Calls Try.prog 50 #[.int .u8 c] w fun e w' => e = .returned (.int .i64 (psz c)) ∧ Below w.heap.size w w' := by
  go_enter Try.func50, Try.ntmps50
  go_wp2_with fail
  refine (classes_any _).mono ?_
  rintro e w1 ⟨rfl, b1⟩
  have i0 := fun w => cls_at0 w
  have i1 := fun w => cls_at1 w
  have i2 := fun w => cls_at2 w
  have i3 := fun w => cls_at3 w
  go_wp2_with fail
  go_loopw [6] (fun i wr => ∃ k : Nat, k ≤ 4 ∧ i = .int .i64 k ∧ NoCls c k ∧ Below w.heap.size w wr) (fun i _ => 4 - (intOf i).toNat)
  case atStart => exact ⟨0, by omega, rfl, ⟨fun h => by omega, fun h => by omega, fun h => by omega, fun h => by omega⟩, b1⟩
  case round =>
    obtain ⟨k, hk, rfl, hn, hb⟩ := hrel
    have hsz := hb.size
    obtain rfl | rfl | rfl | rfl | rfl : k = 0 ∨ k = 1 ∨ k = 2 ∨ k = 3 ∨ k = 4 := by omega
    · have HQ : Hid ((wr.alloc (.cells #[.int .u8 0, .int .u8 0, .int .u8 0, .int .i32 0, .int .i32 0] 63)).heap[wr.heap.size]? = some (.cells #[.int .u8 0, .int .u8 0, .int .u8 0, .int .i32 0, .int .i32 0] 63 (0, 0))) := Lib.hid (heap_alloc_new wr _)
      go_wp2_with (refine wpList_store_abs (by rfl) 63 (.tmp 4) (.tmp 9) (by rfl) wr.heap.size cls0 (by rfl) (by rfl) _ _ HQ.out cls0Info rfl cls0_one w.heap.size w (hb.alloc hsz _) hsz ?_)
      intro w2 h2 b2 o2
      have g0 : w2.cell? ⟨wr.heap.size, 0, none⟩ = some (.int .u8 0) := by rw [cell_of_row _ _ _ _ _ _ h2.out]; rfl
      have g1 : w2.cell? ⟨wr.heap.size, 1, none⟩ = some (.int .u8 127) := by rw [cell_of_row _ _ _ _ _ _ h2.out]; rfl
      by_cases q1 : (0 : Int) ≤ (c : Int) <;> by_cases q2 : (c : Int) ≤ 127
      all_goals first
        | (exfalso; omega)
        | (go_wp2
           first
             | (go_ret
                obtain ⟨m1, m2, m3, m4⟩ := hn
                have hp : psz c = 1 := by unfold psz; (repeat' split) <;> omega
                exact ⟨ret_int (by rw [hp]; rfl), b2⟩)
             | (go_roundw
                case rel => exact ⟨1, by omega, by go_num, by obtain ⟨m1, m2, m3, m4⟩ := hn; exact ⟨fun _ => by omega, fun _ => by omega, fun _ => by omega, fun _ => by omega⟩, b2⟩
                case measure => simp [intOf]))
    · have HQ : Hid ((wr.alloc (.cells #[.int .u8 0, .int .u8 0, .int .u8 0, .int .i32 0, .int .i32 0] 63)).heap[wr.heap.size]? = some (.cells #[.int .u8 0, .int .u8 0, .int .u8 0, .int .i32 0, .int .i32 0] 63 (0, 0))) := Lib.hid (heap_alloc_new wr _)
      go_wp2_with (refine wpList_store_abs (by rfl) 63 (.tmp 4) (.tmp 9) (by rfl) wr.heap.size cls1 (by rfl) (by rfl) _ _ HQ.out cls1Info rfl cls1_one w.heap.size w (hb.alloc hsz _) hsz ?_)
      intro w2 h2 b2 o2
      have g0 : w2.cell? ⟨wr.heap.size, 0, none⟩ = some (.int .u8 194) := by rw [cell_of_row _ _ _ _ _ _ h2.out]; rfl
      have g1 : w2.cell? ⟨wr.heap.size, 1, none⟩ = some (.int .u8 223) := by rw [cell_of_row _ _ _ _ _ _ h2.out]; rfl
      by_cases q1 : (194 : Int) ≤ (c : Int) <;> by_cases q2 : (c : Int) ≤ 223
      all_goals first
        | (exfalso; omega)
        | (go_wp2
           first
             | (go_ret
                obtain ⟨m1, m2, m3, m4⟩ := hn
                have hp : psz c = 2 := by unfold psz; (repeat' split) <;> omega
                exact ⟨ret_int (by rw [hp]; rfl), b2⟩)
             | (go_roundw
                case rel => exact ⟨2, by omega, by go_num, by obtain ⟨m1, m2, m3, m4⟩ := hn; exact ⟨fun _ => by omega, fun _ => by omega, fun _ => by omega, fun _ => by omega⟩, b2⟩
                case measure => simp [intOf]))
    · have HQ : Hid ((wr.alloc (.cells #[.int .u8 0, .int .u8 0, .int .u8 0, .int .i32 0, .int .i32 0] 63)).heap[wr.heap.size]? = some (.cells #[.int .u8 0, .int .u8 0, .int .u8 0, .int .i32 0, .int .i32 0] 63 (0, 0))) := Lib.hid (heap_alloc_new wr _)
      go_wp2_with (refine wpList_store_abs (by rfl) 63 (.tmp 4) (.tmp 9) (by rfl) wr.heap.size cls2 (by rfl) (by rfl) _ _ HQ.out cls2Info rfl cls2_one w.heap.size w (hb.alloc hsz _) hsz ?_)
      intro w2 h2 b2 o2
      have g0 : w2.cell? ⟨wr.heap.size, 0, none⟩ = some (.int .u8 224) := by rw [cell_of_row _ _ _ _ _ _ h2.out]; rfl
      have g1 : w2.cell? ⟨wr.heap.size, 1, none⟩ = some (.int .u8 239) := by rw [cell_of_row _ _ _ _ _ _ h2.out]; rfl
      by_cases q1 : (224 : Int) ≤ (c : Int) <;> by_cases q2 : (c : Int) ≤ 239
      all_goals first
        | (exfalso; omega)
        | (go_wp2
           first
             | (go_ret
                obtain ⟨m1, m2, m3, m4⟩ := hn
                have hp : psz c = 3 := by unfold psz; (repeat' split) <;> omega
                exact ⟨ret_int (by rw [hp]; rfl), b2⟩)
             | (go_roundw
                case rel => exact ⟨3, by omega, by go_num, by obtain ⟨m1, m2, m3, m4⟩ := hn; exact ⟨fun _ => by omega, fun _ => by omega, fun _ => by omega, fun _ => by omega⟩, b2⟩
                case measure => simp [intOf]))
    · have HQ : Hid ((wr.alloc (.cells #[.int .u8 0, .int .u8 0, .int .u8 0, .int .i32 0, .int .i32 0] 63)).heap[wr.heap.size]? = some (.cells #[.int .u8 0, .int .u8 0, .int .u8 0, .int .i32 0, .int .i32 0] 63 (0, 0))) := Lib.hid (heap_alloc_new wr _)
      go_wp2_with (refine wpList_store_abs (by rfl) 63 (.tmp 4) (.tmp 9) (by rfl) wr.heap.size cls3 (by rfl) (by rfl) _ _ HQ.out cls3Info rfl cls3_one w.heap.size w (hb.alloc hsz _) hsz ?_)
      intro w2 h2 b2 o2
      have g0 : w2.cell? ⟨wr.heap.size, 0, none⟩ = some (.int .u8 240) := by rw [cell_of_row _ _ _ _ _ _ h2.out]; rfl
      have g1 : w2.cell? ⟨wr.heap.size, 1, none⟩ = some (.int .u8 244) := by rw [cell_of_row _ _ _ _ _ _ h2.out]; rfl
      by_cases q1 : (240 : Int) ≤ (c : Int) <;> by_cases q2 : (c : Int) ≤ 244
      all_goals first
        | (exfalso; omega)
        | (go_wp2
           first
             | (go_ret
                obtain ⟨m1, m2, m3, m4⟩ := hn
                have hp : psz c = 4 := by unfold psz; (repeat' split) <;> omega
                exact ⟨ret_int (by rw [hp]; rfl), b2⟩)
             | (go_roundw
                case rel => exact ⟨4, by omega, by go_num, by obtain ⟨m1, m2, m3, m4⟩ := hn; exact ⟨fun _ => by omega, fun _ => by omega, fun _ => by omega, fun _ => by omega⟩, b2⟩
                case measure => simp [intOf]))
    · go_wp2
      go_ret
      have hp : psz c = 0 := by
        obtain ⟨h1, h2, h3, h4⟩ := hn
        rw [psz, if_neg (h1 (by omega)), if_neg (h2 (by omega)), if_neg (h3 (by omega)), if_neg (h4 (by omega))]
      exact ⟨ret_int (by rw [hp]; rfl), hb⟩
end Go.Proofs.Ytefncnmahimgpaa
