/- known() of layer 3's law. -/
import Derived.Test.YtefncnmahimgpaaRows
import Derived.Test.YtefncnmahimgpaaBase
import Derived.Test.YtefncnmahimgpaaRow
import Derived.Test.YtefncnmahimgpaaQClass
import Derived.Test.YtefncnmahimgpaaURepair
import Derived.WalkKit
import Derived.OwnWalk
import Derived.WalkSpells
import Derived.WalkLawsBesides
import Derived.Lib.Hide
import Derived.Deep.QuietTactic
import Derived.BigQuiet
import Derived.Outline
import Derived.KernelRfl
namespace Go.Proofs.Ytefncnmahimgpaa
open Go.RowKit

theorem k1 : pEnc 233 = (⟨#[195, 169]⟩, 0) := by kernel_rfl
theorem k2 : pEnc 8364 = (⟨#[226, 130, 172]⟩, 0) := by kernel_rfl
theorem f97 (r : List UInt8) : pFirst (97 :: r) = (97, 1, 0) := by
  have h : byt (97 :: r) 0 = 97 := rfl
  have hp : psz 97 = 1 := by decide
  unfold pFirst
  rw [h, hp]
  dsimp only
  rw [if_neg (by decide), if_neg (by simp)]
  have ht : (97 :: r).take 1 = [97] := rfl
  rw [ht, if_pos (by decide +kernel)]
  rfl
theorem k3 : (pAll [97, 195] 0).2 = (1, 23) := by
  rw [pAll_ok (by decide) (by decide +kernel)]
  show (pAll [97, 195] 1).2 = (1, 23)
  rw [pAll_err (by decide) (by decide +kernel)]
  decide +kernel
theorem k4 : (pAll [97, 195, 40] 0).2 = (1, 3) := by
  rw [pAll_ok (by decide) (by decide +kernel)]
  show (pAll [97, 195, 40] 1).2 = (1, 3)
  rw [pAll_err (by decide) (by decide +kernel)]
  decide +kernel
theorem k5 : pDec [226, 130, 172, 120] = (8364, 3, 0) := by decide +kernel
theorem k6 : okAll [97, 195, 169] = true := by
  unfold okAll
  rw [pAll_ok (by decide) (by decide +kernel)]
  show decide ((pAll [97, 195, 169] 1).2.2 = 0) = true
  rw [pAll_ok (by decide) (by decide +kernel)]
  show decide ((pAll [97, 195, 169] 3).2.2 = 0) = true
  rw [pAll_end (by decide)]
  rfl
theorem k7 : okAll [237, 160, 128] = false := by
  unfold okAll
  rw [pAll_err (by decide) (by decide +kernel)]
  decide +kernel
theorem k8 : pRep [97, 226, 130, 98, 128] 0 = [97, 239, 191, 189, 98, 239, 191, 189] := by
  rw [pRep_ok (by decide) (by decide +kernel)]
  show [97] ++ pRep [97, 226, 130, 98, 128] 1 = _
  rw [pRep_err (by decide) (by decide +kernel)]
  show [97] ++ ([239, 191, 189] ++ pRep [97, 226, 130, 98, 128] 3) = _
  rw [pRep_ok (by decide) (by decide +kernel)]
  show [97] ++ ([239, 191, 189] ++ ([98] ++ pRep [97, 226, 130, 98, 128] 4)) = _
  rw [pRep_err (by decide) (by decide +kernel)]
  show [97] ++ ([239, 191, 189] ++ ([98] ++ ([239, 191, 189] ++ pRep [97, 226, 130, 98, 128] 5))) = _
  rw [pRep_end (by decide)]
  rfl

theorem kc1 (w : World) : Calls Try.prog 21 #[.int .i32 233] w fun e w' => e = .returned (.tuple #[.string ⟨#[195, 169]⟩, .int .i64 0]) ∧ Below w.heap.size w w' := by
  have h := encode_any 233 w
  rw [k1] at h
  exact h
theorem kc2 (w : World) : Calls Try.prog 21 #[.int .i32 8364] w fun e w' => e = .returned (.tuple #[.string ⟨#[226, 130, 172]⟩, .int .i64 0]) ∧ Below w.heap.size w w' := by
  have h := encode_any 8364 w
  rw [k2] at h
  exact h
theorem kc3 (w : World) : Calls Try.prog 16 #[.string ⟨#[97, 195]⟩] w fun e w' => e = .returned (.tuple #[.int .i64 1, .int .i64 23]) ∧ Below w.heap.size w w' := by
  have h := check_any ⟨#[97, 195]⟩ (by decide) w
  rw [show (⟨#[97, 195]⟩ : ByteArray).data.toList = [97, 195] from rfl, k3] at h
  exact h
theorem kc4 (w : World) : Calls Try.prog 16 #[.string ⟨#[97, 195, 40]⟩] w fun e w' => e = .returned (.tuple #[.int .i64 1, .int .i64 3]) ∧ Below w.heap.size w w' := by
  have h := check_any ⟨#[97, 195, 40]⟩ (by decide) w
  rw [show (⟨#[97, 195, 40]⟩ : ByteArray).data.toList = [97, 195, 40] from rfl, k4] at h
  exact h
theorem kc5 (w : World) : Calls Try.prog 19 #[.string ⟨#[226, 130, 172, 120]⟩] w fun e w' => e = .returned (.tuple #[.int .i32 8364, .int .i64 3, .int .i64 0]) ∧ Below w.heap.size w w' := by
  have h := decode_any ⟨#[226, 130, 172, 120]⟩ (by decide) w
  rw [show (⟨#[226, 130, 172, 120]⟩ : ByteArray).data.toList = [226, 130, 172, 120] from rfl, k5] at h
  exact h
theorem kc6 (w : World) : Calls Try.prog 18 #[.string ⟨#[97, 195, 169]⟩] w fun e w' => e = .returned (.bool true) ∧ Below w.heap.size w w' := by
  have h := valid_any ⟨#[97, 195, 169]⟩ (by decide) w
  rw [show (⟨#[97, 195, 169]⟩ : ByteArray).data.toList = [97, 195, 169] from rfl, k6] at h
  exact h
theorem kc7 (w : World) : Calls Try.prog 18 #[.string ⟨#[237, 160, 128]⟩] w fun e w' => e = .returned (.bool false) ∧ Below w.heap.size w w' := by
  have h := valid_any ⟨#[237, 160, 128]⟩ (by decide) w
  rw [show (⟨#[237, 160, 128]⟩ : ByteArray).data.toList = [237, 160, 128] from rfl, k7] at h
  exact h
theorem kc8 (w : World) : Calls Try.prog 24 #[.string ⟨#[97, 226, 130, 98, 128]⟩] w fun e w' => e = .returned (.string ⟨#[97, 239, 191, 189, 98, 239, 191, 189]⟩) ∧ Below w.heap.size w w' := by
  have h := repair_any ⟨#[97, 226, 130, 98, 128]⟩ (by decide) w
  rw [show (⟨#[97, 226, 130, 98, 128]⟩ : ByteArray).data.toList = [97, 226, 130, 98, 128] from rfl, k8] at h
  exact h

set_option maxRecDepth 100000 in
set_option maxHeartbeats 1600000 in
theorem known_any (w : World) : Calls Try.prog 17 #[] w fun e w' => e = .returned (.bool true) ∧ Below w.heap.size w w' := by
  go_enter Try.func17, Try.ntmps17
  go_wp2_with fail
  refine (kc1 _).mono ?_
  rintro e w1 ⟨rfl, c1⟩
  go_wp2_with fail
  refine (kc2 _).mono ?_
  rintro e w2 ⟨rfl, b2⟩
  have c2 := c1.trans (b2.mono c1.size)
  clear c1 b2
  go_wp2_with fail
  refine (kc3 _).mono ?_
  rintro e w3 ⟨rfl, b3⟩
  have c3 := c2.trans (b3.mono c2.size)
  clear c2 b3
  go_wp2_with fail
  refine (kc4 _).mono ?_
  rintro e w4 ⟨rfl, b4⟩
  have c4 := c3.trans (b4.mono c3.size)
  clear c3 b4
  go_wp2_with fail
  refine (kc5 _).mono ?_
  rintro e w5 ⟨rfl, b5⟩
  have c5 := c4.trans (b5.mono c4.size)
  clear c4 b5
  go_wp2_with fail
  refine (kc6 _).mono ?_
  rintro e w6 ⟨rfl, b6⟩
  have c6 := c5.trans (b6.mono c5.size)
  clear c5 b6
  go_wp2_with fail
  refine (kc7 _).mono ?_
  rintro e w7 ⟨rfl, b7⟩
  have c7 := c6.trans (b7.mono c6.size)
  clear c6 b7
  go_wp2_with fail
  refine (kc8 _).mono ?_
  rintro e w8 ⟨rfl, b8⟩
  have c8 := c7.trans (b8.mono c7.size)
  clear c7 b8
  go_wp2
  go_ret
  exact ⟨rfl, c8⟩

theorem take_size (s : ByteArray) (n : Nat) : (s.extract 0 (min s.size n)).size = min s.size n := by
  simp [ByteArray.size_extract]
end Go.Proofs.Ytefncnmahimgpaa
