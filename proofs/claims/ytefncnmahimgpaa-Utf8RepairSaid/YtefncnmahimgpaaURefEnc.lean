/- Contracts of the reference's Scalar, Size, Encode. -/
import Derived.Test.YtefncnmahimgpaaRows
import Derived.Test.YtefncnmahimgpaaBase
import Derived.Test.YtefncnmahimgpaaRow
import Derived.Test.YtefncnmahimgpaaURefAll
import Derived.Test.YtefncnmahimgpaaUEnc
import Derived.WalkKit
import Derived.OwnWalk
import Derived.Maps.AppendAt
import Derived.Laws.AppendOwnNone
import Derived.Deep.MidRow
import Derived.WalkSpells
import Derived.WalkLawsBesides
import Derived.Lib.Hide
import Derived.Deep.QuietTactic
import Derived.BigQuiet
import Derived.Outline
namespace Go.Proofs.Ytefncnmahimgpaa
open Go.RowKit

def rSize (r : Nat) : Nat := if r ≤ 127 then 1 else if r ≤ 2047 then 2 else if r ≤ 65535 then 3 else 4

theorem scalar_any (r : Int) (w : World) :
    Calls Try.prog 22 #[.int .i64 r] w fun e w' => e = .returned (.bool (scalarB r)) ∧ Below w.heap.size w w' := by
  have hB := Below.refl w.heap.size w
  by_cases q1 : 0 ≤ r <;> by_cases q2 : r ≤ 1114111 <;> by_cases q3 : r < 55296 <;> by_cases q4 : 57343 < r
  all_goals first
    | (exfalso; omega)
    | (go_enter Try.func22, Try.ntmps22
       go_wp2
       go_ret
       exact ⟨ret_bool (by simp [scalarB, q1, q2, q3, q4]), hB⟩)
theorem size_le (r : Nat) : 1 ≤ rSize r ∧ rSize r ≤ 4 := by unfold rSize; (repeat' split) <;> omega
theorem size_most (r n : Nat) (hr : r ≤ 1114111) (h1 : 1 ≤ n) (h4 : n ≤ 4) : rSize r ≤ n ↔ r ≤ rMost n := by
  obtain rfl | rfl | rfl | rfl : n = 1 ∨ n = 2 ∨ n = 3 ∨ n = 4 := by omega
  · show rSize r ≤ 1 ↔ r ≤ 127
    unfold rSize; (repeat' split) <;> omega
  · show rSize r ≤ 2 ↔ r ≤ 2047
    unfold rSize; (repeat' split) <;> omega
  · show rSize r ≤ 3 ↔ r ≤ 65535
    unfold rSize; (repeat' split) <;> omega
  · show rSize r ≤ 4 ↔ r ≤ 1114111
    unfold rSize; (repeat' split) <;> omega

set_option maxHeartbeats 800000 in
theorem size_any (r : Nat) (hr : r ≤ 1114111) (w : World) :
    Calls Try.prog 41 #[.int .i64 r] w fun e w' => e = .returned (.int .i64 (rSize r)) ∧ Below w.heap.size w w' := by
  go_enter Try.func41, Try.ntmps41
  go_wp2_with fail
  go_loopw [3] (fun i wr => ∃ n : Nat, 1 ≤ n ∧ n ≤ rSize r ∧ i = .int .i64 n ∧ Below w.heap.size w wr) (fun i _ => 4 - (intOf i).toNat)
  case atStart => exact ⟨1, by omega, (size_le r).1, rfl, Below.refl _ w⟩
  case round =>
    obtain ⟨n, h1, hn, rfl, hB⟩ := hrel
    have h4 := (size_le r).2
    have hsz := hB.size
    have hq := size_most r n hr h1 (by omega)
    have HM := Lib.hid (most_any n (by omega))
    have hmx : rMost n ≤ 1114111 := by unfold rMost; (repeat' split) <;> omega
    generalize rMost n = mx at *
    go_wp2_with fail
    refine (HM.out _).mono ?_
    rintro e w1 ⟨rfl, b1⟩
    have c1 := hB.trans (b1.mono hsz)
    by_cases q : r ≤ mx
    · have qi : ¬ (mx : Int) < (r : Int) := by omega
      have he : rSize r = n := by have := hq.2 q; omega
      have HE := Lib.hid he
      clear hq he
      go_wp2
      go_ret
      rw [HE.out]
      exact ⟨rfl, c1⟩
    · have qi : (mx : Int) < (r : Int) := by omega
      have hlt : n < rSize r := by
        by_cases x : rSize r ≤ n
        · exact absurd (hq.1 x) q
        · omega
      clear hq
      go_wp2
      go_roundw
      case rel => exact ⟨n + 1, by omega, by omega, by go_num, c1⟩
      case measure => simp [intOf]; omega

theorem infoByte : (Try.prog.info? 5).map (fun i => (i.zero, i.size, i.bytes)) = some (some (.int .u8 0), 1, 1) := by kernel_rfl

def bts (l : List Nat) : List Value := l.map fun x : Nat => .int .u8 (x : Int)
theorem tailN_length (r : Nat) : ∀ m, (tailN r m).length = m
  | 0 => rfl
  | m + 1 => by rw [tailN, List.length_cons, tailN_length r m]
theorem bts_one (l : List Nat) : ∀ u ∈ bts l, u.oneCell' = true := by
  intro u hu
  simp only [bts, List.mem_map] at hu
  obtain ⟨_, _, rfl⟩ := hu
  rfl
theorem owns_one (w : World) (B : Nat) (e : TypeId) (x : Value) (hB : B ≤ w.heap.size) : (w.alloc (.cells #[x] e)).ownsRow B e 1 (.slice (some ⟨w.heap.size, 0, none⟩) 1 1) 1 [x] :=
  ⟨rfl, Or.inr ⟨w.heap.size, 1, #[x], rfl, hB, heap_alloc_new w _, Nat.le_refl _, by unfold maxLen; omega, rfl, rfl⟩⟩

theorem owns_form {w : World} {B n : Nat} {e : TypeId} {v : Value} {xs : List Value} (h : w.ownsRow B e 1 v n xs) (hn : 0 < n) : ∃ g cap, v = .slice (some ⟨g, 0, none⟩) n cap ∧ B ≤ g := by
  rcases h.2 with ⟨_, h0⟩ | ⟨g, cap, cur, h1, h2, _⟩
  · omega
  · exact ⟨g, cap, h1, h2⟩

set_option maxRecDepth 100000 in
set_option maxHeartbeats 1600000 in
theorem rencode_any (r : Nat) (hr : r ≤ 1114111) (w : World) :
    Calls Try.prog 23 #[.int .i64 r] w fun e w' => ∃ g cap, e = .returned (.slice (some ⟨g, 0, none⟩) (encN r).length cap) ∧ (∀ (j x : Nat), (encN r)[j]? = some x → w'.cell? ⟨g, j, none⟩ = some (.int .u8 (x : Int))) ∧ Below w.heap.size w w' := by
  obtain ⟨i0, hi, hz0, hz1, hz2⟩ := info_parts infoByte
  have HI := Lib.hid hi
  clear hi
  have HS := Lib.hid (size_any r hr)
  have hsl := size_le r
  by_cases h1 : rSize r = 1
  · have hr1 : r ≤ 127 := by revert h1; unfold rSize; (repeat' split) <;> omega
    have HE : Hid (encN r = [r]) := Lib.hid (by rw [encN, if_pos hr1])
    rw [h1] at HS
    clear h1 hsl
    go_enter Try.func23, Try.ntmps23
    go_wp2_with fail
    refine (HS.out _).mono ?_
    rintro e w1 ⟨rfl, b1⟩
    have hlt : w1.heap.size < (w1.alloc (.cells #[.int .u8 (r : Int)] 5)).heap.size := by simp
    have hnew : (w1.alloc (.cells #[.int .u8 (r : Int)] 5)).heap[w1.heap.size]? = some (.cells #[.int .u8 (r : Int)] 5 (0, 0)) := heap_alloc_new w1 _
    have hcell : Hid (∀ (j x : Nat), [r][j]? = some x → (w1.alloc (.cells #[.int .u8 (r : Int)] 5)).cell? ⟨w1.heap.size, j, none⟩ = some (.int .u8 (x : Int))) := by
      refine Lib.hid (fun j x hj => ?_)
      rw [cell_of_row _ _ _ _ _ _ hnew]
      match j, hj with
      | 0, hj => simp at hj; subst hj; rfl
    have c2 := b1.alloc b1.size (.cells #[.int .u8 (r : Int)] 5)
    clear hnew hlt
    go_wp2
    go_ret
    rw [HE.out]
    exact ⟨_, _, rfl, hcell.out, c2⟩
  · generalize hn : rSize r = n at *
    have hn2 : (n : Int) ≠ 1 := by omega
    have e1 : ((n : Int) == 1) = false := by simp; omega
    go_enter Try.func23, Try.ntmps23
    go_wp2_with fail
    refine (HS.out _).mono ?_
    rintro e w1 ⟨rfl, b1⟩
    go_wp2_with fail
    go_loopw [0, 4, 5] (fun rr v i wr => ∃ m : Nat, m + 1 ≤ n ∧ i = .int .i64 ((m + 1 : Nat) : Int) ∧ rr = .int .i64 ((r / 64 ^ m : Nat) : Int) ∧ (m = 0 → v = .slice none 0 0) ∧ wr.ownsRow w.heap.size 5 1 v m (bts (tailN r m)) ∧ Below w.heap.size w wr) (fun _ _ i _ => n - (intOf i).toNat)
    case atStart => exact ⟨0, by omega, rfl, by simp, fun _ => rfl, World.ownsRow_nil _ _ _ _, b1⟩
    case round =>
      obtain ⟨m, hm, rfl, rfl, hnil, hown, hB⟩ := hrel
      clear b1
      have hsz := hB.size
      obtain ⟨a, ha⟩ : ∃ a : Nat, a = r / 64 ^ m := ⟨_, rfl⟩
      have hab : a ≤ 1114111 := by rw [ha]; exact Nat.le_trans (Nat.div_le_self _ _) hr
      have HA' : Hid (a / 64 = r / 64 ^ (m + 1)) := Lib.hid (by rw [ha, Nat.div_div_eq_div_mul, Nat.pow_succ])
      have HTL : Hid (bts (tailN r (m + 1)) = Value.int .u8 (128 + (a : Int) % 64) :: bts (tailN r m)) := Lib.hid (by rw [tailN, ← ha]; simp [bts])
      rw [← ha]
      have HAA := Lib.hid ha
      clear ha
      by_cases hlt : m + 1 < n
      · have hlti : (m : Int) + 1 < (n : Int) := by omega
        have h256 : (128 + (a : Int) % 64) % 256 = 128 + (a : Int) % 64 := by omega
        have ho1 := owns_one wr w.heap.size 5 (.int .u8 (128 + (a : Int) % 64)) hsz
        have ho2 := hown.alloc (.cells #[.int .u8 (128 + (a : Int) % 64)] 5)
        have hBa := hB.alloc hsz (.cells #[.int .u8 (128 + (a : Int) % 64)] 5)
        by_cases h0 : m = 0
        · subst h0
          obtain rfl := hnil rfl
          clear hown ho2 hB
          go_wp2
          go_roundw
          case rel => exact ⟨1, by omega, rfl, by rw [← HA'.out]; simp, fun h => by omega, by rw [HTL.out]; exact ho1, hBa⟩
          case measure => simp [intOf]; omega
        · obtain ⟨g, cap, hv, hBg⟩ := owns_form hown (by omega)
          subst hv
          have hBas := hBa.size
          clear hnil hown hB
          go_wp2_with (at_builtin; refine wpList_append_own _ rfl _ _ 38 rfl w.heap.size 5 i0 (.int .u8 0) 1 1 Try.underlying38 HI.out hz0 hz1 hz2 rfl (by decide) _ _ _ rfl ho1 ⟨g, 0, none⟩ m cap (bts (tailN r m)) rfl (by simp [bts, tailN_length]) (ho2.cells rfl) (bts_one _) (by unfold maxLen; omega) (by omega) hBas ?_)
          intro v' wB hB2 gB hnB
          have cB := hBa.grown gB hBas (fun k hk => (ho1.lt k hk).1)
          clear gB hnB ho1 ho2 hBa
          rw [← HTL.out, Nat.add_comm] at hB2
          go_wp2
          go_roundw
          case rel => exact ⟨m + 1, by omega, by go_num, by rw [← HA'.out]; simp, fun h => by omega, hB2, cB⟩
          case measure => simp [intOf]; omega
      · have hnm : ¬ (m : Int) + 1 < (n : Int) := by omega
        obtain rfl | rfl | rfl : n = 2 ∨ n = 3 ∨ n = 4 := by omega
        · have hbnd : 127 < r ∧ r ≤ 2047 := by revert hn; unfold rSize; (repeat' split) <;> intro hn <;> omega
          have hm2 : m = 1 := by omega
          subst hm2
          have hal : a < 32 := by rw [HAA.out]; show r / 64 < 32; omega
          have h256 : (192 + (a : Int)) % 256 = 192 + (a : Int) := by omega
          have HE : Hid (bts (encN r) = Value.int .u8 (192 + (a : Int)) :: bts (tailN r 1)) := by
            apply Lib.hid
            have hva := HAA.out
            have hva' : a = r / 64 := hva
            rw [encN, if_neg (show ¬ r ≤ 127 by omega), if_pos (show r ≤ 2047 by omega), hva']
            simp [bts, tailN]
          have HEL : Hid ((encN r).length = 2) := Lib.hid (by rw [encN, if_neg (show ¬ r ≤ 127 by omega), if_pos (show r ≤ 2047 by omega)]; rfl)
          obtain ⟨g, cap, hv, hBg⟩ := owns_form hown (by omega)
          subst hv
          have hB2 := hB.alloc hsz (.cells #[.int .i64 0, .int .i64 0, .int .i64 192, .int .i64 224, .int .i64 240] 3)
          have ho1 := owns_one (wr.alloc (.cells #[.int .i64 0, .int .i64 0, .int .i64 192, .int .i64 224, .int .i64 240] 3)) w.heap.size 5 (.int .u8 (192 + (a : Int))) hB2.size
          rw [alloc_size] at ho1
          have ho2 := (hown.alloc (.cells #[.int .i64 0, .int .i64 0, .int .i64 192, .int .i64 224, .int .i64 240] 3)).alloc (.cells #[.int .u8 (192 + (a : Int))] 5)
          have hBa := hB2.alloc hB2.size (.cells #[.int .u8 (192 + (a : Int))] 5)
          have hBas := hBa.size
          clear hnil hown hB HTL HA' hn2 e1 h1
          go_wp2_with (at_builtin; refine wpList_append_own _ rfl _ _ 38 rfl w.heap.size 5 i0 (.int .u8 0) 1 1 Try.underlying38 HI.out hz0 hz1 hz2 rfl (by decide) _ _ _ rfl ho1 ⟨g, 0, none⟩ 1 cap (bts (tailN r 1)) rfl (by simp [bts, tailN_length]) (ho2.cells rfl) (bts_one _) (by unfold maxLen; omega) (by omega) hBas ?_)
          intro v' wB hB2' gB hnB
          obtain ⟨g', cap', hv', _⟩ := owns_form hB2' (by omega)
          subst hv'
          have cB := hBa.grown gB hBas (fun k hk => (ho1.lt k hk).1)
          clear gB hnB ho1 ho2 hBa
          go_wp2
          go_ret
          rw [HEL.out]
          refine ⟨_, _, rfl, fun j x hj => ?_, cB⟩
          have hc := hB2'.cells rfl j (.int .u8 (x : Int)) (by rw [← HE.out, bts, List.getElem?_map, hj]; rfl)
          rw [Addr.add_mid, Nat.zero_add] at hc
          exact hc
        · have hbnd : 2047 < r ∧ r ≤ 65535 := by revert hn; unfold rSize; (repeat' split) <;> intro hn <;> omega
          have hm3 : m = 2 := by omega
          subst hm3
          have hal : a < 16 := by rw [HAA.out]; show r / 4096 < 16; omega
          have h256 : (224 + (a : Int)) % 256 = 224 + (a : Int) := by omega
          have HE : Hid (bts (encN r) = Value.int .u8 (224 + (a : Int)) :: bts (tailN r 2)) := by
            apply Lib.hid
            have hva := HAA.out
            have hva' : a = r / 4096 := hva
            rw [encN, if_neg (show ¬ r ≤ 127 by omega), if_neg (show ¬ r ≤ 2047 by omega), if_pos (show r ≤ 65535 by omega), hva']
            simp [bts, tailN]
          have HEL : Hid ((encN r).length = 3) := Lib.hid (by rw [encN, if_neg (show ¬ r ≤ 127 by omega), if_neg (show ¬ r ≤ 2047 by omega), if_pos (show r ≤ 65535 by omega)]; rfl)
          obtain ⟨g, cap, hv, hBg⟩ := owns_form hown (by omega)
          subst hv
          have hB2 := hB.alloc hsz (.cells #[.int .i64 0, .int .i64 0, .int .i64 192, .int .i64 224, .int .i64 240] 3)
          have ho1 := owns_one (wr.alloc (.cells #[.int .i64 0, .int .i64 0, .int .i64 192, .int .i64 224, .int .i64 240] 3)) w.heap.size 5 (.int .u8 (224 + (a : Int))) hB2.size
          rw [alloc_size] at ho1
          have ho2 := (hown.alloc (.cells #[.int .i64 0, .int .i64 0, .int .i64 192, .int .i64 224, .int .i64 240] 3)).alloc (.cells #[.int .u8 (224 + (a : Int))] 5)
          have hBa := hB2.alloc hB2.size (.cells #[.int .u8 (224 + (a : Int))] 5)
          have hBas := hBa.size
          clear hnil hown hB HTL HA' hn2 e1 h1
          go_wp2_with (at_builtin; refine wpList_append_own _ rfl _ _ 38 rfl w.heap.size 5 i0 (.int .u8 0) 1 1 Try.underlying38 HI.out hz0 hz1 hz2 rfl (by decide) _ _ _ rfl ho1 ⟨g, 0, none⟩ 2 cap (bts (tailN r 2)) rfl (by simp [bts, tailN_length]) (ho2.cells rfl) (bts_one _) (by unfold maxLen; omega) (by omega) hBas ?_)
          intro v' wB hB2' gB hnB
          obtain ⟨g', cap', hv', _⟩ := owns_form hB2' (by omega)
          subst hv'
          have cB := hBa.grown gB hBas (fun k hk => (ho1.lt k hk).1)
          clear gB hnB ho1 ho2 hBa
          go_wp2
          go_ret
          rw [HEL.out]
          refine ⟨_, _, rfl, fun j x hj => ?_, cB⟩
          have hc := hB2'.cells rfl j (.int .u8 (x : Int)) (by rw [← HE.out, bts, List.getElem?_map, hj]; rfl)
          rw [Addr.add_mid, Nat.zero_add] at hc
          exact hc
        · have hbnd : 65535 < r ∧ r ≤ 1114111 := by revert hn; unfold rSize; (repeat' split) <;> intro hn <;> omega
          have hm4 : m = 3 := by omega
          subst hm4
          have hal : a < 8 := by rw [HAA.out]; show r / 262144 < 8; omega
          have h256 : (240 + (a : Int)) % 256 = 240 + (a : Int) := by omega
          have HE : Hid (bts (encN r) = Value.int .u8 (240 + (a : Int)) :: bts (tailN r 3)) := by
            apply Lib.hid
            have hva := HAA.out
            have hva' : a = r / 262144 := hva
            rw [encN, if_neg (show ¬ r ≤ 127 by omega), if_neg (show ¬ r ≤ 2047 by omega), if_neg (show ¬ r ≤ 65535 by omega), hva']
            simp [bts, tailN]
          have HEL : Hid ((encN r).length = 4) := Lib.hid (by rw [encN, if_neg (show ¬ r ≤ 127 by omega), if_neg (show ¬ r ≤ 2047 by omega), if_neg (show ¬ r ≤ 65535 by omega)]; rfl)
          obtain ⟨g, cap, hv, hBg⟩ := owns_form hown (by omega)
          subst hv
          have hB2 := hB.alloc hsz (.cells #[.int .i64 0, .int .i64 0, .int .i64 192, .int .i64 224, .int .i64 240] 3)
          have ho1 := owns_one (wr.alloc (.cells #[.int .i64 0, .int .i64 0, .int .i64 192, .int .i64 224, .int .i64 240] 3)) w.heap.size 5 (.int .u8 (240 + (a : Int))) hB2.size
          rw [alloc_size] at ho1
          have ho2 := (hown.alloc (.cells #[.int .i64 0, .int .i64 0, .int .i64 192, .int .i64 224, .int .i64 240] 3)).alloc (.cells #[.int .u8 (240 + (a : Int))] 5)
          have hBa := hB2.alloc hB2.size (.cells #[.int .u8 (240 + (a : Int))] 5)
          have hBas := hBa.size
          clear hnil hown hB HTL HA' hn2 e1 h1
          go_wp2_with (at_builtin; refine wpList_append_own _ rfl _ _ 38 rfl w.heap.size 5 i0 (.int .u8 0) 1 1 Try.underlying38 HI.out hz0 hz1 hz2 rfl (by decide) _ _ _ rfl ho1 ⟨g, 0, none⟩ 3 cap (bts (tailN r 3)) rfl (by simp [bts, tailN_length]) (ho2.cells rfl) (bts_one _) (by unfold maxLen; omega) (by omega) hBas ?_)
          intro v' wB hB2' gB hnB
          obtain ⟨g', cap', hv', _⟩ := owns_form hB2' (by omega)
          subst hv'
          have cB := hBa.grown gB hBas (fun k hk => (ho1.lt k hk).1)
          clear gB hnB ho1 ho2 hBa
          go_wp2
          go_ret
          rw [HEL.out]
          refine ⟨_, _, rfl, fun j x hj => ?_, cB⟩
          have hc := hB2'.cells rfl j (.int .u8 (x : Int)) (by rw [← HE.out, bts, List.getElem?_map, hj]; rfl)
          rw [Addr.add_mid, Nat.zero_add] at hc
          exact hc
end Go.Proofs.Ytefncnmahimgpaa
