/- Numbers in four bytes: the program's and the reference's functions. -/
import Derived.Test.YtblidphaolgilaaHiBP
import Derived.Test.YtblidphaolgilaaHiM
import Derived.Test.YtblidphaolgilaaIns
import Derived.Test.YtblidphaolgilaaHeld
import Derived.WalkKit
import Derived.OwnWalk
import Derived.WalkSpells
import Derived.WalkLawsBesides
import Derived.Laws.BitsLemmas
import Derived.Deep.QuietTactic
import Derived.BigQuiet
import Derived.Lib.Hide
namespace Go.Proofs.Ytblidphaolgilaa
open Go.RowKit Go.Maps Go.Sort
set_option linter.unusedSimpArgs false
set_option linter.unusedVariables false

theorem wraps_i64w (n : Int) (h₀ : 0 ≤ n) (h₁ : n < 2 ^ 63) : IntKind.i64.wrap n = n := IntWalk.i64_in _ (by omega)
theorem i64_or (i : Nat) (hi : i ≤ 24) (x y : Int) (hx₀ : 0 ≤ x) (hx : x % 2 ^ i = 0) (hx₁ : x < 4294967296) (h₀ : 0 ≤ y) (h₁ : y < 2 ^ i) : bits .or .i64 x y = x + y :=
  Go.bits_join .i64 63 (by decide) wraps_i64w i x y hx₀ hx (by omega) h₀ h₁ (by
    have : (2 : Int) ^ i ≤ 2 ^ 24 := by exact_mod_cast Nat.pow_le_pow_right (by decide) hi
    omega)
theorem num_bits (x0 x1 x2 x3 : Nat) (l0 : x0 < 256) (l1 : x1 < 256) (l2 : x2 < 256) (l3 : x3 < 256) :
    bits BinOp.or IntKind.i64 (bits BinOp.or IntKind.i64 (bits BinOp.or IntKind.i64 ((x0 : Int) * 16777216) ((x1 : Int) * 65536)) ((x2 : Int) * 256)) (x3 : Int) = (x0 * 16777216 + x1 * 65536 + x2 * 256 + x3 : Nat) := by
  rw [i64_or 24 (by decide) ((x0 : Int) * 16777216) ((x1 : Int) * 65536) (by omega) (by omega) (by omega) (by omega) (by omega),
    i64_or 16 (by decide) ((x0 : Int) * 16777216 + (x1 : Int) * 65536) ((x2 : Int) * 256) (by omega) (by omega) (by omega) (by omega) (by omega),
    i64_or 8 (by decide) _ _ (by omega) (by omega) (by omega) (by omega) (by omega)]
  omega
theorem rcs_f4 (n : Nat) (h : n < 4294967296) : rcs b1 (f4 n) = [.int .u8 ((n : Int) / 16777216), .int .u8 ((n : Int) / 65536 % 256), .int .u8 ((n : Int) / 256 % 256), .int .u8 ((n : Int) % 256)] := by
  have e : ∀ m : Nat, m < 256 → ((UInt8.ofNat m).toNat : Int) = (m : Int) := fun m hm => by simp; omega
  simp only [rcs, f4, b1, List.flatMap_cons, List.flatMap_nil, List.cons_append, List.nil_append]
  rw [e _ (by omega), e _ (by omega), e _ (by omega), e _ (by omega)]
  simp
theorem infoU8 : (Try.prog.info? 5).map (fun i => (i.zero, i.size, i.bytes)) = some (some (.int .u8 0), 1, 1) := by kernel_rfl
/-- the four bytes of whatever number -/
def f4z (n : Int) : List UInt8 := f4 (n % 4294967296).toNat
theorem f4z_len (n : Int) : (f4z n).length = 4 := rfl
theorem f4z_nat {n : Int} (h0 : 0 ≤ n) (h : n < 4294967296) : f4z n = f4 n.toNat := by
  unfold f4z; rw [Int.emod_eq_of_lt h0 h]
theorem rcs_f4z (n : Int) : rcs b1 (f4z n) = [.int .u8 (n / 16777216 % 256), .int .u8 (n / 65536 % 256), .int .u8 (n / 256 % 256), .int .u8 (n % 256)] := by
  have hm : ((n % 4294967296).toNat : Int) = n % 4294967296 := by omega
  have hr := rcs_f4 (n % 4294967296).toNat (by omega)
  unfold f4z
  rw [hr, hm, show n % 4294967296 / 16777216 = n / 16777216 % 256 by omega, show n % 4294967296 / 65536 % 256 = n / 65536 % 256 by omega, show n % 4294967296 / 256 % 256 = n / 256 % 256 by omega, show n % 4294967296 % 256 = n % 256 by omega]
set_option maxRecDepth 100000 in
set_option maxHeartbeats 2000000 in
theorem four_any (v : Value) (k base : Nat) (bs : List UInt8) (n : I64) (hk : k ≤ 1000000) (w : World) (hb : base ≤ w.heap.size) (hown : w.ownsRow base 5 1 v k (rcs b1 bs)) :
    Calls Try.prog 61 #[v, .int .i64 n.1] w fun e w' => ∃ v', e = .returned v' ∧ w'.ownsRow base 5 1 v' (k + 4) (rcs b1 (bs ++ f4z n.1)) ∧ But (fun j => v.ownBlock = some j) w w' ∧ (v'.ownBlock = v.ownBlock ∨ ∃ j, v'.ownBlock = some j ∧ w.heap.size ≤ j) := by
  obtain ⟨i0, hif, hz0, hz1, hz2⟩ := info_parts infoU8
  have HI := Lib.hid hif
  clear hif
  go_enter Try.func61, Try.ntmps61
  have hlm : k + 4 ≤ maxLen := by unfold maxLen; omega
  have hlb : (k + 4) * 1 ≤ 140737488355328 := by omega
  have HB4 := Lib.hid (rcs_f4z n.1)
  have hn0 := n.2.1
  have hn1 := n.2.2
  go_wp2_with (at_builtin; refine wpList_append_own_at _ rfl (.tmp 5) (.tmp 17) 64 (by rfl) base 5 i0 _ 1 1 Try.underlying64 HI.out hz0 hz1 hz2 (by rfl) (by decide) v k _ (by rfl) (hown.alloc _) ⟨w.heap.size, 0, none⟩ 4 4 (rcs b1 (f4z n.1)) (by rfl) (by rfl) (by rw [HB4.out]; exact news_of_block0 (heap_alloc_new w _)) (rcs_one b1_one _) hlm hlb (by simp; omega) ?_)
  intro v' w6 ov6 g6 _ ho6
  go_wp2
  go_ret
  refine ⟨_, rfl, ?_, ?_, ?_⟩
  · rw [rcs_app]; exact ov6
  · exact (But.of_below ((Below.refl _ w).alloc (Nat.le_refl _) _)).trans' (But.grown g6 (fun j e => e)) (fun i _ h => h)
  · rcases ho6 with h | h
    · exact .inl h
    · exact .inr ⟨_, h, by simp⟩
set_option maxRecDepth 100000 in
set_option maxHeartbeats 2000000 in
theorem rfour_any (n : Nat) (hn : n < 4294967296) (w : World) :
    Calls Try.prog 62 #[.int .i64 (n : Int)] w fun e w' => ∃ v', e = .returned v' ∧ w'.ownsRow w.heap.size 5 1 v' 4 (rcs b1 (f4 n)) ∧ Below w.heap.size w w' := by
  go_enter Try.func62, Try.ntmps62
  go_wp2
  go_ret
  refine ⟨_, rfl, ⟨by simp [rcs_len b1_len, f4_len], .inr ⟨w.heap.size, 4, _, rfl, Nat.le_refl _, heap_alloc_new w _, Nat.le_refl _, by unfold maxLen; omega, by simp, ?_⟩⟩, (Below.refl _ w).alloc (Nat.le_refl _) _⟩
  rw [rcs_f4 n hn]
  rfl
set_option maxRecDepth 100000 in
set_option maxHeartbeats 2000000 in
theorem number_any (b : List UInt8) (at' : Nat) (h4 : at' + 4 ≤ b.length) (hl : b.length ≤ 1000000) (ao : Option Addr) (c : Nat) (w : World) (hv : RowsAt b1 1 w.heap.size ao b w) :
    Calls Try.prog 56 #[.slice ao b.length c, .int .i64 (at' : Int)] w fun e w' => e = .returned (.int .i64 (num4 b at' : Int)) ∧ Below w.heap.size w w' := by
  obtain ⟨g, o, rfl, hg, hr0⟩ := hv.at (i := at') (by omega)
  have hc : ∀ j, j < b.length → w.cell? ⟨g, o + j, none⟩ = some (.int .u8 (byt b j : Int)) := fun j hj => by
    obtain ⟨g', o', e, _, hr⟩ := hv.at hj
    cases e
    have := hr 0 _ rfl
    rw [Nat.mul_one, Nat.add_zero] at this
    rw [this]
    unfold byt
    rw [List.getD_eq_getElem?_getD, List.getElem?_eq_getElem hj]
    rfl
  have hc0 := hc at' (by omega)
  have hc1 := hc (at' + 1) (by omega)
  have hc2 := hc (at' + 2) (by omega)
  have hc3 := hc (at' + 3) (by omega)
  have ha0 : (0 : Int) ≤ (at' : Int) := by omega
  have hi0 : (at' : Int) < (b.length : Int) := by omega
  have hi1 : (at' : Int) + 1 < (b.length : Int) := by omega
  have hi2 : (at' : Int) + 2 < (b.length : Int) := by omega
  have hi3 : (at' : Int) + 3 < (b.length : Int) := by omega
  have l0 := byt_lt b at'; have l1 := byt_lt b (at' + 1); have l2 := byt_lt b (at' + 2); have l3 := byt_lt b (at' + 3)
  have HN : Hid (num4 b at' = byt b at' * 16777216 + byt b (at' + 1) * 65536 + byt b (at' + 2) * 256 + byt b (at' + 3)) := Lib.hid rfl
  rw [HN.out]
  clear hc hr0 hv HN
  generalize byt b at' = x0 at *
  generalize byt b (at' + 1) = x1 at *
  generalize byt b (at' + 2) = x2 at *
  generalize byt b (at' + 3) = x3 at *
  go_enter Try.func56, Try.ntmps56
  go_wp2_with fail
  go_quiet (fail)
  rw [num_bits x0 x1 x2 x3 l0 l1 l2 l3]
  go_wp2
  go_ret
  exact ⟨rfl, below_drewN (Below.refl _ _)⟩
set_option maxRecDepth 100000 in
set_option maxHeartbeats 2000000 in
theorem rnumber_any (b : List UInt8) (h4 : 4 ≤ b.length) (hl : b.length ≤ 1000000) (ao : Option Addr) (c : Nat) (w : World) (hv : RowsAt b1 1 w.heap.size ao b w) :
    Calls Try.prog 59 #[.slice ao b.length c] w fun e w' => e = .returned (.int .i64 (num4 b 0 : Int)) ∧ Below w.heap.size w w' := by
  obtain ⟨g, o, rfl, hg, hr0⟩ := hv.at (i := 0) (by omega)
  have hc : ∀ j, j < b.length → w.cell? ⟨g, o + j, none⟩ = some (.int .u8 (byt b j : Int)) := fun j hj => by
    obtain ⟨g', o', e, _, hr⟩ := hv.at hj
    cases e
    have := hr 0 _ rfl
    rw [Nat.mul_one, Nat.add_zero] at this
    rw [this]
    unfold byt
    rw [List.getD_eq_getElem?_getD, List.getElem?_eq_getElem hj]
    rfl
  have hc0 := hc 0 (by omega)
  rw [Nat.add_zero] at hc0
  have hc1 := hc 1 (by omega)
  have hc2 := hc 2 (by omega)
  have hc3 := hc 3 (by omega)
  have hi0 : (0 : Int) < (b.length : Int) := by omega
  have hi1 : (1 : Int) < (b.length : Int) := by omega
  have hi2 : (2 : Int) < (b.length : Int) := by omega
  have hi3 : (3 : Int) < (b.length : Int) := by omega
  have l0 := byt_lt b 0; have l1 := byt_lt b 1; have l2 := byt_lt b 2; have l3 := byt_lt b 3
  have HN : Hid (num4 b 0 = byt b 0 * 16777216 + byt b 1 * 65536 + byt b 2 * 256 + byt b 3) := Lib.hid rfl
  rw [HN.out]
  clear hc hr0 hv HN
  generalize byt b 0 = x0 at *
  generalize byt b 1 = x1 at *
  generalize byt b 2 = x2 at *
  generalize byt b 3 = x3 at *
  go_enter Try.func59, Try.ntmps59
  go_wp2_with fail
  go_quiet (fail)
  go_wp2
  go_ret
  exact ⟨ret_int (by omega), below_drewN (Below.refl _ _)⟩
end Go.Proofs.Ytblidphaolgilaa
