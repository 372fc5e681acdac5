/- Contract of utf8.begins. -/
import Derived.Test.YtefncnmahimgpaaRows
import Derived.Test.YtefncnmahimgpaaBase
import Derived.Test.YtefncnmahimgpaaRow
import Derived.Test.YtefncnmahimgpaaUSize
import Derived.WalkKit
import Derived.WalkSpells
import Derived.WalkLawsBesides
import Derived.Lib.Hide
import Derived.Deep.QuietTactic
import Derived.BigQuiet
import Derived.Outline
import Derived.Laws.BitsLemmas
namespace Go.Proofs.Ytefncnmahimgpaa
open Go.RowKit

/-- the least and the greatest number with the bits of the first bytes -/
def loF (l : List UInt8) (m : Nat) : Nat → Nat
  | 0 => byt l 0 % m
  | i + 1 => if i + 1 < l.length then loF l m i * 64 + byt l (i + 1) % 64 else loF l m i * 64
def hiF (l : List UInt8) (m : Nat) : Nat → Nat
  | 0 => byt l 0 % m
  | i + 1 => if i + 1 < l.length then hiF l m i * 64 + byt l (i + 1) % 64 else hiF l m i * 64 + 63
theorem lohi (l : List UInt8) (m : Nat) (hm : 0 < m) (hm2 : m ≤ 128) : ∀ i, loF l m i ≤ hiF l m i ∧ hiF l m i < 128 * 64 ^ i
  | 0 => ⟨Nat.le_refl _, by have := Nat.mod_lt (byt l 0) hm; show byt l 0 % m < _; omega⟩
  | i + 1 => by
    have ih := lohi l m hm hm2 i
    have e : 128 * 64 ^ (i + 1) = 64 * (128 * 64 ^ i) := by rw [Nat.pow_succ]; omega
    rw [e]
    simp only [loF, hiF]
    split <;> omega
/-- a byte behind the first one that does not go on -/
def contBad (l : List UInt8) (t : Nat) : Bool := decide (t ≠ 0) && decide (t < l.length) && !(byt l t / 64 == 2)
def rangeB (lo hi : Nat) : Bool := !(decide (55296 ≤ lo) && decide (hi ≤ 57343)) && decide (lo ≤ hi)
/-- are the bytes the beginning of an encoding of n bytes, or one? -/
def okB (l : List UInt8) (n m mn mx : Nat) : Bool := (fst1 (contBad l) n).isNone && rangeB (max (loF l m (n - 1)) mn) (min (hiF l m (n - 1)) mx)

theorem okB_of {l : List UInt8} {n m mn mx j : Nat} (hn : NoneBelow (contBad l) n) (hj : n = j + 1) : okB l n m mn mx = rangeB (max (loF l m j) mn) (min (hiF l m j) mx) := by
  subst hj; rw [okB, fst1_none hn]; rfl
theorem okB_bad {l : List UInt8} {n m mn mx k : Nat} (hk : k < n) (hn : NoneBelow (contBad l) k) (hb : contBad l k = true) : okB l n m mn mx = false := by
  rw [okB, fst1_some hk hn hb]; rfl

set_option maxRecDepth 100000 in
set_option maxHeartbeats 1600000 in
theorem begins_core (n m mask mn mx : Nat) (C : Array Value) (s : ByteArray) (hn1 : 1 ≤ n) (hn4 : n ≤ 4) (hm : 0 < m) (hm2 : m ≤ 128) (hpsz : psz (byt s.data.toList 0) = n)
    (hmask : ∀ c : Nat, c < 256 → bits BinOp.and IntKind.u8 (c : Int) (mask : Int) = ((c % m : Nat) : Int))
    (hidx : ∀ w, (Instr.index 64 (.agg clsA) (.int .i64 ((n : Int) - 1))).run Try.prog w = .ok (.agg C) w)
    (hC2 : C[2]? = some (.int .u8 mask)) (hC3 : C[3]? = some (.int .i32 mn)) (hC4 : C[4]? = some (.int .i32 mx)) (hC : C.size = 5) (hCone : C.all (·.oneCell') = true)
    (_hmn : mn ≤ 1114111) (_hmx : mx ≤ 1114111) (hs1 : 1 ≤ s.size) (hsn : s.size ≤ n) (w : World) :
    Calls Try.prog 43 #[.string s] w fun e w' => e = .returned (.tuple #[.int .i64 n, .bool (okB s.data.toList n m mn mx)]) ∧ Below w.heap.size w w' := by
  have hb0 := byt_at s 0 hs1
  have hc0 : (s[0]'hs1).toNat < 256 := UInt8.toNat_lt _
  obtain ⟨v, hv⟩ : ∃ v : Nat, v = (s[0]'hs1).toNat % m := ⟨_, rfl⟩
  have hmk : bits BinOp.and IntKind.u8 ((s[0]'hs1).toNat : Int) (mask : Int) = (v : Int) := by rw [hv]; exact hmask _ hc0
  have hv256 : v < 256 := by rw [hv]; have := Nat.mod_le (s[0]'hs1).toNat m; omega
  have HV := Lib.hid hv
  clear hv
  have HS := Lib.hid (sizeOf_any _ hc0)
  have HI : Hid ((Try.prog.info? 63).map (·.size) = some C.size) := Lib.hid (by rw [hC]; exact cls0Info)
  have hnz : ((n : Int) == 0) = false := by simp; omega
  rw [hb0] at hpsz
  rw [hpsz] at HS
  have HC2 := Lib.hid hC2
  have HC3 := Lib.hid hC3
  have HC4 := Lib.hid hC4
  have HC := Lib.hid hC
  have HB0 := Lib.hid hb0
  clear hmask hpsz hC2 hC3 hC4 hC hb0
  go_enter Try.func43, Try.ntmps43
  go_wp2_with fail
  refine (HS.out _).mono ?_
  rintro e w1 ⟨rfl, b1⟩
  go_wp2_with fail
  refine (classes_any _).mono ?_
  rintro e w2 ⟨rfl, b2⟩
  have c2 := b1.trans (b2.mono b1.size)
  have HQ : Hid ((w2.alloc (.cells #[.int .u8 0, .int .u8 0, .int .u8 0, .int .i32 0, .int .i32 0] 63)).heap[w2.heap.size]? = some (.cells #[.int .u8 0, .int .u8 0, .int .u8 0, .int .i32 0, .int .i32 0] 63 (0, 0))) := Lib.hid (heap_alloc_new w2 _)
  go_wp2_with (refine wpList_store_abs (by rfl) 63 (.tmp 5) (.tmp 24) (by rfl) w2.heap.size C (by rfl) (by rfl) _ _ HQ.out HI.out (by rw [HC.out]; rfl) hCone w.heap.size w (c2.alloc c2.size _) c2.size ?_)
  intro w3 h3 b3 o3
  clear o3 HQ HI hCone c2 b1 b2 HS
  have g2 : w3.cell? ⟨w2.heap.size, 2, none⟩ = some (.int .u8 mask) := by rw [cell_of_row _ _ _ _ _ _ h3.out]; exact HC2.out
  have hi0 : (0 : Int) < (s.size : Int) := by omega
  go_wp2_with fail
  go_quiet (fail)
  have HF : Hid (loF s.data.toList m 0 = v) := Lib.hid (by rw [loF, HB0.out, HV.out])
  have HF' : Hid (hiF s.data.toList m 0 = v) := Lib.hid (by rw [hiF, HB0.out, HV.out])
  have h3q : Hid ((w3.drewN nq).heap[w2.heap.size]? = some (.cells C 63 (0, 0))) := Lib.hid h3.out
  have b3q : Below w.heap.size w (w3.drewN nq) := below_drewN b3
  generalize w3.drewN nq = w4 at *
  clear h3 b3 g2 hmk hc0
  have HL : Hid (s.data.toList.length = s.size) := Lib.hid (by simp)
  go_wp2
  go_loopw [6, 7, 8] (fun lo hi i wr => ∃ j : Nat, j + 1 ≤ n ∧ i = .int .i64 ((j + 1 : Nat) : Int) ∧ lo = .int .i32 (loF s.data.toList m j) ∧ hi = .int .i32 (hiF s.data.toList m j) ∧ NoneBelow (contBad s.data.toList) (j + 1) ∧ Hid (wr.heap[w2.heap.size]? = some (.cells C 63 (0, 0))) ∧ Below w.heap.size w wr) (fun _ _ i _ => n - (intOf i).toNat)
  case atStart =>
    refine ⟨0, hn1, rfl, by rw [HF.out], by rw [HF'.out], fun j hj => ?_, h3q, b3q⟩
    obtain rfl : j = 0 := by omega
    simp [contBad]
  case round =>
    obtain ⟨j, hj, rfl, rfl, rfl, hn, hH, hB⟩ := hrel
    have hlh := lohi s.data.toList m hm hm2 j
    have hp : 128 * 64 ^ j ≤ 128 * 64 ^ 3 := Nat.mul_le_mul_left _ (Nat.pow_le_pow_right (by omega) (by omega))
    have hlo : loF s.data.toList m j ≤ hiF s.data.toList m j := hlh.1
    have hhi : hiF s.data.toList m j < 33554432 := by have := hlh.2; omega
    clear hlh hp h3q b3q
    by_cases hlt : j + 1 < n
    · have hlti : (j : Int) + 1 < (n : Int) := by omega
      by_cases hin : j + 1 < s.size
      · have hini : (j : Int) + 1 < (s.size : Int) := by omega
        have hbj := byt_at s (j + 1) hin
        have hc := UInt8.toNat_lt (s[j + 1]'hin)
        have HNL : Hid (loF s.data.toList m (j + 1) = loF s.data.toList m j * 64 + (s[j + 1]'hin).toNat % 64) := Lib.hid (by rw [loF, HL.out, if_pos hin, hbj])
        have HNH : Hid (hiF s.data.toList m (j + 1) = hiF s.data.toList m j * 64 + (s[j + 1]'hin).toNat % 64) := Lib.hid (by rw [hiF, HL.out, if_pos hin, hbj])
        have hcb : contBad s.data.toList (j + 1) = (((s[j + 1]'hin).toNat : Int) / 64 != 2) := by
          rw [contBad, HL.out, hbj, Bool.eq_iff_iff]; simp; omega
        cases hne : (((s[j + 1]'hin).toNat : Int) / 64 != 2)
        · have hn' := hn.succ (k := j + 1) (hcb.trans hne)
          clear hn hcb hbj
          generalize loF s.data.toList m j = lo at *
          generalize hiF s.data.toList m j = hi at *
          have ho1 : bits BinOp.or IntKind.i32 ((lo : Int) * 64) (((s[j + 1]'hin).toNat : Int) % 64) = (lo : Int) * 64 + ((s[j + 1]'hin).toNat : Int) % 64 := i32_or6 _ _ (by omega) (by omega) (by omega) (by omega) (by omega)
          have ho2 : bits BinOp.or IntKind.i32 ((hi : Int) * 64) (((s[j + 1]'hin).toNat : Int) % 64) = (hi : Int) * 64 + ((s[j + 1]'hin).toNat : Int) % 64 := i32_or6 _ _ (by omega) (by omega) (by omega) (by omega) (by omega)
          have hj0 : (0 : Int) ≤ (j : Int) + 1 := by omega
          go_wp2_with fail
          go_quiet (fail)
          go_wp2
          go_roundw
          case rel => exact ⟨j + 1, by omega, by go_num, by rw [HNL.out]; go_num, by rw [HNH.out]; go_num, hn', hH, below_drewN hB⟩
          case measure => simp [intOf]; omega
        · have HE : Hid (okB s.data.toList n m mn mx = false) := Lib.hid (okB_bad hlt hn (hcb.trans hne))
          clear hn hcb hbj
          go_wp2
          go_ret2
          rw [HE.out]
          exact ⟨rfl, hB⟩
      · have hini : ¬ (j : Int) + 1 < (s.size : Int) := by omega
        have HNL : Hid (loF s.data.toList m (j + 1) = loF s.data.toList m j * 64) := Lib.hid (by rw [loF, HL.out, if_neg hin])
        have HNH : Hid (hiF s.data.toList m (j + 1) = hiF s.data.toList m j * 64 + 63) := Lib.hid (by rw [hiF, HL.out, if_neg hin])
        have hcb : contBad s.data.toList (j + 1) = false := by simp [contBad, HL.out, hin]
        have hn' := hn.succ (k := j + 1) hcb
        clear hn hcb
        generalize loF s.data.toList m j = lo at *
        generalize hiF s.data.toList m j = hi at *
        have ho2 : bits BinOp.or IntKind.i32 ((hi : Int) * 64) 63 = (hi : Int) * 64 + 63 := i32_or6 _ _ (by omega) (by omega) (by omega) (by omega) (by omega)
        go_wp2
        go_roundw
        case rel => exact ⟨j + 1, by omega, by go_num, by rw [HNL.out]; go_num, by rw [HNH.out]; go_num, hn', hH, hB⟩
        case measure => simp [intOf]; omega
    · have hnj : n = j + 1 := by omega
      have HE : Hid (okB s.data.toList n m mn mx = rangeB (max (loF s.data.toList m j) mn) (min (hiF s.data.toList m j) mx)) := Lib.hid (okB_of (by rw [hnj]; exact hn) hnj)
      have HNJ := Lib.hid hnj
      clear hn hnj
      have g3 : wr.cell? ⟨w2.heap.size, 3, none⟩ = some (.int .i32 mn) := by rw [cell_of_row _ _ _ _ _ _ hH.out]; exact HC3.out
      have g4 : wr.cell? ⟨w2.heap.size, 4, none⟩ = some (.int .i32 mx) := by rw [cell_of_row _ _ _ _ _ _ hH.out]; exact HC4.out
      have hnlt : ¬ (j : Int) + 1 < (n : Int) := by omega
      generalize loF s.data.toList m j = lo at *
      generalize hiF s.data.toList m j = hi at *
      go_wp2_with fail
      refine wp_region_quiet_lit (by kernel_rfl) (by kernel_rfl) ?_
      iterate 10 (go_big_quiet_step (fail))
      refine wpQuiet_nil ?_
      intro _ hw'
      obtain ⟨nq2, hw''⟩ := hw'
      subst hw''
      have hBq := below_drewN (n := nq2) hB
      generalize wr.drewN nq2 = wq at *
      clear g3 g4 hB hH
      have ha : (if lo < mn then (mn : Int) else (lo : Int)) = ((max lo mn : Nat) : Int) := by split <;> omega
      have hb : (if mx < hi then (mx : Int) else (hi : Int)) = ((min hi mx : Nat) : Int) := by split <;> omega
      simp only [ha, hb]
      clear ha hb
      generalize max lo mn = A at *
      generalize min hi mx = B at *
      by_cases q1 : (55296 : Int) ≤ (A : Int) <;> by_cases q2 : (B : Int) ≤ 57343 <;> by_cases q3 : (A : Int) ≤ (B : Int)
      all_goals
        go_wp2
        go_ret2
        rw [HE.out]
        refine ⟨?_, hBq⟩
        have e1 : decide (55296 ≤ A) = decide ((55296 : Int) ≤ (A : Int)) := by rw [decide_eq_decide]; omega
        have e2 : decide (B ≤ 57343) = decide ((B : Int) ≤ 57343) := by rw [decide_eq_decide]; omega
        have e3 : decide (A ≤ B) = decide ((A : Int) ≤ (B : Int)) := by rw [decide_eq_decide]; omega
        first | (simp [rangeB, e1, e2, e3, q1, q2, q3]; done) | (simp [rangeB, e1, e2, q1, q2]; omega)

theorem mask1 : ∀ c : Nat, c < 256 → bits BinOp.and IntKind.u8 (c : Int) ((127 : Nat) : Int) = ((c % 128 : Nat) : Int) := by decide +kernel
theorem mask2 : ∀ c : Nat, c < 256 → bits BinOp.and IntKind.u8 (c : Int) ((31 : Nat) : Int) = ((c % 32 : Nat) : Int) := by decide +kernel
theorem mask3 : ∀ c : Nat, c < 256 → bits BinOp.and IntKind.u8 (c : Int) ((15 : Nat) : Int) = ((c % 16 : Nat) : Int) := by decide +kernel
theorem mask4 : ∀ c : Nat, c < 256 → bits BinOp.and IntKind.u8 (c : Int) ((7 : Nat) : Int) = ((c % 8 : Nat) : Int) := by decide +kernel
set_option maxRecDepth 100000 in
theorem begins_1 (s : ByteArray) (hp : psz (byt s.data.toList 0) = 1) (hs1 : 1 ≤ s.size) (hsn : s.size ≤ 1) (w : World) :
    Calls Try.prog 43 #[.string s] w fun e w' => e = .returned (.tuple #[.int .i64 1, .bool (okB s.data.toList 1 128 0 127)]) ∧ Below w.heap.size w w' :=
  begins_core 1 128 127 0 127 cls0 s (by omega) (by omega) (by omega) (by omega) hp mask1 (fun w => cls_at0 w) rfl rfl rfl rfl cls0_one (by omega) (by omega) hs1 hsn w
set_option maxRecDepth 100000 in
theorem begins_2 (s : ByteArray) (hp : psz (byt s.data.toList 0) = 2) (hs1 : 1 ≤ s.size) (hsn : s.size ≤ 2) (w : World) :
    Calls Try.prog 43 #[.string s] w fun e w' => e = .returned (.tuple #[.int .i64 2, .bool (okB s.data.toList 2 32 128 2047)]) ∧ Below w.heap.size w w' :=
  begins_core 2 32 31 128 2047 cls1 s (by omega) (by omega) (by omega) (by omega) hp mask2 (fun w => cls_at1 w) rfl rfl rfl rfl cls1_one (by omega) (by omega) hs1 hsn w
set_option maxRecDepth 100000 in
theorem begins_3 (s : ByteArray) (hp : psz (byt s.data.toList 0) = 3) (hs1 : 1 ≤ s.size) (hsn : s.size ≤ 3) (w : World) :
    Calls Try.prog 43 #[.string s] w fun e w' => e = .returned (.tuple #[.int .i64 3, .bool (okB s.data.toList 3 16 2048 65535)]) ∧ Below w.heap.size w w' :=
  begins_core 3 16 15 2048 65535 cls2 s (by omega) (by omega) (by omega) (by omega) hp mask3 (fun w => cls_at2 w) rfl rfl rfl rfl cls2_one (by omega) (by omega) hs1 hsn w
set_option maxRecDepth 100000 in
theorem begins_4 (s : ByteArray) (hp : psz (byt s.data.toList 0) = 4) (hs1 : 1 ≤ s.size) (hsn : s.size ≤ 4) (w : World) :
    Calls Try.prog 43 #[.string s] w fun e w' => e = .returned (.tuple #[.int .i64 4, .bool (okB s.data.toList 4 8 65536 1114111)]) ∧ Below w.heap.size w w' :=
  begins_core 4 8 7 65536 1114111 cls3 s (by omega) (by omega) (by omega) (by omega) hp mask4 (fun w => cls_at3 w) rfl rfl rfl rfl cls3_one (by omega) (by omega) hs1 hsn w

/-- what begins answers -/
def pBegins (l : List UInt8) : Nat × Bool :=
  let n := psz (byt l 0)
  if n = 0 then (0, false) else if n < l.length then (n, false) else
  if n = 1 then (1, okB l 1 128 0 127) else if n = 2 then (2, okB l 2 32 128 2047) else if n = 3 then (3, okB l 3 16 2048 65535) else (4, okB l 4 8 65536 1114111)
theorem psz_le (c : Nat) : psz c ≤ 4 := by unfold psz; (repeat' split) <;> omega

set_option maxHeartbeats 800000 in
theorem begins_any (s : ByteArray) (hs1 : 1 ≤ s.size) (hs : s.size ≤ maxLen) (w : World) :
    Calls Try.prog 43 #[.string s] w fun e w' => e = .returned (.tuple #[.int .i64 (pBegins s.data.toList).1, .bool (pBegins s.data.toList).2]) ∧ Below w.heap.size w w' := by
  have hL : s.data.toList.length = s.size := by simp
  have h4 := psz_le (byt s.data.toList 0)
  unfold maxLen at hs
  by_cases hsmall : psz (byt s.data.toList 0) = 0 ∨ psz (byt s.data.toList 0) < s.size
  · have hb0 := byt_at s 0 hs1
    have hc0 : (s[0]'hs1).toNat < 256 := UInt8.toNat_lt _
    have HP : Hid (pBegins s.data.toList = (psz (s[0]'hs1).toNat, false)) := by
      apply Lib.hid
      rw [← hb0]
      simp only [pBegins, hL]
      by_cases h0 : psz (byt s.data.toList 0) = 0
      · rw [if_pos h0, h0]
      · rw [if_neg h0, if_pos (by omega)]
    rw [hb0] at hsmall h4
    have HS := Lib.hid (sizeOf_any _ hc0)
    clear hb0 hL
    generalize psz (s[0]'hs1).toNat = n at *
    by_cases h0 : n = 0
    · have e0 : ((n : Int) == 0) = true := by simp [h0]
      clear h0
      go_enter Try.func43, Try.ntmps43
      go_wp2_with fail
      refine (HS.out _).mono ?_
      rintro e w1 ⟨rfl, b1⟩
      go_wp2
      go_ret2
      exact ⟨by rw [HP.out]; rfl, b1⟩
    · have e0 : ((n : Int) == 0) = false := by simp [h0]
      have e1 : (n : Int) < (s.size : Int) := by omega
      clear h0
      go_enter Try.func43, Try.ntmps43
      go_wp2_with fail
      refine (HS.out _).mono ?_
      rintro e w1 ⟨rfl, b1⟩
      go_wp2
      go_ret2
      exact ⟨by rw [HP.out]; rfl, b1⟩
  · have hlt : ¬ psz (byt s.data.toList 0) < s.data.toList.length := by rw [hL]; omega
    obtain h | h | h | h : psz (byt s.data.toList 0) = 1 ∨ psz (byt s.data.toList 0) = 2 ∨ psz (byt s.data.toList 0) = 3 ∨ psz (byt s.data.toList 0) = 4 := by omega
    · have e : pBegins s.data.toList = (1, okB s.data.toList 1 128 0 127) := by unfold pBegins; dsimp only; rw [h] at hlt ⊢; rw [if_neg (by omega), if_neg (by omega), if_pos rfl]
      rw [e]
      exact begins_1 s h hs1 (by omega) w
    · have e : pBegins s.data.toList = (2, okB s.data.toList 2 32 128 2047) := by unfold pBegins; dsimp only; rw [h] at hlt ⊢; rw [if_neg (by omega), if_neg (by omega), if_neg (by omega), if_pos rfl]
      rw [e]
      exact begins_2 s h hs1 (by omega) w
    · have e : pBegins s.data.toList = (3, okB s.data.toList 3 16 2048 65535) := by unfold pBegins; dsimp only; rw [h] at hlt ⊢; rw [if_neg (by omega), if_neg (by omega), if_neg (by omega), if_neg (by omega), if_pos rfl]
      rw [e]
      exact begins_3 s h hs1 (by omega) w
    · have e : pBegins s.data.toList = (4, okB s.data.toList 4 8 65536 1114111) := by unfold pBegins; dsimp only; rw [h] at hlt ⊢; rw [if_neg (by omega), if_neg (by omega), if_neg (by omega), if_neg (by omega), if_neg (by omega)]
      rw [e]
      exact begins_4 s h hs1 (by omega) w
end Go.Proofs.Ytefncnmahimgpaa
