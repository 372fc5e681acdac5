/- Contract of msgid.Parse. -/
import Derived.Test.YtnoilnmkdahhiaaRows
import Derived.Test.YtnoilnmkdahhiaaBase
import Derived.Test.YtnoilnmkdahhiaaPrintW
import Derived.Test.YtnoilnmkdahhiaaCmpW
import Derived.Test.YtnoilnmkdahhiaaUnhexW
import Derived.Test.YtnoilnmkdahhiaaRow
import Derived.WalkKit
import Derived.WalkSpells
import Derived.WalkLawsBesides
import Derived.Lib.Hide
import Derived.Deep.QuietTactic
import Derived.BigQuiet
import Derived.Lib.Bytealg
import Derived.Outline
import Derived.Laws.CopyOwn
namespace Go.Proofs.Ytnoilnmkdahhiaa
open Go.RowKit

/-- the value of a digit, as a natural number -/
def hv (c : Nat) : Nat := (digV c).toNat
theorem index_digV : ∀ c : Nat, c < 256 → Lib.indexByte digits16 c.toUInt8 = digV c := by decide +kernel
theorem hexD_hv : ∀ c : Nat, c < 256 → ¬ digV c < 0 → hv c < 16 ∧ (hexD (hv c)).toNat = c := by decide +kernel
/-- the text of the zero identity -/
def formL : List UInt8 := printL zeroL
/-- is there an error at a place of a text? -/
def badAt (l : List UInt8) (i : Nat) : Bool :=
  if 1 ≤ i ∧ i < 65 then decide (digV (byt l i) < 0) else byt l i != byt formL i
/-- the identity of the digits of a text -/
def parseId (l : List UInt8) : List UInt8 := (List.range 32).map fun j => (hv (byt l (2 * j + 1)) * 16 + hv (byt l (2 * j + 2))).toUInt8
theorem parseId_length (l : List UInt8) : (parseId l).length = 32 := by simp [parseId]
/-- what Parse answers: the identity, the offset, the kind of the error -/
def parseE (l : List UInt8) : List UInt8 × Nat × Nat :=
  match fst1 (badAt l) (min l.length 71) with
  | some i => (zeroL, i, 6)
  | none => if l.length < 71 then (zeroL, l.length, 4) else if 71 < l.length then (zeroL, 71, 5) else (parseId l, 0, 0)
def parseV (l : List UInt8) : Value := .tuple #[idv (parseE l).1, .int .i64 (parseE l).2.1, .int .i64 (parseE l).2.2]

theorem print_zero (w : World) :
    Calls Try.prog 17 #[.agg #[.int .u8 0, .int .u8 0, .int .u8 0, .int .u8 0, .int .u8 0, .int .u8 0, .int .u8 0, .int .u8 0, .int .u8 0, .int .u8 0, .int .u8 0, .int .u8 0, .int .u8 0, .int .u8 0, .int .u8 0, .int .u8 0, .int .u8 0, .int .u8 0, .int .u8 0, .int .u8 0, .int .u8 0, .int .u8 0, .int .u8 0, .int .u8 0, .int .u8 0, .int .u8 0, .int .u8 0, .int .u8 0, .int .u8 0, .int .u8 0, .int .u8 0, .int .u8 0]] w fun e w' => e = .returned (.string ⟨formL.toArray⟩) ∧ Below w.heap.size w w' := print_any zeroL rfl w

/-- the digits of the identity are the text's own, where there is no error -/
theorem hexL_parseId (l : List UInt8) (hl : l.length = 71) (hn : NoneBelow (badAt l) 71) : hexL (parseId l) = (l.drop 1).take 64 := by
  have hlen : (hexL (parseId l)).length = 64 := by rw [hexL_length, parseId_length]
  have hlen2 : ((l.drop 1).take 64).length = 64 := by simp; omega
  have hb : ∀ j, j < 32 → byt (parseId l) j = hv (byt l (2 * j + 1)) * 16 + hv (byt l (2 * j + 2)) := by
    intro j hj
    have v1 := hexD_hv (byt l (2 * j + 1)) (byt_lt l _) (by have := hn (2 * j + 1) (by omega); rw [badAt, if_pos (by omega)] at this; simpa using this)
    have v2 := hexD_hv (byt l (2 * j + 2)) (byt_lt l _) (by have := hn (2 * j + 2) (by omega); rw [badAt, if_pos (by omega)] at this; simpa using this)
    conv => lhs; unfold byt parseId
    rw [List.getD_eq_getElem?_getD, List.getElem?_map, List.getElem?_range hj]
    simp
    omega
  refine eq_of_byt _ _ (hlen.trans hlen2.symm) (fun i hi => ?_)
  rw [hlen] at hi
  have hr : byt ((l.drop 1).take 64) i = byt l (i + 1) := by
    unfold byt
    rw [List.getD_eq_getElem?_getD, List.getD_eq_getElem?_getD, List.getElem?_take, if_pos hi, List.getElem?_drop, Nat.add_comm]
  rw [hr]
  obtain ⟨j, hj | hj⟩ : ∃ j, i = 2 * j ∨ i = 2 * j + 1 := ⟨i / 2, by omega⟩
  · have e := (hexL_even (parseId l) j (by rw [parseId_length]; omega)).1
    have v1 := hexD_hv (byt l (2 * j + 1)) (byt_lt l _) (by have := hn (2 * j + 1) (by omega); rw [badAt, if_pos (by omega)] at this; simpa using this)
    have v2 := hexD_hv (byt l (2 * j + 2)) (byt_lt l _) (by have := hn (2 * j + 2) (by omega); rw [badAt, if_pos (by omega)] at this; simpa using this)
    rw [hj, e, hb j (by omega), show (hv (byt l (2 * j + 1)) * 16 + hv (byt l (2 * j + 2))) / 16 = hv (byt l (2 * j + 1)) from by omega, v1.2]
  · have e := (hexL_even (parseId l) j (by rw [parseId_length]; omega)).2
    have v1 := hexD_hv (byt l (2 * j + 1)) (byt_lt l _) (by have := hn (2 * j + 1) (by omega); rw [badAt, if_pos (by omega)] at this; simpa using this)
    have v2 := hexD_hv (byt l (2 * j + 2)) (byt_lt l _) (by have := hn (2 * j + 2) (by omega); rw [badAt, if_pos (by omega)] at this; simpa using this)
    rw [hj, e, hb j (by omega), show (hv (byt l (2 * j + 1)) * 16 + hv (byt l (2 * j + 2))) % 16 = hv (byt l (2 * j + 2)) from by omega, v2.2]
theorem digits_of (s : ByteArray) (hs : s.size = 71) (hn : NoneBelow (badAt s.data.toList) 71) : s.extract 1 65 = ⟨(hexL (parseId s.data.toList)).toArray⟩ := by
  rw [hexL_parseId _ (by simpa using hs) hn]
  apply ByteArray.ext
  apply Array.ext'
  simp
theorem byteInfo1 : (Try.prog.info? 5).map (·.size) = some 1 := by kernel_rfl

theorem hex_index (c : Int) (hc : 0 ≤ c) (hc' : c < 256) (w : World) :
    Calls Try.prog 32 #[.string { data := #[48, 49, 50, 51, 52, 53, 54, 55, 56, 57, 97, 98, 99, 100, 101, 102] }, .int .u8 c] w fun e w' => e = .returned (.int .i64 (digV c)) ∧ w' = w := by
  refine (Try.strings_IndexByte _ _ _).mono ?_
  rintro e w' ⟨rfl, rfl⟩
  obtain ⟨n, rfl⟩ := Int.eq_ofNat_of_zero_le hc
  refine ⟨ret_int ?_, rfl⟩
  have := index_digV n (by omega)
  simpa [digits16] using this

set_option maxHeartbeats 400000 in
theorem parse_any (s : ByteArray) (hs : s.size ≤ maxLen) (w : World) :
    Calls Try.prog 18 #[.string s] w fun e w' => e = .returned (parseV s.data.toList) ∧ Below w.heap.size w w' := by
  unfold maxLen at hs
  obtain ⟨M, hM⟩ : ∃ M : Nat, M = min s.size 71 := ⟨_, rfl⟩
  have hMi : min (s.size : Int) 71 = (M : Int) := by omega
  have hM1 : M ≤ s.size := by omega
  have hM2 : M ≤ 71 := by omega
  have HM := Lib.hid hM
  clear hM
  go_enter Try.func18, Try.ntmps18
  go_wp2_with fail
  refine (print_zero _).mono ?_
  rintro e w1 ⟨rfl, b1⟩
  have hblk : w1.heap[w.heap.size]? = some (.cells (Lib.byteCells zeroL).toArray 24 (0, 0)) := (b1.block w.heap.size (by simp)).trans (heap_alloc_new w _)
  have hbw : Below w.heap.size w w1 := ((Below.refl _ w).alloc (Nat.le_refl _) _).trans (b1.mono (by simp))
  have hfs : (⟨formL.toArray⟩ : ByteArray).size = 71 := by rfl
  have hfa : ∀ k (h : k < (⟨formL.toArray⟩ : ByteArray).size), ((⟨formL.toArray⟩ : ByteArray)[k]'h).toNat = byt formL k := fun k h => (byt_at ⟨formL.toArray⟩ k h).symm.trans (by simp)
  generalize (⟨formL.toArray⟩ : ByteArray) = fm at *
  have HFS : Hid (fm.size = 71) := Lib.hid hfs
  have HFA : Hid (∀ k (h : k < fm.size), (fm[k]'h).toNat = byt formL k) := Lib.hid hfa
  have hfm : 71 ≤ fm.size := by omega
  have HB := Lib.hid hblk
  clear hfs hfa hblk b1
  go_wp2
  go_loopw [15] (fun i wr => ∃ k : Nat, k ≤ M ∧ i = .int .i64 k ∧ NoneBelow (badAt s.data.toList) k ∧ Hid (wr.heap[w.heap.size]? = some (.cells (Lib.byteCells zeroL).toArray 24 (0, 0))) ∧ Below w.heap.size w wr) (fun i _ => M - (intOf i).toNat)
  case atStart => exact ⟨0, Nat.zero_le _, rfl, NoneBelow.zero _, HB, hbw⟩
  case round =>
    obtain ⟨k, hk, rfl, hn, HBr, hbr⟩ := hrel
    clear hbw
    by_cases hlt : k < M
    · have hks : k < s.size := by omega
      have hkf : k < fm.size := by omega
      have hks1 : (k : Int) < (s.size : Int) := by omega
      have hkf1 : (k : Int) < (fm.size : Int) := by omega
      have hk0 : (0 : Int) ≤ (k : Int) := by omega
      have hc : byt s.data.toList k = (s[k]'hks).toNat := byt_at s k hks
      have hc256 : (s[k]'hks).toNat < 256 := UInt8.toNat_lt _
      by_cases hdg : 1 ≤ k ∧ k < 65
      · have hd1 : decide ((1 : Int) ≤ (k : Int)) = true := by simp; omega
        have hd2 : decide ((k : Int) < 65) = true := by simp; omega
        have hbad : badAt s.data.toList k = decide (digV ((s[k]'hks).toNat) < 0) := by rw [badAt, if_pos hdg, hc]
        by_cases hneg : digV ((s[k]'hks).toNat) < 0
        · have hdn : decide (digV ((s[k]'hks).toNat) < 0) = true := by simpa using hneg
          go_wp2_with fail
          go_quiet ((go_at_call 32; exact Calls.quiet_of_same (hex_index _ (by omega) (by omega) _)))
          have HBq : (wr.drewN nq).heap[w.heap.size]? = some (.cells (Lib.byteCells zeroL).toArray 24 (0, 0)) := HBr.out
          have hbq : Below w.heap.size w (wr.drewN nq) := below_drewN hbr
          generalize wr.drewN nq = wq at *
          have HBQ := Lib.hid HBq
          clear HBq
          have HE : Hid (parseE s.data.toList = (zeroL, k, 6)) := by
            apply Lib.hid
            have hl : s.data.toList.length = s.size := by simp
            rw [parseE, hl, ← HM.out, fst1_some hlt hn (by rw [hbad, hdn])]
          go_wp2_with (refine wpList_store_row (by rfl) _ _ _ (by rfl) w.heap.size (Lib.byteCells zeroL).toArray (by rfl) (by rfl) _ (Lib.byteCells zeroL).toArray HBQ.out (idInfoL zeroL rfl) rfl (bytes_one _) ?_)
          refine bodyPost_ret (results_cell3 rfl _ _ _ _ _ _ _ rfl (setRow_heap _ _ _ _ _ _ HBQ.out) Try.underlying24 rfl (idInfoL zeroL rfl)) rfl ⟨?_, below_setRow hbq (Nat.le_refl _) _⟩
          rw [parseV, HE.out]
          rfl
        · have hdn : decide (digV ((s[k]'hks).toNat) < 0) = false := by simpa using hneg
          have hn' := hn.succ (k := k) (by rw [hbad, hdn])
          clear hn
          go_wp2_with fail
          go_quiet ((go_at_call 32; exact Calls.quiet_of_same (hex_index _ (by omega) (by omega) _)))
          go_wp2
          go_roundw
          case rel => exact ⟨k + 1, by omega, by go_num, hn', HBr, below_drewN hbr⟩
          case measure => simp [intOf]; omega
      · have hfb : (fm[k]'hkf).toNat = byt formL k := HFA.out k hkf
        have hbad : badAt s.data.toList k = (byt s.data.toList k != byt formL k) := by rw [badAt, if_neg hdg]
        rw [hc, ← hfb] at hbad
        have hne0 : ((s[k]'hks).toNat != (fm[k]'hkf).toNat) = (((s[k]'hks).toNat : Int) != ((fm[k]'hkf).toNat : Int)) := by
          rw [Bool.eq_iff_iff, bne_iff_ne, bne_iff_ne]; omega
        rw [hne0] at hbad
        clear hne0 hfb
        by_cases h1 : 1 ≤ k
        · have hd1 : decide ((1 : Int) ≤ (k : Int)) = true := by simp; omega
          have hd2 : decide ((k : Int) < 65) = false := by simp; omega
          cases hne : (((s[k]'hks).toNat : Int) != ((fm[k]'hkf).toNat : Int))
          · have hn' := hn.succ (k := k) (by rw [hbad, hne])
            clear hn hbad hc
            go_wp2_with fail
            go_quiet (fail)
            go_wp2
            go_roundw
            case rel => exact ⟨k + 1, by omega, by go_num, hn', HBr, below_drewN hbr⟩
            case measure => simp [intOf]; omega
          · have HE : Hid (parseE s.data.toList = (zeroL, k, 6)) := by
              apply Lib.hid
              have hl : s.data.toList.length = s.size := by simp
              rw [parseE, hl, ← HM.out, fst1_some hlt hn (by rw [hbad, hne])]
            clear hn hbad hc
            go_wp2_with fail
            go_quiet (fail)
            have HBq : (wr.drewN nq).heap[w.heap.size]? = some (.cells (Lib.byteCells zeroL).toArray 24 (0, 0)) := HBr.out
            have hbq : Below w.heap.size w (wr.drewN nq) := below_drewN hbr
            generalize wr.drewN nq = wq at *
            have HBQ := Lib.hid HBq
            clear HBq
            go_wp2_with (refine wpList_store_row (by rfl) _ _ _ (by rfl) w.heap.size (Lib.byteCells zeroL).toArray (by rfl) (by rfl) _ (Lib.byteCells zeroL).toArray HBQ.out (idInfoL zeroL rfl) rfl (bytes_one _) ?_)
            refine bodyPost_ret (results_cell3 rfl _ _ _ _ _ _ _ rfl (setRow_heap _ _ _ _ _ _ HBQ.out) Try.underlying24 rfl (idInfoL zeroL rfl)) rfl ⟨?_, below_setRow hbq (Nat.le_refl _) _⟩
            rw [parseV, HE.out]
            rfl
        · have hd1 : decide ((1 : Int) ≤ (k : Int)) = false := by simp; omega
          cases hne : (((s[k]'hks).toNat : Int) != ((fm[k]'hkf).toNat : Int))
          · have hn' := hn.succ (k := k) (by rw [hbad, hne])
            clear hn hbad hc
            go_wp2_with fail
            go_quiet (fail)
            go_wp2
            go_roundw
            case rel => exact ⟨k + 1, by omega, by go_num, hn', HBr, below_drewN hbr⟩
            case measure => simp [intOf]; omega
          · have HE : Hid (parseE s.data.toList = (zeroL, k, 6)) := by
              apply Lib.hid
              have hl : s.data.toList.length = s.size := by simp
              rw [parseE, hl, ← HM.out, fst1_some hlt hn (by rw [hbad, hne])]
            clear hn hbad hc
            go_wp2_with fail
            go_quiet (fail)
            have HBq : (wr.drewN nq).heap[w.heap.size]? = some (.cells (Lib.byteCells zeroL).toArray 24 (0, 0)) := HBr.out
            have hbq : Below w.heap.size w (wr.drewN nq) := below_drewN hbr
            generalize wr.drewN nq = wq at *
            have HBQ := Lib.hid HBq
            clear HBq
            go_wp2_with (refine wpList_store_row (by rfl) _ _ _ (by rfl) w.heap.size (Lib.byteCells zeroL).toArray (by rfl) (by rfl) _ (Lib.byteCells zeroL).toArray HBQ.out (idInfoL zeroL rfl) rfl (bytes_one _) ?_)
            refine bodyPost_ret (results_cell3 rfl _ _ _ _ _ _ _ rfl (setRow_heap _ _ _ _ _ _ HBQ.out) Try.underlying24 rfl (idInfoL zeroL rfl)) rfl ⟨?_, below_setRow hbq (Nat.le_refl _) _⟩
            rw [parseV, HE.out]
            rfl
    · have hke : k = M := by omega
      subst hke
      have hl : s.data.toList.length = s.size := by simp
      have hE0 : parseE s.data.toList = if s.size < 71 then (zeroL, s.size, 4) else if 71 < s.size then (zeroL, 71, 5) else (parseId s.data.toList, 0, 0) := by
        rw [parseE, hl, ← HM.out, fst1_none hn]
      have HBQ := HBr
      have hbq := hbr
      by_cases h71 : s.size < 71
      · have HE := Lib.hid (hE0.trans (if_pos h71))
        clear hE0 hl
        go_wp2_with (refine wpList_store_row (by rfl) _ _ _ (by rfl) w.heap.size (Lib.byteCells zeroL).toArray (by rfl) (by rfl) _ (Lib.byteCells zeroL).toArray HBQ.out (idInfoL zeroL rfl) rfl (bytes_one _) ?_)
        refine bodyPost_ret (results_cell3 rfl _ _ _ _ _ _ _ rfl (setRow_heap _ _ _ _ _ _ HBQ.out) Try.underlying24 rfl (idInfoL zeroL rfl)) rfl ⟨?_, below_setRow hbq (Nat.le_refl _) _⟩
        rw [parseV, HE.out]
        rfl
      · by_cases g71 : 71 < s.size
        · have HE := Lib.hid ((hE0.trans (if_neg h71)).trans (if_pos g71))
          clear hE0 hl
          go_wp2_with (refine wpList_store_row (by rfl) _ _ _ (by rfl) w.heap.size (Lib.byteCells zeroL).toArray (by rfl) (by rfl) _ (Lib.byteCells zeroL).toArray HBQ.out (idInfoL zeroL rfl) rfl (bytes_one _) ?_)
          refine bodyPost_ret (results_cell3 rfl _ _ _ _ _ _ _ rfl (setRow_heap _ _ _ _ _ _ HBQ.out) Try.underlying24 rfl (idInfoL zeroL rfl)) rfl ⟨?_, below_setRow hbq (Nat.le_refl _) _⟩
          rw [parseV, HE.out]
          rfl
        · have HE := Lib.hid ((hE0.trans (if_neg h71)).trans (if_neg g71))
          clear hE0 hl
          go_wp2_with fail
          have hk71 : k = 71 := by have := HM.out; omega
          have hs71 : s.size = 71 := by omega
          rw [hk71] at hn
          rw [digits_of s hs71 hn]
          refine (unhex_any (parseId s.data.toList) (by rw [parseId_length]; omega) wr).mono ?_
          rintro e w2 ⟨v, rfl, hown, b2⟩
          have hpl := parseId_length s.data.toList
          have hrow : w2.heap[w.heap.size]? = some (.cells (Lib.byteCells zeroL).toArray 24 (0, 0)) := heap_below b2 (Array.getElem?_eq_some_iff.1 HBr.out).1 HBr.out
          have hb2 : Below w.heap.size w w2 := hbr.trans (b2.mono hbr.size)
          have HROW := Lib.hid hrow
          rw [hpl] at hown
          have hcl := fun (g : Nat) (h : v.ownBlock = some g) => hown.cells h
          obtain ⟨hl2, (⟨rfl, h0⟩ | ⟨g', cap, cur, rfl, hg', hcur, hle, hml, hsz, htk⟩)⟩ := hown
          · omega
          have hsrc := Lib.hid (hcl g' rfl)
          have HID := Lib.hid (idInfoL (parseId s.data.toList) hpl)
          have HLEN : Hid ((Lib.byteCells (parseId s.data.toList)).length = 32) := Lib.hid (by rw [Lib.byteCells_length, hpl])
          clear hrow hcl hl2 hcur hsz htk hpl hn hMi b2 hbr hbq
          generalize parseId s.data.toList = pid at *
          go_wp2_with (refine wpList_copy_splice (by rfl) (.tmp 66) (.tmp 67) _ _ (by rfl) 5 Try.underlying54 byteInfo1 (some ⟨w.heap.size, 0, none⟩) (some ⟨g', 0, none⟩) 32 32 32 cap (by rfl) (by rfl) w.heap.size 0 (Lib.byteCells zeroL) 24 HROW.out (Lib.byteCells pid) (by rw [HLEN.out]; rfl) (fun _ => ⟨rfl, _, rfl, hsrc.out⟩) (by rw [HLEN.out]; exact Nat.le_refl _) (byteCells_one1 _) w.heap.size w hb2 (Nat.le_refl _) ?_)
          intro w3 h3 b3
          have h3' : Hid (w3.heap[w.heap.size]? = some (.cells (Lib.byteCells pid).toArray 24 (0, 0))) := by
            apply Lib.hid
            have e : splice (Lib.byteCells zeroL) 0 (Lib.byteCells pid) = Lib.byteCells pid := by
              unfold splice
              rw [HLEN.out]
              simp [Lib.byteCells, zeroL]
            have := h3.out
            rw [e] at this
            exact this
          clear h3 HROW hsrc
          go_wp2_with (first | (refine wpList_load_row (by rfl) 24 (.tmp 2) (by rfl) w.heap.size (by rfl) _ _ _ _ h3'.out Try.underlying24 rfl HID.out ?_) | (refine wpList_store_row (by rfl) 24 (.tmp 2) (.tmp 69) (by rfl) w.heap.size (Lib.byteCells pid).toArray (by rfl) (by rfl) _ _ h3'.out HID.out rfl (bytes_one _) ?_))
          refine bodyPost_ret (results_cell3 rfl _ _ _ _ _ _ _ rfl (setRow_heap _ _ _ _ _ _ h3'.out) Try.underlying24 rfl HID.out) rfl ⟨?_, below_setRow b3 (Nat.le_refl _) _⟩
          rw [parseV, HE.out]
          rfl
end Go.Proofs.Ytnoilnmkdahhiaa
