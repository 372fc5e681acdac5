/- Contract of the reference's Parse. -/
import Derived.Test.YteahhfmnicfmbaaRows
import Derived.Test.YteahhfmnicfmbaaBase
import Derived.Test.YteahhfmnicfmbaaPrintW
import Derived.Test.YteahhfmnicfmbaaRefDigW
import Derived.Test.YteahhfmnicfmbaaCmpW
import Derived.Test.YteahhfmnicfmbaaParseW
import Derived.Test.YteahhfmnicfmbaaRow
import Derived.WalkKit
import Derived.WalkSpells
import Derived.WalkLawsBesides
import Derived.Lib.Hide
import Derived.Deep.QuietTactic
import Derived.BigQuiet
import Derived.Outline
namespace Go.Proofs.Yteahhfmnicfmbaa
open Go.RowKit

/-- the identity as far as the places below k tell it -/
def partId (l : List UInt8) (k : Nat) : List UInt8 := (List.range 32).map fun j =>
  if 2 * j + 2 < k then (hv (byt l (2 * j + 1)) * 16 + hv (byt l (2 * j + 2))).toUInt8 else if 2 * j + 1 < k then (hv (byt l (2 * j + 1))).toUInt8 else 0
theorem partId_length (l : List UInt8) (k : Nat) : (partId l k).length = 32 := by simp [partId]
theorem partId_zero (l : List UInt8) (k : Nat) (hk : k ≤ 1) : partId l k = zeroL := by
  apply List.ext_getElem
  · simp [partId, zeroL]
  · intro j h1 h2
    simp only [partId, zeroL, List.getElem_map, List.getElem_replicate, List.getElem_range]
    rw [if_neg (by omega), if_neg (by omega)]
theorem partId_full (l : List UInt8) (k : Nat) (hk : 65 ≤ k) : partId l k = parseId l := by
  apply List.ext_getElem
  · simp [partId, parseId]
  · intro j h1 h2
    have : j < 32 := by simpa [partId] using h1
    simp [partId, parseId, show 2 * j + 2 < k from by omega]
theorem partId_at (l : List UInt8) (k j : Nat) (hj : j < 32) : (partId l k)[j]? = some (if 2 * j + 2 < k then (hv (byt l (2 * j + 1)) * 16 + hv (byt l (2 * j + 2))).toUInt8 else if 2 * j + 1 < k then (hv (byt l (2 * j + 1))).toUInt8 else 0) := by
  unfold partId
  rw [List.getElem?_map, List.getElem?_range hj]; rfl
/-- what stands at the place that the next digit changes -/
theorem byt_get (l : List UInt8) (k : Nat) : byt l k = (l[k]?.getD 0).toNat := by unfold byt; rw [List.getD_eq_getElem?_getD]
theorem partId_old (l : List UInt8) (m : Nat) (hm : m < 64) (hh : m % 2 = 1 → hv (byt l m) < 16) : byt (partId l (m + 1)) (m / 2) = if m % 2 = 0 then 0 else hv (byt l m) := by
  rw [byt_get (partId l (m + 1)), partId_at l _ _ (by omega)]
  by_cases h : m % 2 = 0
  · rw [if_neg (by omega), if_neg (by omega), if_pos h]; rfl
  · rw [if_neg (by omega), if_pos (by omega), if_neg h, show 2 * (m / 2) + 1 = m from by omega]
    have hh' := hh (by omega)
    generalize hv (byt l m) = x at *
    simp; omega
theorem partId_step (l : List UInt8) (m : Nat) :
    (partId l (m + 1)).set (m / 2) ((if m % 2 = 0 then 0 else hv (byt l m)) * 16 + hv (byt l (m + 1))).toUInt8 = partId l (m + 2) := by
  apply List.ext_getElem?
  intro j
  by_cases hj : j < 32
  · rw [partId_at l _ j hj, List.getElem?_set]
    by_cases e : m / 2 = j
    · subst e
      rw [if_pos rfl, if_pos (by rw [partId_length]; omega)]
      by_cases h : m % 2 = 0
      · rw [if_pos h, if_neg (by omega), if_pos (by omega), show 2 * (m / 2) + 1 = m + 1 from by omega]; simp
      · rw [if_neg h, if_pos (by omega), show 2 * (m / 2) + 1 = m from by omega, show 2 * (m / 2) + 2 = m + 1 from by omega]
    · rw [if_neg e, partId_at l _ j hj]
      by_cases h2 : 2 * j + 2 < m + 1
      · rw [if_pos h2, if_pos (by omega)]
      · rw [if_neg h2, if_neg (show ¬ 2 * j + 2 < m + 2 from by omega)]
        by_cases h3 : 2 * j + 1 < m + 1
        · rw [if_pos h3, if_pos (by omega)]
        · rw [if_neg h3, if_neg (by omega)]
  · rw [List.getElem?_eq_none (by simp [partId]; omega), List.getElem?_eq_none (by simp [partId]; omega)]
theorem row_set (b : List UInt8) (i n : Nat) (hn : n < 256) : (Lib.byteCells b).toArray.setIfInBounds i (.int .u8 (n : Int)) = (Lib.byteCells (b.set i n.toUInt8)).toArray := by
  apply Array.ext'
  unfold Lib.byteCells
  simp [List.map_set]
  congr 2
  omega
theorem tail_at : ∀ k, 65 ≤ k → k < 71 → byt closeL (k - 65) = byt formL k := by
  intro k h1 h2
  obtain ⟨j, rfl⟩ : ∃ j, k = 65 + j := ⟨k - 65, by omega⟩
  have : ∀ j, j < 6 → byt closeL (65 + j - 65) = byt formL (65 + j) := by decide +kernel
  exact this j (by omega)
theorem refIdInfoL (b : List UInt8) (hb : b.length = 32) : (Try.prog.info? 30).map (·.size) = some (Lib.byteCells b).toArray.size :=
  refIdInfo.trans (by simp [Lib.byteCells_length, hb])
/-- how the world lies at the head of a round: the result's block, the identity's block -/
structure RP (l : List UInt8) (k : Nat) (w wr : World) : Prop where
  res : wr.heap[w.heap.size]? = some (.cells (Lib.byteCells zeroL).toArray 30 (0, 0))
  idb : wr.heap[w.heap.size + 1]? = some (.cells (Lib.byteCells (partId l k)).toArray 30 (0, 0))
  bel : Below w.heap.size w wr
theorem RP.drewN {l : List UInt8} {k : Nat} {w wr : World} (h : RP l k w wr) (n : Nat) : RP l k w (wr.drewN n) := ⟨h.res, h.idb, below_drewN h.bel⟩
theorem RP.next {l : List UInt8} {k : Nat} {w wr : World} (h : RP l k w wr) (hk : 65 ≤ k) : RP l (k + 1) w wr := ⟨h.res, by rw [partId_full l (k + 1) (by omega), ← partId_full l k hk]; exact h.idb, h.bel⟩
theorem RP.one {l : List UInt8} {w wr : World} (h : RP l 0 w wr) : RP l 1 w wr := ⟨h.res, by rw [partId_zero l 1 (by omega), ← partId_zero l 0 (by omega)]; exact h.idb, h.bel⟩
theorem RP.put {l : List UInt8} {m n : Nat} {w wr : World} (h : RP l (m + 1) w wr) (hn : n < 256) (hs : (partId l (m + 1)).set (m / 2) n.toUInt8 = partId l (m + 2)) :
    RP l (m + 1 + 1) w (wr.setCell ⟨w.heap.size + 1, m / 2, none⟩ (.int .u8 (n : Int))) where
  res := (heap_setCell_other wr _ _ _ (by simp)).trans h.res
  idb := by rw [heap_setCell_same wr _ _ _ _ _ h.idb, row_set _ _ _ hn, hs]
  bel := h.bel.setCell (by simp) _

set_option maxHeartbeats 4000000 in
theorem refparse_any (s : ByteArray) (hs : s.size ≤ maxLen) (w : World) :
    Calls Try.prog 12 #[.string s] w fun e w' => e = .returned (parseV s.data.toList) ∧ Below w.heap.size w w' := by
  unfold maxLen at hs
  obtain ⟨M, hM⟩ : ∃ M : Nat, M = min s.size 71 := ⟨_, rfl⟩
  have hM1 : M ≤ s.size := by omega
  have hM2 : M ≤ 71 := by omega
  have HM := Lib.hid hM
  clear hM
  have HL : Hid (s.data.toList.length = s.size) := Lib.hid (by simp)
  go_enter Try.func12, Try.ntmps12
  go_wp2
  go_loopw [7] (fun i wr => ∃ k : Nat, k ≤ M ∧ i = .int .i64 k ∧ NoneBelow (badAt s.data.toList) k ∧ RP s.data.toList k w wr) (fun i _ => M - (intOf i).toNat)
  case atStart =>
    refine ⟨0, Nat.zero_le _, rfl, NoneBelow.zero _, ?_, ?_, ?_⟩
    · exact heap_alloc_old' (heap_alloc_new w _)
    · rw [partId_zero _ 0 (by omega)]
      exact heap_alloc2_new w _ _
    · exact ((Below.refl _ w).alloc (Nat.le_refl _) _).alloc (by simp) _
  case round =>
    obtain ⟨k, hk, rfl, hn, hR⟩ := hrel
    have HR := Lib.hid hR
    by_cases hlt : k < M
    · have hks : k < s.size := by omega
      have hks1 : (k : Int) < (s.size : Int) := by omega
      have hk71 : (k : Int) < 71 := by omega
      have hc : byt s.data.toList k = (s[k]'hks).toNat := byt_at s k hks
      have hc256 : (s[k]'hks).toNat < 256 := UInt8.toNat_lt _
      have HE : Hid (badAt s.data.toList k = true → parseE s.data.toList = (zeroL, k, 6)) := by
        apply Lib.hid
        intro hb
        rw [parseE, HL.out, ← HM.out, fst1_some hlt hn hb]
      have HN : Hid (badAt s.data.toList k = false → NoneBelow (badAt s.data.toList) (k + 1)) := Lib.hid (fun hb => hn.succ hb)
      have HNB := Lib.hid hn
      clear hn hR
      by_cases hk0 : k = 0
      · subst hk0
        have hbad : badAt s.data.toList 0 = ((((s[0]'hks).toNat : Int)) != 60) := by
          rw [badAt, if_neg (by omega), hc, Bool.eq_iff_iff, bne_iff_ne, bne_iff_ne]
          have : byt formL 0 = 60 := by rfl
          omega
        cases hb : ((((s[0]'hks).toNat : Int)) != 60)
        · have HN' := HN.out (hbad.trans hb)
          clear hbad hc HN HE
          go_wp2
          go_roundw
          case rel => exact ⟨1, by omega, rfl, HN', HR.out.one⟩
          case measure => simp [intOf]; omega
        · have HE' := Lib.hid (HE.out (hbad.trans hb))
          clear hbad hc HN HE
          go_wp2_with (refine wpList_store_row (by rfl) _ _ _ (by rfl) w.heap.size (Lib.byteCells zeroL).toArray (by rfl) (by rfl) _ (Lib.byteCells zeroL).toArray HR.out.res (refIdInfoL zeroL rfl) rfl (bytes_one _) ?_)
          refine bodyPost_ret (results_cell3 rfl _ _ _ _ _ _ _ rfl (setRow_heap _ _ _ _ _ _ HR.out.res) Try.underlying30 rfl (refIdInfoL zeroL rfl)) rfl ⟨?_, below_setRow HR.out.bel (Nat.le_refl _) _⟩
          rw [parseV, HE'.out]
          rfl
      · by_cases h65k : 65 ≤ k
        · obtain ⟨j, rfl⟩ : ∃ j, k = j + 65 := ⟨k - 65, by omega⟩
          have hj6 : j < ({ data := #[64, 104, 97, 115, 104, 62] } : ByteArray).size := by show _ < 6; omega
          have hta : ((({ data := #[64, 104, 97, 115, 104, 62] } : ByteArray)[j]'hj6).toNat) = byt formL (j + 65) := by
            rw [← tail_at (j + 65) (by omega) (by omega), Nat.add_sub_cancel]
            exact (byt_at ⟨closeL.toArray⟩ j hj6).symm
          have hbad : badAt s.data.toList (j + 65) = (((s[j + 65]'hks).toNat : Int) != ((({ data := #[64, 104, 97, 115, 104, 62] } : ByteArray)[j]'hj6).toNat : Int)) := by
            rw [badAt, if_neg (by omega), hc, hta, Bool.eq_iff_iff, bne_iff_ne, bne_iff_ne]; omega
          clear hta
          have hkz2 : ((j : Int) + 65 == 0) = false := by simp; omega
          have hk64 : ¬ ((j : Int) + 65 ≤ 64) := by omega
          have hi0 : (0 : Int) ≤ (j : Int) + 65 := by omega
          have hi1 : (j : Int) + 65 < (s.size : Int) := by omega
          have hi2 : (0 : Int) ≤ (j : Int) := by omega
          have hi3 : (j : Int) < 6 := by omega
          cases hb : (((s[j + 65]'hks).toNat : Int) != ((({ data := #[64, 104, 97, 115, 104, 62] } : ByteArray)[j]'hj6).toNat : Int))
          · have HN' := HN.out (hbad.trans hb)
            clear hbad hc HN HE HNB
            go_wp2_with fail
            go_quiet (fail)
            go_wp2
            go_roundw
            case rel => exact ⟨j + 65 + 1, by omega, by go_num, HN', (HR.out.next (by omega)).drewN _⟩
            case measure => simp [intOf]; omega
          · have HE' := Lib.hid (HE.out (hbad.trans hb))
            clear hbad hc HN HE HNB
            go_wp2_with fail
            go_quiet (fail)
            have HRq := Lib.hid (HR.out.drewN nq)
            generalize wr.drewN nq = wq at *
            go_wp2_with (refine wpList_store_row (by rfl) _ _ _ (by rfl) w.heap.size (Lib.byteCells zeroL).toArray (by rfl) (by rfl) _ (Lib.byteCells zeroL).toArray HRq.out.res (refIdInfoL zeroL rfl) rfl (bytes_one _) ?_)
            refine bodyPost_ret (results_cell3 rfl _ _ _ _ _ _ _ rfl (setRow_heap _ _ _ _ _ _ HRq.out.res) Try.underlying30 rfl (refIdInfoL zeroL rfl)) rfl ⟨?_, below_setRow HRq.out.bel (Nat.le_refl _) _⟩
            rw [parseV, HE'.out]
            rfl
        obtain ⟨m, rfl⟩ : ∃ m, k = m + 1 := ⟨k - 1, by omega⟩
        have hkz : (((m + 1 : Nat) : Int) == 0) = false := by simp; omega
        have hkz2 : ((m : Int) + 1 == 0) = false := by simp; omega
        by_cases h64 : m + 1 ≤ 64
        · have h64i : (m : Int) + 1 ≤ 64 := by omega
          have hbad : badAt s.data.toList (m + 1) = decide (digV ((s[m + 1]'hks).toNat) < 0) := by rw [badAt, if_pos (by omega), hc]
          by_cases hneg : digV ((s[m + 1]'hks).toNat) < 0
          · have HE' := Lib.hid (HE.out (by rw [hbad]; simpa using hneg))
            clear hbad hc HN HE
            have HD := Lib.hid (refdigit_any _ hc256)
            go_wp2_with (first | (go_at_call 22; refine (refdigit_any _ hc256 _).mono ?_; rintro e w' ⟨rfl, rfl⟩) | (refine wpList_store_row (by rfl) _ _ _ (by rfl) w.heap.size (Lib.byteCells zeroL).toArray (by rfl) (by rfl) _ (Lib.byteCells zeroL).toArray HR.out.res (refIdInfoL zeroL rfl) rfl (bytes_one _) ?_))
            refine bodyPost_ret (results_cell3 rfl _ _ _ _ _ _ _ rfl (setRow_heap _ _ _ _ _ _ HR.out.res) Try.underlying30 rfl (refIdInfoL zeroL rfl)) rfl ⟨?_, below_setRow HR.out.bel (Nat.le_refl _) _⟩
            rw [parseV, HE'.out]
            rfl
          · have HN' := HN.out (by rw [hbad]; simpa using hneg)
            have hdv := hexD_hv ((s[m + 1]'hks).toNat) hc256 hneg
            have hd0 : 0 ≤ digV ((s[m + 1]'hks).toNat) := by omega
            have hd1 : digV ((s[m + 1]'hks).toNat) ≤ 15 := by have := hdv.1; unfold hv at this; omega
            have hold : m % 2 = 1 → hv (byt s.data.toList m) < 16 := fun h => by
              have hb := HNB.out m (by omega)
              rw [badAt, if_pos (by omega)] at hb
              exact (hexD_hv _ (byt_lt _ _) (by simpa using hb)).1
            have ho16 : (if m % 2 = 0 then 0 else hv (byt s.data.toList m)) < 16 := by
              by_cases h : m % 2 = 0
              · rw [if_pos h]; omega
              · rw [if_neg h]; exact hold (by omega)
            have hcell : wr.cell? ⟨w.heap.size + 1, m / 2, none⟩ = some (.int .u8 ((if m % 2 = 0 then 0 else hv (byt s.data.toList m) : Nat) : Int)) := by
              rw [← partId_old s.data.toList m (by omega) hold, cell_of_row _ _ _ _ _ _ HR.out.idb]
              simpa using byteCells_get (partId s.data.toList (m + 1)) (m / 2) (by rw [partId_length]; omega)
            have hfz : wr.frozen? ⟨w.heap.size + 1, m / 2, none⟩ = false := frozen_of_row _ _ _ _ _ HR.out.idb
            have hst := partId_step s.data.toList m
            rw [hc] at hst
            have hvd : ((hv ((s[m + 1]'hks).toNat) : Nat) : Int) = digV ((s[m + 1]'hks).toNat) := by unfold hv; omega
            have HST := Lib.hid hst
            have HVD := Lib.hid hvd
            clear hst hvd hbad hc HN HE hold hdv
            generalize (if m % 2 = 0 then 0 else hv (byt s.data.toList m)) = old at *
            have hm1 : (m : Int) / 2 < 32 := by omega
            have hm0 : 0 ≤ (m : Int) / 2 := by omega
            go_wp2_with (go_at_call 22; refine (refdigit_any _ hc256 _).mono ?_; rintro e w' ⟨rfl, rfl⟩)
            go_roundw
            case rel =>
              have hput := HR.out.put (n := old * 16 + hv ((s[m + 1]'hks).toNat)) (by have := HVD.out; omega) HST.out
              have hval : (((old * 16 + hv ((s[m + 1]'hks).toNat) : Nat)) : Int) = (old : Int) * 16 + digV ((s[m + 1]'hks).toNat) := by rw [← HVD.out]; omega
              rw [hval] at hput
              exact ⟨m + 1 + 1, by omega, by go_num, HN', hput⟩
            case measure => simp [intOf]; omega
        · omega
    · have hke : k = M := by omega
      subst hke
      have hE0 : parseE s.data.toList = if s.size < 71 then (zeroL, s.size, 4) else if 71 < s.size then (zeroL, 71, 5) else (parseId s.data.toList, 0, 0) := by
        rw [parseE, HL.out, ← HM.out, fst1_none hn]
      clear hR hn
      by_cases h71 : s.size < 71
      · have HE := Lib.hid (hE0.trans (if_pos h71))
        have hkk : ¬ ((k : Int) < (s.size : Int)) := by have := HM.out; omega
        clear hE0
        go_wp2_with (refine wpList_store_row (by rfl) _ _ _ (by rfl) w.heap.size (Lib.byteCells zeroL).toArray (by rfl) (by rfl) _ (Lib.byteCells zeroL).toArray HR.out.res (refIdInfoL zeroL rfl) rfl (bytes_one _) ?_)
        refine bodyPost_ret (results_cell3 rfl _ _ _ _ _ _ _ rfl (setRow_heap _ _ _ _ _ _ HR.out.res) Try.underlying30 rfl (refIdInfoL zeroL rfl)) rfl ⟨?_, below_setRow HR.out.bel (Nat.le_refl _) _⟩
        rw [parseV, HE.out]
        rfl
      · have hk71 : ¬ ((k : Int) < 71) := by have := HM.out; omega
        by_cases g71 : 71 < s.size
        · have HE := Lib.hid ((hE0.trans (if_neg h71)).trans (if_pos g71))
          clear hE0
          have hkk : (k : Int) < (s.size : Int) := by have := HM.out; omega
          go_wp2_with (refine wpList_store_row (by rfl) _ _ _ (by rfl) w.heap.size (Lib.byteCells zeroL).toArray (by rfl) (by rfl) _ (Lib.byteCells zeroL).toArray HR.out.res (refIdInfoL zeroL rfl) rfl (bytes_one _) ?_)
          refine bodyPost_ret (results_cell3 rfl _ _ _ _ _ _ _ rfl (setRow_heap _ _ _ _ _ _ HR.out.res) Try.underlying30 rfl (refIdInfoL zeroL rfl)) rfl ⟨?_, below_setRow HR.out.bel (Nat.le_refl _) _⟩
          rw [parseV, HE.out]
          rfl
        · have HE := Lib.hid ((hE0.trans (if_neg h71)).trans (if_neg g71))
          clear hE0
          have hkk : ¬ ((k : Int) < (s.size : Int)) := by have := HM.out; omega
          have hk65 : 65 ≤ k := by omega
          have hidb : wr.heap[w.heap.size + 1]? = some (.cells (Lib.byteCells (parseId s.data.toList)).toArray 30 (0, 0)) := by
            rw [← partId_full s.data.toList k hk65]; exact HR.out.idb
          have HIDB := Lib.hid hidb
          have HID := Lib.hid (refIdInfoL (parseId s.data.toList) (parseId_length _))
          have HZ : Hid ((Lib.byteCells zeroL).toArray.size = (Lib.byteCells (parseId s.data.toList)).toArray.size) := Lib.hid (by simp [Lib.byteCells_length, parseId_length, zeroL])
          clear hidb
          generalize parseId s.data.toList = pid at *
          go_wp2_with (first | (refine wpList_load_row (by rfl) 30 (.tmp 5) (by rfl) (w.heap.size + 1) (by rfl) _ _ _ _ HIDB.out Try.underlying30 rfl HID.out ?_) | (refine wpList_store_row (by rfl) 30 (.tmp 2) (.tmp 70) (by rfl) w.heap.size (Lib.byteCells pid).toArray (by rfl) (by rfl) _ (Lib.byteCells zeroL).toArray HR.out.res HID.out HZ.out (bytes_one _) ?_))
          refine bodyPost_ret (results_cell3 rfl _ _ _ _ _ _ _ rfl (setRow_heap _ _ _ _ _ _ HR.out.res) Try.underlying30 rfl HID.out) rfl ⟨?_, below_setRow HR.out.bel (Nat.le_refl _) _⟩
          rw [parseV, HE.out]
          rfl
end Go.Proofs.Yteahhfmnicfmbaa
