/- The walk of the law HistoryClones. -/
import Derived.Test.YtblidphaolgilaaHiEn
namespace Go.Proofs.Ytblidphaolgilaa
open Go.RowKit Go.Maps Go.Sort
set_option linter.unusedSimpArgs false
set_option linter.unusedVariables false
set_option maxRecDepth 100000 in
set_option maxHeartbeats 8000000 in
theorem clones_walk (v va : Value) (ops mops : List OpE) (w : World) (hv : RowsArg encO 37 v ops w) (hva : RowsArg encO 37 va mops w) :
    Calls Try.prog 8 #[v, va] w fun e w' => e = .returned (.bool true) ∧ Below w.heap.size w w' := by
  have HV := Lib.hid hv
  have HVA := Lib.hid hva
  obtain ⟨a1, c1, rfl, hlca, hcma, _, hma⟩ := hva
  unfold maxLen at hcma
  have HMA := Lib.hid hma
  clear hv hma
  go_enter Try.func8, Try.ntmps8
  go_wp2_with fail
  refine (known_any _).mono ?_
  rintro e w2 ⟨rfl, b2⟩
  have HV2 := Lib.hid (HV.out.below b2)
  have HW2 := Lib.hid (HVA.out.below b2)
  go_wp2_with fail
  refine (play_any ops v w2 HV2.out).mono ?_
  rintro e w3 ⟨hb, mb, vr, rows, cut, rfl, hH, hR, hlen, hhb, hmb, b3⟩
  have HW3 := Lib.hid (HW2.out.below b3)
  have HH := Lib.hid hH
  have HRW := Lib.hid hR
  have B3 := b2.trans (b3.mono b2.size)
  clear hH hR HV HVA HV2 HW2 b2 b3
  go_wp2_with fail
  refine (play_any mops (.slice a1 mops.length c1) w3 HW3.out).mono ?_
  rintro e w4 ⟨kb, nb, vs, oth, cu2, rfl, hK, hS, hlen2, hkb, hnb, b4⟩
  have HH4 := Lib.hid (HH.out.kept b4)
  have HRW4 := Lib.hid (HRW.out.below b4)
  have HK4 := Lib.hid hK
  obtain ⟨ao2, c2, rfl, _, _, _, hs4⟩ := hS
  have HS4 := Lib.hid hs4
  have B4 := B3.trans (b4.mono B3.size)
  clear hK hs4 HW3 HH HRW b4 B3
  go_wp2_with fail
  refine (equal_any hb mb kb nb rows oth cut cu2 (by omega) (by omega) _ HH4.out HK4.out).mono ?_
  rintro e w50 ⟨rfl, b5⟩
  have HH50 := Lib.hid (HH4.out.kept b5)
  have HRW50 := Lib.hid (HRW4.out.below b5)
  have HS50 := Lib.hid ((HS4.out.below b5 (Nat.le_refl _)).mono b5.size)
  have B50 := B4.trans (b5.mono B4.size)
  clear HH4 HRW4 HK4 HS4 b5 B4
  by_cases hcc : cut = cu2
  · subst hcc
    obtain ⟨ao, c, rfl, _, _, _, hra⟩ := HRW50.out
    have HRA0 := Lib.hid hra
    have e1 : (decide (cut = cut) && decide (rows = oth)) = decide (rows = oth) := by simp
    rw [e1]
    clear hra e1
    generalize hD : decide (rows = oth) = D
    have HD := Lib.hid hD
    clear hD
    go_wp2_with fail
    refine (same_any rows oth (by omega) (by omega) _ _ _ _ w50 HRA0.out HS50.out).mono ?_
    rintro e w5 ⟨rfl, b5⟩
    rw [HD.out]
    have HH5 := Lib.hid (HH50.out.kept b5)
    have HRA := Lib.hid ((HRA0.out.below b5 (Nat.le_refl _)).mono b5.size)
    have B5 := B50.trans (b5.mono B50.size)
    have b6sz := B5.size
    clear HH50 HRW50 HS50 HRA0 b5 B50 HD
    cases D with
    | true =>
      -- behind Equal of the two: the copy
      have hlt5 := HH5.out.lt
      have hmt5 := HH5.out.map.lt
      go_wp2_with fail
      refine (clone_any hb mb rows cut _ HH5.out).mono ?_
      rintro e w6 ⟨hb2, mb2, rfl, hC6, hh6, hm6, b6⟩
      have HC6 := Lib.hid hC6
      have HH6 := Lib.hid (HH5.out.kept b6)
      have HRA6 : Hid (EntsAt w5.heap.size ao rows w6) := Lib.hid (HRA.out.below b6 (Nat.le_refl _))
      have s6 := b6.size
      have B6 := B5.trans (b6.mono B5.size)
      clear hC6 HH5 HRA b6 B5
      go_wp2_with fail
      refine (equal_any hb2 mb2 hb mb rows rows cut cut (by omega) (by omega) _ HC6.out HH6.out).mono ?_
      rintro e w7 ⟨rfl, b7⟩
      have HC7 := Lib.hid (HC6.out.kept b7)
      have HH7 := Lib.hid (HH6.out.kept b7)
      have HRA7 : Hid (EntsAt w5.heap.size ao rows w7) := Lib.hid (HRA6.out.below b7 s6)
      have s7 := b7.size
      have B7 := B6.trans (b7.mono B6.size)
      have hh7 : HistAt w7 hb mb rows cut := HH7.out
      have hlt7 := hh7.lt
      have hmt7 := hh7.map.lt
      have HM7 : Hid (RowsAt encO 37 w.heap.size a1 mops w7) := Lib.hid (HMA.out.below B7 (Nat.le_refl _))
      have hne : hb ≠ hb2 ∧ hb ≠ mb2 ∧ mb ≠ hb2 ∧ mb ≠ mb2 := ⟨by omega, by omega, by omega, by omega⟩
      have e1 : (decide (cut = cut) && decide (rows = rows)) = true := by simp
      rw [e1]
      clear HC6 HH6 HRA6 b7 hh7 e1
      go_wp2_with fail
      go_loopw [14] (fun iv wr => ∃ (i : Nat) (rs : List Ent) (cu : Int), i ≤ mops.length ∧ i ≤ 40 ∧ iv = .int .i64 (i : Int) ∧ Hid (HistAt wr hb2 mb2 rs cu) ∧ rs.length ≤ 40 + i ∧ Hid (But (Two hb2 mb2) w7 wr))
        (fun iv _ => (mops.length - intOf iv).toNat)
      case atStart => exact ⟨0, rows, cut, Nat.zero_le _, by omega, rfl, HC7, by omega, Lib.hid (But.refl _ _)⟩
      case round =>
        obtain ⟨i, rs, cu, hil, hi40, rfl, HHr, hrs, HBr⟩ := hrel
        by_cases hlt : i < mops.length ∧ i < 40
        · obtain ⟨hlt, hlt40⟩ := hlt
          have hlti : (i : Int) < (mops.length : Int) := by omega
          have hlti4 : (i : Int) < 40 := by omega
          have hi0 : (0 : Int) ≤ (i : Int) := by omega
          obtain ⟨g, o, rfl, hg, hrx⟩ := HM7.out.at hlt
          have hg7 : g < w7.heap.size := Nat.lt_of_lt_of_le hg B7.size
          have hgt : ¬ Two hb2 mb2 g := fun h => by have := B6.size; have := b6sz; rcases h with h | h <;> omega
          have hrw := HBr.out.range hg7 hgt hrx
          have HRX := Lib.hid (rangeO_x hrw)
          have HSJ := Lib.hid (idSize22 mops[i].x.id)
          have HSX := Lib.hid (rxLen mops[i].x)
          clear hrx hrw
          generalize mops[i].x = y at *
          have hgw : g < wr.heap.size := Nat.lt_of_lt_of_le hg7 HBr.out.size
          go_wp2_with (refine wpList_load_mid (by rfl) 24 (.tmp 75) (by rfl) g (o + i * 37 + 1) (by rfl) (encE y) _ HRX.out Try.underlying24 rfl HSX.out ?_)
          refine (to_any y _).mono ?_
          rintro e w8 ⟨rfl, b8⟩
          have HH8 := Lib.hid (HHr.out.kept b8)
          have s8 := b8.size
          have HX8 : Hid (w8.rangeAt g (o + i * 37 + 1) (encE y)) := Lib.hid (rangeAt_below HRX.out b8 hgw)
          have k8 := HBr.out.trans (But.of_below b8)
          clear HHr HRX b8
          go_wp2_with fail
          refine (add_any y hb2 mb2 rs cu (by omega) _ HH8.out).mono ?_
          rintro e w9 ⟨rfl, h9, b9⟩
          have HH9 := Lib.hid h9
          have l9 := addE_len rs y
          have HX9 := Lib.hid (rangeE_id (b9.range (Nat.lt_of_lt_of_le hgw s8) hgt HX8.out))
          have HXX9 := Lib.hid (b9.range (Nat.lt_of_lt_of_le hgw s8) hgt HX8.out)
          have s9 := b9.size
          have k9 := k8.trans b9
          clear h9 HX8 HH8 b9 k8
          generalize (addE rs y).1 = rs2 at *
          generalize (addE rs y).2 = ec at *
          go_wp2_with (refine wpList_load_mid (by rfl) 22 (.tmp 84) (by rfl) g (o + i * 37 + 1) (by rfl) (encI y.id) _ HX9.out Try.underlying22 rfl HSJ.out ?_)
          refine (setGone_any y.id hb2 mb2 rs2 cu (by omega) _ HH9.out).mono ?_
          rintro e w10 ⟨rfl, h10, b10⟩
          have HH10 := Lib.hid h10
          have l10 := goneE_len rs2 y.id
          have hx10 := b10.range (Nat.lt_of_lt_of_le hgw (Nat.le_trans s8 s9)) hgt HXX9.out
          have c32 : w10.cell? ⟨g, o + i * 37 + 1 + 32, none⟩ = some (.int .i64 y.arr.1) := hx10 32 _ (encE_32 y)
          have k10 := k9.trans b10
          clear h10 HX9 HXX9 HH9 b10 k9 hx10
          generalize (goneE rs2 y.id).1 = rs3 at *
          generalize (goneE rs2 y.id).2 = ec2 at *
          go_wp2_with fail
          refine (forget_any y.arr.1 hb2 mb2 rs3 cu (by omega) _ HH10.out).mono ?_
          rintro e w11 ⟨v11, rfl, _, h11, b11⟩
          have HH11 := Lib.hid h11
          have l11 := forgR_len rs3 y.arr.1
          have K11 := Lib.hid (k10.trans b11)
          clear h11 HH10 b11 k10 c32
          generalize forgR rs3 y.arr.1 = rs4 at *
          generalize forgC rs3 cu y.arr.1 = cu4 at *
          go_wp2
          go_roundw
          case rel => exact ⟨i + 1, rs4, cu4, by omega, by omega, by go_num, HH11, by omega, K11⟩
          case measure => simp [intOf]; omega
        · have hBr : Below w.heap.size w wr := B7.trans (HBr.out.below B7.size (fun k h => by have := b6sz; rcases h with h | h <;> omega))
          have hHr : HistAt wr hb mb rows cut := HH7.out.but HBr.out (by rintro (e | e) <;> omega) (by rintro (e | e) <;> omega)
          have HHR := Lib.hid hHr
          have HRr : Hid (EntsAt w5.heap.size ao rows wr) := Lib.hid (HRA7.out.below (HBr.out.below (Nat.le_trans s6 s7) (fun k h => by rcases h with h | h <;> omega)) (Nat.le_refl _))
          have s5r : w5.heap.size ≤ wr.heap.size := Nat.le_trans (Nat.le_trans s6 s7) HBr.out.size
          clear hHr HHr HBr HM7 HC7 HH7 HRA7
          by_cases hlt1 : i < mops.length
          · have hlti : (i : Int) < (mops.length : Int) := by omega
            have hlti4 : ¬ (i : Int) < 40 := by omega
            go_wp2_with fail
            refine (entries_any hb mb rows cut (by omega) wr HHR.out).mono ?_
            rintro e w12 ⟨v12, rfl, hr12, b12⟩
            obtain ⟨_, a12, c12, rfl, _, _, _, hra12⟩ := rows_of_owns encE_len (by decide) hr12
            have HRA12 := Lib.hid hra12
            have HR12 : Hid (EntsAt w12.heap.size ao rows w12) := Lib.hid ((HRr.out.below b12 s5r).mono (Nat.le_trans s5r b12.size))
            have HH12 := Lib.hid (HHR.out.kept b12)
            have B12 := hBr.trans (b12.mono hBr.size)
            clear hr12 hra12 HRr HHR b12
            go_wp2_with fail
            refine (same_any rows rows (by omega) (by omega) _ _ _ _ w12 HRA12.out HR12.out).mono ?_
            rintro e w13 ⟨rfl, b13⟩
            have HH13 := Lib.hid (HH12.out.kept b13)
            have B13 := B12.trans (b13.mono B12.size)
            have e1 : decide (rows = rows) = true := by simp
            rw [e1]
            clear b13 HH12 HRA12 HR12 e1
            go_wp2_with fail
            refine (cutoff_any hb mb rows cut _ HH13.out).mono ?_
            rintro e w14 ⟨rfl, rfl⟩
            go_wp2_with fail
            refine (equalNil_any hb _).mono ?_
            rintro e w15 ⟨rfl, rfl⟩
            go_wp2
            go_ret
            exact ⟨rfl, B13⟩
          · have hlti : ¬ (i : Int) < (mops.length : Int) := by omega
            go_wp2_with fail
            refine (entries_any hb mb rows cut (by omega) wr HHR.out).mono ?_
            rintro e w12 ⟨v12, rfl, hr12, b12⟩
            obtain ⟨_, a12, c12, rfl, _, _, _, hra12⟩ := rows_of_owns encE_len (by decide) hr12
            have HRA12 := Lib.hid hra12
            have HR12 : Hid (EntsAt w12.heap.size ao rows w12) := Lib.hid ((HRr.out.below b12 s5r).mono (Nat.le_trans s5r b12.size))
            have HH12 := Lib.hid (HHR.out.kept b12)
            have B12 := hBr.trans (b12.mono hBr.size)
            clear hr12 hra12 HRr HHR b12
            go_wp2_with fail
            refine (same_any rows rows (by omega) (by omega) _ _ _ _ w12 HRA12.out HR12.out).mono ?_
            rintro e w13 ⟨rfl, b13⟩
            have HH13 := Lib.hid (HH12.out.kept b13)
            have B13 := B12.trans (b13.mono B12.size)
            have e1 : decide (rows = rows) = true := by simp
            rw [e1]
            clear b13 HH12 HRA12 HR12 e1
            go_wp2_with fail
            refine (cutoff_any hb mb rows cut _ HH13.out).mono ?_
            rintro e w14 ⟨rfl, rfl⟩
            go_wp2_with fail
            refine (equalNil_any hb _).mono ?_
            rintro e w15 ⟨rfl, rfl⟩
            go_wp2
            go_ret
            exact ⟨rfl, B13⟩
    | false =>
      -- behind Equal of the two: the copy
      have hlt5 := HH5.out.lt
      have hmt5 := HH5.out.map.lt
      go_wp2_with fail
      refine (clone_any hb mb rows cut _ HH5.out).mono ?_
      rintro e w6 ⟨hb2, mb2, rfl, hC6, hh6, hm6, b6⟩
      have HC6 := Lib.hid hC6
      have HH6 := Lib.hid (HH5.out.kept b6)
      have HRA6 : Hid (EntsAt w5.heap.size ao rows w6) := Lib.hid (HRA.out.below b6 (Nat.le_refl _))
      have s6 := b6.size
      have B6 := B5.trans (b6.mono B5.size)
      clear hC6 HH5 HRA b6 B5
      go_wp2_with fail
      refine (equal_any hb2 mb2 hb mb rows rows cut cut (by omega) (by omega) _ HC6.out HH6.out).mono ?_
      rintro e w7 ⟨rfl, b7⟩
      have HC7 := Lib.hid (HC6.out.kept b7)
      have HH7 := Lib.hid (HH6.out.kept b7)
      have HRA7 : Hid (EntsAt w5.heap.size ao rows w7) := Lib.hid (HRA6.out.below b7 s6)
      have s7 := b7.size
      have B7 := B6.trans (b7.mono B6.size)
      have hh7 : HistAt w7 hb mb rows cut := HH7.out
      have hlt7 := hh7.lt
      have hmt7 := hh7.map.lt
      have HM7 : Hid (RowsAt encO 37 w.heap.size a1 mops w7) := Lib.hid (HMA.out.below B7 (Nat.le_refl _))
      have hne : hb ≠ hb2 ∧ hb ≠ mb2 ∧ mb ≠ hb2 ∧ mb ≠ mb2 := ⟨by omega, by omega, by omega, by omega⟩
      have e1 : (decide (cut = cut) && decide (rows = rows)) = true := by simp
      rw [e1]
      clear HC6 HH6 HRA6 b7 hh7 e1
      go_wp2_with fail
      go_loopw [14] (fun iv wr => ∃ (i : Nat) (rs : List Ent) (cu : Int), i ≤ mops.length ∧ i ≤ 40 ∧ iv = .int .i64 (i : Int) ∧ Hid (HistAt wr hb2 mb2 rs cu) ∧ rs.length ≤ 40 + i ∧ Hid (But (Two hb2 mb2) w7 wr))
        (fun iv _ => (mops.length - intOf iv).toNat)
      case atStart => exact ⟨0, rows, cut, Nat.zero_le _, by omega, rfl, HC7, by omega, Lib.hid (But.refl _ _)⟩
      case round =>
        obtain ⟨i, rs, cu, hil, hi40, rfl, HHr, hrs, HBr⟩ := hrel
        by_cases hlt : i < mops.length ∧ i < 40
        · obtain ⟨hlt, hlt40⟩ := hlt
          have hlti : (i : Int) < (mops.length : Int) := by omega
          have hlti4 : (i : Int) < 40 := by omega
          have hi0 : (0 : Int) ≤ (i : Int) := by omega
          obtain ⟨g, o, rfl, hg, hrx⟩ := HM7.out.at hlt
          have hg7 : g < w7.heap.size := Nat.lt_of_lt_of_le hg B7.size
          have hgt : ¬ Two hb2 mb2 g := fun h => by have := B6.size; have := b6sz; rcases h with h | h <;> omega
          have hrw := HBr.out.range hg7 hgt hrx
          have HRX := Lib.hid (rangeO_x hrw)
          have HSJ := Lib.hid (idSize22 mops[i].x.id)
          have HSX := Lib.hid (rxLen mops[i].x)
          clear hrx hrw
          generalize mops[i].x = y at *
          have hgw : g < wr.heap.size := Nat.lt_of_lt_of_le hg7 HBr.out.size
          go_wp2_with (refine wpList_load_mid (by rfl) 24 (.tmp 75) (by rfl) g (o + i * 37 + 1) (by rfl) (encE y) _ HRX.out Try.underlying24 rfl HSX.out ?_)
          refine (to_any y _).mono ?_
          rintro e w8 ⟨rfl, b8⟩
          have HH8 := Lib.hid (HHr.out.kept b8)
          have s8 := b8.size
          have HX8 : Hid (w8.rangeAt g (o + i * 37 + 1) (encE y)) := Lib.hid (rangeAt_below HRX.out b8 hgw)
          have k8 := HBr.out.trans (But.of_below b8)
          clear HHr HRX b8
          go_wp2_with fail
          refine (add_any y hb2 mb2 rs cu (by omega) _ HH8.out).mono ?_
          rintro e w9 ⟨rfl, h9, b9⟩
          have HH9 := Lib.hid h9
          have l9 := addE_len rs y
          have HX9 := Lib.hid (rangeE_id (b9.range (Nat.lt_of_lt_of_le hgw s8) hgt HX8.out))
          have HXX9 := Lib.hid (b9.range (Nat.lt_of_lt_of_le hgw s8) hgt HX8.out)
          have s9 := b9.size
          have k9 := k8.trans b9
          clear h9 HX8 HH8 b9 k8
          generalize (addE rs y).1 = rs2 at *
          generalize (addE rs y).2 = ec at *
          go_wp2_with (refine wpList_load_mid (by rfl) 22 (.tmp 84) (by rfl) g (o + i * 37 + 1) (by rfl) (encI y.id) _ HX9.out Try.underlying22 rfl HSJ.out ?_)
          refine (setGone_any y.id hb2 mb2 rs2 cu (by omega) _ HH9.out).mono ?_
          rintro e w10 ⟨rfl, h10, b10⟩
          have HH10 := Lib.hid h10
          have l10 := goneE_len rs2 y.id
          have hx10 := b10.range (Nat.lt_of_lt_of_le hgw (Nat.le_trans s8 s9)) hgt HXX9.out
          have c32 : w10.cell? ⟨g, o + i * 37 + 1 + 32, none⟩ = some (.int .i64 y.arr.1) := hx10 32 _ (encE_32 y)
          have k10 := k9.trans b10
          clear h10 HX9 HXX9 HH9 b10 k9 hx10
          generalize (goneE rs2 y.id).1 = rs3 at *
          generalize (goneE rs2 y.id).2 = ec2 at *
          go_wp2_with fail
          refine (forget_any y.arr.1 hb2 mb2 rs3 cu (by omega) _ HH10.out).mono ?_
          rintro e w11 ⟨v11, rfl, _, h11, b11⟩
          have HH11 := Lib.hid h11
          have l11 := forgR_len rs3 y.arr.1
          have K11 := Lib.hid (k10.trans b11)
          clear h11 HH10 b11 k10 c32
          generalize forgR rs3 y.arr.1 = rs4 at *
          generalize forgC rs3 cu y.arr.1 = cu4 at *
          go_wp2
          go_roundw
          case rel => exact ⟨i + 1, rs4, cu4, by omega, by omega, by go_num, HH11, by omega, K11⟩
          case measure => simp [intOf]; omega
        · have hBr : Below w.heap.size w wr := B7.trans (HBr.out.below B7.size (fun k h => by have := b6sz; rcases h with h | h <;> omega))
          have hHr : HistAt wr hb mb rows cut := HH7.out.but HBr.out (by rintro (e | e) <;> omega) (by rintro (e | e) <;> omega)
          have HHR := Lib.hid hHr
          have HRr : Hid (EntsAt w5.heap.size ao rows wr) := Lib.hid (HRA7.out.below (HBr.out.below (Nat.le_trans s6 s7) (fun k h => by rcases h with h | h <;> omega)) (Nat.le_refl _))
          have s5r : w5.heap.size ≤ wr.heap.size := Nat.le_trans (Nat.le_trans s6 s7) HBr.out.size
          clear hHr HHr HBr HM7 HC7 HH7 HRA7
          by_cases hlt1 : i < mops.length
          · have hlti : (i : Int) < (mops.length : Int) := by omega
            have hlti4 : ¬ (i : Int) < 40 := by omega
            go_wp2_with fail
            refine (entries_any hb mb rows cut (by omega) wr HHR.out).mono ?_
            rintro e w12 ⟨v12, rfl, hr12, b12⟩
            obtain ⟨_, a12, c12, rfl, _, _, _, hra12⟩ := rows_of_owns encE_len (by decide) hr12
            have HRA12 := Lib.hid hra12
            have HR12 : Hid (EntsAt w12.heap.size ao rows w12) := Lib.hid ((HRr.out.below b12 s5r).mono (Nat.le_trans s5r b12.size))
            have HH12 := Lib.hid (HHR.out.kept b12)
            have B12 := hBr.trans (b12.mono hBr.size)
            clear hr12 hra12 HRr HHR b12
            go_wp2_with fail
            refine (same_any rows rows (by omega) (by omega) _ _ _ _ w12 HRA12.out HR12.out).mono ?_
            rintro e w13 ⟨rfl, b13⟩
            have HH13 := Lib.hid (HH12.out.kept b13)
            have B13 := B12.trans (b13.mono B12.size)
            have e1 : decide (rows = rows) = true := by simp
            rw [e1]
            clear b13 HH12 HRA12 HR12 e1
            go_wp2_with fail
            refine (cutoff_any hb mb rows cut _ HH13.out).mono ?_
            rintro e w14 ⟨rfl, rfl⟩
            go_wp2_with fail
            refine (equalNil_any hb _).mono ?_
            rintro e w15 ⟨rfl, rfl⟩
            go_wp2
            go_ret
            exact ⟨rfl, B13⟩
          · have hlti : ¬ (i : Int) < (mops.length : Int) := by omega
            go_wp2_with fail
            refine (entries_any hb mb rows cut (by omega) wr HHR.out).mono ?_
            rintro e w12 ⟨v12, rfl, hr12, b12⟩
            obtain ⟨_, a12, c12, rfl, _, _, _, hra12⟩ := rows_of_owns encE_len (by decide) hr12
            have HRA12 := Lib.hid hra12
            have HR12 : Hid (EntsAt w12.heap.size ao rows w12) := Lib.hid ((HRr.out.below b12 s5r).mono (Nat.le_trans s5r b12.size))
            have HH12 := Lib.hid (HHR.out.kept b12)
            have B12 := hBr.trans (b12.mono hBr.size)
            clear hr12 hra12 HRr HHR b12
            go_wp2_with fail
            refine (same_any rows rows (by omega) (by omega) _ _ _ _ w12 HRA12.out HR12.out).mono ?_
            rintro e w13 ⟨rfl, b13⟩
            have HH13 := Lib.hid (HH12.out.kept b13)
            have B13 := B12.trans (b13.mono B12.size)
            have e1 : decide (rows = rows) = true := by simp
            rw [e1]
            clear b13 HH12 HRA12 HR12 e1
            go_wp2_with fail
            refine (cutoff_any hb mb rows cut _ HH13.out).mono ?_
            rintro e w14 ⟨rfl, rfl⟩
            go_wp2_with fail
            refine (equalNil_any hb _).mono ?_
            rintro e w15 ⟨rfl, rfl⟩
            go_wp2
            go_ret
            exact ⟨rfl, B13⟩
  · obtain ⟨ao, c, rfl, _, _, _, hra⟩ := HRW50.out
    have HRA := Lib.hid hra
    have e1 : (decide (cut = cu2) && decide (rows = oth)) = false := by simp [hcc]
    have hcB : (cut == cu2) = false := by simpa using hcc
    rw [e1]
    obtain ⟨w5, hw5⟩ : ∃ w5, w5 = w50 := ⟨_, rfl⟩
    subst hw5
    have HH5 := HH50
    have B5 := B50
    have b6sz := B5.size
    clear hra e1 HH50 HRW50 HS50 B50
    -- behind Equal of the two: the copy
    have hlt5 := HH5.out.lt
    have hmt5 := HH5.out.map.lt
    go_wp2_with fail
    refine (clone_any hb mb rows cut _ HH5.out).mono ?_
    rintro e w6 ⟨hb2, mb2, rfl, hC6, hh6, hm6, b6⟩
    have HC6 := Lib.hid hC6
    have HH6 := Lib.hid (HH5.out.kept b6)
    have HRA6 : Hid (EntsAt w5.heap.size ao rows w6) := Lib.hid (HRA.out.below b6 (Nat.le_refl _))
    have s6 := b6.size
    have B6 := B5.trans (b6.mono B5.size)
    clear hC6 HH5 HRA b6 B5
    go_wp2_with fail
    refine (equal_any hb2 mb2 hb mb rows rows cut cut (by omega) (by omega) _ HC6.out HH6.out).mono ?_
    rintro e w7 ⟨rfl, b7⟩
    have HC7 := Lib.hid (HC6.out.kept b7)
    have HH7 := Lib.hid (HH6.out.kept b7)
    have HRA7 : Hid (EntsAt w5.heap.size ao rows w7) := Lib.hid (HRA6.out.below b7 s6)
    have s7 := b7.size
    have B7 := B6.trans (b7.mono B6.size)
    have hh7 : HistAt w7 hb mb rows cut := HH7.out
    have hlt7 := hh7.lt
    have hmt7 := hh7.map.lt
    have HM7 : Hid (RowsAt encO 37 w.heap.size a1 mops w7) := Lib.hid (HMA.out.below B7 (Nat.le_refl _))
    have hne : hb ≠ hb2 ∧ hb ≠ mb2 ∧ mb ≠ hb2 ∧ mb ≠ mb2 := ⟨by omega, by omega, by omega, by omega⟩
    have e1 : (decide (cut = cut) && decide (rows = rows)) = true := by simp
    rw [e1]
    clear HC6 HH6 HRA6 b7 hh7 e1
    go_wp2_with fail
    go_loopw [14] (fun iv wr => ∃ (i : Nat) (rs : List Ent) (cu : Int), i ≤ mops.length ∧ i ≤ 40 ∧ iv = .int .i64 (i : Int) ∧ Hid (HistAt wr hb2 mb2 rs cu) ∧ rs.length ≤ 40 + i ∧ Hid (But (Two hb2 mb2) w7 wr))
      (fun iv _ => (mops.length - intOf iv).toNat)
    case atStart => exact ⟨0, rows, cut, Nat.zero_le _, by omega, rfl, HC7, by omega, Lib.hid (But.refl _ _)⟩
    case round =>
      obtain ⟨i, rs, cu, hil, hi40, rfl, HHr, hrs, HBr⟩ := hrel
      by_cases hlt : i < mops.length ∧ i < 40
      · obtain ⟨hlt, hlt40⟩ := hlt
        have hlti : (i : Int) < (mops.length : Int) := by omega
        have hlti4 : (i : Int) < 40 := by omega
        have hi0 : (0 : Int) ≤ (i : Int) := by omega
        obtain ⟨g, o, rfl, hg, hrx⟩ := HM7.out.at hlt
        have hg7 : g < w7.heap.size := Nat.lt_of_lt_of_le hg B7.size
        have hgt : ¬ Two hb2 mb2 g := fun h => by have := B6.size; have := b6sz; rcases h with h | h <;> omega
        have hrw := HBr.out.range hg7 hgt hrx
        have HRX := Lib.hid (rangeO_x hrw)
        have HSJ := Lib.hid (idSize22 mops[i].x.id)
        have HSX := Lib.hid (rxLen mops[i].x)
        clear hrx hrw
        generalize mops[i].x = y at *
        have hgw : g < wr.heap.size := Nat.lt_of_lt_of_le hg7 HBr.out.size
        go_wp2_with (refine wpList_load_mid (by rfl) 24 (.tmp 75) (by rfl) g (o + i * 37 + 1) (by rfl) (encE y) _ HRX.out Try.underlying24 rfl HSX.out ?_)
        refine (to_any y _).mono ?_
        rintro e w8 ⟨rfl, b8⟩
        have HH8 := Lib.hid (HHr.out.kept b8)
        have s8 := b8.size
        have HX8 : Hid (w8.rangeAt g (o + i * 37 + 1) (encE y)) := Lib.hid (rangeAt_below HRX.out b8 hgw)
        have k8 := HBr.out.trans (But.of_below b8)
        clear HHr HRX b8
        go_wp2_with fail
        refine (add_any y hb2 mb2 rs cu (by omega) _ HH8.out).mono ?_
        rintro e w9 ⟨rfl, h9, b9⟩
        have HH9 := Lib.hid h9
        have l9 := addE_len rs y
        have HX9 := Lib.hid (rangeE_id (b9.range (Nat.lt_of_lt_of_le hgw s8) hgt HX8.out))
        have HXX9 := Lib.hid (b9.range (Nat.lt_of_lt_of_le hgw s8) hgt HX8.out)
        have s9 := b9.size
        have k9 := k8.trans b9
        clear h9 HX8 HH8 b9 k8
        generalize (addE rs y).1 = rs2 at *
        generalize (addE rs y).2 = ec at *
        go_wp2_with (refine wpList_load_mid (by rfl) 22 (.tmp 84) (by rfl) g (o + i * 37 + 1) (by rfl) (encI y.id) _ HX9.out Try.underlying22 rfl HSJ.out ?_)
        refine (setGone_any y.id hb2 mb2 rs2 cu (by omega) _ HH9.out).mono ?_
        rintro e w10 ⟨rfl, h10, b10⟩
        have HH10 := Lib.hid h10
        have l10 := goneE_len rs2 y.id
        have hx10 := b10.range (Nat.lt_of_lt_of_le hgw (Nat.le_trans s8 s9)) hgt HXX9.out
        have c32 : w10.cell? ⟨g, o + i * 37 + 1 + 32, none⟩ = some (.int .i64 y.arr.1) := hx10 32 _ (encE_32 y)
        have k10 := k9.trans b10
        clear h10 HX9 HXX9 HH9 b10 k9 hx10
        generalize (goneE rs2 y.id).1 = rs3 at *
        generalize (goneE rs2 y.id).2 = ec2 at *
        go_wp2_with fail
        refine (forget_any y.arr.1 hb2 mb2 rs3 cu (by omega) _ HH10.out).mono ?_
        rintro e w11 ⟨v11, rfl, _, h11, b11⟩
        have HH11 := Lib.hid h11
        have l11 := forgR_len rs3 y.arr.1
        have K11 := Lib.hid (k10.trans b11)
        clear h11 HH10 b11 k10 c32
        generalize forgR rs3 y.arr.1 = rs4 at *
        generalize forgC rs3 cu y.arr.1 = cu4 at *
        go_wp2
        go_roundw
        case rel => exact ⟨i + 1, rs4, cu4, by omega, by omega, by go_num, HH11, by omega, K11⟩
        case measure => simp [intOf]; omega
      · have hBr : Below w.heap.size w wr := B7.trans (HBr.out.below B7.size (fun k h => by have := b6sz; rcases h with h | h <;> omega))
        have hHr : HistAt wr hb mb rows cut := HH7.out.but HBr.out (by rintro (e | e) <;> omega) (by rintro (e | e) <;> omega)
        have HHR := Lib.hid hHr
        have HRr : Hid (EntsAt w5.heap.size ao rows wr) := Lib.hid (HRA7.out.below (HBr.out.below (Nat.le_trans s6 s7) (fun k h => by rcases h with h | h <;> omega)) (Nat.le_refl _))
        have s5r : w5.heap.size ≤ wr.heap.size := Nat.le_trans (Nat.le_trans s6 s7) HBr.out.size
        clear hHr HHr HBr HM7 HC7 HH7 HRA7
        by_cases hlt1 : i < mops.length
        · have hlti : (i : Int) < (mops.length : Int) := by omega
          have hlti4 : ¬ (i : Int) < 40 := by omega
          go_wp2_with fail
          refine (entries_any hb mb rows cut (by omega) wr HHR.out).mono ?_
          rintro e w12 ⟨v12, rfl, hr12, b12⟩
          obtain ⟨_, a12, c12, rfl, _, _, _, hra12⟩ := rows_of_owns encE_len (by decide) hr12
          have HRA12 := Lib.hid hra12
          have HR12 : Hid (EntsAt w12.heap.size ao rows w12) := Lib.hid ((HRr.out.below b12 s5r).mono (Nat.le_trans s5r b12.size))
          have HH12 := Lib.hid (HHR.out.kept b12)
          have B12 := hBr.trans (b12.mono hBr.size)
          clear hr12 hra12 HRr HHR b12
          go_wp2_with fail
          refine (same_any rows rows (by omega) (by omega) _ _ _ _ w12 HRA12.out HR12.out).mono ?_
          rintro e w13 ⟨rfl, b13⟩
          have HH13 := Lib.hid (HH12.out.kept b13)
          have B13 := B12.trans (b13.mono B12.size)
          have e1 : decide (rows = rows) = true := by simp
          rw [e1]
          clear b13 HH12 HRA12 HR12 e1
          go_wp2_with fail
          refine (cutoff_any hb mb rows cut _ HH13.out).mono ?_
          rintro e w14 ⟨rfl, rfl⟩
          go_wp2_with fail
          refine (equalNil_any hb _).mono ?_
          rintro e w15 ⟨rfl, rfl⟩
          go_wp2
          go_ret
          exact ⟨rfl, B13⟩
        · have hlti : ¬ (i : Int) < (mops.length : Int) := by omega
          go_wp2_with fail
          refine (entries_any hb mb rows cut (by omega) wr HHR.out).mono ?_
          rintro e w12 ⟨v12, rfl, hr12, b12⟩
          obtain ⟨_, a12, c12, rfl, _, _, _, hra12⟩ := rows_of_owns encE_len (by decide) hr12
          have HRA12 := Lib.hid hra12
          have HR12 : Hid (EntsAt w12.heap.size ao rows w12) := Lib.hid ((HRr.out.below b12 s5r).mono (Nat.le_trans s5r b12.size))
          have HH12 := Lib.hid (HHR.out.kept b12)
          have B12 := hBr.trans (b12.mono hBr.size)
          clear hr12 hra12 HRr HHR b12
          go_wp2_with fail
          refine (same_any rows rows (by omega) (by omega) _ _ _ _ w12 HRA12.out HR12.out).mono ?_
          rintro e w13 ⟨rfl, b13⟩
          have HH13 := Lib.hid (HH12.out.kept b13)
          have B13 := B12.trans (b13.mono B12.size)
          have e1 : decide (rows = rows) = true := by simp
          rw [e1]
          clear b13 HH12 HRA12 HR12 e1
          go_wp2_with fail
          refine (cutoff_any hb mb rows cut _ HH13.out).mono ?_
          rintro e w14 ⟨rfl, rfl⟩
          go_wp2_with fail
          refine (equalNil_any hb _).mono ?_
          rintro e w15 ⟨rfl, rfl⟩
          go_wp2
          go_ret
          exact ⟨rfl, B13⟩
end Go.Proofs.Ytblidphaolgilaa
