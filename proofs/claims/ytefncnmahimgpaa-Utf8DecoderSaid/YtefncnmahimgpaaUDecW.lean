/- The walk of the law Utf8Decoder. -/
import Derived.Test.YtefncnmahimgpaaRows
import Derived.Test.YtefncnmahimgpaaUKnown
import Derived.Test.YtefncnmahimgpaaUDec
import Derived.Test.YtefncnmahimgpaaUDec2
import Derived.WalkKit
import Derived.OwnWalk
import Derived.WalkSpells
import Derived.WalkLawsBesides
import Derived.Below
import Derived.OpenShut
import Derived.Lib.Hide
import Derived.Lib.ConvBytes
import Derived.Deep.RegionHeld3
import Derived.Deep.AppendLies
import Derived.Outline
namespace Go.Proofs.Ytefncnmahimgpaa
open Go.RowKit

/-- a slice of bytes from without -/
def Piece (sl : Value) (W : World) : Prop := ∃ ao m c, sl = .slice ao m c ∧ m ≤ c ∧ c ≤ maxLen ∧ (ao = none → m = 0 ∧ c = 0) ∧ ∃ bs : List UInt8, bs.length = m ∧ ∀ ad, ao = some ad → ∀ j (h : j < bs.length), ad.block < W.heap.size ∧ W.cell? (ad.add j) = some (.int .u8 (bs[j].toNat : Int))
/-- a slice of such slices -/
def Pieces (v : Value) (W : World) : Prop := ∃ ao n c, v = .slice ao n c ∧ n ≤ maxLen ∧ ∀ i, i < n → ∃ g o sl, ao = some ⟨g, o, none⟩ ∧ g < W.heap.size ∧ W.cell? ⟨g, o + i, none⟩ = some sl ∧ Piece sl W
/-- a slice of truth values -/
def Bools (v : Value) (W : World) : Prop := ∃ ao n c, v = .slice ao n c ∧ n ≤ maxLen ∧ ∀ i, i < n → ∃ g o b, ao = some ⟨g, o, none⟩ ∧ g < W.heap.size ∧ W.cell? ⟨g, o + i, none⟩ = some (.bool b)

theorem add_mid0 (g j : Nat) : (⟨g, 0, none⟩ : Addr).add j = ⟨g, j, none⟩ := by rw [Addr.add_mid, Nat.zero_add]
theorem add_block (a : Addr) (j : Nat) : (a.add j).block = a.block := by unfold Addr.add; split <;> rfl
theorem conv_own {w' W'' : World} {B q g' cap' : Nat} {bs : List UInt8} {bs' : ByteArray} (hown : w'.ownsRow B 5 1 (.slice (some ⟨g', 0, none⟩) q cap') q ((bs.take q).map fun x : UInt8 => Value.int .u8 (x.toNat : Int)))
    (hl : bs'.data.toList = bs.take q) (hlen : ((bs.take q).map fun x : UInt8 => Value.int .u8 (x.toNat : Int)).length = q) (hb : Below w'.heap.size w' W'') :
    (convert 38 9 (.slice (some ⟨g', 0, none⟩) q cap')).run Try.prog W'' = .ok (.string bs') W'' := by
  have hl2 : (bs.take q).length = q := by simpa using hlen
  have h := run_convert_bytes_back (P := Try.prog) W'' 38 9 5 ⟨g', 0, none⟩ cap' (bs.take q) Try.underlying38 Try.underlying5 Try.underlying9 (fun j hj => by
    have hg : g' < w'.heap.size := (hown.lt g' rfl).2
    rw [add_mid0, hb.cell (p := ⟨g', j, none⟩) hg, hown.cellAt j (by rw [hl2] at hj; omega), List.getElem?_map, List.getElem?_eq_getElem hj]
    rfl)
  rw [hl2] at h
  rw [h, ← hl, ← ba_of bs']
theorem infoU8 : (Try.prog.info? 5).map (fun i => (i.zero, i.size, i.bytes)) = some (some (.int .u8 0), 1, 1) := by kernel_rfl

set_option maxRecDepth 100000 in
set_option maxHeartbeats 4000000 in
theorem decoder_walk (v u : Value) (w : World) (hv : Pieces v w) (hu : Bools u w) :
    Calls Try.prog 12 #[v, u] w fun e w' => e = .returned (.bool true) ∧ Below w.heap.size w w' := by
  obtain ⟨ao, n, c, rfl, hn, hp⟩ := hv
  obtain ⟨bo, m, d, rfl, hm, hb⟩ := hu
  unfold maxLen at hn hm
  have HP := Lib.hid hp
  have HB := Lib.hid hb
  obtain ⟨i0, hi, hz0, hz1, hz2⟩ := info_parts infoU8
  have HI := Lib.hid hi
  have HWn := fun v : Value => Lib.hid (write_nil v)
  have HPn : Hid (∀ w, Calls Try.prog 34 #[.pointer none] w fun e w' => e = .returned (.int .i64 0) ∧ w' = w) := Lib.hid (fun w => by
    go_enter Try.func34, Try.ntmps34
    go_wp2
    go_ret
    exact ⟨rfl, rfl⟩)
  have HCn : Hid (∀ w, Calls Try.prog 32 #[.pointer none] w fun e w' => e = .returned (.int .i64 1) ∧ w' = w) := Lib.hid (fun w => by
    have HU := Lib.hid (usable_nil w)
    go_enter Try.func32, Try.ntmps32
    go_wp2_with fail
    refine HU.out.mono ?_
    rintro e w1 ⟨rfl, rfl⟩
    go_wp2
    go_ret
    exact ⟨rfl, rfl⟩)
  clear hp hb hi
  go_enter Try.func12, Try.ntmps12
  go_wp2_with fail
  refine ((HWn _).out _).mono ?_
  rintro e w1 ⟨rfl, rfl⟩
  have c1 : Below w.heap.size w (w.alloc (.cells #[.int .u8 65] 5)) := (Below.refl _ w).alloc (Nat.le_refl _) _
  go_wp2_with fail
  refine (known_any _).mono ?_
  rintro e w2 ⟨rfl, b2⟩
  have c2 := c1.trans (b2.mono c1.size)
  clear b2 c1
  go_wp2_with fail
  refine (HPn.out _).mono ?_
  rintro e w3 ⟨rfl, rfl⟩
  go_wp2_with fail
  refine (HCn.out _).mono ?_
  rintro e w4 ⟨rfl, rfl⟩
  go_wp2_with fail
  refine (newDec _).mono ?_
  rintro e w5 ⟨rfl, hD, b5⟩
  have c5 := c2.trans (b5.mono c2.size)
  have hDw : w.heap.size ≤ w4.heap.size := c2.size
  obtain ⟨D, hDD⟩ : ∃ D, w4.heap.size = D := ⟨_, rfl⟩
  rw [hDD] at hD hDw ⊢
  clear HWn HPn HCn hDD c2 b5
  go_wp2_with fail
  go_loopw [9, 10, 11] (fun ps cl i wr => ∃ (k : Nat) (p : ByteArray) (cb : Bool), k ≤ n ∧ k ≤ 12 ∧ p.size ≤ 40 * k ∧ i = .int .i64 k ∧ ps = .string p ∧ cl = .bool cb ∧ DecAt D p cb wr ∧ Below w.heap.size w wr) (fun _ _ i _ => n - (intOf i).toNat)
  case atStart => exact ⟨0, ⟨#[]⟩, false, by omega, by omega, Nat.zero_le _, rfl, rfl, rfl, hD, c5⟩
  case round =>
    obtain ⟨k, p, cb, hkn, hk12, hps, rfl, rfl, rfl, hD', hB⟩ := hrel
    by_cases hlt : k < n ∧ k < 12
    · obtain ⟨h1, h2⟩ := hlt
      have h1i : (k : Int) < (n : Int) := by omega
      have h2i : (k : Int) < 12 := by omega
      obtain ⟨g, o, sl, rfl, hg, hc, pao, pm, pc, rfl, hpm, hpc, hpn, bs, hbl, hbs⟩ := HP.out k h1
      have hcr : wr.cell? ⟨g, o + k, none⟩ = some (.slice pao pm pc) := (hB.cell (p := ⟨g, o + k, none⟩) hg).trans hc
      obtain ⟨q, hq⟩ : ∃ q : Nat, q = min pm 40 := ⟨_, rfl⟩
      have hmin : min (pm : Int) 40 = (q : Int) := by omega
      have hq40 : q ≤ 40 := by omega
      have hqm : q ≤ pm := by omega
      have HQ := Lib.hid hq
      have hqc : (q : Int) ≤ (pc : Int) := by omega
      have hl : ((bs.take q).map fun x : UInt8 => Value.int .u8 (x.toNat : Int)).length = q := by simp; omega
      have h1c : ∀ u ∈ ((bs.take q).map fun x : UInt8 => Value.int .u8 (x.toNat : Int)), u.oneCell' = true := by intro u hu; obtain ⟨x, _, rfl⟩ := List.mem_map.1 hu; rfl
      have HLn := Lib.hid hl
      have H1c := Lib.hid h1c
      clear hq hl h1c
      obtain ⟨bs', hbs'⟩ : ∃ bs' : ByteArray, bs' = ⟨(bs.take q).toArray⟩ := ⟨_, rfl⟩
      have hsz' : bs'.size = q := by rw [hbs', ByteArray.size]; simp; omega
      have HBL : Hid (bs'.data.toList = bs.take q) := Lib.hid (by rw [hbs'])
      have HSZ := Lib.hid hsz'
      have HRW := Lib.hid (rwrite_any p bs' (by omega))
      have HWF := Lib.hid (fun v w h hv => write_fn D p bs' v w h hv (by omega))
      have hzs := pWrite_size p bs'
      rw [hsz'] at hzs
      clear hbs' hsz'
      generalize pWrite p bs' = z at *
      obtain ⟨z1, z2, z3⟩ := z
      dsimp only at HRW HWF hzs
      have hDlt : D < wr.heap.size := (Array.getElem?_eq_some_iff.1 hD').1
      have hBsz := hB.size
      have hmx : (q : Nat) ≤ maxLen := by unfold maxLen; omega
      have HBB : Hid (k < m → ∃ g o b, bo = some ⟨g, o, none⟩ ∧ g < w.heap.size ∧ w.cell? ⟨g, o + k, none⟩ = some (.bool b)) := Lib.hid (HB.out k)
      clear HB
      cases pao with
      | none =>
        obtain ⟨rfl, rfl⟩ := hpn rfl
        obtain rfl : q = 0 := by omega
        clear HP hbs hpn hmin hqc
        have hm0 : min (((0 : Nat)) : Int) 40 = 0 := by decide
        have hm1 : min (0 : Int) 40 = 0 := by decide
        go_wp2_with fail
        go_region_held3 (fun w' => w'.cell? ⟨g, o + k, none⟩ = some (.slice none 0 0) ∧ Below w.heap.size w w') (first | exact ⟨by assumption, by assumption⟩ | (have hBw := Below.grown (Below.drew (Below.alloc hB hB.size _)) hgrow' (by simp; have := hB.size; omega) (fun j e => by cases e; exact hB.size); exact ⟨(hBw.cell (p := ⟨g, o + k, none⟩) hg).trans hc, hBw⟩) | (refine ⟨by simp [*, World.cell?_alloc_some], ?_⟩; repeat (first | assumption | exact Below.size (by assumption) | refine Below.drew ?_ | refine Below.alloc ?_ ?_ _))) (first | (refine step_append_opt (o := ⟨some 70, _, _, _, _, _⟩) (by rfl) (.tmp 58) (.tmp 69) 38 (by rfl) w.heap.size 5 i0 (.int .u8 0) 1 Try.underlying38 HI.out hz0 hz1 hz2 (by rfl) wr.heap.size 0 (by rfl) (((World.ownsRow_lit wr #[] 0 hB.size (by decide) (by rfl))).drew) none 0 0 (by rfl) (fun _ => ⟨rfl, rfl⟩) _ HLn.out (fun ad h => by cases h) H1c.out hmx (by omega) (by simp; have := hB.size; omega) ?_; intro g' cap' w' hown' hgrow' hbase'))
        all_goals
          have hB2 : Below wr.heap.size wr w' := Below.grown (Below.drew (Below.alloc (Below.refl _ _) (Nat.le_refl _) _)) hgrow' (by simp) (fun j e => by cases e; exact Nat.le_refl _)
          have hB3 : Below w.heap.size w w' := hB.trans (hB2.mono hBsz)
          have hD2 : DecAt D p cb w' := heap_below hB2 hDlt hD'
          have HV : Hid (∀ W'', Below w'.heap.size w' W'' → (convert 38 9 (.slice (some ⟨g', 0, none⟩) 0 cap')).run Try.prog W'' = .ok (.string bs') W'') := Lib.hid (fun W'' hb'' => conv_own hown' HBL.out HLn.out hb'')
          have hcv := HV.out w' (Below.refl _ _)
          have hDl2 : D < w'.heap.size := (Array.getElem?_eq_some_iff.1 hD2).1
          clear hown' hgrow' hbase' hB2 hB hD' hcr
          go_wp2_with fail
          refine (HRW.out _).mono ?_
          rintro r w6 ⟨rfl, b6⟩
          have hD6 : DecAt D p cb w6 := heap_below b6 hDl2 hD2
          have hB6 := hB3.trans (b6.mono hB3.size)
          have hcv6 := HV.out w6 b6
          have HV6 : Hid (∀ n, (convert 38 9 (.slice (some ⟨g', 0, none⟩) 0 cap')).run Try.prog (w6.drewN n) = .ok (.string bs') (w6.drewN n)) := Lib.hid (fun n => HV.out _ (below_drewN b6))
          clear hB3 hD2 HV hcv b6 hDl2
          cases cb
          · go_wp2_with fail
            refine (HWF.out _ _ hD6 HV6.out).mono ?_
            rintro r w7 ⟨rfl, hD7, b7⟩
            have hB7 := hB6.trans (b7.mono hDw)
            clear hD6 hB6 HV6 hcv6 b7
            have HPN := Lib.hid (pending_any D z2 false w7 hD7)
            go_wp2_with fail
            refine HPN.out.mono ?_
            rintro r w8 ⟨rfl, rfl⟩
            by_cases hkm : k < m
            · obtain ⟨gb, ob, bb, rfl, hgb, hcb⟩ := HBB.out hkm
              have hkmi : (k : Int) < (m : Int) := by omega
              have hcb8 : w8.cell? ⟨gb, ob + k, none⟩ = some (.bool bb) := (hB7.cell (p := ⟨gb, ob + k, none⟩) hgb).trans hcb
              clear hcb HBB
              cases bb
              · go_wp2
                go_roundw
                case rel => exact ⟨k + 1, z2, false, by omega, by omega, by omega, by go_num, rfl, rfl, hD7, hB7⟩
                case measure => simp [intOf]; omega
              · by_cases hz0 : z2.size = 0
                · have he := isEmpty_true hz0
                  have HCL := Lib.hid (close_ok D z2 w8 hD7 hz0)
                  go_wp2_with fail
                  refine HCL.out.mono ?_
                  rintro r w9 ⟨rfl, hD9, b9⟩
                  have hB9 := hB7.trans (b9.mono hDw)
                  have HPN2 := Lib.hid (pending_any D z2 true w9 hD9)
                  go_wp2_with fail
                  refine HPN2.out.mono ?_
                  rintro r w10 ⟨rfl, rfl⟩
                  go_wp2
                  go_roundw
                  case rel => exact ⟨k + 1, z2, true, by omega, by omega, by omega, by go_num, rfl, rfl, hD9, hB9⟩
                  case measure => simp [intOf]; omega
                · have he := isEmpty_false hz0
                  have HCL := Lib.hid (close_pending D z2 w8 hD7 hz0)
                  go_wp2_with fail
                  refine HCL.out.mono ?_
                  rintro r w9 ⟨rfl, rfl⟩
                  go_wp2_with fail
                  refine HPN.out.mono ?_
                  rintro r w10 ⟨rfl, rfl⟩
                  go_wp2
                  go_roundw
                  case rel => exact ⟨k + 1, z2, false, by omega, by omega, by omega, by go_num, rfl, rfl, hD7, hB7⟩
                  case measure => simp [intOf]; omega
            · have hkmi : ¬ (k : Int) < (m : Int) := by omega
              go_wp2
              go_roundw
              case rel => exact ⟨k + 1, z2, false, by omega, by omega, by omega, by go_num, rfl, rfl, hD7, hB7⟩
              case measure => simp [intOf]; omega
          · have HWC := fun v => Lib.hid (write_closed D p v w6 hD6)
            have HPN := Lib.hid (pending_any D p true w6 hD6)
            have HCL := Lib.hid (close_closed D p w6 hD6)
            clear hcv6 HV6
            go_wp2_with fail
            refine (HWC _).out.mono ?_
            rintro r w7 ⟨rfl, rfl⟩
            go_wp2_with fail
            refine HPN.out.mono ?_
            rintro r w8 ⟨rfl, rfl⟩
            by_cases hkm : k < m
            · obtain ⟨gb, ob, bb, rfl, hgb, hcb⟩ := HBB.out hkm
              have hkmi : (k : Int) < (m : Int) := by omega
              have hcb8 : w8.cell? ⟨gb, ob + k, none⟩ = some (.bool bb) := (hB6.cell (p := ⟨gb, ob + k, none⟩) hgb).trans hcb
              clear hcb HBB
              cases bb
              · go_wp2
                go_roundw
                case rel => exact ⟨k + 1, p, true, by omega, by omega, by omega, by go_num, rfl, rfl, hD6, hB6⟩
                case measure => simp [intOf]; omega
              · go_wp2_with fail
                refine HCL.out.mono ?_
                rintro r w9 ⟨rfl, rfl⟩
                go_wp2_with fail
                refine HPN.out.mono ?_
                rintro r w10 ⟨rfl, rfl⟩
                go_wp2
                go_roundw
                case rel => exact ⟨k + 1, p, true, by omega, by omega, by omega, by go_num, rfl, rfl, hD6, hB6⟩
                case measure => simp [intOf]; omega
            · have hkmi : ¬ (k : Int) < (m : Int) := by omega
              go_wp2
              go_roundw
              case rel => exact ⟨k + 1, p, true, by omega, by omega, by omega, by go_num, rfl, rfl, hD6, hB6⟩
              case measure => simp [intOf]; omega
      | some ad =>
        have HN : Hid (∀ W', Below w.heap.size w W' → ∀ ad', some ad = some ad' → ∀ j u, ((bs.take q).map fun x : UInt8 => Value.int .u8 (x.toNat : Int))[j]? = some u → W'.cell? (ad'.add j) = some u) := Lib.hid (by
          intro W' hb ad' e j u hu
          cases e
          have hj : j < bs.length := by
            have := (List.getElem?_eq_some_iff.1 hu).1
            simp at this; omega
          have hlt : ad.block < w.heap.size := (hbs ad rfl j hj).1
          rw [hb.cell (by rw [add_block]; exact hlt), (hbs ad rfl j hj).2]
          rw [← hu]
          have hj2 : j < q := by have := (List.getElem?_eq_some_iff.1 hu).1; simp at this; omega
          rw [List.getElem?_map, List.getElem?_take_of_lt hj2, List.getElem?_eq_getElem hj]
          rfl)
        clear hbs HP hpn
        go_wp2_with fail
        go_region_held3 (fun w' => w'.cell? ⟨g, o + k, none⟩ = some (.slice (some ad) pm pc) ∧ Below w.heap.size w w') (first | exact ⟨by assumption, by assumption⟩ | (have hBw := Below.grown (Below.drew (Below.alloc hB hB.size _)) hgrow' (by simp; have := hB.size; omega) (fun j e => by cases e; exact hB.size); exact ⟨(hBw.cell (p := ⟨g, o + k, none⟩) hg).trans hc, hBw⟩) | (refine ⟨by simp [*, World.cell?_alloc_some], ?_⟩; repeat (first | assumption | exact Below.size (by assumption) | refine Below.drew ?_ | refine Below.alloc ?_ ?_ _))) (first | (refine step_append_opt (o := ⟨some 70, _, _, _, _, _⟩) (by rfl) (.tmp 58) (.tmp 69) 38 (by rfl) w.heap.size 5 i0 (.int .u8 0) 1 Try.underlying38 HI.out hz0 hz1 hz2 (by rfl) wr.heap.size 0 (by rfl) (((World.ownsRow_lit wr #[] 0 hB.size (by decide) (by rfl))).drew) (some ad) q pc (by rfl) (by intro h; cases h) _ HLn.out (HN.out _ (((hB.alloc hB.size _)).drew)) H1c.out hmx (by omega) (by simp; have := hB.size; omega) ?_; intro g' cap' w' hown' hgrow' hbase'))
        all_goals
          have hB2 : Below wr.heap.size wr w' := Below.grown (Below.drew (Below.alloc (Below.refl _ _) (Nat.le_refl _) _)) hgrow' (by simp) (fun j e => by cases e; exact Nat.le_refl _)
          have hB3 : Below w.heap.size w w' := hB.trans (hB2.mono hBsz)
          have hD2 : DecAt D p cb w' := heap_below hB2 hDlt hD'
          have HV : Hid (∀ W'', Below w'.heap.size w' W'' → (convert 38 9 (.slice (some ⟨g', 0, none⟩) q cap')).run Try.prog W'' = .ok (.string bs') W'') := Lib.hid (fun W'' hb'' => conv_own hown' HBL.out HLn.out hb'')
          have hcv := HV.out w' (Below.refl _ _)
          have hDl2 : D < w'.heap.size := (Array.getElem?_eq_some_iff.1 hD2).1
          clear hown' hgrow' hbase' hB2 hB hD' hcr
          go_wp2_with fail
          refine (HRW.out _).mono ?_
          rintro r w6 ⟨rfl, b6⟩
          have hD6 : DecAt D p cb w6 := heap_below b6 hDl2 hD2
          have hB6 := hB3.trans (b6.mono hB3.size)
          have hcv6 := HV.out w6 b6
          have HV6 : Hid (∀ n, (convert 38 9 (.slice (some ⟨g', 0, none⟩) q cap')).run Try.prog (w6.drewN n) = .ok (.string bs') (w6.drewN n)) := Lib.hid (fun n => HV.out _ (below_drewN b6))
          clear hB3 hD2 HV hcv b6 hDl2
          cases cb
          · go_wp2_with fail
            refine (HWF.out _ _ hD6 HV6.out).mono ?_
            rintro r w7 ⟨rfl, hD7, b7⟩
            have hB7 := hB6.trans (b7.mono hDw)
            clear hD6 hB6 HV6 hcv6 b7
            have HPN := Lib.hid (pending_any D z2 false w7 hD7)
            go_wp2_with fail
            refine HPN.out.mono ?_
            rintro r w8 ⟨rfl, rfl⟩
            by_cases hkm : k < m
            · obtain ⟨gb, ob, bb, rfl, hgb, hcb⟩ := HBB.out hkm
              have hkmi : (k : Int) < (m : Int) := by omega
              have hcb8 : w8.cell? ⟨gb, ob + k, none⟩ = some (.bool bb) := (hB7.cell (p := ⟨gb, ob + k, none⟩) hgb).trans hcb
              clear hcb HBB
              cases bb
              · go_wp2
                go_roundw
                case rel => exact ⟨k + 1, z2, false, by omega, by omega, by omega, by go_num, rfl, rfl, hD7, hB7⟩
                case measure => simp [intOf]; omega
              · by_cases hz0 : z2.size = 0
                · have he := isEmpty_true hz0
                  have HCL := Lib.hid (close_ok D z2 w8 hD7 hz0)
                  go_wp2_with fail
                  refine HCL.out.mono ?_
                  rintro r w9 ⟨rfl, hD9, b9⟩
                  have hB9 := hB7.trans (b9.mono hDw)
                  have HPN2 := Lib.hid (pending_any D z2 true w9 hD9)
                  go_wp2_with fail
                  refine HPN2.out.mono ?_
                  rintro r w10 ⟨rfl, rfl⟩
                  go_wp2
                  go_roundw
                  case rel => exact ⟨k + 1, z2, true, by omega, by omega, by omega, by go_num, rfl, rfl, hD9, hB9⟩
                  case measure => simp [intOf]; omega
                · have he := isEmpty_false hz0
                  have HCL := Lib.hid (close_pending D z2 w8 hD7 hz0)
                  go_wp2_with fail
                  refine HCL.out.mono ?_
                  rintro r w9 ⟨rfl, rfl⟩
                  go_wp2_with fail
                  refine HPN.out.mono ?_
                  rintro r w10 ⟨rfl, rfl⟩
                  go_wp2
                  go_roundw
                  case rel => exact ⟨k + 1, z2, false, by omega, by omega, by omega, by go_num, rfl, rfl, hD7, hB7⟩
                  case measure => simp [intOf]; omega
            · have hkmi : ¬ (k : Int) < (m : Int) := by omega
              go_wp2
              go_roundw
              case rel => exact ⟨k + 1, z2, false, by omega, by omega, by omega, by go_num, rfl, rfl, hD7, hB7⟩
              case measure => simp [intOf]; omega
          · have HWC := fun v => Lib.hid (write_closed D p v w6 hD6)
            have HPN := Lib.hid (pending_any D p true w6 hD6)
            have HCL := Lib.hid (close_closed D p w6 hD6)
            clear hcv6 HV6
            go_wp2_with fail
            refine (HWC _).out.mono ?_
            rintro r w7 ⟨rfl, rfl⟩
            go_wp2_with fail
            refine HPN.out.mono ?_
            rintro r w8 ⟨rfl, rfl⟩
            by_cases hkm : k < m
            · obtain ⟨gb, ob, bb, rfl, hgb, hcb⟩ := HBB.out hkm
              have hkmi : (k : Int) < (m : Int) := by omega
              have hcb8 : w8.cell? ⟨gb, ob + k, none⟩ = some (.bool bb) := (hB6.cell (p := ⟨gb, ob + k, none⟩) hgb).trans hcb
              clear hcb HBB
              cases bb
              · go_wp2
                go_roundw
                case rel => exact ⟨k + 1, p, true, by omega, by omega, by omega, by go_num, rfl, rfl, hD6, hB6⟩
                case measure => simp [intOf]; omega
              · go_wp2_with fail
                refine HCL.out.mono ?_
                rintro r w9 ⟨rfl, rfl⟩
                go_wp2_with fail
                refine HPN.out.mono ?_
                rintro r w10 ⟨rfl, rfl⟩
                go_wp2
                go_roundw
                case rel => exact ⟨k + 1, p, true, by omega, by omega, by omega, by go_num, rfl, rfl, hD6, hB6⟩
                case measure => simp [intOf]; omega
            · have hkmi : ¬ (k : Int) < (m : Int) := by omega
              go_wp2
              go_roundw
              case rel => exact ⟨k + 1, p, true, by omega, by omega, by omega, by go_num, rfl, rfl, hD6, hB6⟩
              case measure => simp [intOf]; omega
    · by_cases h1 : k < n
      · have h1i : (k : Int) < (n : Int) := by omega
        have h2i : ¬ (k : Int) < 12 := by omega
        clear hlt
        go_wp2
        go_ret
        exact ⟨rfl, hB⟩
      · have h1i : ¬ (k : Int) < (n : Int) := by omega
        clear hlt
        go_wp2
        go_ret
        exact ⟨rfl, hB⟩
end Go.Proofs.Ytefncnmahimgpaa
