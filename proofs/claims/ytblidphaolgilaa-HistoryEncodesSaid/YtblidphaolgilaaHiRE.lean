/- Encode: the reference's. -/
import Derived.Test.YtblidphaolgilaaHiB4
import Derived.Test.YtblidphaolgilaaHiR
import Derived.Test.YtblidphaolgilaaIns
namespace Go.Proofs.Ytblidphaolgilaa
open Go.RowKit Go.Maps Go.Sort
set_option linter.unusedSimpArgs false
set_option linter.unusedVariables false

theorem chk_parts {x : Ent} (h : chk x = 0) : ∃ (a d s : Nat), x.arr.1 = a ∧ x.dat.1 = d ∧ x.st.1 = s ∧ a < 4294967296 ∧ d < 4294967296 ∧ s ≤ 1 := by
  unfold chk at h
  split at h
  · rename_i hm
    split at h
    · rename_i hs
      simp only [minB, Bool.and_eq_true, decide_eq_true_eq] at hm
      exact ⟨x.arr.1.toNat, x.dat.1.toNat, x.st.1.toNat, by omega, by omega, by omega, by omega, by omega, by omega⟩
    · cases h
  · cases h
set_option maxRecDepth 100000 in
set_option maxHeartbeats 8000000 in
theorem rencode_any (l : List Ent) (cut : Nat) (hcut : cut < 4294967296) (hc : ∀ x ∈ l, chk x = 0) (hl : l.length ≤ 1000) (v : Value) (w : World) (hv : RowsArg encE 36 v l w) :
    Calls Try.prog 34 #[v, .int .i64 (cut : Int)] w fun e w' => ∃ v', e = .returned v' ∧ w'.ownsRow w.heap.size 5 1 v' (4 + l.length * 41) (rcs b1 (f4 cut ++ l.flatMap encB)) ∧ Below w.heap.size w w' := by
  obtain ⟨ao, c, rfl, hlc, hcm, _, hra⟩ := hv
  obtain ⟨i0, hif, hz0, hz1, hz2⟩ := info_parts infoU8
  have HI := Lib.hid hif
  have HRA := Lib.hid hra
  have HCH := Lib.hid hc
  clear hif hra hc
  go_enter Try.func34, Try.ntmps34
  go_wp2_with fail
  refine (rfour_any cut hcut w).mono ?_
  rintro e w1 ⟨v1, rfl, ov1, b1'⟩
  go_wp2_with fail
  go_loopw [5, 6] (fun ov iv wr => ∃ (i : Nat), i ≤ l.length ∧ iv = .int .i64 (i : Int) ∧ Hid (wr.ownsRow w.heap.size 5 1 ov (4 + i * 41) (rcs b1 (f4 cut ++ (l.take i).flatMap encB))) ∧ Below w.heap.size w wr)
    (fun ov iv _ => (l.length - intOf iv).toNat)
  case atStart => exact ⟨0, Nat.zero_le _, rfl, Lib.hid (by simpa using ov1), b1'⟩
  case round =>
    obtain ⟨i, hil, rfl, HOv, hBr⟩ := hrel
    have hsr := hBr.size
    by_cases hlt : i < l.length
    · have hlti : (i : Int) < (l.length : Int) := by omega
      have hi0 : (0 : Int) ≤ (i : Int) := by omega
      obtain ⟨g, o, rfl, hg, hrx⟩ := HRA.out.at hlt
      have hrw := rangeAt_below hrx hBr hg
      have HRX := Lib.hid hrw
      have c34 := hrw 34 _ (encE_34 l[i])
      have c35 := hrw 35 _ (encE_35 l[i])
      obtain ⟨na, nd, ns, ha, hd, hs, hna, hnd, hns⟩ := chk_parts (HCH.out l[i] (List.getElem_mem hlt))
      have HTK : Hid (f4 cut ++ (l.take (i + 1)).flatMap encB = (f4 cut ++ (l.take i).flatMap encB) ++ encB l[i]) := Lib.hid (by rw [List.take_succ_eq_append_getElem hlt, List.flatMap_append, List.flatMap_singleton, List.append_assoc])
      have hgw : g < wr.heap.size := by omega
      clear hrx hrw
      generalize l[i] = x at *
      have HA := Lib.hid ha
      have HD := Lib.hid hd
      have HS := Lib.hid hs
      rw [hs] at c34
      obtain ⟨K, hK⟩ : ∃ K, 4 + i * 41 = K := ⟨_, rfl⟩
      rw [hK] at HOv
      have HKE := Lib.hid hK
      have hKl : K ≤ 100000 := by omega
      clear ha hd hs hK
      have HEB : Hid (encB x = x.id.1 ++ (f4 na ++ (f4 nd ++ [lastB x]))) := Lib.hid (by unfold encB; rw [HA.out, HD.out]; rfl)
      generalize f4 cut ++ (l.take i).flatMap encB = bs at *
      generalize hps : x.perm = ps at *
      cases ps with
      | true =>
        go_wp2_with (at_builtin; refine wpList_append_from (.inr (by rfl)) (.tmp 28) (.tmp 33) 64 (by rfl) w.heap.size 5 i0 _ 1 1 Try.underlying64 HI.out hz0 hz1 hz2 (by rfl) (by decide) _ K _ (by rfl) HOv.out _ _ _ (by rfl) (fun h => by cases h) (encI x.id) (by rw [encI_len]) (fun ad e => by cases e; exact fun j u hu => by rw [Addr.add_mid]; exact (rangeE_id HRX.out) j u hu) (encI_one x.id) (by unfold maxLen; omega) (by omega) hsr ?_)
        intro v2 w2 ov2 g2 _
        have hbi : rcs b1 bs ++ encI x.id = rcs b1 (bs ++ x.id.1) := by rw [rcs_app, rcs_b1 x.id.1]; rfl
        rw [hbi] at ov2
        have bb2 : Below w.heap.size wr w2 := (Below.refl _ _).grown g2 hsr (fun j hj => (HOv.out.lt j hj).1)
        have s2 := bb2.size
        have c32 : w2.cell? ⟨g, o + i * 36 + 32, none⟩ = some (.int .i64 (na : Int)) := by
          have h := rangeAt_below HRX.out bb2 hg 32 _ (encE_32 x)
          rw [HA.out] at h; exact h
        clear hbi g2 c34 c35 HOv
        -- append of four bytes to the row of K bytes in world w2; what lies below w is as it was in wr
        go_wp2_with fail
        refine (rfour_any na hna w2).mono ?_
        rintro e w3 ⟨va, rfl, ova, ba⟩
        have ovk := owns_keep ov2 (grown_of_below ba) (fun j hj => by cases hj)
        obtain ⟨_, aa, ca, rfl, hna', _, _, hraa⟩ := rows_of_owns b1_len (by decide) ova
        have hsa := ba.size
        go_wp2_with (at_builtin; refine wpList_append_from (.inr (by rfl)) (.tmp 35) (.tmp 41) 64 (by rfl) w.heap.size 5 i0 _ 1 1 Try.underlying64 HI.out hz0 hz1 hz2 (by rfl) (by decide) _ _ _ (by rfl) ovk _ _ _ (by rfl) hna' (rcs b1 (f4 na)) (by rfl) (rows_news b1_len (by decide) hraa) (rcs_one b1_one _) (by unfold maxLen; omega) (by omega) (by omega) ?_)
        intro v4 w4 ov4 gb _
        rw [← rcs_app] at ov4
        have bb4 : Below w.heap.size wr w4 := (bb2.trans (ba.mono (by omega))).grown gb (by omega) (fun j hj => (ovk.lt j hj).1)
        clear ovk ova hraa ba gb hna' hsa
        have s4 := bb4.size
        have c33 : w4.cell? ⟨g, o + i * 36 + 33, none⟩ = some (.int .i64 (nd : Int)) := by
          have h := rangeAt_below HRX.out bb4 hg 33 _ (encE_33 x)
          rw [HD.out] at h; exact h
        clear c32 ov2 bb2 s2
        -- append of four bytes to the row of K bytes in world w4; what lies below w is as it was in wr
        go_wp2_with fail
        refine (rfour_any nd hnd w4).mono ?_
        rintro e w45 ⟨va, rfl, ova, ba⟩
        have ovk := owns_keep ov4 (grown_of_below ba) (fun j hj => by cases hj)
        obtain ⟨_, aa, ca, rfl, hna', _, _, hraa⟩ := rows_of_owns b1_len (by decide) ova
        have hsa := ba.size
        go_wp2_with (at_builtin; refine wpList_append_from (.inr (by rfl)) (.tmp 43) (.tmp 49) 64 (by rfl) w.heap.size 5 i0 _ 1 1 Try.underlying64 HI.out hz0 hz1 hz2 (by rfl) (by decide) _ _ _ (by rfl) ovk _ _ _ (by rfl) hna' (rcs b1 (f4 nd)) (by rfl) (rows_news b1_len (by decide) hraa) (rcs_one b1_one _) (by unfold maxLen; omega) (by omega) (by omega) ?_)
        intro v5 w5 ov5 gb _
        rw [← rcs_app] at ov5
        have bb5 : Below w.heap.size wr w5 := (bb4.trans (ba.mono (by omega))).grown gb (by omega) (fun j hj => (ovk.lt j hj).1)
        clear ovk ova hraa ba gb hna' hsa
        have s5 := bb5.size
        clear c33 ov4 bb4 s4
        go_wp2_with (first
          | (refine wpList_build1 (by rfl) 64 5 (.tmp 53) (by rfl) [.int .u8 ((ns : Int) + 2)] (by rfl) i0 _ Try.underlying64 HI.out hz0 (by rw [hz1]; rfl) (by decide) (by decide) ?_)
          | (at_builtin; refine wpList_append_own_at _ rfl (.tmp 51) (.tmp 54) 64 (by rfl) w.heap.size 5 i0 _ 1 1 Try.underlying64 HI.out hz0 hz1 hz2 (by rfl) (by decide) _ _ _ (by rfl) (ov5.alloc _) ⟨w5.heap.size, 0, none⟩ 1 1 [.int .u8 ((ns : Int) + 2)] (by rfl) (by rfl) (news_of_block0 (heap_alloc_new w5 _)) (by simp [Value.oneCell']) (by unfold maxLen; omega) (by omega) (by simp; omega) ?_))
        intro v6 w6 ov6 g6 _ _
        have hlz : [Value.int .u8 ((ns : Int) + 2)] = rcs b1 [lastB x] := by
          have e : ((lastB x).toNat : Int) = ((ns : Int) + 2) := by
            unfold lastB
            rw [HS.out, hps, UInt8.toNat_ofNat', if_pos rfl]
            omega
          simp only [rcs, b1, List.flatMap_cons, List.flatMap_nil, List.append_nil, e]
        rw [hlz, ← rcs_app] at ov6
        have bb6 : Below w.heap.size wr w6 := (bb5.alloc (by omega) _).grown g6 (by simp; omega) (fun j hj => (ov5.lt j hj).1)
        have HO6 : Hid (w6.ownsRow w.heap.size 5 1 v6 (4 + (i + 1) * 41) (rcs b1 (f4 cut ++ (l.take (i + 1)).flatMap encB))) := Lib.hid (by
          rw [HTK.out, HEB.out]
          have hk := HKE.out
          rw [show 4 + (i + 1) * 41 = K + 32 + 4 + 4 + 1 by omega]
          have h := ov6
          simp only [List.append_assoc] at h ⊢
          exact h)
        have HB6 := hBr.trans (bb6.mono (Nat.le_refl _))
        clear ov6 ov5 g6 bb5 bb6 hlz
        go_wp2
        go_roundw
        case rel => exact ⟨i + 1, by omega, by go_num, HO6, HB6⟩
        case measure => simp [intOf]; omega
      | false =>
        go_wp2_with (at_builtin; refine wpList_append_from (.inr (by rfl)) (.tmp 28) (.tmp 33) 64 (by rfl) w.heap.size 5 i0 _ 1 1 Try.underlying64 HI.out hz0 hz1 hz2 (by rfl) (by decide) _ K _ (by rfl) HOv.out _ _ _ (by rfl) (fun h => by cases h) (encI x.id) (by rw [encI_len]) (fun ad e => by cases e; exact fun j u hu => by rw [Addr.add_mid]; exact (rangeE_id HRX.out) j u hu) (encI_one x.id) (by unfold maxLen; omega) (by omega) hsr ?_)
        intro v2 w2 ov2 g2 _
        have hbi : rcs b1 bs ++ encI x.id = rcs b1 (bs ++ x.id.1) := by rw [rcs_app, rcs_b1 x.id.1]; rfl
        rw [hbi] at ov2
        have bb2 : Below w.heap.size wr w2 := (Below.refl _ _).grown g2 hsr (fun j hj => (HOv.out.lt j hj).1)
        have s2 := bb2.size
        have c32 : w2.cell? ⟨g, o + i * 36 + 32, none⟩ = some (.int .i64 (na : Int)) := by
          have h := rangeAt_below HRX.out bb2 hg 32 _ (encE_32 x)
          rw [HA.out] at h; exact h
        clear hbi g2 c34 c35 HOv
        -- append of four bytes to the row of K bytes in world w2; what lies below w is as it was in wr
        go_wp2_with fail
        refine (rfour_any na hna w2).mono ?_
        rintro e w3 ⟨va, rfl, ova, ba⟩
        have ovk := owns_keep ov2 (grown_of_below ba) (fun j hj => by cases hj)
        obtain ⟨_, aa, ca, rfl, hna', _, _, hraa⟩ := rows_of_owns b1_len (by decide) ova
        have hsa := ba.size
        go_wp2_with (at_builtin; refine wpList_append_from (.inr (by rfl)) (.tmp 35) (.tmp 41) 64 (by rfl) w.heap.size 5 i0 _ 1 1 Try.underlying64 HI.out hz0 hz1 hz2 (by rfl) (by decide) _ _ _ (by rfl) ovk _ _ _ (by rfl) hna' (rcs b1 (f4 na)) (by rfl) (rows_news b1_len (by decide) hraa) (rcs_one b1_one _) (by unfold maxLen; omega) (by omega) (by omega) ?_)
        intro v4 w4 ov4 gb _
        rw [← rcs_app] at ov4
        have bb4 : Below w.heap.size wr w4 := (bb2.trans (ba.mono (by omega))).grown gb (by omega) (fun j hj => (ovk.lt j hj).1)
        clear ovk ova hraa ba gb hna' hsa
        have s4 := bb4.size
        have c33 : w4.cell? ⟨g, o + i * 36 + 33, none⟩ = some (.int .i64 (nd : Int)) := by
          have h := rangeAt_below HRX.out bb4 hg 33 _ (encE_33 x)
          rw [HD.out] at h; exact h
        clear c32 ov2 bb2 s2
        -- append of four bytes to the row of K bytes in world w4; what lies below w is as it was in wr
        go_wp2_with fail
        refine (rfour_any nd hnd w4).mono ?_
        rintro e w45 ⟨va, rfl, ova, ba⟩
        have ovk := owns_keep ov4 (grown_of_below ba) (fun j hj => by cases hj)
        obtain ⟨_, aa, ca, rfl, hna', _, _, hraa⟩ := rows_of_owns b1_len (by decide) ova
        have hsa := ba.size
        go_wp2_with (at_builtin; refine wpList_append_from (.inr (by rfl)) (.tmp 43) (.tmp 49) 64 (by rfl) w.heap.size 5 i0 _ 1 1 Try.underlying64 HI.out hz0 hz1 hz2 (by rfl) (by decide) _ _ _ (by rfl) ovk _ _ _ (by rfl) hna' (rcs b1 (f4 nd)) (by rfl) (rows_news b1_len (by decide) hraa) (rcs_one b1_one _) (by unfold maxLen; omega) (by omega) (by omega) ?_)
        intro v5 w5 ov5 gb _
        rw [← rcs_app] at ov5
        have bb5 : Below w.heap.size wr w5 := (bb4.trans (ba.mono (by omega))).grown gb (by omega) (fun j hj => (ovk.lt j hj).1)
        clear ovk ova hraa ba gb hna' hsa
        have s5 := bb5.size
        clear c33 ov4 bb4 s4
        go_wp2_with (first
          | (refine wpList_build1 (by rfl) 64 5 (.tmp 53) (by rfl) [.int .u8 (ns : Int)] (by rfl) i0 _ Try.underlying64 HI.out hz0 (by rw [hz1]; rfl) (by decide) (by decide) ?_)
          | (at_builtin; refine wpList_append_own_at _ rfl (.tmp 51) (.tmp 54) 64 (by rfl) w.heap.size 5 i0 _ 1 1 Try.underlying64 HI.out hz0 hz1 hz2 (by rfl) (by decide) _ _ _ (by rfl) (ov5.alloc _) ⟨w5.heap.size, 0, none⟩ 1 1 [.int .u8 (ns : Int)] (by rfl) (by rfl) (news_of_block0 (heap_alloc_new w5 _)) (by simp [Value.oneCell']) (by unfold maxLen; omega) (by omega) (by simp; omega) ?_))
        intro v6 w6 ov6 g6 _ _
        have hlz : [Value.int .u8 (ns : Int)] = rcs b1 [lastB x] := by
          have e : ((lastB x).toNat : Int) = (ns : Int) := by
            unfold lastB
            rw [HS.out, hps, UInt8.toNat_ofNat', if_neg Bool.false_ne_true]
            omega
          simp only [rcs, b1, List.flatMap_cons, List.flatMap_nil, List.append_nil, e]
        rw [hlz, ← rcs_app] at ov6
        have bb6 : Below w.heap.size wr w6 := (bb5.alloc (by omega) _).grown g6 (by simp; omega) (fun j hj => (ov5.lt j hj).1)
        have HO6 : Hid (w6.ownsRow w.heap.size 5 1 v6 (4 + (i + 1) * 41) (rcs b1 (f4 cut ++ (l.take (i + 1)).flatMap encB))) := Lib.hid (by
          rw [HTK.out, HEB.out]
          have hk := HKE.out
          rw [show 4 + (i + 1) * 41 = K + 32 + 4 + 4 + 1 by omega]
          have h := ov6
          simp only [List.append_assoc] at h ⊢
          exact h)
        have HB6 := hBr.trans (bb6.mono (Nat.le_refl _))
        clear ov6 ov5 g6 bb5 bb6 hlz
        go_wp2
        go_roundw
        case rel => exact ⟨i + 1, by omega, by go_num, HO6, HB6⟩
        case measure => simp [intOf]; omega
    · have hlti : ¬ (i : Int) < (l.length : Int) := by omega
      have htk : l.take i = l := List.take_of_length_le (by omega)
      have hi : i = l.length := by omega
      rw [htk, hi] at HOv
      clear htk
      go_wp2
      go_ret
      exact ⟨_, rfl, HOv.out, hBr⟩
end Go.Proofs.Ytblidphaolgilaa
