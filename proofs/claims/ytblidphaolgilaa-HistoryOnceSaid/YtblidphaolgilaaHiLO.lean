/- The walk of the law HistoryOnce. -/
import Derived.Test.YtblidphaolgilaaHiPl
namespace Go.Proofs.Ytblidphaolgilaa
open Go.RowKit Go.Maps
set_option linter.unusedSimpArgs false

/-- the entry is there, or it was forgotten and is too old -/
def Once (x : Ent) (rows : List Ent) (cut : Int) : Prop := (∃ y ∈ rows, y.id = x.id ∧ y.dat = x.dat ∧ y.perm = x.perm) ∨ (oldB x.dat.1 cut = true ∧ x.perm = false)
theorem Once.judge {x : Ent} {rows : List Ent} {cut : Int} (h : Once x rows cut) (now : Int) : judgeE rows cut x.id x.dat.1 now x.perm ≠ 0 := by
  unfold judgeE
  split
  · rcases h with ⟨y, hy, hid, _, _⟩ | ⟨ho, hp⟩
    · have : (fnd rows x.id).isSome = true := by
        cases hf : fnd rows x.id with
        | none => exact absurd hid (fnd_none.1 hf y hy)
        | some z => rfl
      rw [if_pos this]; decide
    · split
      · decide
      · split
        · decide
        · rw [if_pos (by rw [ho, hp]; simp)]; decide
  · decide
theorem Once.gone {x : Ent} {rows : List Ent} {cut : Int} (h : Once x rows cut) (id : I32) : Once x (goneE rows id).1 cut := by
  rcases h with ⟨y, hy, h1, h2, h3⟩ | h
  · unfold goneE
    split
    · exact .inl ⟨y, hy, h1, h2, h3⟩
    · split
      · exact .inl ⟨y, hy, h1, h2, h3⟩
      · refine .inl ⟨gone1 id y, List.mem_map_of_mem hy, ?_⟩
        unfold gone1; split <;> exact ⟨h1, h2, h3⟩
  · exact .inr h
theorem Once.forget {x : Ent} {rows : List Ent} {cut : Int} (h : Once x rows cut) (m : Int) : Once x (forgR rows m) (forgC rows cut m) := by
  rcases h with ⟨y, hy, h1, h2, h3⟩ | ⟨ho, hp⟩
  · cases hg : goesM m y with
    | false => exact .inl ⟨y, by rw [forgR_eq]; exact List.mem_filter.2 ⟨hy, by simp [hg]⟩, h1, h2, h3⟩
    | true =>
      refine .inr ?_
      have hne : forgO rows m ≠ [] := by
        rw [forgO_eq]
        intro e
        have := List.map_eq_nil_iff.1 e
        rw [List.filter_eq_nil_iff] at this
        exact this y hy hg
      unfold goesM goesE at hg
      simp only [Bool.and_eq_true, Bool.not_eq_true'] at hg
      obtain ⟨_, ⟨_, hp⟩, ho⟩ := hg
      refine ⟨?_, by rw [← h3]; exact hp⟩
      unfold forgC
      rw [if_neg hne, oldB_max, ← h2, ho, Bool.or_true]
  · refine .inr ⟨?_, hp⟩
    unfold forgC
    split
    · exact ho
    · rw [oldB_max, ho, Bool.true_or]
theorem Once.added {x : Ent} {rows : List Ent} {cut : Int} (h : (addE rows x).2 = 0) : Once x (addE rows x).1 cut := by
  unfold addE at *
  split at h
  · rename_i hc
    rw [if_pos hc]
    split at h
    · simp at h
    · rename_i hn
      rw [if_neg hn]
      exact .inl ⟨x, insE_mem.2 (.inl rfl), rfl, rfl, rfl⟩
  · rename_i hc; exact absurd h hc
set_option maxRecDepth 100000 in
set_option maxHeartbeats 4000000 in
theorem once_walk (v va : Value) (ops aft : List OpE) (x : Ent) (now thn : Int) (w : World) (hv : RowsArg encO 37 v ops w) (hva : RowsArg encO 37 va aft w) :
    Calls Try.prog 5 #[v, encX x, va, .int .i64 now, .int .i64 thn] w fun e w' => e = .returned (.bool true) ∧ Below w.heap.size w w' := by
  obtain ⟨aa, ca, rfl, hlca, hcma, _, hra⟩ := hva
  unfold maxLen at hcma
  have hN := EntAt.new w x 24
  have hB : Below w.heap.size w (w.alloc (.cells (encE x).toArray 24)) := (Below.refl _ w).alloc (Nat.le_refl _) _
  have hsz : w.heap.size < (w.alloc (.cells (encE x).toArray 24)).heap.size := by simp
  obtain ⟨w1, hw1⟩ : ∃ w1, w.alloc (.cells (encE x).toArray 24) = w1 := ⟨_, rfl⟩
  rw [hw1] at hN hB hsz
  have HE1 := Lib.hid hN
  have HV := Lib.hid (hv.below hB)
  have HRA := Lib.hid hra
  have HSX := Lib.hid (rxSize x)
  have HSI := Lib.hid (idSize22 x.id)
  clear hN hv hra
  unfold encX
  go_enter Try.func5, Try.ntmps5
  go_wp2_with fail
  refine (known_any _).mono ?_
  rintro e w2 ⟨rfl, b2⟩
  clear hw1
  have HV2 := Lib.hid (HV.out.below b2)
  go_wp2_with fail
  refine (play_any ops v w2 HV2.out).mono ?_
  rintro e w3 ⟨hb, mb, vr, rows, cut, rfl, hH, hR, hlen, hhb, hmb, b3⟩
  have HH := Lib.hid hH
  have b13 := b2.trans (b3.mono b2.size)
  have h12 := b2.size
  have h13 := b13.size
  have HE3 := Lib.hid (HE1.out.below b13 hsz)
  have hB3 := hB.trans (b13.mono (Nat.le_of_lt hsz))
  have hhb' : w.heap.size < hb := by omega
  have hmb' : w.heap.size < mb := by omega
  clear hH hR HV HV2 b2 b3 HE1
  have c33 := (HE3.out).cell 33 _ (encE_33 x)
  have c35 := (HE3.out).cell 35 _ (encE_35 x)
  cases hj : decide (judgeE rows cut x.id x.dat.1 now x.perm = 0) with
  | false =>
    have hj' : judgeE rows cut x.id x.dat.1 now x.perm ≠ 0 := by simpa using hj
    obtain ⟨jc, hjc⟩ : ∃ jc, judgeE rows cut x.id x.dat.1 now x.perm = jc := ⟨_, rfl⟩
    rw [hjc] at hj'
    have HJC := Lib.hid hjc
    have hjB : (jc != 0) = true := by simpa using hj'
    have hjB2 : (jc == 0) = false := by simpa using hj'
    clear hj hjc
    go_wp2_with (refine wpList_one (.inr (by rfl)) (wp_load_mid 22 (.tmp 29) (by rfl) w.heap.size 0 (by rfl) (encI x.id) _ HE3.out.idr Try.underlying22 rfl HSI.out ?_))
    refine (judge_any x.id x.dat.1 now x.perm hb mb rows cut _ HH.out).mono ?_
    rw [HJC.out]
    rintro e w4 ⟨rfl, b4⟩
    clear HJC
    go_wp2
    go_ret
    exact ⟨rfl, hB3.trans (b4.mono hB3.size)⟩
  | true =>
    have HJ := Lib.hid (of_decide_eq_true hj)
    clear hj
    go_wp2_with (refine wpList_one (.inr (by rfl)) (wp_load_mid 22 (.tmp 29) (by rfl) w.heap.size 0 (by rfl) (encI x.id) _ HE3.out.idr Try.underlying22 rfl HSI.out ?_))
    refine (judge_any x.id x.dat.1 now x.perm hb mb rows cut _ HH.out).mono ?_
    rw [HJ.out]
    rintro e w4 ⟨rfl, b4⟩
    have HH4 := Lib.hid (HH.out.kept b4)
    have HE4 := Lib.hid (HE3.out.below b4 (Nat.lt_of_lt_of_le hsz h13))
    have hB4 := hB3.trans (b4.mono hB3.size)
    have h34 := b4.size
    clear HJ HH HE3 b4 c33 c35
    go_wp2_with (refine wpList_load_abs (by rfl) 24 (.tmp 6) (by rfl) w.heap.size (by rfl) _ _ _ _ HE4.out Try.underlying24 rfl HSX.out ?_)
    refine (to_any x _).mono ?_
    rintro e w5 ⟨rfl, b5⟩
    have HH5 := Lib.hid (HH4.out.kept b5)
    have HE5 := Lib.hid (HE4.out.below b5 (by omega))
    have hB5 := hB4.trans (b5.mono hB4.size)
    have h45 := b5.size
    clear HH4 HE4 b5
    go_wp2_with fail
    refine (add_any x hb mb rows cut (by omega) w5 HH5.out).mono ?_
    rintro e w6 ⟨rfl, hH6, b6⟩
    have hln := addE_len rows x
    have hnt : ¬ Two hb mb w.heap.size := fun h => by rcases h with h | h <;> omega
    have HE6 : Hid (EntAt w6 w.heap.size 24 x) := Lib.hid (b6.heap HE5.out hnt)
    have HH6 := Lib.hid hH6
    have hB6 := hB5.trans (b6.below hB5.size (fun k h => by rcases h with h | h <;> omega))
    clear hH6 b6 HH5 HE5
    by_cases hac : (addE rows x).2 = 0
    · have HO := Lib.hid (Once.added (cut := cut) hac)
      rw [hac]
      clear hac
      generalize (addE rows x).1 = rows2 at *
      go_wp2_with fail
      go_loopw [15] (fun iv wr => ∃ (i : Nat) (rs : List Ent) (cu : Int), i ≤ aft.length ∧ i ≤ 40 ∧ iv = .int .i64 (i : Int) ∧ Hid (HistAt wr hb mb rs cu) ∧ Hid (Once x rs cu) ∧ rs.length ≤ 41 ∧ Hid (EntAt wr w.heap.size 24 x) ∧ Below w.heap.size w wr)
        (fun iv _ => (aft.length - intOf iv).toNat)
      case atStart => exact ⟨0, rows2, cut, Nat.zero_le _, by omega, rfl, HH6, HO, by omega, HE6, hB6⟩
      case round =>
        obtain ⟨i, rs, cu, hil, hi40, rfl, HHr, HOr, hrs, HEr, hBr⟩ := hrel
        by_cases hlt : i < aft.length ∧ i < 40
        · obtain ⟨hlt, hlt40⟩ := hlt
          have hlti : (i : Int) < (aft.length : Int) := by omega
          have hlti4 : (i : Int) < 40 := by omega
          have hi0 : (0 : Int) ≤ (i : Int) := by omega
          obtain ⟨g, o, rfl, hg, hrx⟩ := HRA.out.at hlt
          have hrw := rangeAt_below hrx hBr hg
          have HRX := Lib.hid (rangeO_x hrw)
          have hszr := hBr.size
          have cK : wr.cell? ⟨g, o + i * 37, none⟩ = some (.int .u8 (aft[i].kind.toNat : Int)) := hrw 0 _ rfl
          have HSJ := Lib.hid (idSize22 aft[i].x.id)
          have hk0 : (0 : Int) ≤ (aft[i].kind.toNat : Int) := by omega
          have hk1 : (aft[i].kind.toNat : Int) ≤ 255 := by have := UInt8.toNat_lt aft[i].kind; omega
          clear hrx hrw
          generalize aft[i].x = y at *
          generalize aft[i].kind.toNat = kd at *
          have hgw : g < wr.heap.size := Nat.lt_of_lt_of_le hg hszr
          have hgt : ¬ Two hb mb g := fun h => by rcases h with h | h <;> omega
          have hkm : kd % 3 = 0 ∨ kd % 3 = 1 ∨ kd % 3 = 2 := by omega
          rcases hkm with hk | hk | hk
          · have hkz : (kd : Int) % 3 = 0 := by omega
            clear hk
            go_wp2
            go_roundw
            case rel => exact ⟨i + 1, rs, cu, by omega, by omega, by go_num, HHr, HOr, hrs, HEr, hBr⟩
            case measure => simp [intOf]; omega
          · have hkz : (kd : Int) % 3 = 1 := by omega
            clear hk
            go_wp2_with (refine wpList_load_mid (by rfl) 22 (.tmp 69) (by rfl) g (o + i * 37 + 1) (by rfl) (encI y.id) _ (rangeE_id HRX.out) Try.underlying22 rfl HSJ.out ?_)
            refine (setGone_any y.id hb mb rs cu (by omega) wr HHr.out).mono ?_
            rintro e w7 ⟨rfl, hH7, b7⟩
            have HH7 := Lib.hid hH7
            have HE7 : Hid (EntAt w7 w.heap.size 24 x) := Lib.hid (b7.heap HEr.out hnt)
            have hB7 := hBr.trans (b7.below hszr (fun k h => by rcases h with h | h <;> omega))
            have HO7 := Lib.hid (HOr.out.gone y.id)
            have hl7 := goneE_len rs y.id
            have cK7 : w7.cell? ⟨g, o + i * 37, none⟩ = some (.int .u8 (kd : Int)) := (b7.cell hgw hgt).trans cK
            clear hH7 b7 HHr HEr HOr cK HRX
            generalize (goneE rs y.id).1 = rs2 at *
            generalize (goneE rs y.id).2 = ec at *
            go_wp2
            go_roundw
            case rel => exact ⟨i + 1, rs2, cu, by omega, by omega, by go_num, HH7, HO7, by omega, HE7, hB7⟩
            case measure => simp [intOf]; omega
          · have hkz : (kd : Int) % 3 = 2 := by omega
            clear hk
            go_wp2_with (refine wpList_load_mid (by rfl) 22 (.tmp 80) (by rfl) w.heap.size 0 (by rfl) (encI x.id) _ HEr.out.idr Try.underlying22 rfl HSI.out ?_)
            refine (setGone_any x.id hb mb rs cu (by omega) wr HHr.out).mono ?_
            rintro e w7 ⟨rfl, hH7, b7⟩
            have HH7 := Lib.hid hH7
            have HE7 : Hid (EntAt w7 w.heap.size 24 x) := Lib.hid (b7.heap HEr.out hnt)
            have hB7 := hBr.trans (b7.below hszr (fun k h => by rcases h with h | h <;> omega))
            have HO7 := Lib.hid (HOr.out.gone x.id)
            have hl7 := goneE_len rs x.id
            have hrx7 := b7.range hgw hgt HRX.out
            have c32 : w7.cell? ⟨g, o + i * 37 + 1 + 32, none⟩ = some (.int .i64 y.arr.1) := hrx7 32 _ (encE_32 y)
            have hs7 := hB7.size
            clear hH7 b7 HHr HEr HOr cK HRX hrx7
            generalize (goneE rs x.id).1 = rs2 at *
            generalize (goneE rs x.id).2 = ec at *
            go_wp2_with fail
            refine (forget_any y.arr.1 hb mb rs2 cu (by omega) w7 HH7.out).mono ?_
            rintro e w8 ⟨v8, rfl, _, hH8, b8⟩
            have HH8 := Lib.hid hH8
            have HE8 : Hid (EntAt w8 w.heap.size 24 x) := Lib.hid (b8.heap HE7.out hnt)
            have hB8 := hB7.trans (b8.below hs7 (fun k h => by rcases h with h | h <;> omega))
            have HO8 := Lib.hid (HO7.out.forget y.arr.1)
            have hl8 := forgR_len rs2 y.arr.1
            clear hH8 b8 HH7 HE7 HO7 c32
            generalize forgR rs2 y.arr.1 = rs3 at *
            generalize forgC rs2 cu y.arr.1 = cu3 at *
            go_wp2
            go_roundw
            case rel => exact ⟨i + 1, rs3, cu3, by omega, by omega, by go_num, HH8, HO8, by omega, HE8, hB8⟩
            case measure => simp [intOf]; omega
        · skip
          have c33 := (HEr.out).cell 33 _ (encE_33 x)
          have c35 := (HEr.out).cell 35 _ (encE_35 x)
          obtain ⟨jc, hjc⟩ : ∃ jc, judgeE rs cu x.id x.dat.1 thn x.perm = jc := ⟨_, rfl⟩
          have hj' := HOr.out.judge thn
          rw [hjc] at hj'
          have HJC := Lib.hid hjc
          have hjB : (jc != 0) = true := by simpa using hj'
          have hjB2 : (jc == 0) = false := by simpa using hj'
          clear hjc
          by_cases hlt1 : i < aft.length
          · have hlti : (i : Int) < (aft.length : Int) := by omega
            have hlti4 : ¬ (i : Int) < 40 := by omega
            go_wp2_with (refine wpList_load_mid (by rfl) 22 (.tmp 92) (by rfl) w.heap.size 0 (by rfl) (encI x.id) _ HEr.out.idr Try.underlying22 rfl HSI.out ?_)
            refine (judge_any x.id x.dat.1 thn x.perm hb mb rs cu _ HHr.out).mono ?_
            rw [HJC.out]
            rintro e w9 ⟨rfl, b9⟩
            clear HJC
            go_wp2
            go_ret
            exact ⟨rfl, hBr.trans (b9.mono hBr.size)⟩
          · have hlti : ¬ (i : Int) < (aft.length : Int) := by omega
            go_wp2_with (refine wpList_load_mid (by rfl) 22 (.tmp 92) (by rfl) w.heap.size 0 (by rfl) (encI x.id) _ HEr.out.idr Try.underlying22 rfl HSI.out ?_)
            refine (judge_any x.id x.dat.1 thn x.perm hb mb rs cu _ HHr.out).mono ?_
            rw [HJC.out]
            rintro e w9 ⟨rfl, b9⟩
            clear HJC
            go_wp2
            go_ret
            exact ⟨rfl, hBr.trans (b9.mono hBr.size)⟩
    · generalize (addE rows x).2 = ac at *
      have haB : (ac != 0) = true := by simpa using hac
      have haB2 : (ac == 0) = false := by simpa using hac
      go_wp2
      go_ret
      exact ⟨rfl, hB6⟩
end Go.Proofs.Ytblidphaolgilaa
