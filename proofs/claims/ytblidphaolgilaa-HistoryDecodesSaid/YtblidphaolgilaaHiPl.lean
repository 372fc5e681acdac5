/- History: Play. -/
import Derived.Test.YtblidphaolgilaaHiR5
import Derived.Test.YtblidphaolgilaaHiO
namespace Go.Proofs.Ytblidphaolgilaa
open Go.RowKit Go.Maps
set_option linter.unusedSimpArgs false

theorem rows_but {α : Type} {enc : α → List Value} {k : Nat} (hf : ∀ x, ∃ n, (enc x)[0]? = some (.int .u8 n)) {W W' : World} {hb mb : Nat} {rows : List Ent} {cut : Int} (h : HistAt W hb mb rows cut) (b : But (Two hb mb) W W') {v : Value} {l : List α} (hr : RowsArg enc k v l W) : RowsArg enc k v l W' := by
  obtain ⟨ao, c, rfl, h1, h2, h3, h4⟩ := hr
  refine ⟨ao, c, rfl, h1, h2, h3, fun i hi => ?_⟩
  obtain ⟨g, o, rfl, hg, hc⟩ := h4 i hi
  obtain ⟨n, hn⟩ := hf l[i]
  have hc0 := hc 0 _ hn
  have hnt : ¬ Two hb mb g := by
    rintro (rfl | rfl)
    · rw [cell_of_row _ _ _ _ _ _ h.blk] at hc0
      match hq : o + i * k + 0 with
      | 0 => rw [hq] at hc0; simp at hc0
      | 1 => rw [hq] at hc0; simp at hc0
      | q + 2 => rw [hq] at hc0; simp at hc0
    · obtain ⟨D, ⟨es, clock, hm, _⟩, _⟩ := h.map
      unfold World.cell? at hc0
      rw [hm] at hc0
      simp at hc0
  exact ⟨g, o, rfl, Nat.lt_of_lt_of_le hg b.size, b.range hg hnt hc⟩
theorem encE_u8 (x : Ent) : ∃ n, (encE x)[0]? = some (.int .u8 n) := by
  have hl := x.id.2
  rw [encE_at x 0 (by decide)]
  exact ⟨_, byteCells_get x.id.1 0 (by omega)⟩
theorem encI_u8 (x : I32) : ∃ n, (encI x)[0]? = some (.int .u8 n) := ⟨_, byteCells_get x.1 0 (by have := x.2; omega)⟩
theorem encO_x (o : OpE) (j : Nat) : (encO o)[1 + j]? = (encE o.x)[j]? := by rw [Nat.add_comm]; rfl
theorem rangeO_x {w : World} {g o : Nat} {x : OpE} (h : w.rangeAt g o (encO x)) : w.rangeAt g (o + 1) (encE x.x) := fun j v hv => by
  have := h (1 + j) v (by rw [encO_x]; exact hv)
  rw [← Nat.add_assoc] at this; exact this
theorem results_tmp4 {fn : Func} {t u v x : Tmp} (h : fn.results = #[.tmp t, .tmp u, .tmp v, .tmp x]) (tmps : Array Value) (P : Program) (w : World) :
    (results fn tmps).run P w = .ok (.tuple #[tmps.getD t undef, tmps.getD u undef, tmps.getD v undef, tmps.getD x undef]) w := by
  simp [results, h]
set_option maxRecDepth 100000 in
set_option maxHeartbeats 4000000 in
theorem play_any (ops : List OpE) (v : Value) (w : World) (hv : RowsArg encO 37 v ops w) :
    Calls Try.prog 16 #[v] w fun e w' => ∃ hb mb vr rows cut, e = .returned (.tuple #[.pointer (some ⟨hb, 0, none⟩), vr, .int .i64 cut, .bool true]) ∧ HistAt w' hb mb rows cut ∧ RowsArg encE 36 vr rows w' ∧ rows.length ≤ 40 ∧
      w.heap.size ≤ hb ∧ w.heap.size ≤ mb ∧ Below w.heap.size w w' := by
  obtain ⟨ao, c, rfl, hlc, hcm, hn, hr⟩ := hv
  unfold maxLen at hcm
  have HR := Lib.hid hr
  clear hr hn
  go_enter Try.func16, Try.ntmps16
  go_wp2_with fail
  refine (new_any _).mono ?_
  rintro e w1 ⟨rfl, hH1, b1, hs1⟩
  have HH1 := Lib.hid hH1
  have hmh : w.heap.size < w.heap.size + 1 := Nat.lt_succ_self _
  clear hH1
  have hgehb : w.heap.size ≤ w.heap.size + 1 := Nat.le_succ _
  have hgemb : w.heap.size ≤ w.heap.size := Nat.le_refl _
  generalize hhb : w.heap.size + 1 = hb at *
  obtain ⟨mb, hmb⟩ : ∃ mb, mb = w.heap.size := ⟨_, rfl⟩
  rw [← hmb] at HH1 hmh
  have hgemb' : w.heap.size ≤ mb := by omega
  clear hhb hmb hgemb hs1
  go_wp2_with fail
  go_loopw [2, 3, 4, 6] (fun hp rv cv iv wr => ∃ (i : Nat) (rows : List Ent) (cut : Int), i ≤ ops.length ∧ i ≤ 40 ∧ iv = .int .i64 (i : Int) ∧ hp = .pointer (some ⟨hb, 0, none⟩) ∧ cv = .int .i64 cut ∧ Hid (HistAt wr hb mb rows cut) ∧ Hid (RowsArg encE 36 rv rows wr) ∧ rows.length ≤ i ∧ Below w.heap.size w wr)
    (fun _ _ _ iv _ => (ops.length - intOf iv).toNat)
  case atStart => exact ⟨0, [], 0, Nat.zero_le _, by omega, rfl, rfl, rfl, HH1, Lib.hid ⟨none, 0, rfl, Nat.le_refl _, Nat.zero_le _, fun _ => ⟨rfl, rfl⟩, fun i hi => absurd hi (Nat.not_lt_zero _)⟩, Nat.le_refl _, b1⟩
  case round =>
    obtain ⟨i, rows, cut, hil, hi40, rfl, rfl, rfl, HH, HRW, hrl, hB⟩ := hrel
    by_cases hlt : i < ops.length ∧ i < 40
    · obtain ⟨hlt, hlt40⟩ := hlt
      have hlti : (i : Int) < (ops.length : Int) := by omega
      have hlti4 : (i : Int) < 40 := by omega
      have hi0 : (0 : Int) ≤ (i : Int) := by omega
      obtain ⟨g, o, rfl, hg, hrx⟩ := HR.out.at hlt
      have hrw := rangeAt_below hrx hB hg
      have HRX := Lib.hid (rangeO_x hrw)
      have hsz := hB.size
      have cK : wr.cell? ⟨g, o + i * 37, none⟩ = some (.int .u8 (ops[i].kind.toNat : Int)) := hrw 0 _ rfl
      have HXL := Lib.hid (rxLen ops[i].x)
      have HXS := Lib.hid (rxSize ops[i].x)
      have hk0 : (0 : Int) ≤ (ops[i].kind.toNat : Int) := by omega
      have hk1 : (ops[i].kind.toNat : Int) ≤ 255 := by have := UInt8.toNat_lt ops[i].kind; omega
      clear hrx hrw
      generalize ops[i].x = x at *
      generalize ops[i].kind.toNat = kd at *
      have hgw : g < wr.heap.size := Nat.lt_of_lt_of_le hg hsz
      go_wp2_with (first
        | (refine wpList_load_mid (by rfl) 24 (.tmp 28) (by rfl) g (o + i * 37 + 1) (by rfl) (encE x) _ HRX.out Try.underlying24 rfl HXL.out ?_)
        | (refine wpList_store_abs (by rfl) 24 (.tmp 7) (.tmp 29) (by rfl) wr.heap.size (encE x).toArray (by rfl) (by rfl) _ (encE Ent.zero).toArray (heap_alloc_new wr _) HXS.out (by simp [encE_len]) (ent_one x) wr.heap.size wr ((Below.refl _ _).alloc (Nat.le_refl _) _) (Nat.le_refl _) ?_))
      intro w3 H3 b3 O3
      have hc3 : w3.cell? ⟨g, o + i * 37, none⟩ = some (.int .u8 (kd : Int)) := (b3.cell (p := ⟨g, o + i * 37, none⟩) hgw).trans cK
      have HE3 : Hid (EntAt w3 wr.heap.size 24 x) := H3
      have HH3 := Lib.hid (HH.out.kept b3)
      have HRW3 := Lib.hid (HRW.out.below b3)
      have hB3 := hB.trans (b3.mono hsz)
      have h73 : wr.heap.size < w3.heap.size := (Array.getElem?_eq_some_iff.1 H3.out).1
      have hws3 := hB3.size
      clear H3 O3 cK HRX HH HRW b3
      have hkm : kd % 3 = 0 ∨ kd % 3 = 1 ∨ kd % 3 = 2 := by omega
      have HXS' := HXS
      rcases hkm with hk | hk | hk
      · have hkz : (kd : Int) % 3 = 0 := by omega
        clear hk
        go_wp2_with (refine wpList_load_abs (by rfl) 24 (.tmp 7) (by rfl) wr.heap.size (by rfl) _ _ _ _ HE3.out Try.underlying24 rfl HXS.out ?_)
        refine (radd_any rows x (by omega) u3 w3 HRW3.out).mono ?_
        rintro e w4 ⟨v4, rfl, hr4, b4⟩
        have HE4 := Lib.hid (HE3.out.below b4 h73)
        have HH4 := Lib.hid (HH3.out.kept b4)
        have HR4 := Lib.hid hr4
        have hB4 := hB3.trans (b4.mono hws3)
        have h74 := Nat.lt_of_lt_of_le h73 b4.size
        have hws4 := hB4.size
        clear hr4 b4 HE3 HH3 HRW3 hc3
        go_wp2_with (refine wpList_load_abs (by rfl) 24 (.tmp 7) (by rfl) wr.heap.size (by rfl) _ _ _ _ HE4.out Try.underlying24 rfl HXS.out ?_)
        refine (to_any x _).mono ?_
        rintro e w5 ⟨rfl, b5⟩
        have HH5 := Lib.hid (HH4.out.kept b5)
        have HR5 := Lib.hid (HR4.out.below b5)
        have hB5 := hB4.trans (b5.mono hws4)
        have hws5 := hB5.size
        clear b5 HE4 HH4 HR4
        go_wp2_with fail
        refine (add_any x hb mb rows cut (by omega) w5 HH5.out).mono ?_
        rintro e w6 ⟨rfl, hH6, b6⟩
        have HH6 := Lib.hid hH6
        have HR6 := Lib.hid (rows_but encE_u8 HH5.out b6 HR5.out)
        have hB6 := hB5.trans (b6.below hws5 (fun k h => by rcases h with h | h <;> omega))
        have hln := addE_len rows x
        clear hH6 b6 HH5 HR5
        generalize (addE rows x).1 = rows2 at *
        generalize (addE rows x).2 = ec at *
        go_wp2
        go_roundw
        case rel => exact ⟨i + 1, rows2, cut, by omega, by omega, by go_num, rfl, rfl, HH6, HR6, by omega, hB6⟩
        case measure => simp [intOf]; omega
      · have hkz : (kd : Int) % 3 = 1 := by omega
        clear hk
        have HSI := Lib.hid (idSize22 x.id)
        go_wp2_with (refine wpList_load_mid (by rfl) 22 (.tmp 98) (by rfl) wr.heap.size 0 (by rfl) (encI x.id) _ HE3.out.idr Try.underlying22 rfl HSI.out ?_)
        refine (rsetGone_any rows x.id HH3.out.asc (by omega) u3 w3 HRW3.out).mono ?_
        rintro e w4 ⟨v4, rfl, hr4, b4⟩
        have HE4 := Lib.hid (HE3.out.below b4 h73)
        have HH4 := Lib.hid (HH3.out.kept b4)
        have HR4 := Lib.hid hr4
        have hB4 := hB3.trans (b4.mono hws3)
        have hws4 := hB4.size
        clear hr4 b4 HE3 HH3 HRW3 hc3
        go_wp2_with (refine wpList_load_mid (by rfl) 22 (.tmp 104) (by rfl) wr.heap.size 0 (by rfl) (encI x.id) _ HE4.out.idr Try.underlying22 rfl HSI.out ?_)
        refine (setGone_any x.id hb mb rows cut (by omega) w4 HH4.out).mono ?_
        rintro e w6 ⟨rfl, hH6, b6⟩
        have HH6 := Lib.hid hH6
        have HR6 := Lib.hid (rows_but encE_u8 HH4.out b6 HR4.out)
        have hB6 := hB4.trans (b6.below hws4 (fun k h => by rcases h with h | h <;> omega))
        have hln := goneE_len rows x.id
        clear hH6 b6 HH4 HR4 HE4
        generalize (goneE rows x.id).1 = rows2 at *
        generalize (goneE rows x.id).2 = ec at *
        go_wp2
        go_roundw
        case rel => exact ⟨i + 1, rows2, cut, by omega, by omega, by go_num, rfl, rfl, HH6, HR6, by omega, hB6⟩
        case measure => simp [intOf]; omega
      · have hkz : (kd : Int) % 3 = 2 := by omega
        clear hk
        have c32 := HE3.out.cell 32 _ (encE_32 x)
        go_wp2_with fail
        refine (rforget_any rows cut x.arr.1 (by omega) u3 w3 HRW3.out).mono ?_
        rintro e w4 ⟨v4, vo, rfl, hr4, ho4, b4⟩
        have HE4 := HE3.out.below b4 h73
        have c32' := HE4.cell 32 _ (encE_32 x)
        have HH4 := Lib.hid (HH3.out.kept b4)
        have HR4 := Lib.hid hr4
        have HO4 := Lib.hid ho4
        have hB4 := hB3.trans (b4.mono hws3)
        have hws4 := hB4.size
        clear hr4 b4 HE3 HH3 HRW3 hc3 ho4 HE4 c32
        go_wp2_with fail
        refine (forget_any x.arr.1 hb mb rows cut (by omega) w4 HH4.out).mono ?_
        rintro e w6 ⟨vg, rfl, og6, hH6, b6⟩
        have HH6 := Lib.hid hH6
        have HR6 := Lib.hid (rows_but encE_u8 HH4.out b6 HR4.out)
        have HO6 := Lib.hid (rows_but encI_u8 HH4.out b6 HO4.out)
        have hB6 := hB4.trans (b6.below hws4 (fun k h => by rcases h with h | h <;> omega))
        have hln := forgR_len rows x.arr.1
        clear hH6 b6 HH4 HR4 HO4 c32'
        have hg6 : RowsArg encI 32 vg (forgO rows x.arr.1) w6 := rows_arg encI_len (by decide) og6
        have hws6 := hB6.size
        generalize forgO rows x.arr.1 = gl at *
        generalize forgR rows x.arr.1 = rows2 at *
        generalize forgC rows cut x.arr.1 = cut2 at *
        obtain ⟨ag, cg, rfl, _, hcg, _, hag⟩ := hg6
        obtain ⟨ah, ch, rfl, _, hch, _, hah⟩ := HO6.out
        unfold maxLen at hcg hch
        have HAG := Lib.hid hag
        have HAH := Lib.hid hah
        clear og6 hag hah HO6 hgw h73 hws3 hws4 hB4 hB3
        rename_i hgl _ _ hgl2 _
        go_wp2_with fail
        go_loopw [2, 13] (fun hp jv wq => ∃ (j : Nat), j ≤ gl.length ∧ jv = .int .i64 (j : Int) ∧ hp = .pointer (some ⟨hb, 0, none⟩) ∧ Below w6.heap.size w6 wq) (fun _ jv _ => (gl.length - intOf jv).toNat)
        case atStart => exact ⟨0, Nat.zero_le _, rfl, rfl, Below.refl _ _⟩
        case round =>
          obtain ⟨j, hjl, rfl, rfl, hBq⟩ := hrel
          by_cases hjt : j < gl.length
          · have hjti : (j : Int) < (gl.length : Int) := by omega
            obtain ⟨g1, o1, rfl, hg1, hr1⟩ := HAG.out.at hjt
            obtain ⟨g2, o2, rfl, hg2, hr2⟩ := HAH.out.at hjt
            have HA1 : Hid (∀ w', Below w6.heap.size w6 w' → w'.rangeAt g1 (o1 + j * 32) (encI gl[j])) := Lib.hid (fun w' b => rangeAt_below hr1 b hg1)
            have HA2 : Hid (∀ w', Below w6.heap.size w6 w' → w'.rangeAt g2 (o2 + j * 32) (encI gl[j])) := Lib.hid (fun w' b => rangeAt_below hr2 b hg2)
            have HS1 := Lib.hid (idSize29 gl[j])
            have HS2 := Lib.hid (idSize22 gl[j])
            have HEQ : Hid (∀ w', Below w6.heap.size w6 w' → (Op.equalIn 10000 22 (.agg (encI gl[j]).toArray) (.agg (encI gl[j]).toArray)).run Try.prog w' = .ok true w') := Lib.hid (fun w' _ => by rw [eqI22]; simp)
            clear hr1 hr2
            generalize gl[j] = y at *
            go_wp2_with fail
            refine wp_region_noPanic ?_
            refine wp_region_held_drew (S := fun w' => Below w6.heap.size w6 w') (by kernel_rfl) (hBq.drew) (fun hHeld => ?_)
            refine takeL 0 (v := ?_) rfl (by kernel_rfl) (by kernel_rfl) (by kernel_rfl) (fun _ _ _ h => h) (by rfl) hHeld ?_ ?_
            rotate_left 1
            · intro w2 hSw; go_simp <;> with_reducible rfl
            try simp only [Act.put, List.setIfInBounds_toArray, List.set_cons_zero, List.set_cons_succ]
            refine takeL 1 (v := ?_) rfl (by kernel_rfl) (by kernel_rfl) (by kernel_rfl) (fun _ _ _ h => h) (by rfl) hHeld ?_ ?_
            rotate_left 1
            · intro w2 hSw; go_simp <;> with_reducible rfl
            try simp only [Act.put, List.setIfInBounds_toArray, List.set_cons_zero, List.set_cons_succ]
            refine takeL 2 (v := ?_) rfl (by kernel_rfl) (by kernel_rfl) (by kernel_rfl) (fun _ _ _ h => h) (by rfl) hHeld ?_ ?_
            rotate_left 1
            · intro w2 hSw; go_simp <;> with_reducible rfl
            try simp only [Act.put, List.setIfInBounds_toArray, List.set_cons_zero, List.set_cons_succ]
            refine takeRow 3 rfl (by kernel_rfl) (by kernel_rfl) (by kernel_rfl) 27 (.tmp 65) rfl (g1) (o1 + j * 32) rfl (encI y) _ (fun _ _ _ h => h) (by rfl) hHeld HA1.out Try.underlying27 rfl HS1.out ?_
            try simp only [Act.put, List.setIfInBounds_toArray, List.set_cons_zero, List.set_cons_succ]
            refine takeL 4 (v := ?_) rfl (by kernel_rfl) (by kernel_rfl) (by kernel_rfl) (fun _ _ _ h => h) (by rfl) hHeld ?_ ?_
            rotate_left 1
            · intro w2 hSw; go_simp <;> with_reducible rfl
            try simp only [Act.put, List.setIfInBounds_toArray, List.set_cons_zero, List.set_cons_succ]
            refine takeL 5 (v := ?_) rfl (by kernel_rfl) (by kernel_rfl) (by kernel_rfl) (fun _ _ _ h => h) (by rfl) hHeld ?_ ?_
            rotate_left 1
            · intro w2 hSw; go_simp <;> with_reducible rfl
            try simp only [Act.put, List.setIfInBounds_toArray, List.set_cons_zero, List.set_cons_succ]
            refine takeL 6 (v := ?_) rfl (by kernel_rfl) (by kernel_rfl) (by kernel_rfl) (fun _ _ _ h => h) (by rfl) hHeld ?_ ?_
            rotate_left 1
            · intro w2 hSw; go_simp <;> with_reducible rfl
            try simp only [Act.put, List.setIfInBounds_toArray, List.set_cons_zero, List.set_cons_succ]
            refine takeRow 7 rfl (by kernel_rfl) (by kernel_rfl) (by kernel_rfl) 22 (.tmp 69) rfl (g2) (o2 + j * 32) rfl (encI y) _ (fun _ _ _ h => h) (by rfl) hHeld HA2.out Try.underlying22 rfl HS2.out ?_
            try simp only [Act.put, List.setIfInBounds_toArray, List.set_cons_zero, List.set_cons_succ]
            refine takeL 8 (v := ?_) rfl (by kernel_rfl) (by kernel_rfl) (by kernel_rfl) (fun _ _ _ h => h) (by rfl) hHeld ?_ ?_
            rotate_left 1
            · intro w2 hSw; have q0 := HEQ.out w2 hSw; go_simp <;> with_reducible rfl
            try simp only [Act.put, List.setIfInBounds_toArray, List.set_cons_zero, List.set_cons_succ]
            refine wpAnyH_done (by kernel_rfl) ?_ _
            refine NoPanic.normal ?_
            have hBn := hHeld
            clear hHeld
            go_wp2_with fail
            go_roundw
            case rel => exact ⟨j + 1, by omega, by go_num, rfl, hBn⟩
            case measure => simp [intOf]; omega
          · have hjti : ¬ (j : Int) < (gl.length : Int) := by omega
            have HHq := Lib.hid (HH6.out.kept hBq)
            have HRq := Lib.hid (HR6.out.below hBq)
            have hBF := hB6.trans (hBq.mono hws6)
            clear HH6 HR6 hBq HAG HAH
            go_wp2_with fail
            go_roundw
            case rel => exact ⟨i + 1, rows2, cut2, by omega, by omega, by go_num, rfl, rfl, HHq, HRq, by omega, hBF⟩
            case measure => simp [intOf]; omega
    · have hor : ops.length ≤ i ∨ 40 ≤ i := by omega
      by_cases hlt1 : i < ops.length
      · have hlti : (i : Int) < (ops.length : Int) := by omega
        have hlti4 : ¬ (i : Int) < 40 := by omega
        go_wp2
        try simp only [Exit.inBlock, Exit.then]
        refine bodyPost_ret (results_tmp4 rfl _ _ _) rfl ?_
        exact ⟨hb, mb, _, rows, cut, rfl, HH.out, HRW.out, by omega, hgehb, hgemb', hB⟩
      · have hlti : ¬ (i : Int) < (ops.length : Int) := by omega
        go_wp2
        try simp only [Exit.inBlock, Exit.then]
        refine bodyPost_ret (results_tmp4 rfl _ _ _) rfl ?_
        exact ⟨hb, mb, _, rows, cut, rfl, HH.out, HRW.out, by omega, hgehb, hgemb', hB⟩
end Go.Proofs.Ytblidphaolgilaa
