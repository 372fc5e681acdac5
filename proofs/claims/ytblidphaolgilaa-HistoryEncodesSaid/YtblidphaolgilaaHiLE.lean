/- The walk of the law HistoryEncodes. -/
import Derived.Test.YtblidphaolgilaaHiPk
import Derived.Test.YtblidphaolgilaaHiDe
import Derived.Test.YtblidphaolgilaaHiEc
import Derived.Test.YtblidphaolgilaaHiRE
import Derived.Test.YtblidphaolgilaaHiCl
import Derived.Test.YtblidphaolgilaaHiK
import Derived.Laws.IdiomStrings
namespace Go.Proofs.Ytblidphaolgilaa
open Go.RowKit Go.Maps Go.Sort
set_option linter.unusedSimpArgs false
set_option linter.unusedVariables false

theorem eqt (n : Int) (l : List Ent) : (decide (n = n) && decide (l = l)) = true := by simp
theorem conv_rows {B c : Nat} {ao : Option Addr} {l : List UInt8} {W : World} (h : RowsAt b1 1 B ao l W) (h0 : 0 < l.length) :
    (convert 64 9 (.slice ao l.length c)).run Try.prog W = .ok (.string ⟨l.toArray⟩) W := by
  obtain ⟨g, o, rfl, hg, _⟩ := h.at h0
  refine run_convert_bytes_back (P := Try.prog) W 64 9 5 ⟨g, o, none⟩ c l Try.underlying64 Try.underlying5 Try.underlying9 (fun j hj => ?_)
  obtain ⟨g', o', e, _, hr⟩ := h.at hj
  cases e
  have := hr 0 _ rfl
  rw [Nat.mul_one, Nat.add_zero] at this
  rw [Addr.add_mid, this]
set_option maxRecDepth 100000 in
set_option maxHeartbeats 4000000 in
theorem encodes_walk (v : Value) (ops : List OpE) (w : World) (hv : RowsArg encO 37 v ops w) : Calls Try.prog 10 #[v] w fun e w' => e = .returned (.bool true) ∧ Below w.heap.size w w' := by
  have HV := Lib.hid hv
  clear hv
  go_enter Try.func10, Try.ntmps10
  go_wp2_with fail
  refine (known_any _).mono ?_
  rintro e w2 ⟨rfl, b2⟩
  have HV2 := Lib.hid (HV.out.below b2)
  go_wp2_with fail
  refine (play_ok ops v w2 HV2.out).mono ?_
  rintro e w3 ⟨hb, mb, vr, rows, cut, rfl, hH, hR, hlen, hck, hhb, hmb, b3⟩
  have HH := Lib.hid hH
  have HRW := Lib.hid hR
  have HCK := Lib.hid hck
  have B3 := b2.trans (b3.mono b2.size)
  obtain ⟨cn, hcn⟩ : ∃ cn : Nat, cut = cn := ⟨cut.toNat, by have := hH.c0; omega⟩
  have hcl : cn ≤ 105190559 := by have := hH.c1; omega
  subst hcn
  clear hH hR hck HV HV2 b2 b3
  go_wp2_with fail
  refine (encode_any hb mb rows cn (by omega) w3 HH.out).mono ?_
  rintro e w4 ⟨v4, rfl, ov4, b4⟩
  have HENC : Hid (f4z (cn : Int) ++ rows.flatMap encZ = encH rows cn) := Lib.hid (by unfold encH; rw [f4z_nat (by omega) (by omega), flatZ_eq HCK.out])
  rw [HENC.out] at ov4
  have hel := encH_len rows (cn : Int)
  rw [← hel] at ov4
  obtain ⟨_, a4, c4, rfl, hn4, hlc4, hcm4, hra4⟩ := rows_of_owns b1_len (by decide) ov4
  have HRA4 := Lib.hid hra4
  have HH4 := Lib.hid (HH.out.kept b4)
  have HRW4 := Lib.hid (HRW.out.below b4)
  have B4 := B3.trans (b4.mono B3.size)
  have HDEC : Hid (decB (encH rows cn) = some (rows, (cn : Int))) := Lib.hid (decB_of_enc HH.out.asc HCK.out (by omega) (by omega))
  have HL2 : Hid ((encH rows (cn : Int)).length = 4 + rows.length * 41) := Lib.hid hel
  have hle : (encH rows (cn : Int)).length ≤ 5000 := by omega
  have hl0 : 0 < (encH rows (cn : Int)).length := by omega
  have HREF : Hid (f4 cn ++ rows.flatMap encB = encH rows cn) := Lib.hid rfl
  clear hra4 ov4 HH HRW b4 B3 hel hn4
  generalize encH rows (cn : Int) = eb at *
  go_wp2_with fail
  refine (decode_any eb hle a4 c4 hlc4 hcm4 w4 HRA4.out).mono ?_
  intro e w5 hdp
  unfold DecPost at hdp
  rw [HDEC.out] at hdp
  obtain ⟨b5, kb, nb, rfl, hk5, hkb, hnb⟩ := hdp
  have HK5 := Lib.hid hk5
  have HH5 := Lib.hid (HH4.out.kept b5)
  have HRW5 := Lib.hid (HRW4.out.below b5)
  have HRA5 : Hid (RowsAt b1 1 w5.heap.size a4 eb w5) := Lib.hid ((HRA4.out.below b5 (Nat.le_refl _)).mono b5.size)
  have B5 := B4.trans (b5.mono B4.size)
  clear hk5 HH4 HRW4 HRA4 b5 B4
  go_wp2_with fail
  have HCV : Hid (∀ w', Below w5.heap.size w5 w' → (convert 64 9 (.slice a4 eb.length c4)).run Try.prog w' = .ok (.string ⟨eb.toArray⟩) w') := Lib.hid (fun w' k => conv_rows (HRA5.out.below k (Nat.le_refl _)) hl0)
  refine wp_region_noPanic ?_
  refine wp_region_held_drew (S := fun w' => Below w5.heap.size w5 w') (by kernel_rfl) ((Below.refl _ _).drew) (fun hHeld => ?_)
  refine takeL 0 (v := ?_) rfl (by kernel_rfl) (by kernel_rfl) (by kernel_rfl) (fun _ _ _ h => h) (by rfl) hHeld ?_ ?_
  rotate_left 1
  · intro w2 hSw; go_simp <;> with_reducible rfl
  try simp only [Act.put, List.setIfInBounds_toArray, List.set_cons_zero, List.set_cons_succ]
  refine takeL 1 (v := ?_) rfl (by kernel_rfl) (by kernel_rfl) (by kernel_rfl) (fun _ _ _ h => h) (by rfl) hHeld ?_ ?_
  rotate_left 1
  · intro w2 hSw; have q0 := HCV.out w2 hSw; go_simp <;> with_reducible rfl
  try simp only [Act.put, List.setIfInBounds_toArray, List.set_cons_zero, List.set_cons_succ]
  refine takeL 2 (v := ?_) rfl (by kernel_rfl) (by kernel_rfl) (by kernel_rfl) (fun _ _ _ h => h) (by rfl) hHeld ?_ ?_
  rotate_left 1
  · intro w2 hSw; go_simp <;> with_reducible rfl
  try simp only [Act.put, List.setIfInBounds_toArray, List.set_cons_zero, List.set_cons_succ]
  refine takeL 3 (v := ?_) rfl (by kernel_rfl) (by kernel_rfl) (by kernel_rfl) (fun _ _ _ h => h) (by rfl) hHeld ?_ ?_
  rotate_left 1
  · intro w2 hSw; go_simp <;> with_reducible rfl
  try simp only [Act.put, List.setIfInBounds_toArray, List.set_cons_zero, List.set_cons_succ]
  refine heavyL 4 rfl (by kernel_rfl) (fun K hK => ?_)
  go_simp
  refine (rencode_any rows cn (by omega) HCK.out (by omega) _ _ (HRW5.out.below hHeld)).mono ?_
  rintro e w6 ⟨v6, rfl, ov6, b6⟩
  try go_simp
  refine hK.out _ _ (hHeld.trans (b6.mono hHeld.size)) (fun hHeld => ?_)
  clear hK K
  try simp only [Act.put, List.setIfInBounds_toArray, List.set_cons_zero, List.set_cons_succ]
  rw [HREF.out, ← HL2.out] at ov6
  obtain ⟨_, a6, c6, rfl, _, _, _, hra6⟩ := rows_of_owns b1_len (by decide) ov6
  have hcv6 := conv_rows (c := c6) hra6 hl0
  refine heavyL 5 rfl (by kernel_rfl) (fun K hK => ?_)
  go_simp
  refine hK.out _ _ (hHeld) (fun hHeld => ?_)
  clear hK K
  try simp only [Act.put, List.setIfInBounds_toArray, List.set_cons_zero, List.set_cons_succ]
  refine takeL 6 (v := ?_) rfl (by kernel_rfl) (by kernel_rfl) (by kernel_rfl) (fun _ _ _ h => h) (by rfl) hHeld ?_ ?_
  rotate_left 1
  · intro w2 hSw; go_simp <;> with_reducible rfl
  try simp only [Act.put, List.setIfInBounds_toArray, List.set_cons_zero, List.set_cons_succ]
  refine takeL 7 (v := ?_) rfl (by kernel_rfl) (by kernel_rfl) (by kernel_rfl) (fun _ _ _ h => h) (by rfl) hHeld ?_ ?_
  rotate_left 1
  · intro w2 hSw; go_simp <;> with_reducible rfl
  try simp only [Act.put, List.setIfInBounds_toArray, List.set_cons_zero, List.set_cons_succ]
  refine takeL 8 (v := ?_) rfl (by kernel_rfl) (by kernel_rfl) (by kernel_rfl) (fun _ _ _ h => h) (by rfl) hHeld ?_ ?_
  rotate_left 1
  · intro w2 hSw; go_simp <;> with_reducible rfl
  try simp only [Act.put, List.setIfInBounds_toArray, List.set_cons_zero, List.set_cons_succ]
  refine takeL 9 (v := ?_) rfl (by kernel_rfl) (by kernel_rfl) (by kernel_rfl) (fun _ _ _ h => h) (by rfl) hHeld ?_ ?_
  rotate_left 1
  · intro w2 hSw; go_simp <;> with_reducible rfl
  try simp only [Act.put, List.setIfInBounds_toArray, List.set_cons_zero, List.set_cons_succ]
  refine takeL 10 (v := ?_) rfl (by kernel_rfl) (by kernel_rfl) (by kernel_rfl) (fun _ _ _ h => h) (by rfl) hHeld ?_ ?_
  rotate_left 1
  · intro w2 hSw; go_simp <;> with_reducible rfl
  try simp only [Act.put, List.setIfInBounds_toArray, List.set_cons_zero, List.set_cons_succ]
  refine takeL 11 (v := ?_) rfl (by kernel_rfl) (by kernel_rfl) (by kernel_rfl) (fun _ _ _ h => h) (by rfl) hHeld ?_ ?_
  rotate_left 1
  · intro w2 hSw; go_simp <;> with_reducible rfl
  try simp only [Act.put, List.setIfInBounds_toArray, List.set_cons_zero, List.set_cons_succ]
  refine takeL 12 (v := ?_) rfl (by kernel_rfl) (by kernel_rfl) (by kernel_rfl) (fun _ _ _ h => h) (by rfl) hHeld ?_ ?_
  rotate_left 1
  · intro w2 hSw; go_simp <;> with_reducible rfl
  try simp only [Act.put, List.setIfInBounds_toArray, List.set_cons_zero, List.set_cons_succ]
  refine takeL 13 (v := ?_) rfl (by kernel_rfl) (by kernel_rfl) (by kernel_rfl) (fun _ _ _ h => h) (by rfl) hHeld ?_ ?_
  rotate_left 1
  · intro w2 hSw; go_simp <;> with_reducible rfl
  try simp only [Act.put, List.setIfInBounds_toArray, List.set_cons_zero, List.set_cons_succ]
  refine takeL 14 (v := ?_) rfl (by kernel_rfl) (by kernel_rfl) (by kernel_rfl) (fun _ _ _ h => h) (by rfl) hHeld ?_ ?_
  rotate_left 1
  · intro w2 hSw; go_simp <;> with_reducible rfl
  try simp only [Act.put, List.setIfInBounds_toArray, List.set_cons_zero, List.set_cons_succ]
  refine takeL 15 (v := ?_) rfl (by kernel_rfl) (by kernel_rfl) (by kernel_rfl) (fun _ _ _ h => h) (by rfl) hHeld ?_ ?_
  rotate_left 1
  · intro w2 hSw; go_simp <;> with_reducible rfl
  try simp only [Act.put, List.setIfInBounds_toArray, List.set_cons_zero, List.set_cons_succ]
  refine takeL 16 (v := ?_) rfl (by kernel_rfl) (by kernel_rfl) (by kernel_rfl) (fun _ _ _ h => h) (by rfl) hHeld ?_ ?_
  rotate_left 1
  · intro w2 hSw; go_simp <;> with_reducible rfl
  try simp only [Act.put, List.setIfInBounds_toArray, List.set_cons_zero, List.set_cons_succ]
  refine takeL 17 (v := ?_) rfl (by kernel_rfl) (by kernel_rfl) (by kernel_rfl) (fun _ _ _ h => h) (by rfl) hHeld ?_ ?_
  rotate_left 1
  · intro w2 hSw; go_simp <;> with_reducible rfl
  try simp only [Act.put, List.setIfInBounds_toArray, List.set_cons_zero, List.set_cons_succ]
  refine heavyL 18 rfl (by kernel_rfl) (fun K hK => ?_)
  go_simp
  refine (equal_any kb nb hb mb rows rows cn cn (by omega) (by omega) _ (HK5.out.kept hHeld) (HH5.out.kept hHeld)).mono ?_
  rintro e w7 ⟨rfl, b7⟩
  rw [eqt]
  try go_simp
  refine hK.out _ _ (hHeld.trans (b7.mono hHeld.size)) (fun hHeld => ?_)
  clear hK K
  try simp only [Act.put, List.setIfInBounds_toArray, List.set_cons_zero, List.set_cons_succ]
  refine takeL 19 (v := ?_) rfl (by kernel_rfl) (by kernel_rfl) (by kernel_rfl) (fun _ _ _ h => h) (by rfl) hHeld ?_ ?_
  rotate_left 1
  · intro w2 hSw; go_simp <;> with_reducible rfl
  try simp only [Act.put, List.setIfInBounds_toArray, List.set_cons_zero, List.set_cons_succ]
  refine takeL 20 (v := ?_) rfl (by kernel_rfl) (by kernel_rfl) (by kernel_rfl) (fun _ _ _ h => h) (by rfl) hHeld ?_ ?_
  rotate_left 1
  · intro w2 hSw; go_simp <;> with_reducible rfl
  try simp only [Act.put, List.setIfInBounds_toArray, List.set_cons_zero, List.set_cons_succ]
  refine takeL 21 (v := ?_) rfl (by kernel_rfl) (by kernel_rfl) (by kernel_rfl) (fun _ _ _ h => h) (by rfl) hHeld ?_ ?_
  rotate_left 1
  · intro w2 hSw; go_simp <;> with_reducible rfl
  try simp only [Act.put, List.setIfInBounds_toArray, List.set_cons_zero, List.set_cons_succ]
  refine takeL 22 (v := ?_) rfl (by kernel_rfl) (by kernel_rfl) (by kernel_rfl) (fun _ _ _ h => h) (by rfl) hHeld ?_ ?_
  rotate_left 1
  · intro w2 hSw; go_simp <;> with_reducible rfl
  try simp only [Act.put, List.setIfInBounds_toArray, List.set_cons_zero, List.set_cons_succ]
  refine heavyL 23 rfl (by kernel_rfl) (fun K hK => ?_)
  go_simp
  refine (equal_any hb mb kb nb rows rows cn cn (by omega) (by omega) _ (HH5.out.kept hHeld) (HK5.out.kept hHeld)).mono ?_
  rintro e w8 ⟨rfl, b8⟩
  rw [eqt]
  try go_simp
  refine hK.out _ _ (hHeld.trans (b8.mono hHeld.size)) (fun hHeld => ?_)
  clear hK K
  try simp only [Act.put, List.setIfInBounds_toArray, List.set_cons_zero, List.set_cons_succ]
  refine takeL 24 (v := ?_) rfl (by kernel_rfl) (by kernel_rfl) (by kernel_rfl) (fun _ _ _ h => h) (by rfl) hHeld ?_ ?_
  rotate_left 1
  · intro w2 hSw; go_simp <;> with_reducible rfl
  try simp only [Act.put, List.setIfInBounds_toArray, List.set_cons_zero, List.set_cons_succ]
  refine takeL 25 (v := ?_) rfl (by kernel_rfl) (by kernel_rfl) (by kernel_rfl) (fun _ _ _ h => h) (by rfl) hHeld ?_ ?_
  rotate_left 1
  · intro w2 hSw; go_simp <;> with_reducible rfl
  try simp only [Act.put, List.setIfInBounds_toArray, List.set_cons_zero, List.set_cons_succ]
  refine wpAnyH_done (by kernel_rfl) ?_ _
  refine NoPanic.normal ?_
  have hBf := B5.trans (hHeld.mono B5.size)
  go_wp2
  go_ret
  exact ⟨rfl, hBf⟩
end Go.Proofs.Ytblidphaolgilaa
