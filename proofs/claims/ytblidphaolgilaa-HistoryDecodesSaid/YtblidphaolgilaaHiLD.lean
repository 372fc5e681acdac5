/- The walk of the law HistoryDecodes. -/
import Derived.Test.YtblidphaolgilaaHiRD
import Derived.Test.YtblidphaolgilaaHiDe
import Derived.Test.YtblidphaolgilaaHiEc
import Derived.Test.YtblidphaolgilaaHiEn
import Derived.Test.YtblidphaolgilaaHiSm
import Derived.Test.YtblidphaolgilaaHiF
import Derived.Test.YtblidphaolgilaaHiK
import Derived.Test.YtblidphaolgilaaHiO
import Derived.Laws.IdiomStrings
namespace Go.Proofs.Ytblidphaolgilaa
open Go.RowKit Go.Maps Go.Sort
set_option linter.unusedSimpArgs false
set_option linter.unusedVariables false

theorem eqr (l : List Ent) : decide (l = l) = true := by simp
theorem conv_rows2 {B c : Nat} {ao : Option Addr} {l : List UInt8} {W : World} (h : RowsAt b1 1 B ao l W) (h0 : 0 < l.length) :
    (convert 64 9 (.slice ao l.length c)).run Try.prog W = .ok (.string ⟨l.toArray⟩) W := by
  obtain ⟨g, o, rfl, hg, _⟩ := h.at h0
  refine run_convert_bytes_back (P := Try.prog) W 64 9 5 ⟨g, o, none⟩ c l Try.underlying64 Try.underlying5 Try.underlying9 (fun j hj => ?_)
  obtain ⟨g', o', e, _, hr⟩ := h.at hj
  cases e
  have := hr 0 _ rfl
  rw [Nat.mul_one, Nat.add_zero] at this
  rw [Addr.add_mid, this]
theorem byte_of_trod {H : Type} {enc : TypeId × Value → H} {w : World} {base : Nat} {spare : Nat → Bool} {held : Bool} {fuel : Nat} {cs : List Value} {x : DataW H × List MemPlace}
    (h : DataW.trod enc Try.prog w base spare held fuel 5 cs = some x) : ∃ u : UInt8, cs = b1 u := by
  obtain ⟨n0, e0, _, w0⟩ := DataW.trod_int Try.underlying5 h
  have hb := bounds_u8 w0
  refine ⟨UInt8.ofNat n0.toNat, ?_⟩
  rw [e0]
  unfold b1
  simp
  omega
set_option maxRecDepth 100000 in
open Go.WideShapes in
theorem open_bytesE {H : Type} {enc : TypeId × Value → H} {W : World} {base : Nat} {v : Value} {d : DataW H} {p : List MemPlace}
    (hval : Value.okWide Try.prog W .any base 64 v) (h : DataW.Trod enc Try.prog W 0 (fun _ => true) true 64 v d p) : ∃ l, RowsArg b1 1 v l W :=
  open_rows b1_len (by decide) Try.underlying64 (by kernel_rfl) (fun _ _ _ h => byte_of_trod h) hval h
set_option maxRecDepth 100000 in
set_option maxHeartbeats 4000000 in
theorem decodes_walk (v : Value) (b : List UInt8) (w : World) (hv : RowsArg b1 1 v b w) : Calls Try.prog 9 #[v] w fun e w' => e = .returned (.bool true) ∧ Below w.heap.size w w' := by
  obtain ⟨ao, c, rfl, hlc, hcm, hn, hr⟩ := hv
  have HR := Lib.hid hr
  have HN := Lib.hid hn
  clear hr hn
  go_enter Try.func9, Try.ntmps9
  go_wp2_with fail
  have hm' : (min (b.length : Int) 2000).toNat = (b.take 2000).length := by rw [List.length_take]; omega
  rw [hm']
  have HR2 := Lib.hid (HR.out.take 2000)
  have hl2 : (b.take 2000).length ≤ 2000 := List.length_take_le _ _
  have hlc2 : (b.take 2000).length ≤ c := by rw [List.length_take]; omega
  clear hm' HR HN hlc
  generalize b.take 2000 = eb at *
  refine (known_any _).mono ?_
  rintro e w2 ⟨rfl, b2⟩
  have HR3 := Lib.hid ((HR2.out.below b2 (Nat.le_refl _)).mono b2.size)
  have s2 := b2.size
  clear HR2
  go_wp2_with fail
  refine (decode_any eb (by omega) ao c hlc2 hcm w2 HR3.out).mono ?_
  intro e w4 hdp
  unfold DecPost at hdp
  cases hdec : decB eb with
  | none =>
    rw [hdec] at hdp
    obtain ⟨b4, rfl⟩ := hdp
    have s4 := b4.size
    have B4 := b2.trans (b4.mono s2)
    have HR4 := Lib.hid ((HR3.out.below b4 (Nat.le_refl _)).mono s4)
    clear HR3
    go_wp2_with fail
    refine (rdecode_any eb (by omega) ao c hlc2 hcm w4 HR4.out).mono ?_
    intro e w5 hdp
    unfold RDecPost at hdp
    rw [hdec] at hdp
    obtain ⟨b5, rfl⟩ := hdp
    have B5 := B4.trans (b5.mono (by omega))
    go_wp2
    go_ret
    exact ⟨rfl, B5⟩
  | some rc =>
    obtain ⟨rows, cut⟩ := rc
    rw [hdec] at hdp
    obtain ⟨b4, hb, mb, rfl, hH, hhb, hmb⟩ := hdp
    have s4 := b4.size
    have B4 := b2.trans (b4.mono s2)
    have HR4 := Lib.hid ((HR3.out.below b4 (Nat.le_refl _)).mono s4)
    have HH4 := Lib.hid hH
    clear HR3 hH
    go_wp2_with fail
    refine (rdecode_any eb (by omega) ao c hlc2 hcm w4 HR4.out).mono ?_
    intro e w5 hdp
    unfold RDecPost at hdp
    rw [hdec] at hdp
    obtain ⟨b5, v5, rfl, ov5⟩ := hdp
    obtain ⟨hen, _, hrl, hc0, hc1, hck⟩ := decB_enc hdec
    have hrl1 : rows.length ≤ 1000 := by rw [hrl]; omega
    have h4 : 0 < eb.length := by rw [← hen, encH_len]; omega
    have HENC : Hid (f4z cut ++ rows.flatMap encZ = eb) := Lib.hid (by rw [← hen]; unfold encH; rw [f4z_nat hc0 (by omega), flatZ_eq hck])
    have HEL : Hid (4 + rows.length * 41 = eb.length) := Lib.hid (by rw [← hen, encH_len])
    obtain ⟨_, a5, c5, rfl, _, _, _, hra5⟩ := rows_of_owns encE_len (by decide) ov5
    have HRA5 := Lib.hid hra5
    have B5 := B4.trans (b5.mono (by omega))
    have s5 := b5.size
    have HH5 := Lib.hid (HH4.out.kept b5)
    have HR5 := Lib.hid ((HR4.out.below b5 (Nat.le_refl _)).mono s5)
    have HCV : Hid (∀ w', Below w5.heap.size w5 w' → (convert 64 9 (.slice ao eb.length c)).run Try.prog w' = .ok (.string ⟨eb.toArray⟩) w') := Lib.hid (fun w' k => conv_rows2 (HR5.out.below k (Nat.le_refl _)) h4)
    clear HH4 HR4 hra5 ov5 hen hrl hck hdec
    go_wp2_with fail
    refine wp_region_noPanic ?_
    refine wp_region_held_drew (S := fun w' => Below w5.heap.size w5 w') (by kernel_rfl) ((Below.refl _ _).drew) (fun hHeld => ?_)
    refine takeL 0 (v := ?_) rfl (by kernel_rfl) (by kernel_rfl) (by kernel_rfl) (fun _ _ _ h => h) (by rfl) hHeld ?_ ?_
    rotate_left 1
    · intro w2 hSw; go_simp <;> with_reducible rfl
    try simp only [Act.put, List.setIfInBounds_toArray, List.set_cons_zero, List.set_cons_succ]
    refine takeL 1 (v := ?_) rfl (by kernel_rfl) (by kernel_rfl) (by kernel_rfl) (fun _ _ _ h => h) (by rfl) hHeld ?_ ?_
    rotate_left 1
    · intro w2 hSw; go_simp <;> with_reducible rfl
    try simp only [Act.put, List.setIfInBounds_toArray, List.set_cons_zero, List.set_cons_succ]
    refine takeL 2 (v := ?_) rfl (by kernel_rfl) (by kernel_rfl) (by kernel_rfl) (fun _ _ _ h => h) (by rfl) hHeld ?_ ?_
    rotate_left 1
    · intro w2 hSw; go_simp <;> with_reducible rfl
    try simp only [Act.put, List.setIfInBounds_toArray, List.set_cons_zero, List.set_cons_succ]
    refine takeL 3 (v := ?_) rfl (by kernel_rfl) (by kernel_rfl) (by kernel_rfl) (fun _ _ _ h => h) (by rfl) hHeld ?_ ?_
    rotate_left 1
    · intro w2 hSw; go_simp <;> with_reducible rfl
    try simp only [Act.put, List.setIfInBounds_toArray, List.set_cons_zero, List.set_cons_succ]
    refine takeL 5 (v := ?_) rfl (by kernel_rfl) (by kernel_rfl) (by kernel_rfl) (fun _ _ _ h => h) (by rfl) hHeld ?_ ?_
    rotate_left 1
    · intro w2 hSw; go_simp <;> with_reducible rfl
    try simp only [Act.put, List.setIfInBounds_toArray, List.set_cons_zero, List.set_cons_succ]
    refine heavyL 4 rfl (by kernel_rfl) (fun K hK => ?_)
    go_simp
    refine (entries_any hb mb rows cut hrl1 _ (HH5.out.kept hHeld)).mono ?_
    rintro e w6 ⟨v6, rfl, ov6, b6⟩
    try go_simp
    refine hK.out _ _ (hHeld.trans (b6.mono hHeld.size)) (fun hHeld => ?_)
    clear hK K
    try simp only [Act.put, List.setIfInBounds_toArray, List.set_cons_zero, List.set_cons_succ]
    obtain ⟨_, a6, c6, rfl, _, _, _, hra6⟩ := rows_of_owns encE_len (by decide) ov6
    refine heavyL 6 rfl (by kernel_rfl) (fun K hK => ?_)
    go_simp
    refine (same_any rows rows (by omega) (by omega) a6 a5 c6 c5 _ hra6 ((HRA5.out.below hHeld (Nat.le_refl _)).mono hHeld.size)).mono ?_
    rintro e w7 ⟨rfl, b7⟩
    rw [eqr]
    try go_simp
    refine hK.out _ _ (hHeld.trans (b7.mono hHeld.size)) (fun hHeld => ?_)
    clear hK K
    try simp only [Act.put, List.setIfInBounds_toArray, List.set_cons_zero, List.set_cons_succ]
    refine takeL 7 (v := ?_) rfl (by kernel_rfl) (by kernel_rfl) (by kernel_rfl) (fun _ _ _ h => h) (by rfl) hHeld ?_ ?_
    rotate_left 1
    · intro w2 hSw; go_simp <;> with_reducible rfl
    try simp only [Act.put, List.setIfInBounds_toArray, List.set_cons_zero, List.set_cons_succ]
    refine takeL 8 (v := ?_) rfl (by kernel_rfl) (by kernel_rfl) (by kernel_rfl) (fun _ _ _ h => h) (by rfl) hHeld ?_ ?_
    rotate_left 1
    · intro w2 hSw; go_simp <;> with_reducible rfl
    try simp only [Act.put, List.setIfInBounds_toArray, List.set_cons_zero, List.set_cons_succ]
    refine takeL 9 (v := ?_) rfl (by kernel_rfl) (by kernel_rfl) (by kernel_rfl) (fun _ _ _ h => h) (by rfl) hHeld ?_ ?_
    rotate_left 1
    · intro w2 hSw; go_simp <;> with_reducible rfl
    try simp only [Act.put, List.setIfInBounds_toArray, List.set_cons_zero, List.set_cons_succ]
    refine takeL 11 (v := ?_) rfl (by kernel_rfl) (by kernel_rfl) (by kernel_rfl) (fun _ _ _ h => h) (by rfl) hHeld ?_ ?_
    rotate_left 1
    · intro w2 hSw; go_simp <;> with_reducible rfl
    try simp only [Act.put, List.setIfInBounds_toArray, List.set_cons_zero, List.set_cons_succ]
    refine heavyL 10 rfl (by kernel_rfl) (fun K hK => ?_)
    go_simp
    refine (cutoff_any hb mb rows cut _ (HH5.out.kept hHeld)).mono ?_
    rintro e w8 ⟨rfl, rfl⟩
    try go_simp
    refine hK.out _ _ (hHeld) (fun hHeld => ?_)
    clear hK K
    try simp only [Act.put, List.setIfInBounds_toArray, List.set_cons_zero, List.set_cons_succ]
    refine takeL 12 (v := ?_) rfl (by kernel_rfl) (by kernel_rfl) (by kernel_rfl) (fun _ _ _ h => h) (by rfl) hHeld ?_ ?_
    rotate_left 1
    · intro w2 hSw; go_simp <;> with_reducible rfl
    try simp only [Act.put, List.setIfInBounds_toArray, List.set_cons_zero, List.set_cons_succ]
    refine takeL 13 (v := ?_) rfl (by kernel_rfl) (by kernel_rfl) (by kernel_rfl) (fun _ _ _ h => h) (by rfl) hHeld ?_ ?_
    rotate_left 1
    · intro w2 hSw; go_simp <;> with_reducible rfl
    try simp only [Act.put, List.setIfInBounds_toArray, List.set_cons_zero, List.set_cons_succ]
    refine takeL 14 (v := ?_) rfl (by kernel_rfl) (by kernel_rfl) (by kernel_rfl) (fun _ _ _ h => h) (by rfl) hHeld ?_ ?_
    rotate_left 1
    · intro w2 hSw; go_simp <;> with_reducible rfl
    try simp only [Act.put, List.setIfInBounds_toArray, List.set_cons_zero, List.set_cons_succ]
    refine takeL 15 (v := ?_) rfl (by kernel_rfl) (by kernel_rfl) (by kernel_rfl) (fun _ _ _ h => h) (by rfl) hHeld ?_ ?_
    rotate_left 1
    · intro w2 hSw; go_simp <;> with_reducible rfl
    try simp only [Act.put, List.setIfInBounds_toArray, List.set_cons_zero, List.set_cons_succ]
    refine takeL 18 (v := ?_) rfl (by kernel_rfl) (by kernel_rfl) (by kernel_rfl) (fun _ _ _ h => h) (by rfl) hHeld ?_ ?_
    rotate_left 1
    · intro w2 hSw; go_simp <;> with_reducible rfl
    try simp only [Act.put, List.setIfInBounds_toArray, List.set_cons_zero, List.set_cons_succ]
    refine takeL 19 (v := ?_) rfl (by kernel_rfl) (by kernel_rfl) (by kernel_rfl) (fun _ _ _ h => h) (by rfl) hHeld ?_ ?_
    rotate_left 1
    · intro w2 hSw; have q0 := HCV.out w2 hSw; go_simp <;> with_reducible rfl
    try simp only [Act.put, List.setIfInBounds_toArray, List.set_cons_zero, List.set_cons_succ]
    refine heavyL 16 rfl (by kernel_rfl) (fun K hK => ?_)
    go_simp
    refine (encode_any hb mb rows cut hrl1 _ (HH5.out.kept hHeld)).mono ?_
    rintro e w9 ⟨v9, rfl, ov9, b9⟩
    try go_simp
    refine hK.out _ _ (hHeld.trans (b9.mono hHeld.size)) (fun hHeld => ?_)
    clear hK K
    try simp only [Act.put, List.setIfInBounds_toArray, List.set_cons_zero, List.set_cons_succ]
    rw [HENC.out, HEL.out] at ov9
    obtain ⟨_, a9, c9, rfl, _, _, _, hra9⟩ := rows_of_owns b1_len (by decide) ov9
    have hcv9 := conv_rows2 (c := c9) hra9 h4
    refine heavyL 17 rfl (by kernel_rfl) (fun K hK => ?_)
    go_simp
    refine hK.out _ _ (hHeld) (fun hHeld => ?_)
    clear hK K
    try simp only [Act.put, List.setIfInBounds_toArray, List.set_cons_zero, List.set_cons_succ]
    refine takeL 20 (v := ?_) rfl (by kernel_rfl) (by kernel_rfl) (by kernel_rfl) (fun _ _ _ h => h) (by rfl) hHeld ?_ ?_
    rotate_left 1
    · intro w2 hSw; go_simp <;> with_reducible rfl
    try simp only [Act.put, List.setIfInBounds_toArray, List.set_cons_zero, List.set_cons_succ]
    refine takeL 21 (v := ?_) rfl (by kernel_rfl) (by kernel_rfl) (by kernel_rfl) (fun _ _ _ h => h) (by rfl) hHeld ?_ ?_
    rotate_left 1
    · intro w2 hSw; go_simp <;> with_reducible rfl
    try simp only [Act.put, List.setIfInBounds_toArray, List.set_cons_zero, List.set_cons_succ]
    refine takeL 22 (v := ?_) rfl (by kernel_rfl) (by kernel_rfl) (by kernel_rfl) (fun _ _ _ h => h) (by rfl) hHeld ?_ ?_
    rotate_left 1
    · intro w2 hSw; go_simp <;> with_reducible rfl
    try simp only [Act.put, List.setIfInBounds_toArray, List.set_cons_zero, List.set_cons_succ]
    refine wpAnyH_done (by kernel_rfl) ?_ _
    refine NoPanic.normal ?_
    have hBf := B5.trans (hHeld.mono B5.size)
    go_wp2
    go_ret
    exact ⟨rfl, hBf⟩
end Go.Proofs.Ytblidphaolgilaa
