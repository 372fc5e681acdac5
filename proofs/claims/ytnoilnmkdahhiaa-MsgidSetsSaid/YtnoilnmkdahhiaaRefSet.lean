/- The reference's Set at identities. -/
import Derived.Test.YtnoilnmkdahhiaaRows
import Derived.Test.YtnoilnmkdahhiaaIds
import Derived.Test.YtnoilnmkdahhiaaIdTo
import Derived.Test.YtnoilnmkdahhiaaIdHas
import Derived.Test.YtnoilnmkdahhiaaIdOps
import Derived.Test.YtnoilnmkdahhiaaCmpW
import Derived.Test.YtnoilnmkdahhiaaInsP
import Derived.Test.YtnoilnmkdahhiaaIns
import Derived.Test.YtnoilnmkdahhiaaHeld
import Derived.Test.YtnoilnmkdahhiaaBuild1
import Derived.WalkKit
import Derived.OwnWalk
import Derived.WalkSpells
import Derived.WalkLawsBesides
import Derived.Lib.Hide
import Derived.Deep.RegionHeld3
import Derived.Deep.MidRow
import Derived.Maps.AppendAt
import Derived.Outline
namespace Go.Proofs.Ytnoilnmkdahhiaa
open Go.RowKit
set_option linter.unusedSimpArgs false

set_option maxRecDepth 100000 in
set_option maxHeartbeats 4000000 in
theorem rset_any (l : List I32) (hl : l.length ≤ 100000) (ao : Option Addr) (c : Nat) (w : World) (hv : IdsAt w.heap.size ao l w) :
    Calls Try.prog 12 #[.slice ao l.length c] w fun e w' => ∃ v, e = .returned v ∧
      w'.ownsRow w.heap.size 28 32 v (refSet l).length (idcs (refSet l)) ∧ Below w.heap.size w w' := by
  obtain ⟨i0, hi, hz0, hz1, hz2⟩ := info_parts infoRid
  have HI := Lib.hid hi
  have HV := Lib.hid hv
  clear hi hv
  go_enter Try.func12, Try.ntmps12
  go_wp2_with fail
  go_loopw [3, 4] (fun ov iv wr => ∃ (i : Nat), i ≤ l.length ∧ iv = .int .i64 (i : Int) ∧ wr.ownsRow w.heap.size 28 32 ov (refSet (l.take i)).length (idcs (refSet (l.take i))) ∧ Below w.heap.size w wr)
    (fun _ iv _ => (l.length - intOf iv).toNat)
  case atStart => exact ⟨0, Nat.zero_le _, rfl, World.ownsRow_nil _ _ _ _, Below.refl _ _⟩
  case round =>
    obtain ⟨i, hil, rfl, ho, hB⟩ := hrel
    have hsz := hB.size
    obtain ⟨hno, a3, cap3, rfl, _, hia⟩ := idsAt_of_owns ho
    obtain ⟨hcap, _, hcn, _⟩ := owns_caps ho
    by_cases hlt : i < l.length
    · have hlti : (i : Int) < (l.length : Int) := by omega
      obtain ⟨g, o, rfl, hg, hr⟩ := (HV.out.below hB (Nat.le_refl _)).at (i := i) hlt
      have HT : Hid (refSet (l.take (i + 1)) = if l[i] ∈ refSet (l.take i) then refSet (l.take i) else insI l[i] (refSet (l.take i))) := Lib.hid (by rw [List.take_succ_eq_append_getElem hlt, refSet_snoc])
      have HR := Lib.hid hr
      have HIA := Lib.hid hia
      have hol : (refSet (l.take i)).length ≤ 100000 := by rw [refSet_eq]; have := setI_le (l.take i); have := List.length_take_le i l; omega
      clear hr hia
      generalize l[i] = x at *
      obtain ⟨out, hout⟩ : ∃ r, refSet (l.take i) = r := ⟨_, rfl⟩
      rw [hout] at hol ho HIA HT hno hcap
      try rw [hout]
      clear hout
      by_cases hx : x ∈ out
      · go_wp2_with (refine wpList_load_mid rfl _ _ rfl g (o + i * 32) rfl (encI x) _ HR.out Try.underlying28 rfl (idSize x) ?_)
        refine (rhas_any out x (by omega) _ _ wr HIA.out).mono ?_
        rintro e w1 ⟨rfl, b1⟩
        have hd : decide (x ∈ out) = true := by simp [hx]
        have ho1 := owns_below ho b1
        have hB1 := hB.trans (b1.mono hsz)
        rw [hd]
        rw [if_pos hx] at HT
        clear ho hB b1 hd
        go_wp2
        go_roundw
        case rel => exact ⟨i + 1, by omega, by go_num, by rw [HT.out]; exact ho1, hB1⟩
        case measure => simp [intOf]; omega
      · go_wp2_with (refine wpList_load_mid rfl _ _ rfl g (o + i * 32) rfl (encI x) _ HR.out Try.underlying28 rfl (idSize x) ?_)
        refine (rhas_any out x (by omega) _ _ wr HIA.out).mono ?_
        rintro e w1 ⟨rfl, b1⟩
        have hd : decide (x ∈ out) = false := by simp [hx]
        have ho1 := owns_below ho b1
        have hB1 := hB.trans (b1.mono hsz)
        rw [hd]
        rw [if_neg hx] at HT
        have HR1 := Lib.hid (rangeAt_below HR.out b1 (by omega))
        have HIA1 := Lib.hid ((HIA.out.below b1 (Nat.le_refl _)).mono b1.size)
        clear ho hB b1 hd
        go_wp2_with fail
        have hs1 := hB1.size
        have HXS : Hid (∀ w', Below w1.heap.size w1 w' → w'.rangeAt g (o + i * 32) (encI x)) := Lib.hid (fun w' hb => rangeAt_below HR1.out hb (by omega))
        have HOS : Hid (∀ w', Below w1.heap.size w1 w' → IdsAt w'.heap.size a3 out w') := Lib.hid (fun w' hb => (HIA1.out.below hb (Nat.le_refl _)).mono hb.size)
        clear HR HIA HR1 HIA1
        go_loopw [5] (fun av wq => ∃ (k : Nat), k ≤ out.length ∧ av = .int .i64 (k : Int) ∧ Hid (∀ j (h : j < out.length), j < k → ltI out[j] x = true) ∧ Below w1.heap.size w1 wq)
          (fun av _ => (out.length - intOf av).toNat)
        case atStart => exact ⟨0, Nat.zero_le _, rfl, Lib.hid (fun j h hj => by omega), Below.refl _ _⟩
        case round =>
          obtain ⟨k, hk, rfl, HK, hBk⟩ := hrel
          by_cases hko : k < out.length
          · have hkoi : (k : Int) < (out.length : Int) := by omega
            obtain ⟨gb, ob, rfl, hgb, hrb⟩ := (HOS.out w1 (Below.refl _ _)).at (i := k) hko
            have HYS : Hid (∀ w', Below w1.heap.size w1 w' → w'.rangeAt gb (ob + k * 32) (encI out[k])) := Lib.hid (fun w' hb => rangeAt_below hrb hb hgb)
            have HSX := Lib.hid (idSize x)
            have HSY := Lib.hid (idSize out[k])
            clear hrb
            go_wp2_with fail
            refine wp_region_noPanic ?_
            refine wp_region_held_drew (S := fun w' => Below w1.heap.size w1 w') (by kernel_rfl) (hBk.drew) (fun hHeld => ?_)
            refine takeL 0 (v := ?_) rfl (by kernel_rfl) (by kernel_rfl) (by kernel_rfl) (fun _ _ _ h => h) (by rfl) hHeld ?_ ?_
            rotate_left 1
            · intro w2 hSw; go_simp <;> with_reducible rfl
            try simp only [Act.put, List.setIfInBounds_toArray, List.set_cons_zero, List.set_cons_succ]
            refine takeL 1 (v := ?_) rfl (by kernel_rfl) (by kernel_rfl) (by kernel_rfl) (fun _ _ _ h => h) (by rfl) hHeld ?_ ?_
            rotate_left 1
            · intro w2 hSw; go_simp <;> with_reducible rfl
            try simp only [Act.put, List.setIfInBounds_toArray, List.set_cons_zero, List.set_cons_succ]
            refine takeL 2 (v := ?_) rfl (by kernel_rfl) (by kernel_rfl) (by kernel_rfl) (fun _ _ _ h => h) (by rfl) hHeld ?_ ?_
            rotate_left 1
            · intro w2 hSw; go_simp <;> with_reducible rfl
            try simp only [Act.put, List.setIfInBounds_toArray, List.set_cons_zero, List.set_cons_succ]
            refine takeL 3 (v := ?_) rfl (by kernel_rfl) (by kernel_rfl) (by kernel_rfl) (fun _ _ _ h => h) (by rfl) hHeld ?_ ?_
            rotate_left 1
            · intro w2 hSw; go_simp <;> with_reducible rfl
            try simp only [Act.put, List.setIfInBounds_toArray, List.set_cons_zero, List.set_cons_succ]
            refine takeL 4 (v := ?_) rfl (by kernel_rfl) (by kernel_rfl) (by kernel_rfl) (fun _ _ _ h => h) (by rfl) hHeld ?_ ?_
            rotate_left 1
            · intro w2 hSw; go_simp <;> with_reducible rfl
            try simp only [Act.put, List.setIfInBounds_toArray, List.set_cons_zero, List.set_cons_succ]
            refine takeL 5 (v := ?_) rfl (by kernel_rfl) (by kernel_rfl) (by kernel_rfl) (fun _ _ _ h => h) (by rfl) hHeld ?_ ?_
            rotate_left 1
            · intro w2 hSw; go_simp <;> with_reducible rfl
            try simp only [Act.put, List.setIfInBounds_toArray, List.set_cons_zero, List.set_cons_succ]
            refine takeL 6 (v := ?_) rfl (by kernel_rfl) (by kernel_rfl) (by kernel_rfl) (fun _ _ _ h => h) (by rfl) hHeld ?_ ?_
            rotate_left 1
            · intro w2 hSw; go_simp <;> with_reducible rfl
            try simp only [Act.put, List.setIfInBounds_toArray, List.set_cons_zero, List.set_cons_succ]
            refine takeL 7 (v := ?_) rfl (by kernel_rfl) (by kernel_rfl) (by kernel_rfl) (fun _ _ _ h => h) (by rfl) hHeld ?_ ?_
            rotate_left 1
            · intro w2 hSw; go_simp <;> with_reducible rfl
            try simp only [Act.put, List.setIfInBounds_toArray, List.set_cons_zero, List.set_cons_succ]
            refine takeRow 8 rfl (by kernel_rfl) (by kernel_rfl) (by kernel_rfl) 28 (.tmp 25) rfl (gb) ((ob + k * 32)) rfl ((encI out[k])) _ (fun _ _ _ h => h) (by rfl) hHeld HYS.out Try.underlying28 rfl HSY.out ?_
            try simp only [Act.put, List.setIfInBounds_toArray, List.set_cons_zero, List.set_cons_succ]
            refine takeL 9 (v := ?_) rfl (by kernel_rfl) (by kernel_rfl) (by kernel_rfl) (fun _ _ _ h => h) (by rfl) hHeld ?_ ?_
            rotate_left 1
            · intro w2 hSw; go_simp <;> with_reducible rfl
            try simp only [Act.put, List.setIfInBounds_toArray, List.set_cons_zero, List.set_cons_succ]
            refine takeL 10 (v := ?_) rfl (by kernel_rfl) (by kernel_rfl) (by kernel_rfl) (fun _ _ _ h => h) (by rfl) hHeld ?_ ?_
            rotate_left 1
            · intro w2 hSw; go_simp <;> with_reducible rfl
            try simp only [Act.put, List.setIfInBounds_toArray, List.set_cons_zero, List.set_cons_succ]
            refine takeL 11 (v := ?_) rfl (by kernel_rfl) (by kernel_rfl) (by kernel_rfl) (fun _ _ _ h => h) (by rfl) hHeld ?_ ?_
            rotate_left 1
            · intro w2 hSw; go_simp <;> with_reducible rfl
            try simp only [Act.put, List.setIfInBounds_toArray, List.set_cons_zero, List.set_cons_succ]
            refine takeRow 12 rfl (by kernel_rfl) (by kernel_rfl) (by kernel_rfl) 28 (.tmp 29) rfl (g) ((o + i * 32)) rfl ((encI x)) _ (fun _ _ _ h => h) (by rfl) hHeld HXS.out Try.underlying28 rfl HSX.out ?_
            try simp only [Act.put, List.setIfInBounds_toArray, List.set_cons_zero, List.set_cons_succ]
            refine heavyL 13 rfl (by kernel_rfl) (fun K hK => ?_)
            go_simp
            refine (refcompare_any out[k].1 x.1 out[k].2 x.2 _).mono ?_
            rintro e w4 ⟨rfl, b4⟩
            try go_simp
            refine hK.out _ _ (hHeld.trans (b4.mono hHeld.size)) (fun hHeld => ?_)
            clear hK K
            try simp only [Act.put, List.setIfInBounds_toArray, List.set_cons_zero, List.set_cons_succ]
            refine takeL 14 (v := ?_) rfl (by kernel_rfl) (by kernel_rfl) (by kernel_rfl) (fun _ _ _ h => h) (by rfl) hHeld ?_ ?_
            rotate_left 1
            · intro w2 hSw; go_simp <;> with_reducible rfl
            try simp only [Act.put, List.setIfInBounds_toArray, List.set_cons_zero, List.set_cons_succ]
            refine takeL 15 (v := ?_) rfl (by kernel_rfl) (by kernel_rfl) (by kernel_rfl) (fun _ _ _ h => h) (by rfl) hHeld ?_ ?_
            rotate_left 1
            · intro w2 hSw; go_simp <;> with_reducible rfl
            try simp only [Act.put, List.setIfInBounds_toArray, List.set_cons_zero, List.set_cons_succ]
            refine wpAnyH_done (by kernel_rfl) ?_ _
            refine NoPanic.normal ?_
            have hBn := hHeld
            have HLT := Lib.hid (ltI_cf out[k] x)
            obtain ⟨z, hz⟩ : ∃ z, Lib.compareBytes out[k].1 x.1 = z := ⟨_, rfl⟩
            have hzc : (ltI out[k] x = true) = (z < 0) := by rw [← hz]; exact propext HLT.out
            rw [hz]
            clear hz hHeld HLT HYS HSY
            by_cases hz0' : z < 0
            · have hLt : ltI out[k] x = true := by rw [hzc]; exact hz0'
              go_wp2_with fail
              go_roundw
              case rel => exact ⟨k + 1, by omega, by go_num, Lib.hid (fun j h hj => by by_cases e : j = k; (· subst e; exact hLt); exact HK.out j h (by omega)), hBn⟩
              case measure => simp [intOf]; omega
            · have hLt : ltI out[k] x = false := by cases hh : ltI out[k] x with | false => rfl | true => exact absurd (Eq.mp hzc hh) hz0'
              have HIn := Lib.hid (insI_at x out k hk HK.out (fun _ => hLt))
              go_wp2_with fail
              have HSX := Lib.hid (idSize x)
              have hkc : (k : Int) ≤ (cap3 : Int) := by omega
              have hkcn : k ≤ cap3 := by omega
              have hoc : (out.length : Int) ≤ (cap3 : Int) := by omega
              have hkl : (k : Int) ≤ (out.length : Int) := by omega
              have hck : ¬ cap3 = k := by omega
              refine wp_region_noPanic ?_
              refine wp_region_held_drew (S := fun w' => Below w1.heap.size w1 w') (by kernel_rfl) (hBn.drew) (fun hHeld => ?_)
              refine takeL 1 (v := ?_) rfl (by kernel_rfl) (by kernel_rfl) (by kernel_rfl) (fun _ _ _ h => h) (by rfl) hHeld ?_ ?_
              rotate_left 1
              · intro w2 hSw; go_simp <;> with_reducible rfl
              try simp only [Act.put, List.setIfInBounds_toArray, List.set_cons_zero, List.set_cons_succ]
              refine takeL 2 (v := ?_) rfl (by kernel_rfl) (by kernel_rfl) (by kernel_rfl) (fun _ _ _ h => h) (by rfl) hHeld ?_ ?_
              rotate_left 1
              · intro w2 hSw; go_simp <;> with_reducible rfl
              try simp only [Act.put, List.setIfInBounds_toArray, List.set_cons_zero, List.set_cons_succ]
              refine takeL 3 (v := ?_) rfl (by kernel_rfl) (by kernel_rfl) (by kernel_rfl) (fun _ _ _ h => h) (by rfl) hHeld ?_ ?_
              rotate_left 1
              · intro w2 hSw; go_simp <;> with_reducible rfl
              try simp only [Act.put, List.setIfInBounds_toArray, List.set_cons_zero, List.set_cons_succ]
              refine takeL 5 (v := ?_) rfl (by kernel_rfl) (by kernel_rfl) (by kernel_rfl) (fun _ _ _ h => h) (by rfl) hHeld ?_ ?_
              rotate_left 1
              · intro w2 hSw; go_simp <;> with_reducible rfl
              try simp only [Act.put, List.setIfInBounds_toArray, List.set_cons_zero, List.set_cons_succ]
              refine takeL 6 (v := ?_) rfl (by kernel_rfl) (by kernel_rfl) (by kernel_rfl) (fun _ _ _ h => h) (by rfl) hHeld ?_ ?_
              rotate_left 1
              · intro w2 hSw; go_simp <;> with_reducible rfl
              try simp only [Act.put, List.setIfInBounds_toArray, List.set_cons_zero, List.set_cons_succ]
              refine takeL 7 (v := ?_) rfl (by kernel_rfl) (by kernel_rfl) (by kernel_rfl) (fun _ _ _ h => h) (by rfl) hHeld ?_ ?_
              rotate_left 1
              · intro w2 hSw; go_simp <;> with_reducible rfl
              try simp only [Act.put, List.setIfInBounds_toArray, List.set_cons_zero, List.set_cons_succ]
              refine takeRow 8 rfl (by kernel_rfl) (by kernel_rfl) (by kernel_rfl) 28 (.tmp 43) rfl (g) (o + i * 32) rfl (encI x) _ (fun _ _ _ h => h) (by rfl) hHeld HXS.out Try.underlying28 rfl HSX.out ?_
              try simp only [Act.put, List.setIfInBounds_toArray, List.set_cons_zero, List.set_cons_succ]
              refine takeL 11 (v := ?_) rfl (by kernel_rfl) (by kernel_rfl) (by kernel_rfl) (fun _ _ _ h => h) (by rfl) hHeld ?_ ?_
              rotate_left 1
              · intro w2 hSw; go_simp <;> with_reducible rfl
              try simp only [Act.put, List.setIfInBounds_toArray, List.set_cons_zero, List.set_cons_succ]
              refine takeL 12 (v := ?_) rfl (by kernel_rfl) (by kernel_rfl) (by kernel_rfl) (fun _ _ _ h => h) (by rfl) hHeld ?_ ?_
              rotate_left 1
              · intro w2 hSw; go_simp <;> with_reducible rfl
              try simp only [Act.put, List.setIfInBounds_toArray, List.set_cons_zero, List.set_cons_succ]
              refine takeL 13 (v := ?_) rfl (by kernel_rfl) (by kernel_rfl) (by kernel_rfl) (fun _ _ _ h => h) (by rfl) hHeld ?_ ?_
              rotate_left 1
              · intro w2 hSw; go_simp <;> with_reducible rfl
              try simp only [Act.put, List.setIfInBounds_toArray, List.set_cons_zero, List.set_cons_succ]
              refine heavy2 0 9 rfl rfl (by kernel_rfl) (fun K hK => ?_) (fun K hK => ?_)
              · skip
                rw [if_pos (by rfl)]
                refine wp_build0_abs 26 28 (by rfl) i0 Try.underlying26 HI.out w1.heap.size 32 hHeld.size ?_
                intro v0 w5 ov0 g0 lv0
                refine hK.out _ _ (hHeld.grown g0 hHeld.size (fun j hj => by cases hj)) (fun hHeld => ?_)
                clear hK K
                try simp only [Act.put, List.setIfInBounds_toArray, List.set_cons_zero, List.set_cons_succ]
                refine heavy2 4 9 rfl rfl (by kernel_rfl) (fun K hK => ?_) (fun K hK => ?_)
                · skip
                  rw [if_pos (by rfl)]
                  refine wp_append_from (.tmp 36) (.tmp 39) 26 (by rfl) w1.heap.size 28 i0 _ 32 32 Try.underlying26 HI.out hz0 hz1 hz2 (by simp [Value.cells]) (by decide) _ 0 [] (by rfl) ov0 _ _ _ (by rfl) (fun h => by cases h) (idcs (out.take k)) (by rw [idcs_len, List.length_take]; omega) (ids_news ((HOS.out _ hHeld).take k)) (idcs_one _) (by unfold maxLen; omega) (by omega) hHeld.size ?_
                  intro v4 w6 ov4 g4 _
                  refine hK.out _ _ (hHeld.grown g4 hHeld.size (owns_lt ov0)) (fun hHeld => ?_)
                  clear hK K
                  try simp only [Act.put, List.setIfInBounds_toArray, List.set_cons_zero, List.set_cons_succ]
                  refine heavyL 9 rfl (by kernel_rfl) (fun K hK => ?_)
                  rw [if_pos (by rfl)]
                  refine wp_build1_abs 26 28 (.tmp 44) (by rfl) (encI x) (by rfl) i0 _ Try.underlying26 HI.out hz0 (by rw [hz1, encI_len]) (by rw [encI_len]; omega) (by rw [encI_len]; omega) ?_
                  intro gx w7 hx gx0 lgx ltx
                  refine hK.out _ _ (hHeld.grown gx0 hHeld.size (fun j hj => by cases hj)) (fun hHeld => ?_)
                  clear hK K
                  try simp only [Act.put, List.setIfInBounds_toArray, List.set_cons_zero, List.set_cons_succ]
                  have OV4 := ov4.kept gx0 (by simp; exact Classical.em _)
                  have HX4 := hx
                  refine heavyL 10 rfl (by kernel_rfl) (fun K hK => ?_)
                  rw [if_pos (by rfl)]
                  refine wp_append_from (.tmp 40) (.tmp 45) 26 (by rfl) w1.heap.size 28 i0 _ 32 32 Try.underlying26 HI.out hz0 hz1 hz2 (by simp [Value.cells]) (by decide) _ (0 + k) _ (by rfl) OV4 _ 1 1 (by rfl) (fun h => by cases h) (encI x) (by rw [encI_len]) (fun ad had => by cases had; exact news_of_block0 HX4.out) (encI_one _) (by unfold maxLen; omega) (by omega) hHeld.size ?_
                  intro v6 wv ov6 g6 _
                  refine hK.out _ _ (hHeld.grown g6 hHeld.size (owns_lt OV4)) (fun hHeld => ?_)
                  clear hK K
                  try simp only [Act.put, List.setIfInBounds_toArray, List.set_cons_zero, List.set_cons_succ]
                  refine heavyL 14 rfl (by kernel_rfl) (fun K hK => ?_)
                  rw [if_pos (by rfl)]
                  refine wp_append_from (.tmp 46) (.tmp 49) 26 (by rfl) w1.heap.size 28 i0 _ 32 32 Try.underlying26 HI.out hz0 hz1 hz2 (by simp [Value.cells]) (by decide) _ (0 + k + 1) _ (by rfl) ov6 _ _ _ (by rfl) (fun h => by cases h) (idcs (out.drop k)) (by rw [idcs_len, List.length_drop] <;> omega) (ids_news ((HOS.out _ hHeld).drop k)) (idcs_one _) (by unfold maxLen; omega) (by omega) hHeld.size ?_
                  intro v8 wu ov8 g8 _
                  refine hK.out _ _ (hHeld.grown g8 hHeld.size (owns_lt ov6)) (fun hHeld => ?_)
                  clear hK K
                  try simp only [Act.put, List.setIfInBounds_toArray, List.set_cons_zero, List.set_cons_succ]
                  refine takeL 15 (v := ?_) rfl (by kernel_rfl) (by kernel_rfl) (by kernel_rfl) (fun _ _ _ h => h) (by rfl) hHeld ?_ ?_
                  rotate_left 1
                  · intro w2 hSw; go_simp <;> with_reducible rfl
                  try simp only [Act.put, List.setIfInBounds_toArray, List.set_cons_zero, List.set_cons_succ]
                  refine wpAnyH_done (by kernel_rfl) ?_ _
                  refine NoPanic.normal ?_
                  have hIO : idcs (insI x out) = ([] ++ idcs (out.take k)) ++ encI x ++ idcs (out.drop k) := by rw [HIn.out, idcs_app, idcs_snoc, List.nil_append]
                  have ov9 := owns_base ov8 hs1
                  rw [← hIO] at ov9
                  have ov10 := owns_relen ov9
                  have hB9 := hB1.trans (hHeld.mono hs1)
                  clear ov8 ov6 OV4 HX4 HXS HOS HIn hIO ho1 ov9
                  go_wp2_with fail
                  go_roundw
                  case rel => exact ⟨i + 1, by omega, by go_num, by rw [HT.out]; exact ov10, hB9⟩
                  case measure => simp [intOf]; omega
                · skip
                  rw [if_pos (by rfl)]
                  refine wp_build1_abs 26 28 (.tmp 44) (by rfl) (encI x) (by rfl) i0 _ Try.underlying26 HI.out hz0 (by rw [hz1, encI_len]) (by rw [encI_len]; omega) (by rw [encI_len]; omega) ?_
                  intro gx w6 hx gx0 lgx ltx
                  refine hK.out _ _ (hHeld.grown gx0 hHeld.size (fun j hj => by cases hj)) (fun hHeld => ?_)
                  clear hK K
                  try simp only [Act.put, List.setIfInBounds_toArray, List.set_cons_zero, List.set_cons_succ]
                  have ov0' := ov0.kept gx0 (by simp; exact Classical.em _)
                  refine heavyL 4 rfl (by kernel_rfl) (fun K hK => ?_)
                  rw [if_pos (by rfl)]
                  refine wp_append_from (.tmp 36) (.tmp 39) 26 (by rfl) w1.heap.size 28 i0 _ 32 32 Try.underlying26 HI.out hz0 hz1 hz2 (by simp [Value.cells]) (by decide) _ 0 [] (by rfl) ov0' _ _ _ (by rfl) (fun h => by cases h) (idcs (out.take k)) (by rw [idcs_len, List.length_take]; omega) (ids_news ((HOS.out _ hHeld).take k)) (idcs_one _) (by unfold maxLen; omega) (by omega) hHeld.size ?_
                  intro v4 w7 ov4 g4 _
                  refine hK.out _ _ (hHeld.grown g4 hHeld.size (owns_lt ov0')) (fun hHeld => ?_)
                  clear hK K
                  try simp only [Act.put, List.setIfInBounds_toArray, List.set_cons_zero, List.set_cons_succ]
                  have OV4 := ov4
                  have HX4 := Lib.hid (heap_kept hx.out g4 ov0 lgx)
                  refine heavyL 10 rfl (by kernel_rfl) (fun K hK => ?_)
                  rw [if_pos (by rfl)]
                  refine wp_append_from (.tmp 40) (.tmp 45) 26 (by rfl) w1.heap.size 28 i0 _ 32 32 Try.underlying26 HI.out hz0 hz1 hz2 (by simp [Value.cells]) (by decide) _ (0 + k) _ (by rfl) OV4 _ 1 1 (by rfl) (fun h => by cases h) (encI x) (by rw [encI_len]) (fun ad had => by cases had; exact news_of_block0 HX4.out) (encI_one _) (by unfold maxLen; omega) (by omega) hHeld.size ?_
                  intro v6 wv ov6 g6 _
                  refine hK.out _ _ (hHeld.grown g6 hHeld.size (owns_lt OV4)) (fun hHeld => ?_)
                  clear hK K
                  try simp only [Act.put, List.setIfInBounds_toArray, List.set_cons_zero, List.set_cons_succ]
                  refine heavyL 14 rfl (by kernel_rfl) (fun K hK => ?_)
                  rw [if_pos (by rfl)]
                  refine wp_append_from (.tmp 46) (.tmp 49) 26 (by rfl) w1.heap.size 28 i0 _ 32 32 Try.underlying26 HI.out hz0 hz1 hz2 (by simp [Value.cells]) (by decide) _ (0 + k + 1) _ (by rfl) ov6 _ _ _ (by rfl) (fun h => by cases h) (idcs (out.drop k)) (by rw [idcs_len, List.length_drop] <;> omega) (ids_news ((HOS.out _ hHeld).drop k)) (idcs_one _) (by unfold maxLen; omega) (by omega) hHeld.size ?_
                  intro v8 wu ov8 g8 _
                  refine hK.out _ _ (hHeld.grown g8 hHeld.size (owns_lt ov6)) (fun hHeld => ?_)
                  clear hK K
                  try simp only [Act.put, List.setIfInBounds_toArray, List.set_cons_zero, List.set_cons_succ]
                  refine takeL 15 (v := ?_) rfl (by kernel_rfl) (by kernel_rfl) (by kernel_rfl) (fun _ _ _ h => h) (by rfl) hHeld ?_ ?_
                  rotate_left 1
                  · intro w2 hSw; go_simp <;> with_reducible rfl
                  try simp only [Act.put, List.setIfInBounds_toArray, List.set_cons_zero, List.set_cons_succ]
                  refine wpAnyH_done (by kernel_rfl) ?_ _
                  refine NoPanic.normal ?_
                  have hIO : idcs (insI x out) = ([] ++ idcs (out.take k)) ++ encI x ++ idcs (out.drop k) := by rw [HIn.out, idcs_app, idcs_snoc, List.nil_append]
                  have ov9 := owns_base ov8 hs1
                  rw [← hIO] at ov9
                  have ov10 := owns_relen ov9
                  have hB9 := hB1.trans (hHeld.mono hs1)
                  clear ov8 ov6 OV4 HX4 HXS HOS HIn hIO ho1 ov9
                  go_wp2_with fail
                  go_roundw
                  case rel => exact ⟨i + 1, by omega, by go_num, by rw [HT.out]; exact ov10, hB9⟩
                  case measure => simp [intOf]; omega
              · skip
                rw [if_pos (by rfl)]
                refine wp_build1_abs 26 28 (.tmp 44) (by rfl) (encI x) (by rfl) i0 _ Try.underlying26 HI.out hz0 (by rw [hz1, encI_len]) (by rw [encI_len]; omega) (by rw [encI_len]; omega) ?_
                intro gx w5 hx gx0 lgx ltx
                refine hK.out _ _ (hHeld.grown gx0 hHeld.size (fun j hj => by cases hj)) (fun hHeld => ?_)
                clear hK K
                try simp only [Act.put, List.setIfInBounds_toArray, List.set_cons_zero, List.set_cons_succ]
                refine heavyL 0 rfl (by kernel_rfl) (fun K hK => ?_)
                rw [if_pos (by rfl)]
                refine wp_build0_abs 26 28 (by rfl) i0 Try.underlying26 HI.out w1.heap.size 32 hHeld.size ?_
                intro v0 w6 ov0 g0 lv0
                refine hK.out _ _ (hHeld.grown g0 hHeld.size (fun j hj => by cases hj)) (fun hHeld => ?_)
                clear hK K
                try simp only [Act.put, List.setIfInBounds_toArray, List.set_cons_zero, List.set_cons_succ]
                have hx6 := Lib.hid ((g0.block gx ltx (by simp)).trans hx.out)
                refine heavyL 4 rfl (by kernel_rfl) (fun K hK => ?_)
                rw [if_pos (by rfl)]
                refine wp_append_from (.tmp 36) (.tmp 39) 26 (by rfl) w1.heap.size 28 i0 _ 32 32 Try.underlying26 HI.out hz0 hz1 hz2 (by simp [Value.cells]) (by decide) _ 0 [] (by rfl) ov0 _ _ _ (by rfl) (fun h => by cases h) (idcs (out.take k)) (by rw [idcs_len, List.length_take]; omega) (ids_news ((HOS.out _ hHeld).take k)) (idcs_one _) (by unfold maxLen; omega) (by omega) hHeld.size ?_
                intro v4 w7 ov4 g4 _
                refine hK.out _ _ (hHeld.grown g4 hHeld.size (owns_lt ov0)) (fun hHeld => ?_)
                clear hK K
                try simp only [Act.put, List.setIfInBounds_toArray, List.set_cons_zero, List.set_cons_succ]
                have OV4 := ov4
                have HX4 := Lib.hid (heap_kept' hx6.out g4 (fun h => by have := lv0 _ h; omega))
                refine heavyL 10 rfl (by kernel_rfl) (fun K hK => ?_)
                rw [if_pos (by rfl)]
                refine wp_append_from (.tmp 40) (.tmp 45) 26 (by rfl) w1.heap.size 28 i0 _ 32 32 Try.underlying26 HI.out hz0 hz1 hz2 (by simp [Value.cells]) (by decide) _ (0 + k) _ (by rfl) OV4 _ 1 1 (by rfl) (fun h => by cases h) (encI x) (by rw [encI_len]) (fun ad had => by cases had; exact news_of_block0 HX4.out) (encI_one _) (by unfold maxLen; omega) (by omega) hHeld.size ?_
                intro v6 wv ov6 g6 _
                refine hK.out _ _ (hHeld.grown g6 hHeld.size (owns_lt OV4)) (fun hHeld => ?_)
                clear hK K
                try simp only [Act.put, List.setIfInBounds_toArray, List.set_cons_zero, List.set_cons_succ]
                refine heavyL 14 rfl (by kernel_rfl) (fun K hK => ?_)
                rw [if_pos (by rfl)]
                refine wp_append_from (.tmp 46) (.tmp 49) 26 (by rfl) w1.heap.size 28 i0 _ 32 32 Try.underlying26 HI.out hz0 hz1 hz2 (by simp [Value.cells]) (by decide) _ (0 + k + 1) _ (by rfl) ov6 _ _ _ (by rfl) (fun h => by cases h) (idcs (out.drop k)) (by rw [idcs_len, List.length_drop] <;> omega) (ids_news ((HOS.out _ hHeld).drop k)) (idcs_one _) (by unfold maxLen; omega) (by omega) hHeld.size ?_
                intro v8 wu ov8 g8 _
                refine hK.out _ _ (hHeld.grown g8 hHeld.size (owns_lt ov6)) (fun hHeld => ?_)
                clear hK K
                try simp only [Act.put, List.setIfInBounds_toArray, List.set_cons_zero, List.set_cons_succ]
                refine takeL 15 (v := ?_) rfl (by kernel_rfl) (by kernel_rfl) (by kernel_rfl) (fun _ _ _ h => h) (by rfl) hHeld ?_ ?_
                rotate_left 1
                · intro w2 hSw; go_simp <;> with_reducible rfl
                try simp only [Act.put, List.setIfInBounds_toArray, List.set_cons_zero, List.set_cons_succ]
                refine wpAnyH_done (by kernel_rfl) ?_ _
                refine NoPanic.normal ?_
                have hIO : idcs (insI x out) = ([] ++ idcs (out.take k)) ++ encI x ++ idcs (out.drop k) := by rw [HIn.out, idcs_app, idcs_snoc, List.nil_append]
                have ov9 := owns_base ov8 hs1
                rw [← hIO] at ov9
                have ov10 := owns_relen ov9
                have hB9 := hB1.trans (hHeld.mono hs1)
                clear ov8 ov6 OV4 HX4 HXS HOS HIn hIO ho1 ov9
                go_wp2_with fail
                go_roundw
                case rel => exact ⟨i + 1, by omega, by go_num, by rw [HT.out]; exact ov10, hB9⟩
                case measure => simp [intOf]; omega
          · have hkoi : ¬ (k : Int) < (out.length : Int) := by omega
            go_wp2_with fail
            refine wp_region_noPanic ?_
            refine wp_region_held_drew (S := fun w' => Below w1.heap.size w1 w') (by kernel_rfl) (hBk.drew) (fun hHeld => ?_)
            refine takeL 0 (v := ?_) rfl (by kernel_rfl) (by kernel_rfl) (by kernel_rfl) (fun _ _ _ h => h) (by rfl) hHeld ?_ ?_
            rotate_left 1
            · intro w2 hSw; go_simp <;> with_reducible rfl
            try simp only [Act.put, List.setIfInBounds_toArray, List.set_cons_zero, List.set_cons_succ]
            refine takeL 1 (v := ?_) rfl (by kernel_rfl) (by kernel_rfl) (by kernel_rfl) (fun _ _ _ h => h) (by rfl) hHeld ?_ ?_
            rotate_left 1
            · intro w2 hSw; go_simp <;> with_reducible rfl
            try simp only [Act.put, List.setIfInBounds_toArray, List.set_cons_zero, List.set_cons_succ]
            refine takeL 2 (v := ?_) rfl (by kernel_rfl) (by kernel_rfl) (by kernel_rfl) (fun _ _ _ h => h) (by rfl) hHeld ?_ ?_
            rotate_left 1
            · intro w2 hSw; go_simp <;> with_reducible rfl
            try simp only [Act.put, List.setIfInBounds_toArray, List.set_cons_zero, List.set_cons_succ]
            refine takeL 3 (v := ?_) rfl (by kernel_rfl) (by kernel_rfl) (by kernel_rfl) (fun _ _ _ h => h) (by rfl) hHeld ?_ ?_
            rotate_left 1
            · intro w2 hSw; go_simp <;> with_reducible rfl
            try simp only [Act.put, List.setIfInBounds_toArray, List.set_cons_zero, List.set_cons_succ]
            refine takeL 4 (v := ?_) rfl (by kernel_rfl) (by kernel_rfl) (by kernel_rfl) (fun _ _ _ h => h) (by rfl) hHeld ?_ ?_
            rotate_left 1
            · intro w2 hSw; go_simp <;> with_reducible rfl
            try simp only [Act.put, List.setIfInBounds_toArray, List.set_cons_zero, List.set_cons_succ]
            refine skipL 5 rfl (by kernel_rfl) (by kernel_rfl) (by kernel_rfl) (fun _ _ _ h => h) (by rfl) hHeld ?_
            try simp only [Act.put, List.setIfInBounds_toArray, List.set_cons_zero, List.set_cons_succ]
            refine skipL 6 rfl (by kernel_rfl) (by kernel_rfl) (by kernel_rfl) (fun _ _ _ h => h) (by rfl) hHeld ?_
            try simp only [Act.put, List.setIfInBounds_toArray, List.set_cons_zero, List.set_cons_succ]
            refine skipL 7 rfl (by kernel_rfl) (by kernel_rfl) (by kernel_rfl) (fun _ _ _ h => h) (by rfl) hHeld ?_
            try simp only [Act.put, List.setIfInBounds_toArray, List.set_cons_zero, List.set_cons_succ]
            refine skipL 8 rfl (by kernel_rfl) (by kernel_rfl) (by kernel_rfl) (fun _ _ _ h => h) (by rfl) hHeld ?_
            try simp only [Act.put, List.setIfInBounds_toArray, List.set_cons_zero, List.set_cons_succ]
            refine skipL 9 rfl (by kernel_rfl) (by kernel_rfl) (by kernel_rfl) (fun _ _ _ h => h) (by rfl) hHeld ?_
            try simp only [Act.put, List.setIfInBounds_toArray, List.set_cons_zero, List.set_cons_succ]
            refine skipL 10 rfl (by kernel_rfl) (by kernel_rfl) (by kernel_rfl) (fun _ _ _ h => h) (by rfl) hHeld ?_
            try simp only [Act.put, List.setIfInBounds_toArray, List.set_cons_zero, List.set_cons_succ]
            refine skipL 11 rfl (by kernel_rfl) (by kernel_rfl) (by kernel_rfl) (fun _ _ _ h => h) (by rfl) hHeld ?_
            try simp only [Act.put, List.setIfInBounds_toArray, List.set_cons_zero, List.set_cons_succ]
            refine skipL 12 rfl (by kernel_rfl) (by kernel_rfl) (by kernel_rfl) (fun _ _ _ h => h) (by rfl) hHeld ?_
            try simp only [Act.put, List.setIfInBounds_toArray, List.set_cons_zero, List.set_cons_succ]
            refine skipL 13 rfl (by kernel_rfl) (by kernel_rfl) (by kernel_rfl) (fun _ _ _ h => h) (by rfl) hHeld ?_
            try simp only [Act.put, List.setIfInBounds_toArray, List.set_cons_zero, List.set_cons_succ]
            refine skipL 14 rfl (by kernel_rfl) (by kernel_rfl) (by kernel_rfl) (fun _ _ _ h => h) (by rfl) hHeld ?_
            try simp only [Act.put, List.setIfInBounds_toArray, List.set_cons_zero, List.set_cons_succ]
            refine takeL 15 (v := ?_) rfl (by kernel_rfl) (by kernel_rfl) (by kernel_rfl) (fun _ _ _ h => h) (by rfl) hHeld ?_ ?_
            rotate_left 1
            · intro w2 hSw; go_simp <;> with_reducible rfl
            try simp only [Act.put, List.setIfInBounds_toArray, List.set_cons_zero, List.set_cons_succ]
            refine wpAnyH_done (by kernel_rfl) ?_ _
            refine NoPanic.normal ?_
            have HIn := Lib.hid (insI_at x out k hk HK.out (fun h => absurd h hko))
            have hBn := hHeld
            have hkk : k = out.length := by omega
            have hdr : idcs (out.drop k) = [] := by rw [hkk]; simp [idcs]
            have HDR : Hid (∀ W : World, ∀ A : Option Addr, ∀ ad, A = some ad → ∀ j u, (idcs (out.drop k))[j]? = some u → W.cell? (ad.add j) = some u) := Lib.hid (fun W A ad _ j u hu => by rw [hdr] at hu; simp at hu)
            clear hdr hkk
            rcases a3 with _ | ⟨gb, ob, sb⟩
            · obtain rfl : cap3 = 0 := hcn rfl
              clear hcn
              obtain rfl : k = 0 := by omega
              go_wp2_with fail
              have HSX := Lib.hid (idSize x)
              have hkc : (0 : Int) ≤ (0 : Int) := by omega
              have hkcn : 0 ≤ 0 := by omega
              have hoc : (out.length : Int) ≤ (0 : Int) := by omega
              have hkl : (0 : Int) ≤ (out.length : Int) := by omega
              skip
              refine wp_region_noPanic ?_
              refine wp_region_held_drew (S := fun w' => Below w1.heap.size w1 w') (by kernel_rfl) (hBn.drew) (fun hHeld => ?_)
              refine takeL 1 (v := ?_) rfl (by kernel_rfl) (by kernel_rfl) (by kernel_rfl) (fun _ _ _ h => h) (by rfl) hHeld ?_ ?_
              rotate_left 1
              · intro w2 hSw; go_simp <;> with_reducible rfl
              try simp only [Act.put, List.setIfInBounds_toArray, List.set_cons_zero, List.set_cons_succ]
              refine takeL 2 (v := ?_) rfl (by kernel_rfl) (by kernel_rfl) (by kernel_rfl) (fun _ _ _ h => h) (by rfl) hHeld ?_ ?_
              rotate_left 1
              · intro w2 hSw; go_simp <;> with_reducible rfl
              try simp only [Act.put, List.setIfInBounds_toArray, List.set_cons_zero, List.set_cons_succ]
              refine takeL 3 (v := ?_) rfl (by kernel_rfl) (by kernel_rfl) (by kernel_rfl) (fun _ _ _ h => h) (by rfl) hHeld ?_ ?_
              rotate_left 1
              · intro w2 hSw; go_simp <;> with_reducible rfl
              try simp only [Act.put, List.setIfInBounds_toArray, List.set_cons_zero, List.set_cons_succ]
              refine takeL 5 (v := ?_) rfl (by kernel_rfl) (by kernel_rfl) (by kernel_rfl) (fun _ _ _ h => h) (by rfl) hHeld ?_ ?_
              rotate_left 1
              · intro w2 hSw; go_simp <;> with_reducible rfl
              try simp only [Act.put, List.setIfInBounds_toArray, List.set_cons_zero, List.set_cons_succ]
              refine takeL 6 (v := ?_) rfl (by kernel_rfl) (by kernel_rfl) (by kernel_rfl) (fun _ _ _ h => h) (by rfl) hHeld ?_ ?_
              rotate_left 1
              · intro w2 hSw; go_simp <;> with_reducible rfl
              try simp only [Act.put, List.setIfInBounds_toArray, List.set_cons_zero, List.set_cons_succ]
              refine takeL 7 (v := ?_) rfl (by kernel_rfl) (by kernel_rfl) (by kernel_rfl) (fun _ _ _ h => h) (by rfl) hHeld ?_ ?_
              rotate_left 1
              · intro w2 hSw; go_simp <;> with_reducible rfl
              try simp only [Act.put, List.setIfInBounds_toArray, List.set_cons_zero, List.set_cons_succ]
              refine takeRow 8 rfl (by kernel_rfl) (by kernel_rfl) (by kernel_rfl) 28 (.tmp 43) rfl (g) (o + i * 32) rfl (encI x) _ (fun _ _ _ h => h) (by rfl) hHeld HXS.out Try.underlying28 rfl HSX.out ?_
              try simp only [Act.put, List.setIfInBounds_toArray, List.set_cons_zero, List.set_cons_succ]
              refine takeL 11 (v := ?_) rfl (by kernel_rfl) (by kernel_rfl) (by kernel_rfl) (fun _ _ _ h => h) (by rfl) hHeld ?_ ?_
              rotate_left 1
              · intro w2 hSw; go_simp <;> with_reducible rfl
              try simp only [Act.put, List.setIfInBounds_toArray, List.set_cons_zero, List.set_cons_succ]
              refine takeL 12 (v := ?_) rfl (by kernel_rfl) (by kernel_rfl) (by kernel_rfl) (fun _ _ _ h => h) (by rfl) hHeld ?_ ?_
              rotate_left 1
              · intro w2 hSw; go_simp <;> with_reducible rfl
              try simp only [Act.put, List.setIfInBounds_toArray, List.set_cons_zero, List.set_cons_succ]
              refine takeL 13 (v := ?_) rfl (by kernel_rfl) (by kernel_rfl) (by kernel_rfl) (fun _ _ _ h => h) (by rfl) hHeld ?_ ?_
              rotate_left 1
              · intro w2 hSw; go_simp <;> with_reducible rfl
              try simp only [Act.put, List.setIfInBounds_toArray, List.set_cons_zero, List.set_cons_succ]
              refine heavy2 0 9 rfl rfl (by kernel_rfl) (fun K hK => ?_) (fun K hK => ?_)
              · skip
                rw [if_pos (by rfl)]
                refine wp_build0_abs 26 28 (by rfl) i0 Try.underlying26 HI.out w1.heap.size 32 hHeld.size ?_
                intro v0 w5 ov0 g0 lv0
                refine hK.out _ _ (hHeld.grown g0 hHeld.size (fun j hj => by cases hj)) (fun hHeld => ?_)
                clear hK K
                try simp only [Act.put, List.setIfInBounds_toArray, List.set_cons_zero, List.set_cons_succ]
                refine heavy2 4 9 rfl rfl (by kernel_rfl) (fun K hK => ?_) (fun K hK => ?_)
                · skip
                  rw [if_pos (by rfl)]
                  refine wp_append_from (.tmp 36) (.tmp 39) 26 (by rfl) w1.heap.size 28 i0 _ 32 32 Try.underlying26 HI.out hz0 hz1 hz2 (by simp [Value.cells]) (by decide) _ 0 [] (by rfl) ov0 _ _ _ (by rfl) (fun _ => ⟨rfl, rfl⟩) (idcs (out.take 0)) (by rw [idcs_len, List.length_take]; omega) (ids_news ((HOS.out _ hHeld).take 0)) (idcs_one _) (by unfold maxLen; omega) (by omega) hHeld.size ?_
                  intro v4 w6 ov4 g4 _
                  refine hK.out _ _ (hHeld.grown g4 hHeld.size (owns_lt ov0)) (fun hHeld => ?_)
                  clear hK K
                  try simp only [Act.put, List.setIfInBounds_toArray, List.set_cons_zero, List.set_cons_succ]
                  refine heavyL 9 rfl (by kernel_rfl) (fun K hK => ?_)
                  rw [if_pos (by rfl)]
                  refine wp_build1_abs 26 28 (.tmp 44) (by rfl) (encI x) (by rfl) i0 _ Try.underlying26 HI.out hz0 (by rw [hz1, encI_len]) (by rw [encI_len]; omega) (by rw [encI_len]; omega) ?_
                  intro gx w7 hx gx0 lgx ltx
                  refine hK.out _ _ (hHeld.grown gx0 hHeld.size (fun j hj => by cases hj)) (fun hHeld => ?_)
                  clear hK K
                  try simp only [Act.put, List.setIfInBounds_toArray, List.set_cons_zero, List.set_cons_succ]
                  have OV4 := ov4.kept gx0 (by simp; exact Classical.em _)
                  have HX4 := hx
                  refine heavyL 10 rfl (by kernel_rfl) (fun K hK => ?_)
                  rw [if_pos (by rfl)]
                  refine wp_append_from (.tmp 40) (.tmp 45) 26 (by rfl) w1.heap.size 28 i0 _ 32 32 Try.underlying26 HI.out hz0 hz1 hz2 (by simp [Value.cells]) (by decide) _ (0 + 0) _ (by rfl) OV4 _ 1 1 (by rfl) (fun h => by cases h) (encI x) (by rw [encI_len]) (fun ad had => by cases had; exact news_of_block0 HX4.out) (encI_one _) (by unfold maxLen; omega) (by omega) hHeld.size ?_
                  intro v6 wv ov6 g6 _
                  refine hK.out _ _ (hHeld.grown g6 hHeld.size (owns_lt OV4)) (fun hHeld => ?_)
                  clear hK K
                  try simp only [Act.put, List.setIfInBounds_toArray, List.set_cons_zero, List.set_cons_succ]
                  refine heavyL 14 rfl (by kernel_rfl) (fun K hK => ?_)
                  rw [if_pos (by rfl)]
                  refine wp_append_from (.tmp 46) (.tmp 49) 26 (by rfl) w1.heap.size 28 i0 _ 32 32 Try.underlying26 HI.out hz0 hz1 hz2 (by simp [Value.cells]) (by decide) _ (0 + 0 + 1) _ (by rfl) ov6 _ _ _ (by rfl) (fun _ => ⟨by omega, by omega⟩) (idcs (out.drop 0)) (by rw [idcs_len, List.length_drop] <;> omega) (HDR.out _ _) (idcs_one _) (by unfold maxLen; omega) (by omega) hHeld.size ?_
                  intro v8 wu ov8 g8 _
                  refine hK.out _ _ (hHeld.grown g8 hHeld.size (owns_lt ov6)) (fun hHeld => ?_)
                  clear hK K
                  try simp only [Act.put, List.setIfInBounds_toArray, List.set_cons_zero, List.set_cons_succ]
                  refine takeL 15 (v := ?_) rfl (by kernel_rfl) (by kernel_rfl) (by kernel_rfl) (fun _ _ _ h => h) (by rfl) hHeld ?_ ?_
                  rotate_left 1
                  · intro w2 hSw; go_simp <;> with_reducible rfl
                  try simp only [Act.put, List.setIfInBounds_toArray, List.set_cons_zero, List.set_cons_succ]
                  refine wpAnyH_done (by kernel_rfl) ?_ _
                  refine NoPanic.normal ?_
                  have hIO : idcs (insI x out) = ([] ++ idcs (out.take 0)) ++ encI x ++ idcs (out.drop 0) := by rw [HIn.out, idcs_app, idcs_snoc, List.nil_append]
                  have ov9 := owns_base ov8 hs1
                  rw [← hIO] at ov9
                  have ov10 := owns_relen ov9
                  have hB9 := hB1.trans (hHeld.mono hs1)
                  clear ov8 ov6 OV4 HX4 HXS HOS HIn hIO ho1 ov9
                  go_wp2_with fail
                  go_roundw
                  case rel => exact ⟨i + 1, by omega, by go_num, by rw [HT.out]; exact ov10, hB9⟩
                  case measure => simp [intOf]; omega
                · skip
                  rw [if_pos (by rfl)]
                  refine wp_build1_abs 26 28 (.tmp 44) (by rfl) (encI x) (by rfl) i0 _ Try.underlying26 HI.out hz0 (by rw [hz1, encI_len]) (by rw [encI_len]; omega) (by rw [encI_len]; omega) ?_
                  intro gx w6 hx gx0 lgx ltx
                  refine hK.out _ _ (hHeld.grown gx0 hHeld.size (fun j hj => by cases hj)) (fun hHeld => ?_)
                  clear hK K
                  try simp only [Act.put, List.setIfInBounds_toArray, List.set_cons_zero, List.set_cons_succ]
                  have ov0' := ov0.kept gx0 (by simp; exact Classical.em _)
                  refine heavyL 4 rfl (by kernel_rfl) (fun K hK => ?_)
                  rw [if_pos (by rfl)]
                  refine wp_append_from (.tmp 36) (.tmp 39) 26 (by rfl) w1.heap.size 28 i0 _ 32 32 Try.underlying26 HI.out hz0 hz1 hz2 (by simp [Value.cells]) (by decide) _ 0 [] (by rfl) ov0' _ _ _ (by rfl) (fun _ => ⟨rfl, rfl⟩) (idcs (out.take 0)) (by rw [idcs_len, List.length_take]; omega) (ids_news ((HOS.out _ hHeld).take 0)) (idcs_one _) (by unfold maxLen; omega) (by omega) hHeld.size ?_
                  intro v4 w7 ov4 g4 _
                  refine hK.out _ _ (hHeld.grown g4 hHeld.size (owns_lt ov0')) (fun hHeld => ?_)
                  clear hK K
                  try simp only [Act.put, List.setIfInBounds_toArray, List.set_cons_zero, List.set_cons_succ]
                  have OV4 := ov4
                  have HX4 := Lib.hid (heap_kept hx.out g4 ov0 lgx)
                  refine heavyL 10 rfl (by kernel_rfl) (fun K hK => ?_)
                  rw [if_pos (by rfl)]
                  refine wp_append_from (.tmp 40) (.tmp 45) 26 (by rfl) w1.heap.size 28 i0 _ 32 32 Try.underlying26 HI.out hz0 hz1 hz2 (by simp [Value.cells]) (by decide) _ (0 + 0) _ (by rfl) OV4 _ 1 1 (by rfl) (fun h => by cases h) (encI x) (by rw [encI_len]) (fun ad had => by cases had; exact news_of_block0 HX4.out) (encI_one _) (by unfold maxLen; omega) (by omega) hHeld.size ?_
                  intro v6 wv ov6 g6 _
                  refine hK.out _ _ (hHeld.grown g6 hHeld.size (owns_lt OV4)) (fun hHeld => ?_)
                  clear hK K
                  try simp only [Act.put, List.setIfInBounds_toArray, List.set_cons_zero, List.set_cons_succ]
                  refine heavyL 14 rfl (by kernel_rfl) (fun K hK => ?_)
                  rw [if_pos (by rfl)]
                  refine wp_append_from (.tmp 46) (.tmp 49) 26 (by rfl) w1.heap.size 28 i0 _ 32 32 Try.underlying26 HI.out hz0 hz1 hz2 (by simp [Value.cells]) (by decide) _ (0 + 0 + 1) _ (by rfl) ov6 _ _ _ (by rfl) (fun _ => ⟨by omega, by omega⟩) (idcs (out.drop 0)) (by rw [idcs_len, List.length_drop] <;> omega) (HDR.out _ _) (idcs_one _) (by unfold maxLen; omega) (by omega) hHeld.size ?_
                  intro v8 wu ov8 g8 _
                  refine hK.out _ _ (hHeld.grown g8 hHeld.size (owns_lt ov6)) (fun hHeld => ?_)
                  clear hK K
                  try simp only [Act.put, List.setIfInBounds_toArray, List.set_cons_zero, List.set_cons_succ]
                  refine takeL 15 (v := ?_) rfl (by kernel_rfl) (by kernel_rfl) (by kernel_rfl) (fun _ _ _ h => h) (by rfl) hHeld ?_ ?_
                  rotate_left 1
                  · intro w2 hSw; go_simp <;> with_reducible rfl
                  try simp only [Act.put, List.setIfInBounds_toArray, List.set_cons_zero, List.set_cons_succ]
                  refine wpAnyH_done (by kernel_rfl) ?_ _
                  refine NoPanic.normal ?_
                  have hIO : idcs (insI x out) = ([] ++ idcs (out.take 0)) ++ encI x ++ idcs (out.drop 0) := by rw [HIn.out, idcs_app, idcs_snoc, List.nil_append]
                  have ov9 := owns_base ov8 hs1
                  rw [← hIO] at ov9
                  have ov10 := owns_relen ov9
                  have hB9 := hB1.trans (hHeld.mono hs1)
                  clear ov8 ov6 OV4 HX4 HXS HOS HIn hIO ho1 ov9
                  go_wp2_with fail
                  go_roundw
                  case rel => exact ⟨i + 1, by omega, by go_num, by rw [HT.out]; exact ov10, hB9⟩
                  case measure => simp [intOf]; omega
              · skip
                rw [if_pos (by rfl)]
                refine wp_build1_abs 26 28 (.tmp 44) (by rfl) (encI x) (by rfl) i0 _ Try.underlying26 HI.out hz0 (by rw [hz1, encI_len]) (by rw [encI_len]; omega) (by rw [encI_len]; omega) ?_
                intro gx w5 hx gx0 lgx ltx
                refine hK.out _ _ (hHeld.grown gx0 hHeld.size (fun j hj => by cases hj)) (fun hHeld => ?_)
                clear hK K
                try simp only [Act.put, List.setIfInBounds_toArray, List.set_cons_zero, List.set_cons_succ]
                refine heavyL 0 rfl (by kernel_rfl) (fun K hK => ?_)
                rw [if_pos (by rfl)]
                refine wp_build0_abs 26 28 (by rfl) i0 Try.underlying26 HI.out w1.heap.size 32 hHeld.size ?_
                intro v0 w6 ov0 g0 lv0
                refine hK.out _ _ (hHeld.grown g0 hHeld.size (fun j hj => by cases hj)) (fun hHeld => ?_)
                clear hK K
                try simp only [Act.put, List.setIfInBounds_toArray, List.set_cons_zero, List.set_cons_succ]
                have hx6 := Lib.hid ((g0.block gx ltx (by simp)).trans hx.out)
                refine heavyL 4 rfl (by kernel_rfl) (fun K hK => ?_)
                rw [if_pos (by rfl)]
                refine wp_append_from (.tmp 36) (.tmp 39) 26 (by rfl) w1.heap.size 28 i0 _ 32 32 Try.underlying26 HI.out hz0 hz1 hz2 (by simp [Value.cells]) (by decide) _ 0 [] (by rfl) ov0 _ _ _ (by rfl) (fun _ => ⟨rfl, rfl⟩) (idcs (out.take 0)) (by rw [idcs_len, List.length_take]; omega) (ids_news ((HOS.out _ hHeld).take 0)) (idcs_one _) (by unfold maxLen; omega) (by omega) hHeld.size ?_
                intro v4 w7 ov4 g4 _
                refine hK.out _ _ (hHeld.grown g4 hHeld.size (owns_lt ov0)) (fun hHeld => ?_)
                clear hK K
                try simp only [Act.put, List.setIfInBounds_toArray, List.set_cons_zero, List.set_cons_succ]
                have OV4 := ov4
                have HX4 := Lib.hid (heap_kept' hx6.out g4 (fun h => by have := lv0 _ h; omega))
                refine heavyL 10 rfl (by kernel_rfl) (fun K hK => ?_)
                rw [if_pos (by rfl)]
                refine wp_append_from (.tmp 40) (.tmp 45) 26 (by rfl) w1.heap.size 28 i0 _ 32 32 Try.underlying26 HI.out hz0 hz1 hz2 (by simp [Value.cells]) (by decide) _ (0 + 0) _ (by rfl) OV4 _ 1 1 (by rfl) (fun h => by cases h) (encI x) (by rw [encI_len]) (fun ad had => by cases had; exact news_of_block0 HX4.out) (encI_one _) (by unfold maxLen; omega) (by omega) hHeld.size ?_
                intro v6 wv ov6 g6 _
                refine hK.out _ _ (hHeld.grown g6 hHeld.size (owns_lt OV4)) (fun hHeld => ?_)
                clear hK K
                try simp only [Act.put, List.setIfInBounds_toArray, List.set_cons_zero, List.set_cons_succ]
                refine heavyL 14 rfl (by kernel_rfl) (fun K hK => ?_)
                rw [if_pos (by rfl)]
                refine wp_append_from (.tmp 46) (.tmp 49) 26 (by rfl) w1.heap.size 28 i0 _ 32 32 Try.underlying26 HI.out hz0 hz1 hz2 (by simp [Value.cells]) (by decide) _ (0 + 0 + 1) _ (by rfl) ov6 _ _ _ (by rfl) (fun _ => ⟨by omega, by omega⟩) (idcs (out.drop 0)) (by rw [idcs_len, List.length_drop] <;> omega) (HDR.out _ _) (idcs_one _) (by unfold maxLen; omega) (by omega) hHeld.size ?_
                intro v8 wu ov8 g8 _
                refine hK.out _ _ (hHeld.grown g8 hHeld.size (owns_lt ov6)) (fun hHeld => ?_)
                clear hK K
                try simp only [Act.put, List.setIfInBounds_toArray, List.set_cons_zero, List.set_cons_succ]
                refine takeL 15 (v := ?_) rfl (by kernel_rfl) (by kernel_rfl) (by kernel_rfl) (fun _ _ _ h => h) (by rfl) hHeld ?_ ?_
                rotate_left 1
                · intro w2 hSw; go_simp <;> with_reducible rfl
                try simp only [Act.put, List.setIfInBounds_toArray, List.set_cons_zero, List.set_cons_succ]
                refine wpAnyH_done (by kernel_rfl) ?_ _
                refine NoPanic.normal ?_
                have hIO : idcs (insI x out) = ([] ++ idcs (out.take 0)) ++ encI x ++ idcs (out.drop 0) := by rw [HIn.out, idcs_app, idcs_snoc, List.nil_append]
                have ov9 := owns_base ov8 hs1
                rw [← hIO] at ov9
                have ov10 := owns_relen ov9
                have hB9 := hB1.trans (hHeld.mono hs1)
                clear ov8 ov6 OV4 HX4 HXS HOS HIn hIO ho1 ov9
                go_wp2_with fail
                go_roundw
                case rel => exact ⟨i + 1, by omega, by go_num, by rw [HT.out]; exact ov10, hB9⟩
                case measure => simp [intOf]; omega
            · obtain rfl : sb = none := by obtain ⟨_, _, _, h⟩ := owns_caps ho1; exact (h _ rfl).2
              by_cases hck : k = cap3
              · subst hck
                go_wp2_with fail
                have HSX := Lib.hid (idSize x)
                have hkc : (k : Int) ≤ (k : Int) := by omega
                have hkcn : k ≤ k := by omega
                have hoc : (out.length : Int) ≤ (k : Int) := by omega
                have hkl : (k : Int) ≤ (out.length : Int) := by omega
                skip
                refine wp_region_noPanic ?_
                refine wp_region_held_drew (S := fun w' => Below w1.heap.size w1 w') (by kernel_rfl) (hBn.drew) (fun hHeld => ?_)
                refine takeL 1 (v := ?_) rfl (by kernel_rfl) (by kernel_rfl) (by kernel_rfl) (fun _ _ _ h => h) (by rfl) hHeld ?_ ?_
                rotate_left 1
                · intro w2 hSw; go_simp <;> with_reducible rfl
                try simp only [Act.put, List.setIfInBounds_toArray, List.set_cons_zero, List.set_cons_succ]
                refine takeL 2 (v := ?_) rfl (by kernel_rfl) (by kernel_rfl) (by kernel_rfl) (fun _ _ _ h => h) (by rfl) hHeld ?_ ?_
                rotate_left 1
                · intro w2 hSw; go_simp <;> with_reducible rfl
                try simp only [Act.put, List.setIfInBounds_toArray, List.set_cons_zero, List.set_cons_succ]
                refine takeL 3 (v := ?_) rfl (by kernel_rfl) (by kernel_rfl) (by kernel_rfl) (fun _ _ _ h => h) (by rfl) hHeld ?_ ?_
                rotate_left 1
                · intro w2 hSw; go_simp <;> with_reducible rfl
                try simp only [Act.put, List.setIfInBounds_toArray, List.set_cons_zero, List.set_cons_succ]
                refine takeL 5 (v := ?_) rfl (by kernel_rfl) (by kernel_rfl) (by kernel_rfl) (fun _ _ _ h => h) (by rfl) hHeld ?_ ?_
                rotate_left 1
                · intro w2 hSw; go_simp <;> with_reducible rfl
                try simp only [Act.put, List.setIfInBounds_toArray, List.set_cons_zero, List.set_cons_succ]
                refine takeL 6 (v := ?_) rfl (by kernel_rfl) (by kernel_rfl) (by kernel_rfl) (fun _ _ _ h => h) (by rfl) hHeld ?_ ?_
                rotate_left 1
                · intro w2 hSw; go_simp <;> with_reducible rfl
                try simp only [Act.put, List.setIfInBounds_toArray, List.set_cons_zero, List.set_cons_succ]
                refine takeL 7 (v := ?_) rfl (by kernel_rfl) (by kernel_rfl) (by kernel_rfl) (fun _ _ _ h => h) (by rfl) hHeld ?_ ?_
                rotate_left 1
                · intro w2 hSw; go_simp <;> with_reducible rfl
                try simp only [Act.put, List.setIfInBounds_toArray, List.set_cons_zero, List.set_cons_succ]
                refine takeRow 8 rfl (by kernel_rfl) (by kernel_rfl) (by kernel_rfl) 28 (.tmp 43) rfl (g) (o + i * 32) rfl (encI x) _ (fun _ _ _ h => h) (by rfl) hHeld HXS.out Try.underlying28 rfl HSX.out ?_
                try simp only [Act.put, List.setIfInBounds_toArray, List.set_cons_zero, List.set_cons_succ]
                refine takeL 11 (v := ?_) rfl (by kernel_rfl) (by kernel_rfl) (by kernel_rfl) (fun _ _ _ h => h) (by rfl) hHeld ?_ ?_
                rotate_left 1
                · intro w2 hSw; go_simp <;> with_reducible rfl
                try simp only [Act.put, List.setIfInBounds_toArray, List.set_cons_zero, List.set_cons_succ]
                refine takeL 12 (v := ?_) rfl (by kernel_rfl) (by kernel_rfl) (by kernel_rfl) (fun _ _ _ h => h) (by rfl) hHeld ?_ ?_
                rotate_left 1
                · intro w2 hSw; go_simp <;> with_reducible rfl
                try simp only [Act.put, List.setIfInBounds_toArray, List.set_cons_zero, List.set_cons_succ]
                refine takeL 13 (v := ?_) rfl (by kernel_rfl) (by kernel_rfl) (by kernel_rfl) (fun _ _ _ h => h) (by rfl) hHeld ?_ ?_
                rotate_left 1
                · intro w2 hSw; go_simp <;> with_reducible rfl
                try simp only [Act.put, List.setIfInBounds_toArray, List.set_cons_zero, List.set_cons_succ]
                refine heavy2 0 9 rfl rfl (by kernel_rfl) (fun K hK => ?_) (fun K hK => ?_)
                · skip
                  rw [if_pos (by rfl)]
                  refine wp_build0_abs 26 28 (by rfl) i0 Try.underlying26 HI.out w1.heap.size 32 hHeld.size ?_
                  intro v0 w5 ov0 g0 lv0
                  refine hK.out _ _ (hHeld.grown g0 hHeld.size (fun j hj => by cases hj)) (fun hHeld => ?_)
                  clear hK K
                  try simp only [Act.put, List.setIfInBounds_toArray, List.set_cons_zero, List.set_cons_succ]
                  refine heavy2 4 9 rfl rfl (by kernel_rfl) (fun K hK => ?_) (fun K hK => ?_)
                  · skip
                    rw [if_pos (by rfl)]
                    refine wp_append_from (.tmp 36) (.tmp 39) 26 (by rfl) w1.heap.size 28 i0 _ 32 32 Try.underlying26 HI.out hz0 hz1 hz2 (by simp [Value.cells]) (by decide) _ 0 [] (by rfl) ov0 _ _ _ (by rfl) (fun h => by cases h) (idcs (out.take k)) (by rw [idcs_len, List.length_take]; omega) (ids_news ((HOS.out _ hHeld).take k)) (idcs_one _) (by unfold maxLen; omega) (by omega) hHeld.size ?_
                    intro v4 w6 ov4 g4 _
                    refine hK.out _ _ (hHeld.grown g4 hHeld.size (owns_lt ov0)) (fun hHeld => ?_)
                    clear hK K
                    try simp only [Act.put, List.setIfInBounds_toArray, List.set_cons_zero, List.set_cons_succ]
                    refine heavyL 9 rfl (by kernel_rfl) (fun K hK => ?_)
                    rw [if_pos (by rfl)]
                    refine wp_build1_abs 26 28 (.tmp 44) (by rfl) (encI x) (by rfl) i0 _ Try.underlying26 HI.out hz0 (by rw [hz1, encI_len]) (by rw [encI_len]; omega) (by rw [encI_len]; omega) ?_
                    intro gx w7 hx gx0 lgx ltx
                    refine hK.out _ _ (hHeld.grown gx0 hHeld.size (fun j hj => by cases hj)) (fun hHeld => ?_)
                    clear hK K
                    try simp only [Act.put, List.setIfInBounds_toArray, List.set_cons_zero, List.set_cons_succ]
                    have OV4 := ov4.kept gx0 (by simp; exact Classical.em _)
                    have HX4 := hx
                    refine heavyL 10 rfl (by kernel_rfl) (fun K hK => ?_)
                    rw [if_pos (by rfl)]
                    refine wp_append_from (.tmp 40) (.tmp 45) 26 (by rfl) w1.heap.size 28 i0 _ 32 32 Try.underlying26 HI.out hz0 hz1 hz2 (by simp [Value.cells]) (by decide) _ (0 + k) _ (by rfl) OV4 _ 1 1 (by rfl) (fun h => by cases h) (encI x) (by rw [encI_len]) (fun ad had => by cases had; exact news_of_block0 HX4.out) (encI_one _) (by unfold maxLen; omega) (by omega) hHeld.size ?_
                    intro v6 wv ov6 g6 _
                    refine hK.out _ _ (hHeld.grown g6 hHeld.size (owns_lt OV4)) (fun hHeld => ?_)
                    clear hK K
                    try simp only [Act.put, List.setIfInBounds_toArray, List.set_cons_zero, List.set_cons_succ]
                    refine heavyL 14 rfl (by kernel_rfl) (fun K hK => ?_)
                    rw [if_pos (by rfl)]
                    refine wp_append_from (.tmp 46) (.tmp 49) 26 (by rfl) w1.heap.size 28 i0 _ 32 32 Try.underlying26 HI.out hz0 hz1 hz2 (by simp [Value.cells]) (by decide) _ (0 + k + 1) _ (by rfl) ov6 _ _ _ (by rfl) (fun h => by cases h) (idcs (out.drop k)) (by rw [idcs_len, List.length_drop] <;> omega) (HDR.out _ _) (idcs_one _) (by unfold maxLen; omega) (by omega) hHeld.size ?_
                    intro v8 wu ov8 g8 _
                    refine hK.out _ _ (hHeld.grown g8 hHeld.size (owns_lt ov6)) (fun hHeld => ?_)
                    clear hK K
                    try simp only [Act.put, List.setIfInBounds_toArray, List.set_cons_zero, List.set_cons_succ]
                    refine takeL 15 (v := ?_) rfl (by kernel_rfl) (by kernel_rfl) (by kernel_rfl) (fun _ _ _ h => h) (by rfl) hHeld ?_ ?_
                    rotate_left 1
                    · intro w2 hSw; go_simp <;> with_reducible rfl
                    try simp only [Act.put, List.setIfInBounds_toArray, List.set_cons_zero, List.set_cons_succ]
                    refine wpAnyH_done (by kernel_rfl) ?_ _
                    refine NoPanic.normal ?_
                    have hIO : idcs (insI x out) = ([] ++ idcs (out.take k)) ++ encI x ++ idcs (out.drop k) := by rw [HIn.out, idcs_app, idcs_snoc, List.nil_append]
                    have ov9 := owns_base ov8 hs1
                    rw [← hIO] at ov9
                    have ov10 := owns_relen ov9
                    have hB9 := hB1.trans (hHeld.mono hs1)
                    clear ov8 ov6 OV4 HX4 HXS HOS HIn hIO ho1 ov9
                    go_wp2_with fail
                    go_roundw
                    case rel => exact ⟨i + 1, by omega, by go_num, by rw [HT.out]; exact ov10, hB9⟩
                    case measure => simp [intOf]; omega
                  · skip
                    rw [if_pos (by rfl)]
                    refine wp_build1_abs 26 28 (.tmp 44) (by rfl) (encI x) (by rfl) i0 _ Try.underlying26 HI.out hz0 (by rw [hz1, encI_len]) (by rw [encI_len]; omega) (by rw [encI_len]; omega) ?_
                    intro gx w6 hx gx0 lgx ltx
                    refine hK.out _ _ (hHeld.grown gx0 hHeld.size (fun j hj => by cases hj)) (fun hHeld => ?_)
                    clear hK K
                    try simp only [Act.put, List.setIfInBounds_toArray, List.set_cons_zero, List.set_cons_succ]
                    have ov0' := ov0.kept gx0 (by simp; exact Classical.em _)
                    refine heavyL 4 rfl (by kernel_rfl) (fun K hK => ?_)
                    rw [if_pos (by rfl)]
                    refine wp_append_from (.tmp 36) (.tmp 39) 26 (by rfl) w1.heap.size 28 i0 _ 32 32 Try.underlying26 HI.out hz0 hz1 hz2 (by simp [Value.cells]) (by decide) _ 0 [] (by rfl) ov0' _ _ _ (by rfl) (fun h => by cases h) (idcs (out.take k)) (by rw [idcs_len, List.length_take]; omega) (ids_news ((HOS.out _ hHeld).take k)) (idcs_one _) (by unfold maxLen; omega) (by omega) hHeld.size ?_
                    intro v4 w7 ov4 g4 _
                    refine hK.out _ _ (hHeld.grown g4 hHeld.size (owns_lt ov0')) (fun hHeld => ?_)
                    clear hK K
                    try simp only [Act.put, List.setIfInBounds_toArray, List.set_cons_zero, List.set_cons_succ]
                    have OV4 := ov4
                    have HX4 := Lib.hid (heap_kept hx.out g4 ov0 lgx)
                    refine heavyL 10 rfl (by kernel_rfl) (fun K hK => ?_)
                    rw [if_pos (by rfl)]
                    refine wp_append_from (.tmp 40) (.tmp 45) 26 (by rfl) w1.heap.size 28 i0 _ 32 32 Try.underlying26 HI.out hz0 hz1 hz2 (by simp [Value.cells]) (by decide) _ (0 + k) _ (by rfl) OV4 _ 1 1 (by rfl) (fun h => by cases h) (encI x) (by rw [encI_len]) (fun ad had => by cases had; exact news_of_block0 HX4.out) (encI_one _) (by unfold maxLen; omega) (by omega) hHeld.size ?_
                    intro v6 wv ov6 g6 _
                    refine hK.out _ _ (hHeld.grown g6 hHeld.size (owns_lt OV4)) (fun hHeld => ?_)
                    clear hK K
                    try simp only [Act.put, List.setIfInBounds_toArray, List.set_cons_zero, List.set_cons_succ]
                    refine heavyL 14 rfl (by kernel_rfl) (fun K hK => ?_)
                    rw [if_pos (by rfl)]
                    refine wp_append_from (.tmp 46) (.tmp 49) 26 (by rfl) w1.heap.size 28 i0 _ 32 32 Try.underlying26 HI.out hz0 hz1 hz2 (by simp [Value.cells]) (by decide) _ (0 + k + 1) _ (by rfl) ov6 _ _ _ (by rfl) (fun h => by cases h) (idcs (out.drop k)) (by rw [idcs_len, List.length_drop] <;> omega) (HDR.out _ _) (idcs_one _) (by unfold maxLen; omega) (by omega) hHeld.size ?_
                    intro v8 wu ov8 g8 _
                    refine hK.out _ _ (hHeld.grown g8 hHeld.size (owns_lt ov6)) (fun hHeld => ?_)
                    clear hK K
                    try simp only [Act.put, List.setIfInBounds_toArray, List.set_cons_zero, List.set_cons_succ]
                    refine takeL 15 (v := ?_) rfl (by kernel_rfl) (by kernel_rfl) (by kernel_rfl) (fun _ _ _ h => h) (by rfl) hHeld ?_ ?_
                    rotate_left 1
                    · intro w2 hSw; go_simp <;> with_reducible rfl
                    try simp only [Act.put, List.setIfInBounds_toArray, List.set_cons_zero, List.set_cons_succ]
                    refine wpAnyH_done (by kernel_rfl) ?_ _
                    refine NoPanic.normal ?_
                    have hIO : idcs (insI x out) = ([] ++ idcs (out.take k)) ++ encI x ++ idcs (out.drop k) := by rw [HIn.out, idcs_app, idcs_snoc, List.nil_append]
                    have ov9 := owns_base ov8 hs1
                    rw [← hIO] at ov9
                    have ov10 := owns_relen ov9
                    have hB9 := hB1.trans (hHeld.mono hs1)
                    clear ov8 ov6 OV4 HX4 HXS HOS HIn hIO ho1 ov9
                    go_wp2_with fail
                    go_roundw
                    case rel => exact ⟨i + 1, by omega, by go_num, by rw [HT.out]; exact ov10, hB9⟩
                    case measure => simp [intOf]; omega
                · skip
                  rw [if_pos (by rfl)]
                  refine wp_build1_abs 26 28 (.tmp 44) (by rfl) (encI x) (by rfl) i0 _ Try.underlying26 HI.out hz0 (by rw [hz1, encI_len]) (by rw [encI_len]; omega) (by rw [encI_len]; omega) ?_
                  intro gx w5 hx gx0 lgx ltx
                  refine hK.out _ _ (hHeld.grown gx0 hHeld.size (fun j hj => by cases hj)) (fun hHeld => ?_)
                  clear hK K
                  try simp only [Act.put, List.setIfInBounds_toArray, List.set_cons_zero, List.set_cons_succ]
                  refine heavyL 0 rfl (by kernel_rfl) (fun K hK => ?_)
                  rw [if_pos (by rfl)]
                  refine wp_build0_abs 26 28 (by rfl) i0 Try.underlying26 HI.out w1.heap.size 32 hHeld.size ?_
                  intro v0 w6 ov0 g0 lv0
                  refine hK.out _ _ (hHeld.grown g0 hHeld.size (fun j hj => by cases hj)) (fun hHeld => ?_)
                  clear hK K
                  try simp only [Act.put, List.setIfInBounds_toArray, List.set_cons_zero, List.set_cons_succ]
                  have hx6 := Lib.hid ((g0.block gx ltx (by simp)).trans hx.out)
                  refine heavyL 4 rfl (by kernel_rfl) (fun K hK => ?_)
                  rw [if_pos (by rfl)]
                  refine wp_append_from (.tmp 36) (.tmp 39) 26 (by rfl) w1.heap.size 28 i0 _ 32 32 Try.underlying26 HI.out hz0 hz1 hz2 (by simp [Value.cells]) (by decide) _ 0 [] (by rfl) ov0 _ _ _ (by rfl) (fun h => by cases h) (idcs (out.take k)) (by rw [idcs_len, List.length_take]; omega) (ids_news ((HOS.out _ hHeld).take k)) (idcs_one _) (by unfold maxLen; omega) (by omega) hHeld.size ?_
                  intro v4 w7 ov4 g4 _
                  refine hK.out _ _ (hHeld.grown g4 hHeld.size (owns_lt ov0)) (fun hHeld => ?_)
                  clear hK K
                  try simp only [Act.put, List.setIfInBounds_toArray, List.set_cons_zero, List.set_cons_succ]
                  have OV4 := ov4
                  have HX4 := Lib.hid (heap_kept' hx6.out g4 (fun h => by have := lv0 _ h; omega))
                  refine heavyL 10 rfl (by kernel_rfl) (fun K hK => ?_)
                  rw [if_pos (by rfl)]
                  refine wp_append_from (.tmp 40) (.tmp 45) 26 (by rfl) w1.heap.size 28 i0 _ 32 32 Try.underlying26 HI.out hz0 hz1 hz2 (by simp [Value.cells]) (by decide) _ (0 + k) _ (by rfl) OV4 _ 1 1 (by rfl) (fun h => by cases h) (encI x) (by rw [encI_len]) (fun ad had => by cases had; exact news_of_block0 HX4.out) (encI_one _) (by unfold maxLen; omega) (by omega) hHeld.size ?_
                  intro v6 wv ov6 g6 _
                  refine hK.out _ _ (hHeld.grown g6 hHeld.size (owns_lt OV4)) (fun hHeld => ?_)
                  clear hK K
                  try simp only [Act.put, List.setIfInBounds_toArray, List.set_cons_zero, List.set_cons_succ]
                  refine heavyL 14 rfl (by kernel_rfl) (fun K hK => ?_)
                  rw [if_pos (by rfl)]
                  refine wp_append_from (.tmp 46) (.tmp 49) 26 (by rfl) w1.heap.size 28 i0 _ 32 32 Try.underlying26 HI.out hz0 hz1 hz2 (by simp [Value.cells]) (by decide) _ (0 + k + 1) _ (by rfl) ov6 _ _ _ (by rfl) (fun h => by cases h) (idcs (out.drop k)) (by rw [idcs_len, List.length_drop] <;> omega) (HDR.out _ _) (idcs_one _) (by unfold maxLen; omega) (by omega) hHeld.size ?_
                  intro v8 wu ov8 g8 _
                  refine hK.out _ _ (hHeld.grown g8 hHeld.size (owns_lt ov6)) (fun hHeld => ?_)
                  clear hK K
                  try simp only [Act.put, List.setIfInBounds_toArray, List.set_cons_zero, List.set_cons_succ]
                  refine takeL 15 (v := ?_) rfl (by kernel_rfl) (by kernel_rfl) (by kernel_rfl) (fun _ _ _ h => h) (by rfl) hHeld ?_ ?_
                  rotate_left 1
                  · intro w2 hSw; go_simp <;> with_reducible rfl
                  try simp only [Act.put, List.setIfInBounds_toArray, List.set_cons_zero, List.set_cons_succ]
                  refine wpAnyH_done (by kernel_rfl) ?_ _
                  refine NoPanic.normal ?_
                  have hIO : idcs (insI x out) = ([] ++ idcs (out.take k)) ++ encI x ++ idcs (out.drop k) := by rw [HIn.out, idcs_app, idcs_snoc, List.nil_append]
                  have ov9 := owns_base ov8 hs1
                  rw [← hIO] at ov9
                  have ov10 := owns_relen ov9
                  have hB9 := hB1.trans (hHeld.mono hs1)
                  clear ov8 ov6 OV4 HX4 HXS HOS HIn hIO ho1 ov9
                  go_wp2_with fail
                  go_roundw
                  case rel => exact ⟨i + 1, by omega, by go_num, by rw [HT.out]; exact ov10, hB9⟩
                  case measure => simp [intOf]; omega
              · have hck' : ¬ cap3 = k := by omega
                clear hck
                go_wp2_with fail
                have HSX := Lib.hid (idSize x)
                have hkc : (k : Int) ≤ (cap3 : Int) := by omega
                have hkcn : k ≤ cap3 := by omega
                have hoc : (out.length : Int) ≤ (cap3 : Int) := by omega
                have hkl : (k : Int) ≤ (out.length : Int) := by omega
                skip
                refine wp_region_noPanic ?_
                refine wp_region_held_drew (S := fun w' => Below w1.heap.size w1 w') (by kernel_rfl) (hBn.drew) (fun hHeld => ?_)
                refine takeL 1 (v := ?_) rfl (by kernel_rfl) (by kernel_rfl) (by kernel_rfl) (fun _ _ _ h => h) (by rfl) hHeld ?_ ?_
                rotate_left 1
                · intro w2 hSw; go_simp <;> with_reducible rfl
                try simp only [Act.put, List.setIfInBounds_toArray, List.set_cons_zero, List.set_cons_succ]
                refine takeL 2 (v := ?_) rfl (by kernel_rfl) (by kernel_rfl) (by kernel_rfl) (fun _ _ _ h => h) (by rfl) hHeld ?_ ?_
                rotate_left 1
                · intro w2 hSw; go_simp <;> with_reducible rfl
                try simp only [Act.put, List.setIfInBounds_toArray, List.set_cons_zero, List.set_cons_succ]
                refine takeL 3 (v := ?_) rfl (by kernel_rfl) (by kernel_rfl) (by kernel_rfl) (fun _ _ _ h => h) (by rfl) hHeld ?_ ?_
                rotate_left 1
                · intro w2 hSw; go_simp <;> with_reducible rfl
                try simp only [Act.put, List.setIfInBounds_toArray, List.set_cons_zero, List.set_cons_succ]
                refine takeL 5 (v := ?_) rfl (by kernel_rfl) (by kernel_rfl) (by kernel_rfl) (fun _ _ _ h => h) (by rfl) hHeld ?_ ?_
                rotate_left 1
                · intro w2 hSw; go_simp <;> with_reducible rfl
                try simp only [Act.put, List.setIfInBounds_toArray, List.set_cons_zero, List.set_cons_succ]
                refine takeL 6 (v := ?_) rfl (by kernel_rfl) (by kernel_rfl) (by kernel_rfl) (fun _ _ _ h => h) (by rfl) hHeld ?_ ?_
                rotate_left 1
                · intro w2 hSw; go_simp <;> with_reducible rfl
                try simp only [Act.put, List.setIfInBounds_toArray, List.set_cons_zero, List.set_cons_succ]
                refine takeL 7 (v := ?_) rfl (by kernel_rfl) (by kernel_rfl) (by kernel_rfl) (fun _ _ _ h => h) (by rfl) hHeld ?_ ?_
                rotate_left 1
                · intro w2 hSw; go_simp <;> with_reducible rfl
                try simp only [Act.put, List.setIfInBounds_toArray, List.set_cons_zero, List.set_cons_succ]
                refine takeRow 8 rfl (by kernel_rfl) (by kernel_rfl) (by kernel_rfl) 28 (.tmp 43) rfl (g) (o + i * 32) rfl (encI x) _ (fun _ _ _ h => h) (by rfl) hHeld HXS.out Try.underlying28 rfl HSX.out ?_
                try simp only [Act.put, List.setIfInBounds_toArray, List.set_cons_zero, List.set_cons_succ]
                refine takeL 11 (v := ?_) rfl (by kernel_rfl) (by kernel_rfl) (by kernel_rfl) (fun _ _ _ h => h) (by rfl) hHeld ?_ ?_
                rotate_left 1
                · intro w2 hSw; go_simp <;> with_reducible rfl
                try simp only [Act.put, List.setIfInBounds_toArray, List.set_cons_zero, List.set_cons_succ]
                refine takeL 12 (v := ?_) rfl (by kernel_rfl) (by kernel_rfl) (by kernel_rfl) (fun _ _ _ h => h) (by rfl) hHeld ?_ ?_
                rotate_left 1
                · intro w2 hSw; go_simp <;> with_reducible rfl
                try simp only [Act.put, List.setIfInBounds_toArray, List.set_cons_zero, List.set_cons_succ]
                refine takeL 13 (v := ?_) rfl (by kernel_rfl) (by kernel_rfl) (by kernel_rfl) (fun _ _ _ h => h) (by rfl) hHeld ?_ ?_
                rotate_left 1
                · intro w2 hSw; go_simp <;> with_reducible rfl
                try simp only [Act.put, List.setIfInBounds_toArray, List.set_cons_zero, List.set_cons_succ]
                refine heavy2 0 9 rfl rfl (by kernel_rfl) (fun K hK => ?_) (fun K hK => ?_)
                · skip
                  rw [if_pos (by rfl)]
                  refine wp_build0_abs 26 28 (by rfl) i0 Try.underlying26 HI.out w1.heap.size 32 hHeld.size ?_
                  intro v0 w5 ov0 g0 lv0
                  refine hK.out _ _ (hHeld.grown g0 hHeld.size (fun j hj => by cases hj)) (fun hHeld => ?_)
                  clear hK K
                  try simp only [Act.put, List.setIfInBounds_toArray, List.set_cons_zero, List.set_cons_succ]
                  refine heavy2 4 9 rfl rfl (by kernel_rfl) (fun K hK => ?_) (fun K hK => ?_)
                  · skip
                    rw [if_pos (by rfl)]
                    refine wp_append_from (.tmp 36) (.tmp 39) 26 (by rfl) w1.heap.size 28 i0 _ 32 32 Try.underlying26 HI.out hz0 hz1 hz2 (by simp [Value.cells]) (by decide) _ 0 [] (by rfl) ov0 _ _ _ (by rfl) (fun h => by cases h) (idcs (out.take k)) (by rw [idcs_len, List.length_take]; omega) (ids_news ((HOS.out _ hHeld).take k)) (idcs_one _) (by unfold maxLen; omega) (by omega) hHeld.size ?_
                    intro v4 w6 ov4 g4 _
                    refine hK.out _ _ (hHeld.grown g4 hHeld.size (owns_lt ov0)) (fun hHeld => ?_)
                    clear hK K
                    try simp only [Act.put, List.setIfInBounds_toArray, List.set_cons_zero, List.set_cons_succ]
                    refine heavyL 9 rfl (by kernel_rfl) (fun K hK => ?_)
                    rw [if_pos (by rfl)]
                    refine wp_build1_abs 26 28 (.tmp 44) (by rfl) (encI x) (by rfl) i0 _ Try.underlying26 HI.out hz0 (by rw [hz1, encI_len]) (by rw [encI_len]; omega) (by rw [encI_len]; omega) ?_
                    intro gx w7 hx gx0 lgx ltx
                    refine hK.out _ _ (hHeld.grown gx0 hHeld.size (fun j hj => by cases hj)) (fun hHeld => ?_)
                    clear hK K
                    try simp only [Act.put, List.setIfInBounds_toArray, List.set_cons_zero, List.set_cons_succ]
                    have OV4 := ov4.kept gx0 (by simp; exact Classical.em _)
                    have HX4 := hx
                    refine heavyL 10 rfl (by kernel_rfl) (fun K hK => ?_)
                    rw [if_pos (by rfl)]
                    refine wp_append_from (.tmp 40) (.tmp 45) 26 (by rfl) w1.heap.size 28 i0 _ 32 32 Try.underlying26 HI.out hz0 hz1 hz2 (by simp [Value.cells]) (by decide) _ (0 + k) _ (by rfl) OV4 _ 1 1 (by rfl) (fun h => by cases h) (encI x) (by rw [encI_len]) (fun ad had => by cases had; exact news_of_block0 HX4.out) (encI_one _) (by unfold maxLen; omega) (by omega) hHeld.size ?_
                    intro v6 wv ov6 g6 _
                    refine hK.out _ _ (hHeld.grown g6 hHeld.size (owns_lt OV4)) (fun hHeld => ?_)
                    clear hK K
                    try simp only [Act.put, List.setIfInBounds_toArray, List.set_cons_zero, List.set_cons_succ]
                    refine heavyL 14 rfl (by kernel_rfl) (fun K hK => ?_)
                    rw [if_pos (by rfl)]
                    refine wp_append_from (.tmp 46) (.tmp 49) 26 (by rfl) w1.heap.size 28 i0 _ 32 32 Try.underlying26 HI.out hz0 hz1 hz2 (by simp [Value.cells]) (by decide) _ (0 + k + 1) _ (by rfl) ov6 _ _ _ (by rfl) (fun h => by cases h) (idcs (out.drop k)) (by rw [idcs_len, List.length_drop] <;> omega) (HDR.out _ _) (idcs_one _) (by unfold maxLen; omega) (by omega) hHeld.size ?_
                    intro v8 wu ov8 g8 _
                    refine hK.out _ _ (hHeld.grown g8 hHeld.size (owns_lt ov6)) (fun hHeld => ?_)
                    clear hK K
                    try simp only [Act.put, List.setIfInBounds_toArray, List.set_cons_zero, List.set_cons_succ]
                    refine takeL 15 (v := ?_) rfl (by kernel_rfl) (by kernel_rfl) (by kernel_rfl) (fun _ _ _ h => h) (by rfl) hHeld ?_ ?_
                    rotate_left 1
                    · intro w2 hSw; go_simp <;> with_reducible rfl
                    try simp only [Act.put, List.setIfInBounds_toArray, List.set_cons_zero, List.set_cons_succ]
                    refine wpAnyH_done (by kernel_rfl) ?_ _
                    refine NoPanic.normal ?_
                    have hIO : idcs (insI x out) = ([] ++ idcs (out.take k)) ++ encI x ++ idcs (out.drop k) := by rw [HIn.out, idcs_app, idcs_snoc, List.nil_append]
                    have ov9 := owns_base ov8 hs1
                    rw [← hIO] at ov9
                    have ov10 := owns_relen ov9
                    have hB9 := hB1.trans (hHeld.mono hs1)
                    clear ov8 ov6 OV4 HX4 HXS HOS HIn hIO ho1 ov9
                    go_wp2_with fail
                    go_roundw
                    case rel => exact ⟨i + 1, by omega, by go_num, by rw [HT.out]; exact ov10, hB9⟩
                    case measure => simp [intOf]; omega
                  · skip
                    rw [if_pos (by rfl)]
                    refine wp_build1_abs 26 28 (.tmp 44) (by rfl) (encI x) (by rfl) i0 _ Try.underlying26 HI.out hz0 (by rw [hz1, encI_len]) (by rw [encI_len]; omega) (by rw [encI_len]; omega) ?_
                    intro gx w6 hx gx0 lgx ltx
                    refine hK.out _ _ (hHeld.grown gx0 hHeld.size (fun j hj => by cases hj)) (fun hHeld => ?_)
                    clear hK K
                    try simp only [Act.put, List.setIfInBounds_toArray, List.set_cons_zero, List.set_cons_succ]
                    have ov0' := ov0.kept gx0 (by simp; exact Classical.em _)
                    refine heavyL 4 rfl (by kernel_rfl) (fun K hK => ?_)
                    rw [if_pos (by rfl)]
                    refine wp_append_from (.tmp 36) (.tmp 39) 26 (by rfl) w1.heap.size 28 i0 _ 32 32 Try.underlying26 HI.out hz0 hz1 hz2 (by simp [Value.cells]) (by decide) _ 0 [] (by rfl) ov0' _ _ _ (by rfl) (fun h => by cases h) (idcs (out.take k)) (by rw [idcs_len, List.length_take]; omega) (ids_news ((HOS.out _ hHeld).take k)) (idcs_one _) (by unfold maxLen; omega) (by omega) hHeld.size ?_
                    intro v4 w7 ov4 g4 _
                    refine hK.out _ _ (hHeld.grown g4 hHeld.size (owns_lt ov0')) (fun hHeld => ?_)
                    clear hK K
                    try simp only [Act.put, List.setIfInBounds_toArray, List.set_cons_zero, List.set_cons_succ]
                    have OV4 := ov4
                    have HX4 := Lib.hid (heap_kept hx.out g4 ov0 lgx)
                    refine heavyL 10 rfl (by kernel_rfl) (fun K hK => ?_)
                    rw [if_pos (by rfl)]
                    refine wp_append_from (.tmp 40) (.tmp 45) 26 (by rfl) w1.heap.size 28 i0 _ 32 32 Try.underlying26 HI.out hz0 hz1 hz2 (by simp [Value.cells]) (by decide) _ (0 + k) _ (by rfl) OV4 _ 1 1 (by rfl) (fun h => by cases h) (encI x) (by rw [encI_len]) (fun ad had => by cases had; exact news_of_block0 HX4.out) (encI_one _) (by unfold maxLen; omega) (by omega) hHeld.size ?_
                    intro v6 wv ov6 g6 _
                    refine hK.out _ _ (hHeld.grown g6 hHeld.size (owns_lt OV4)) (fun hHeld => ?_)
                    clear hK K
                    try simp only [Act.put, List.setIfInBounds_toArray, List.set_cons_zero, List.set_cons_succ]
                    refine heavyL 14 rfl (by kernel_rfl) (fun K hK => ?_)
                    rw [if_pos (by rfl)]
                    refine wp_append_from (.tmp 46) (.tmp 49) 26 (by rfl) w1.heap.size 28 i0 _ 32 32 Try.underlying26 HI.out hz0 hz1 hz2 (by simp [Value.cells]) (by decide) _ (0 + k + 1) _ (by rfl) ov6 _ _ _ (by rfl) (fun h => by cases h) (idcs (out.drop k)) (by rw [idcs_len, List.length_drop] <;> omega) (HDR.out _ _) (idcs_one _) (by unfold maxLen; omega) (by omega) hHeld.size ?_
                    intro v8 wu ov8 g8 _
                    refine hK.out _ _ (hHeld.grown g8 hHeld.size (owns_lt ov6)) (fun hHeld => ?_)
                    clear hK K
                    try simp only [Act.put, List.setIfInBounds_toArray, List.set_cons_zero, List.set_cons_succ]
                    refine takeL 15 (v := ?_) rfl (by kernel_rfl) (by kernel_rfl) (by kernel_rfl) (fun _ _ _ h => h) (by rfl) hHeld ?_ ?_
                    rotate_left 1
                    · intro w2 hSw; go_simp <;> with_reducible rfl
                    try simp only [Act.put, List.setIfInBounds_toArray, List.set_cons_zero, List.set_cons_succ]
                    refine wpAnyH_done (by kernel_rfl) ?_ _
                    refine NoPanic.normal ?_
                    have hIO : idcs (insI x out) = ([] ++ idcs (out.take k)) ++ encI x ++ idcs (out.drop k) := by rw [HIn.out, idcs_app, idcs_snoc, List.nil_append]
                    have ov9 := owns_base ov8 hs1
                    rw [← hIO] at ov9
                    have ov10 := owns_relen ov9
                    have hB9 := hB1.trans (hHeld.mono hs1)
                    clear ov8 ov6 OV4 HX4 HXS HOS HIn hIO ho1 ov9
                    go_wp2_with fail
                    go_roundw
                    case rel => exact ⟨i + 1, by omega, by go_num, by rw [HT.out]; exact ov10, hB9⟩
                    case measure => simp [intOf]; omega
                · skip
                  rw [if_pos (by rfl)]
                  refine wp_build1_abs 26 28 (.tmp 44) (by rfl) (encI x) (by rfl) i0 _ Try.underlying26 HI.out hz0 (by rw [hz1, encI_len]) (by rw [encI_len]; omega) (by rw [encI_len]; omega) ?_
                  intro gx w5 hx gx0 lgx ltx
                  refine hK.out _ _ (hHeld.grown gx0 hHeld.size (fun j hj => by cases hj)) (fun hHeld => ?_)
                  clear hK K
                  try simp only [Act.put, List.setIfInBounds_toArray, List.set_cons_zero, List.set_cons_succ]
                  refine heavyL 0 rfl (by kernel_rfl) (fun K hK => ?_)
                  rw [if_pos (by rfl)]
                  refine wp_build0_abs 26 28 (by rfl) i0 Try.underlying26 HI.out w1.heap.size 32 hHeld.size ?_
                  intro v0 w6 ov0 g0 lv0
                  refine hK.out _ _ (hHeld.grown g0 hHeld.size (fun j hj => by cases hj)) (fun hHeld => ?_)
                  clear hK K
                  try simp only [Act.put, List.setIfInBounds_toArray, List.set_cons_zero, List.set_cons_succ]
                  have hx6 := Lib.hid ((g0.block gx ltx (by simp)).trans hx.out)
                  refine heavyL 4 rfl (by kernel_rfl) (fun K hK => ?_)
                  rw [if_pos (by rfl)]
                  refine wp_append_from (.tmp 36) (.tmp 39) 26 (by rfl) w1.heap.size 28 i0 _ 32 32 Try.underlying26 HI.out hz0 hz1 hz2 (by simp [Value.cells]) (by decide) _ 0 [] (by rfl) ov0 _ _ _ (by rfl) (fun h => by cases h) (idcs (out.take k)) (by rw [idcs_len, List.length_take]; omega) (ids_news ((HOS.out _ hHeld).take k)) (idcs_one _) (by unfold maxLen; omega) (by omega) hHeld.size ?_
                  intro v4 w7 ov4 g4 _
                  refine hK.out _ _ (hHeld.grown g4 hHeld.size (owns_lt ov0)) (fun hHeld => ?_)
                  clear hK K
                  try simp only [Act.put, List.setIfInBounds_toArray, List.set_cons_zero, List.set_cons_succ]
                  have OV4 := ov4
                  have HX4 := Lib.hid (heap_kept' hx6.out g4 (fun h => by have := lv0 _ h; omega))
                  refine heavyL 10 rfl (by kernel_rfl) (fun K hK => ?_)
                  rw [if_pos (by rfl)]
                  refine wp_append_from (.tmp 40) (.tmp 45) 26 (by rfl) w1.heap.size 28 i0 _ 32 32 Try.underlying26 HI.out hz0 hz1 hz2 (by simp [Value.cells]) (by decide) _ (0 + k) _ (by rfl) OV4 _ 1 1 (by rfl) (fun h => by cases h) (encI x) (by rw [encI_len]) (fun ad had => by cases had; exact news_of_block0 HX4.out) (encI_one _) (by unfold maxLen; omega) (by omega) hHeld.size ?_
                  intro v6 wv ov6 g6 _
                  refine hK.out _ _ (hHeld.grown g6 hHeld.size (owns_lt OV4)) (fun hHeld => ?_)
                  clear hK K
                  try simp only [Act.put, List.setIfInBounds_toArray, List.set_cons_zero, List.set_cons_succ]
                  refine heavyL 14 rfl (by kernel_rfl) (fun K hK => ?_)
                  rw [if_pos (by rfl)]
                  refine wp_append_from (.tmp 46) (.tmp 49) 26 (by rfl) w1.heap.size 28 i0 _ 32 32 Try.underlying26 HI.out hz0 hz1 hz2 (by simp [Value.cells]) (by decide) _ (0 + k + 1) _ (by rfl) ov6 _ _ _ (by rfl) (fun h => by cases h) (idcs (out.drop k)) (by rw [idcs_len, List.length_drop] <;> omega) (HDR.out _ _) (idcs_one _) (by unfold maxLen; omega) (by omega) hHeld.size ?_
                  intro v8 wu ov8 g8 _
                  refine hK.out _ _ (hHeld.grown g8 hHeld.size (owns_lt ov6)) (fun hHeld => ?_)
                  clear hK K
                  try simp only [Act.put, List.setIfInBounds_toArray, List.set_cons_zero, List.set_cons_succ]
                  refine takeL 15 (v := ?_) rfl (by kernel_rfl) (by kernel_rfl) (by kernel_rfl) (fun _ _ _ h => h) (by rfl) hHeld ?_ ?_
                  rotate_left 1
                  · intro w2 hSw; go_simp <;> with_reducible rfl
                  try simp only [Act.put, List.setIfInBounds_toArray, List.set_cons_zero, List.set_cons_succ]
                  refine wpAnyH_done (by kernel_rfl) ?_ _
                  refine NoPanic.normal ?_
                  have hIO : idcs (insI x out) = ([] ++ idcs (out.take k)) ++ encI x ++ idcs (out.drop k) := by rw [HIn.out, idcs_app, idcs_snoc, List.nil_append]
                  have ov9 := owns_base ov8 hs1
                  rw [← hIO] at ov9
                  have ov10 := owns_relen ov9
                  have hB9 := hB1.trans (hHeld.mono hs1)
                  clear ov8 ov6 OV4 HX4 HXS HOS HIn hIO ho1 ov9
                  go_wp2_with fail
                  go_roundw
                  case rel => exact ⟨i + 1, by omega, by go_num, by rw [HT.out]; exact ov10, hB9⟩
                  case measure => simp [intOf]; omega
    · have hlti : ¬ (i : Int) < (l.length : Int) := by omega
      have hil2 : i = l.length := by omega
      have htk : l.take i = l := List.take_of_length_le (by omega)
      rw [htk] at ho
      go_wp2
      go_ret
      exact ⟨_, rfl, by simpa [htk] using ho, hB⟩
end Go.Proofs.Ytnoilnmkdahhiaa
