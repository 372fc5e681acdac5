/- slices.Compact at identities. -/
import Derived.Test.YtnoilnmkdahhiaaRows
import Derived.Test.YtnoilnmkdahhiaaIds
import Derived.Test.YtnoilnmkdahhiaaIdTo
import Derived.Test.YtnoilnmkdahhiaaIdCompP
import Derived.Test.YtnoilnmkdahhiaaQClass
import Derived.WalkKit
import Derived.OwnWalk
import Derived.WalkSpells
import Derived.WalkLawsBesides
import Derived.Lib.Hide
import Derived.Deep.QuietTactic
import Derived.BigQuiet
import Derived.Deep.MidRow
import Derived.Outline
namespace Go.Proofs.Ytnoilnmkdahhiaa
open Go.RowKit

theorem rangeAt_of_owns {w : World} {base g n cap : Nat} {e : TypeId} {l : List I32} (h : w.ownsRow base e 32 (.slice (some ⟨g, 0, none⟩) n cap) n (idcs l)) (i : Nat) (hi : i < l.length) : w.rangeAt g (i * 32) (encI l[i]) ∧ g < w.heap.size := by
  obtain ⟨hln, ao, cap', hv, _, hat⟩ := idsAt_of_owns h
  cases hv
  obtain ⟨g', o, e', hg, hr⟩ := hat.at hi
  rcases h.2 with ⟨h0, _⟩ | ⟨g2, cap2, cur, hv2, _⟩
  · cases h0
  cases hv2
  cases e'
  rw [Nat.zero_add] at hr
  exact ⟨hr, hg⟩
theorem owns_below {w w' : World} {base n : Nat} {e : TypeId} {v : Value} {xs : List Value} (h : w.ownsRow base e 32 v n xs) (b : Below w.heap.size w w') : w'.ownsRow base e 32 v n xs :=
  h.kept (row := none) ⟨b.os, b.tape, b.output, b.size, fun q hq _ => b.block q hq⟩ (by cases v.ownBlock <;> simp)
theorem grown_below {w wr w' : World} {row : Option Nat} (h : w.grownBy wr row) (b : Below wr.heap.size wr w') : w.grownBy w' row :=
  ⟨b.os.trans h.os, b.tape.trans h.tape, b.output.trans h.output, Nat.le_trans h.size b.size, fun k hk hr => (b.block k (Nat.lt_of_lt_of_le hk h.size)).trans (h.block k hk hr)⟩
theorem grown_trans {w wr w' : World} {row : Option Nat} (h : w.grownBy wr row) (b : wr.grownBy w' row) : w.grownBy w' row :=
  ⟨b.os.trans h.os, b.tape.trans h.tape, b.output.trans h.output, Nat.le_trans h.size b.size, fun k hk hr => (b.block k (Nat.lt_of_lt_of_le hk h.size) hr).trans (h.block k hk hr)⟩

theorem owns_mono {w : World} {base base' n size : Nat} {e : TypeId} {v : Value} {xs : List Value} (h : w.ownsRow base e size v n xs) (hb : base' ≤ base) : w.ownsRow base' e size v n xs := by
  rcases h.2 with ⟨rfl, rfl⟩ | ⟨g, cap, cur, rfl, h1, h2, h3, h4, h5, h6⟩
  · exact ⟨h.1, .inl ⟨rfl, rfl⟩⟩
  · exact ⟨h.1, .inr ⟨g, cap, cur, rfl, Nat.le_trans hb h1, h2, h3, h4, h5, h6⟩⟩
theorem there_of_owns {w : World} {base g n cap : Nat} {e : TypeId} {xs : List Value} (h : w.ownsRow base e 32 (.slice (some ⟨g, 0, none⟩) n cap) n xs) (o m : Nat) (hm : o + m ≤ n * 32) : w.there g o m := fun j hj => by
  have hl := h.1
  refine ⟨by rw [h.cellAt (o + j) (by omega), List.getElem?_eq_getElem (by omega)]; rfl, ?_⟩
  rcases h.2 with ⟨h0, _⟩ | ⟨g', cap', cur, hv, _, hg, _⟩
  · cases h0
  cases hv
  exact frozen_of_row _ _ _ _ _ hg

set_option maxRecDepth 100000 in
set_option maxHeartbeats 2000000 in
theorem compact_some (base g n cap : Nat) (l : List I32) (hn : l.length ≤ 1000000) (h2 : 2 ≤ n) (w : World) (h : w.ownsRow base 24 32 (.slice (some ⟨g, 0, none⟩) n cap) n (idcs l)) :
    Calls Try.prog 23 #[.slice (some ⟨g, 0, none⟩) n cap] w fun e w' => ∃ v', e = .returned v' ∧ w'.ownsRow base 24 32 v' (ded l).length (idcs (ded l)) ∧ w.grownBy w' (some g) := by
  have hln : l.length = n := by have h1 := h.1; rw [idcs_len] at h1; omega
  have HLN := Lib.hid hln
  have h2i : ¬ (n : Int) < 2 := by omega
  have hnb : n ≤ 1000000 := by omega
  have hcapn : n ≤ cap ∧ cap ≤ maxLen := by
    rcases h.2 with ⟨h0, _⟩ | ⟨g', cap', cur, hv, _, _, h4, h5, _⟩
    · cases h0
    · cases hv; exact ⟨h4, h5⟩
  clear hln hn
  unfold maxLen at hcapn
  obtain ⟨hcap, hcm⟩ := hcapn
  go_enter Try.func23, Try.ntmps23
  go_wp2_with fail
  go_loopw [3] (fun i wr => ∃ k : Nat, 1 ≤ k ∧ k ≤ n ∧ i = .int .i64 k ∧ Hid (ded (l.take k) = l.take k) ∧ wr.ownsRow base 24 32 (.slice (some ⟨g, 0, none⟩) n cap) n (idcs l) ∧ w.grownBy wr (some g)) (fun i _ => n - (intOf i).toNat)
  case atStart => exact ⟨1, by omega, by omega, rfl, Lib.hid (ded_short _ (by rw [List.length_take]; omega)), h, World.grownBy.refl _ _⟩
  case round =>
    obtain ⟨k, hk1, hk, rfl, HK, ho, hG⟩ := hrel
    by_cases hlt : k < n
    · have hlti : (k : Int) < (n : Int) := by omega
      have hk0 : (0 : Int) ≤ (k : Int) := by omega
      have hk1' : (0 : Int) ≤ (k : Int) - 1 := by omega
      have hk1'' : (k : Int) - 1 < (n : Int) := by omega
      have hkl : k < l.length := by rw [HLN.out]; exact hlt
      obtain ⟨hx, hg⟩ := rangeAt_of_owns ho k hkl
      obtain ⟨hy, _⟩ := rangeAt_of_owns ho (k - 1) (by omega)
      have HT : Hid (ded (l.take (k + 1)) = if l[k - 1] = l[k] then ded (l.take k) else ded (l.take k) ++ [l[k]]) := Lib.hid (by
        have := ded_take l (k - 1) (by omega)
        simp only [show k - 1 + 2 = k + 1 by omega, show k - 1 + 1 = k by omega] at this
        exact this)
      have HTK : Hid (l.take (k + 1) = l.take k ++ [l[k]]) := Lib.hid (List.take_succ_eq_append_getElem hkl)
      have HLX : Hid (∀ s : WIn (After wr.heap.size wr), s.w.rangeAt g (k * 32) (encI l[k])) := Lib.hid (fun s => rangeAt_below hx s.h hg)
      have HLY : Hid (∀ s : WIn (After wr.heap.size wr), s.w.rangeAt g ((k - 1) * 32) (encI l[k - 1])) := Lib.hid (fun s => rangeAt_below hy s.h hg)
      have hq := eqI l[k] l[k - 1]
      have HE : Hid (∀ b, (l[k].1 == l[k - 1].1) = b → b = decide (l[k - 1] = l[k])) := Lib.hid (fun b hb => by
        rw [← hb, Bool.eq_iff_iff]; simp only [beq_iff_eq, decide_eq_true_eq]; exact ⟨fun h => Subtype.ext h.symm, fun h => by rw [h]⟩)
      clear hx hy
      generalize l[k] = x at *
      generalize l[k - 1] = y at *
      have HSx := Lib.hid (idSize x)
      have HSy := Lib.hid (idSize y)
      cases hxy : (x.1 == y.1)
      · have hyx : ¬ y = x := by have := HE.out false hxy; simpa using this
        have HD : Hid (ded (l.take (k + 1)) = l.take (k + 1)) := Lib.hid (by rw [HT.out, if_neg hyx, HK.out, HTK.out])
        clear hyx
        go_wp2_with fail
        refine wp_region_class (After wr.heap.size wr) (by kernel_rfl) (by kernel_rfl) (Below.refl _ _).drew (fun hne => ?_)
        repeat (first
          | (go_big_quiet_want; refine quiet_load_mid 24 (.tmp 18) (by rfl) g (k * 32) (by rfl) (encI x) _ HLX.out Try.underlying24 rfl HSx.out ?_; simp only [Act.put, List.setIfInBounds_toArray, List.set_cons_zero, List.set_cons_succ]; go_big_quiet_on)
          | (go_big_quiet_want; refine quiet_load_mid 24 (.tmp 23) (by rfl) g ((k - 1) * 32) (by rfl) (encI y) _ HLY.out Try.underlying24 rfl HSy.out ?_; simp only [Act.put, List.setIfInBounds_toArray, List.set_cons_zero, List.set_cons_succ]; go_big_quiet_on)
          | go_big_quiet_skip
          | (go_big_quiet_want; go_big_quiet_op; go_big_quiet_on))
        refine wpQuiet_nil ?_
        intro w5 h5
        have ho5 := owns_below ho h5
        have hG5 := grown_below hG h5
        clear hne HLX HLY HT HTK HE hq HSx HSy hxy ho hG HK h5
        go_wp2
        go_roundw
        case rel => exact ⟨k + 1, by omega, by omega, by go_num, HD, ho5, hG5⟩
        case measure => simp [intOf]; omega
      · go_wp2_with fail
        refine wp_region_class (After wr.heap.size wr) (by kernel_rfl) (by kernel_rfl) (Below.refl _ _).drew (fun hne => ?_)
        repeat (first
          | (go_big_quiet_want; refine quiet_load_mid 24 (.tmp 18) (by rfl) g (k * 32) (by rfl) (encI x) _ HLX.out Try.underlying24 rfl HSx.out ?_; simp only [Act.put, List.setIfInBounds_toArray, List.set_cons_zero, List.set_cons_succ]; go_big_quiet_on)
          | (go_big_quiet_want; refine quiet_load_mid 24 (.tmp 23) (by rfl) g ((k - 1) * 32) (by rfl) (encI y) _ HLY.out Try.underlying24 rfl HSy.out ?_; simp only [Act.put, List.setIfInBounds_toArray, List.set_cons_zero, List.set_cons_succ]; go_big_quiet_on)
          | go_big_quiet_skip
          | (go_big_quiet_want; go_big_quiet_op; go_big_quiet_on))
        refine wpQuiet_nil ?_
        intro w5 h5
        have hyx : y = x := by have := HE.out true hxy; simpa using this.symm
        have ho5 := owns_below ho h5
        have hG5 := grown_below hG h5
        have HD : Hid (ded (l.take (k + 1)) = l.take k) := Lib.hid (by rw [HT.out, if_pos hyx, HK.out])
        clear hne HLX HLY HT HTK HE hq HSx HSy hyx hxy ho hG HK h5
        rename World => wo
        go_wp2_with fail
        go_loopw [3, 5] (fun kv qv wi => ∃ (kk q : Nat) (C : List I32), kv = .int .i64 kk ∧ qv = .int .i64 q ∧ 1 ≤ q ∧ q ≤ n - k ∧ kk + 1 ≤ k + q ∧ Hid (C.take kk = ded (l.take (k + q))) ∧ Hid (kk = (ded (l.take (k + q))).length) ∧ Hid (C.length = n) ∧ Hid (∀ j, k + q ≤ j + 1 → C[j]? = l[j]?) ∧
          wi.ownsRow base 24 32 (.slice (some ⟨g, 0, none⟩) n cap) n (idcs C) ∧ w.grownBy wi (some g)) (fun _ qv _ => n - k - (intOf qv).toNat)
        case atStart => exact ⟨k, 1, l, rfl, rfl, by omega, by omega, by omega, Lib.hid HD.out.symm, Lib.hid (by rw [HD.out, List.length_take, HLN.out]; omega), Lib.hid HLN.out, Lib.hid (fun _ _ => rfl), ho5, hG5⟩
        case round =>
          obtain ⟨kk, q, C, rfl, rfl, hq1, hqn, hkq, HC1, HC2, HCl, HC3, hoi, hGi⟩ := hrel
          by_cases hlq : q < n - k
          · have hlqi : (q : Int) < ((n - k : Nat) : Int) := by omega
            have hqq0 : (0 : Int) ≤ (q : Int) := by omega
            have hqq1 : (0 : Int) ≤ (q : Int) - 1 := by omega
            have hqq2 : (q : Int) - 1 < ((n - k : Nat) : Int) := by omega
            have hkkn : (kk : Int) < (n : Int) := by omega
            have hkk0 : (0 : Int) ≤ (kk : Int) := by omega
            have hkql : k + q < l.length := by rw [HLN.out]; omega
            have hkqC : k + q < C.length := by rw [HCl.out]; omega
            have hkqC1 : k + q - 1 < C.length := by omega
            obtain ⟨hx2, hgi⟩ := rangeAt_of_owns hoi (k + q) hkqC
            obtain ⟨hy2, _⟩ := rangeAt_of_owns hoi (k + q - 1) hkqC1
            have ex2 : C[k + q] = l[k + q] := by have := HC3.out (k + q) (by omega); rw [List.getElem?_eq_getElem hkqC, List.getElem?_eq_getElem hkql] at this; exact Option.some.inj this
            have ey2 : C[k + q - 1] = l[k + q - 1] := by have := HC3.out (k + q - 1) (by omega); rw [List.getElem?_eq_getElem hkqC1, List.getElem?_eq_getElem (by omega)] at this; exact Option.some.inj this
            rw [ex2] at hx2
            rw [ey2] at hy2
            have HTq : Hid (ded (l.take (k + (q + 1))) = if l[k + q - 1] = l[k + q] then ded (l.take (k + q)) else ded (l.take (k + q)) ++ [l[k + q]]) := Lib.hid (by
              have := ded_take l (k + q - 1) (by omega)
              simp only [show k + q - 1 + 2 = k + (q + 1) by omega, show k + q - 1 + 1 = k + q by omega] at this
              exact this)
            have hx2' : wr.rangeAt g (k * 32 + q * 32) (encI l[k + q]) := by rw [← Nat.add_mul]; exact hx2
            have hy2' : wr.rangeAt g (k * 32 + (q - 1) * 32) (encI l[k + q - 1]) := by rw [← Nat.add_mul, show k + (q - 1) = k + q - 1 by omega]; exact hy2
            have HLX2 : Hid (∀ s : WIn (After wr.heap.size wr), s.w.rangeAt g (k * 32 + q * 32) (encI l[k + q])) := Lib.hid (fun s => rangeAt_below hx2' s.h hgi)
            have HLY2 : Hid (∀ s : WIn (After wr.heap.size wr), s.w.rangeAt g (k * 32 + (q - 1) * 32) (encI l[k + q - 1])) := Lib.hid (fun s => rangeAt_below hy2' s.h hgi)
            have hq2 := eqI l[k + q] l[k + q - 1]
            have HE2 : Hid (∀ b, (l[k + q].1 == l[k + q - 1].1) = b → b = decide (l[k + q - 1] = l[k + q])) := Lib.hid (fun b hb => by
              rw [← hb, Bool.eq_iff_iff]; simp only [beq_iff_eq, decide_eq_true_eq]; exact ⟨fun h => Subtype.ext h.symm, fun h => by rw [h]⟩)
            clear hx2 hy2 ex2 ey2 hx2' hy2'
            generalize l[k + q] = x2 at *
            generalize l[k + q - 1] = y2 at *
            have HSx2 := Lib.hid (idSize x2)
            have HSy2 := Lib.hid (idSize y2)
            cases hxy : (x2.1 == y2.1)
            · have hyx : ¬ y2 = x2 := by have := HE2.out false hxy; simpa using this
              have HD2 : Hid (ded (l.take (k + (q + 1))) = ded (l.take (k + q)) ++ [x2]) := Lib.hid (by rw [HTq.out, if_neg hyx])
              go_wp2_with fail
              refine wp_region_class (After wr.heap.size wr) (by kernel_rfl) (by kernel_rfl) (Below.refl _ _).drew (fun hne => ?_)
              repeat (first
                | (go_big_quiet_want; refine quiet_load_mid 24 (.tmp 37) (by rfl) g (k * 32 + q * 32) (by rfl) (encI x2) _ HLX2.out Try.underlying24 rfl HSx2.out ?_; simp only [Act.put, List.setIfInBounds_toArray, List.set_cons_zero, List.set_cons_succ]; go_big_quiet_on)
                | (go_big_quiet_want; refine quiet_load_mid 24 (.tmp 42) (by rfl) g (k * 32 + (q - 1) * 32) (by rfl) (encI y2) _ HLY2.out Try.underlying24 rfl HSy2.out ?_; simp only [Act.put, List.setIfInBounds_toArray, List.set_cons_zero, List.set_cons_succ]; go_big_quiet_on)
                | go_big_quiet_skip
                | (go_big_quiet_want; go_big_quiet_op; go_big_quiet_on))
              refine wpQuiet_nil ?_
              intro w6 h6
              have ho6 := owns_below hoi h6
              have hG6 := grown_below hGi h6
              have hx6 : Hid (w6.rangeAt g (k * 32 + q * 32) (encI x2)) := Lib.hid (HLX2.out ⟨w6, h6⟩)
              clear hne HLX2 HLY2 HTq HE2 hq2 HSy2 hyx hxy hoi hGi h6
              have hth : w6.there g (kk * 32) 32 := there_of_owns ho6 (kk * 32) 32 (by omega)
              have HTh := Lib.hid hth
              have HSx3 := Lib.hid (HSx2.out.trans (by simp : some (encI x2).length = some (encI x2).toArray.size))
              have HO1 := Lib.hid (bytes_one x2.1)
              clear hth
              go_wp2_with (first
                | (refine wpList_load_mid rfl _ _ rfl g (k * 32 + q * 32) rfl (encI x2) _ hx6.out Try.underlying24 rfl HSx2.out ?_)
                | (refine wpList_store_mid rfl _ _ _ rfl g (kk * 32) (encI x2).toArray rfl rfl (by simp only [List.size_toArray, encI_len]; exact HTh.out) HSx3.out HO1.out ?_))
              have hw := owns_setCells (encI x2) (idcs C) (kk * 32) _ ho6
              rw [setL_id C kk (by rw [HCl.out]; omega) x2] at hw
              have hG7 := grown_trans hG6 hw.2
              have ho7 := hw.1
              have HC1' : Hid ((C.set kk x2).take (kk + 1) = ded (l.take (k + (q + 1)))) := Lib.hid (by
                rw [HD2.out, ← HC1.out, List.take_succ_eq_append_getElem (by rw [List.length_set, HCl.out]; omega), List.take_set_of_le (Nat.le_refl _)]
                simp)
              have HC2' : Hid (kk + 1 = (ded (l.take (k + (q + 1)))).length) := Lib.hid (by rw [HD2.out, List.length_append, ← HC2.out]; rfl)
              have HCl' : Hid ((C.set kk x2).length = n) := Lib.hid (by rw [List.length_set]; exact HCl.out)
              have HC3' : Hid (∀ j, k + (q + 1) ≤ j + 1 → (C.set kk x2)[j]? = l[j]?) := Lib.hid (fun j hj => by rw [List.getElem?_set_ne (by omega)]; exact HC3.out j (by omega))
              clear hw ho6 hG6 HC1 HC2 HC3 HCl HD2 hx6 HTh HSx3 HO1 HSx2
              try simp only [List.toList_toArray]
              generalize w6.setCells g (kk * 32) (encI x2) = w7 at *
              generalize C.set kk x2 = C' at *
              go_wp2
              go_roundw
              case rel => exact ⟨kk + 1, q + 1, C', by go_num, by go_num, by omega, by omega, by omega, HC1', HC2', HCl', HC3', ho7, hG7⟩
              case measure => simp [intOf]; omega
            · have hyx : y2 = x2 := by have := HE2.out true hxy; simpa using this.symm
              have HD2 : Hid (ded (l.take (k + (q + 1))) = ded (l.take (k + q))) := Lib.hid (by rw [HTq.out, if_pos hyx])
              clear hyx
              go_wp2_with fail
              refine wp_region_class (After wr.heap.size wr) (by kernel_rfl) (by kernel_rfl) (Below.refl _ _).drew (fun hne => ?_)
              repeat (first
                | (go_big_quiet_want; refine quiet_load_mid 24 (.tmp 37) (by rfl) g (k * 32 + q * 32) (by rfl) (encI x2) _ HLX2.out Try.underlying24 rfl HSx2.out ?_; simp only [Act.put, List.setIfInBounds_toArray, List.set_cons_zero, List.set_cons_succ]; go_big_quiet_on)
                | (go_big_quiet_want; refine quiet_load_mid 24 (.tmp 42) (by rfl) g (k * 32 + (q - 1) * 32) (by rfl) (encI y2) _ HLY2.out Try.underlying24 rfl HSy2.out ?_; simp only [Act.put, List.setIfInBounds_toArray, List.set_cons_zero, List.set_cons_succ]; go_big_quiet_on)
                | go_big_quiet_skip
                | (go_big_quiet_want; go_big_quiet_op; go_big_quiet_on))
              refine wpQuiet_nil ?_
              intro w6 h6
              have ho6 := owns_below hoi h6
              have hG6 := grown_below hGi h6
              clear hne HLX2 HLY2 HTq HE2 hq2 HSy2 hxy hoi hGi h6
              go_wp2
              go_roundw
              case rel => exact ⟨kk, q + 1, C, rfl, by go_num, by omega, by omega, by omega, Lib.hid (by rw [HD2.out]; exact HC1.out), Lib.hid (by rw [HD2.out]; exact HC2.out), HCl, Lib.hid (fun j hj => HC3.out j (by omega)), ho6, hG6⟩
              case measure => simp [intOf]; omega
          · have hqe : q = n - k := by omega
            have hlqi : ¬ (q : Int) < ((n - k : Nat) : Int) := by omega
            have hl' : l.take (k + q) = l := List.take_of_length_le (by rw [HLN.out]; omega)
            rw [hl'] at HC1 HC2
            have hkkn : kk + 1 ≤ n := by omega
            have hkki : (kk : Int) ≤ (n : Int) := by omega
            have hkkc : (kk : Int) ≤ (cap : Int) := by omega
            have hth := there_of_owns hoi (kk * 32) ((n - kk) * 32) (by omega)
            obtain ⟨z, hz, hzc⟩ : ∃ z, (∀ w, (zeroValue 24).run Try.prog w = .ok z w) ∧ z.cells = (encI default).toArray := ⟨_, Try.zeroValue24, by rfl⟩
            obtain ⟨vs, hvl, hcl0⟩ := run_clear_ids (P := Try.prog) wr 22 24 0 z Try.underlying22 hz hzc g (kk * 32) (n - kk) (cap - kk) (by omega) (fun j hj => (hth j hj).1) (fun j hj => (hth j hj).2)
            have hcl : ∀ ty, (Builtin.clear_ #[22] ty #[.slice (some ⟨g, kk * 32, none⟩) (n - kk) (cap - kk)]).run Try.prog wr = .ok (.tuple #[]) (wr.setCells g (kk * 32) vs) := fun ty => hcl0
            have hw := owns_setCells vs (idcs C) (kk * 32) _ hoi
            have ho8 := owns_takeR hw.1 (k := kk) (by omega)
            rw [setL_take _ _ _ (by rw [hvl, idcs_len, HCl.out, ← Nat.add_mul]; apply Nat.mul_le_mul_right; omega), idcs_take _ _ (by rw [HCl.out]; omega), HC1.out] at ho8
            have hG8 := grown_trans hGi hw.2
            have HO8 := Lib.hid ho8
            clear hw ho8 hoi hGi hth hz hzc hcl0 hqe hl' HC1 HC3 HCl hvl HLN
            go_wp2
            go_ret
            exact ⟨_, rfl, by rw [← HC2.out]; exact HO8.out, hG8⟩
    · have hlti : ¬ (k : Int) < (n : Int) := by omega
      have hl' : l.take k = l := List.take_of_length_le (by rw [HLN.out]; omega)
      rw [hl'] at HK
      have ho' : wr.ownsRow base 24 32 (.slice (some ⟨g, 0, none⟩) n cap) (ded l).length (idcs (ded l)) := by rw [HK.out, HLN.out]; exact ho
      clear hl' HK HLN ho
      go_wp2
      go_ret
      exact ⟨_, rfl, ho', hG⟩

theorem compact_any (base n : Nat) (v : Value) (l : List I32) (hn : l.length ≤ 1000000) (w : World) (h : w.ownsRow base 24 32 v n (idcs l)) :
    Calls Try.prog 23 #[v] w fun e w' => ∃ v', e = .returned v' ∧ w'.ownsRow base 24 32 v' (ded l).length (idcs (ded l)) ∧ w.grownBy w' v.ownBlock := by
  have hln : l.length = n := by have h1 := h.1; rw [idcs_len] at h1; omega
  by_cases h2 : n < 2
  · have h2i : (n : Int) < 2 := by omega
    have hd := ded_short l (by omega)
    rw [hd, hln]
    obtain ⟨_, ao, cap, rfl, _, _⟩ := idsAt_of_owns h
    clear hd
    go_enter Try.func23, Try.ntmps23
    go_wp2
    go_ret
    exact ⟨_, rfl, h, World.grownBy.refl _ _⟩
  · obtain ⟨g, cap, rfl, _⟩ := h.form (by omega)
    exact compact_some base g n cap l hn (by omega) w h
end Go.Proofs.Ytnoilnmkdahhiaa
