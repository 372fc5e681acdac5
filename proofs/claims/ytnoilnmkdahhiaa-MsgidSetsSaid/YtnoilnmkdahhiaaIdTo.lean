/- Contracts of to and equal of layer 11's law and of the reference's Has. -/
import Derived.Test.YtnoilnmkdahhiaaRows
import Derived.Test.YtnoilnmkdahhiaaBase
import Derived.Test.YtnoilnmkdahhiaaRow
import Derived.Test.YtnoilnmkdahhiaaCmpW
import Derived.Test.YtnoilnmkdahhiaaIds
import Derived.Test.YtnoilnmkdahhiaaQClass
import Derived.Test.YtnoilnmkdahhiaaBuild1
import Derived.WalkKit
import Derived.OwnWalk
import Derived.Maps.AppendAt
import Derived.WalkSpells
import Derived.WalkLawsBesides
import Derived.Lib.Hide
import Derived.Deep.QuietTactic
import Derived.BigQuiet
import Derived.Deep.MidRow
import Derived.Deep.AppendLies
import Derived.Outline
namespace Go.Proofs.Ytnoilnmkdahhiaa
open Go.RowKit

theorem infoId : (Try.prog.info? 24).map (fun i => (i.zero, i.size, i.bytes)) = some (some (.agg (Array.replicate 32 (.int .u8 0))), 32, 32) := by kernel_rfl
theorem infoRid : (Try.prog.info? 28).map (fun i => (i.zero, i.size, i.bytes)) = some (some (.agg (Array.replicate 32 (.int .u8 0))), 32, 32) := by kernel_rfl
theorem idSize (x : I32) : (Try.prog.info? 24).map (·.size) = some (encI x).length := by rw [encI_len]; kernel_rfl
theorem ridSize (x : I32) : (Try.prog.info? 28).map (·.size) = some (encI x).length := by rw [encI_len]; kernel_rfl
theorem alloc_sz (w : World) (o : Obj) : (w.alloc o).heap.size = w.heap.size + 1 := by simp

set_option maxRecDepth 100000 in
set_option maxHeartbeats 1600000 in
theorem to_any (l : List I32) (hl : l.length ≤ 40) (ao : Option Addr) (c : Nat) (w : World) (hv : IdsAt w.heap.size ao l w) :
    Calls Try.prog 7 #[.slice ao l.length c] w fun e w' => ∃ v, e = .returned v ∧ w'.ownsRow w.heap.size 28 32 v l.length (idcs l) ∧ Below w.heap.size w w' := by
  obtain ⟨i0, hi, hz0, hz1, hz2⟩ := info_parts infoRid
  have HI := Lib.hid hi
  have HV := Lib.hid hv
  clear hi hv
  go_enter Try.func7, Try.ntmps7
  go_wp2_with fail
  go_loopw [3, 4] (fun v i wr => ∃ k : Nat, k ≤ l.length ∧ i = .int .i64 k ∧ wr.ownsRow w.heap.size 28 32 v k (idcs (l.take k)) ∧ Below w.heap.size w wr) (fun _ i _ => l.length - (intOf i).toNat)
  case atStart => exact ⟨0, by omega, rfl, World.ownsRow_nil _ _ _ _, Below.refl _ _⟩
  case round =>
    obtain ⟨k, hk, rfl, ho, hB⟩ := hrel
    by_cases hlt : k < l.length
    · have hlti : (k : Int) < (l.length : Int) := by omega
      have hk40 : (k : Int) < 40 := by omega
      obtain ⟨g, o, rfl, hg, hr⟩ := HV.out.at hlt
      have HR := Lib.hid (rangeAt_below hr hB hg)
      have HT : Hid (idcs (l.take (k + 1)) = idcs (l.take k) ++ encI l[k]) := Lib.hid (by rw [List.take_succ_eq_append_getElem hlt, idcs_snoc])
      have hsz := hB.size
      have hkm : k + 1 ≤ maxLen := by unfold maxLen; omega
      have hkb : (k + 1) * 32 ≤ 140737488355328 := by omega
      clear hr
      generalize l[k] = x at *
      go_wp2_with (first | (refine wpList_load_mid rfl _ _ rfl g (o + k * 32) rfl (encI x) _ HR.out Try.underlying24 rfl (idSize x) ?_) | (refine wpList_build1 rfl 26 28 _ rfl (encI x) rfl i0 _ Try.underlying26 HI.out hz0 (by rw [hz1, encI_len]) (by rw [encI_len]; omega) (by rw [encI_len]; omega) ?_) | (at_builtin; refine wpList_append_own_at _ rfl _ _ 26 rfl w.heap.size 28 i0 _ 32 32 Try.underlying26 HI.out hz0 hz1 hz2 (by simp [Value.cells]) (by decide) _ _ _ rfl (ho.alloc _) ⟨wr.heap.size, 0, none⟩ 1 1 (encI x) rfl (by rw [encI_len]) (news_of_block0 (heap_alloc_new wr _)) (encI_one x) hkm hkb (by rw [alloc_sz]; omega) ?_))
      intro v' wA hA gA _ _
      have hB' := (hB.alloc hsz _).grown gA (by rw [alloc_sz]; omega) (fun j hj => (ho.lt j hj).1)
      rw [← HT.out] at hA
      clear gA ho hB
      go_wp2
      go_roundw
      case rel => exact ⟨k + 1, by omega, by go_num, hA, hB'⟩
      case measure => simp [intOf]; omega
    · have hlti : ¬ (k : Int) < (l.length : Int) := by omega
      have hkl : l.take k = l := List.take_of_length_le (by omega)
      have hke : k = l.length := by omega
      rw [hkl, hke] at ho
      clear hkl hke HV
      go_wp2
      go_ret
      exact ⟨_, rfl, ho, hB⟩

theorem eqI (x y : I32) (w : World) : (Op.equalIn 10000 24 (.agg (encI x).toArray) (.agg (encI y).toArray)).run Try.prog w = .ok (x.1 == y.1) w := id_eql x.1 y.1 x.2 y.2 w
theorem eqR (x y : I32) (w : World) : (Op.equalIn 10000 28 (.agg (encI x).toArray) (.agg (encI y).toArray)).run Try.prog w = .ok (x.1 == y.1) w := refid_eql x.1 y.1 x.2 y.2 w

set_option maxRecDepth 100000 in
set_option maxHeartbeats 1600000 in
theorem rhas_any (l : List I32) (x : I32) (hl : l.length ≤ 1000000) (ao : Option Addr) (c : Nat) (w : World) (hv : IdsAt w.heap.size ao l w) :
    Calls Try.prog 6 #[.slice ao l.length c, .agg (encI x).toArray] w fun e w' => e = .returned (.bool (decide (x ∈ l))) ∧ Below w.heap.size w w' := by
  have HV := Lib.hid hv
  clear hv
  have b1 : Below w.heap.size w (w.alloc (.cells (encI x).toArray 28)) := (Below.refl _ w).alloc (Nat.le_refl _) _
  have HX : Hid ((w.alloc (.cells (encI x).toArray 28)).heap[w.heap.size]? = some (.cells (encI x).toArray 28 (0, 0))) := Lib.hid (heap_alloc_new w _)
  go_enter Try.func6, Try.ntmps6
  go_wp2_with fail
  go_loopw [5] (fun i wr => ∃ k : Nat, k ≤ l.length ∧ i = .int .i64 k ∧ Hid (¬ x ∈ l.take k) ∧ Below (w.heap.size + 1) (w.alloc (.cells (encI x).toArray 28)) wr) (fun i _ => l.length - (intOf i).toNat)
  case atStart => exact ⟨0, by omega, rfl, Lib.hid (by simp), Below.refl _ _⟩
  case round =>
    obtain ⟨k, hk, rfl, HK, hB⟩ := hrel
    have hB0 := b1.trans (hB.mono (Nat.le_succ _))
    by_cases hlt : k < l.length
    · have hlti : (k : Int) < (l.length : Int) := by omega
      have hk0 : (0 : Int) ≤ (k : Int) := by omega
      obtain ⟨g, o, rfl, hg, hr⟩ := HV.out.at hlt
      have HR := Lib.hid (rangeAt_below hr hB0 hg)
      have HXr := Lib.hid (heap_below hB (Nat.lt_succ_self _) HX.out)
      have HT : Hid (¬ x = l[k] → ¬ x ∈ l.take (k + 1)) := Lib.hid (fun h => by rw [List.take_succ_eq_append_getElem hlt]; simp only [List.mem_append, List.mem_singleton]; exact fun h' => h'.elim HK.out h)
      have HY : Hid (x = l[k] → x ∈ l) := Lib.hid (fun h => by rw [h]; exact List.getElem_mem _)
      have hq := eqR l[k] x
      clear hr
      generalize l[k] = y at *
      have HS := Lib.hid (ridSize y)
      have HSx := Lib.hid ((ridSize x).trans (by simp : some (encI x).length = some (encI x).toArray.size))
      have hgr : g < wr.heap.size := by have := hB0.size; omega
      have hwr : w.heap.size < wr.heap.size := by have := hB.size; simp at this; omega
      have HLY : Hid (∀ s : WIn (After wr.heap.size wr), s.w.rangeAt g (o + k * 32) (encI y)) := Lib.hid (fun s => rangeAt_below HR.out s.h hgr)
      have HLX : Hid (∀ s : WIn (After wr.heap.size wr), s.w.heap[w.heap.size]? = some (.cells (encI x).toArray 28 (0, 0))) := Lib.hid (fun s => heap_below s.h hwr HXr.out)
      cases hxy : (y.1 == x.1)
      · have HT' := Lib.hid (HT.out (fun h => by rw [h] at hxy; simp at hxy))
        clear HT HY
        go_wp2_with fail
        refine wp_region_class (After wr.heap.size wr) (by kernel_rfl) (by kernel_rfl) (Below.refl _ _).drew (fun hne => ?_)
        repeat (first
          | (go_big_quiet_want; refine quiet_load_mid 28 (.tmp 14) (by rfl) g (o + k * 32) (by rfl) (encI y) _ HLY.out Try.underlying28 rfl HS.out ?_; simp only [Act.put, List.setIfInBounds_toArray, List.set_cons_zero, List.set_cons_succ]; go_big_quiet_on)
          | (go_big_quiet_want; refine quiet_load_row 28 (.tmp 3) (by rfl) w.heap.size (by rfl) _ _ _ _ HLX.out Try.underlying28 rfl HSx.out ?_; simp only [Act.put, List.setIfInBounds_toArray, List.set_cons_zero, List.set_cons_succ]; go_big_quiet_on)
          | go_big_quiet_skip
          | (go_big_quiet_want; go_big_quiet_op; go_big_quiet_on))
        refine wpQuiet_nil ?_
        intro w5 h5
        have hB5 := hB.trans (h5.mono (by omega))
        clear hne HLX HLY hB hB0
        go_wp2
        go_roundw
        case rel => exact ⟨k + 1, by omega, by go_num, HT', hB5⟩
        case measure => simp [intOf]; omega
      · have hin : x ∈ l := HY.out (by apply Subtype.ext; simpa using (beq_iff_eq.1 hxy).symm)
        clear HT HY
        go_wp2_with fail
        refine wp_region_class (After wr.heap.size wr) (by kernel_rfl) (by kernel_rfl) (Below.refl _ _).drew (fun hne => ?_)
        repeat (first
          | (go_big_quiet_want; refine quiet_load_mid 28 (.tmp 14) (by rfl) g (o + k * 32) (by rfl) (encI y) _ HLY.out Try.underlying28 rfl HS.out ?_; simp only [Act.put, List.setIfInBounds_toArray, List.set_cons_zero, List.set_cons_succ]; go_big_quiet_on)
          | (go_big_quiet_want; refine quiet_load_row 28 (.tmp 3) (by rfl) w.heap.size (by rfl) _ _ _ _ HLX.out Try.underlying28 rfl HSx.out ?_; simp only [Act.put, List.setIfInBounds_toArray, List.set_cons_zero, List.set_cons_succ]; go_big_quiet_on)
          | go_big_quiet_skip
          | (go_big_quiet_want; go_big_quiet_op; go_big_quiet_on))
        refine wpQuiet_nil ?_
        intro w5 h5
        have hB5 := hB0.trans (h5.mono (by omega))
        clear hne HLX HLY hB hB0
        go_wp2
        go_ret
        exact ⟨ret_bool (by simp [hin]), hB5⟩
    · have hlti : ¬ (k : Int) < (l.length : Int) := by omega
      have hno : ¬ x ∈ l := by have := HK.out; rwa [List.take_of_length_le (by omega)] at this
      have HNO := Lib.hid hno
      clear hno HV
      go_wp2
      go_ret
      exact ⟨ret_bool (by simp [HNO.out]), hB0⟩

set_option maxRecDepth 100000 in
set_option maxHeartbeats 1600000 in
theorem equal_any (l m : List I32) (hl : l.length ≤ 1000000) (hm : m.length ≤ 1000000) (ao bo : Option Addr) (c d : Nat) (w : World) (hv : IdsAt w.heap.size ao l w) (hu : IdsAt w.heap.size bo m w) :
    Calls Try.prog 11 #[.slice ao l.length c, .slice bo m.length d] w fun e w' => e = .returned (.bool (decide (l = m))) ∧ Below w.heap.size w w' := by
  by_cases hlm : l.length = m.length
  · rw [hlm]
    have HLM := Lib.hid hlm
    have HV := Lib.hid hv
    have HU := Lib.hid hu
    clear hv hu hlm
    go_enter Try.func11, Try.ntmps11
    go_wp2_with fail
    go_loopw [5] (fun i wr => ∃ k : Nat, k ≤ m.length ∧ i = .int .i64 k ∧ Hid (l.take k = m.take k) ∧ Below w.heap.size w wr) (fun i _ => m.length - (intOf i).toNat)
    case atStart => exact ⟨0, by omega, rfl, Lib.hid (by simp), Below.refl _ _⟩
    case round =>
      obtain ⟨k, hk, rfl, HK, hB⟩ := hrel
      by_cases hlt : k < m.length
      · have hlti : (k : Int) < (m.length : Int) := by omega
        have hk0 : (0 : Int) ≤ (k : Int) := by omega
        have hltl : k < l.length := by rw [HLM.out]; exact hlt
        obtain ⟨g, o, rfl, hg, hr⟩ := HV.out.at hltl
        obtain ⟨g2, o2, rfl, hg2, hr2⟩ := HU.out.at hlt
        have HT : Hid (l[k] = m[k] → l.take (k + 1) = m.take (k + 1)) := Lib.hid (fun h => by rw [List.take_succ_eq_append_getElem hltl, List.take_succ_eq_append_getElem hlt, HK.out, h])
        have HY : Hid (l[k] ≠ m[k] → ¬ l = m) := Lib.hid (fun h h' => h (by subst h'; rfl))
        have hq := eqR l[k] m[k]
        have hgr : g < wr.heap.size := by have := hB.size; omega
        have hgr2 : g2 < wr.heap.size := by have := hB.size; omega
        have HLX : Hid (∀ s : WIn (After wr.heap.size wr), s.w.rangeAt g (o + k * 32) (encI l[k])) := Lib.hid (fun s => rangeAt_below (rangeAt_below hr hB hg) s.h hgr)
        have HLY : Hid (∀ s : WIn (After wr.heap.size wr), s.w.rangeAt g2 (o2 + k * 32) (encI m[k])) := Lib.hid (fun s => rangeAt_below (rangeAt_below hr2 hB hg2) s.h hgr2)
        clear hr hr2
        generalize l[k] = x at *
        generalize m[k] = y at *
        have HS := Lib.hid (ridSize y)
        have HSx := Lib.hid (idSize x)
        cases hxy : (x.1 == y.1)
        · have hne' : ¬ l = m := HY.out (fun h => by rw [h] at hxy; simp at hxy)
          have HNE := Lib.hid hne'
          clear HT HY hne'
          go_wp2_with fail
          refine wp_region_class (After wr.heap.size wr) (by kernel_rfl) (by kernel_rfl) (Below.refl _ _).drew (fun hne => ?_)
          repeat (first
            | (go_big_quiet_want; refine quiet_load_mid 24 (.tmp 19) (by rfl) g (o + k * 32) (by rfl) (encI x) _ HLX.out Try.underlying24 rfl HSx.out ?_; simp only [Act.put, List.setIfInBounds_toArray, List.set_cons_zero, List.set_cons_succ]; go_big_quiet_on)
            | (go_big_quiet_want; refine quiet_load_mid 28 (.tmp 23) (by rfl) g2 (o2 + k * 32) (by rfl) (encI y) _ HLY.out Try.underlying28 rfl HS.out ?_; simp only [Act.put, List.setIfInBounds_toArray, List.set_cons_zero, List.set_cons_succ]; go_big_quiet_on)
            | go_big_quiet_skip
            | (go_big_quiet_want; go_big_quiet_op; go_big_quiet_on))
          refine wpQuiet_nil ?_
          intro w5 h5
          have hB5 := hB.trans (h5.mono hB.size)
          clear hne HLX HLY hB
          go_wp2
          go_ret
          exact ⟨ret_bool (by simp [HNE.out]), hB5⟩
        · have HT' := Lib.hid (HT.out (by apply Subtype.ext; simpa using beq_iff_eq.1 hxy))
          clear HT HY
          go_wp2_with fail
          refine wp_region_class (After wr.heap.size wr) (by kernel_rfl) (by kernel_rfl) (Below.refl _ _).drew (fun hne => ?_)
          repeat (first
            | (go_big_quiet_want; refine quiet_load_mid 24 (.tmp 19) (by rfl) g (o + k * 32) (by rfl) (encI x) _ HLX.out Try.underlying24 rfl HSx.out ?_; simp only [Act.put, List.setIfInBounds_toArray, List.set_cons_zero, List.set_cons_succ]; go_big_quiet_on)
            | (go_big_quiet_want; refine quiet_load_mid 28 (.tmp 23) (by rfl) g2 (o2 + k * 32) (by rfl) (encI y) _ HLY.out Try.underlying28 rfl HS.out ?_; simp only [Act.put, List.setIfInBounds_toArray, List.set_cons_zero, List.set_cons_succ]; go_big_quiet_on)
            | go_big_quiet_skip
            | (go_big_quiet_want; go_big_quiet_op; go_big_quiet_on))
          refine wpQuiet_nil ?_
          intro w5 h5
          have hB5 := hB.trans (h5.mono hB.size)
          clear hne HLX HLY hB
          go_wp2
          go_roundw
          case rel => exact ⟨k + 1, by omega, by go_num, HT', hB5⟩
          case measure => simp [intOf]; omega
      · have hlti : ¬ (k : Int) < (m.length : Int) := by omega
        have he : l = m := by have := HK.out; rwa [List.take_of_length_le (by rw [HLM.out]; omega), List.take_of_length_le (by omega)] at this
        have HE := Lib.hid he
        clear he HV HU
        go_wp2
        go_ret
        exact ⟨ret_bool (by simp [HE.out]), hB⟩
  · have hne : ¬ l = m := fun h => hlm (by rw [h])
    have HN := Lib.hid hne
    have hqi : ((l.length : Int) != (m.length : Int)) = true := by simp; omega
    clear hne hlm hv hu
    go_enter Try.func11, Try.ntmps11
    go_wp2
    go_ret
    exact ⟨ret_bool (by simp [HN.out]), Below.refl _ _⟩
end Go.Proofs.Ytnoilnmkdahhiaa
