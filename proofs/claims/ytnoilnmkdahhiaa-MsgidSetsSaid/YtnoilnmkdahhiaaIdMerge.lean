/- msgid.merge at identities. -/
import Derived.Test.YtnoilnmkdahhiaaRows
import Derived.Test.YtnoilnmkdahhiaaIds
import Derived.Test.YtnoilnmkdahhiaaIdTo
import Derived.Test.YtnoilnmkdahhiaaIdHas
import Derived.Test.YtnoilnmkdahhiaaIdSort
import Derived.Test.YtnoilnmkdahhiaaSetP
import Derived.Test.YtnoilnmkdahhiaaHeld
import Derived.Test.YtnoilnmkdahhiaaBuild1
import Derived.WalkKit
import Derived.OwnWalk
import Derived.WalkSpells
import Derived.WalkLawsBesides
import Derived.Lib.Hide
import Derived.Deep.RegionHeld3
import Derived.Deep.MidRow
import Derived.Maps.AppendAt
import Derived.Outline
namespace Go.Proofs.Ytnoilnmkdahhiaa
open Go.RowKit
set_option linter.unusedSimpArgs false

/-- what a slice of identities reads as behind its first one -/
theorem IdsAt.tail {B g o c : Nat} {x : I32} {l : List I32} {W : World} (h : IdsAt B (some ⟨g, o, none⟩) (x :: l) W) (hc : l.length + 1 ≤ c) :
    IdsAt B (if c = 1 then some ⟨g, o, none⟩ else some ⟨g, o + 32, none⟩) l W := fun i hi => by
  have hc1 : ¬ c = 1 := by omega
  rw [if_neg hc1]
  obtain ⟨g', o', e, hg, hr⟩ := h (i + 1) (by simpa using hi)
  cases e
  exact ⟨g, o + 32, rfl, hg, by rw [show o + 32 + i * 32 = o + (i + 1) * 32 by omega]; simpa using hr⟩
/-- the length of a slice -/
def slLen : Value → Nat
  | .slice _ n _ => n
  | _ => 0
theorem compare_below (x y : I32) (w : World) :
    Calls Try.prog 21 #[.agg (encI x).toArray, .agg (encI y).toArray] w fun e w' => e = .returned (.int .i64 (cfI x y)) ∧ Below w.heap.size w w' :=
  compare_any x.1 y.1 x.2 y.2 w

/-- what the merge does at two heads, by the order of the two -/
theorem merge_step (x y : I32) : (cfI x y < 0 → ltI x y = true ∧ True) ∧ (0 < cfI x y → ltI x y = false ∧ ltI y x = true) ∧ (cfI x y = 0 → ltI x y = false ∧ ltI y x = false) := by
  have s := cmp_swap x.1 y.1
  unfold ltI ltOf cfI
  refine ⟨fun h => ⟨by simpa using h, trivial⟩, fun h => ⟨by simp; omega, by simp; omega⟩, fun h => ⟨by simp; omega, by simp; omega⟩⟩

set_option maxRecDepth 100000 in
set_option maxHeartbeats 4000000 in
theorem merge_any (kf : Nat) (K : Bool → Bool → Bool) (hek : ∀ args w, (callFunc kf args).run Try.prog w = .ok (.enter kf args) w) (hK : ∀ p q w, Calls Try.prog kf #[.bool p, .bool q] w fun e w' => e = .returned (.bool (K p q)) ∧ w = w')
    (l m : List I32) (hl : l.length ≤ 100000) (hm : m.length ≤ 100000) (ao bo : Option Addr) (c d : Nat) (hc : l.length ≤ c) (hd : m.length ≤ d) (w : World) (hv : IdsAt w.heap.size ao l w) (hu : IdsAt w.heap.size bo m w) :
    Calls Try.prog 27 #[.slice ao l.length c, .slice bo m.length d, .func (.func 21) #[] #[], .func (.func kf) #[] #[]] w fun e w' => ∃ v, e = .returned v ∧
      w'.ownsRow w.heap.size 24 32 v (mergeI K (l.length + m.length) l m).length (idcs (mergeI K (l.length + m.length) l m)) ∧ Below w.heap.size w w' := by
  obtain ⟨i0, hi, hz0, hz1, hz2⟩ := info_parts infoId
  have HI := Lib.hid hi
  have HV := Lib.hid hv
  have HU := Lib.hid hu
  have HKK := Lib.hid hK
  have HEK := Lib.hid hek
  obtain ⟨R, hR⟩ : ∃ R, mergeI K (l.length + m.length) l m = R := ⟨_, rfl⟩
  rw [hR]
  have HRD := Lib.hid hR
  clear hR
  clear hi hv hu hK hek
  go_enter Try.func27, Try.ntmps27
  go_wp2_with fail
  go_loopw [0, 1, 9] (fun av bv v wr => ∃ (la lb acc : List I32) (a1 b1 : Option Addr) (ca cb fu : Nat), av = .slice a1 la.length ca ∧ bv = .slice b1 lb.length cb ∧ la.length ≤ ca ∧ lb.length ≤ cb ∧ ca ≤ c ∧ cb ≤ d ∧ la.length ≤ 100000 ∧ lb.length ≤ 100000 ∧ acc.length + la.length + lb.length ≤ 200000 ∧ la.length + lb.length ≤ fu ∧
      Hid (IdsAt w.heap.size a1 la w) ∧ Hid (IdsAt w.heap.size b1 lb w) ∧ wr.ownsRow w.heap.size 24 32 v acc.length (idcs acc) ∧ Hid (acc ++ mergeI K fu la lb = R) ∧ Below w.heap.size w wr)
    (fun av bv _ _ => slLen av + slLen bv)
  case atStart => exact ⟨l, m, [], ao, bo, c, d, l.length + m.length, rfl, rfl, hc, hd, Nat.le_refl _, Nat.le_refl _, hl, hm, by simp; omega, Nat.le_refl _, HV, HU, World.ownsRow_nil _ _ _ _, Lib.hid (by simpa using HRD.out), Below.refl _ _⟩
  case round =>
    obtain ⟨la, lb, acc, a1, b1, ca, cb, fu, rfl, rfl, hla, hlb, hca, hcb, hl1, hl2, hsum, hfu, HA, HB, ho, HR, hB⟩ := hrel
    have hsz := hB.size
    cases la with
    | nil =>
      cases lb with
      | nil =>
        have hra : acc = R := by have := HR.out; cases fu <;> simpa [mergeI] using this
        clear HA HB HR
        go_wp2
        go_ret
        exact ⟨_, rfl, by rw [← hra]; exact ho, hB⟩
      | cons y lb =>
        obtain ⟨fu, rfl⟩ : ∃ f, fu = f + 1 := ⟨fu - 1, by simp at hfu; omega⟩
        obtain ⟨gb, ob, rfl, hgb, hrb⟩ := HB.out.at (i := 0) (by simp)
        rw [Nat.zero_mul, Nat.add_zero] at hrb
        have HYS : Hid (∀ w', Below wr.heap.size wr w' → w'.rangeAt gb ob (encI y)) := Lib.hid (fun w' hb => rangeAt_below hrb (hB.trans (hb.mono hsz)) hgb)
        have HSY := Lib.hid (idSize y)
        have hcb1 : lb.length + 1 ≤ cb := by simpa using hlb
        clear hrb
        obtain ⟨w1, hw1⟩ : ∃ w1, wr.alloc (.cells #[.int .u8 0, .int .u8 0, .int .u8 0, .int .u8 0, .int .u8 0, .int .u8 0, .int .u8 0, .int .u8 0, .int .u8 0, .int .u8 0, .int .u8 0, .int .u8 0, .int .u8 0, .int .u8 0, .int .u8 0, .int .u8 0, .int .u8 0, .int .u8 0, .int .u8 0, .int .u8 0, .int .u8 0, .int .u8 0, .int .u8 0, .int .u8 0, .int .u8 0, .int .u8 0, .int .u8 0, .int .u8 0, .int .u8 0, .int .u8 0, .int .u8 0, .int .u8 0] 24) = w1 := ⟨_, rfl⟩
        have hbox : Hid (w1.heap[wr.heap.size]? = some (.cells (encI default).toArray 24 (0, 0))) := Lib.hid (by rw [← hw1]; exact heap_alloc_new wr _)
        have b1' : Below wr.heap.size wr w1 := by rw [← hw1]; exact (Below.refl _ _).alloc (Nat.le_refl _) _
        have hs1 : wr.heap.size < w1.heap.size := by rw [← hw1]; simp
        have b2' : Below wr.heap.size wr w1 := b1'
        go_wp2_with fail
        clear hw1
        refine wp_region_noPanic ?_
        refine wp_region_held_drew (S := fun w' => Below wr.heap.size wr w') (by kernel_rfl) b2'.drew (fun hHeld => ?_)
        refine takeL 0 (v := ?_) rfl (by kernel_rfl) (by kernel_rfl) (by kernel_rfl) (fun _ _ _ h => h) (by rfl) hHeld ?_ ?_
        rotate_left 1
        · intro w2 hSw; go_simp <;> with_reducible rfl
        try simp only [Act.put, List.setIfInBounds_toArray, List.set_cons_zero, List.set_cons_succ]
        refine takeL 1 (v := ?_) rfl (by kernel_rfl) (by kernel_rfl) (by kernel_rfl) (fun _ _ _ h => h) (by rfl) hHeld ?_ ?_
        rotate_left 1
        · intro w2 hSw; go_simp <;> with_reducible rfl
        try simp only [Act.put, List.setIfInBounds_toArray, List.set_cons_zero, List.set_cons_succ]
        refine takeRow 2 rfl (by kernel_rfl) (by kernel_rfl) (by kernel_rfl) 24 (.tmp 50) rfl gb ob rfl (encI y) _ (fun _ _ _ h => h) (by rfl) hHeld HYS.out Try.underlying24 rfl HSY.out ?_
        try simp only [Act.put, List.setIfInBounds_toArray, List.set_cons_zero, List.set_cons_succ]
        refine takeL 3 (v := ?_) rfl (by kernel_rfl) (by kernel_rfl) (by kernel_rfl) (fun _ _ _ h => h) (by rfl) hHeld ?_ ?_
        rotate_left 1
        · intro w2 hSw; go_simp <;> with_reducible rfl
        try simp only [Act.put, List.setIfInBounds_toArray, List.set_cons_zero, List.set_cons_succ]
        refine takeL 4 (v := .slice (if cb = 1 then some ⟨gb, ob, none⟩ else some ⟨gb, ob + 32, none⟩) lb.length (cb - 1)) rfl (by kernel_rfl) (by kernel_rfl) (by kernel_rfl) (fun _ _ _ h => h) (by rfl) hHeld ?_ ?_
        · intro w2 hSw
          by_cases hc1 : cb = 1
          · subst hc1
            have hlb0 : lb.length = 0 := by omega
            go_simp <;> (rw [if_pos (by omega), hlb0])
          · have hc2 : (1 : Int) ≤ (cb : Int) := by omega
            go_simp <;> omega
        try simp only [Act.put, List.setIfInBounds_toArray, List.set_cons_zero, List.set_cons_succ]
        refine heavyL 5 rfl (by kernel_rfl) (fun K0 hK0 => ?_)
        rw [if_pos (by rfl)]
        refine wp_store_row _ _ _ rfl wr.heap.size (encI y).toArray rfl rfl _ _ hbox.out (by rw [HSY.out]; simp) (by simp [encI_len]) (bytes_one y.1) ?_
        have HX2 := Lib.hid (setRow_heap w1.drew wr.heap.size _ (encI y).toArray _ _ (show w1.drew.heap[wr.heap.size]? = _ from hbox.out))
        have hB2 := below_setRow (B := wr.heap.size) hHeld (Nat.le_refl _) (encI y).toArray
        obtain ⟨w2, hw2⟩ : ∃ wq, w1.drew.setRow wr.heap.size (encI y).toArray = wq := ⟨_, rfl⟩
        rw [hw2] at HX2 hB2
        rw [hw2]
        clear hw2
        refine hK0.out _ _ hB2 (fun hHeld => ?_)
        clear hK0 K0
        try simp only [Act.put, List.setIfInBounds_toArray, List.set_cons_zero, List.set_cons_succ]
        refine takeL 6 (v := ?_) rfl (by kernel_rfl) (by kernel_rfl) (by kernel_rfl) (fun _ _ _ h => h) (by rfl) hHeld ?_ ?_
        rotate_left 1
        · intro w2 hSw; go_simp <;> with_reducible rfl
        try simp only [Act.put, List.setIfInBounds_toArray, List.set_cons_zero, List.set_cons_succ]
        refine wpAnyH_done (by kernel_rfl) ?_ _
        refine NoPanic.normal ?_
        clear hHeld hbox b2'
        have htb := HB.out.tail (c := cb) hcb1
        obtain ⟨nb, hnb⟩ : ∃ nb, (if cb = 1 then some (⟨gb, ob, none⟩ : Addr) else some ⟨gb, ob + 32, none⟩) = nb := ⟨_, rfl⟩
        obtain ⟨mb, hmb⟩ : ∃ mb, cb - 1 = mb := ⟨_, rfl⟩
        rw [hnb, hmb]
        rw [hnb] at htb
        have HTB := Lib.hid htb
        have hmb1 : lb.length ≤ mb := by omega
        have hmb2 : mb ≤ d := by omega
        clear htb hnb hmb
        clear HYS
        have hsz2 : wr.heap.size < w2.heap.size := by
          have : w2.heap[wr.heap.size]? ≠ none := by rw [HX2.out]; simp
          simpa using this
        have ho2 := owns_below ho hB2
        have hBT := hB.trans (hB2.mono hsz)
        have hsz3 : w.heap.size ≤ w2.heap.size := hBT.size
        clear ho hB hB2
        cases hk : K false true with
        | false =>
          have HR2 : Hid (acc ++ mergeI K fu ([]) (lb) = R) := Lib.hid (by have := HR.out; simpa [mergeI, hk] using this)
          clear HR
          go_wp2_with (rw [HEK.out, Oper.upon_enter]; refine (HKK.out _ _ _).mono ?_; rintro _ _ ⟨rfl, rfl⟩; rw [hk]; go_simp; skip)
          go_roundw
          case rel => exact ⟨[], lb, acc, _, _, _, _, fu, rfl, rfl, by simp, hmb1, hca, hmb2, by simp at hl1 ⊢ <;> omega, by simp at hl2 ⊢ <;> omega, by simp at hsum ⊢ <;> omega, by simp at hfu ⊢ <;> omega, HA, HTB, ho2, HR2, hBT⟩
          case measure => simp [slLen] <;> omega
        | true =>
          have HR2 : Hid ((acc ++ [y]) ++ mergeI K fu ([]) (lb) = R) := Lib.hid (by have := HR.out; simpa [mergeI, hk] using this)
          clear HR
          have hkm : acc.length + 1 ≤ maxLen := by unfold maxLen; simp at hsum; omega
          have hkb : (acc.length + 1) * 32 ≤ 140737488355328 := by simp at hsum; omega
          go_wp2_with (first
            | (rw [HEK.out, Oper.upon_enter]; refine (HKK.out _ _ _).mono ?_; rintro _ _ ⟨rfl, rfl⟩; rw [hk]; go_simp; skip)
            | (refine wpList_load_abs rfl _ _ rfl wr.heap.size rfl 24 (encI y).toArray (0, 0) _ HX2.out Try.underlying24 rfl (by rw [HSY.out]; simp) ?_)
            | (refine wpList_build1 rfl 22 24 _ rfl (encI y) rfl i0 _ Try.underlying22 HI.out hz0 (by rw [hz1, encI_len]) (by rw [encI_len]; omega) (by rw [encI_len]; omega) ?_)
            | (at_builtin; refine wpList_append_own_at _ rfl _ _ 22 rfl w.heap.size 24 i0 _ 32 32 Try.underlying22 HI.out hz0 hz1 hz2 (by simp [Value.cells]) (by decide) _ _ _ rfl (ho2.alloc _) ⟨w2.heap.size, 0, none⟩ 1 1 (encI y) rfl (by rw [encI_len]) (news_of_block0 (heap_alloc_new w2 _)) (encI_one y) hkm hkb (by rw [alloc_sz]; omega) ?_))
          intro v' wA hA gA _ _
          have hB' := (hBT.alloc hsz3 _).grown gA (by rw [alloc_sz]; omega) (fun j hj => (ho2.lt j hj).1)
          rw [← idcs_snoc, show acc.length + 1 = (acc ++ [y]).length by simp] at hA
          clear gA ho2 hBT HX2 hkm hkb
          go_wp2
          go_roundw
          case rel => exact ⟨[], lb, acc ++ [y], _, _, _, _, fu, rfl, rfl, by simp, hmb1, hca, hmb2, by simp at hl1 ⊢ <;> omega, by simp at hl2 ⊢ <;> omega, by simp at hsum ⊢ <;> omega, by simp at hfu ⊢ <;> omega, HA, HTB, hA, HR2, hB'⟩
          case measure => simp [slLen] <;> omega
    | cons x la =>
      cases lb with
      | nil =>
        obtain ⟨fu, rfl⟩ : ∃ f, fu = f + 1 := ⟨fu - 1, by simp at hfu; omega⟩
        obtain ⟨ga, oa, rfl, hga, hra⟩ := HA.out.at (i := 0) (by simp)
        rw [Nat.zero_mul, Nat.add_zero] at hra
        have HXS : Hid (∀ w', Below wr.heap.size wr w' → w'.rangeAt ga oa (encI x)) := Lib.hid (fun w' hb => rangeAt_below hra (hB.trans (hb.mono hsz)) hga)
        have HSX := Lib.hid (idSize x)
        have hca1 : la.length + 1 ≤ ca := by simpa using hla
        clear hra
        obtain ⟨w1, hw1⟩ : ∃ w1, wr.alloc (.cells #[.int .u8 0, .int .u8 0, .int .u8 0, .int .u8 0, .int .u8 0, .int .u8 0, .int .u8 0, .int .u8 0, .int .u8 0, .int .u8 0, .int .u8 0, .int .u8 0, .int .u8 0, .int .u8 0, .int .u8 0, .int .u8 0, .int .u8 0, .int .u8 0, .int .u8 0, .int .u8 0, .int .u8 0, .int .u8 0, .int .u8 0, .int .u8 0, .int .u8 0, .int .u8 0, .int .u8 0, .int .u8 0, .int .u8 0, .int .u8 0, .int .u8 0, .int .u8 0] 24) = w1 := ⟨_, rfl⟩
        have hbox : Hid (w1.heap[wr.heap.size]? = some (.cells (encI default).toArray 24 (0, 0))) := Lib.hid (by rw [← hw1]; exact heap_alloc_new wr _)
        have b1' : Below wr.heap.size wr w1 := by rw [← hw1]; exact (Below.refl _ _).alloc (Nat.le_refl _) _
        have hs1 : wr.heap.size < w1.heap.size := by rw [← hw1]; simp
        have b2' : Below wr.heap.size wr w1 := b1'
        go_wp2_with fail
        clear hw1
        refine wp_region_noPanic ?_
        refine wp_region_held_drew (S := fun w' => Below wr.heap.size wr w') (by kernel_rfl) b2'.drew (fun hHeld => ?_)
        refine takeL 0 (v := ?_) rfl (by kernel_rfl) (by kernel_rfl) (by kernel_rfl) (fun _ _ _ h => h) (by rfl) hHeld ?_ ?_
        rotate_left 1
        · intro w2 hSw; go_simp <;> with_reducible rfl
        try simp only [Act.put, List.setIfInBounds_toArray, List.set_cons_zero, List.set_cons_succ]
        refine takeL 1 (v := ?_) rfl (by kernel_rfl) (by kernel_rfl) (by kernel_rfl) (fun _ _ _ h => h) (by rfl) hHeld ?_ ?_
        rotate_left 1
        · intro w2 hSw; go_simp <;> with_reducible rfl
        try simp only [Act.put, List.setIfInBounds_toArray, List.set_cons_zero, List.set_cons_succ]
        refine takeRow 2 rfl (by kernel_rfl) (by kernel_rfl) (by kernel_rfl) 24 (.tmp 44) rfl ga oa rfl (encI x) _ (fun _ _ _ h => h) (by rfl) hHeld HXS.out Try.underlying24 rfl HSX.out ?_
        try simp only [Act.put, List.setIfInBounds_toArray, List.set_cons_zero, List.set_cons_succ]
        refine takeL 3 (v := ?_) rfl (by kernel_rfl) (by kernel_rfl) (by kernel_rfl) (fun _ _ _ h => h) (by rfl) hHeld ?_ ?_
        rotate_left 1
        · intro w2 hSw; go_simp <;> with_reducible rfl
        try simp only [Act.put, List.setIfInBounds_toArray, List.set_cons_zero, List.set_cons_succ]
        refine takeL 4 (v := .slice (if ca = 1 then some ⟨ga, oa, none⟩ else some ⟨ga, oa + 32, none⟩) la.length (ca - 1)) rfl (by kernel_rfl) (by kernel_rfl) (by kernel_rfl) (fun _ _ _ h => h) (by rfl) hHeld ?_ ?_
        · intro w2 hSw
          by_cases hc1 : ca = 1
          · subst hc1
            have hlb0 : la.length = 0 := by omega
            go_simp <;> (rw [if_pos (by omega), hlb0])
          · have hc2 : (1 : Int) ≤ (ca : Int) := by omega
            go_simp <;> omega
        try simp only [Act.put, List.setIfInBounds_toArray, List.set_cons_zero, List.set_cons_succ]
        refine heavyL 5 rfl (by kernel_rfl) (fun K0 hK0 => ?_)
        rw [if_pos (by rfl)]
        refine wp_store_row _ _ _ rfl wr.heap.size (encI x).toArray rfl rfl _ _ hbox.out (by rw [HSX.out]; simp) (by simp [encI_len]) (bytes_one x.1) ?_
        have HX2 := Lib.hid (setRow_heap w1.drew wr.heap.size _ (encI x).toArray _ _ (show w1.drew.heap[wr.heap.size]? = _ from hbox.out))
        have hB2 := below_setRow (B := wr.heap.size) hHeld (Nat.le_refl _) (encI x).toArray
        obtain ⟨w2, hw2⟩ : ∃ wq, w1.drew.setRow wr.heap.size (encI x).toArray = wq := ⟨_, rfl⟩
        rw [hw2] at HX2 hB2
        rw [hw2]
        clear hw2
        refine hK0.out _ _ hB2 (fun hHeld => ?_)
        clear hK0 K0
        try simp only [Act.put, List.setIfInBounds_toArray, List.set_cons_zero, List.set_cons_succ]
        refine takeL 6 (v := ?_) rfl (by kernel_rfl) (by kernel_rfl) (by kernel_rfl) (fun _ _ _ h => h) (by rfl) hHeld ?_ ?_
        rotate_left 1
        · intro w2 hSw; go_simp <;> with_reducible rfl
        try simp only [Act.put, List.setIfInBounds_toArray, List.set_cons_zero, List.set_cons_succ]
        refine wpAnyH_done (by kernel_rfl) ?_ _
        refine NoPanic.normal ?_
        clear hHeld hbox b2'
        have hta := HA.out.tail (c := ca) hca1
        obtain ⟨na, hna⟩ : ∃ nb, (if ca = 1 then some (⟨ga, oa, none⟩ : Addr) else some ⟨ga, oa + 32, none⟩) = nb := ⟨_, rfl⟩
        obtain ⟨ma, hma⟩ : ∃ mb, ca - 1 = mb := ⟨_, rfl⟩
        rw [hna, hma]
        rw [hna] at hta
        have HTA := Lib.hid hta
        have hma1 : la.length ≤ ma := by omega
        have hma2 : ma ≤ c := by omega
        clear hta hna hma
        clear HXS
        have hsz2 : wr.heap.size < w2.heap.size := by
          have : w2.heap[wr.heap.size]? ≠ none := by rw [HX2.out]; simp
          simpa using this
        have ho2 := owns_below ho hB2
        have hBT := hB.trans (hB2.mono hsz)
        have hsz3 : w.heap.size ≤ w2.heap.size := hBT.size
        clear ho hB hB2
        cases hk : K true false with
        | false =>
          have HR2 : Hid (acc ++ mergeI K fu (la) ([]) = R) := Lib.hid (by have := HR.out; simpa [mergeI, hk] using this)
          clear HR
          go_wp2_with (rw [HEK.out, Oper.upon_enter]; refine (HKK.out _ _ _).mono ?_; rintro _ _ ⟨rfl, rfl⟩; rw [hk]; go_simp; skip)
          go_roundw
          case rel => exact ⟨la, [], acc, _, _, _, _, fu, rfl, rfl, hma1, by simp, hma2, hcb, by simp at hl1 ⊢ <;> omega, by simp at hl2 ⊢ <;> omega, by simp at hsum ⊢ <;> omega, by simp at hfu ⊢ <;> omega, HTA, HB, ho2, HR2, hBT⟩
          case measure => simp [slLen] <;> omega
        | true =>
          have HR2 : Hid ((acc ++ [x]) ++ mergeI K fu (la) ([]) = R) := Lib.hid (by have := HR.out; simpa [mergeI, hk] using this)
          clear HR
          have hkm : acc.length + 1 ≤ maxLen := by unfold maxLen; simp at hsum; omega
          have hkb : (acc.length + 1) * 32 ≤ 140737488355328 := by simp at hsum; omega
          go_wp2_with (first
            | (rw [HEK.out, Oper.upon_enter]; refine (HKK.out _ _ _).mono ?_; rintro _ _ ⟨rfl, rfl⟩; rw [hk]; go_simp; skip)
            | (refine wpList_load_abs rfl _ _ rfl wr.heap.size rfl 24 (encI x).toArray (0, 0) _ HX2.out Try.underlying24 rfl (by rw [HSX.out]; simp) ?_)
            | (refine wpList_build1 rfl 22 24 _ rfl (encI x) rfl i0 _ Try.underlying22 HI.out hz0 (by rw [hz1, encI_len]) (by rw [encI_len]; omega) (by rw [encI_len]; omega) ?_)
            | (at_builtin; refine wpList_append_own_at _ rfl _ _ 22 rfl w.heap.size 24 i0 _ 32 32 Try.underlying22 HI.out hz0 hz1 hz2 (by simp [Value.cells]) (by decide) _ _ _ rfl (ho2.alloc _) ⟨w2.heap.size, 0, none⟩ 1 1 (encI x) rfl (by rw [encI_len]) (news_of_block0 (heap_alloc_new w2 _)) (encI_one x) hkm hkb (by rw [alloc_sz]; omega) ?_))
          intro v' wA hA gA _ _
          have hB' := (hBT.alloc hsz3 _).grown gA (by rw [alloc_sz]; omega) (fun j hj => (ho2.lt j hj).1)
          rw [← idcs_snoc, show acc.length + 1 = (acc ++ [x]).length by simp] at hA
          clear gA ho2 hBT HX2 hkm hkb
          go_wp2
          go_roundw
          case rel => exact ⟨la, [], acc ++ [x], _, _, _, _, fu, rfl, rfl, hma1, by simp, hma2, hcb, by simp at hl1 ⊢ <;> omega, by simp at hl2 ⊢ <;> omega, by simp at hsum ⊢ <;> omega, by simp at hfu ⊢ <;> omega, HTA, HB, hA, HR2, hB'⟩
          case measure => simp [slLen] <;> omega
      | cons y lb =>
        obtain ⟨fu, rfl⟩ : ∃ f, fu = f + 1 := ⟨fu - 1, by simp at hfu; omega⟩
        obtain ⟨ga, oa, rfl, hga, hra⟩ := HA.out.at (i := 0) (by simp)
        rw [Nat.zero_mul, Nat.add_zero] at hra
        have HXS : Hid (∀ w', Below wr.heap.size wr w' → w'.rangeAt ga oa (encI x)) := Lib.hid (fun w' hb => rangeAt_below hra (hB.trans (hb.mono hsz)) hga)
        have HSX := Lib.hid (idSize x)
        have hca1 : la.length + 1 ≤ ca := by simpa using hla
        clear hra
        obtain ⟨gb, ob, rfl, hgb, hrb⟩ := HB.out.at (i := 0) (by simp)
        rw [Nat.zero_mul, Nat.add_zero] at hrb
        have HYS : Hid (∀ w', Below wr.heap.size wr w' → w'.rangeAt gb ob (encI y)) := Lib.hid (fun w' hb => rangeAt_below hrb (hB.trans (hb.mono hsz)) hgb)
        have HSY := Lib.hid (idSize y)
        have hcb1 : lb.length + 1 ≤ cb := by simpa using hlb
        clear hrb
        go_wp2_with fail
        refine wp_region_noPanic ?_
        have b0 : Below wr.heap.size wr wr := Below.refl _ _
        refine wp_region_held_drew (S := fun w' => Below wr.heap.size wr w') (by kernel_rfl) b0.drew (fun hHeld => ?_)
        refine takeL 0 (v := ?_) rfl (by kernel_rfl) (by kernel_rfl) (by kernel_rfl) (fun _ _ _ h => h) (by rfl) hHeld ?_ ?_
        rotate_left 1
        · intro w2 hSw; go_simp <;> with_reducible rfl
        try simp only [Act.put, List.setIfInBounds_toArray, List.set_cons_zero, List.set_cons_succ]
        refine takeL 1 (v := ?_) rfl (by kernel_rfl) (by kernel_rfl) (by kernel_rfl) (fun _ _ _ h => h) (by rfl) hHeld ?_ ?_
        rotate_left 1
        · intro w2 hSw; go_simp <;> with_reducible rfl
        try simp only [Act.put, List.setIfInBounds_toArray, List.set_cons_zero, List.set_cons_succ]
        refine takeL 2 (v := ?_) rfl (by kernel_rfl) (by kernel_rfl) (by kernel_rfl) (fun _ _ _ h => h) (by rfl) hHeld ?_ ?_
        rotate_left 1
        · intro w2 hSw; go_simp <;> with_reducible rfl
        try simp only [Act.put, List.setIfInBounds_toArray, List.set_cons_zero, List.set_cons_succ]
        refine takeRow 3 rfl (by kernel_rfl) (by kernel_rfl) (by kernel_rfl) 24 (.tmp 24) rfl ga oa rfl (encI x) _ (fun _ _ _ h => h) (by rfl) hHeld HXS.out Try.underlying24 rfl HSX.out ?_
        try simp only [Act.put, List.setIfInBounds_toArray, List.set_cons_zero, List.set_cons_succ]
        refine takeL 4 (v := ?_) rfl (by kernel_rfl) (by kernel_rfl) (by kernel_rfl) (fun _ _ _ h => h) (by rfl) hHeld ?_ ?_
        rotate_left 1
        · intro w2 hSw; go_simp <;> with_reducible rfl
        try simp only [Act.put, List.setIfInBounds_toArray, List.set_cons_zero, List.set_cons_succ]
        refine takeL 5 (v := ?_) rfl (by kernel_rfl) (by kernel_rfl) (by kernel_rfl) (fun _ _ _ h => h) (by rfl) hHeld ?_ ?_
        rotate_left 1
        · intro w2 hSw; go_simp <;> with_reducible rfl
        try simp only [Act.put, List.setIfInBounds_toArray, List.set_cons_zero, List.set_cons_succ]
        refine takeRow 6 rfl (by kernel_rfl) (by kernel_rfl) (by kernel_rfl) 24 (.tmp 27) rfl gb ob rfl (encI y) _ (fun _ _ _ h => h) (by rfl) hHeld HYS.out Try.underlying24 rfl HSY.out ?_
        try simp only [Act.put, List.setIfInBounds_toArray, List.set_cons_zero, List.set_cons_succ]
        refine heavyL 7 rfl (by kernel_rfl) (fun K0 hK0 => ?_)
        go_simp
        refine (compare_below x y _).mono ?_
        rintro e w4 ⟨rfl, b5⟩
        try go_simp
        have b4 : Below wr.heap.size wr w4 := hHeld.trans (b5.mono hHeld.size)
        refine hK0.out _ _ b4 (fun hHeld => ?_)
        clear hK0 K0
        try simp only [Act.put, List.setIfInBounds_toArray, List.set_cons_zero, List.set_cons_succ]
        refine takeL 8 (v := ?_) rfl (by kernel_rfl) (by kernel_rfl) (by kernel_rfl) (fun _ _ _ h => h) (by rfl) hHeld ?_ ?_
        rotate_left 1
        · intro w2 hSw; go_simp <;> with_reducible rfl
        try simp only [Act.put, List.setIfInBounds_toArray, List.set_cons_zero, List.set_cons_succ]
        refine wpAnyH_done (by kernel_rfl) ?_ _
        refine NoPanic.normal ?_
        clear hHeld b5 b0
        have hsz4 := b4.size
        obtain ⟨z, hz⟩ : ∃ z, cfI x y = z := ⟨_, rfl⟩
        have hz3 := merge_step x y
        rw [hz] at hz3
        rw [hz]
        clear hz
        by_cases hn : z < 0
        · obtain ⟨hm1, _⟩ := hz3.1 hn
          have hz1' : z ≤ 0 := by omega
          have hz2' : ¬ 0 ≤ z := by omega
          clear hz3
          obtain ⟨w1, hw1⟩ : ∃ w1, w4.alloc (.cells #[.int .u8 0, .int .u8 0, .int .u8 0, .int .u8 0, .int .u8 0, .int .u8 0, .int .u8 0, .int .u8 0, .int .u8 0, .int .u8 0, .int .u8 0, .int .u8 0, .int .u8 0, .int .u8 0, .int .u8 0, .int .u8 0, .int .u8 0, .int .u8 0, .int .u8 0, .int .u8 0, .int .u8 0, .int .u8 0, .int .u8 0, .int .u8 0, .int .u8 0, .int .u8 0, .int .u8 0, .int .u8 0, .int .u8 0, .int .u8 0, .int .u8 0, .int .u8 0] 24) = w1 := ⟨_, rfl⟩
          have hbox : Hid (w1.heap[w4.heap.size]? = some (.cells (encI default).toArray 24 (0, 0))) := Lib.hid (by rw [← hw1]; exact heap_alloc_new w4 _)
          have b1' : Below w4.heap.size w4 w1 := by rw [← hw1]; exact (Below.refl _ _).alloc (Nat.le_refl _) _
          have hs1 : w4.heap.size < w1.heap.size := by rw [← hw1]; simp
          have b2' : Below wr.heap.size wr w1 := b4.trans (b1'.mono b4.size)
          go_wp2_with fail
          clear hw1
          refine wp_region_noPanic ?_
          refine wp_region_held_drew (S := fun w' => Below wr.heap.size wr w') (by kernel_rfl) b2'.drew (fun hHeld => ?_)
          refine takeL 0 (v := ?_) rfl (by kernel_rfl) (by kernel_rfl) (by kernel_rfl) (fun _ _ _ h => h) (by rfl) hHeld ?_ ?_
          rotate_left 1
          · intro w2 hSw; go_simp <;> with_reducible rfl
          try simp only [Act.put, List.setIfInBounds_toArray, List.set_cons_zero, List.set_cons_succ]
          refine takeL 1 (v := ?_) rfl (by kernel_rfl) (by kernel_rfl) (by kernel_rfl) (fun _ _ _ h => h) (by rfl) hHeld ?_ ?_
          rotate_left 1
          · intro w2 hSw; go_simp <;> with_reducible rfl
          try simp only [Act.put, List.setIfInBounds_toArray, List.set_cons_zero, List.set_cons_succ]
          refine takeRow 2 rfl (by kernel_rfl) (by kernel_rfl) (by kernel_rfl) 24 (.tmp 44) rfl ga oa rfl (encI x) _ (fun _ _ _ h => h) (by rfl) hHeld HXS.out Try.underlying24 rfl HSX.out ?_
          try simp only [Act.put, List.setIfInBounds_toArray, List.set_cons_zero, List.set_cons_succ]
          refine takeL 3 (v := ?_) rfl (by kernel_rfl) (by kernel_rfl) (by kernel_rfl) (fun _ _ _ h => h) (by rfl) hHeld ?_ ?_
          rotate_left 1
          · intro w2 hSw; go_simp <;> with_reducible rfl
          try simp only [Act.put, List.setIfInBounds_toArray, List.set_cons_zero, List.set_cons_succ]
          refine takeL 4 (v := .slice (if ca = 1 then some ⟨ga, oa, none⟩ else some ⟨ga, oa + 32, none⟩) la.length (ca - 1)) rfl (by kernel_rfl) (by kernel_rfl) (by kernel_rfl) (fun _ _ _ h => h) (by rfl) hHeld ?_ ?_
          · intro w2 hSw
            by_cases hc1 : ca = 1
            · subst hc1
              have hlb0 : la.length = 0 := by omega
              go_simp <;> (rw [if_pos (by omega), hlb0])
            · have hc2 : (1 : Int) ≤ (ca : Int) := by omega
              go_simp <;> omega
          try simp only [Act.put, List.setIfInBounds_toArray, List.set_cons_zero, List.set_cons_succ]
          refine heavyL 5 rfl (by kernel_rfl) (fun K0 hK0 => ?_)
          rw [if_pos (by rfl)]
          refine wp_store_row _ _ _ rfl w4.heap.size (encI x).toArray rfl rfl _ _ hbox.out (by rw [HSX.out]; simp) (by simp [encI_len]) (bytes_one x.1) ?_
          have HX2 := Lib.hid (setRow_heap w1.drew w4.heap.size _ (encI x).toArray _ _ (show w1.drew.heap[w4.heap.size]? = _ from hbox.out))
          have hB2 := below_setRow (B := wr.heap.size) hHeld b4.size (encI x).toArray
          obtain ⟨w2, hw2⟩ : ∃ wq, w1.drew.setRow w4.heap.size (encI x).toArray = wq := ⟨_, rfl⟩
          rw [hw2] at HX2 hB2
          rw [hw2]
          clear hw2
          refine hK0.out _ _ hB2 (fun hHeld => ?_)
          clear hK0 K0
          try simp only [Act.put, List.setIfInBounds_toArray, List.set_cons_zero, List.set_cons_succ]
          refine takeL 6 (v := ?_) rfl (by kernel_rfl) (by kernel_rfl) (by kernel_rfl) (fun _ _ _ h => h) (by rfl) hHeld ?_ ?_
          rotate_left 1
          · intro w2 hSw; go_simp <;> with_reducible rfl
          try simp only [Act.put, List.setIfInBounds_toArray, List.set_cons_zero, List.set_cons_succ]
          refine wpAnyH_done (by kernel_rfl) ?_ _
          refine NoPanic.normal ?_
          clear hHeld hbox b2'
          have hta := HA.out.tail (c := ca) hca1
          obtain ⟨na, hna⟩ : ∃ nb, (if ca = 1 then some (⟨ga, oa, none⟩ : Addr) else some ⟨ga, oa + 32, none⟩) = nb := ⟨_, rfl⟩
          obtain ⟨ma, hma⟩ : ∃ mb, ca - 1 = mb := ⟨_, rfl⟩
          rw [hna, hma]
          rw [hna] at hta
          have HTA := Lib.hid hta
          have hma1 : la.length ≤ ma := by omega
          have hma2 : ma ≤ c := by omega
          clear hta hna hma
          clear HXS HYS
          have hsz2 : w4.heap.size < w2.heap.size := by
            have : w2.heap[w4.heap.size]? ≠ none := by rw [HX2.out]; simp
            simpa using this
          have ho2 := owns_below ho hB2
          have hBT := hB.trans (hB2.mono hsz)
          have hsz3 : w.heap.size ≤ w2.heap.size := hBT.size
          clear ho hB hB2
          cases hk : K true false with
          | false =>
            have HR2 : Hid (acc ++ mergeI K fu (la) (y :: lb) = R) := Lib.hid (by have := HR.out; simpa [mergeI, hm1, hk] using this)
            clear HR
            go_wp2_with (rw [HEK.out, Oper.upon_enter]; refine (HKK.out _ _ _).mono ?_; rintro _ _ ⟨rfl, rfl⟩; rw [hk]; go_simp; skip)
            go_roundw
            case rel => exact ⟨la, y :: lb, acc, _, _, _, _, fu, rfl, rfl, hma1, hlb, hma2, hcb, by simp at hl1 ⊢ <;> omega, by simp at hl2 ⊢ <;> omega, by simp at hsum ⊢ <;> omega, by simp at hfu ⊢ <;> omega, HTA, HB, ho2, HR2, hBT⟩
            case measure => simp [slLen] <;> omega
          | true =>
            have HR2 : Hid ((acc ++ [x]) ++ mergeI K fu (la) (y :: lb) = R) := Lib.hid (by have := HR.out; simpa [mergeI, hm1, hk] using this)
            clear HR
            have hkm : acc.length + 1 ≤ maxLen := by unfold maxLen; simp at hsum; omega
            have hkb : (acc.length + 1) * 32 ≤ 140737488355328 := by simp at hsum; omega
            go_wp2_with (first
              | (rw [HEK.out, Oper.upon_enter]; refine (HKK.out _ _ _).mono ?_; rintro _ _ ⟨rfl, rfl⟩; rw [hk]; go_simp; skip)
              | (refine wpList_load_abs rfl _ _ rfl w4.heap.size rfl 24 (encI x).toArray (0, 0) _ HX2.out Try.underlying24 rfl (by rw [HSX.out]; simp) ?_)
              | (refine wpList_build1 rfl 22 24 _ rfl (encI x) rfl i0 _ Try.underlying22 HI.out hz0 (by rw [hz1, encI_len]) (by rw [encI_len]; omega) (by rw [encI_len]; omega) ?_)
              | (at_builtin; refine wpList_append_own_at _ rfl _ _ 22 rfl w.heap.size 24 i0 _ 32 32 Try.underlying22 HI.out hz0 hz1 hz2 (by simp [Value.cells]) (by decide) _ _ _ rfl (ho2.alloc _) ⟨w2.heap.size, 0, none⟩ 1 1 (encI x) rfl (by rw [encI_len]) (news_of_block0 (heap_alloc_new w2 _)) (encI_one x) hkm hkb (by rw [alloc_sz]; omega) ?_))
            intro v' wA hA gA _ _
            have hB' := (hBT.alloc hsz3 _).grown gA (by rw [alloc_sz]; omega) (fun j hj => (ho2.lt j hj).1)
            rw [← idcs_snoc, show acc.length + 1 = (acc ++ [x]).length by simp] at hA
            clear gA ho2 hBT HX2 hkm hkb
            go_wp2
            go_roundw
            case rel => exact ⟨la, y :: lb, acc ++ [x], _, _, _, _, fu, rfl, rfl, hma1, hlb, hma2, hcb, by simp at hl1 ⊢ <;> omega, by simp at hl2 ⊢ <;> omega, by simp at hsum ⊢ <;> omega, by simp at hfu ⊢ <;> omega, HTA, HB, hA, HR2, hB'⟩
            case measure => simp [slLen] <;> omega
        · by_cases hp : 0 < z
          · obtain ⟨hm1, hm2⟩ := hz3.2.1 hp
            have hz1' : ¬ z ≤ 0 := by omega
            have hz2' : 0 ≤ z := by omega
            clear hz3
            obtain ⟨w1, hw1⟩ : ∃ w1, w4.alloc (.cells #[.int .u8 0, .int .u8 0, .int .u8 0, .int .u8 0, .int .u8 0, .int .u8 0, .int .u8 0, .int .u8 0, .int .u8 0, .int .u8 0, .int .u8 0, .int .u8 0, .int .u8 0, .int .u8 0, .int .u8 0, .int .u8 0, .int .u8 0, .int .u8 0, .int .u8 0, .int .u8 0, .int .u8 0, .int .u8 0, .int .u8 0, .int .u8 0, .int .u8 0, .int .u8 0, .int .u8 0, .int .u8 0, .int .u8 0, .int .u8 0, .int .u8 0, .int .u8 0] 24) = w1 := ⟨_, rfl⟩
            have hbox : Hid (w1.heap[w4.heap.size]? = some (.cells (encI default).toArray 24 (0, 0))) := Lib.hid (by rw [← hw1]; exact heap_alloc_new w4 _)
            have b1' : Below w4.heap.size w4 w1 := by rw [← hw1]; exact (Below.refl _ _).alloc (Nat.le_refl _) _
            have hs1 : w4.heap.size < w1.heap.size := by rw [← hw1]; simp
            have b2' : Below wr.heap.size wr w1 := b4.trans (b1'.mono b4.size)
            go_wp2_with fail
            clear hw1
            refine wp_region_noPanic ?_
            refine wp_region_held_drew (S := fun w' => Below wr.heap.size wr w') (by kernel_rfl) b2'.drew (fun hHeld => ?_)
            refine takeL 0 (v := ?_) rfl (by kernel_rfl) (by kernel_rfl) (by kernel_rfl) (fun _ _ _ h => h) (by rfl) hHeld ?_ ?_
            rotate_left 1
            · intro w2 hSw; go_simp <;> with_reducible rfl
            try simp only [Act.put, List.setIfInBounds_toArray, List.set_cons_zero, List.set_cons_succ]
            refine takeL 1 (v := ?_) rfl (by kernel_rfl) (by kernel_rfl) (by kernel_rfl) (fun _ _ _ h => h) (by rfl) hHeld ?_ ?_
            rotate_left 1
            · intro w2 hSw; go_simp <;> with_reducible rfl
            try simp only [Act.put, List.setIfInBounds_toArray, List.set_cons_zero, List.set_cons_succ]
            refine takeRow 2 rfl (by kernel_rfl) (by kernel_rfl) (by kernel_rfl) 24 (.tmp 50) rfl gb ob rfl (encI y) _ (fun _ _ _ h => h) (by rfl) hHeld HYS.out Try.underlying24 rfl HSY.out ?_
            try simp only [Act.put, List.setIfInBounds_toArray, List.set_cons_zero, List.set_cons_succ]
            refine takeL 3 (v := ?_) rfl (by kernel_rfl) (by kernel_rfl) (by kernel_rfl) (fun _ _ _ h => h) (by rfl) hHeld ?_ ?_
            rotate_left 1
            · intro w2 hSw; go_simp <;> with_reducible rfl
            try simp only [Act.put, List.setIfInBounds_toArray, List.set_cons_zero, List.set_cons_succ]
            refine takeL 4 (v := .slice (if cb = 1 then some ⟨gb, ob, none⟩ else some ⟨gb, ob + 32, none⟩) lb.length (cb - 1)) rfl (by kernel_rfl) (by kernel_rfl) (by kernel_rfl) (fun _ _ _ h => h) (by rfl) hHeld ?_ ?_
            · intro w2 hSw
              by_cases hc1 : cb = 1
              · subst hc1
                have hlb0 : lb.length = 0 := by omega
                go_simp <;> (rw [if_pos (by omega), hlb0])
              · have hc2 : (1 : Int) ≤ (cb : Int) := by omega
                go_simp <;> omega
            try simp only [Act.put, List.setIfInBounds_toArray, List.set_cons_zero, List.set_cons_succ]
            refine heavyL 5 rfl (by kernel_rfl) (fun K0 hK0 => ?_)
            rw [if_pos (by rfl)]
            refine wp_store_row _ _ _ rfl w4.heap.size (encI y).toArray rfl rfl _ _ hbox.out (by rw [HSY.out]; simp) (by simp [encI_len]) (bytes_one y.1) ?_
            have HX2 := Lib.hid (setRow_heap w1.drew w4.heap.size _ (encI y).toArray _ _ (show w1.drew.heap[w4.heap.size]? = _ from hbox.out))
            have hB2 := below_setRow (B := wr.heap.size) hHeld b4.size (encI y).toArray
            obtain ⟨w2, hw2⟩ : ∃ wq, w1.drew.setRow w4.heap.size (encI y).toArray = wq := ⟨_, rfl⟩
            rw [hw2] at HX2 hB2
            rw [hw2]
            clear hw2
            refine hK0.out _ _ hB2 (fun hHeld => ?_)
            clear hK0 K0
            try simp only [Act.put, List.setIfInBounds_toArray, List.set_cons_zero, List.set_cons_succ]
            refine takeL 6 (v := ?_) rfl (by kernel_rfl) (by kernel_rfl) (by kernel_rfl) (fun _ _ _ h => h) (by rfl) hHeld ?_ ?_
            rotate_left 1
            · intro w2 hSw; go_simp <;> with_reducible rfl
            try simp only [Act.put, List.setIfInBounds_toArray, List.set_cons_zero, List.set_cons_succ]
            refine wpAnyH_done (by kernel_rfl) ?_ _
            refine NoPanic.normal ?_
            clear hHeld hbox b2'
            have htb := HB.out.tail (c := cb) hcb1
            obtain ⟨nb, hnb⟩ : ∃ nb, (if cb = 1 then some (⟨gb, ob, none⟩ : Addr) else some ⟨gb, ob + 32, none⟩) = nb := ⟨_, rfl⟩
            obtain ⟨mb, hmb⟩ : ∃ mb, cb - 1 = mb := ⟨_, rfl⟩
            rw [hnb, hmb]
            rw [hnb] at htb
            have HTB := Lib.hid htb
            have hmb1 : lb.length ≤ mb := by omega
            have hmb2 : mb ≤ d := by omega
            clear htb hnb hmb
            clear HXS HYS
            have hsz2 : w4.heap.size < w2.heap.size := by
              have : w2.heap[w4.heap.size]? ≠ none := by rw [HX2.out]; simp
              simpa using this
            have ho2 := owns_below ho hB2
            have hBT := hB.trans (hB2.mono hsz)
            have hsz3 : w.heap.size ≤ w2.heap.size := hBT.size
            clear ho hB hB2
            cases hk : K false true with
            | false =>
              have HR2 : Hid (acc ++ mergeI K fu (x :: la) (lb) = R) := Lib.hid (by have := HR.out; simpa [mergeI, hm1, hm2, hk] using this)
              clear HR
              go_wp2_with (rw [HEK.out, Oper.upon_enter]; refine (HKK.out _ _ _).mono ?_; rintro _ _ ⟨rfl, rfl⟩; rw [hk]; go_simp; skip)
              go_roundw
              case rel => exact ⟨x :: la, lb, acc, _, _, _, _, fu, rfl, rfl, hla, hmb1, hca, hmb2, by simp at hl1 ⊢ <;> omega, by simp at hl2 ⊢ <;> omega, by simp at hsum ⊢ <;> omega, by simp at hfu ⊢ <;> omega, HA, HTB, ho2, HR2, hBT⟩
              case measure => simp [slLen] <;> omega
            | true =>
              have HR2 : Hid ((acc ++ [y]) ++ mergeI K fu (x :: la) (lb) = R) := Lib.hid (by have := HR.out; simpa [mergeI, hm1, hm2, hk] using this)
              clear HR
              have hkm : acc.length + 1 ≤ maxLen := by unfold maxLen; simp at hsum; omega
              have hkb : (acc.length + 1) * 32 ≤ 140737488355328 := by simp at hsum; omega
              go_wp2_with (first
                | (rw [HEK.out, Oper.upon_enter]; refine (HKK.out _ _ _).mono ?_; rintro _ _ ⟨rfl, rfl⟩; rw [hk]; go_simp; skip)
                | (refine wpList_load_abs rfl _ _ rfl w4.heap.size rfl 24 (encI y).toArray (0, 0) _ HX2.out Try.underlying24 rfl (by rw [HSY.out]; simp) ?_)
                | (refine wpList_build1 rfl 22 24 _ rfl (encI y) rfl i0 _ Try.underlying22 HI.out hz0 (by rw [hz1, encI_len]) (by rw [encI_len]; omega) (by rw [encI_len]; omega) ?_)
                | (at_builtin; refine wpList_append_own_at _ rfl _ _ 22 rfl w.heap.size 24 i0 _ 32 32 Try.underlying22 HI.out hz0 hz1 hz2 (by simp [Value.cells]) (by decide) _ _ _ rfl (ho2.alloc _) ⟨w2.heap.size, 0, none⟩ 1 1 (encI y) rfl (by rw [encI_len]) (news_of_block0 (heap_alloc_new w2 _)) (encI_one y) hkm hkb (by rw [alloc_sz]; omega) ?_))
              intro v' wA hA gA _ _
              have hB' := (hBT.alloc hsz3 _).grown gA (by rw [alloc_sz]; omega) (fun j hj => (ho2.lt j hj).1)
              rw [← idcs_snoc, show acc.length + 1 = (acc ++ [y]).length by simp] at hA
              clear gA ho2 hBT HX2 hkm hkb
              go_wp2
              go_roundw
              case rel => exact ⟨x :: la, lb, acc ++ [y], _, _, _, _, fu, rfl, rfl, hla, hmb1, hca, hmb2, by simp at hl1 ⊢ <;> omega, by simp at hl2 ⊢ <;> omega, by simp at hsum ⊢ <;> omega, by simp at hfu ⊢ <;> omega, HA, HTB, hA, HR2, hB'⟩
              case measure => simp [slLen] <;> omega
          · obtain ⟨hm1, hm2⟩ := hz3.2.2 (by omega)
            have hz1' : z ≤ 0 := by omega
            have hz2' : 0 ≤ z := by omega
            clear hz3
            obtain ⟨w1, hw1⟩ : ∃ w1, w4.alloc (.cells #[.int .u8 0, .int .u8 0, .int .u8 0, .int .u8 0, .int .u8 0, .int .u8 0, .int .u8 0, .int .u8 0, .int .u8 0, .int .u8 0, .int .u8 0, .int .u8 0, .int .u8 0, .int .u8 0, .int .u8 0, .int .u8 0, .int .u8 0, .int .u8 0, .int .u8 0, .int .u8 0, .int .u8 0, .int .u8 0, .int .u8 0, .int .u8 0, .int .u8 0, .int .u8 0, .int .u8 0, .int .u8 0, .int .u8 0, .int .u8 0, .int .u8 0, .int .u8 0] 24) = w1 := ⟨_, rfl⟩
            have hbox : Hid (w1.heap[w4.heap.size]? = some (.cells (encI default).toArray 24 (0, 0))) := Lib.hid (by rw [← hw1]; exact heap_alloc_new w4 _)
            have b1' : Below w4.heap.size w4 w1 := by rw [← hw1]; exact (Below.refl _ _).alloc (Nat.le_refl _) _
            have hs1 : w4.heap.size < w1.heap.size := by rw [← hw1]; simp
            have b2' : Below wr.heap.size wr w1 := b4.trans (b1'.mono b4.size)
            go_wp2_with fail
            clear hw1
            refine wp_region_noPanic ?_
            refine wp_region_held_drew (S := fun w' => Below wr.heap.size wr w') (by kernel_rfl) b2'.drew (fun hHeld => ?_)
            refine takeL 0 (v := ?_) rfl (by kernel_rfl) (by kernel_rfl) (by kernel_rfl) (fun _ _ _ h => h) (by rfl) hHeld ?_ ?_
            rotate_left 1
            · intro w2 hSw; go_simp <;> with_reducible rfl
            try simp only [Act.put, List.setIfInBounds_toArray, List.set_cons_zero, List.set_cons_succ]
            refine takeL 1 (v := ?_) rfl (by kernel_rfl) (by kernel_rfl) (by kernel_rfl) (fun _ _ _ h => h) (by rfl) hHeld ?_ ?_
            rotate_left 1
            · intro w2 hSw; go_simp <;> with_reducible rfl
            try simp only [Act.put, List.setIfInBounds_toArray, List.set_cons_zero, List.set_cons_succ]
            refine takeRow 2 rfl (by kernel_rfl) (by kernel_rfl) (by kernel_rfl) 24 (.tmp 44) rfl ga oa rfl (encI x) _ (fun _ _ _ h => h) (by rfl) hHeld HXS.out Try.underlying24 rfl HSX.out ?_
            try simp only [Act.put, List.setIfInBounds_toArray, List.set_cons_zero, List.set_cons_succ]
            refine takeL 3 (v := ?_) rfl (by kernel_rfl) (by kernel_rfl) (by kernel_rfl) (fun _ _ _ h => h) (by rfl) hHeld ?_ ?_
            rotate_left 1
            · intro w2 hSw; go_simp <;> with_reducible rfl
            try simp only [Act.put, List.setIfInBounds_toArray, List.set_cons_zero, List.set_cons_succ]
            refine takeL 4 (v := .slice (if ca = 1 then some ⟨ga, oa, none⟩ else some ⟨ga, oa + 32, none⟩) la.length (ca - 1)) rfl (by kernel_rfl) (by kernel_rfl) (by kernel_rfl) (fun _ _ _ h => h) (by rfl) hHeld ?_ ?_
            · intro w2 hSw
              by_cases hc1 : ca = 1
              · subst hc1
                have hlb0 : la.length = 0 := by omega
                go_simp <;> (rw [if_pos (by omega), hlb0])
              · have hc2 : (1 : Int) ≤ (ca : Int) := by omega
                go_simp <;> omega
            try simp only [Act.put, List.setIfInBounds_toArray, List.set_cons_zero, List.set_cons_succ]
            refine heavyL 5 rfl (by kernel_rfl) (fun K0 hK0 => ?_)
            rw [if_pos (by rfl)]
            refine wp_store_row _ _ _ rfl w4.heap.size (encI x).toArray rfl rfl _ _ hbox.out (by rw [HSX.out]; simp) (by simp [encI_len]) (bytes_one x.1) ?_
            have HX2 := Lib.hid (setRow_heap w1.drew w4.heap.size _ (encI x).toArray _ _ (show w1.drew.heap[w4.heap.size]? = _ from hbox.out))
            have hB2 := below_setRow (B := wr.heap.size) hHeld b4.size (encI x).toArray
            obtain ⟨w2, hw2⟩ : ∃ wq, w1.drew.setRow w4.heap.size (encI x).toArray = wq := ⟨_, rfl⟩
            rw [hw2] at HX2 hB2
            rw [hw2]
            clear hw2
            refine hK0.out _ _ hB2 (fun hHeld => ?_)
            clear hK0 K0
            try simp only [Act.put, List.setIfInBounds_toArray, List.set_cons_zero, List.set_cons_succ]
            refine takeL 6 (v := ?_) rfl (by kernel_rfl) (by kernel_rfl) (by kernel_rfl) (fun _ _ _ h => h) (by rfl) hHeld ?_ ?_
            rotate_left 1
            · intro w2 hSw; go_simp <;> with_reducible rfl
            try simp only [Act.put, List.setIfInBounds_toArray, List.set_cons_zero, List.set_cons_succ]
            refine wpAnyH_done (by kernel_rfl) ?_ _
            refine NoPanic.normal ?_
            clear hHeld hbox b2'
            have hta := HA.out.tail (c := ca) hca1
            obtain ⟨na, hna⟩ : ∃ nb, (if ca = 1 then some (⟨ga, oa, none⟩ : Addr) else some ⟨ga, oa + 32, none⟩) = nb := ⟨_, rfl⟩
            obtain ⟨ma, hma⟩ : ∃ mb, ca - 1 = mb := ⟨_, rfl⟩
            rw [hna, hma]
            rw [hna] at hta
            have HTA := Lib.hid hta
            have hma1 : la.length ≤ ma := by omega
            have hma2 : ma ≤ c := by omega
            clear hta hna hma
            go_wp2_with fail
            refine wp_region_noPanic ?_
            refine wp_region_held_drew (S := fun w' => Below wr.heap.size wr w') (by kernel_rfl) hB2.drew (fun hHeld => ?_)
            refine takeL 0 (v := ?_) rfl (by kernel_rfl) (by kernel_rfl) (by kernel_rfl) (fun _ _ _ h => h) (by rfl) hHeld ?_ ?_
            rotate_left 1
            · intro w2 hSw; go_simp <;> with_reducible rfl
            try simp only [Act.put, List.setIfInBounds_toArray, List.set_cons_zero, List.set_cons_succ]
            refine takeL 1 (v := ?_) rfl (by kernel_rfl) (by kernel_rfl) (by kernel_rfl) (fun _ _ _ h => h) (by rfl) hHeld ?_ ?_
            rotate_left 1
            · intro w2 hSw; go_simp <;> with_reducible rfl
            try simp only [Act.put, List.setIfInBounds_toArray, List.set_cons_zero, List.set_cons_succ]
            refine takeRow 2 rfl (by kernel_rfl) (by kernel_rfl) (by kernel_rfl) 24 (.tmp 50) rfl gb ob rfl (encI y) _ (fun _ _ _ h => h) (by rfl) hHeld HYS.out Try.underlying24 rfl HSY.out ?_
            try simp only [Act.put, List.setIfInBounds_toArray, List.set_cons_zero, List.set_cons_succ]
            refine takeL 3 (v := ?_) rfl (by kernel_rfl) (by kernel_rfl) (by kernel_rfl) (fun _ _ _ h => h) (by rfl) hHeld ?_ ?_
            rotate_left 1
            · intro w2 hSw; go_simp <;> with_reducible rfl
            try simp only [Act.put, List.setIfInBounds_toArray, List.set_cons_zero, List.set_cons_succ]
            refine takeL 4 (v := .slice (if cb = 1 then some ⟨gb, ob, none⟩ else some ⟨gb, ob + 32, none⟩) lb.length (cb - 1)) rfl (by kernel_rfl) (by kernel_rfl) (by kernel_rfl) (fun _ _ _ h => h) (by rfl) hHeld ?_ ?_
            · intro w2 hSw
              by_cases hc1 : cb = 1
              · subst hc1
                have hlb0 : lb.length = 0 := by omega
                go_simp <;> (rw [if_pos (by omega), hlb0])
              · have hc2 : (1 : Int) ≤ (cb : Int) := by omega
                go_simp <;> omega
            try simp only [Act.put, List.setIfInBounds_toArray, List.set_cons_zero, List.set_cons_succ]
            refine heavyL 5 rfl (by kernel_rfl) (fun K0 hK0 => ?_)
            rw [if_pos (by rfl)]
            refine wp_store_row _ _ _ rfl w4.heap.size (encI y).toArray rfl rfl _ _ HX2.out (by rw [HSY.out]; simp) (by simp [encI_len]) (bytes_one y.1) ?_
            have HX3 := Lib.hid (setRow_heap w2.drew w4.heap.size _ (encI y).toArray _ _ (show w2.drew.heap[w4.heap.size]? = _ from HX2.out))
            have hB3 := below_setRow (B := wr.heap.size) hHeld b4.size (encI y).toArray
            obtain ⟨w3, hw3⟩ : ∃ wq, w2.drew.setRow w4.heap.size (encI y).toArray = wq := ⟨_, rfl⟩
            rw [hw3] at HX3 hB3
            rw [hw3]
            clear hw3
            refine hK0.out _ _ hB3 (fun hHeld => ?_)
            clear hK0 K0
            try simp only [Act.put, List.setIfInBounds_toArray, List.set_cons_zero, List.set_cons_succ]
            refine takeL 6 (v := ?_) rfl (by kernel_rfl) (by kernel_rfl) (by kernel_rfl) (fun _ _ _ h => h) (by rfl) hHeld ?_ ?_
            rotate_left 1
            · intro w2 hSw; go_simp <;> with_reducible rfl
            try simp only [Act.put, List.setIfInBounds_toArray, List.set_cons_zero, List.set_cons_succ]
            refine wpAnyH_done (by kernel_rfl) ?_ _
            refine NoPanic.normal ?_
            clear hHeld HX2 hB2
            have htb := HB.out.tail (c := cb) hcb1
            obtain ⟨nb, hnb⟩ : ∃ nb, (if cb = 1 then some (⟨gb, ob, none⟩ : Addr) else some ⟨gb, ob + 32, none⟩) = nb := ⟨_, rfl⟩
            obtain ⟨mb, hmb⟩ : ∃ mb, cb - 1 = mb := ⟨_, rfl⟩
            rw [hnb, hmb]
            rw [hnb] at htb
            have HTB := Lib.hid htb
            have hmb1 : lb.length ≤ mb := by omega
            have hmb2 : mb ≤ d := by omega
            clear htb hnb hmb
            clear HXS HYS
            have hsz2 : w4.heap.size < w3.heap.size := by
              have : w3.heap[w4.heap.size]? ≠ none := by rw [HX3.out]; simp
              simpa using this
            have ho2 := owns_below ho hB3
            have hBT := hB.trans (hB3.mono hsz)
            have hsz3 : w.heap.size ≤ w3.heap.size := hBT.size
            clear ho hB hB3
            cases hk : K true true with
            | false =>
              have HR2 : Hid (acc ++ mergeI K fu (la) (lb) = R) := Lib.hid (by have := HR.out; simpa [mergeI, hm1, hm2, hk] using this)
              clear HR
              go_wp2_with (rw [HEK.out, Oper.upon_enter]; refine (HKK.out _ _ _).mono ?_; rintro _ _ ⟨rfl, rfl⟩; rw [hk]; go_simp; skip)
              go_roundw
              case rel => exact ⟨la, lb, acc, _, _, _, _, fu, rfl, rfl, hma1, hmb1, hma2, hmb2, by simp at hl1 ⊢ <;> omega, by simp at hl2 ⊢ <;> omega, by simp at hsum ⊢ <;> omega, by simp at hfu ⊢ <;> omega, HTA, HTB, ho2, HR2, hBT⟩
              case measure => simp [slLen] <;> omega
            | true =>
              have HR2 : Hid ((acc ++ [y]) ++ mergeI K fu (la) (lb) = R) := Lib.hid (by have := HR.out; simpa [mergeI, hm1, hm2, hk] using this)
              clear HR
              have hkm : acc.length + 1 ≤ maxLen := by unfold maxLen; simp at hsum; omega
              have hkb : (acc.length + 1) * 32 ≤ 140737488355328 := by simp at hsum; omega
              go_wp2_with (first
                | (rw [HEK.out, Oper.upon_enter]; refine (HKK.out _ _ _).mono ?_; rintro _ _ ⟨rfl, rfl⟩; rw [hk]; go_simp; skip)
                | (refine wpList_load_abs rfl _ _ rfl w4.heap.size rfl 24 (encI y).toArray (0, 0) _ HX3.out Try.underlying24 rfl (by rw [HSY.out]; simp) ?_)
                | (refine wpList_build1 rfl 22 24 _ rfl (encI y) rfl i0 _ Try.underlying22 HI.out hz0 (by rw [hz1, encI_len]) (by rw [encI_len]; omega) (by rw [encI_len]; omega) ?_)
                | (at_builtin; refine wpList_append_own_at _ rfl _ _ 22 rfl w.heap.size 24 i0 _ 32 32 Try.underlying22 HI.out hz0 hz1 hz2 (by simp [Value.cells]) (by decide) _ _ _ rfl (ho2.alloc _) ⟨w3.heap.size, 0, none⟩ 1 1 (encI y) rfl (by rw [encI_len]) (news_of_block0 (heap_alloc_new w3 _)) (encI_one y) hkm hkb (by rw [alloc_sz]; omega) ?_))
              intro v' wA hA gA _ _
              have hB' := (hBT.alloc hsz3 _).grown gA (by rw [alloc_sz]; omega) (fun j hj => (ho2.lt j hj).1)
              rw [← idcs_snoc, show acc.length + 1 = (acc ++ [y]).length by simp] at hA
              clear gA ho2 hBT HX3 hkm hkb
              go_wp2
              go_roundw
              case rel => exact ⟨la, lb, acc ++ [y], _, _, _, _, fu, rfl, rfl, hma1, hmb1, hma2, hmb2, by simp at hl1 ⊢ <;> omega, by simp at hl2 ⊢ <;> omega, by simp at hsum ⊢ <;> omega, by simp at hfu ⊢ <;> omega, HTA, HTB, hA, HR2, hB'⟩
              case measure => simp [slLen] <;> omega
end Go.Proofs.Ytnoilnmkdahhiaa
