/- Decode: the reference's. -/
import Derived.Test.YtblidphaolgilaaHiB4
import Derived.Test.YtblidphaolgilaaHiR2
import Derived.Test.YtblidphaolgilaaHiR3
import Derived.Test.YtblidphaolgilaaHiEy
import Derived.Test.YtblidphaolgilaaIns
import Derived.Laws.CopyOwn
namespace Go.Proofs.Ytblidphaolgilaa
open Go.RowKit Go.Maps Go.Sort
set_option linter.unusedSimpArgs false
set_option linter.unusedVariables false

theorem foldB_len' : ∀ (l : List (List UInt8)) (acc acc' : List Ent), foldB acc l = some acc' → acc'.length = acc.length + l.length
  | [], acc, acc', h => by simp only [foldB, Option.some.injEq] at h; subst h; simp
  | b :: l, acc, acc', h => by
    have h' : (match stepB acc b with | some a => foldB a l | none => none) = some acc' := h
    cases hs : stepB acc b with
    | none => rw [hs] at h'; cases h'
    | some a =>
      rw [hs] at h'
      have := foldB_len' l a acc' h'
      obtain ⟨_, _, rfl⟩ := stepB_some hs
      simp at this ⊢; omega
/-- what is read wrong at one place, is wrong -/
theorem foldB_none (b : List UInt8) (i n : Nat) (h : foldB [] (parts b i) = none) (hi : i ≤ n) : foldB [] (parts b n) = none := by
  have e : parts b n = parts b i ++ ((List.range n).drop i).map (part b) := by
    unfold parts
    rw [← List.map_append]
    congr 1
    have := (List.take_append_drop i (List.range n)).symm
    rwa [List.take_range, Nat.min_eq_left hi] at this
  rw [e, foldB_app, h]; rfl
theorem exec_slice2 {w : World} {o : Oper} {ev : Operand → Value} (x lo hi : Operand) (ho : o.op = .slice 64 x (some lo) (some hi) none) (g off n c a d : Nat)
    (hx : ev x = .slice (some ⟨g, off, none⟩) n c) (hlo : ev lo = .int .i64 (a : Int)) (hhi : ev hi = .int .i64 (d : Int)) (h1 : a ≤ d) (h2 : d ≤ c) (h3 : ¬ c = a) :
    (execOp ev o).run Try.prog w = .ok (.value (.slice (some ⟨g, off + a, none⟩) (d - a) (c - a))) w := by
  unfold execOp
  simp only [ho, hx, hlo, hhi, Option.map_some, Option.map_none]
  go_simp
theorem exec_slice3 {w : World} {o : Oper} {ev : Operand → Value} (x lo hi : Operand) (ho : o.op = .slice 64 x (some lo) (some hi) none) (g off n c a d off' m : Nat)
    (hx : ev x = .slice (some ⟨g, off, none⟩) n c) (hlo : ev lo = .int .i64 (a : Int)) (hhi : ev hi = .int .i64 (d : Int)) (h1 : a ≤ d) (h2 : d ≤ c) (h3 : ¬ c = a) (h4 : off + a = off') (h5 : d - a = m) :
    (execOp ev o).run Try.prog w = .ok (.value (.slice (some ⟨g, off', none⟩) m (c - a))) w := by
  subst h4 h5
  exact exec_slice2 x lo hi ho g off n c a d hx hlo hhi h1 h2 h3
theorem exec_index8 {w : World} {o : Oper} {ev : Operand → Value} (x i : Operand) (ho : o.op = .indexAddr 64 x i) (g off n c a : Nat)
    (hx : ev x = .slice (some ⟨g, off, none⟩) n c) (hi : ev i = .int .i64 (a : Int)) (h : a < n) :
    (execOp ev o).run Try.prog w = .ok (.value (.pointer (some ⟨g, off + a, none⟩))) w := by
  unfold execOp
  simp only [ho, hx, hi]
  go_simp
theorem exec_indexX {w : World} {o : Oper} {ev : Operand → Value} (x i : Operand) (ho : o.op = .indexAddr 36 x i) (g off n c a : Nat)
    (hx : ev x = .slice (some ⟨g, off, none⟩) n c) (hi : ev i = .int .i64 (a : Int)) (h : a < n) :
    (execOp ev o).run Try.prog w = .ok (.value (.pointer (some ⟨g, off + a * 36, none⟩))) w := by
  unfold execOp
  simp only [ho, hx, hi]
  go_simp
theorem exec_load8 {w : World} {o : Oper} {ev : Operand → Value} (x : Operand) (ho : o.op = .load 5 x) (g off v : Nat)
    (hx : ev x = .pointer (some ⟨g, off, none⟩)) (h : w.cell? ⟨g, off, none⟩ = some (.int .u8 (v : Int))) :
    (execOp ev o).run Try.prog w = .ok (.value (.int .u8 (v : Int))) w := by
  unfold execOp
  simp only [ho, hx]
  go_simp
theorem rnumber_four (q : List UInt8) (h : q.length = 4) (ao : Option Addr) (c : Nat) (w : World) (hv : RowsAt b1 1 w.heap.size ao q w) :
    Calls Try.prog 59 #[.slice ao 4 c] w fun e w' => e = .returned (.int .i64 (num4 q 0 : Int)) ∧ Below w.heap.size w w' := by
  have := rnumber_any q (by omega) (by omega) ao c w hv
  rwa [h] at this
theorem sz8 : (Try.prog.info? 5).map (·.size) = some 1 := by kernel_rfl
theorem range_id {w : World} {g o : Nat} {y : Ent} (h : w.rangeAt g o (encE y)) : w.rangeAt g o (encI y.id) := fun j v hv => h j v (by
  rw [encE_at y j (by have := (List.getElem?_eq_some_iff.1 hv).1; rwa [encI_len] at this)]; exact hv)
theorem splice_id (y : Ent) (id : I32) : splice (encE y) 0 (encI id) = encE { y with id := id } := by
  unfold splice encE
  rw [encI_len, List.take_zero, List.nil_append, Nat.zero_add, List.drop_append, List.drop_of_length_le (by rw [encI_len]; omega), encI_len]
  rfl
theorem entAt_splice {w : World} {b : Nat} {T : TypeId} {y : Ent} {id : I32} (h : w.heap[b]? = some (.cells (splice (encE y) 0 (encI id)).toArray T (0, 0))) : EntAt w b T { y with id := id } := by
  rw [splice_id] at h; exact h
theorem EntAt.setArr {w : World} {b : Nat} {T : TypeId} {y : Ent} (h : EntAt w b T y) (s : I64) : EntAt (w.setCell ⟨b, 32, none⟩ (.int .i64 s.1)) b T { y with arr := s } := by
  unfold EntAt at *
  rw [Go.heap_setCell_same _ _ _ _ _ _ h]
  congr 2
  apply Array.ext'
  simp [encE, List.set_append, encI_len]
theorem EntAt.setDat {w : World} {b : Nat} {T : TypeId} {y : Ent} (h : EntAt w b T y) (s : I64) : EntAt (w.setCell ⟨b, 33, none⟩ (.int .i64 s.1)) b T { y with dat := s } := by
  unfold EntAt at *
  rw [Go.heap_setCell_same _ _ _ _ _ _ h]
  congr 2
  apply Array.ext'
  simp [encE, List.set_append, encI_len]
theorem EntAt.setSta {w : World} {b : Nat} {T : TypeId} {y : Ent} (h : EntAt w b T y) (s : I64) : EntAt (w.setCell ⟨b, 34, none⟩ (.int .i64 s.1)) b T { y with st := s } := by
  unfold EntAt at *
  rw [Go.heap_setCell_same _ _ _ _ _ _ h]
  congr 2
  apply Array.ext'
  simp [encE, List.set_append, encI_len]
theorem EntAt.setPerm {w : World} {b : Nat} {T : TypeId} {y : Ent} (h : EntAt w b T y) (q : Bool) : EntAt (w.setCell ⟨b, 35, none⟩ (.bool q)) b T { y with perm := q } := by
  unfold EntAt at *
  rw [Go.heap_setCell_same _ _ _ _ _ _ h]
  congr 2
  apply Array.ext'
  simp [encE, List.set_append, encI_len]
/-- what Decode answers -/
def RDecPost (b : List UInt8) (w : World) (e : Ending) (w' : World) : Prop := Below w.heap.size w w' ∧ match decB b with
  | none => e = .returned (.tuple #[.slice none 0 0, .int .i64 0, .int .i64 3])
  | some (rows, cut) => ∃ v, e = .returned (.tuple #[v, .int .i64 cut, .int .i64 0]) ∧ w'.ownsRow w.heap.size 24 36 v rows.length (rcs encE rows)
theorem RDecPost.err {b : List UInt8} {w w' : World} (h : decB b = none) (hB : Below w.heap.size w w') : RDecPost b w (.returned (.tuple #[.slice none 0 0, .int .i64 0, .int .i64 3])) w' := by
  unfold RDecPost; rw [h]; exact ⟨hB, rfl⟩
theorem RDecPost.ok {b : List UInt8} {w w' : World} {rows : List Ent} {cut : Int} {v : Value} (h : decB b = some (rows, cut)) (hB : Below w.heap.size w w') (hr : w'.ownsRow w.heap.size 24 36 v rows.length (rcs encE rows)) : RDecPost b w (.returned (.tuple #[v, .int .i64 cut, .int .i64 0])) w' := by
  unfold RDecPost; rw [h]; exact ⟨hB, v, rfl, hr⟩
set_option maxRecDepth 100000 in
set_option maxHeartbeats 8000000 in
theorem rdecode_any (b : List UInt8) (hl : b.length ≤ 5000) (ao : Option Addr) (c : Nat) (hlc : b.length ≤ c) (hcm : c ≤ maxLen) (w : World) (hv : RowsAt b1 1 w.heap.size ao b w) :
    Calls Try.prog 32 #[.slice ao b.length c] w fun e w' => RDecPost b w e w' := by
  have HV := Lib.hid hv
  clear hv
  obtain ⟨i0, hif, hz0, hz1, hz2⟩ := info_parts infoX
  have HI := Lib.hid hif
  clear hif
  by_cases h4 : b.length < 4
  · have hd : Hid (decB b = none) := Lib.hid (by unfold decB; rw [if_pos (.inl h4)])
    have h4i : (b.length : Int) < 4 := by omega
    clear h4
    go_enter Try.func32, Try.ntmps32
    go_wp2
    refine bodyPost_ret (results_tmp3 rfl _ _ _) rfl ?_
    exact RDecPost.err hd.out (Below.refl _ _)
  · have h4i : decide ((b.length : Int) < 4) = false := by simp; omega
    by_cases hm : (b.length - 4) % 41 = 0
    · have hmi : ((b.length : Int) % 41 != 4) = false := by simp; omega
      go_enter Try.func32, Try.ntmps32
      go_wp2_with fail
      refine (rnumber_any b (by omega) (by omega) ao c w HV.out).mono ?_
      rintro e w1 ⟨rfl, b1'⟩
      go_wp2_with fail
      refine (rminute_any _ _).mono ?_
      rintro e w2 ⟨rfl, rfl⟩
      have s1 := b1'.size
      cases hmin : minB (num4 b 0 : Int) with
      | false =>
        have hd : Hid (decB b = none) := Lib.hid (by unfold decB; rw [if_pos (.inr (.inr hmin))])
        go_wp2
        refine bodyPost_ret (results_tmp3 rfl _ _ _) rfl ?_
        exact RDecPost.err hd.out b1'
      | true =>
        obtain ⟨g, o, rfl, hg, hr0⟩ := HV.out.at (i := 0) (by omega)
        clear hr0
        obtain ⟨n, hn⟩ : ∃ n, n = (b.length - 4) / 41 := ⟨_, rfl⟩
        have HLN : Hid (b.length = 4 + n * 41) := Lib.hid (by omega)
        have hnl : n ≤ 1000 := by omega
        have HDC : Hid (∀ acc, foldB [] (parts b n) = some acc → decB b = some (acc, (num4 b 0 : Int))) := Lib.hid (fun acc h => by
          unfold decB
          rw [if_neg (by rintro (h | h | h); exact h4 h; exact h hm; rw [hmin] at h; cases h), ← hn, h]
          rfl)
        have HDN : Hid (foldB [] (parts b n) = none → decB b = none) := Lib.hid (fun h => by
          unfold decB
          rw [if_neg (by rintro (h | h | h); exact h4 h; exact h hm; rw [hmin] at h; cases h), ← hn, h]
          rfl)
        clear hn hmi hm h4i h4 hmin
        go_wp2_with fail
        go_loopw [5, 6] (fun ov iv wr => ∃ (i : Nat) (acc : List Ent), i ≤ n ∧ iv = .int .i64 ((4 + i * 41 : Nat) : Int) ∧ Hid (foldB [] (parts b i) = some acc) ∧ Hid (wr.ownsRow w.heap.size 24 36 ov acc.length (rcs encE acc)) ∧ Below w.heap.size w wr)
          (fun ov iv _ => (4 + n * 41 - intOf iv).toNat)
        case atStart => exact ⟨0, [], Nat.zero_le _, rfl, Lib.hid rfl, Lib.hid (World.ownsRow_nil _ _ _ _), b1'⟩
        case round =>
          obtain ⟨i, acc, hin, rfl, HF, HOv, hBr⟩ := hrel
          have hsr := hBr.size
          obtain ⟨A, hA⟩ : ∃ A, A = 4 + i * 41 := ⟨_, rfl⟩
          rw [← hA]
          have HA := Lib.hid hA
          by_cases hlt : i < n
          · have hAl : (A : Int) + 41 ≤ (b.length : Int) := by have := HLN.out; omega
            have hlti : (A : Int) < (b.length : Int) := by omega
            have hA0 : (0 : Int) ≤ (A : Int) := by omega
            have hAc : (A : Int) + 41 ≤ (c : Int) := by omega
            have hbs : (b.length : Int) ≤ 5000 := by omega
            have HFS : Hid (foldB [] (parts b (i + 1)) = stepB acc (part b i)) := Lib.hid (by rw [parts_succ, foldB_snoc, HF.out]; rfl)
            have hacl : acc.length ≤ 1000 := by have := foldB_len' _ _ _ HF.out; simp [parts] at this; omega
            clear hA
            go_wp2_with fail
            generalize hw7 : World.alloc wr _ = w7
            obtain ⟨xb, hxb⟩ : ∃ xb, wr.heap.size = xb := ⟨_, rfl⟩
            rw [hxb]
            have b7 : Below wr.heap.size wr w7 := by rw [← hw7]; exact (Below.refl _ _).alloc (Nat.le_refl _) _
            have E7 : EntAt w7 xb 24 Ent.zero := by rw [← hw7, ← hxb]; exact EntAt.new wr Ent.zero _
            have s7 : xb < w7.heap.size := (Array.getElem?_eq_some_iff.1 E7).1
            have hpl : (part b i).length = 41 := by unfold part; rw [List.length_take, List.length_drop]; have := HLN.out; omega
            have HPB : Hid (∀ W, Below w.heap.size w W → ∀ j, j < 41 → W.cell? ⟨g, o + A + j, none⟩ = some (.int .u8 (byt (part b i) j : Int))) := Lib.hid (fun W k j hj => by
              have hq := HA.out
              obtain ⟨g', o', e, _, hr⟩ := (HV.out.below k (Nat.le_refl _)).at (i := A + j) (by have := HLN.out; omega)
              cases e
              have h1 := hr 0 _ rfl
              rw [Nat.mul_one, Nat.add_zero, ← Nat.add_assoc] at h1
              rw [h1]
              unfold byt part
              rw [List.getD_eq_getElem?_getD, List.getElem?_take_of_lt hj, List.getElem?_drop, List.getElem?_eq_getElem (by have := HLN.out; omega)]
              congr 3
              simp [hq])
            have HVP : Hid (∀ W, Below w.heap.size w W → ∀ a d, a + d ≤ 41 → RowsAt b1 1 W.heap.size (some ⟨g, o + A + a, none⟩) (((part b i).drop a).take d) W) := Lib.hid (fun W k a d hd => by
              have e : ((part b i).drop a).take d = (b.drop (A + a)).take d := by
                unfold part
                rw [List.drop_take, List.take_take, Nat.min_eq_left (by omega), List.drop_drop, ← HA.out]
              have h := ((HV.out.below k (Nat.le_refl _)).mono k.size).drop (A + a)
              rw [e, Nat.add_assoc]
              rw [Nat.mul_one] at h
              exact h.take d)
            have hxw : w.heap.size ≤ xb := by omega
            have hB7 : Below xb wr w7 := by rw [← hxb]; exact b7
            have HSRC : Hid (∀ W, Below w.heap.size w W → ∀ j u, (encI (pId (part b i)))[j]? = some u → W.cell? ((⟨g, o + A, none⟩ : Addr).add j) = some u) := Lib.hid (fun W k j u hu => by
              have hj : j < 32 := by have := (List.getElem?_eq_some_iff.1 hu).1; rwa [encI_len] at this
              rw [Addr.add_mid, HPB.out W k j (by omega), ← hu]
              unfold encI Lib.byteCells pId
              rw [dif_pos (by rw [List.length_take]; omega), List.getElem?_map, List.getElem?_take_of_lt hj, List.getElem?_eq_getElem (by omega)]
              unfold byt
              rw [List.getD_eq_getElem?_getD, List.getElem?_eq_getElem (by omega)]
              rfl)
            generalize part b i = pb at *
            have HXB := Lib.hid hxb
            clear hw7 hxb b7
            go_wp2_with fail
            refine wp_region_noPanic ?_
            refine wp_region_held_drew (S := fun w' => Below xb wr w' ∧ ∃ y, EntAt w' xb 24 y) (by kernel_rfl) (⟨hB7.drew, _, E7⟩) (fun hHeld => ?_)
            refine takeL 0 (v := ?_) rfl (by kernel_rfl) (by kernel_rfl) (by kernel_rfl) (fun _ _ _ h => h) (by rfl) hHeld ?_ ?_
            rotate_left 1
            · intro w2 hSw; go_simp <;> with_reducible rfl
            try simp only [Act.put, List.setIfInBounds_toArray, List.set_cons_zero, List.set_cons_succ]
            refine takeL 1 (v := ?_) rfl (by kernel_rfl) (by kernel_rfl) (by kernel_rfl) (fun _ _ _ h => h) (by rfl) hHeld ?_ ?_
            rotate_left 1
            · intro w2 hSw; go_simp <;> with_reducible rfl
            try simp only [Act.put, List.setIfInBounds_toArray, List.set_cons_zero, List.set_cons_succ]
            refine takeL 2 (v := ?_) rfl (by kernel_rfl) (by kernel_rfl) (by kernel_rfl) (fun _ _ _ h => h) (by rfl) hHeld ?_ ?_
            rotate_left 1
            · intro w2 hSw; go_simp <;> with_reducible rfl
            try simp only [Act.put, List.setIfInBounds_toArray, List.set_cons_zero, List.set_cons_succ]
            refine takeL 3 (v := ?_) rfl (by kernel_rfl) (by kernel_rfl) (by kernel_rfl) (fun _ _ _ h => h) (by rfl) hHeld ?_ ?_
            rotate_left 1
            · intro w2 hSw; go_simp <;> with_reducible rfl
            try simp only [Act.put, List.setIfInBounds_toArray, List.set_cons_zero, List.set_cons_succ]
            refine takeL 4 (v := ?_) rfl (by kernel_rfl) (by kernel_rfl) (by kernel_rfl) (fun _ _ _ h => h) (by rfl) hHeld ?_ ?_
            rotate_left 1
            · intro w2 hSw; go_simp <;> with_reducible rfl
            try simp only [Act.put, List.setIfInBounds_toArray, List.set_cons_zero, List.set_cons_succ]
            refine takeL 5 (v := .int .i64 ((A + 32 : Nat) : Int)) rfl (by kernel_rfl) (by kernel_rfl) (by kernel_rfl) (fun _ _ _ h => h) (by rfl) hHeld ?_ ?_
            · intro w2 hSw; exact by go_simp; rw [IntWalk.i64_in _ (by omega)]
            try simp only [Act.put, List.setIfInBounds_toArray, List.set_cons_zero, List.set_cons_succ]
            refine takeL 6 (v := .slice (some ⟨g, o + A, none⟩) (A + 32 - A) (c - A)) rfl (by kernel_rfl) (by kernel_rfl) (by kernel_rfl) (fun _ _ _ h => h) (by rfl) hHeld ?_ ?_
            · intro w2 hSw; exact exec_slice2 (.tmp 31) (.tmp 32) (.tmp 34) rfl g o b.length c A (A + 32) rfl rfl rfl (by omega) (by omega) (by omega)
            try simp only [Act.put, List.setIfInBounds_toArray, List.set_cons_zero, List.set_cons_succ]
            have hE0 : w7.drew.heap[xb]? = some (.cells (encE Ent.zero).toArray 24 (0, 0)) := E7
            have hsl : (encI (pId pb)).length = Nat.min (A + 32 - A) 32 := by rw [encI_len, Nat.add_sub_cancel_left]; rfl
            refine heavyL 7 rfl (by kernel_rfl) (fun K hK => ?_)
            refine step_copy_splice rfl (.tmp 30) (.tmp 35) _ _ (by rfl) 5 Try.underlying64 sz8 (some ⟨xb, 0, none⟩) (some ⟨g, o + A, none⟩) 32 32 (A + 32 - A) (c - A) (by rfl) (by rfl) xb 0 (encE Ent.zero) 24 hE0 (encI (pId pb)) hsl (fun _ => ⟨rfl, _, rfl, HSRC.out _ (hBr.trans ((hHeld.1).mono hxw))⟩) (by rw [encI_len, encE_len]; omega) (encI_one _) xb wr hHeld.1 (Nat.le_refl _) ?_
            intro w8 h8 b8
            refine hK.out _ _ (⟨b8, _, entAt_splice h8.out⟩) (fun hHeld => ?_)
            clear hK K
            try simp only [Act.put, List.setIfInBounds_toArray, List.set_cons_zero, List.set_cons_succ]
            refine wpAnyH_done (by kernel_rfl) ?_ _
            refine NoPanic.normal ?_
            have E8 : EntAt w8 xb 24 { Ent.zero with id := pId pb } := entAt_splice h8.out
            have s8 : xb < w8.heap.size := (Array.getElem?_eq_some_iff.1 E8).1
            have hB8 := hHeld.1
            have HQ1 : Hid (num4 ((pb.drop 32).take 4) 0 = num4 pb 32) := Lib.hid (by rw [num4_take _ (by omega), num4_drop])
            have HQ2 : Hid (num4 ((pb.drop 36).take 4) 0 = num4 pb 36) := Lib.hid (by rw [num4_take _ (by omega), num4_drop])
            have HQL : Hid (∀ a, a + 4 ≤ 41 → ((pb.drop a).take 4).length = 4) := Lib.hid (fun a ha => by rw [List.length_take, List.length_drop, hpl]; omega)
            obtain ⟨na, hna⟩ : ∃ na : I64, na = (pE pb).arr := ⟨_, rfl⟩
            obtain ⟨nd, hnd⟩ : ∃ nd : I64, nd = (pE pb).dat := ⟨_, rfl⟩
            have HNA : Hid ((num4 pb 32 : Int) = na.1) := Lib.hid (by rw [hna]; rfl)
            have HND : Hid ((num4 pb 36 : Int) = nd.1) := Lib.hid (by rw [hnd]; rfl)
            have HNAE := Lib.hid hna
            have HNDE := Lib.hid hnd
            clear hna hnd
            have E8d : EntAt w8.drew xb 24 { Ent.zero with id := pId pb } := E8
            clear hHeld h8 b8 hE0 hsl E7 s7 hB7 HSRC
            go_wp2_with fail
            refine wp_region_noPanic ?_
            refine wp_region_held_drew (S := fun w' => Below xb wr w' ∧ ∃ y, EntAt w' xb 24 y) (by kernel_rfl) (⟨hB8.drew, _, E8⟩) (fun hHeld => ?_)
            refine takeL 0 (v := ?_) rfl (by kernel_rfl) (by kernel_rfl) (by kernel_rfl) (fun _ _ _ h => h) (by rfl) hHeld ?_ ?_
            rotate_left 1
            · intro w2 hSw; go_simp <;> with_reducible rfl
            try simp only [Act.put, List.setIfInBounds_toArray, List.set_cons_zero, List.set_cons_succ]
            refine takeL 1 (v := ?_) rfl (by kernel_rfl) (by kernel_rfl) (by kernel_rfl) (fun _ _ _ h => h) (by rfl) hHeld ?_ ?_
            rotate_left 1
            · intro w2 hSw; go_simp <;> with_reducible rfl
            try simp only [Act.put, List.setIfInBounds_toArray, List.set_cons_zero, List.set_cons_succ]
            refine takeL 3 (v := ?_) rfl (by kernel_rfl) (by kernel_rfl) (by kernel_rfl) (fun _ _ _ h => h) (by rfl) hHeld ?_ ?_
            rotate_left 1
            · intro w2 hSw; go_simp <;> with_reducible rfl
            try simp only [Act.put, List.setIfInBounds_toArray, List.set_cons_zero, List.set_cons_succ]
            refine takeL 7 (v := ?_) rfl (by kernel_rfl) (by kernel_rfl) (by kernel_rfl) (fun _ _ _ h => h) (by rfl) hHeld ?_ ?_
            rotate_left 1
            · intro w2 hSw; go_simp <;> with_reducible rfl
            try simp only [Act.put, List.setIfInBounds_toArray, List.set_cons_zero, List.set_cons_succ]
            refine takeL 8 (v := ?_) rfl (by kernel_rfl) (by kernel_rfl) (by kernel_rfl) (fun _ _ _ h => h) (by rfl) hHeld ?_ ?_
            rotate_left 1
            · intro w2 hSw; go_simp <;> with_reducible rfl
            try simp only [Act.put, List.setIfInBounds_toArray, List.set_cons_zero, List.set_cons_succ]
            refine takeL 10 (v := ?_) rfl (by kernel_rfl) (by kernel_rfl) (by kernel_rfl) (fun _ _ _ h => h) (by rfl) hHeld ?_ ?_
            rotate_left 1
            · intro w2 hSw; go_simp <;> with_reducible rfl
            try simp only [Act.put, List.setIfInBounds_toArray, List.set_cons_zero, List.set_cons_succ]
            refine takeL 2 (v := .int .i64 ((A + 32 : Nat) : Int)) rfl (by kernel_rfl) (by kernel_rfl) (by kernel_rfl) (fun _ _ _ h => h) (by rfl) hHeld ?_ ?_
            · intro w2 hSw; exact by go_simp; rw [IntWalk.i64_in _ (by omega)]
            try simp only [Act.put, List.setIfInBounds_toArray, List.set_cons_zero, List.set_cons_succ]
            refine takeL 4 (v := .int .i64 ((A + 36 : Nat) : Int)) rfl (by kernel_rfl) (by kernel_rfl) (by kernel_rfl) (fun _ _ _ h => h) (by rfl) hHeld ?_ ?_
            · intro w2 hSw; exact by go_simp; rw [IntWalk.i64_in _ (by omega)]
            try simp only [Act.put, List.setIfInBounds_toArray, List.set_cons_zero, List.set_cons_succ]
            refine takeL 5 (v := .slice (some ⟨g, o + A + 32, none⟩) 4 (c - (A + 32))) rfl (by kernel_rfl) (by kernel_rfl) (by kernel_rfl) (fun _ _ _ h => h) (by rfl) hHeld ?_ ?_
            · intro w2 hSw; exact exec_slice3 (.tmp 37) (.tmp 39) (.tmp 41) rfl g o b.length c (A + 32) (A + 36) (o + A + 32) 4 rfl rfl rfl (by omega) (by omega) (by omega) (by omega) (by omega)
            try simp only [Act.put, List.setIfInBounds_toArray, List.set_cons_zero, List.set_cons_succ]
            refine takeL 9 (v := .int .i64 ((A + 36 : Nat) : Int)) rfl (by kernel_rfl) (by kernel_rfl) (by kernel_rfl) (fun _ _ _ h => h) (by rfl) hHeld ?_ ?_
            · intro w2 hSw; exact by go_simp; rw [IntWalk.i64_in _ (by omega)]
            try simp only [Act.put, List.setIfInBounds_toArray, List.set_cons_zero, List.set_cons_succ]
            refine takeL 11 (v := .int .i64 ((A + 40 : Nat) : Int)) rfl (by kernel_rfl) (by kernel_rfl) (by kernel_rfl) (fun _ _ _ h => h) (by rfl) hHeld ?_ ?_
            · intro w2 hSw; exact by go_simp; rw [IntWalk.i64_in _ (by omega)]
            try simp only [Act.put, List.setIfInBounds_toArray, List.set_cons_zero, List.set_cons_succ]
            refine takeL 12 (v := .slice (some ⟨g, o + A + 36, none⟩) 4 (c - (A + 36))) rfl (by kernel_rfl) (by kernel_rfl) (by kernel_rfl) (fun _ _ _ h => h) (by rfl) hHeld ?_ ?_
            · intro w2 hSw; exact exec_slice3 (.tmp 44) (.tmp 46) (.tmp 48) rfl g o b.length c (A + 36) (A + 40) (o + A + 36) 4 rfl rfl rfl (by omega) (by omega) (by omega) (by omega) (by omega)
            try simp only [Act.put, List.setIfInBounds_toArray, List.set_cons_zero, List.set_cons_succ]
            refine heavyL 6 rfl (by kernel_rfl) (fun K hK => ?_)
            go_simp
            refine (rnumber_four ((pb.drop 32).take 4) (HQL.out 32 (by omega)) _ _ _ (HVP.out _ (hBr.trans ((hHeld.1).mono hxw)) 32 4 (by omega))).mono ?_
            rintro e w9 ⟨rfl, b9⟩
            rw [HQ1.out, HNA.out]
            try go_simp
            refine hK.out _ _ (⟨(hHeld.1).trans (b9.mono (by show xb ≤ w8.heap.size; omega)), _, E8d.below b9 s8⟩) (fun hHeld => ?_)
            clear hK K
            try simp only [Act.put, List.setIfInBounds_toArray, List.set_cons_zero, List.set_cons_succ]
            have E9 : EntAt w9 xb 24 { Ent.zero with id := pId pb } := E8d.below b9 s8
            have s9 : xb < w9.heap.size := (Array.getElem?_eq_some_iff.1 E9).1
            refine heavyL 13 rfl (by kernel_rfl) (fun K hK => ?_)
            go_simp
            refine (rnumber_four ((pb.drop 36).take 4) (HQL.out 36 (by omega)) _ _ _ (HVP.out _ (hBr.trans ((hHeld.1).mono hxw)) 36 4 (by omega))).mono ?_
            rintro e w10 ⟨rfl, b10⟩
            rw [HQ2.out, HND.out]
            try go_simp
            refine hK.out _ _ (⟨(hHeld.1).trans (b10.mono (by omega)), _, EntAt.below E9 b10 s9⟩) (fun hHeld => ?_)
            clear hK K
            try simp only [Act.put, List.setIfInBounds_toArray, List.set_cons_zero, List.set_cons_succ]
            have E10 : EntAt w10 xb 24 { Ent.zero with id := pId pb } := EntAt.below E9 b10 s9
            refine takeL 14 (v := ?_) rfl (by kernel_rfl) (by kernel_rfl) (by kernel_rfl) (fun _ _ _ h => h) (by rfl) hHeld ?_ ?_
            rotate_left 1
            · intro w2 hSw; go_simp <;> with_reducible rfl
            try simp only [Act.put, List.setIfInBounds_toArray, List.set_cons_zero, List.set_cons_succ]
            have c32 := E10.cell 32 _ (encE_32 _)
            have f32 : w10.frozen? ⟨xb, 32, none⟩ = false := frozen_of_row _ _ _ _ _ E10
            have E11 := E10.setArr na
            have hB11 := (hHeld.1).setCell (p := ⟨xb, 32, none⟩) (Nat.le_refl _) (.int .i64 na.1)
            refine heavyL 15 rfl (by kernel_rfl) (fun K hK => ?_)
            go_simp
            refine hK.out _ _ (⟨hB11, _, E11⟩) (fun hHeld => ?_)
            clear hK K
            try simp only [Act.put, List.setIfInBounds_toArray, List.set_cons_zero, List.set_cons_succ]
            refine takeL 16 (v := ?_) rfl (by kernel_rfl) (by kernel_rfl) (by kernel_rfl) (fun _ _ _ h => h) (by rfl) hHeld ?_ ?_
            rotate_left 1
            · intro w2 hSw; go_simp <;> with_reducible rfl
            try simp only [Act.put, List.setIfInBounds_toArray, List.set_cons_zero, List.set_cons_succ]
            have c33 := E11.cell 33 _ (encE_33 _)
            have f33 : (w10.setCell ⟨xb, 32, none⟩ (.int .i64 na.1)).frozen? ⟨xb, 33, none⟩ = false := frozen_of_row _ _ _ _ _ E11
            have E12 := E11.setDat nd
            have hB12 := hB11.setCell (p := ⟨xb, 33, none⟩) (Nat.le_refl _) (.int .i64 nd.1)
            refine heavyL 17 rfl (by kernel_rfl) (fun K hK => ?_)
            go_simp
            refine hK.out _ _ (⟨hB12, _, E12⟩) (fun hHeld => ?_)
            clear hK K
            try simp only [Act.put, List.setIfInBounds_toArray, List.set_cons_zero, List.set_cons_succ]
            refine wpAnyH_done (by kernel_rfl) ?_ _
            refine NoPanic.normal ?_
            generalize World.setCell (World.setCell w10 _ _) _ _ = w12 at *
            clear hHeld c32 f32 c33 f33 E11 hB11 E10 E9 E8 E8d s8 s9 b9 b10 hB8
            have s12 : xb < w12.heap.size := (Array.getElem?_eq_some_iff.1 E12).1
            have hc40 := fun W k => HPB.out W k 40 (by omega)
            have hbl := byt_lt pb 40
            obtain ⟨q, hq⟩ : ∃ q : Bool, q = decide (2 ≤ byt pb 40) := ⟨_, rfl⟩
            obtain ⟨bv, hbv⟩ : ∃ bv, bv = byt pb 40 := ⟨_, rfl⟩
            obtain ⟨ns, hns⟩ : ∃ ns : I64, ns = (pE pb).st := ⟨_, rfl⟩
            have hns' : ((bv % 2 : Nat) : Int) = ns.1 := by rw [hns, hbv]; rfl
            have HNS := Lib.hid hns'
            have HNSE := Lib.hid hns
            have HBV := Lib.hid hbv
            rw [← hbv] at hbl hq hc40
            have HQ := Lib.hid hq
            clear hq hns hns' hbv
            have HC40 := Lib.hid hc40
            clear hc40
            go_wp2_with fail
            refine wp_region_noPanic ?_
            refine wp_region_held_drew (S := fun w' => Below xb wr w' ∧ ∃ y, EntAt w' xb 24 y) (by kernel_rfl) (⟨hB12.drew, _, E12⟩) (fun hHeld => ?_)
            have E12d : EntAt w12.drew xb _ _ := E12
            generalize w12.drew = w12 at *
            refine takeL 0 (v := ?_) rfl (by kernel_rfl) (by kernel_rfl) (by kernel_rfl) (fun _ _ _ h => h) (by rfl) hHeld ?_ ?_
            rotate_left 1
            · intro w2 hSw; go_simp <;> with_reducible rfl
            try simp only [Act.put, List.setIfInBounds_toArray, List.set_cons_zero, List.set_cons_succ]
            refine takeL 1 (v := ?_) rfl (by kernel_rfl) (by kernel_rfl) (by kernel_rfl) (fun _ _ _ h => h) (by rfl) hHeld ?_ ?_
            rotate_left 1
            · intro w2 hSw; go_simp <;> with_reducible rfl
            try simp only [Act.put, List.setIfInBounds_toArray, List.set_cons_zero, List.set_cons_succ]
            refine takeL 7 (v := ?_) rfl (by kernel_rfl) (by kernel_rfl) (by kernel_rfl) (fun _ _ _ h => h) (by rfl) hHeld ?_ ?_
            rotate_left 1
            · intro w2 hSw; go_simp <;> with_reducible rfl
            try simp only [Act.put, List.setIfInBounds_toArray, List.set_cons_zero, List.set_cons_succ]
            refine takeL 8 (v := ?_) rfl (by kernel_rfl) (by kernel_rfl) (by kernel_rfl) (fun _ _ _ h => h) (by rfl) hHeld ?_ ?_
            rotate_left 1
            · intro w2 hSw; go_simp <;> with_reducible rfl
            try simp only [Act.put, List.setIfInBounds_toArray, List.set_cons_zero, List.set_cons_succ]
            refine takeL 2 (v := .int .i64 ((A + 40 : Nat) : Int)) rfl (by kernel_rfl) (by kernel_rfl) (by kernel_rfl) (fun _ _ _ h => h) (by rfl) hHeld ?_ ?_
            · intro w2 hSw; exact by go_simp; rw [IntWalk.i64_in _ (by omega)]
            try simp only [Act.put, List.setIfInBounds_toArray, List.set_cons_zero, List.set_cons_succ]
            refine takeL 3 (v := .pointer (some ⟨g, o + (A + 40), none⟩)) rfl (by kernel_rfl) (by kernel_rfl) (by kernel_rfl) (fun _ _ _ h => h) (by rfl) hHeld ?_ ?_
            · intro w2 hSw; exact exec_index8 (.tmp 53) (.tmp 55) rfl g o b.length c (A + 40) rfl rfl (by omega)
            try simp only [Act.put, List.setIfInBounds_toArray, List.set_cons_zero, List.set_cons_succ]
            refine takeL 4 (v := .int .u8 (bv : Int)) rfl (by kernel_rfl) (by kernel_rfl) (by kernel_rfl) (fun _ _ _ h => h) (by rfl) hHeld ?_ ?_
            · intro w2 hSw; exact exec_load8 (.tmp 56) rfl g (o + (A + 40)) bv rfl (by rw [← Nat.add_assoc]; exact HC40.out w2 (hBr.trans ((hSw.1).mono hxw)))
            try simp only [Act.put, List.setIfInBounds_toArray, List.set_cons_zero, List.set_cons_succ]
            refine takeL 9 (v := .int .i64 ((A + 40 : Nat) : Int)) rfl (by kernel_rfl) (by kernel_rfl) (by kernel_rfl) (fun _ _ _ h => h) (by rfl) hHeld ?_ ?_
            · intro w2 hSw; exact by go_simp; rw [IntWalk.i64_in _ (by omega)]
            try simp only [Act.put, List.setIfInBounds_toArray, List.set_cons_zero, List.set_cons_succ]
            refine takeL 10 (v := .pointer (some ⟨g, o + (A + 40), none⟩)) rfl (by kernel_rfl) (by kernel_rfl) (by kernel_rfl) (fun _ _ _ h => h) (by rfl) hHeld ?_ ?_
            · intro w2 hSw; exact exec_index8 (.tmp 60) (.tmp 62) rfl g o b.length c (A + 40) rfl rfl (by omega)
            try simp only [Act.put, List.setIfInBounds_toArray, List.set_cons_zero, List.set_cons_succ]
            refine takeL 11 (v := .int .u8 (bv : Int)) rfl (by kernel_rfl) (by kernel_rfl) (by kernel_rfl) (fun _ _ _ h => h) (by rfl) hHeld ?_ ?_
            · intro w2 hSw; exact exec_load8 (.tmp 63) rfl g (o + (A + 40)) bv rfl (by rw [← Nat.add_assoc]; exact HC40.out w2 (hBr.trans ((hSw.1).mono hxw)))
            try simp only [Act.put, List.setIfInBounds_toArray, List.set_cons_zero, List.set_cons_succ]
            refine takeL 5 (v := .int .i64 (bv : Int)) rfl (by kernel_rfl) (by kernel_rfl) (by kernel_rfl) (fun _ _ _ h => h) (by rfl) hHeld ?_ ?_
            · intro w2 hSw; exact by go_simp; rw [IntWalk.i64_in _ (by omega)]
            try simp only [Act.put, List.setIfInBounds_toArray, List.set_cons_zero, List.set_cons_succ]
            refine takeL 6 (v := .int .i64 ns.1) rfl (by kernel_rfl) (by kernel_rfl) (by kernel_rfl) (fun _ _ _ h => h) (by rfl) hHeld ?_ ?_
            · intro w2 hSw; exact by have h := HNS.out; go_simp; rw [← h]; rfl
            try simp only [Act.put, List.setIfInBounds_toArray, List.set_cons_zero, List.set_cons_succ]
            refine takeL 12 (v := .bool q) rfl (by kernel_rfl) (by kernel_rfl) (by kernel_rfl) (fun _ _ _ h => h) (by rfl) hHeld ?_ ?_
            · intro w2 hSw; exact by have h := HQ.out; go_simp; omega
            try simp only [Act.put, List.setIfInBounds_toArray, List.set_cons_zero, List.set_cons_succ]
            refine takeL 13 (v := ?_) rfl (by kernel_rfl) (by kernel_rfl) (by kernel_rfl) (fun _ _ _ h => h) (by rfl) hHeld ?_ ?_
            rotate_left 1
            · intro w2 hSw; go_simp <;> with_reducible rfl
            try simp only [Act.put, List.setIfInBounds_toArray, List.set_cons_zero, List.set_cons_succ]
            have c34 := E12d.cell 34 _ (encE_34 _)
            have f34 : w12.frozen? ⟨xb, 34, none⟩ = false := frozen_of_row _ _ _ _ _ E12d
            have E13 := E12d.setSta ns
            have hB13 := (hHeld.1).setCell (p := ⟨xb, 34, none⟩) (Nat.le_refl _) (.int .i64 ns.1)
            refine heavyL 14 rfl (by kernel_rfl) (fun K hK => ?_)
            go_simp
            refine hK.out _ _ (⟨hB13, _, E13⟩) (fun hHeld => ?_)
            clear hK K
            try simp only [Act.put, List.setIfInBounds_toArray, List.set_cons_zero, List.set_cons_succ]
            refine takeL 15 (v := ?_) rfl (by kernel_rfl) (by kernel_rfl) (by kernel_rfl) (fun _ _ _ h => h) (by rfl) hHeld ?_ ?_
            rotate_left 1
            · intro w2 hSw; go_simp <;> with_reducible rfl
            try simp only [Act.put, List.setIfInBounds_toArray, List.set_cons_zero, List.set_cons_succ]
            have c35 := E13.cell 35 _ (encE_35 _)
            have f35 : (w12.setCell ⟨xb, 34, none⟩ (.int .i64 ns.1)).frozen? ⟨xb, 35, none⟩ = false := frozen_of_row _ _ _ _ _ E13
            have E14 := E13.setPerm q
            have hB14 := hB13.setCell (p := ⟨xb, 35, none⟩) (Nat.le_refl _) (.bool q)
            refine heavyL 16 rfl (by kernel_rfl) (fun K hK => ?_)
            go_simp
            refine hK.out _ _ (⟨hB14, _, E14⟩) (fun hHeld => ?_)
            clear hK K
            try simp only [Act.put, List.setIfInBounds_toArray, List.set_cons_zero, List.set_cons_succ]
            refine wpAnyH_done (by kernel_rfl) ?_ _
            refine NoPanic.normal ?_
            generalize World.setCell (World.setCell w12 _ _) _ _ = w14 at *
            clear hHeld E12d c34 f34 c35 f35 E13 hB13 E12 hB12
            obtain ⟨x, hx⟩ : ∃ x : Ent, x = { Ent.zero with id := pId pb, arr := na, dat := nd, st := ns, perm := q } := ⟨_, rfl⟩
            rw [← hx] at E14
            have HCK : Hid (chk x = chk (pE pb)) := Lib.hid (by rw [hx]; unfold chk; simp only [HNAE.out, HNDE.out, HNSE.out])
            have HXE : Hid (bv < 4 → x = pE pb) := Lib.hid (fun h => by
              rw [hx, HNAE.out, HNDE.out, HNSE.out, HQ.out, HBV.out]
              rw [HBV.out] at h
              have : decide (2 ≤ byt pb 40) = (pE pb).perm := by show _ = decide (byt pb 40 / 2 % 2 = 1); rw [decide_eq_decide]; omega
              rw [this]; rfl)
            have HOK : Hid (okB pb = (decide (bv < 4) && decide (chk x = 0))) := Lib.hid (by rw [HCK.out, HBV.out]; rfl)
            clear hx
            have hwx : wr.heap.size ≤ xb := Nat.le_of_eq HXB.out
            have s14 : xb < w14.heap.size := (Array.getElem?_eq_some_iff.1 E14).1
            have B14 : Below w.heap.size w w14 := hBr.trans (hB14.mono hxw)
            have HB14 := Lib.hid hB14
            have hsw14 : w.heap.size ≤ w14.heap.size := by omega
            have HO14 : Hid (w14.ownsRow w.heap.size 24 36 u5 acc.length (rcs encE acc)) := Lib.hid (owns_keep HOv.out (grown_of_below (by rw [HXB.out]; exact hB14)) (fun j hj => by cases hj))
            have HSX := Lib.hid (rxLen x)
            have HSI := Lib.hid (idSize22 x.id)
            have HRX : Hid (∀ w', Below w14.heap.size w14 w' → w'.rangeAt xb 0 (encE x)) := Lib.hid (fun w' k => EntAt.range (E14.below k s14))
            have HRI : Hid (∀ w', Below w14.heap.size w14 w' → w'.rangeAt xb 0 (encI x.id)) := Lib.hid (fun w' k => EntAt.idr (E14.below k s14))
            have HE14 := Lib.hid E14
            clear HOv HNAE HNDE HNSE HBV hB14 E14 HQ
            go_wp2_with fail
            have hacl14 := hacl
            obtain ⟨_, ao', c', rfl, _, _, _, hra'⟩ := rows_of_owns encE_len (by decide) HO14.out
            obtain ⟨L, hL⟩ : ∃ L, acc.length = L := ⟨_, rfl⟩
            rw [hL] at HO14 hacl
            rw [hL]
            have HL := Lib.hid hL
            have HRA := Lib.hid hra'
            clear hL hra' hacl14
            by_cases hb4 : bv < 4
            · have HX2 := Lib.hid (HXE.out hb4)
              clear HXE
              by_cases hck : chk x = 0
              · have HOK2 : Hid (okB pb = true) := Lib.hid (by rw [HOK.out, decide_eq_true hb4, decide_eq_true hck]; rfl)
                clear HOK
                by_cases hnil : acc = []
                · have HL0 : Hid (L = 0) := Lib.hid (by rw [← HL.out, hnil]; rfl)
                  have HST : Hid (stepB acc pb = some (acc ++ [x])) := Lib.hid (by unfold stepB; rw [HOK2.out, hnil, HX2.out]; rfl)
                  clear hnil
                  refine wp_region_noPanic ?_
                  refine wp_region_held_drew (S := fun w' => Below w14.heap.size w14 w') (by kernel_rfl) ((Below.refl _ _).drew) (fun hHeld => ?_)
                  refine takeL 0 (v := ?_) rfl (by kernel_rfl) (by kernel_rfl) (by kernel_rfl) (fun _ _ _ h => h) (by rfl) hHeld ?_ ?_
                  rotate_left 1
                  · intro w2 hSw; go_simp <;> with_reducible rfl
                  try simp only [Act.put, List.setIfInBounds_toArray, List.set_cons_zero, List.set_cons_succ]
                  refine takeL 1 (v := ?_) rfl (by kernel_rfl) (by kernel_rfl) (by kernel_rfl) (fun _ _ _ h => h) (by rfl) hHeld ?_ ?_
                  rotate_left 1
                  · intro w2 hSw; go_simp <;> with_reducible rfl
                  try simp only [Act.put, List.setIfInBounds_toArray, List.set_cons_zero, List.set_cons_succ]
                  refine takeL 2 (v := .int .i64 ((A + 40 : Nat) : Int)) rfl (by kernel_rfl) (by kernel_rfl) (by kernel_rfl) (fun _ _ _ h => h) (by rfl) hHeld ?_ ?_
                  · intro w2 hSw; exact by go_simp; rw [IntWalk.i64_in _ (by omega)]
                  try simp only [Act.put, List.setIfInBounds_toArray, List.set_cons_zero, List.set_cons_succ]
                  refine takeL 3 (v := .pointer (some ⟨g, o + (A + 40), none⟩)) rfl (by kernel_rfl) (by kernel_rfl) (by kernel_rfl) (fun _ _ _ h => h) (by rfl) hHeld ?_ ?_
                  · intro w2 hSw; exact exec_index8 (.tmp 68) (.tmp 70) rfl g o b.length c (A + 40) rfl rfl (by omega)
                  try simp only [Act.put, List.setIfInBounds_toArray, List.set_cons_zero, List.set_cons_succ]
                  refine takeL 4 (v := .int .u8 (bv : Int)) rfl (by kernel_rfl) (by kernel_rfl) (by kernel_rfl) (fun _ _ _ h => h) (by rfl) hHeld ?_ ?_
                  · intro w2 hSw; exact exec_load8 (.tmp 71) rfl g (o + (A + 40)) bv rfl (by rw [← Nat.add_assoc]; exact HC40.out w2 (B14.trans (hSw.mono hsw14)))
                  try simp only [Act.put, List.setIfInBounds_toArray, List.set_cons_zero, List.set_cons_succ]
                  refine takeL 5 (v := .bool false) rfl (by kernel_rfl) (by kernel_rfl) (by kernel_rfl) (fun _ _ _ h => h) (by rfl) hHeld ?_ ?_
                  · intro w2 hSw; exact by go_simp; try omega
                  try simp only [Act.put, List.setIfInBounds_toArray, List.set_cons_zero, List.set_cons_succ]
                  refine takeL 6 (v := ?_) rfl (by kernel_rfl) (by kernel_rfl) (by kernel_rfl) (fun _ _ _ h => h) (by rfl) hHeld ?_ ?_
                  rotate_left 1
                  · intro w2 hSw; go_simp <;> with_reducible rfl
                  try simp only [Act.put, List.setIfInBounds_toArray, List.set_cons_zero, List.set_cons_succ]
                  refine takeRow 7 rfl (by kernel_rfl) (by kernel_rfl) (by kernel_rfl) 24 (.tmp 7) rfl (xb) (0) rfl (encE x) _ (fun _ _ _ h => h) (by rfl) hHeld HRX.out Try.underlying24 rfl HSX.out ?_
                  try simp only [Act.put, List.setIfInBounds_toArray, List.set_cons_zero, List.set_cons_succ]
                  refine heavyL 8 rfl (by kernel_rfl) (fun K hK => ?_)
                  go_simp
                  refine (rcheck_any x _).mono ?_
                  rintro e wc ⟨rfl, bc⟩
                  try unfold encX
                  try go_simp
                  refine hK.out _ _ (hHeld.trans (bc.mono hHeld.size)) (fun hHeld => ?_)
                  clear hK K
                  try simp only [Act.put, List.setIfInBounds_toArray, List.set_cons_zero, List.set_cons_succ]
                  refine takeL 9 (v := .bool false) rfl (by kernel_rfl) (by kernel_rfl) (by kernel_rfl) (fun _ _ _ h => h) (by rfl) hHeld ?_ ?_
                  · intro w2 hSw; exact by go_simp
                  try simp only [Act.put, List.setIfInBounds_toArray, List.set_cons_zero, List.set_cons_succ]
                  refine takeL 10 (v := ?_) rfl (by kernel_rfl) (by kernel_rfl) (by kernel_rfl) (fun _ _ _ h => h) (by rfl) hHeld ?_ ?_
                  rotate_left 1
                  · intro w2 hSw; go_simp <;> with_reducible rfl
                  try simp only [Act.put, List.setIfInBounds_toArray, List.set_cons_zero, List.set_cons_succ]
                  refine takeL 11 (v := ?_) rfl (by kernel_rfl) (by kernel_rfl) (by kernel_rfl) (fun _ _ _ h => h) (by rfl) hHeld ?_ ?_
                  rotate_left 1
                  · intro w2 hSw; go_simp <;> with_reducible rfl
                  try simp only [Act.put, List.setIfInBounds_toArray, List.set_cons_zero, List.set_cons_succ]
                  refine takeL 12 (v := ?_) rfl (by kernel_rfl) (by kernel_rfl) (by kernel_rfl) (fun _ _ _ h => h) (by rfl) hHeld ?_ ?_
                  rotate_left 1
                  · intro w2 hSw; go_simp <;> with_reducible rfl
                  try simp only [Act.put, List.setIfInBounds_toArray, List.set_cons_zero, List.set_cons_succ]
                  refine takeL 13 (v := ?_) rfl (by kernel_rfl) (by kernel_rfl) (by kernel_rfl) (fun _ _ _ h => h) (by rfl) hHeld ?_ ?_
                  rotate_left 1
                  · intro w2 hSw; go_simp <;> with_reducible rfl
                  try simp only [Act.put, List.setIfInBounds_toArray, List.set_cons_zero, List.set_cons_succ]
                  refine takeL 14 (v := .bool false) rfl (by kernel_rfl) (by kernel_rfl) (by kernel_rfl) (fun _ _ _ h => h) (by rfl) hHeld ?_ ?_
                  · intro w2 hSw; exact by have h := HL0.out; go_simp
                  try simp only [Act.put, List.setIfInBounds_toArray, List.set_cons_zero, List.set_cons_succ]
                  refine takeL 15 (v := ?_) rfl (by kernel_rfl) (by kernel_rfl) (by kernel_rfl) (fun _ _ _ h => h) (by rfl) hHeld ?_ ?_
                  rotate_left 1
                  · intro w2 hSw; go_simp <;> with_reducible rfl
                  try simp only [Act.put, List.setIfInBounds_toArray, List.set_cons_zero, List.set_cons_succ]
                  refine skipL 16 rfl (by kernel_rfl) (by kernel_rfl) (by kernel_rfl) (fun _ _ _ h => h) (by rfl) hHeld ?_
                  try simp only [Act.put, List.setIfInBounds_toArray, List.set_cons_zero, List.set_cons_succ]
                  refine skipL 17 rfl (by kernel_rfl) (by kernel_rfl) (by kernel_rfl) (fun _ _ _ h => h) (by rfl) hHeld ?_
                  try simp only [Act.put, List.setIfInBounds_toArray, List.set_cons_zero, List.set_cons_succ]
                  refine skipL 18 rfl (by kernel_rfl) (by kernel_rfl) (by kernel_rfl) (fun _ _ _ h => h) (by rfl) hHeld ?_
                  try simp only [Act.put, List.setIfInBounds_toArray, List.set_cons_zero, List.set_cons_succ]
                  refine skipL 19 rfl (by kernel_rfl) (by kernel_rfl) (by kernel_rfl) (fun _ _ _ h => h) (by rfl) hHeld ?_
                  try simp only [Act.put, List.setIfInBounds_toArray, List.set_cons_zero, List.set_cons_succ]
                  refine skipL 20 rfl (by kernel_rfl) (by kernel_rfl) (by kernel_rfl) (fun _ _ _ h => h) (by rfl) hHeld ?_
                  try simp only [Act.put, List.setIfInBounds_toArray, List.set_cons_zero, List.set_cons_succ]
                  refine skipL 21 rfl (by kernel_rfl) (by kernel_rfl) (by kernel_rfl) (fun _ _ _ h => h) (by rfl) hHeld ?_
                  try simp only [Act.put, List.setIfInBounds_toArray, List.set_cons_zero, List.set_cons_succ]
                  refine skipL 22 rfl (by kernel_rfl) (by kernel_rfl) (by kernel_rfl) (fun _ _ _ h => h) (by rfl) hHeld ?_
                  try simp only [Act.put, List.setIfInBounds_toArray, List.set_cons_zero, List.set_cons_succ]
                  refine skipL 23 rfl (by kernel_rfl) (by kernel_rfl) (by kernel_rfl) (fun _ _ _ h => h) (by rfl) hHeld ?_
                  try simp only [Act.put, List.setIfInBounds_toArray, List.set_cons_zero, List.set_cons_succ]
                  refine skipL 24 rfl (by kernel_rfl) (by kernel_rfl) (by kernel_rfl) (fun _ _ _ h => h) (by rfl) hHeld ?_
                  try simp only [Act.put, List.setIfInBounds_toArray, List.set_cons_zero, List.set_cons_succ]
                  refine skipL 25 rfl (by kernel_rfl) (by kernel_rfl) (by kernel_rfl) (fun _ _ _ h => h) (by rfl) hHeld ?_
                  try simp only [Act.put, List.setIfInBounds_toArray, List.set_cons_zero, List.set_cons_succ]
                  refine skipL 26 rfl (by kernel_rfl) (by kernel_rfl) (by kernel_rfl) (fun _ _ _ h => h) (by rfl) hHeld ?_
                  try simp only [Act.put, List.setIfInBounds_toArray, List.set_cons_zero, List.set_cons_succ]
                  refine takeL 27 (v := ?_) rfl (by kernel_rfl) (by kernel_rfl) (by kernel_rfl) (fun _ _ _ h => h) (by rfl) hHeld ?_ ?_
                  rotate_left 1
                  · intro w2 hSw; go_simp <;> with_reducible rfl
                  try simp only [Act.put, List.setIfInBounds_toArray, List.set_cons_zero, List.set_cons_succ]
                  refine takeL 28 (v := ?_) rfl (by kernel_rfl) (by kernel_rfl) (by kernel_rfl) (fun _ _ _ h => h) (by rfl) hHeld ?_ ?_
                  rotate_left 1
                  · intro w2 hSw; go_simp <;> with_reducible rfl
                  try simp only [Act.put, List.setIfInBounds_toArray, List.set_cons_zero, List.set_cons_succ]
                  refine wpAnyH_done (by kernel_rfl) ?_ _
                  refine NoPanic.normal ?_
                  clear HL0 hb4 hck HOK2 HX2
                  have hBE := B14.trans (hHeld.mono hsw14)
                  have hsE := hBE.size
                  have HOE := Lib.hid (owns_keep HO14.out (grown_of_below hHeld) (fun j hj => by cases hj))
                  have HXR := Lib.hid (HRX.out _ hHeld)
                  clear hHeld HO14 HRX HRA B14 HC40 HCK HE14 HVP HPB HB14
                  go_wp2_with (first
                    | (refine wpList_load_mid (by rfl) 24 (.tmp 7) (by rfl) xb 0 (by rfl) (encE x) _ HXR.out Try.underlying24 rfl HSX.out ?_)
                    | (refine wpList_build1 (by rfl) 36 24 (.tmp 98) (by rfl) (encE x) (by rfl) i0 _ Try.underlying36 HI.out hz0 (by rw [hz1, encE_len]) (by rw [encE_len]; omega) (by rw [encE_len]; omega) ?_)
                    | (at_builtin; refine wpList_append_own_at _ rfl (.tmp 97) (.tmp 99) 36 (by rfl) w.heap.size 24 i0 _ 36 64 Try.underlying36 HI.out hz0 hz1 hz2 (by simp [encX, Value.cells, encE_len]) (by decide) _ _ _ (by rfl) (HOE.out.alloc _) ⟨(wc).heap.size, 0, none⟩ 1 1 (encE x) (by rfl) (by rw [encE_len]) (news_of_block0 (heap_alloc_new wc _)) (encE_one x) (by unfold maxLen; omega) (by omega) (Nat.le_trans hsE (by simp)) ?_))
                  intro v6 w6 ov6 g6 _ _
                  have hob := HOE.out.lt
                  have HO6 : Hid (w6.ownsRow w.heap.size 24 36 v6 (acc ++ [x]).length (rcs encE (acc ++ [x]))) := Lib.hid (by rw [show rcs encE (acc ++ [x]) = rcs encE acc ++ encE x from rcs_snoc _ _, List.length_append, HL.out]; exact ov6)
                  have hB6 := (hBE.alloc hsE (.cells (encE x).toArray 24 (0, 0))).grown g6 (Nat.le_trans hsE (by simp)) (fun j hj => (hob j hj).1)
                  clear ov6 g6 hob HXR
                  go_wp2
                  go_roundw
                  case rel => exact ⟨i + 1, acc ++ [x], by omega, congrArg (Value.int .i64) (by have := HA.out; omega), Lib.hid (HFS.out.trans HST.out), HO6, hB6⟩
                  case measure => have := HA.out; simp [intOf]; omega
                · have hpl : 0 < acc.length := by cases acc with | nil => exact absurd rfl hnil | cons a r => simp
                  obtain ⟨K, hK⟩ : ∃ K, L = K + 1 := ⟨L - 1, by rw [← HL.out]; omega⟩
                  have hKl : K < acc.length := by rw [HL.out]; omega
                  have hlast : acc.getLast? = some acc[K] := by
                    rw [List.getLast?_eq_getElem?, HL.out, hK, Nat.add_sub_cancel, List.getElem?_eq_getElem hKl]
                  obtain ⟨g1, o1, rfl, hg1, hr1⟩ := HRA.out.at hKl
                  obtain ⟨y, hy⟩ : ∃ y, y = acc[K] := ⟨_, rfl⟩
                  rw [← hy] at hlast hr1
                  have HRY : Hid (∀ w', Below w14.heap.size w14 w' → w'.rangeAt g1 (o1 + K * 36) (encI y.id)) := Lib.hid (fun w' k => range_id (rangeAt_below hr1 k hg1))
                  have HSY := Lib.hid (idSize22 y.id)
                  have HST : Hid (stepB acc pb = if ltI y.id x.id then some (acc ++ [x]) else none) := Lib.hid (by unfold stepB; rw [HOK2.out, hlast, HX2.out]; rfl)
                  have HK := Lib.hid hK
                  have hKL : K < L := by omega
                  have hK0 : K + 1 ≤ 1000 := by omega
                  clear hy hr1 hlast hnil hpl hK
                  refine wp_region_noPanic ?_
                  refine wp_region_held_drew (S := fun w' => Below w14.heap.size w14 w') (by kernel_rfl) ((Below.refl _ _).drew) (fun hHeld => ?_)
                  refine takeL 0 (v := ?_) rfl (by kernel_rfl) (by kernel_rfl) (by kernel_rfl) (fun _ _ _ h => h) (by rfl) hHeld ?_ ?_
                  rotate_left 1
                  · intro w2 hSw; go_simp <;> with_reducible rfl
                  try simp only [Act.put, List.setIfInBounds_toArray, List.set_cons_zero, List.set_cons_succ]
                  refine takeL 1 (v := ?_) rfl (by kernel_rfl) (by kernel_rfl) (by kernel_rfl) (fun _ _ _ h => h) (by rfl) hHeld ?_ ?_
                  rotate_left 1
                  · intro w2 hSw; go_simp <;> with_reducible rfl
                  try simp only [Act.put, List.setIfInBounds_toArray, List.set_cons_zero, List.set_cons_succ]
                  refine takeL 2 (v := .int .i64 ((A + 40 : Nat) : Int)) rfl (by kernel_rfl) (by kernel_rfl) (by kernel_rfl) (fun _ _ _ h => h) (by rfl) hHeld ?_ ?_
                  · intro w2 hSw; exact by go_simp; rw [IntWalk.i64_in _ (by omega)]
                  try simp only [Act.put, List.setIfInBounds_toArray, List.set_cons_zero, List.set_cons_succ]
                  refine takeL 3 (v := .pointer (some ⟨g, o + (A + 40), none⟩)) rfl (by kernel_rfl) (by kernel_rfl) (by kernel_rfl) (fun _ _ _ h => h) (by rfl) hHeld ?_ ?_
                  · intro w2 hSw; exact exec_index8 (.tmp 68) (.tmp 70) rfl g o b.length c (A + 40) rfl rfl (by omega)
                  try simp only [Act.put, List.setIfInBounds_toArray, List.set_cons_zero, List.set_cons_succ]
                  refine takeL 4 (v := .int .u8 (bv : Int)) rfl (by kernel_rfl) (by kernel_rfl) (by kernel_rfl) (fun _ _ _ h => h) (by rfl) hHeld ?_ ?_
                  · intro w2 hSw; exact exec_load8 (.tmp 71) rfl g (o + (A + 40)) bv rfl (by rw [← Nat.add_assoc]; exact HC40.out w2 (B14.trans (hSw.mono hsw14)))
                  try simp only [Act.put, List.setIfInBounds_toArray, List.set_cons_zero, List.set_cons_succ]
                  refine takeL 5 (v := .bool false) rfl (by kernel_rfl) (by kernel_rfl) (by kernel_rfl) (fun _ _ _ h => h) (by rfl) hHeld ?_ ?_
                  · intro w2 hSw; exact by go_simp; try omega
                  try simp only [Act.put, List.setIfInBounds_toArray, List.set_cons_zero, List.set_cons_succ]
                  refine takeL 6 (v := ?_) rfl (by kernel_rfl) (by kernel_rfl) (by kernel_rfl) (fun _ _ _ h => h) (by rfl) hHeld ?_ ?_
                  rotate_left 1
                  · intro w2 hSw; go_simp <;> with_reducible rfl
                  try simp only [Act.put, List.setIfInBounds_toArray, List.set_cons_zero, List.set_cons_succ]
                  refine takeRow 7 rfl (by kernel_rfl) (by kernel_rfl) (by kernel_rfl) 24 (.tmp 7) rfl (xb) (0) rfl (encE x) _ (fun _ _ _ h => h) (by rfl) hHeld HRX.out Try.underlying24 rfl HSX.out ?_
                  try simp only [Act.put, List.setIfInBounds_toArray, List.set_cons_zero, List.set_cons_succ]
                  refine heavyL 8 rfl (by kernel_rfl) (fun K hK => ?_)
                  go_simp
                  refine (rcheck_any x _).mono ?_
                  rintro e wc ⟨rfl, bc⟩
                  try unfold encX
                  try go_simp
                  refine hK.out _ _ (hHeld.trans (bc.mono hHeld.size)) (fun hHeld => ?_)
                  clear hK K
                  try simp only [Act.put, List.setIfInBounds_toArray, List.set_cons_zero, List.set_cons_succ]
                  refine takeL 9 (v := .bool false) rfl (by kernel_rfl) (by kernel_rfl) (by kernel_rfl) (fun _ _ _ h => h) (by rfl) hHeld ?_ ?_
                  · intro w2 hSw; exact by go_simp
                  try simp only [Act.put, List.setIfInBounds_toArray, List.set_cons_zero, List.set_cons_succ]
                  refine takeL 10 (v := ?_) rfl (by kernel_rfl) (by kernel_rfl) (by kernel_rfl) (fun _ _ _ h => h) (by rfl) hHeld ?_ ?_
                  rotate_left 1
                  · intro w2 hSw; go_simp <;> with_reducible rfl
                  try simp only [Act.put, List.setIfInBounds_toArray, List.set_cons_zero, List.set_cons_succ]
                  refine takeL 11 (v := ?_) rfl (by kernel_rfl) (by kernel_rfl) (by kernel_rfl) (fun _ _ _ h => h) (by rfl) hHeld ?_ ?_
                  rotate_left 1
                  · intro w2 hSw; go_simp <;> with_reducible rfl
                  try simp only [Act.put, List.setIfInBounds_toArray, List.set_cons_zero, List.set_cons_succ]
                  refine takeL 12 (v := ?_) rfl (by kernel_rfl) (by kernel_rfl) (by kernel_rfl) (fun _ _ _ h => h) (by rfl) hHeld ?_ ?_
                  rotate_left 1
                  · intro w2 hSw; go_simp <;> with_reducible rfl
                  try simp only [Act.put, List.setIfInBounds_toArray, List.set_cons_zero, List.set_cons_succ]
                  refine takeL 13 (v := ?_) rfl (by kernel_rfl) (by kernel_rfl) (by kernel_rfl) (fun _ _ _ h => h) (by rfl) hHeld ?_ ?_
                  rotate_left 1
                  · intro w2 hSw; go_simp <;> with_reducible rfl
                  try simp only [Act.put, List.setIfInBounds_toArray, List.set_cons_zero, List.set_cons_succ]
                  refine takeL 14 (v := .bool true) rfl (by kernel_rfl) (by kernel_rfl) (by kernel_rfl) (fun _ _ _ h => h) (by rfl) hHeld ?_ ?_
                  · intro w2 hSw; exact by go_simp; omega
                  try simp only [Act.put, List.setIfInBounds_toArray, List.set_cons_zero, List.set_cons_succ]
                  refine takeL 15 (v := ?_) rfl (by kernel_rfl) (by kernel_rfl) (by kernel_rfl) (fun _ _ _ h => h) (by rfl) hHeld ?_ ?_
                  rotate_left 1
                  · intro w2 hSw; go_simp <;> with_reducible rfl
                  try simp only [Act.put, List.setIfInBounds_toArray, List.set_cons_zero, List.set_cons_succ]
                  refine takeL 16 (v := ?_) rfl (by kernel_rfl) (by kernel_rfl) (by kernel_rfl) (fun _ _ _ h => h) (by rfl) hHeld ?_ ?_
                  rotate_left 1
                  · intro w2 hSw; go_simp <;> with_reducible rfl
                  try simp only [Act.put, List.setIfInBounds_toArray, List.set_cons_zero, List.set_cons_succ]
                  refine takeL 17 (v := ?_) rfl (by kernel_rfl) (by kernel_rfl) (by kernel_rfl) (fun _ _ _ h => h) (by rfl) hHeld ?_ ?_
                  rotate_left 1
                  · intro w2 hSw; go_simp <;> with_reducible rfl
                  try simp only [Act.put, List.setIfInBounds_toArray, List.set_cons_zero, List.set_cons_succ]
                  refine takeL 18 (v := ?_) rfl (by kernel_rfl) (by kernel_rfl) (by kernel_rfl) (fun _ _ _ h => h) (by rfl) hHeld ?_ ?_
                  rotate_left 1
                  · intro w2 hSw; go_simp <;> with_reducible rfl
                  try simp only [Act.put, List.setIfInBounds_toArray, List.set_cons_zero, List.set_cons_succ]
                  refine takeL 19 (v := .int .i64 (K : Int)) rfl (by kernel_rfl) (by kernel_rfl) (by kernel_rfl) (fun _ _ _ h => h) (by rfl) hHeld ?_ ?_
                  · intro w2 hSw; exact by have h := HK.out; go_simp; rw [IntWalk.i64_in _ (by omega)]; try (congr 2; omega)
                  try simp only [Act.put, List.setIfInBounds_toArray, List.set_cons_zero, List.set_cons_succ]
                  refine takeL 20 (v := .pointer (some ⟨g1, o1 + K * 36, none⟩)) rfl (by kernel_rfl) (by kernel_rfl) (by kernel_rfl) (fun _ _ _ h => h) (by rfl) hHeld ?_ ?_
                  · intro w2 hSw; exact exec_indexX (.tmp 84) (.tmp 87) rfl g1 o1 L c' K rfl rfl hKL
                  try simp only [Act.put, List.setIfInBounds_toArray, List.set_cons_zero, List.set_cons_succ]
                  refine takeL 21 (v := ?_) rfl (by kernel_rfl) (by kernel_rfl) (by kernel_rfl) (fun _ _ _ h => h) (by rfl) hHeld ?_ ?_
                  rotate_left 1
                  · intro w2 hSw; go_simp <;> with_reducible rfl
                  try simp only [Act.put, List.setIfInBounds_toArray, List.set_cons_zero, List.set_cons_succ]
                  refine takeRow 22 rfl (by kernel_rfl) (by kernel_rfl) (by kernel_rfl) 22 (.tmp 89) rfl (g1) (o1 + K * 36) rfl (encI y.id) _ (fun _ _ _ h => h) (by rfl) hHeld HRY.out Try.underlying22 rfl HSY.out ?_
                  try simp only [Act.put, List.setIfInBounds_toArray, List.set_cons_zero, List.set_cons_succ]
                  refine takeL 23 (v := ?_) rfl (by kernel_rfl) (by kernel_rfl) (by kernel_rfl) (fun _ _ _ h => h) (by rfl) hHeld ?_ ?_
                  rotate_left 1
                  · intro w2 hSw; go_simp <;> with_reducible rfl
                  try simp only [Act.put, List.setIfInBounds_toArray, List.set_cons_zero, List.set_cons_succ]
                  refine takeRow 24 rfl (by kernel_rfl) (by kernel_rfl) (by kernel_rfl) 22 (.tmp 91) rfl (xb) (0) rfl (encI x.id) _ (fun _ _ _ h => h) (by rfl) hHeld HRI.out Try.underlying22 rfl HSI.out ?_
                  try simp only [Act.put, List.setIfInBounds_toArray, List.set_cons_zero, List.set_cons_succ]
                  refine heavyL 25 rfl (by kernel_rfl) (fun K hK => ?_)
                  go_simp
                  refine (before_any y.id x.id _).mono ?_
                  rintro e wf ⟨rfl, bf⟩
                  try go_simp
                  refine hK.out _ _ (hHeld.trans (bf.mono hHeld.size)) (fun hHeld => ?_)
                  clear hK K
                  try simp only [Act.put, List.setIfInBounds_toArray, List.set_cons_zero, List.set_cons_succ]
                  refine takeL 26 (v := ?_) rfl (by kernel_rfl) (by kernel_rfl) (by kernel_rfl) (fun _ _ _ h => h) (by rfl) hHeld ?_ ?_
                  rotate_left 1
                  · intro w2 hSw; go_simp <;> with_reducible rfl
                  try simp only [Act.put, List.setIfInBounds_toArray, List.set_cons_zero, List.set_cons_succ]
                  refine takeL 27 (v := ?_) rfl (by kernel_rfl) (by kernel_rfl) (by kernel_rfl) (fun _ _ _ h => h) (by rfl) hHeld ?_ ?_
                  rotate_left 1
                  · intro w2 hSw; go_simp <;> with_reducible rfl
                  try simp only [Act.put, List.setIfInBounds_toArray, List.set_cons_zero, List.set_cons_succ]
                  refine takeL 28 (v := ?_) rfl (by kernel_rfl) (by kernel_rfl) (by kernel_rfl) (fun _ _ _ h => h) (by rfl) hHeld ?_ ?_
                  rotate_left 1
                  · intro w2 hSw; go_simp <;> with_reducible rfl
                  try simp only [Act.put, List.setIfInBounds_toArray, List.set_cons_zero, List.set_cons_succ]
                  refine wpAnyH_done (by kernel_rfl) ?_ _
                  refine NoPanic.normal ?_
                  clear hb4 hck HOK2 HX2 HRY HRI hKL hK0 HK HSY
                  cases hlt : ltI y.id x.id with
                  | true =>
                    rw [hlt] at HST
                    clear hlt
                    have hBE := B14.trans (hHeld.mono hsw14)
                    have hsE := hBE.size
                    have HOE := Lib.hid (owns_keep HO14.out (grown_of_below hHeld) (fun j hj => by cases hj))
                    have HXR := Lib.hid (HRX.out _ hHeld)
                    clear hHeld HO14 HRX HRA B14 HC40 HCK HE14 HVP HPB HB14
                    go_wp2_with (first
                      | (refine wpList_load_mid (by rfl) 24 (.tmp 7) (by rfl) xb 0 (by rfl) (encE x) _ HXR.out Try.underlying24 rfl HSX.out ?_)
                      | (refine wpList_build1 (by rfl) 36 24 (.tmp 98) (by rfl) (encE x) (by rfl) i0 _ Try.underlying36 HI.out hz0 (by rw [hz1, encE_len]) (by rw [encE_len]; omega) (by rw [encE_len]; omega) ?_)
                      | (at_builtin; refine wpList_append_own_at _ rfl (.tmp 97) (.tmp 99) 36 (by rfl) w.heap.size 24 i0 _ 36 64 Try.underlying36 HI.out hz0 hz1 hz2 (by simp [encX, Value.cells, encE_len]) (by decide) _ _ _ (by rfl) (HOE.out.alloc _) ⟨(wf).heap.size, 0, none⟩ 1 1 (encE x) (by rfl) (by rw [encE_len]) (news_of_block0 (heap_alloc_new wf _)) (encE_one x) (by unfold maxLen; omega) (by omega) (Nat.le_trans hsE (by simp)) ?_))
                    intro v6 w6 ov6 g6 _ _
                    have hob := HOE.out.lt
                    have HO6 : Hid (w6.ownsRow w.heap.size 24 36 v6 (acc ++ [x]).length (rcs encE (acc ++ [x]))) := Lib.hid (by rw [show rcs encE (acc ++ [x]) = rcs encE acc ++ encE x from rcs_snoc _ _, List.length_append, HL.out]; exact ov6)
                    have hB6 := (hBE.alloc hsE (.cells (encE x).toArray 24 (0, 0))).grown g6 (Nat.le_trans hsE (by simp)) (fun j hj => (hob j hj).1)
                    clear ov6 g6 hob HXR
                    go_wp2
                    go_roundw
                    case rel => exact ⟨i + 1, acc ++ [x], by omega, congrArg (Value.int .i64) (by have := HA.out; omega), Lib.hid (HFS.out.trans HST.out), HO6, hB6⟩
                    case measure => have := HA.out; simp [intOf]; omega
                  | false =>
                    rw [hlt] at HST
                    clear hlt
                    have hBE := B14.trans (hHeld.mono hsw14)
                    clear hHeld HO14 HRX HC40 HCK HE14 HVP HPB HB14
                    go_wp2
                    refine bodyPost_ret (results_tmp3 rfl _ _ _) rfl ?_
                    exact RDecPost.err (HDN.out (foldB_none b (i + 1) n (HFS.out.trans HST.out) (by omega))) hBE
              · have HST : Hid (stepB acc pb = none) := Lib.hid (by unfold stepB; rw [HOK.out, decide_eq_false hck, Bool.and_false, Bool.false_and]; rfl)
                clear HOK HRA
                refine wp_region_noPanic ?_
                refine wp_region_held_drew (S := fun w' => Below w14.heap.size w14 w') (by kernel_rfl) ((Below.refl _ _).drew) (fun hHeld => ?_)
                refine takeL 0 (v := ?_) rfl (by kernel_rfl) (by kernel_rfl) (by kernel_rfl) (fun _ _ _ h => h) (by rfl) hHeld ?_ ?_
                rotate_left 1
                · intro w2 hSw; go_simp <;> with_reducible rfl
                try simp only [Act.put, List.setIfInBounds_toArray, List.set_cons_zero, List.set_cons_succ]
                refine takeL 1 (v := ?_) rfl (by kernel_rfl) (by kernel_rfl) (by kernel_rfl) (fun _ _ _ h => h) (by rfl) hHeld ?_ ?_
                rotate_left 1
                · intro w2 hSw; go_simp <;> with_reducible rfl
                try simp only [Act.put, List.setIfInBounds_toArray, List.set_cons_zero, List.set_cons_succ]
                refine takeL 2 (v := .int .i64 ((A + 40 : Nat) : Int)) rfl (by kernel_rfl) (by kernel_rfl) (by kernel_rfl) (fun _ _ _ h => h) (by rfl) hHeld ?_ ?_
                · intro w2 hSw; exact by go_simp; rw [IntWalk.i64_in _ (by omega)]
                try simp only [Act.put, List.setIfInBounds_toArray, List.set_cons_zero, List.set_cons_succ]
                refine takeL 3 (v := .pointer (some ⟨g, o + (A + 40), none⟩)) rfl (by kernel_rfl) (by kernel_rfl) (by kernel_rfl) (fun _ _ _ h => h) (by rfl) hHeld ?_ ?_
                · intro w2 hSw; exact exec_index8 (.tmp 68) (.tmp 70) rfl g o b.length c (A + 40) rfl rfl (by omega)
                try simp only [Act.put, List.setIfInBounds_toArray, List.set_cons_zero, List.set_cons_succ]
                refine takeL 4 (v := .int .u8 (bv : Int)) rfl (by kernel_rfl) (by kernel_rfl) (by kernel_rfl) (fun _ _ _ h => h) (by rfl) hHeld ?_ ?_
                · intro w2 hSw; exact exec_load8 (.tmp 71) rfl g (o + (A + 40)) bv rfl (by rw [← Nat.add_assoc]; exact HC40.out w2 (B14.trans (hSw.mono hsw14)))
                try simp only [Act.put, List.setIfInBounds_toArray, List.set_cons_zero, List.set_cons_succ]
                refine takeL 5 (v := .bool false) rfl (by kernel_rfl) (by kernel_rfl) (by kernel_rfl) (fun _ _ _ h => h) (by rfl) hHeld ?_ ?_
                · intro w2 hSw; exact by go_simp; try omega
                try simp only [Act.put, List.setIfInBounds_toArray, List.set_cons_zero, List.set_cons_succ]
                refine takeL 6 (v := ?_) rfl (by kernel_rfl) (by kernel_rfl) (by kernel_rfl) (fun _ _ _ h => h) (by rfl) hHeld ?_ ?_
                rotate_left 1
                · intro w2 hSw; go_simp <;> with_reducible rfl
                try simp only [Act.put, List.setIfInBounds_toArray, List.set_cons_zero, List.set_cons_succ]
                refine takeRow 7 rfl (by kernel_rfl) (by kernel_rfl) (by kernel_rfl) 24 (.tmp 7) rfl (xb) (0) rfl (encE x) _ (fun _ _ _ h => h) (by rfl) hHeld HRX.out Try.underlying24 rfl HSX.out ?_
                try simp only [Act.put, List.setIfInBounds_toArray, List.set_cons_zero, List.set_cons_succ]
                refine heavyL 8 rfl (by kernel_rfl) (fun K hK => ?_)
                go_simp
                refine (rcheck_any x _).mono ?_
                rintro e wc ⟨rfl, bc⟩
                try unfold encX
                try go_simp
                refine hK.out _ _ (hHeld.trans (bc.mono hHeld.size)) (fun hHeld => ?_)
                clear hK K
                try simp only [Act.put, List.setIfInBounds_toArray, List.set_cons_zero, List.set_cons_succ]
                refine takeL 9 (v := .bool true) rfl (by kernel_rfl) (by kernel_rfl) (by kernel_rfl) (fun _ _ _ h => h) (by rfl) hHeld ?_ ?_
                · intro w2 hSw; exact by go_simp
                try simp only [Act.put, List.setIfInBounds_toArray, List.set_cons_zero, List.set_cons_succ]
                refine takeL 10 (v := ?_) rfl (by kernel_rfl) (by kernel_rfl) (by kernel_rfl) (fun _ _ _ h => h) (by rfl) hHeld ?_ ?_
                rotate_left 1
                · intro w2 hSw; go_simp <;> with_reducible rfl
                try simp only [Act.put, List.setIfInBounds_toArray, List.set_cons_zero, List.set_cons_succ]
                refine takeL 11 (v := ?_) rfl (by kernel_rfl) (by kernel_rfl) (by kernel_rfl) (fun _ _ _ h => h) (by rfl) hHeld ?_ ?_
                rotate_left 1
                · intro w2 hSw; go_simp <;> with_reducible rfl
                try simp only [Act.put, List.setIfInBounds_toArray, List.set_cons_zero, List.set_cons_succ]
                refine skipL 12 rfl (by kernel_rfl) (by kernel_rfl) (by kernel_rfl) (fun _ _ _ h => h) (by rfl) hHeld ?_
                try simp only [Act.put, List.setIfInBounds_toArray, List.set_cons_zero, List.set_cons_succ]
                refine skipL 13 rfl (by kernel_rfl) (by kernel_rfl) (by kernel_rfl) (fun _ _ _ h => h) (by rfl) hHeld ?_
                try simp only [Act.put, List.setIfInBounds_toArray, List.set_cons_zero, List.set_cons_succ]
                refine skipL 14 rfl (by kernel_rfl) (by kernel_rfl) (by kernel_rfl) (fun _ _ _ h => h) (by rfl) hHeld ?_
                try simp only [Act.put, List.setIfInBounds_toArray, List.set_cons_zero, List.set_cons_succ]
                refine skipL 15 rfl (by kernel_rfl) (by kernel_rfl) (by kernel_rfl) (fun _ _ _ h => h) (by rfl) hHeld ?_
                try simp only [Act.put, List.setIfInBounds_toArray, List.set_cons_zero, List.set_cons_succ]
                refine skipL 16 rfl (by kernel_rfl) (by kernel_rfl) (by kernel_rfl) (fun _ _ _ h => h) (by rfl) hHeld ?_
                try simp only [Act.put, List.setIfInBounds_toArray, List.set_cons_zero, List.set_cons_succ]
                refine skipL 17 rfl (by kernel_rfl) (by kernel_rfl) (by kernel_rfl) (fun _ _ _ h => h) (by rfl) hHeld ?_
                try simp only [Act.put, List.setIfInBounds_toArray, List.set_cons_zero, List.set_cons_succ]
                refine skipL 18 rfl (by kernel_rfl) (by kernel_rfl) (by kernel_rfl) (fun _ _ _ h => h) (by rfl) hHeld ?_
                try simp only [Act.put, List.setIfInBounds_toArray, List.set_cons_zero, List.set_cons_succ]
                refine skipL 19 rfl (by kernel_rfl) (by kernel_rfl) (by kernel_rfl) (fun _ _ _ h => h) (by rfl) hHeld ?_
                try simp only [Act.put, List.setIfInBounds_toArray, List.set_cons_zero, List.set_cons_succ]
                refine skipL 20 rfl (by kernel_rfl) (by kernel_rfl) (by kernel_rfl) (fun _ _ _ h => h) (by rfl) hHeld ?_
                try simp only [Act.put, List.setIfInBounds_toArray, List.set_cons_zero, List.set_cons_succ]
                refine skipL 21 rfl (by kernel_rfl) (by kernel_rfl) (by kernel_rfl) (fun _ _ _ h => h) (by rfl) hHeld ?_
                try simp only [Act.put, List.setIfInBounds_toArray, List.set_cons_zero, List.set_cons_succ]
                refine skipL 22 rfl (by kernel_rfl) (by kernel_rfl) (by kernel_rfl) (fun _ _ _ h => h) (by rfl) hHeld ?_
                try simp only [Act.put, List.setIfInBounds_toArray, List.set_cons_zero, List.set_cons_succ]
                refine skipL 23 rfl (by kernel_rfl) (by kernel_rfl) (by kernel_rfl) (fun _ _ _ h => h) (by rfl) hHeld ?_
                try simp only [Act.put, List.setIfInBounds_toArray, List.set_cons_zero, List.set_cons_succ]
                refine skipL 24 rfl (by kernel_rfl) (by kernel_rfl) (by kernel_rfl) (fun _ _ _ h => h) (by rfl) hHeld ?_
                try simp only [Act.put, List.setIfInBounds_toArray, List.set_cons_zero, List.set_cons_succ]
                refine skipL 25 rfl (by kernel_rfl) (by kernel_rfl) (by kernel_rfl) (fun _ _ _ h => h) (by rfl) hHeld ?_
                try simp only [Act.put, List.setIfInBounds_toArray, List.set_cons_zero, List.set_cons_succ]
                refine skipL 26 rfl (by kernel_rfl) (by kernel_rfl) (by kernel_rfl) (fun _ _ _ h => h) (by rfl) hHeld ?_
                try simp only [Act.put, List.setIfInBounds_toArray, List.set_cons_zero, List.set_cons_succ]
                refine skipL 27 rfl (by kernel_rfl) (by kernel_rfl) (by kernel_rfl) (fun _ _ _ h => h) (by rfl) hHeld ?_
                try simp only [Act.put, List.setIfInBounds_toArray, List.set_cons_zero, List.set_cons_succ]
                refine takeL 28 (v := ?_) rfl (by kernel_rfl) (by kernel_rfl) (by kernel_rfl) (fun _ _ _ h => h) (by rfl) hHeld ?_ ?_
                rotate_left 1
                · intro w2 hSw; go_simp <;> with_reducible rfl
                try simp only [Act.put, List.setIfInBounds_toArray, List.set_cons_zero, List.set_cons_succ]
                refine wpAnyH_done (by kernel_rfl) ?_ _
                refine NoPanic.normal ?_
                clear hck hb4
                have hBE := B14.trans (hHeld.mono hsw14)
                clear hHeld HO14 HRX HC40 HCK HE14 HVP HPB HB14
                go_wp2
                refine bodyPost_ret (results_tmp3 rfl _ _ _) rfl ?_
                exact RDecPost.err (HDN.out (foldB_none b (i + 1) n (HFS.out.trans HST.out) (by omega))) hBE
            · have HST : Hid (stepB acc pb = none) := Lib.hid (by unfold stepB; rw [HOK.out, decide_eq_false hb4, Bool.false_and, Bool.false_and]; rfl)
              clear HOK HXE HRA
              refine wp_region_noPanic ?_
              refine wp_region_held_drew (S := fun w' => Below w14.heap.size w14 w') (by kernel_rfl) ((Below.refl _ _).drew) (fun hHeld => ?_)
              refine takeL 0 (v := ?_) rfl (by kernel_rfl) (by kernel_rfl) (by kernel_rfl) (fun _ _ _ h => h) (by rfl) hHeld ?_ ?_
              rotate_left 1
              · intro w2 hSw; go_simp <;> with_reducible rfl
              try simp only [Act.put, List.setIfInBounds_toArray, List.set_cons_zero, List.set_cons_succ]
              refine takeL 1 (v := ?_) rfl (by kernel_rfl) (by kernel_rfl) (by kernel_rfl) (fun _ _ _ h => h) (by rfl) hHeld ?_ ?_
              rotate_left 1
              · intro w2 hSw; go_simp <;> with_reducible rfl
              try simp only [Act.put, List.setIfInBounds_toArray, List.set_cons_zero, List.set_cons_succ]
              refine takeL 2 (v := .int .i64 ((A + 40 : Nat) : Int)) rfl (by kernel_rfl) (by kernel_rfl) (by kernel_rfl) (fun _ _ _ h => h) (by rfl) hHeld ?_ ?_
              · intro w2 hSw; exact by go_simp; rw [IntWalk.i64_in _ (by omega)]
              try simp only [Act.put, List.setIfInBounds_toArray, List.set_cons_zero, List.set_cons_succ]
              refine takeL 3 (v := .pointer (some ⟨g, o + (A + 40), none⟩)) rfl (by kernel_rfl) (by kernel_rfl) (by kernel_rfl) (fun _ _ _ h => h) (by rfl) hHeld ?_ ?_
              · intro w2 hSw; exact exec_index8 (.tmp 68) (.tmp 70) rfl g o b.length c (A + 40) rfl rfl (by omega)
              try simp only [Act.put, List.setIfInBounds_toArray, List.set_cons_zero, List.set_cons_succ]
              refine takeL 4 (v := .int .u8 (bv : Int)) rfl (by kernel_rfl) (by kernel_rfl) (by kernel_rfl) (fun _ _ _ h => h) (by rfl) hHeld ?_ ?_
              · intro w2 hSw; exact exec_load8 (.tmp 71) rfl g (o + (A + 40)) bv rfl (by rw [← Nat.add_assoc]; exact HC40.out w2 (B14.trans (hSw.mono hsw14)))
              try simp only [Act.put, List.setIfInBounds_toArray, List.set_cons_zero, List.set_cons_succ]
              refine takeL 5 (v := .bool true) rfl (by kernel_rfl) (by kernel_rfl) (by kernel_rfl) (fun _ _ _ h => h) (by rfl) hHeld ?_ ?_
              · intro w2 hSw; exact by go_simp; try omega
              try simp only [Act.put, List.setIfInBounds_toArray, List.set_cons_zero, List.set_cons_succ]
              refine takeL 6 (v := ?_) rfl (by kernel_rfl) (by kernel_rfl) (by kernel_rfl) (fun _ _ _ h => h) (by rfl) hHeld ?_ ?_
              rotate_left 1
              · intro w2 hSw; go_simp <;> with_reducible rfl
              try simp only [Act.put, List.setIfInBounds_toArray, List.set_cons_zero, List.set_cons_succ]
              refine skipL 7 rfl (by kernel_rfl) (by kernel_rfl) (by kernel_rfl) (fun _ _ _ h => h) (by rfl) hHeld ?_
              try simp only [Act.put, List.setIfInBounds_toArray, List.set_cons_zero, List.set_cons_succ]
              refine skipL 8 rfl (by kernel_rfl) (by kernel_rfl) (by kernel_rfl) (fun _ _ _ h => h) (by rfl) hHeld ?_
              try simp only [Act.put, List.setIfInBounds_toArray, List.set_cons_zero, List.set_cons_succ]
              refine skipL 9 rfl (by kernel_rfl) (by kernel_rfl) (by kernel_rfl) (fun _ _ _ h => h) (by rfl) hHeld ?_
              try simp only [Act.put, List.setIfInBounds_toArray, List.set_cons_zero, List.set_cons_succ]
              refine takeL 10 (v := ?_) rfl (by kernel_rfl) (by kernel_rfl) (by kernel_rfl) (fun _ _ _ h => h) (by rfl) hHeld ?_ ?_
              rotate_left 1
              · intro w2 hSw; go_simp <;> with_reducible rfl
              try simp only [Act.put, List.setIfInBounds_toArray, List.set_cons_zero, List.set_cons_succ]
              refine takeL 11 (v := ?_) rfl (by kernel_rfl) (by kernel_rfl) (by kernel_rfl) (fun _ _ _ h => h) (by rfl) hHeld ?_ ?_
              rotate_left 1
              · intro w2 hSw; go_simp <;> with_reducible rfl
              try simp only [Act.put, List.setIfInBounds_toArray, List.set_cons_zero, List.set_cons_succ]
              refine skipL 12 rfl (by kernel_rfl) (by kernel_rfl) (by kernel_rfl) (fun _ _ _ h => h) (by rfl) hHeld ?_
              try simp only [Act.put, List.setIfInBounds_toArray, List.set_cons_zero, List.set_cons_succ]
              refine skipL 13 rfl (by kernel_rfl) (by kernel_rfl) (by kernel_rfl) (fun _ _ _ h => h) (by rfl) hHeld ?_
              try simp only [Act.put, List.setIfInBounds_toArray, List.set_cons_zero, List.set_cons_succ]
              refine skipL 14 rfl (by kernel_rfl) (by kernel_rfl) (by kernel_rfl) (fun _ _ _ h => h) (by rfl) hHeld ?_
              try simp only [Act.put, List.setIfInBounds_toArray, List.set_cons_zero, List.set_cons_succ]
              refine skipL 15 rfl (by kernel_rfl) (by kernel_rfl) (by kernel_rfl) (fun _ _ _ h => h) (by rfl) hHeld ?_
              try simp only [Act.put, List.setIfInBounds_toArray, List.set_cons_zero, List.set_cons_succ]
              refine skipL 16 rfl (by kernel_rfl) (by kernel_rfl) (by kernel_rfl) (fun _ _ _ h => h) (by rfl) hHeld ?_
              try simp only [Act.put, List.setIfInBounds_toArray, List.set_cons_zero, List.set_cons_succ]
              refine skipL 17 rfl (by kernel_rfl) (by kernel_rfl) (by kernel_rfl) (fun _ _ _ h => h) (by rfl) hHeld ?_
              try simp only [Act.put, List.setIfInBounds_toArray, List.set_cons_zero, List.set_cons_succ]
              refine skipL 18 rfl (by kernel_rfl) (by kernel_rfl) (by kernel_rfl) (fun _ _ _ h => h) (by rfl) hHeld ?_
              try simp only [Act.put, List.setIfInBounds_toArray, List.set_cons_zero, List.set_cons_succ]
              refine skipL 19 rfl (by kernel_rfl) (by kernel_rfl) (by kernel_rfl) (fun _ _ _ h => h) (by rfl) hHeld ?_
              try simp only [Act.put, List.setIfInBounds_toArray, List.set_cons_zero, List.set_cons_succ]
              refine skipL 20 rfl (by kernel_rfl) (by kernel_rfl) (by kernel_rfl) (fun _ _ _ h => h) (by rfl) hHeld ?_
              try simp only [Act.put, List.setIfInBounds_toArray, List.set_cons_zero, List.set_cons_succ]
              refine skipL 21 rfl (by kernel_rfl) (by kernel_rfl) (by kernel_rfl) (fun _ _ _ h => h) (by rfl) hHeld ?_
              try simp only [Act.put, List.setIfInBounds_toArray, List.set_cons_zero, List.set_cons_succ]
              refine skipL 22 rfl (by kernel_rfl) (by kernel_rfl) (by kernel_rfl) (fun _ _ _ h => h) (by rfl) hHeld ?_
              try simp only [Act.put, List.setIfInBounds_toArray, List.set_cons_zero, List.set_cons_succ]
              refine skipL 23 rfl (by kernel_rfl) (by kernel_rfl) (by kernel_rfl) (fun _ _ _ h => h) (by rfl) hHeld ?_
              try simp only [Act.put, List.setIfInBounds_toArray, List.set_cons_zero, List.set_cons_succ]
              refine skipL 24 rfl (by kernel_rfl) (by kernel_rfl) (by kernel_rfl) (fun _ _ _ h => h) (by rfl) hHeld ?_
              try simp only [Act.put, List.setIfInBounds_toArray, List.set_cons_zero, List.set_cons_succ]
              refine skipL 25 rfl (by kernel_rfl) (by kernel_rfl) (by kernel_rfl) (fun _ _ _ h => h) (by rfl) hHeld ?_
              try simp only [Act.put, List.setIfInBounds_toArray, List.set_cons_zero, List.set_cons_succ]
              refine skipL 26 rfl (by kernel_rfl) (by kernel_rfl) (by kernel_rfl) (fun _ _ _ h => h) (by rfl) hHeld ?_
              try simp only [Act.put, List.setIfInBounds_toArray, List.set_cons_zero, List.set_cons_succ]
              refine skipL 27 rfl (by kernel_rfl) (by kernel_rfl) (by kernel_rfl) (fun _ _ _ h => h) (by rfl) hHeld ?_
              try simp only [Act.put, List.setIfInBounds_toArray, List.set_cons_zero, List.set_cons_succ]
              refine takeL 28 (v := ?_) rfl (by kernel_rfl) (by kernel_rfl) (by kernel_rfl) (fun _ _ _ h => h) (by rfl) hHeld ?_ ?_
              rotate_left 1
              · intro w2 hSw; go_simp <;> with_reducible rfl
              try simp only [Act.put, List.setIfInBounds_toArray, List.set_cons_zero, List.set_cons_succ]
              refine wpAnyH_done (by kernel_rfl) ?_ _
              refine NoPanic.normal ?_
              clear hb4
              have hBE := B14.trans (hHeld.mono hsw14)
              clear hHeld HO14 HRX HC40 HCK HE14 HVP HPB HB14
              go_wp2
              refine bodyPost_ret (results_tmp3 rfl _ _ _) rfl ?_
              exact RDecPost.err (HDN.out (foldB_none b (i + 1) n (HFS.out.trans HST.out) (by omega))) hBE
          · have hie : i = n := by omega
            have hlti : ¬ (A : Int) < (b.length : Int) := by have := HLN.out; omega
            subst hie
            go_wp2_with fail
            refine (rnumber_any b (by have := HLN.out; omega) (by omega) (some ⟨g, o, none⟩) c wr ((HV.out.below hBr (Nat.le_refl _)).mono hsr)).mono ?_
            rintro e w9 ⟨rfl, b9⟩
            go_wp2
            refine bodyPost_ret (results_tmp3 rfl _ _ _) rfl ?_
            exact RDecPost.ok (HDC.out _ HF.out) (hBr.trans (b9.mono hsr)) (owns_keep HOv.out (grown_of_below b9) (fun j hj => by cases hj))
    · have hd : Hid (decB b = none) := Lib.hid (by unfold decB; rw [if_pos (.inr (.inl hm))])
      have hmi : ((b.length : Int) % 41 != 4) = true := by simp; omega
      go_enter Try.func32, Try.ntmps32
      go_wp2
      refine bodyPost_ret (results_tmp3 rfl _ _ _) rfl ?_
      exact RDecPost.err hd.out (Below.refl _ _)
end Go.Proofs.Ytblidphaolgilaa
