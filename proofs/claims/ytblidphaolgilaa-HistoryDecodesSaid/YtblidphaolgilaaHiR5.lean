/- History: the reference's Forget. -/
import Derived.Test.YtblidphaolgilaaHiR4
namespace Go.Proofs.Ytblidphaolgilaa
open Go.RowKit Go.Maps
set_option linter.unusedSimpArgs false

def goesM (now : Int) (x : Ent) : Bool := minB now && goesE now x
theorem forgR_eq (l : List Ent) (now : Int) : forgR l now = l.filter fun x => !goesM now x := by
  unfold forgR goesM
  cases minB now
  · simp only [Bool.false_and, Bool.not_false]; exact (List.filter_eq_self.2 (fun _ _ => rfl)).symm
  · simp
theorem forgO_eq (l : List Ent) (now : Int) : forgO l now = (l.filter (goesM now)).map (·.id) := by
  unfold forgO
  have e : goesM now = fun x => minB now && goesE now x := rfl
  rw [e]
  cases minB now <;> simp
theorem info22 : (Try.prog.info? 22).map (fun i => (i.zero, i.size, i.bytes)) = some (some (.agg (Array.replicate 32 (.int .u8 0))), 32, 32) := by kernel_rfl
theorem filt_t {l : List Ent} {i : Nat} (h : i < l.length) (p : Ent → Bool) (hp : p l[i] = true) : (l.take (i + 1)).filter p = (l.take i).filter p ++ [l[i]] := by
  rw [List.take_succ_eq_append_getElem h, List.filter_append, List.filter_cons_of_pos hp]; rfl
theorem filt_f {l : List Ent} {i : Nat} (h : i < l.length) (p : Ent → Bool) (hp : p l[i] = false) : (l.take (i + 1)).filter p = (l.take i).filter p := by
  rw [List.take_succ_eq_append_getElem h, List.filter_append, List.filter_cons_of_neg (by simp [hp]), List.filter_nil, List.append_nil]
/-- two rows of the call's own lie apart -/
def Apart (u v : Value) : Prop := ∀ j, u.ownBlock = some j → v.ownBlock ≠ some j
def cutF (cut now : Int) (g : List Ent) : Int := if g = [] then cut else max cut now
theorem cutF_snoc (cut now : Int) (gl : List Ent) (x : Ent) : max (cutF cut now gl) now = cutF cut now (gl ++ [x]) := by
  unfold cutF
  rw [if_neg (by simp : ¬ gl ++ [x] = [])]
  split <;> omega
theorem apart_kept {w w' : World} {B n s : Nat} {e : TypeId} {u v : Value} {xs : List Value} (h : w.ownsRow B e s u n xs) (hg : w.grownBy w' v.ownBlock) (ha : Apart u v) : w'.ownsRow B e s u n xs :=
  h.kept hg (by
    cases hu : u.ownBlock with
    | none => exact .inl rfl
    | some j => exact .inr (fun e => ha j hu e.symm))
theorem apart_new {w0 : World} {B n s m : Nat} {e : TypeId} {u v v' : Value} {xs : List Value} (h : w0.ownsRow B e s u n xs) (ha : Apart u v) (hl : v'.ownBlock = v.ownBlock ∨ v'.ownBlock = some m) (hs : w0.heap.size ≤ m) : Apart u v' := fun j hj e => by
  rcases hl with h1 | h1
  · exact ha j hj (h1 ▸ e)
  · rw [h1] at e
    have := (h.lt j hj).2
    cases e; omega
theorem Apart.symm {u v : Value} (h : Apart u v) : Apart v u := fun j hj e => h j e hj
set_option maxRecDepth 100000 in
set_option maxHeartbeats 4000000 in
theorem rforget_any (l : List Ent) (cut now : Int) (hl : l.length ≤ 1000) (v : Value) (w : World) (hv : RowsArg encE 36 v l w) :
    Calls Try.prog 43 #[v, .int .i64 cut, .int .i64 now] w fun e w' => ∃ v1 v2, e = .returned (.tuple #[v1, .int .i64 (forgC l cut now), v2]) ∧ RowsArg encE 36 v1 (forgR l now) w' ∧ RowsArg encI 32 v2 (forgO l now) w' ∧ Below w.heap.size w w' := by
  obtain ⟨ao, c, rfl, hlc, hcm, hn, hr⟩ := hv
  have e3 : forgC l cut now = cutF cut now (l.filter (goesM now)) := by unfold forgC cutF; rw [forgO_eq]; simp
  rw [e3, forgR_eq, forgO_eq]
  obtain ⟨i0, hif, hz0, hz1, hz2⟩ := info_parts infoX
  have HI := Lib.hid hif
  obtain ⟨j0, hjf, hy0, hy1, hy2⟩ := info_parts info22
  have HJ := Lib.hid hjf
  have HR := Lib.hid hr
  clear hr hif hjf e3 hn
  go_enter Try.func43, Try.ntmps43
  go_wp2_with fail
  go_loopw [1, 9, 10, 11] (fun cv rv ov iv wr => ∃ (i : Nat) (cu : Int), i ≤ l.length ∧ iv = .int .i64 (i : Int) ∧ cv = .int .i64 cu ∧ Hid (cu = cutF cut now ((l.take i).filter (goesM now))) ∧
      Hid (wr.ownsRow w.heap.size 24 36 rv ((l.take i).filter fun x => !goesM now x).length (ecs ((l.take i).filter fun x => !goesM now x))) ∧
      Hid (wr.ownsRow w.heap.size 22 32 ov ((l.take i).filter (goesM now)).length (rcs encI (((l.take i).filter (goesM now)).map (·.id)))) ∧ Hid (Apart rv ov) ∧ Below w.heap.size w wr)
    (fun _ _ _ iv _ => (l.length - intOf iv).toNat)
  case atStart => exact ⟨0, cut, Nat.zero_le _, rfl, rfl, Lib.hid rfl, Lib.hid (World.ownsRow_nil _ _ _ _), Lib.hid (World.ownsRow_nil _ _ _ _), Lib.hid (fun j hj => by cases hj), Below.refl _ _⟩
  case round =>
    obtain ⟨i, cu, hil, rfl, rfl, HCU, HA, HO, HAP, hB⟩ := hrel
    by_cases hlt : i < l.length
    · have hlti : (i : Int) < (l.length : Int) := by omega
      obtain ⟨g, o, rfl, hg, hrx⟩ := HR.out.at hlt
      have hrw := rangeAt_below hrx hB hg
      have c33 := hrw 33 _ (encE_33 l[i])
      have c34 := hrw 34 _ (encE_34 l[i])
      have c35 := hrw 35 _ (encE_35 l[i])
      have HRX := Lib.hid hrw
      have hsz := hB.size
      have hfl := List.length_filter_le (fun x => !goesM now x) (l.take i)
      have hfl2 := List.length_filter_le (goesM now) (l.take i)
      have htl := List.length_take_le i l
      clear hrx hrw
      cases hgo : goesM now l[i] with
      | true =>
        have F1 := Lib.hid (filt_t hlt (goesM now) hgo)
        have F2 := Lib.hid (filt_f hlt (fun x => !goesM now x) (by simp [hgo]))
        obtain ⟨hmn, hst, hpm, hob⟩ : minB now = true ∧ l[i].st.1 = 1 ∧ l[i].perm = false ∧ oldB l[i].dat.1 now = true := by
          unfold goesM goesE at hgo; simpa [and_assoc] using hgo
        obtain ⟨hn0, hn1⟩ : 0 ≤ now ∧ now ≤ 105190559 := by unfold minB at hmn; simpa using hmn
        have HOD := Lib.hid (fun w => rold_any l[i].dat.1 now (by omega) (by omega) w)
        rw [hst] at c34
        rw [hpm] at c35
        have HSI := Lib.hid (idSize22 l[i].id)
        have HRI := Lib.hid (rangeE_id HRX.out)
        clear hst hpm hgo
        generalize l[i] = x at *
        have hkm : ((l.take i).filter (goesM now)).length + 1 ≤ maxLen := by unfold maxLen; omega
        have hkb : (((l.take i).filter (goesM now)).length + 1) * 32 ≤ 140737488355328 := by omega
        generalize hgl : (l.take i).filter (goesM now) = gl at *
        have HGL := Lib.hid hgl
        clear hfl hfl2 htl hgl
        go_wp2_with (first
          | (go_at_call 40; refine (rminute_any _ _).mono ?_; rintro e w' ⟨rfl, rfl⟩; rw [hmn])
          | (go_at_call 46; refine (HOD.out _).mono ?_; rintro e w' ⟨rfl, rfl⟩; rw [hob])
          | (refine wpList_load_mid (by rfl) 22 (.tmp 49) (by rfl) g (o + i * 36) (by rfl) (encI x.id) _ HRI.out Try.underlying22 rfl HSI.out ?_)
          | (refine wpList_build1 (by rfl) 81 22 (.tmp 50) (by rfl) (encI x.id) (by rfl) j0 _ Try.underlying81 HJ.out hy0 (by rw [hy1, encI_len]) (by rw [encI_len]; omega) (by rw [encI_len]; omega) ?_)
          | (at_builtin; refine wpList_append_own_at _ rfl (.tmp 45) (.tmp 51) 81 (by rfl) w.heap.size 22 j0 _ 32 32 Try.underlying81 HJ.out hy0 hy1 hy2 (by simp [Value.cells]) (by decide) _ _ _ (by rfl) (HO.out.alloc _) ⟨wr.heap.size, 0, none⟩ 1 1 (encI x.id) (by rfl) (by rw [encI_len]) (news_of_block0 (heap_alloc_new wr _)) (encI_one x.id) hkm hkb (by simp; omega) ?_))
        intro v' wA hA gA _ hloc
        have hA2 : wA.ownsRow w.heap.size 22 32 v' (gl ++ [x]).length (rcs encI ((gl ++ [x]).map (·.id))) := by
          rw [List.map_append, List.length_append]; simpa [rcs] using hA
        have hB' := (hB.alloc hsz (.cells (encI x.id).toArray 22 (0, 0))).grown gA (by simp; omega) (fun j hj => (HO.out.lt j hj).1)
        have HA2 := Lib.hid (apart_kept (HA.out.alloc (.cells (encI x.id).toArray 22 (0, 0))) gA HAP.out)
        have HAP2 := Lib.hid (apart_new HA.out HAP.out hloc (by omega))
        have HO2 := Lib.hid hA2
        have HCU2 : Hid (max cu now = cutF cut now (gl ++ [x])) := Lib.hid (by rw [HCU.out]; exact cutF_snoc cut now gl x)
        clear hA hA2 gA hloc HO HA HAP HCU hB c33 c34 c35
        go_wp2
        go_roundw
        case rel => exact ⟨i + 1, max cu now, by omega, by go_num, rfl, Lib.hid (by rw [F1.out]; exact HCU2.out), Lib.hid (by rw [F2.out]; exact HA2.out), Lib.hid (by rw [F1.out]; exact HO2.out), HAP2, hB'⟩
        case measure => simp [intOf]; omega
      | false =>
        have F1 := Lib.hid (filt_f hlt (goesM now) hgo)
        have F2 := Lib.hid (filt_t hlt (fun x => !goesM now x) (by simp [hgo]))
        have HXL := Lib.hid (rxLen l[i])
        have hkm : ((l.take i).filter (fun x => !goesM now x)).length + 1 ≤ maxLen := by unfold maxLen; omega
        have hkb : (((l.take i).filter (fun x => !goesM now x)).length + 1) * 64 ≤ 140737488355328 := by omega
        have hmn' : minB now = true → 0 ≤ now ∧ now ≤ 105190559 := fun h => by unfold minB at h; simpa using h
        have HGO := Lib.hid hgo
        clear hgo
        generalize l[i] = x at *
        generalize hrl : (l.take i).filter (fun x => !goesM now x) = rl at *
        have HRL := Lib.hid hrl
        clear hfl hfl2 htl hrl
        cases hmn : minB now with
        | false =>
          clear hmn'
          go_wp2_with (first
            | (go_at_call 40; refine (rminute_any _ _).mono ?_; rintro e w' ⟨rfl, rfl⟩; rw [hmn])
            | (go_at_call 46; refine (HOD.out _).mono ?_; rintro e w' ⟨rfl, rfl⟩; rw [hob])
            | (refine wpList_load_mid (by rfl) 24 (.tmp 59) (by rfl) g (o + i * 36) (by rfl) (encE x) _ HRX.out Try.underlying24 rfl HXL.out ?_)
            | (refine wpList_build1 (by rfl) 36 24 (.tmp 60) (by rfl) (encE x) (by rfl) i0 _ Try.underlying36 HI.out hz0 (by rw [hz1, encE_len]) (by rw [encE_len]; omega) (by rw [encE_len]; omega) ?_)
            | (at_builtin; refine wpList_append_own_at _ rfl (.tmp 56) (.tmp 61) 36 (by rfl) w.heap.size 24 i0 _ 36 64 Try.underlying36 HI.out hz0 hz1 hz2 (by simp [encX, Value.cells, encE_len]) (by decide) _ _ _ (by rfl) (HA.out.alloc _) ⟨wr.heap.size, 0, none⟩ 1 1 (encE x) (by rfl) (by rw [encE_len]) (news_of_block0 (heap_alloc_new wr _)) (encE_one x) hkm hkb (by simp; omega) ?_))
          intro v' wA hA gA _ hloc
          have hA2 : wA.ownsRow w.heap.size 24 36 v' (rl ++ [x]).length (ecs (rl ++ [x])) := by
            rw [List.length_append]; simpa [rcs] using hA
          have hB' := (hB.alloc hsz (.cells (encE x).toArray 24 (0, 0))).grown gA (by simp; omega) (fun j hj => (HA.out.lt j hj).1)
          have HO2 := Lib.hid (apart_kept (HO.out.alloc (.cells (encE x).toArray 24 (0, 0))) gA HAP.out.symm)
          have HAP2 := Lib.hid ((apart_new HO.out HAP.out.symm hloc (by omega)).symm)
          have HA2 := Lib.hid hA2
          clear hA hA2 gA hloc HO HA HAP hB c33 c34 c35
          go_wp2
          go_roundw
          case rel => exact ⟨i + 1, cu, by omega, by go_num, rfl, Lib.hid (by rw [F1.out]; exact HCU.out), Lib.hid (by rw [F2.out]; exact HA2.out), Lib.hid (by rw [F1.out]; exact HO2.out), HAP2, hB'⟩
          case measure => simp [intOf]; omega
        | true =>
          obtain ⟨hn0, hn1⟩ := hmn' hmn
          have HOD := Lib.hid (fun w => rold_any x.dat.1 now (by omega) (by omega) w)
          clear hmn'
          by_cases hst : x.st.1 = 1
          · rw [hst] at c34
            cases hpm : x.perm with
            | true =>
              rw [hpm] at c35
              go_wp2_with (first
                | (go_at_call 40; refine (rminute_any _ _).mono ?_; rintro e w' ⟨rfl, rfl⟩; rw [hmn])
                | (go_at_call 46; refine (HOD.out _).mono ?_; rintro e w' ⟨rfl, rfl⟩; rw [hob])
                | (refine wpList_load_mid (by rfl) 24 (.tmp 59) (by rfl) g (o + i * 36) (by rfl) (encE x) _ HRX.out Try.underlying24 rfl HXL.out ?_)
                | (refine wpList_build1 (by rfl) 36 24 (.tmp 60) (by rfl) (encE x) (by rfl) i0 _ Try.underlying36 HI.out hz0 (by rw [hz1, encE_len]) (by rw [encE_len]; omega) (by rw [encE_len]; omega) ?_)
                | (at_builtin; refine wpList_append_own_at _ rfl (.tmp 56) (.tmp 61) 36 (by rfl) w.heap.size 24 i0 _ 36 64 Try.underlying36 HI.out hz0 hz1 hz2 (by simp [encX, Value.cells, encE_len]) (by decide) _ _ _ (by rfl) (HA.out.alloc _) ⟨wr.heap.size, 0, none⟩ 1 1 (encE x) (by rfl) (by rw [encE_len]) (news_of_block0 (heap_alloc_new wr _)) (encE_one x) hkm hkb (by simp; omega) ?_))
              intro v' wA hA gA _ hloc
              have hA2 : wA.ownsRow w.heap.size 24 36 v' (rl ++ [x]).length (ecs (rl ++ [x])) := by
                rw [List.length_append]; simpa [rcs] using hA
              have hB' := (hB.alloc hsz (.cells (encE x).toArray 24 (0, 0))).grown gA (by simp; omega) (fun j hj => (HA.out.lt j hj).1)
              have HO2 := Lib.hid (apart_kept (HO.out.alloc (.cells (encE x).toArray 24 (0, 0))) gA HAP.out.symm)
              have HAP2 := Lib.hid ((apart_new HO.out HAP.out.symm hloc (by omega)).symm)
              have HA2 := Lib.hid hA2
              clear hA hA2 gA hloc HO HA HAP hB c33 c34 c35
              go_wp2
              go_roundw
              case rel => exact ⟨i + 1, cu, by omega, by go_num, rfl, Lib.hid (by rw [F1.out]; exact HCU.out), Lib.hid (by rw [F2.out]; exact HA2.out), Lib.hid (by rw [F1.out]; exact HO2.out), HAP2, hB'⟩
              case measure => simp [intOf]; omega
            | false =>
              rw [hpm] at c35
              have hob : oldB x.dat.1 now = false := by
                have h := HGO.out; unfold goesM goesE at h; rw [hmn, hpm, hst] at h; simpa using h
              go_wp2_with (first
                | (go_at_call 40; refine (rminute_any _ _).mono ?_; rintro e w' ⟨rfl, rfl⟩; rw [hmn])
                | (go_at_call 46; refine (HOD.out _).mono ?_; rintro e w' ⟨rfl, rfl⟩; rw [hob])
                | (refine wpList_load_mid (by rfl) 24 (.tmp 59) (by rfl) g (o + i * 36) (by rfl) (encE x) _ HRX.out Try.underlying24 rfl HXL.out ?_)
                | (refine wpList_build1 (by rfl) 36 24 (.tmp 60) (by rfl) (encE x) (by rfl) i0 _ Try.underlying36 HI.out hz0 (by rw [hz1, encE_len]) (by rw [encE_len]; omega) (by rw [encE_len]; omega) ?_)
                | (at_builtin; refine wpList_append_own_at _ rfl (.tmp 56) (.tmp 61) 36 (by rfl) w.heap.size 24 i0 _ 36 64 Try.underlying36 HI.out hz0 hz1 hz2 (by simp [encX, Value.cells, encE_len]) (by decide) _ _ _ (by rfl) (HA.out.alloc _) ⟨wr.heap.size, 0, none⟩ 1 1 (encE x) (by rfl) (by rw [encE_len]) (news_of_block0 (heap_alloc_new wr _)) (encE_one x) hkm hkb (by simp; omega) ?_))
              intro v' wA hA gA _ hloc
              have hA2 : wA.ownsRow w.heap.size 24 36 v' (rl ++ [x]).length (ecs (rl ++ [x])) := by
                rw [List.length_append]; simpa [rcs] using hA
              have hB' := (hB.alloc hsz (.cells (encE x).toArray 24 (0, 0))).grown gA (by simp; omega) (fun j hj => (HA.out.lt j hj).1)
              have HO2 := Lib.hid (apart_kept (HO.out.alloc (.cells (encE x).toArray 24 (0, 0))) gA HAP.out.symm)
              have HAP2 := Lib.hid ((apart_new HO.out HAP.out.symm hloc (by omega)).symm)
              have HA2 := Lib.hid hA2
              clear hA hA2 gA hloc HO HA HAP hB c33 c34 c35
              go_wp2
              go_roundw
              case rel => exact ⟨i + 1, cu, by omega, by go_num, rfl, Lib.hid (by rw [F1.out]; exact HCU.out), Lib.hid (by rw [F2.out]; exact HA2.out), Lib.hid (by rw [F1.out]; exact HO2.out), HAP2, hB'⟩
              case measure => simp [intOf]; omega
          · skip
            go_wp2_with (first
              | (go_at_call 40; refine (rminute_any _ _).mono ?_; rintro e w' ⟨rfl, rfl⟩; rw [hmn])
              | (go_at_call 46; refine (HOD.out _).mono ?_; rintro e w' ⟨rfl, rfl⟩; rw [hob])
              | (refine wpList_load_mid (by rfl) 24 (.tmp 59) (by rfl) g (o + i * 36) (by rfl) (encE x) _ HRX.out Try.underlying24 rfl HXL.out ?_)
              | (refine wpList_build1 (by rfl) 36 24 (.tmp 60) (by rfl) (encE x) (by rfl) i0 _ Try.underlying36 HI.out hz0 (by rw [hz1, encE_len]) (by rw [encE_len]; omega) (by rw [encE_len]; omega) ?_)
              | (at_builtin; refine wpList_append_own_at _ rfl (.tmp 56) (.tmp 61) 36 (by rfl) w.heap.size 24 i0 _ 36 64 Try.underlying36 HI.out hz0 hz1 hz2 (by simp [encX, Value.cells, encE_len]) (by decide) _ _ _ (by rfl) (HA.out.alloc _) ⟨wr.heap.size, 0, none⟩ 1 1 (encE x) (by rfl) (by rw [encE_len]) (news_of_block0 (heap_alloc_new wr _)) (encE_one x) hkm hkb (by simp; omega) ?_))
            intro v' wA hA gA _ hloc
            have hA2 : wA.ownsRow w.heap.size 24 36 v' (rl ++ [x]).length (ecs (rl ++ [x])) := by
              rw [List.length_append]; simpa [rcs] using hA
            have hB' := (hB.alloc hsz (.cells (encE x).toArray 24 (0, 0))).grown gA (by simp; omega) (fun j hj => (HA.out.lt j hj).1)
            have HO2 := Lib.hid (apart_kept (HO.out.alloc (.cells (encE x).toArray 24 (0, 0))) gA HAP.out.symm)
            have HAP2 := Lib.hid ((apart_new HO.out HAP.out.symm hloc (by omega)).symm)
            have HA2 := Lib.hid hA2
            clear hA hA2 gA hloc HO HA HAP hB c33 c34 c35
            go_wp2
            go_roundw
            case rel => exact ⟨i + 1, cu, by omega, by go_num, rfl, Lib.hid (by rw [F1.out]; exact HCU.out), Lib.hid (by rw [F2.out]; exact HA2.out), Lib.hid (by rw [F1.out]; exact HO2.out), HAP2, hB'⟩
            case measure => simp [intOf]; omega
    · have hlti : ¬ (i : Int) < (l.length : Int) := by omega
      have hil2 : i = l.length := by omega
      have htk : l.take i = l := List.take_of_length_le (by omega)
      rw [htk] at HCU HA HO
      have HA2 := Lib.hid (rows_arg encE_len (by decide) HA.out)
      have HO2 := Lib.hid (rows_arg encI_len (by decide) HO.out)
      clear HA HO HAP htk
      have hcu := HCU.out
      subst hcu
      clear HCU
      go_wp2
      go_ret3
      exact ⟨_, _, rfl, HA2.out, HO2.out, hB⟩
end Go.Proofs.Ytblidphaolgilaa
