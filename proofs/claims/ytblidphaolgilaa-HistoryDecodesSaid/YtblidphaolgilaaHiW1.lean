/- History: minute, old, Check, To, New, of the program and of the reference. -/
import Derived.Test.YtblidphaolgilaaRows
import Derived.Test.YtblidphaolgilaaProg
import Derived.Test.YtblidphaolgilaaHiP
import Derived.Test.YtblidphaolgilaaMapR
import Derived.Test.YtblidphaolgilaaHiT
import Derived.Test.YtblidphaolgilaaRow
import Derived.WalkKit
import Derived.OwnWalk
import Derived.WalkSpells
import Derived.WalkLawsBesides
import Derived.Lib.Hide
import Derived.Outline
namespace Go.Proofs.Ytblidphaolgilaa
open Go.RowKit Go.Maps
set_option linter.unusedSimpArgs false

/-- an entry as a value -/
def encX (x : Ent) : Value := .agg (encE x).toArray
theorem encX_inj (x y : Ent) (h : encX x = encX y) : x = y := by
  unfold encX at h
  refine encE_inj ?_
  injection h with h
  simpa using congrArg Array.toList h
/-- a block holds an entry -/
def EntAt (w : World) (b : Nat) (T : TypeId) (x : Ent) : Prop := w.heap[b]? = some (.cells (encE x).toArray T (0, 0))
theorem EntAt.new (w : World) (x : Ent) (T : TypeId) : EntAt (w.alloc (.cells (encE x).toArray T)) w.heap.size T x := heap_alloc_new w _
theorem EntAt.cell {w : World} {b : Nat} {T : TypeId} {x : Ent} (h : EntAt w b T x) (j : Nat) (v : Value) (hv : (encE x)[j]? = some v) : w.cell? ⟨b, j, none⟩ = some v := by
  rw [cell_of_row _ _ _ _ _ _ h]; simpa using hv
theorem EntAt.below {w w' : World} {n b : Nat} {T : TypeId} {x : Ent} (h : EntAt w b T x) (hb : Below n w w') (hn : b < n) : EntAt w' b T x := heap_below hb hn h
theorem EntAt.range {w : World} {b : Nat} {T : TypeId} {x : Ent} (h : EntAt w b T x) : w.rangeAt b 0 (encE x) := fun j v hv => by rw [Nat.zero_add]; exact h.cell j v hv

theorem minute_any (n : Int) (w : World) : Calls Try.prog 39 #[.int .i64 n] w fun e w' => e = .returned (.bool (minB n)) ∧ w = w' := by
  go_enter Try.func39, Try.ntmps39
  go_wp2
  all_goals
    go_ret
    refine ⟨ret_bool ?_, rfl⟩
    unfold minB
    simp_all <;> omega
theorem rminute_any (n : Int) (w : World) : Calls Try.prog 40 #[.int .i64 n] w fun e w' => e = .returned (.bool (minB n)) ∧ w = w' := by
  go_enter Try.func40, Try.ntmps40
  go_wp2
  all_goals
    go_ret
    refine ⟨ret_bool ?_, rfl⟩
    unfold minB
    simp_all <;> omega
theorem old_any (d now : Int) (h0 : -9223372036854755648 ≤ now) (h1 : now ≤ 9223372036854775807) (w : World) : Calls Try.prog 44 #[.int .i64 d, .int .i64 now] w fun e w' => e = .returned (.bool (oldB d now)) ∧ w = w' := by
  have hs : IntKind.i64.wrap (now - 20160) = now - 20160 := IntWalk.i64_in _ (by omega)
  go_enter Try.func44, Try.ntmps44
  go_wp2
  go_ret
  exact ⟨ret_bool rfl, rfl⟩
theorem rold_any (d now : Int) (h0 : -9223372036854755648 ≤ now) (h1 : now ≤ 9223372036854775807) (w : World) : Calls Try.prog 46 #[.int .i64 d, .int .i64 now] w fun e w' => e = .returned (.bool (oldB d now)) ∧ w = w' := by
  have hs : IntKind.i64.wrap (now - 20160) = now - 20160 := IntWalk.i64_in _ (by omega)
  go_enter Try.func46, Try.ntmps46
  go_wp2
  go_ret
  exact ⟨ret_bool rfl, rfl⟩

set_option maxHeartbeats 400000 in
theorem check_any (x : Ent) (w : World) : Calls Try.prog 14 #[encX x] w fun e w' => e = .returned (.int .i64 (chk x)) ∧ Below w.heap.size w w' := by
  have hN := EntAt.new w x 29
  have hB : Below w.heap.size w (w.alloc (.cells (encE x).toArray 29)) := (Below.refl _ w).alloc (Nat.le_refl _) _
  obtain ⟨w1, hw1⟩ : ∃ w1, w.alloc (.cells (encE x).toArray 29) = w1 := ⟨_, rfl⟩
  rw [hw1] at hN hB
  have c32 := hN.cell 32 _ (encE_32 x)
  have c33 := hN.cell 33 _ (encE_33 x)
  have c34 := hN.cell 34 _ (encE_34 x)
  clear hN
  unfold encX
  go_enter Try.func14, Try.ntmps14
  go_wp2_with (first | (go_at_call 39; refine (minute_any _ _).mono ?_; rintro e w' ⟨rfl, rfl⟩))
  all_goals
    go_ret
    refine ⟨ret_int ?_, hB⟩
    unfold chk
    simp_all
set_option maxHeartbeats 400000 in
theorem rcheck_any (x : Ent) (w : World) : Calls Try.prog 15 #[encX x] w fun e w' => e = .returned (.int .i64 (chk x)) ∧ Below w.heap.size w w' := by
  have hN := EntAt.new w x 24
  have hB : Below w.heap.size w (w.alloc (.cells (encE x).toArray 24)) := (Below.refl _ w).alloc (Nat.le_refl _) _
  obtain ⟨w1, hw1⟩ : ∃ w1, w.alloc (.cells (encE x).toArray 24) = w1 := ⟨_, rfl⟩
  rw [hw1] at hN hB
  have c32 := hN.cell 32 _ (encE_32 x)
  have c33 := hN.cell 33 _ (encE_33 x)
  have c34 := hN.cell 34 _ (encE_34 x)
  clear hN
  unfold encX
  go_enter Try.func15, Try.ntmps15
  go_wp2_with (first | (go_at_call 40; refine (rminute_any _ _).mono ?_; rintro e w' ⟨rfl, rfl⟩))
  all_goals
    go_ret
    refine ⟨ret_int ?_, hB⟩
    unfold chk
    simp_all
theorem xSize (x : Ent) : (Try.prog.info? 29).map (·.size) = some (encE x).toArray.size := by rw [List.size_toArray, encE_len]; kernel_rfl
theorem rxSize (x : Ent) : (Try.prog.info? 24).map (·.size) = some (encE x).toArray.size := by rw [List.size_toArray, encE_len]; kernel_rfl

theorem ent_one (x : Ent) : (encE x).toArray.all (·.oneCell') = true := Array.all_eq_true_iff_forall_mem.2 (fun v hv => encE_one x v (by simpa using hv))
theorem results_cell1 {P : Program} {fn : Func} {p : Tmp} {ty : TypeId} (h : fn.results = #[.cell p ty]) (tmps : Array Value) (w : World) (g : Nat) (t : TypeId) (cs : Array Value) (fr : Nat × Nat) (d : TypeDesc)
    (hp : tmps.getD p undef = .pointer (some ⟨g, 0, none⟩)) (hg : w.heap[g]? = some (.cells cs t fr))
    (hu : P.underlying ty = some d) (hd : (match d with | .struct _ | .array _ _ => true | _ => false) = true) (hi : (P.info? ty).map (·.size) = some cs.size) :
    (results fn tmps).run P w = .ok (.agg cs) w := by
  have hp' : tmps[p]?.getD undef = .pointer (some ⟨g, 0, none⟩) := by simpa using hp
  simp [results, h, hp', asAddr, run_loadVar_row w g t ty cs fr d hg hu hd hi]
theorem xLen (x : Ent) : (Try.prog.info? 29).map (·.size) = some (encE x).length := by rw [encE_len]; kernel_rfl
theorem rxLen (x : Ent) : (Try.prog.info? 24).map (·.size) = some (encE x).length := by rw [encE_len]; kernel_rfl
theorem idSize29 (x : I32) : (Try.prog.info? 27).map (·.size) = some (encI x).length := by rw [encI_len]; kernel_rfl
theorem idSize22 (x : I32) : (Try.prog.info? 22).map (·.size) = some (encI x).length := by rw [encI_len]; kernel_rfl
theorem EntAt.idr {w : World} {b : Nat} {T : TypeId} {x : Ent} (h : EntAt w b T x) : w.rangeAt b 0 (encI x.id) := fun j v hv => by
  rw [Nat.zero_add]
  exact h.cell j v (by rw [encE_at x j (by have := (List.getElem?_eq_some_iff.1 hv).1; rwa [encI_len] at this)]; exact hv)

set_option maxRecDepth 100000 in
set_option maxHeartbeats 400000 in
theorem to_any (x : Ent) (w : World) : Calls Try.prog 13 #[encX x] w fun e w' => e = .returned (encX x) ∧ Below w.heap.size w w' := by
  have hN := EntAt.new w x 24
  have hB : Below w.heap.size w (w.alloc (.cells (encE x).toArray 24)) := (Below.refl _ w).alloc (Nat.le_refl _) _
  have hsz : w.heap.size < (w.alloc (.cells (encE x).toArray 24)).heap.size := by simp
  obtain ⟨w1, hw1⟩ : ∃ w1, w.alloc (.cells (encE x).toArray 24) = w1 := ⟨_, rfl⟩
  rw [hw1] at hN hB hsz
  have hN2 : ∀ o, EntAt (w1.alloc o) w.heap.size 24 x := fun o => heap_alloc_old' hN
  have c32 := fun o => (hN2 o).cell 32 _ (encE_32 x)
  have c33 := fun o => (hN2 o).cell 33 _ (encE_33 x)
  have c34 := fun o => (hN2 o).cell 34 _ (encE_34 x)
  have c35 := fun o => (hN2 o).cell 35 _ (encE_35 x)
  have HR := Lib.hid (fun o => (hN2 o).idr)
  have HS := Lib.hid (idSize22 x.id)
  have HN := Lib.hid hN
  clear hN hN2
  have HSX := Lib.hid (xSize x)
  unfold encX
  go_enter Try.func13, Try.ntmps13
  have HQ := Lib.hid (heap_alloc_new w1 (.cells (encE Ent.zero).toArray 29 (0, 0)))
  go_wp2_with (first
    | (refine wpList_load_mid (by rfl) 22 (.tmp 3) (by rfl) w.heap.size 0 (by rfl) (encI x.id) _ (HR.out _) Try.underlying22 rfl HS.out ?_)
    | (refine wpList_build_to (by rfl) 29 #[(0, .tmp 4), (1, .tmp 6), (2, .tmp 8), (3, .tmp 10), (4, .tmp 12)] (by rfl) [(0, .agg (encI x.id).toArray), (1, .int .i64 x.arr.1), (2, .int .i64 x.dat.1), (3, .int .i64 x.st.1), (4, .bool x.perm)] (by kernel_rfl) (encE x).toArray (built_ent x) ?_)
    | (refine wpList_store_abs (by rfl) 29 (.tmp 2) (.tmp 13) (by rfl) w1.heap.size (encE x).toArray (by rfl) (by rfl) _ (encE Ent.zero).toArray HQ.out HSX.out (by rw [List.size_toArray, List.size_toArray, encE_len, encE_len]) (ent_one x) w1.heap.size w1 ((Below.refl _ _).alloc (Nat.le_refl _) _) (Nat.le_refl _) ?_))
  intro w2 H2 b2 _
  go_wp2
  exact bodyPost_ret (v := .agg (encE x).toArray) (results_cell1 rfl _ _ _ _ _ _ _ rfl H2.out Try.underlying29 rfl HSX.out) rfl ⟨rfl, hB.trans (b2.mono (Nat.le_of_lt hsz))⟩
end Go.Proofs.Ytblidphaolgilaa
