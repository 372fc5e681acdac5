/- A nil history. -/
import Derived.Test.YtblidphaolgilaaHiCl
namespace Go.Proofs.Ytblidphaolgilaa
open Go.RowKit Go.Maps Go.Sort
set_option linter.unusedSimpArgs false
set_option linter.unusedVariables false

theorem nilSorted_any (f g : Value) (w : World) :
    Calls Try.prog 47 #[.pointer none, f, g] w fun e w' => e = .returned (.slice none 0 0) ∧ w = w' := by
  go_enter Try.func47, Try.ntmps47
  go_wp2
  go_ret
  exact ⟨rfl, rfl⟩
theorem nilLen_any (w : World) :
    Calls Try.prog 36 #[.pointer none] w fun e w' => e = .returned (.int .i64 0) ∧ w = w' := by
  go_enter Try.func36, Try.ntmps36
  go_wp2_with fail
  refine (nilSorted_any _ _ _).mono ?_
  rintro e w2 ⟨rfl, rfl⟩
  go_wp2
  go_ret
  exact ⟨rfl, rfl⟩
theorem nilCutoff_any (w : World) :
    Calls Try.prog 30 #[.pointer none] w fun e w' => e = .returned (.int .i64 0) ∧ w = w' := by
  go_enter Try.func30, Try.ntmps30
  go_wp2
  go_ret
  exact ⟨rfl, rfl⟩
theorem nilSince_any (m : Int) (w : World) :
    Calls Try.prog 24 #[.pointer none, .int .i64 m] w fun e w' => e = .returned (.slice none 0 0) ∧ Below w.heap.size w w' := by
  go_enter Try.func24, Try.ntmps24
  go_wp2_with fail
  refine (nilSorted_any _ _ _).mono ?_
  rintro e w2 ⟨rfl, rfl⟩
  go_wp2
  go_ret
  exact ⟨rfl, (Below.refl _ _).alloc (Nat.le_refl _) _⟩
theorem nilSetGone_any (id : I32) (w : World) :
    Calls Try.prog 20 #[.pointer none, .agg (encI id).toArray] w fun e w' => e = .returned (.int .i64 1) ∧ Below w.heap.size w w' := by
  go_enter Try.func20, Try.ntmps20
  go_wp2
  go_ret
  exact ⟨rfl, by first | exact Below.refl _ _ | exact (Below.refl _ _).alloc (Nat.le_refl _) _⟩
theorem nilJudge_any (id : I32) (d now : Int) (p : Bool) (w : World) :
    Calls Try.prog 17 #[.pointer none, .agg (encI id).toArray, .int .i64 d, .int .i64 now, .bool p] w fun e w' => e = .returned (.int .i64 1) ∧ Below w.heap.size w w' := by
  go_enter Try.func17, Try.ntmps17
  go_wp2
  go_ret
  exact ⟨rfl, by first | exact Below.refl _ _ | exact (Below.refl _ _).alloc (Nat.le_refl _) _⟩
theorem nilAdd_any (x : Ent) (w : World) :
    Calls Try.prog 19 #[.pointer none, encX x] w fun e w' => e = .returned (.int .i64 1) ∧ Below w.heap.size w w' := by
  unfold encX
  go_enter Try.func19, Try.ntmps19
  go_wp2
  go_ret
  exact ⟨rfl, by first | exact Below.refl _ _ | exact (Below.refl _ _).alloc (Nat.le_refl _) _⟩
theorem nilCount_any (st : Int) (w : World) :
    Calls Try.prog 37 #[.pointer none, .int .i64 st] w fun e w' => e = .returned (.int .i64 0) ∧ Below w.heap.size w w' := by
  go_enter Try.func37, Try.ntmps37
  go_wp2_with fail
  refine (nilSorted_any _ _ _).mono ?_
  rintro e w2 ⟨rfl, rfl⟩
  go_wp2
  go_ret
  exact ⟨rfl, (Below.refl _ _).alloc (Nat.le_refl _) _⟩
theorem nilForget_any (now : Int) (w : World) :
    Calls Try.prog 21 #[.pointer none, .int .i64 now] w fun e w' => e = .returned (.slice none 0 0) ∧ Below w.heap.size w w' := by
  cases hmn : minB now with
  | false =>
    go_enter Try.func21, Try.ntmps21
    go_wp2_with (first | (go_at_call 39; refine (minute_any _ _).mono ?_; rintro e w' ⟨rfl, rfl⟩; rw [hmn]))
    go_ret
    exact ⟨rfl, (Below.refl _ _).alloc (Nat.le_refl _) _⟩
  | true =>
    go_enter Try.func21, Try.ntmps21
    go_wp2_with (first | (go_at_call 39; refine (minute_any _ _).mono ?_; rintro e w' ⟨rfl, rfl⟩; rw [hmn]) | (go_at_call 47; refine (nilSorted_any _ _ _).mono ?_; rintro e w2 ⟨rfl, rfl⟩))
    go_loopw [5, 15] (fun ov iv wr => ov = .slice none 0 0 ∧ iv = .int .i64 0 ∧ Below w.heap.size w wr) (fun _ _ _ => 0)
    case atStart => exact ⟨rfl, rfl, (Below.refl _ _).alloc (Nat.le_refl _) _⟩
    case round =>
      obtain ⟨rfl, rfl, hB⟩ := hrel
      go_wp2
      go_ret
      exact ⟨rfl, hB⟩
theorem nilGet_any (id : I32) (w : World) :
    Calls Try.prog 35 #[.pointer none, .agg (encI id).toArray] w fun e w' => e = .returned (.tuple #[encX Ent.zero, .bool false]) ∧ Below w.heap.size w w' := by
  go_enter Try.func35, Try.ntmps35
  go_wp2_with (refine wpList_store_abs (by rfl) 29 (.tmp 4) (.tmp 10) (by rfl) (w.heap.size + 1) (encE Ent.zero).toArray (by rfl) (by rfl) _ (encE Ent.zero).toArray (heap_new2 _ _ _) (xSize Ent.zero) (by simp [encE_len]) (ent_one Ent.zero) w.heap.size w (((Below.refl _ _).alloc (Nat.le_refl _) _).alloc (by simp) _) (by omega) ?_)
  intro w2 H2 b2 O2
  go_wp2
  exact bodyPost_ret (results_cell2 rfl _ _ _ _ _ _ _ rfl H2.out Try.underlying29 rfl (xSize _)) rfl ⟨rfl, b2⟩
theorem nilEncode_any (w : World) :
    Calls Try.prog 33 #[.pointer none] w fun e w' => e = .returned (.slice none 0 0) ∧ w = w' := by
  go_enter Try.func33, Try.ntmps33
  go_wp2
  go_ret
  exact ⟨rfl, rfl⟩
end Go.Proofs.Ytblidphaolgilaa
