/- History: Forget, Len, Cutoff. -/
import Derived.Test.YtblidphaolgilaaHiSo
namespace Go.Proofs.Ytblidphaolgilaa
open Go.RowKit Go.Shelf Go.Lib Go.Sort Go.Maps
set_option linter.unusedSimpArgs false

theorem srt_uniq {l m : List Ent} (hs : SE m) (hp : l.Perm m) (hl : l.Pairwise fun a b => ltOf cfE b a = false) : l = m := by
  have hs' : m.Pairwise fun a b => ltOf cfE b a = false := hs.imp (fun {a b} h => ltI_asym h)
  refine List.Perm.eq_of_pairwise (le := fun a b => ltOf cfE b a = false) (fun a b ha hb h1 h2 => ?_) hl hs' hp
  have e : a.id = b.id := ltI_tot (a := a.id) (b := b.id) h2 h1
  have h3 := hs.fnd (hp.mem_iff.1 ha)
  have h4 := hs.fnd hb
  rw [e, h4] at h3
  exact (Option.some.inj h3).symm
theorem enters49 : ∀ args w, (callFunc 49 args).run Try.prog w = .ok (.enter 49 args) w := enters_of Try.func49 (by kernel_rfl) rfl
theorem enters48 : ∀ args w, (callFunc 48 args).run Try.prog w = .ok (.enter 48 args) w := enters_of Try.func48 (by kernel_rfl) rfl
theorem enters51 : ∀ args w, (callFunc 51 args).run Try.prog w = .ok (.enter 51 args) w := enters_of Try.func51 (by kernel_rfl) rfl

set_option maxRecDepth 100000 in
set_option maxHeartbeats 1000000 in
theorem goes_any (x : Ent) (now : Int) (h0 : 0 ≤ now) (h1 : now ≤ 105190559) (g : Nat) (w : World) (hg : w.cell? ⟨g, 0, none⟩ = some (.int .i64 now)) (hgl : g < w.heap.size) :
    Calls Try.prog 48 #[encX x, .pointer (some ⟨g, 0, none⟩)] w fun e w' => e = .returned (.bool (goesE now x)) ∧ Below w.heap.size w w' := by
  have hN := EntAt.new w x 29
  have hB : Below w.heap.size w (w.alloc (.cells (encE x).toArray 29)) := (Below.refl _ w).alloc (Nat.le_refl _) _
  obtain ⟨w1, hw1⟩ : ∃ w1, w.alloc (.cells (encE x).toArray 29) = w1 := ⟨_, rfl⟩
  rw [hw1] at hN hB
  have c33 := hN.cell 33 _ (encE_33 x)
  have c34 := hN.cell 34 _ (encE_34 x)
  have c35 := hN.cell 35 _ (encE_35 x)
  have cg : w1.cell? ⟨g, 0, none⟩ = some (.int .i64 now) := by rw [hB.cell (p := ⟨g, 0, none⟩) hgl]; exact hg
  have hod := Lib.hid (fun w => old_any x.dat.1 now (by omega) (by omega) w)
  clear hN hg
  unfold encX
  cases hob : oldB x.dat.1 now <;> cases hp : x.perm <;> by_cases hst : x.st.1 = 1
  all_goals
    have hgo : goesE now x = (decide (x.st.1 = 1) && !x.perm && oldB x.dat.1 now) := rfl
    rw [hob, hp] at hgo
    simp only [hst, decide_true, decide_false, Bool.true_and, Bool.false_and, Bool.and_true, Bool.and_false, Bool.not_true, Bool.not_false] at hgo
    rw [hgo]
    rw [hp] at c35
    clear hgo
    go_enter Try.func48, Try.ntmps48
    go_wp2_with (first | (go_at_call 44; refine (hod.out _).mono ?_; rintro e w4 ⟨rfl, rfl⟩; rw [hob]))
    go_ret
    exact ⟨rfl, hB⟩
set_option maxRecDepth 100000 in
theorem every_any (x : Ent) (w : World) : Calls Try.prog 51 #[encX x] w fun e w' => e = .returned (.bool true) ∧ Below w.heap.size w w' := by
  unfold encX
  go_enter Try.func51, Try.ntmps51
  go_wp2
  go_ret
  exact ⟨rfl, (Below.refl _ w).alloc (Nat.le_refl _) _⟩
theorem cutoff_any (hb mb : Nat) (l : List Ent) (cut : Int) (w : World) (h : HistAt w hb mb l cut) :
    Calls Try.prog 30 #[.pointer (some ⟨hb, 0, none⟩)] w fun e w' => e = .returned (.int .i64 cut) ∧ w = w' := by
  have c1 : w.cell? ⟨hb, 1, none⟩ = some (.int .i64 cut) := by rw [cell_of_row _ _ _ _ _ _ h.blk]; rfl
  clear h
  go_enter Try.func30, Try.ntmps30
  go_wp2
  go_ret
  exact ⟨rfl, rfl⟩
/-- sorted, of all -/
theorem sortedAll_any (hb mb : Nat) (l : List Ent) (cut : Int) (hl : l.length ≤ 1000) (w : World) (h : HistAt w hb mb l cut) :
    Calls Try.prog 47 #[.pointer (some ⟨hb, 0, none⟩), .func (.func 51) #[] #[], .func (.func 49) #[] #[]] w fun e w' => ∃ v, e = .returned v ∧
      w'.ownsRow w.heap.size 29 36 v l.length (ecs l) ∧ Below w.heap.size w w' := by
  have hs := h.asc
  refine (sorted_any 51 49 #[] (fun _ => true) cfE swoE hb mb l cut hl w h enters51 (fun x W _ => every_any x W) enters49 (fun x y W => byId_grow x y W)).mono ?_
  rintro e w' ⟨v, l', rfl, hp, ho, hr, hB⟩
  rw [List.filter_eq_self.2 (fun _ _ => rfl)] at hp
  obtain rfl := srt_uniq hs hp ho
  exact ⟨v, rfl, hr, hB⟩
theorem len_any (hb mb : Nat) (l : List Ent) (cut : Int) (hl : l.length ≤ 1000) (w : World) (h : HistAt w hb mb l cut) :
    Calls Try.prog 36 #[.pointer (some ⟨hb, 0, none⟩)] w fun e w' => e = .returned (.int .i64 l.length) ∧ Below w.heap.size w w' := by
  have HS := Lib.hid (sortedAll_any hb mb l cut hl w h)
  clear h
  go_enter Try.func36, Try.ntmps36
  go_wp2_with fail
  refine HS.out.mono ?_
  rintro e w' ⟨v, rfl, hr, hB⟩
  obtain ⟨_, a3, cap3, rfl, _, _, _, _⟩ := rows_of_owns encE_len (by decide) hr
  clear hr
  go_wp2
  go_ret
  exact ⟨rfl, hB⟩
end Go.Proofs.Ytblidphaolgilaa
