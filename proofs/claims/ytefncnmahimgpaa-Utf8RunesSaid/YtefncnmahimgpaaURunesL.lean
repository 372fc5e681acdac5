/- For every text, the first 300 bytes: Runes hands out the offsets and code points up to the first error, and stops when it is told. No condition. -/
import Derived.RangeFuncNested
import Derived.RangeFuncBound
import Derived.RangeFuncCalls
import Derived.RangeFuncLeaves
import Derived.Shelf.Abstract
import Derived.Shelf.RegionOpen
import Derived.WalkKit
import Derived.OwnWalkIn
import Derived.TacticsInMore
import Derived.LoopNIn
import Derived.LoopIn
import Derived.Test.YtefncnmahimgpaaRows
import Derived.Test.YtefncnmahimgpaaUKnown
import Derived.Test.YtefncnmahimgpaaURefAll
import Derived.Test.YtefncnmahimgpaaUShort
import Derived.Test.YtefncnmahimgpaaURunes
import Derived.Test.YtefncnmahimgpaaUPrint
import Derived.Test.YtefncnmahimgpaaUOffs
import Derived.Test.YtefncnmahimgpaaRowAt
import Derived.Lib.Hide
import Derived.Outline
namespace Go.Proofs.Ytefncnmahimgpaa
open Go.RowKit Go.Shelf
attribute [local go_sem] Oper.semAt_some

def red (x : Nat × Nat) : Nat × Nat := (x.1, x.2 % 33554432)
theorem pAll_lt (l : List UInt8) : ∀ x ∈ (pAll l 0).1, x.2 < 33554432 := by
  have key : ∀ m k, l.length - k ≤ m → ∀ x ∈ (pAll l k).1, x.2 < 33554432 := by
    intro m
    induction m with
    | zero => intro k h; rw [pAll_end (by omega)]; simp
    | succ m ih =>
      intro k h
      by_cases hlt : k < l.length
      · by_cases he : (pFirst (l.drop k)).2.2 = 0
        · have hp := pFirst_ok he
          rw [pAll_ok hlt he]
          intro x hx
          rcases List.mem_cons.1 hx with rfl | hx
          · exact pFirst_lt.1
          · exact ih _ (by omega) x hx
        · rw [pAll_err hlt he]; simp
      · rw [pAll_end hlt]; simp
  exact key l.length 0 (by omega)
theorem red_all (l : List UInt8) : (pAll l 0).1.map red = (pAll l 0).1 := by
  have h := pAll_lt l
  generalize (pAll l 0).1 = L at *
  induction L with
  | nil => rfl
  | cons a L ih => rw [List.map_cons, ih (fun x hx => h x (List.mem_cons_of_mem _ hx))]; congr 1; unfold red; rw [Nat.mod_eq_of_lt (h a (by simp))]

set_option maxRecDepth 100000 in
set_option maxHeartbeats 2000000 in
theorem runesl_walk (s : ByteArray) (hs : s.size ≤ maxLen) (st : Nat) (hst : st < 256) (w : World) :
    Calls Try.prog 7 #[.string s, .int .u8 st] w fun e w' => e = .returned (.bool true) ∧ Below w.heap.size w w' := by
  have hz := take_size s 300
  have hx : (s.extract 0 (min s.size 300)).size ≤ 1000000 := by omega
  have HS := Lib.hid (short_any s 300 hs (by omega))
  refine (callsIn_wide (n := 8)).1 ?_
  refine callsIn_of_wp_marks Try.func7 rfl trivial ?_ rfl
  simp only [Try.ntmps7, List.size_toArray, List.length_cons, List.length_nil, Nat.reduceAdd, Nat.reduceSub, Array.replicate_succ, Array.replicate_zero, List.push_toArray, List.append_toArray, List.nil_append, List.cons_append]
  gi_wp2_with fail
  refine ⟨trivial, (callsIn_wide.2 (HS.out _)).mono ?_⟩
  rintro e w1 ⟨rfl, b1⟩
  clear HS hz
  generalize s.extract 0 (min s.size 300) = t at *
  have HR := Lib.hid (rall_any t hx)
  gi_wp2_with fail
  refine ⟨trivial, (callsIn_wide.2 (known_any _)).mono ?_⟩
  rintro e w2 ⟨rfl, b2⟩
  gi_wp2_with fail
  refine ⟨trivial, (callsIn_wide.2 (HR.out _)).mono ?_⟩
  rintro e w3 ⟨v1, v2, rfl, hr1, hr2, hap, b3⟩
  obtain ⟨a1, cap1, rfl, hc1⟩ := rowAt_of_owns hr1
  obtain ⟨a2, cap2, rfl, hc2⟩ := rowAt_of_owns hr2
  have HRU := Lib.hid (runes_any t)
  have hll : (pAll t.data.toList 0).1.length ≤ 1000000 := by
    have h1 := pAll_len' t.data.toList
    have h2 : t.data.toList.length = t.size := by simp
    omega
  have hmw : IntKind.i64.wrap ((st : Int) + 1) = (st : Int) + 1 := IntWalk.i64_in _ (by omega)
  gi_wp2_with fail
  refine ⟨trivial, (callsIn_wide.2 (HRU.out _)).mono ?_⟩
  rintro e w4 ⟨rfl, rfl⟩
  gi_wp2_with fail
  have HL : Hid ((pAll t.data.toList 0).1 = (pAll t.data.toList 0).1) := Lib.hid rfl
  have hs1 : w.heap.size + 1 ≤ w1.heap.size := by have := b1.size; simpa using this
  have hs3 : w.heap.size + 1 ≤ w3.heap.size := by have := b2.size; have := b3.size; omega
  have c1 : Below (w.heap.size + 1) (w.alloc (.cells #[.bool false] 4)) w3 := (((b1.mono (by simp)).trans (b2.mono hs1)).trans (b3.mono (by have := b2.size; omega)))
  have bR : Boxed w3 w.heap.size 4 (.bool false) := heap_below c1 (by omega) (Boxed.new w _ _)
  have hB3 : Below w.heap.size w w3 := ((Below.refl _ w).alloc (Nat.le_refl _) _).trans (c1.mono (by omega))
  have bL := Boxed.new w3 23 (.slice a1 (pAll t.data.toList 0).1.length cap1)
  have bO := Boxed.new (w3.alloc (.cells #[.slice a1 (pAll t.data.toList 0).1.length cap1] 23)) 23 (.slice a2 (pAll t.data.toList 0).1.length cap2)
  rw [World.size_alloc] at bO
  have bM := Boxed.new ((w3.alloc (.cells #[.slice a1 (pAll t.data.toList 0).1.length cap1] 23)).alloc (.cells #[.slice a2 (pAll t.data.toList 0).1.length cap2] 23)) 3 (.int .i64 ((st : Int) + 1))
  simp only [World.size_alloc] at bM
  have bN := Boxed.new (((w3.alloc (.cells #[.slice a1 (pAll t.data.toList 0).1.length cap1] 23)).alloc (.cells #[.slice a2 (pAll t.data.toList 0).1.length cap2] 23)).alloc (.cells #[.int .i64 ((st : Int) + 1)] 3)) 3 (.int .i64 0)
  simp only [World.size_alloc] at bN
  have bS := Boxed.new ((((w3.alloc (.cells #[.slice a1 (pAll t.data.toList 0).1.length cap1] 23)).alloc (.cells #[.slice a2 (pAll t.data.toList 0).1.length cap2] 23)).alloc (.cells #[.int .i64 ((st : Int) + 1)] 3)).alloc (.cells #[.int .i64 0] 3)) 9 (.string t)
  simp only [World.size_alloc] at bS
  have hw3 : w.heap.size ≤ w3.heap.size := by omega
  have hB8 : Below w.heap.size w (((((w3.alloc (.cells #[.slice a1 (pAll t.data.toList 0).1.length cap1] 23)).alloc (.cells #[.slice a2 (pAll t.data.toList 0).1.length cap2] 23)).alloc (.cells #[.int .i64 ((st : Int) + 1)] 3)).alloc (.cells #[.int .i64 0] 3)).alloc (.cells #[.string t] 9)) :=
    ((((hB3.alloc hw3 _).alloc (by simp; omega) _).alloc (by simp; omega) _).alloc (by simp; omega) _).alloc (by simp; omega) _
  have hB38 : Below w3.heap.size w3 (((((w3.alloc (.cells #[.slice a1 (pAll t.data.toList 0).1.length cap1] 23)).alloc (.cells #[.slice a2 (pAll t.data.toList 0).1.length cap2] 23)).alloc (.cells #[.int .i64 ((st : Int) + 1)] 3)).alloc (.cells #[.int .i64 0] 3)).alloc (.cells #[.string t] 9)) :=
    (((((Below.refl _ w3).alloc (Nat.le_refl _) _).alloc (by simp) _).alloc (by simp; omega) _).alloc (by simp; omega) _).alloc (by simp; omega) _
  have r1 := hc1.below hB38 (Nat.le_refl _)
  have r2 := hc2.below hB38 (Nat.le_refl _)
  refine wpIn_rangeFunc_ownF rfl (by omega) (gf := 45) (lb := #[.pointer (some ⟨w3.heap.size + 1 + 1 + 1 + 1, 0, none⟩)]) rfl trivial (enters_of Try.func45 (by kernel_rfl) rfl)
    (runes_stopsB (8 - 1) (by omega) (w3.heap.size + 1 + 1 + 1 + 1) t hx _ (by simp) bS.cell) keepsAt_t keepsAt_b (Below.refl _ _) (fun _ => rfl)
    (fun pre W => ((pre.map red <+: (pAll t.data.toList 0).1 ∧ pre.length ≤ st) ∧ Boxed W w.heap.size 4 (.bool false) ∧ Boxed W w3.heap.size 23 (.slice a1 (pAll t.data.toList 0).1.length cap1) ∧ Boxed W (w3.heap.size + 1) 23 (.slice a2 (pAll t.data.toList 0).1.length cap2) ∧ Boxed W (w3.heap.size + 1 + 1) 3 (.int .i64 ((st : Int) + 1)) ∧ Boxed W (w3.heap.size + 1 + 1 + 1) 3 (.int .i64 (pre.length : Int)) ∧ RowAt w3.heap.size a1 (runs (pAll t.data.toList 0).1) W ∧ RowAt w3.heap.size a2 (ofs (pAll t.data.toList 0).1) W) ∧ Below w.heap.size w W)
    (fun c pre W => (((c = .ret ∧ ¬ pre.map red <+: (pAll t.data.toList 0).1) ∨ (c = .exit 0 ∧ pre.length = st + 1)) ∧ Boxed W w.heap.size 4 (.bool false) ∧ Boxed W w3.heap.size 23 (.slice a1 (pAll t.data.toList 0).1.length cap1) ∧ Boxed W (w3.heap.size + 1 + 1) 3 (.int .i64 ((st : Int) + 1)) ∧ (c = .exit 0 → Boxed W (w3.heap.size + 1 + 1 + 1) 3 (.int .i64 (pre.length : Int)))) ∧ Below w.heap.size w W)
    (OwnFrom.and (OwnFrom.and (ownFrom_pure _ _) (OwnFrom.and (Own.from (boxed_own _ _ _) _) (OwnFrom.and (Own.from (boxed_own _ _ _) _) (OwnFrom.and (Own.from (boxed_own _ _ _) _) (OwnFrom.and (Own.from (boxed_own _ _ _) _) (OwnFrom.and (Own.from (boxed_own _ _ _) _) (OwnFrom.and (Own.from (rowAt_own _ _ _) _) (Own.from (rowAt_own _ _ _) _)))))))) (ownFrom_below (Nat.le_refl _) (by simp; omega)))
    (fun c => OwnFrom.and (OwnFrom.and (ownFrom_pure _ _) (OwnFrom.and (Own.from (boxed_own _ _ _) _) (OwnFrom.and (Own.from (boxed_own _ _ _) _) (OwnFrom.and (Own.from (boxed_own _ _ _) _) (fun s A B row hs hg hr hc => Own.from (boxed_own (w3.heap.size + 1 + 1 + 1) 3 (fun pre : List (Nat × Nat) => .int .i64 (pre.length : Int))) _ s A B row (hs hc) hg hr))))) (ownFrom_below (Nat.le_refl _) (by simp; omega)))
    ⟨⟨⟨List.nil_prefix, Nat.zero_le _⟩, ((((bR.alloc _).alloc _).alloc _).alloc _).alloc _, (((bL.alloc _).alloc _).alloc _).alloc _, ((bO.alloc _).alloc _).alloc _, (bM.alloc _).alloc _, bN.alloc _, r1, r2⟩, hB8⟩
    (fun x => { tmps := #[.string t, .int .u8 st, undef, undef, .pointer (some ⟨w.heap.size, 0, none⟩), .pointer (some ⟨w3.heap.size, 0, none⟩), .pointer (some ⟨w3.heap.size + 1, 0, none⟩), .int .i64 (pAll t.data.toList 0).2.1, .int .i64 (pAll t.data.toList 0).2.2, .pointer (some ⟨w3.heap.size + 1 + 1, 0, none⟩), .pointer (some ⟨w3.heap.size + 1 + 1 + 1, 0, none⟩), .int .i64 (x.1 : Int), .int .i32 ((x.2 % 33554432 : Nat) : Int), .string s, .string t, .bool true, .bool false, .tuple #[.slice a1 (pAll t.data.toList 0).1.length cap1, .slice a2 (pAll t.data.toList 0).1.length cap2, .int .i64 (pAll t.data.toList 0).2.1, .int .i64 (pAll t.data.toList 0).2.2], .string t, .tuple #[.slice a1 (pAll t.data.toList 0).1.length cap1, .slice a2 (pAll t.data.toList 0).1.length cap2, .int .i64 (pAll t.data.toList 0).2.1, .int .i64 (pAll t.data.toList 0).2.2], .slice a1 (pAll t.data.toList 0).1.length cap1, .slice a2 (pAll t.data.toList 0).1.length cap2, .int .i64 (pAll t.data.toList 0).2.1, .int .i64 (pAll t.data.toList 0).2.2, .int .u8 st, .int .i64 st, .int .i64 ((st : Int) + 1), .string t, .func (.func 45) #[] #[.pointer (some ⟨w3.heap.size + 1 + 1 + 1 + 1, 0, none⟩)], .int .i64 (x.1 : Int), .int .i32 ((x.2 % 33554432 : Nat) : Int), undef, undef, undef, undef, undef, undef, undef, undef, undef, undef, undef, undef, undef, undef, undef, undef, undef, undef, undef, undef, undef, undef, undef, undef, undef, undef, undef, undef, undef, undef, undef, undef, undef, undef, undef, undef, undef], defers := [] }) ?assign ?body ?done ?stop
  case assign =>
    intro l x W K hK
    simp only [rEncB]
    gi_wp2
    exact hK
  case body =>
    rintro l pre x W ⟨⟨⟨hp, hst'⟩, dR, dL, dO, dM, dN, s1, s2⟩, hB⟩ hlt
    have hcR := dR.cell; have hfR := dR.frozen
    have hcL := dL.cell; have hcO := dO.cell; have hcM := dM.cell; have hcN := dN.cell; have hfN := dN.frozen
    obtain ⟨g1, e1, hg1, hx1⟩ := s1.at (j := pre.length) (by simpa [runs] using hlt)
    obtain ⟨g2, e2, hg2, hx2⟩ := s2.at (j := pre.length) (by simpa [ofs] using hlt)
    clear bR bL bO bM bN bS r1 r2 hB8 hB38
    subst e1 e2
    simp only [runs, ofs, List.getElem_map] at hx1 hx2
    have HP : Hid (red x = (pAll t.data.toList 0).1[pre.length] → (pre ++ [x]).map red <+: (pAll t.data.toList 0).1) := Lib.hid (fun hz => by
      obtain ⟨r, hr⟩ := hp
      rw [List.map_append, List.map_cons, List.map_nil, hz]
      have hq : (pAll t.data.toList 0).1 = pre.map red ++ r := hr.symm
      have hlr : 0 < r.length := by have := congrArg List.length hq; simp at this; omega
      cases r with
      | nil => simp at hlr
      | cons y r => exact ⟨r, by simp [hq]⟩)
    have HN : Hid (red x ≠ (pAll t.data.toList 0).1[pre.length] → ¬ (pre ++ [x]).map red <+: (pAll t.data.toList 0).1) := Lib.hid (fun hz ⟨r, hr⟩ => hz (by simp [← hr]))
    generalize (pAll t.data.toList 0).1[pre.length] = y at *
    obtain ⟨y1, y2⟩ := y
    have hxr : Hid (red x = (x.1, x.2 % 33554432)) := Lib.hid rfl
    have hx2b : x.2 % 33554432 < 33554432 := Nat.mod_lt _ (by decide)
    rw [hxr.out] at HP HN
    clear hxr
    generalize x.2 % 33554432 = x2 at *
    obtain ⟨x1, xx⟩ := x
    dsimp only at hx1 hx2 HP HN ⊢
    have hltp : (pre.length : Int) < ((pAll t.data.toList 0).1.length : Int) := by omega
    have hltm : (pre.length : Int) < (st : Int) + 1 := by omega
    have hpl : (pre.length : Int) ≤ 1000000 := by omega
    clear hp
    by_cases q1 : x1 = y1
    · subst q1
      by_cases q2 : x2 = y2
      · subst q2
        have HP' := Lib.hid (HP.out rfl)
        clear HN HP
        by_cases q3 : pre.length = st
        · have q3' : ((pre.length : Int) + 1 == (st : Int) + 1) = true := by simp; omega
          have H3 := Lib.hid q3
          clear q3
          gi_wp2
          exact ⟨KeepsOthers.setCell _ _ _, ⟨.inr ⟨rfl, by have := H3.out; simp; omega⟩, dR.other (by omega) _, dL.other (by omega) _, dM.other (by omega) _, fun _ => by simpa using dN.set (.int .i64 ((pre.length : Int) + 1))⟩, hB.setCell (p := ⟨w3.heap.size + 1 + 1 + 1, 0, none⟩) (by simp; omega) _⟩
        · have q3' : ((pre.length : Int) + 1 == (st : Int) + 1) = false := by simp; omega
          have H3 := Lib.hid q3
          clear q3
          gi_wp2
          refine ⟨KeepsOthers.setCell _ _ _, keepsAt_set (by omega) _ _, ⟨⟨HP'.out, ?_⟩, dR.other (by omega) _, dL.other (by omega) _, dO.other (by omega) _, dM.other (by omega) _, ?_, s1.set (by omega) _, s2.set (by omega) _⟩, hB.setCell (p := ⟨w3.heap.size + 1 + 1 + 1, 0, none⟩) (by simp; omega) _⟩
          · have := H3.out; simp; omega
          · simpa using dN.set (.int .i64 ((pre.length : Int) + 1))
      · have q2' : ((x2 : Int) != (y2 : Int)) = true := by simp; omega
        have HN' := Lib.hid (HN.out (by simp [q2]))
        clear HN HP q2
        gi_wp2
        exact ⟨KeepsOthers.setCell _ _ _, ⟨.inl ⟨rfl, HN'.out⟩, dR.set _, dL.other (by omega) _, dM.other (by omega) _, fun h => by cases h⟩, hB.setCell (p := ⟨w.heap.size, 0, none⟩) (by simp) _⟩
    · have q1' : ((x1 : Int) != (y1 : Int)) = true := by simp; omega
      have HN' := Lib.hid (HN.out (by simp [q1]))
      clear HN HP q1
      gi_wp2
      exact ⟨KeepsOthers.setCell _ _ _, ⟨.inl ⟨rfl, HN'.out⟩, dR.set _, dL.other (by omega) _, dM.other (by omega) _, fun h => by cases h⟩, hB.setCell (p := ⟨w.heap.size, 0, none⟩) (by simp) _⟩
  case done =>
    rintro D ys W hD rfl ⟨⟨⟨_, hle⟩, dR, dL, _, dM, dN, _, _⟩, hB⟩ hK
    have hcR := dR.cell; have hfR := dR.frozen
    have hcL := dL.cell; have hcM := dM.cell; have hcN := dN.cell
    have hcmp : ¬ (st : Int) + 1 < ((pAll t.data.toList 0).1.length : Int) := by omega
    gi_wp2
    have hb : (((pAll t.data.toList 0).1.length : Int) == min ((st : Int) + 1) ((pAll t.data.toList 0).1.length : Int)) = true := by simp; omega
    rw [hb]
    have hK' := (KeepsOthers.setCell W ⟨w.heap.size, 0, none⟩ (.bool true)).same D _ hK rfl
    refine ⟨by simp, .inl ⟨_, _, rfl, run_takeDeferred hK', ?_⟩⟩
    have hc5 := cell_kept (World.cell?_setCell_same' W ⟨w.heap.size, 0, none⟩ (.bool true) (by rw [hcR]; rfl)) (grownBy_putObj' _ D (.deferred none)) (fun r e => by cases e; exact ⟨_, hK', rfl⟩)
    refine ⟨.bool true, ?_, rfl, (hB.setCell (p := ⟨w.heap.size, 0, none⟩) (by simp) _).trans (belowK_b (w := w) (Nat.le_refl _) _ D _ _ (by simp at hD; omega) hK' rfl rfl)⟩
    simp [results, Try.f7, go_sem, hc5]
  case stop =>
    rintro D c pre W hD hpre ⟨⟨hc, dR, dL, dM, dN⟩, hB⟩ hK
    have hcR := dR.cell; have hfR := dR.frozen
    have hcL := dL.cell; have hcM := dM.cell
    rcases hc with ⟨rfl, hn⟩ | ⟨rfl, hn⟩
    · exfalso
      obtain ⟨r, hr⟩ := hpre
      exact hn ⟨r.map red, by rw [← List.map_append, hr, red_all]⟩
    · have hcN := (dN rfl).cell
      rw [hn] at hcN
      have hle : st + 1 ≤ (pAll t.data.toList 0).1.length := by
        rw [← hn]; exact hpre.length_le
      clear hn
      gi_wp2
      have hb : (((st : Int) + 1) == min ((st : Int) + 1) ((pAll t.data.toList 0).1.length : Int)) = true := by simp; omega
      rw [hb]
      have hK' := (KeepsOthers.setCell W ⟨w.heap.size, 0, none⟩ (.bool true)).same D _ hK rfl
      refine ⟨by simp, .inl ⟨_, _, rfl, run_takeDeferred hK', ?_⟩⟩
      have hc5 := cell_kept (World.cell?_setCell_same' W ⟨w.heap.size, 0, none⟩ (.bool true) (by rw [hcR]; rfl)) (grownBy_putObj' _ D (.deferred none)) (fun r e => by cases e; exact ⟨_, hK', rfl⟩)
      refine ⟨.bool true, ?_, rfl, (hB.setCell (p := ⟨w.heap.size, 0, none⟩) (by simp) _).trans (belowK_b (w := w) (Nat.le_refl _) _ D _ _ (by simp at hD; omega) hK' rfl rfl)⟩
      simp [results, Try.f7, go_sem, hc5]

end Go.Proofs.Ytefncnmahimgpaa
