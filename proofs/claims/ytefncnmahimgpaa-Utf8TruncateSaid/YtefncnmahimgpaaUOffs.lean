/- The contracts of offsets, Count, Offset. -/
import Derived.RangeFuncNested
import Derived.RangeFuncBound
import Derived.RangeFuncBox
import Derived.RangeFuncCalls
import Derived.RangeFuncLeaves
import Derived.Shelf.Abstract
import Derived.Shelf.RegionOpen
import Derived.WalkKit
import Derived.OwnWalkIn
import Derived.TacticsInMore
import Derived.LoopNIn
import Derived.LoopIn
import Derived.Maps.AppendAt
import Derived.Test.YtefncnmahimgpaaRows
import Derived.Test.YtefncnmahimgpaaBase
import Derived.Test.YtefncnmahimgpaaUCheck
import Derived.Test.YtefncnmahimgpaaURunes
import Derived.Test.YtefncnmahimgpaaUPrint
import Derived.Test.YtefncnmahimgpaaURefAll
import Derived.Lib.Hide
import Derived.Outline
namespace Go.Proofs.Ytefncnmahimgpaa
open Go.RowKit Go.Shelf
attribute [local go_sem] Oper.semAt_some

theorem pAll_len' (l : List UInt8) : (pAll l 0).1.length ≤ l.length := by
  have key : ∀ m k, l.length - k ≤ m → (pAll l k).1.length ≤ l.length - k := by
    intro m
    induction m with
    | zero => intro k h; rw [pAll_end (by omega)]; simp
    | succ m ih =>
      intro k h
      by_cases hlt : k < l.length
      · by_cases he : (pFirst (l.drop k)).2.2 = 0
        · have hp := pFirst_ok he
          rw [List.length_drop] at hp
          have := ih (k + (pFirst (l.drop k)).2.1) (by omega)
          rw [pAll_ok hlt he, List.length_cons]
          omega
        · rw [pAll_err hlt he]; simp
      · rw [pAll_end hlt]; simp
  exact key l.length 0 (by omega)
theorem ofs_len (l : List (Nat × Nat)) : (ofs l).length = l.length := by simp [ofs]
theorem ofs_snoc (l : List (Nat × Nat)) (x : Nat × Nat) : ofs (l ++ [x]) = ofs l ++ [.int .i64 (x.1 : Int)] := by simp [ofs]

theorem row_cells {W : World} {base : Nat} {e : TypeId} {size k : Nat} {v : Value} {xs : List Value} (hr : W.ownsRow base e size v k xs) {j : Nat} {o : Obj} (ej : v.ownBlock = some j) (hj : W.heap[j]? = some o) : o.isCells = true := by
  rcases hr.2 with ⟨rfl, _⟩ | ⟨g, cap, cur, rfl, _, hgb, _⟩
  · simp [Value.ownBlock] at ej
  · obtain rfl : g = j := by simpa [Value.ownBlock] using ej
    rw [hgb] at hj; cases hj; rfl

set_option maxRecDepth 100000 in
set_option maxHeartbeats 2000000 in
theorem offsets_ok (s : ByteArray) (hs : s.size ≤ 1000000) (at' : Nat) (hok : (pAll s.data.toList 0).2 = (at', 0)) (w : World) :
    Calls Try.prog 46 #[.string s] w fun e w' => ∃ v, e = .returned (.tuple #[v, .int .i64 0]) ∧
      w'.ownsRow w.heap.size 3 1 v ((pAll s.data.toList 0).1.length + 1) (ofs (pAll s.data.toList 0).1 ++ [.int .i64 (s.size : Int)]) ∧ Below w.heap.size w w' := by
  have HC0 := check_any s (by unfold maxLen; omega)
  rw [hok] at HC0
  have HC := Lib.hid HC0
  clear HC0 hok
  have hll : (pAll s.data.toList 0).1.length ≤ 1000000 := by
    have h1 := pAll_len' s.data.toList
    have h2 : s.data.toList.length = s.size := by simp
    omega
  obtain ⟨i0, hi, hz0, hz1, hz2⟩ := info_parts infoInt
  have HI := Lib.hid hi
  clear hi
  refine (callsIn_wide (n := 8)).1 ?_
  refine callsIn_of_wp_marks Try.func46 rfl trivial ?_ rfl
  simp only [Try.ntmps46, List.size_toArray, List.length_cons, List.length_nil, Nat.reduceAdd, Nat.reduceSub, Array.replicate_succ, Array.replicate_zero, List.push_toArray, List.append_toArray, List.nil_append, List.cons_append]
  gi_wp2_with fail
  refine ⟨trivial, (callsIn_wide.2 (HC.out _)).mono ?_⟩
  rintro e w1 ⟨rfl, b1⟩
  gi_wp2_with fail
  refine ⟨trivial, (callsIn_wide.2 (runes_any s _)).mono ?_⟩
  rintro e w2 ⟨rfl, rfl⟩
  gi_wp2_with fail
  have hsz1 : w.heap.size ≤ w1.heap.size := b1.size
  have bO := Boxed.new w1 23 (.slice none 0 0)
  have bS := Boxed.new (w1.alloc (.cells #[.slice none 0 0] 23)) 9 (.string s)
  rw [World.size_alloc] at bS
  have hB0 : Below w.heap.size w ((w1.alloc (.cells #[.slice none 0 0] 23)).alloc (.cells #[.string s] 9)) := (b1.alloc hsz1 _).alloc (by simp; omega) _
  refine wpIn_rangeFunc_ownG rfl (by omega) (gf := 45) (lb := #[.pointer (some ⟨w1.heap.size + 1, 0, none⟩)]) rfl trivial (enters_of Try.func45 (by kernel_rfl) rfl)
    (runes_stopsA (8 - 1) (by omega) (w1.heap.size + 1) s hs _ (by simp) bS.cell) keepsAt_t keepsAt_b (Below.refl _ _) (fun _ => rfl)
    (fun pre W => ((∃ v, Boxed W w1.heap.size 23 v ∧ W.ownsRow w.heap.size 3 1 v pre.length (ofs pre) ∧ True) ∧ Boxed W (w1.heap.size + 1) 9 (.string s)) ∧ Below w.heap.size w W)
    (fun _ _ _ => False)
    (OwnFrom.and (OwnFrom.and (Own.from (holdsRow_own w.heap.size w1.heap.size 23 3 1 (fun pre => pre.length) (fun pre => ofs pre) (fun _ _ => True)) _) (Own.from (boxed_own _ _ _) _)) (ownFrom_below (Nat.le_refl _) (by simp; omega)))
    (fun _ _ _ _ _ hs _ _ => hs)
    ⟨⟨⟨_, bO.alloc _, World.ownsRow_nil _ _ _ _, trivial⟩, bS⟩, hB0⟩
    (fun x => { tmps := #[.string s, undef, .slice none 0 0, .int .i64 0, .int .i64 at', .int .i64 0, .pointer (some ⟨w1.heap.size, 0, none⟩), .int .i64 (x.1 : Int), .tuple #[.int .i64 at', .int .i64 0], .string s, .tuple #[.int .i64 at', .int .i64 0], .int .i64 at', .int .i64 0, .int .i64 0, .bool false, undef, .string s, .func (.func 45) #[] #[.pointer (some ⟨w1.heap.size + 1, 0, none⟩)], .int .i64 (x.1 : Int), .int .i32 (x.2 : Int), undef, undef, undef, undef, undef, undef, undef, undef, undef], defers := [] }) ?assign ?body ?done ?stop
  case assign =>
    intro l x W K hK
    simp only [rEnc]
    gi_wp2
    exact hK
  case body =>
    rintro l pre x W ⟨⟨⟨v, hv, hrow, _⟩, hbs⟩, hB⟩ hlt
    have hc := hv.cell
    have hBs := hB.size
    have hlt' : pre.length + 1 ≤ 1000001 := by omega
    gi_wp2_with (gi_at_builtin; refine wpListIn_append_own _ rfl _ _ 23 rfl w.heap.size 3 i0 (.int .i64 0) 1 8 Try.underlying23 HI.out hz0 hz1 hz2 rfl (by decide) _ _ _ rfl (hrow.alloc _) ⟨W.heap.size, 0, none⟩ 1 1 [.int .i64 (x.1 : Int)] rfl rfl (cell_one_new _ _ _) (by simp [Value.oneCell']) (by unfold maxLen; omega) (by omega) (by simp; omega) ?_; intro v' w1' hown' hgrow _; obtain ⟨g', cap', rfl⟩ := ownsRow_succ hown'; obtain ⟨hv1, hv2, hr2, hk2, hb2⟩ := hv.appended (by decide) hrow hBs hsz1 hown' hgrow; have hc1 := hv1.cell; have hf1 := hv1.frozen)
    have hbs2 := fun u => ((hbs.alloc _).kept hgrow (hbs.not_row (by decide) hrow)).kept (grownBy_setCell' w1' w1.heap.size u) (by simp)
    exact ⟨hk2.from _, fun u hu => by rw [hbs.cell] at hu; cases hu; exact (hbs2 _).cell, ⟨⟨_, hv2, by rw [ofs_snoc]; simpa using hr2, trivial⟩, hbs2 _⟩, hB.trans hb2⟩
  case done =>
    rintro D ys W hD rfl ⟨⟨⟨v, hv, hrow, _⟩, hbs⟩, hB⟩ hK
    have hc := hv.cell
    have hBs := hB.size
    gi_wp2_with (gi_at_builtin; refine wpListIn_append_own _ rfl _ _ 23 rfl w.heap.size 3 i0 (.int .i64 0) 1 8 Try.underlying23 HI.out hz0 hz1 hz2 rfl (by decide) _ _ _ rfl (hrow.alloc _) ⟨W.heap.size, 0, none⟩ 1 1 [.int .i64 (s.size : Int)] rfl rfl (cell_one_new _ _ _) (by simp [Value.oneCell']) (by unfold maxLen; omega) (by omega) (by simp; omega) ?_; intro v' w1' hown' hgrow _; obtain ⟨g', cap', rfl⟩ := ownsRow_succ hown')
    have hk2 : KeepsOthers W w1' := (KeepsOthers.alloc W _).trans (KeepsOthers.of_grownBy hgrow fun j o ej hj => row_cells (hrow.alloc _) ej hj)
    have hK' := hk2.same D _ hK rfl
    have hB2 : Below w.heap.size W w1' := ((Below.refl _ W).alloc hBs _).grown hgrow (by simp; omega) (fun k hk => (hrow.lt k hk).1)
    refine ⟨by simp, .inl ⟨_, _, rfl, run_takeDeferred hK', ?_⟩⟩
    refine ⟨_, results_tmp2 rfl _ _ _, _, rfl, ownsRow_putObj hown' _ hK' rfl, (hB.trans hB2).trans (belowK_b (w := w) (Nat.le_refl _) _ D _ _ (by simp at hD; omega) hK' rfl rfl)⟩
  case stop =>
    rintro D c pre W _ _ h _
    exact h.elim

set_option maxRecDepth 100000 in
theorem offsets_err (s : ByteArray) (hs : s.size ≤ 1000000) (at' e : Nat) (he : e ≠ 0) (hok : (pAll s.data.toList 0).2 = (at', e)) (w : World) :
    Calls Try.prog 46 #[.string s] w fun r w' => r = .returned (.tuple #[.slice none 0 0, .int .i64 e]) ∧ Below w.heap.size w w' := by
  have HC0 := check_any s (by unfold maxLen; omega)
  rw [hok] at HC0
  have HC := Lib.hid HC0
  clear HC0 hok
  have he' : ((e : Int) != 0) = true := by simpa using he
  refine (callsIn_wide (n := 8)).1 ?_
  refine callsIn_of_wp_marks Try.func46 rfl trivial ?_ rfl
  simp only [Try.ntmps46, List.size_toArray, List.length_cons, List.length_nil, Nat.reduceAdd, Nat.reduceSub, Array.replicate_succ, Array.replicate_zero, List.push_toArray, List.append_toArray, List.nil_append, List.cons_append]
  gi_wp2_with fail
  refine ⟨trivial, (callsIn_wide.2 (HC.out _)).mono ?_⟩
  rintro r w1 ⟨rfl, b1⟩
  gi_wp2
  exact ⟨_, results_tmp2 rfl _ _ _, rfl, b1⟩

set_option maxHeartbeats 800000 in
theorem count_any (s : ByteArray) (hs : s.size ≤ 1000000) (w : World) :
    Calls Try.prog 27 #[.string s] w fun r w' => r = .returned (.tuple #[.int .i64 (if okAll s.data.toList then (pAll s.data.toList 0).1.length else 0 : Nat), .int .i64 (pAll s.data.toList 0).2.2]) ∧ Below w.heap.size w w' := by
  have HO : Hid (okAll s.data.toList = decide ((pAll s.data.toList 0).2.2 = 0)) := Lib.hid rfl
  have hll : (pAll s.data.toList 0).1.length ≤ 1000000 := by
    have h1 := pAll_len' s.data.toList
    have h2 : s.data.toList.length = s.size := by simp
    omega
  by_cases he : (pAll s.data.toList 0).2.2 = 0
  · have HC := Lib.hid (offsets_ok s hs (pAll s.data.toList 0).2.1 (Prod.ext rfl he))
    have h2 : okAll s.data.toList = true := by rw [HO.out, he]; rfl
    rw [h2, he]
    clear HO he h2
    generalize (pAll s.data.toList 0).1 = l at *
    go_enter Try.func27, Try.ntmps27
    go_wp2_with fail
    refine (HC.out _).mono ?_
    rintro e w1 ⟨v, rfl, hr, b1⟩
    obtain ⟨g, cap, rfl⟩ := ownsRow_succ hr
    go_wp2
    go_ret2
    exact ⟨rfl, b1⟩
  · have HC := Lib.hid (offsets_err s hs (pAll s.data.toList 0).2.1 _ he rfl)
    have h2 : okAll s.data.toList = false := by rw [HO.out]; simpa using he
    rw [h2]
    clear HO h2
    generalize (pAll s.data.toList 0).2.2 = e at *
    have he' : ((e : Int) != 0) = true := by simpa using he
    go_enter Try.func27, Try.ntmps27
    go_wp2_with fail
    refine (HC.out _).mono ?_
    rintro r w1 ⟨rfl, b1⟩
    go_wp2
    go_ret2
    exact ⟨rfl, b1⟩

theorem offset_err (s : ByteArray) (hs : s.size ≤ 1000000) (e : Nat) (he : e ≠ 0) (hok : (pAll s.data.toList 0).2.2 = e) (i : Int) (w : World) :
    Calls Try.prog 33 #[.string s, .int .i64 i] w fun r w' => r = .returned (.tuple #[.int .i64 0, .int .i64 e]) ∧ Below w.heap.size w w' := by
  have HC := Lib.hid (offsets_err s hs (pAll s.data.toList 0).2.1 e he (Prod.ext rfl hok))
  clear hok
  have he' : ((e : Int) != 0) = true := by simpa using he
  go_enter Try.func33, Try.ntmps33
  go_wp2_with fail
  refine (HC.out _).mono ?_
  rintro r w1 ⟨rfl, b1⟩
  go_wp2
  go_ret2
  exact ⟨rfl, b1⟩
theorem offset_range (s : ByteArray) (hs : s.size ≤ 1000000) (hok : (pAll s.data.toList 0).2.2 = 0) (i : Int) (hi : i < 0 ∨ ((pAll s.data.toList 0).1.length : Int) < i) (w : World) :
    Calls Try.prog 33 #[.string s, .int .i64 i] w fun r w' => r = .returned (.tuple #[.int .i64 0, .int .i64 2]) ∧ Below w.heap.size w w' := by
  have hll : (pAll s.data.toList 0).1.length ≤ 1000000 := by
    have h1 := pAll_len' s.data.toList
    have h2 : s.data.toList.length = s.size := by simp
    omega
  have HC := Lib.hid (offsets_ok s hs (pAll s.data.toList 0).2.1 (Prod.ext rfl hok))
  clear hok
  generalize (pAll s.data.toList 0).1 = l at *
  by_cases h0 : i < 0
  · clear hi
    go_enter Try.func33, Try.ntmps33
    go_wp2_with fail
    refine (HC.out _).mono ?_
    rintro r w1 ⟨v, rfl, hr, b1⟩
    obtain ⟨g, cap, rfl⟩ := ownsRow_succ hr
    go_wp2
    go_ret2
    exact ⟨rfl, b1⟩
  · have hi' : (l.length : Int) < i := by omega
    have hge : (l.length : Int) + 1 ≤ i := by omega
    clear hi
    go_enter Try.func33, Try.ntmps33
    go_wp2_with fail
    refine (HC.out _).mono ?_
    rintro r w1 ⟨v, rfl, hr, b1⟩
    obtain ⟨g, cap, rfl⟩ := ownsRow_succ hr
    go_wp2
    go_ret2
    exact ⟨rfl, b1⟩
/-- the place at which the code point of a number begins; the length behind the last one -/
def offAt (l : List (Nat × Nat)) (n k : Nat) : Nat := if h : k < l.length then (l[k]).1 else n
theorem offset_ok (s : ByteArray) (hs : s.size ≤ 1000000) (hok : (pAll s.data.toList 0).2.2 = 0) (k : Nat) (hk : k ≤ (pAll s.data.toList 0).1.length) (w : World) :
    Calls Try.prog 33 #[.string s, .int .i64 k] w fun r w' => r = .returned (.tuple #[.int .i64 (offAt (pAll s.data.toList 0).1 s.size k), .int .i64 0]) ∧ Below w.heap.size w w' := by
  have hll : (pAll s.data.toList 0).1.length ≤ 1000000 := by
    have h1 := pAll_len' s.data.toList
    have h2 : s.data.toList.length = s.size := by simp
    omega
  have HC := Lib.hid (offsets_ok s hs (pAll s.data.toList 0).2.1 (Prod.ext rfl hok))
  clear hok
  generalize (pAll s.data.toList 0).1 = l at *
  have HK : (ofs l ++ [.int .i64 (s.size : Int)])[k]? = some (.int .i64 (offAt l s.size k : Int)) := by
    unfold offAt
    by_cases h : k < l.length
    · rw [List.getElem?_append_left (by rw [ofs_len]; exact h), dif_pos h]
      simp [ofs, h]
    · obtain rfl : k = l.length := by omega
      rw [dif_neg h, List.getElem?_append_right (by rw [ofs_len]; omega), ofs_len]
      simp
  have HK' := Lib.hid HK
  clear HK
  have hki : (k : Int) < (l.length : Int) + 1 := by omega
  have hk0 : (0 : Int) ≤ (k : Int) := by omega
  go_enter Try.func33, Try.ntmps33
  go_wp2_with fail
  refine (HC.out _).mono ?_
  rintro r w1 ⟨v, rfl, hr, b1⟩
  obtain ⟨g, cap, rfl⟩ := ownsRow_succ hr
  have hcell := hr.cellAt k
  have hc : w1.cell? ⟨g, k, none⟩ = some (.int .i64 (offAt l s.size k : Int)) := by rw [← HK'.out]; exact hcell (by omega)
  clear hcell
  go_wp2
  go_ret2
  exact ⟨rfl, b1⟩
end Go.Proofs.Ytefncnmahimgpaa
