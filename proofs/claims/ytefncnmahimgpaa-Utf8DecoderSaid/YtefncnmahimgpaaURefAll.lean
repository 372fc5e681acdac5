/- Contract of the reference's All. -/
import Derived.Test.YtefncnmahimgpaaRows
import Derived.Test.YtefncnmahimgpaaBase
import Derived.Test.YtefncnmahimgpaaRow
import Derived.Test.YtefncnmahimgpaaULaw
import Derived.WalkKit
import Derived.OwnWalk
import Derived.Maps.AppendAt
import Derived.WalkSpells
import Derived.WalkLawsBesides
import Derived.Lib.Hide
import Derived.Deep.QuietTactic
import Derived.BigQuiet
import Derived.Outline
namespace Go.Proofs.Ytefncnmahimgpaa
open Go.RowKit

theorem results_tmp4 {fn : Func} {t u v x : Tmp} (h : fn.results = #[.tmp t, .tmp u, .tmp v, .tmp x]) (tmps : Array Value) (P : Program) (w : World) :
    (results fn tmps).run P w = .ok (.tuple #[tmps.getD t undef, tmps.getD u undef, tmps.getD v undef, tmps.getD x undef]) w := by
  simp [results, h]
theorem infoInt : (Try.prog.info? 3).map (fun i => (i.zero, i.size, i.bytes)) = some (some (.int .i64 0), 1, 8) := by kernel_rfl

theorem alloc_size (w : World) (o : Obj) : (w.alloc o).heap.size = w.heap.size + 1 := by simp
/-- two slices that share no block -/
def Apart (a b : Value) : Prop := ∀ k, a.ownBlock = some k → b.ownBlock ≠ some k
theorem Apart.symm {a b : Value} (h : Apart a b) : Apart b a := fun k hb ha => h k ha hb
theorem owns_kept {w wA : World} {B n : Nat} {e : TypeId} {v2 : Value} {ys : List Value} {row : Option Nat} (h2 : w.ownsRow B e 1 v2 n ys) (g : w.grownBy wA row) (hr : ∀ k, row = some k → v2.ownBlock ≠ some k) : wA.ownsRow B e 1 v2 n ys := by
  refine h2.kept g ?_
  cases hb : v2.ownBlock with
  | none => exact Or.inl rfl
  | some k => exact Or.inr (fun h => hr k h.symm hb)
/-- one of two slices is appended to: the other one stands, and they share nothing -/
theorem apart_step {w wA : World} {B m : Nat} {e : TypeId} {v1 v2 v1' : Value} {ys : List Value} (h2 : w.ownsRow B e 1 v2 m ys) (ha : Apart v1 v2) (o : Obj)
    (r1 : (w.alloc o).grownBy wA v1.ownBlock) (l1 : v1'.ownBlock = v1.ownBlock ∨ v1'.ownBlock = some (w.heap.size + 1)) : wA.ownsRow B e 1 v2 m ys ∧ Apart v1' v2 := by
  refine ⟨owns_kept (h2.alloc o) r1 ha, fun k hk hv => ?_⟩
  rcases l1 with l | l
  · exact ha k (l.symm.trans hk) hv
  · have h3 := (h2.lt k hv).2
    rw [l] at hk
    have h4 : w.heap.size + 1 = k := Option.some.inj hk
    omega
theorem below_step {w0 w wA : World} {B n : Nat} {e : TypeId} {v : Value} {xs : List Value} (hb : Below B w0 w) (hB : B ≤ w.heap.size) (own : w.ownsRow B e 1 v n xs) (o : Obj) (g : (w.alloc o).grownBy wA v.ownBlock) : Below B w0 wA :=
  (hb.alloc hB o).grown g (by rw [alloc_size]; omega) (fun k hk => (own.lt k hk).1)

/-- the cells of numbers -/
def ofs (l : List (Nat × Nat)) : List Value := l.map fun p => .int .i64 (p.1 : Int)
def runs (l : List (Nat × Nat)) : List Value := l.map fun p => .int .i64 (p.2 : Int)

set_option maxRecDepth 100000 in
set_option maxHeartbeats 1600000 in
theorem rall_any (s : ByteArray) (hs : s.size ≤ 1000000) (w : World) :
    Calls Try.prog 15 #[.string s] w fun e w' => ∃ v1 v2, e = .returned (.tuple #[v1, v2, .int .i64 (pAll s.data.toList 0).2.1, .int .i64 (pAll s.data.toList 0).2.2]) ∧
      w'.ownsRow w.heap.size 3 1 v1 (pAll s.data.toList 0).1.length (runs (pAll s.data.toList 0).1) ∧ w'.ownsRow w.heap.size 3 1 v2 (pAll s.data.toList 0).1.length (ofs (pAll s.data.toList 0).1) ∧ Apart v1 v2 ∧ Below w.heap.size w w' := by
  have HL : Hid (s.data.toList.length = s.size) := Lib.hid (by simp)
  obtain ⟨i0, hi, hz0, hz1, hz2⟩ := info_parts infoInt
  have HI := Lib.hid hi
  clear hi
  go_enter Try.func15, Try.ntmps15
  go_wp2_with fail
  go_loopw [6, 7, 8] (fun v1 v2 i wr => ∃ (k : Nat) (acc : List (Nat × Nat)), k ≤ s.size ∧ i = .int .i64 k ∧ acc.length ≤ k ∧ Hid (acc ++ (pAll s.data.toList k).1 = (pAll s.data.toList 0).1) ∧ Hid ((pAll s.data.toList k).2 = (pAll s.data.toList 0).2) ∧
      wr.ownsRow w.heap.size 3 1 v1 acc.length (runs acc) ∧ wr.ownsRow w.heap.size 3 1 v2 acc.length (ofs acc) ∧ Apart v1 v2 ∧ Below w.heap.size w wr) (fun _ _ i _ => s.size - (intOf i).toNat)
  case atStart => exact ⟨0, [], by omega, rfl, by simp, Lib.hid rfl, Lib.hid rfl, World.ownsRow_nil _ _ _ _, World.ownsRow_nil _ _ _ _, (fun k hk => by simp [Value.ownBlock] at hk), Below.refl _ _⟩
  case round =>
    obtain ⟨k, acc, hk, rfl, hacc, HA, HP, ho1, ho2, hap, hB⟩ := hrel
    have hsz := hB.size
    by_cases hlt : k < s.size
    · have hlti : (k : Int) < (s.size : Int) := by omega
      have HF := rfirst_any (s.extract k s.size) (by rw [ByteArray.size_extract]; omega)
      rw [drop_list, first_eq _ (by simp; omega)] at HF
      have HF' := Lib.hid HF
      have hok := @pFirst_ok (s.data.toList.drop k)
      have hbd := @pFirst_lt (s.data.toList.drop k)
      have HE : Hid ((pFirst (s.data.toList.drop k)).2.2 ≠ 0 → (pAll s.data.toList k) = ([], k, (pFirst (s.data.toList.drop k)).2.2)) := Lib.hid (fun h => pAll_err (by rw [HL.out]; exact hlt) h)
      have HO : Hid ((pFirst (s.data.toList.drop k)).2.2 = 0 → (pAll s.data.toList k) = ((k, (pFirst (s.data.toList.drop k)).1) :: (pAll s.data.toList (k + (pFirst (s.data.toList.drop k)).2.1)).1, (pAll s.data.toList (k + (pFirst (s.data.toList.drop k)).2.1)).2)) := Lib.hid (fun h => pAll_ok (by rw [HL.out]; exact hlt) h)
      have hlen : (s.data.toList.drop k).length = s.size - k := by simp
      rw [hlen] at hok
      clear HF hlen
      generalize pFirst (s.data.toList.drop k) = p at *
      obtain ⟨r, n, e⟩ := p
      dsimp only at hok hbd HF' HE HO
      go_wp2_with fail
      refine (HF'.out _).mono ?_
      rintro e w1 ⟨rfl, b1⟩
      have c1 := hB.trans (b1.mono hsz)
      have g1 : wr.grownBy w1 none := ⟨b1.os, b1.tape, b1.output, b1.size, fun q hq _ => b1.block q hq⟩
      have ho1' := owns_kept ho1 g1 (fun q hq => by simp at hq)
      have ho2' := owns_kept ho2 g1 (fun q hq => by simp at hq)
      clear hB ho1 ho2 g1 b1 hsz
      cases he : ((e : Int) != 0)
      · have h0 : e = 0 := by simpa using he
        have hn := hok h0
        have HO' := HO.out h0
        have H2 : Hid ((pAll s.data.toList (k + n)).2 = (pAll s.data.toList 0).2) := Lib.hid (by rw [← HP.out, HO'])
        have H3 : Hid ((acc ++ [(k, r)]) ++ (pAll s.data.toList (k + n)).1 = (pAll s.data.toList 0).1) := Lib.hid (by rw [← HA.out, HO']; simp)
        have hs1 := c1.size
        clear hok HE HO HO' HA HP
        go_wp2_with (at_builtin; refine wpList_append_own_at _ rfl _ _ 23 rfl w.heap.size 3 i0 (.int .i64 0) 1 8 Try.underlying23 HI.out hz0 hz1 hz2 rfl (by decide) _ _ _ rfl (ho1'.alloc _) ⟨w1.heap.size, 0, none⟩ 1 1 [.int .i64 (r : Int)] rfl rfl (cell_one_new _ _ _) (ints_oneCell .i64 [(r : Int)]) (by unfold maxLen; omega) (by omega) (by rw [alloc_size]; omega) ?_)
        intro v1' wA hA1 gA _ lA
        obtain ⟨hA2, hapA⟩ := apart_step ho2' hap _ gA lA
        have cA := below_step c1 hs1 ho1' _ gA
        have hsA := cA.size
        have hsA' : w.heap.size ≤ wA.heap.size := by omega
        clear gA lA ho1' ho2' hap c1
        go_wp2_with (at_builtin; refine wpList_append_own_at _ rfl _ _ 23 rfl w.heap.size 3 i0 (.int .i64 0) 1 8 Try.underlying23 HI.out hz0 hz1 hz2 rfl (by decide) _ _ _ rfl (hA2.alloc _) ⟨wA.heap.size, 0, none⟩ 1 1 [.int .i64 (k : Int)] rfl rfl (cell_one_new _ _ _) (ints_oneCell .i64 [(k : Int)]) (by unfold maxLen; omega) (by omega) (by rw [alloc_size]; omega) ?_)
        intro v2' wB hB2 gB _ lB
        obtain ⟨hB1, hapB⟩ := apart_step hA1 hapA.symm _ gB lB
        have cB := below_step cA hsA' hA2 _ gB
        clear gB lB hA1 hA2 hapA cA
        go_wp2
        go_roundw
        case rel => exact ⟨k + n, acc ++ [(k, r)], by omega, by go_num, by simp; omega, H3, H2, by simpa [runs] using hB1, by simpa [ofs] using hB2, hapB.symm, cB⟩
        case measure => simp [intOf]; omega
      · have h0 : e ≠ 0 := by simpa using he
        have HX : Hid (pAll s.data.toList 0 = (acc, k, e)) := by
          apply Lib.hid
          have h1 := HA.out
          have h2 := HP.out
          rw [HE.out h0] at h1 h2
          refine Prod.ext ?_ h2.symm
          rw [← h1]; simp
        clear hok HE HO HA HP
        go_wp2
        refine bodyPost_ret (results_tmp4 rfl _ _ _) rfl ?_
        rw [HX.out]
        exact ⟨_, _, rfl, ho1', ho2', hap, c1⟩
    · have hlti : ¬ (k : Int) < (s.size : Int) := by omega
      have HX : Hid (pAll s.data.toList 0 = (acc, 0, 0)) := by
        apply Lib.hid
        have h1 := HA.out
        have h2 := HP.out
        rw [pAll_end (by rw [HL.out]; exact hlt)] at h1 h2
        refine Prod.ext ?_ h2.symm
        rw [← h1]; simp
      clear HA HP
      go_wp2
      refine bodyPost_ret (results_tmp4 rfl _ _ _) rfl ?_
      rw [HX.out]
      exact ⟨_, _, rfl, ho1, ho2, hap, hB⟩
end Go.Proofs.Ytefncnmahimgpaa
