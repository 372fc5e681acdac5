/- Contract of the reference's First. -/
import Derived.Test.YtefncnmahimgpaaRows
import Derived.Test.YtefncnmahimgpaaBase
import Derived.Test.YtefncnmahimgpaaRow
import Derived.Test.YtefncnmahimgpaaURefB
import Derived.WalkKit
import Derived.OwnWalk
import Derived.WalkSpells
import Derived.WalkLawsBesides
import Derived.Lib.Hide
import Derived.Deep.QuietTactic
import Derived.BigQuiet
import Derived.Outline
namespace Go.Proofs.Ytefncnmahimgpaa
open Go.RowKit

theorem rBegins_pos {l : List UInt8} (h : (rBegins l).1 = true) : 1 ≤ (rBegins l).2.1 ∧ (rBegins l).2.1 ≤ 4 := by
  have hl := rLead_le (byt l 0)
  revert h
  unfold rBegins rBegin2
  split
  · intro h; simp at h
  · split
    · intro h; simp at h
    · split
      · intro h; simp at h
      · intro _; simp only; omega
def rFirst (l : List UInt8) : Nat × Nat × Nat :=
  if (rBegins (l.take 1)).1 then
    if (rBegins (l.take 1)).2.1 ≤ l.length then
      (if (rBegins (l.take (rBegins (l.take 1)).2.1)).1 then ((rBegins (l.take (rBegins (l.take 1)).2.1)).2.2, (rBegins (l.take 1)).2.1, 0) else (0, 0, 3))
    else (if (rBegins l).1 then (0, 0, 23) else (0, 0, 3))
  else (0, 0, 6)
theorem take_list (s : ByteArray) (n : Nat) : (s.extract 0 n).data.toList = s.data.toList.take n := by simp

set_option maxRecDepth 100000 in
set_option maxHeartbeats 1600000 in
theorem rfirst_any (s : ByteArray) (hs1 : 1 ≤ s.size) (w : World) :
    Calls Try.prog 20 #[.string s] w fun e w' => e = .returned (.tuple #[.int .i64 (rFirst s.data.toList).1, .int .i64 (rFirst s.data.toList).2.1, .int .i64 (rFirst s.data.toList).2.2]) ∧ Below w.heap.size w w' := by
  have HL : Hid (s.data.toList.length = s.size) := Lib.hid (by simp)
  have H1 := rbegins_any (s.extract 0 1) (by rw [ByteArray.size_extract]; omega)
  rw [take_list] at H1
  have hpos := @rBegins_pos (s.data.toList.take 1)
  have HR : Hid (rFirst s.data.toList = if (rBegins (s.data.toList.take 1)).1 then
    if (rBegins (s.data.toList.take 1)).2.1 ≤ s.size then
      (if (rBegins (s.data.toList.take (rBegins (s.data.toList.take 1)).2.1)).1 then ((rBegins (s.data.toList.take (rBegins (s.data.toList.take 1)).2.1)).2.2, (rBegins (s.data.toList.take 1)).2.1, 0) else (0, 0, 3))
    else (if (rBegins s.data.toList).1 then (0, 0, 23) else (0, 0, 3))
  else (0, 0, 6)) := Lib.hid (by rw [rFirst, HL.out])
  generalize rBegins (s.data.toList.take 1) = b at *
  obtain ⟨ok, n, v⟩ := b
  dsimp only at H1 hpos HR
  have H1' := Lib.hid H1
  clear H1
  cases ok
  · have HQ : Hid (rFirst s.data.toList = (0, 0, 6)) := Lib.hid (by rw [HR.out]; rfl)
    clear hpos HR
    go_enter Try.func20, Try.ntmps20
    go_wp2_with fail
    refine (H1'.out _).mono ?_
    rintro e w1 ⟨rfl, b1⟩
    go_wp2
    go_ret3
    rw [HQ.out]
    exact ⟨rfl, b1⟩
  · have hn := hpos rfl
    by_cases hns : n ≤ s.size
    · have hni : (n : Int) ≤ (s.size : Int) := by omega
      have H2 := rbegins_any (s.extract 0 n) (by rw [ByteArray.size_extract]; omega)
      rw [take_list] at H2
      have HQ : Hid (rFirst s.data.toList = (if (rBegins (s.data.toList.take n)).1 then ((rBegins (s.data.toList.take n)).2.2, n, 0) else (0, 0, 3))) := Lib.hid (by rw [HR.out, if_pos rfl, if_pos hns])
      clear HR hpos
      generalize rBegins (s.data.toList.take n) = b at *
      obtain ⟨ok, n2, v2⟩ := b
      dsimp only at H2 HQ
      have H2' := Lib.hid H2
      clear H2
      go_enter Try.func20, Try.ntmps20
      go_wp2_with fail
      refine (H1'.out _).mono ?_
      rintro e w1 ⟨rfl, b1⟩
      have hb1 := b1.size
      go_wp2_with fail
      refine (H2'.out _).mono ?_
      rintro e w2 ⟨rfl, b2⟩
      have c2 := b1.trans (b2.mono hb1)
      clear b1 b2 hb1
      cases ok
      · go_wp2
        go_ret3
        rw [HQ.out]
        exact ⟨rfl, c2⟩
      · go_wp2
        go_ret3
        rw [HQ.out]
        exact ⟨rfl, c2⟩
    · have hni : ¬ (n : Int) ≤ (s.size : Int) := by omega
      have H2 := rbegins_any s hs1
      have HQ : Hid (rFirst s.data.toList = (if (rBegins s.data.toList).1 then (0, 0, 23) else (0, 0, 3))) := Lib.hid (by rw [HR.out, if_pos rfl, if_neg hns])
      clear HR hpos
      generalize rBegins s.data.toList = b at *
      obtain ⟨ok, n2, v2⟩ := b
      dsimp only at H2 HQ
      have H2' := Lib.hid H2
      clear H2
      go_enter Try.func20, Try.ntmps20
      go_wp2_with fail
      refine (H1'.out _).mono ?_
      rintro e w1 ⟨rfl, b1⟩
      have hb1 := b1.size
      go_wp2_with fail
      refine (H2'.out _).mono ?_
      rintro e w2 ⟨rfl, b2⟩
      have c2 := b1.trans (b2.mono hb1)
      clear b1 b2 hb1
      cases ok
      · go_wp2
        go_ret3
        rw [HQ.out]
        exact ⟨rfl, c2⟩
      · go_wp2
        go_ret3
        rw [HQ.out]
        exact ⟨rfl, c2⟩
end Go.Proofs.Ytefncnmahimgpaa
