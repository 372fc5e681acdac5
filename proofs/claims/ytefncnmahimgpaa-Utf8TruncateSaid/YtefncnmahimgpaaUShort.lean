/- Contract of short of layer 3's law. -/
import Derived.Test.YtefncnmahimgpaaRows
import Derived.Test.YtefncnmahimgpaaBase
import Derived.Test.YtefncnmahimgpaaRow
import Derived.WalkKit
import Derived.OwnWalk
import Derived.WalkSpells
import Derived.WalkLawsBesides
import Derived.Lib.Hide
import Derived.Deep.QuietTactic
import Derived.BigQuiet
import Derived.Outline
namespace Go.Proofs.Ytefncnmahimgpaa
open Go.RowKit

theorem short_any (s : ByteArray) (n : Nat) (_hs : s.size ≤ maxLen) (hn : n ≤ 1000000) (w : World) :
    Calls Try.prog 14 #[.string s, .int .i64 n] w fun e w' => e = .returned (.string (s.extract 0 (min s.size n))) ∧ Below w.heap.size w w' := by
  have hB := Below.refl w.heap.size w
  unfold maxLen at _hs
  by_cases q : s.size ≤ n
  · have e1 : min s.size n = s.size := by omega
    have q1 : (s.size : Int) ≤ (n : Int) := by omega
    rw [e1]
    clear e1
    go_enter Try.func14, Try.ntmps14
    go_wp2
    go_ret
    exact ⟨ret_string (by simp), hB⟩
  · have e1 : min s.size n = n := by omega
    have q1 : ¬ (s.size : Int) ≤ (n : Int) := by omega
    rw [e1]
    clear e1
    go_enter Try.func14, Try.ntmps14
    go_wp2
    go_ret
    exact ⟨rfl, hB⟩
end Go.Proofs.Ytefncnmahimgpaa
