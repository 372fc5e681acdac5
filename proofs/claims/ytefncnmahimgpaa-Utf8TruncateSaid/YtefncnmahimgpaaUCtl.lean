/- Contracts of utf8.control and the reference's Control. -/
import Derived.Test.YtefncnmahimgpaaRows
import Derived.Test.YtefncnmahimgpaaBase
import Derived.Test.YtefncnmahimgpaaRow
import Derived.WalkKit
import Derived.OwnWalk
import Derived.WalkSpells
import Derived.WalkLawsBesides
import Derived.Lib.Hide
import Derived.Deep.QuietTactic
import Derived.BigQuiet
import Derived.Outline
namespace Go.Proofs.Ytefncnmahimgpaa
open Go.RowKit

/-- is a code point a control character? -/
def ctl (r : Nat) : Bool := decide (r ≤ 31) || (decide (127 ≤ r) && decide (r ≤ 159)) || (decide (r = 8232) || decide (r = 8233))

theorem control_any (r : Nat) (w : World) :
    Calls Try.prog 47 #[.int .i32 r] w fun e w' => e = .returned (.bool (ctl r)) ∧ w' = w := by
  by_cases q1 : (r : Int) ≤ 31 <;> by_cases q2 : (127 : Int) ≤ (r : Int) <;> by_cases q3 : (r : Int) ≤ 159 <;> cases q4 : ((r : Int) == 8232) <;> cases q5 : ((r : Int) == 8233)
  all_goals first
    | (exfalso; simp at q4 q5; omega)
    | (go_enter Try.func47, Try.ntmps47
       go_wp2
       go_ret
       refine ⟨ret_bool ?_, rfl⟩
       simp at q4 q5
       simp [ctl]
       omega)
theorem rcontrol_any (r : Nat) (w : World) :
    Calls Try.prog 28 #[.int .i64 r] w fun e w' => e = .returned (.bool (ctl r)) ∧ w' = w := by
  by_cases q1 : (r : Int) < 32 <;> by_cases q2 : (127 : Int) ≤ (r : Int) <;> by_cases q3 : (r : Int) ≤ 159 <;> cases q4 : ((r : Int) == 8232) <;> cases q5 : ((r : Int) == 8233)
  all_goals first
    | (exfalso; simp at q4 q5; omega)
    | (go_enter Try.func28, Try.ntmps28
       go_wp2
       go_ret
       refine ⟨ret_bool ?_, rfl⟩
       simp at q4 q5
       simp [ctl]
       omega)
end Go.Proofs.Ytefncnmahimgpaa
