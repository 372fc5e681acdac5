/- Contracts of the reference's Digits and Print. -/
import Derived.Test.YtnoilnmkdahhiaaRows
import Derived.Test.YtnoilnmkdahhiaaBase
import Derived.Test.YtnoilnmkdahhiaaPrintW
import Derived.Test.YtnoilnmkdahhiaaRow
import Derived.WalkKit
import Derived.WalkSpells
import Derived.WalkLawsBesides
import Derived.Lib.Hide
import Derived.Deep.QuietTactic
import Derived.BigQuiet
import Derived.Outline
import Derived.IntWalk
namespace Go.Proofs.Ytnoilnmkdahhiaa
open Go.RowKit

/-- where the bytes of an identity lie -/
def IdAt (w : World) (g : Nat) (b : List UInt8) : Prop := ∀ k, k < b.length → w.cell? ⟨g, k, none⟩ = some (.int .u8 (byt b k))

theorem hexD_ext : ∀ n, n < 16 → (⟨#[48, 49, 50, 51, 52, 53, 54, 55, 56, 57, 97, 98, 99, 100, 101, 102]⟩ : ByteArray).extract n (n + 1) = ⟨[hexD n].toArray⟩ := by decide +kernel


theorem refIdInfo : (Try.prog.info? 28).map (·.size) = some 32 := by kernel_rfl
end Go.Proofs.Ytnoilnmkdahhiaa
