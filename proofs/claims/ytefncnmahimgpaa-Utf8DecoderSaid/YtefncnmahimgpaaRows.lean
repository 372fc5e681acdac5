/-
  No cell of these rows narrows 'for every input' (looked for: loops, veiled, ifaces, maps, wideKeys, modest, calm, conditions, laid).
  DERIVED. THE GIVEN ROWS OF THIS SEAT. 11 by the template 'for every input the law returns true; each argument reads behind the call as it read before'; 0 by the template 'total and deterministic' (their statements: YtefncnmahimgpaaTotals.lean).
  GIVEN WITH THE SEED: the statements are not yours to turn. If you find one false, say at which input.
  Laid BY PROGRAM, IN A SANDBOX (cutbox-rows.mjs): the forced cells as the released guide's own fill.sh prints them over the translation b9e5d7eac5b79a40… (all of the seat's roots in one cut). By AI agents, Wed Nov 11 2026. No macro, syntax, notation, axiom, sorry.
-/
import Derived.Test.YtefncnmahimgpaaChecked
import GoSem.Claim
import GoSem.ClaimJoined
import GoSem.ClaimMapViews
import Derived.JoinedTies
import Derived.KernelRfl
namespace Go.Proofs.Ytefncnmahimgpaa
/- THE CELL 'sum', in the pinned program and in every row, IS THE sha256 OF THE DUMP (.gsa) THAT YtefncnmahimgpaaProg.lean LOADS. Nothing in Lean hashes anything: it is a label: what it is worth is what the hold of that sum in a sandbox is worth. -/
noncomputable def Try.pinned : Pinned := { name := "ytefncnmahimgpaa", sum := "b9e5d7eac5b79a406a50f733fca26a2a7fc7c67241b074637cadde71fd50dac4", checked := Try.checked }
namespace Rows
def none {H : Type} : Left H := { results := [], args := [] }

/-- 'bulletinlaw03.Utf8Check': WHATEVER THE INPUT: true; the input reads as it did. -/
def utf8CheckSpec : ChangeSpec := { name := "utf8Check", fn := fun _ => fun
  | [d] => { results := [.lit (.bool true)], args := [d] }
  | _ => none }
def utf8CheckRow : OpenClaim := { program := "ytefncnmahimgpaa", sum := "b9e5d7eac5b79a406a50f733fca26a2a7fc7c67241b074637cadde71fd50dac4", func := "bulletin/bulletinlaw03.Utf8Check", spec := "utf8Check", inPlace := ["internal/abi.NoEscape"], apart := false }
def Utf8CheckSaid : Prop := utf8CheckRow.holds Try.pinned (OpenSpec.ofChange utf8CheckSpec)

/-- ITS FALSE NEIGHBOUR: 'it returns false'. Refute it at one input. -/
def utf8CheckWrong : ChangeSpec := { name := "utf8Check", fn := fun _ => fun
  | [d] => { results := [.lit (.bool false)], args := [d] }
  | _ => none }
def Utf8CheckWrongFalsely : Prop := utf8CheckRow.holds Try.pinned (OpenSpec.ofChange utf8CheckWrong)

/-- 'bulletinlaw03.Utf8Decode': WHATEVER THE INPUT: true; the input reads as it did. -/
def utf8DecodeSpec : ChangeSpec := { name := "utf8Decode", fn := fun _ => fun
  | [d] => { results := [.lit (.bool true)], args := [d] }
  | _ => none }
def utf8DecodeRow : OpenClaim := { program := "ytefncnmahimgpaa", sum := "b9e5d7eac5b79a406a50f733fca26a2a7fc7c67241b074637cadde71fd50dac4", func := "bulletin/bulletinlaw03.Utf8Decode", spec := "utf8Decode", inPlace := ["internal/abi.NoEscape"], apart := false }
def Utf8DecodeSaid : Prop := utf8DecodeRow.holds Try.pinned (OpenSpec.ofChange utf8DecodeSpec)

/-- ITS FALSE NEIGHBOUR: 'it returns false'. Refute it at one input. -/
def utf8DecodeWrong : ChangeSpec := { name := "utf8Decode", fn := fun _ => fun
  | [d] => { results := [.lit (.bool false)], args := [d] }
  | _ => none }
def Utf8DecodeWrongFalsely : Prop := utf8DecodeRow.holds Try.pinned (OpenSpec.ofChange utf8DecodeWrong)

/-- 'bulletinlaw03.Utf8Encode': WHATEVER THE INPUT: true; the input reads as it did. -/
def utf8EncodeSpec : ChangeSpec := { name := "utf8Encode", fn := fun _ => fun
  | [d1, d2] => { results := [.lit (.bool true)], args := [d1, d2] }
  | _ => none }
def utf8EncodeRow : OpenClaim := { program := "ytefncnmahimgpaa", sum := "b9e5d7eac5b79a406a50f733fca26a2a7fc7c67241b074637cadde71fd50dac4", func := "bulletin/bulletinlaw03.Utf8Encode", spec := "utf8Encode", inPlace := ["internal/abi.NoEscape"], apart := false }
def Utf8EncodeSaid : Prop := utf8EncodeRow.holds Try.pinned (OpenSpec.ofChange utf8EncodeSpec)

/-- ITS FALSE NEIGHBOUR: 'it returns false'. Refute it at one input. -/
def utf8EncodeWrong : ChangeSpec := { name := "utf8Encode", fn := fun _ => fun
  | [d1, d2] => { results := [.lit (.bool false)], args := [d1, d2] }
  | _ => none }
def Utf8EncodeWrongFalsely : Prop := utf8EncodeRow.holds Try.pinned (OpenSpec.ofChange utf8EncodeWrong)

/-- 'bulletinlaw03.Utf8Repair': WHATEVER THE INPUT: true; the input reads as it did. -/
def utf8RepairSpec : ChangeSpec := { name := "utf8Repair", fn := fun _ => fun
  | [d] => { results := [.lit (.bool true)], args := [d] }
  | _ => none }
def utf8RepairRow : OpenClaim := { program := "ytefncnmahimgpaa", sum := "b9e5d7eac5b79a406a50f733fca26a2a7fc7c67241b074637cadde71fd50dac4", func := "bulletin/bulletinlaw03.Utf8Repair", spec := "utf8Repair", inPlace := ["internal/abi.NoEscape"], apart := false }
def Utf8RepairSaid : Prop := utf8RepairRow.holds Try.pinned (OpenSpec.ofChange utf8RepairSpec)

/-- ITS FALSE NEIGHBOUR: 'it returns false'. Refute it at one input. -/
def utf8RepairWrong : ChangeSpec := { name := "utf8Repair", fn := fun _ => fun
  | [d] => { results := [.lit (.bool false)], args := [d] }
  | _ => none }
def Utf8RepairWrongFalsely : Prop := utf8RepairRow.holds Try.pinned (OpenSpec.ofChange utf8RepairWrong)

/-- 'bulletinlaw03.Utf8Runes': WHATEVER THE INPUT: true; the input reads as it did. -/
def utf8RunesSpec : ChangeSpec := { name := "utf8Runes", fn := fun _ => fun
  | [d1, d2] => { results := [.lit (.bool true)], args := [d1, d2] }
  | _ => none }
def utf8RunesRow : OpenClaim := { program := "ytefncnmahimgpaa", sum := "b9e5d7eac5b79a406a50f733fca26a2a7fc7c67241b074637cadde71fd50dac4", func := "bulletin/bulletinlaw03.Utf8Runes", spec := "utf8Runes", inPlace := ["internal/abi.NoEscape"], unfollowed := true, recurses := true, apart := false }
def Utf8RunesSaid : Prop := utf8RunesRow.holds Try.pinned (OpenSpec.ofChange utf8RunesSpec)

/-- ITS FALSE NEIGHBOUR: 'it returns false'. Refute it at one input. -/
def utf8RunesWrong : ChangeSpec := { name := "utf8Runes", fn := fun _ => fun
  | [d1, d2] => { results := [.lit (.bool false)], args := [d1, d2] }
  | _ => none }
def Utf8RunesWrongFalsely : Prop := utf8RunesRow.holds Try.pinned (OpenSpec.ofChange utf8RunesWrong)

/-- 'bulletinlaw03.Utf8Order': WHATEVER THE INPUT: true; the input reads as it did. -/
def utf8OrderSpec : ChangeSpec := { name := "utf8Order", fn := fun _ => fun
  | [d1, d2] => { results := [.lit (.bool true)], args := [d1, d2] }
  | _ => none }
def utf8OrderRow : OpenClaim := { program := "ytefncnmahimgpaa", sum := "b9e5d7eac5b79a406a50f733fca26a2a7fc7c67241b074637cadde71fd50dac4", func := "bulletin/bulletinlaw03.Utf8Order", spec := "utf8Order", inPlace := ["internal/abi.NoEscape"], unfollowed := true, recurses := true, apart := false }
def Utf8OrderSaid : Prop := utf8OrderRow.holds Try.pinned (OpenSpec.ofChange utf8OrderSpec)

/-- ITS FALSE NEIGHBOUR: 'it returns false'. Refute it at one input. -/
def utf8OrderWrong : ChangeSpec := { name := "utf8Order", fn := fun _ => fun
  | [d1, d2] => { results := [.lit (.bool false)], args := [d1, d2] }
  | _ => none }
def Utf8OrderWrongFalsely : Prop := utf8OrderRow.holds Try.pinned (OpenSpec.ofChange utf8OrderWrong)

/-- 'bulletinlaw03.Utf8Printable': WHATEVER THE INPUT: true; the input reads as it did. -/
def utf8PrintableSpec : ChangeSpec := { name := "utf8Printable", fn := fun _ => fun
  | [d] => { results := [.lit (.bool true)], args := [d] }
  | _ => none }
def utf8PrintableRow : OpenClaim := { program := "ytefncnmahimgpaa", sum := "b9e5d7eac5b79a406a50f733fca26a2a7fc7c67241b074637cadde71fd50dac4", func := "bulletin/bulletinlaw03.Utf8Printable", spec := "utf8Printable", inPlace := ["internal/abi.NoEscape"], unfollowed := true, recurses := true, apart := false }
def Utf8PrintableSaid : Prop := utf8PrintableRow.holds Try.pinned (OpenSpec.ofChange utf8PrintableSpec)

/-- ITS FALSE NEIGHBOUR: 'it returns false'. Refute it at one input. -/
def utf8PrintableWrong : ChangeSpec := { name := "utf8Printable", fn := fun _ => fun
  | [d] => { results := [.lit (.bool false)], args := [d] }
  | _ => none }
def Utf8PrintableWrongFalsely : Prop := utf8PrintableRow.holds Try.pinned (OpenSpec.ofChange utf8PrintableWrong)

/-- 'bulletinlaw03.Utf8Pieces': WHATEVER THE INPUT: true; the input reads as it did. -/
def utf8PiecesSpec : ChangeSpec := { name := "utf8Pieces", fn := fun _ => fun
  | [d1, d2] => { results := [.lit (.bool true)], args := [d1, d2] }
  | _ => none }
def utf8PiecesRow : OpenClaim := { program := "ytefncnmahimgpaa", sum := "b9e5d7eac5b79a406a50f733fca26a2a7fc7c67241b074637cadde71fd50dac4", func := "bulletin/bulletinlaw03.Utf8Pieces", spec := "utf8Pieces", inPlace := ["internal/abi.NoEscape"], apart := false }
def Utf8PiecesSaid : Prop := utf8PiecesRow.holds Try.pinned (OpenSpec.ofChange utf8PiecesSpec)

/-- ITS FALSE NEIGHBOUR: 'it returns false'. Refute it at one input. -/
def utf8PiecesWrong : ChangeSpec := { name := "utf8Pieces", fn := fun _ => fun
  | [d1, d2] => { results := [.lit (.bool false)], args := [d1, d2] }
  | _ => none }
def Utf8PiecesWrongFalsely : Prop := utf8PiecesRow.holds Try.pinned (OpenSpec.ofChange utf8PiecesWrong)

/-- 'bulletinlaw03.Utf8Count': WHATEVER THE INPUT: true; the input reads as it did. -/
def utf8CountSpec : ChangeSpec := { name := "utf8Count", fn := fun _ => fun
  | [d1, d2] => { results := [.lit (.bool true)], args := [d1, d2] }
  | _ => none }
def utf8CountRow : OpenClaim := { program := "ytefncnmahimgpaa", sum := "b9e5d7eac5b79a406a50f733fca26a2a7fc7c67241b074637cadde71fd50dac4", func := "bulletin/bulletinlaw03.Utf8Count", spec := "utf8Count", inPlace := ["internal/abi.NoEscape"], unfollowed := true, recurses := true, apart := false }
def Utf8CountSaid : Prop := utf8CountRow.holds Try.pinned (OpenSpec.ofChange utf8CountSpec)

/-- ITS FALSE NEIGHBOUR: 'it returns false'. Refute it at one input. -/
def utf8CountWrong : ChangeSpec := { name := "utf8Count", fn := fun _ => fun
  | [d1, d2] => { results := [.lit (.bool false)], args := [d1, d2] }
  | _ => none }
def Utf8CountWrongFalsely : Prop := utf8CountRow.holds Try.pinned (OpenSpec.ofChange utf8CountWrong)

/-- 'bulletinlaw03.Utf8Decoder': WHATEVER THE INPUT: true; the input reads as it did. -/
def utf8DecoderSpec : ChangeSpec := { name := "utf8Decoder", fn := fun _ => fun
  | [d1, d2] => { results := [.lit (.bool true)], args := [d1, d2] }
  | _ => none }
def utf8DecoderRow : OpenClaim := { program := "ytefncnmahimgpaa", sum := "b9e5d7eac5b79a406a50f733fca26a2a7fc7c67241b074637cadde71fd50dac4", func := "bulletin/bulletinlaw03.Utf8Decoder", spec := "utf8Decoder", inPlace := ["internal/abi.NoEscape"], apart := false }
def Utf8DecoderSaid : Prop := utf8DecoderRow.holds Try.pinned (OpenSpec.ofChange utf8DecoderSpec)

/-- ITS FALSE NEIGHBOUR: 'it returns false'. Refute it at one input. -/
def utf8DecoderWrong : ChangeSpec := { name := "utf8Decoder", fn := fun _ => fun
  | [d1, d2] => { results := [.lit (.bool false)], args := [d1, d2] }
  | _ => none }
def Utf8DecoderWrongFalsely : Prop := utf8DecoderRow.holds Try.pinned (OpenSpec.ofChange utf8DecoderWrong)

/-- 'bulletinlaw03.Utf8Truncate': WHATEVER THE INPUT: true; the input reads as it did. -/
def utf8TruncateSpec : ChangeSpec := { name := "utf8Truncate", fn := fun _ => fun
  | [d1, d2] => { results := [.lit (.bool true)], args := [d1, d2] }
  | _ => none }
def utf8TruncateRow : OpenClaim := { program := "ytefncnmahimgpaa", sum := "b9e5d7eac5b79a406a50f733fca26a2a7fc7c67241b074637cadde71fd50dac4", func := "bulletin/bulletinlaw03.Utf8Truncate", spec := "utf8Truncate", inPlace := ["internal/abi.NoEscape"], unfollowed := true, recurses := true, apart := false }
def Utf8TruncateSaid : Prop := utf8TruncateRow.holds Try.pinned (OpenSpec.ofChange utf8TruncateSpec)

/-- ITS FALSE NEIGHBOUR: 'it returns false'. Refute it at one input. -/
def utf8TruncateWrong : ChangeSpec := { name := "utf8Truncate", fn := fun _ => fun
  | [d1, d2] => { results := [.lit (.bool false)], args := [d1, d2] }
  | _ => none }
def Utf8TruncateWrongFalsely : Prop := utf8TruncateRow.holds Try.pinned (OpenSpec.ofChange utf8TruncateWrong)

/- THE SECOND FORM. 'bulk': how many values and letters a reading holds, each counted each time it is reached (what is shared counts as often as it is met; a slice's spare places count too). A statement '..UptoSaid' is the law's where the arguments, and the package variables that the reading takes, are together of bulk at most 1048576: NARROWER than '..Said'. Prove '..Said' where nothing that the law and all that it calls make is longer than what came in: it says more and counts as full. Else prove '..UptoSaid'. A law counts once. -/
mutual
def uptoBulk {H : Type} : DataW H → Nat
  | .lit (.string bytes) => bytes.length + 1
  | .lit _ => 1
  | .nil => 1
  | .ptr d => uptoBulk d + 1
  | .slice elems spare => uptoBulkAll elems + uptoBulkAll spare + 1
  | .agg parts => uptoBulkAll parts + 1
  | .iface _ d => uptoBulk d + 1
  | .map entries => uptoBulkEntries entries + 1
  | .held _ => 1
def uptoBulkAll {H : Type} : List (DataW H) → Nat
  | [] => 0
  | d :: r => uptoBulk d + uptoBulkAll r
def uptoBulkEntries {H : Type} : List (Lit × DataW H) → Nat
  | [] => 0
  | x :: r => uptoBulkEntry x + uptoBulkEntries r
def uptoBulkEntry {H : Type} : Lit × DataW H → Nat
  | (.string bytes, d) => bytes.length + uptoBulk d + 1
  | (_, d) => uptoBulk d + 1
 end
def uptoSmall : (H : Type) → List (DataW H) → Bool := fun _ ds => decide (uptoBulkAll ds ≤ 1048576)
def OpenSpec.upto (s : _root_.Go.ChangeSpec) : _root_.Go.OpenSpec := { _root_.Go.OpenSpec.ofChange s with cond := some uptoSmall }

/-- 'bulletinlaw03.Utf8Check', WHERE WHAT IT READS IS OF BULK AT MOST 1048576: true; the input reads as it did. -/
def utf8CheckUptoRow : OpenClaim := { program := "ytefncnmahimgpaa", sum := "b9e5d7eac5b79a406a50f733fca26a2a7fc7c67241b074637cadde71fd50dac4", func := "bulletin/bulletinlaw03.Utf8Check", spec := "utf8Check", inPlace := ["internal/abi.NoEscape"], apart := false, narrowed := true }
def Utf8CheckUptoSaid : Prop := utf8CheckUptoRow.holds Try.pinned (OpenSpec.upto utf8CheckSpec)

/-- 'bulletinlaw03.Utf8Decode', WHERE WHAT IT READS IS OF BULK AT MOST 1048576: true; the input reads as it did. -/
def utf8DecodeUptoRow : OpenClaim := { program := "ytefncnmahimgpaa", sum := "b9e5d7eac5b79a406a50f733fca26a2a7fc7c67241b074637cadde71fd50dac4", func := "bulletin/bulletinlaw03.Utf8Decode", spec := "utf8Decode", inPlace := ["internal/abi.NoEscape"], apart := false, narrowed := true }
def Utf8DecodeUptoSaid : Prop := utf8DecodeUptoRow.holds Try.pinned (OpenSpec.upto utf8DecodeSpec)

/-- 'bulletinlaw03.Utf8Encode', WHERE WHAT IT READS IS OF BULK AT MOST 1048576: true; the input reads as it did. -/
def utf8EncodeUptoRow : OpenClaim := { program := "ytefncnmahimgpaa", sum := "b9e5d7eac5b79a406a50f733fca26a2a7fc7c67241b074637cadde71fd50dac4", func := "bulletin/bulletinlaw03.Utf8Encode", spec := "utf8Encode", inPlace := ["internal/abi.NoEscape"], apart := false, narrowed := true }
def Utf8EncodeUptoSaid : Prop := utf8EncodeUptoRow.holds Try.pinned (OpenSpec.upto utf8EncodeSpec)

/-- 'bulletinlaw03.Utf8Repair', WHERE WHAT IT READS IS OF BULK AT MOST 1048576: true; the input reads as it did. -/
def utf8RepairUptoRow : OpenClaim := { program := "ytefncnmahimgpaa", sum := "b9e5d7eac5b79a406a50f733fca26a2a7fc7c67241b074637cadde71fd50dac4", func := "bulletin/bulletinlaw03.Utf8Repair", spec := "utf8Repair", inPlace := ["internal/abi.NoEscape"], apart := false, narrowed := true }
def Utf8RepairUptoSaid : Prop := utf8RepairUptoRow.holds Try.pinned (OpenSpec.upto utf8RepairSpec)

/-- 'bulletinlaw03.Utf8Runes', WHERE WHAT IT READS IS OF BULK AT MOST 1048576: true; the input reads as it did. -/
def utf8RunesUptoRow : OpenClaim := { program := "ytefncnmahimgpaa", sum := "b9e5d7eac5b79a406a50f733fca26a2a7fc7c67241b074637cadde71fd50dac4", func := "bulletin/bulletinlaw03.Utf8Runes", spec := "utf8Runes", inPlace := ["internal/abi.NoEscape"], unfollowed := true, recurses := true, apart := false, narrowed := true }
def Utf8RunesUptoSaid : Prop := utf8RunesUptoRow.holds Try.pinned (OpenSpec.upto utf8RunesSpec)

/-- 'bulletinlaw03.Utf8Order', WHERE WHAT IT READS IS OF BULK AT MOST 1048576: true; the input reads as it did. -/
def utf8OrderUptoRow : OpenClaim := { program := "ytefncnmahimgpaa", sum := "b9e5d7eac5b79a406a50f733fca26a2a7fc7c67241b074637cadde71fd50dac4", func := "bulletin/bulletinlaw03.Utf8Order", spec := "utf8Order", inPlace := ["internal/abi.NoEscape"], unfollowed := true, recurses := true, apart := false, narrowed := true }
def Utf8OrderUptoSaid : Prop := utf8OrderUptoRow.holds Try.pinned (OpenSpec.upto utf8OrderSpec)

/-- 'bulletinlaw03.Utf8Printable', WHERE WHAT IT READS IS OF BULK AT MOST 1048576: true; the input reads as it did. -/
def utf8PrintableUptoRow : OpenClaim := { program := "ytefncnmahimgpaa", sum := "b9e5d7eac5b79a406a50f733fca26a2a7fc7c67241b074637cadde71fd50dac4", func := "bulletin/bulletinlaw03.Utf8Printable", spec := "utf8Printable", inPlace := ["internal/abi.NoEscape"], unfollowed := true, recurses := true, apart := false, narrowed := true }
def Utf8PrintableUptoSaid : Prop := utf8PrintableUptoRow.holds Try.pinned (OpenSpec.upto utf8PrintableSpec)

/-- 'bulletinlaw03.Utf8Pieces', WHERE WHAT IT READS IS OF BULK AT MOST 1048576: true; the input reads as it did. -/
def utf8PiecesUptoRow : OpenClaim := { program := "ytefncnmahimgpaa", sum := "b9e5d7eac5b79a406a50f733fca26a2a7fc7c67241b074637cadde71fd50dac4", func := "bulletin/bulletinlaw03.Utf8Pieces", spec := "utf8Pieces", inPlace := ["internal/abi.NoEscape"], apart := false, narrowed := true }
def Utf8PiecesUptoSaid : Prop := utf8PiecesUptoRow.holds Try.pinned (OpenSpec.upto utf8PiecesSpec)

/-- 'bulletinlaw03.Utf8Count', WHERE WHAT IT READS IS OF BULK AT MOST 1048576: true; the input reads as it did. -/
def utf8CountUptoRow : OpenClaim := { program := "ytefncnmahimgpaa", sum := "b9e5d7eac5b79a406a50f733fca26a2a7fc7c67241b074637cadde71fd50dac4", func := "bulletin/bulletinlaw03.Utf8Count", spec := "utf8Count", inPlace := ["internal/abi.NoEscape"], unfollowed := true, recurses := true, apart := false, narrowed := true }
def Utf8CountUptoSaid : Prop := utf8CountUptoRow.holds Try.pinned (OpenSpec.upto utf8CountSpec)

/-- 'bulletinlaw03.Utf8Decoder', WHERE WHAT IT READS IS OF BULK AT MOST 1048576: true; the input reads as it did. -/
def utf8DecoderUptoRow : OpenClaim := { program := "ytefncnmahimgpaa", sum := "b9e5d7eac5b79a406a50f733fca26a2a7fc7c67241b074637cadde71fd50dac4", func := "bulletin/bulletinlaw03.Utf8Decoder", spec := "utf8Decoder", inPlace := ["internal/abi.NoEscape"], apart := false, narrowed := true }
def Utf8DecoderUptoSaid : Prop := utf8DecoderUptoRow.holds Try.pinned (OpenSpec.upto utf8DecoderSpec)

/-- 'bulletinlaw03.Utf8Truncate', WHERE WHAT IT READS IS OF BULK AT MOST 1048576: true; the input reads as it did. -/
def utf8TruncateUptoRow : OpenClaim := { program := "ytefncnmahimgpaa", sum := "b9e5d7eac5b79a406a50f733fca26a2a7fc7c67241b074637cadde71fd50dac4", func := "bulletin/bulletinlaw03.Utf8Truncate", spec := "utf8Truncate", inPlace := ["internal/abi.NoEscape"], unfollowed := true, recurses := true, apart := false, narrowed := true }
def Utf8TruncateUptoSaid : Prop := utf8TruncateUptoRow.holds Try.pinned (OpenSpec.upto utf8TruncateSpec)

end Rows
end Go.Proofs.Ytefncnmahimgpaa
