/-
  No cell of these rows narrows 'for every input' (looked for: loops, veiled, ifaces, maps, wideKeys, modest, calm, conditions, laid).
  DERIVED. THE GIVEN ROWS OF THIS SEAT. 5 by the template 'for every input the law returns true; each argument reads behind the call as it read before'; 0 by the template 'total and deterministic' (their statements: YteahhfmnicfmbaaTotals.lean).
  GIVEN WITH THE SEED: the statements are not yours to turn. If you find one false, say at which input.
  Laid BY PROGRAM, IN A SANDBOX (cutbox-rows.mjs): the forced cells as the released guide's own fill.sh prints them over the translation 82ff87d78df3e39c… (all of the seat's roots in one cut). By AI agents, Wed Nov 11 2026. No macro, syntax, notation, axiom, sorry.
-/
import Derived.Test.YteahhfmnicfmbaaChecked
import GoSem.Claim
import GoSem.ClaimJoined
import GoSem.ClaimMapViews
import Derived.JoinedTies
import Derived.KernelRfl
namespace Go.Proofs.Yteahhfmnicfmbaa
/- THE CELL 'sum', in the pinned program and in every row, IS THE sha256 OF THE DUMP (.gsa) THAT YteahhfmnicfmbaaProg.lean LOADS. Nothing in Lean hashes anything: it is a label: what it is worth is what the hold of that sum in a sandbox is worth. -/
noncomputable def Try.pinned : Pinned := { name := "yteahhfmnicfmbaa", sum := "82ff87d78df3e39c3dfa536d7e5a631df5af7309f9548ece6e793a000d46132d", checked := Try.checked }
namespace Rows
def none {H : Type} : Left H := { results := [], args := [] }

/-- 'bulletinlaw11.MsgidPrints': WHATEVER THE INPUT: true; the input reads as it did. -/
def msgidPrintsSpec : ChangeSpec := { name := "msgidPrints", fn := fun _ => fun
  | [d] => { results := [.lit (.bool true)], args := [d] }
  | _ => none }
def msgidPrintsRow : OpenClaim := { program := "yteahhfmnicfmbaa", sum := "82ff87d78df3e39c3dfa536d7e5a631df5af7309f9548ece6e793a000d46132d", func := "bulletin/bulletinlaw11.MsgidPrints", spec := "msgidPrints", inPlace := ["internal/abi.NoEscape", "internal/bytealg.IndexByteString", "internal/bytealg.Compare"], unfollowed := true, recurses := true, apart := false }
def MsgidPrintsSaid : Prop := msgidPrintsRow.holds Try.pinned (OpenSpec.ofChange msgidPrintsSpec)

/-- ITS FALSE NEIGHBOUR: 'it returns false'. Refute it at one input. -/
def msgidPrintsWrong : ChangeSpec := { name := "msgidPrints", fn := fun _ => fun
  | [d] => { results := [.lit (.bool false)], args := [d] }
  | _ => none }
def MsgidPrintsWrongFalsely : Prop := msgidPrintsRow.holds Try.pinned (OpenSpec.ofChange msgidPrintsWrong)

/-- 'bulletinlaw11.MsgidParses': WHATEVER THE INPUT: true; the input reads as it did. -/
def msgidParsesSpec : ChangeSpec := { name := "msgidParses", fn := fun _ => fun
  | [d] => { results := [.lit (.bool true)], args := [d] }
  | _ => none }
def msgidParsesRow : OpenClaim := { program := "yteahhfmnicfmbaa", sum := "82ff87d78df3e39c3dfa536d7e5a631df5af7309f9548ece6e793a000d46132d", func := "bulletin/bulletinlaw11.MsgidParses", spec := "msgidParses", inPlace := ["internal/abi.NoEscape", "internal/bytealg.IndexByteString", "internal/bytealg.Compare"], unfollowed := true, recurses := true, apart := false }
def MsgidParsesSaid : Prop := msgidParsesRow.holds Try.pinned (OpenSpec.ofChange msgidParsesSpec)

/-- ITS FALSE NEIGHBOUR: 'it returns false'. Refute it at one input. -/
def msgidParsesWrong : ChangeSpec := { name := "msgidParses", fn := fun _ => fun
  | [d] => { results := [.lit (.bool false)], args := [d] }
  | _ => none }
def MsgidParsesWrongFalsely : Prop := msgidParsesRow.holds Try.pinned (OpenSpec.ofChange msgidParsesWrong)

/-- 'bulletinlaw11.MsgidSpoilt': WHATEVER THE INPUT: true; the input reads as it did. -/
def msgidSpoiltSpec : ChangeSpec := { name := "msgidSpoilt", fn := fun _ => fun
  | [d1, d2, d3] => { results := [.lit (.bool true)], args := [d1, d2, d3] }
  | _ => none }
def msgidSpoiltRow : OpenClaim := { program := "yteahhfmnicfmbaa", sum := "82ff87d78df3e39c3dfa536d7e5a631df5af7309f9548ece6e793a000d46132d", func := "bulletin/bulletinlaw11.MsgidSpoilt", spec := "msgidSpoilt", inPlace := ["internal/abi.NoEscape", "internal/bytealg.IndexByteString", "internal/bytealg.Compare"], unfollowed := true, recurses := true, apart := false }
def MsgidSpoiltSaid : Prop := msgidSpoiltRow.holds Try.pinned (OpenSpec.ofChange msgidSpoiltSpec)

/-- ITS FALSE NEIGHBOUR: 'it returns false'. Refute it at one input. -/
def msgidSpoiltWrong : ChangeSpec := { name := "msgidSpoilt", fn := fun _ => fun
  | [d1, d2, d3] => { results := [.lit (.bool false)], args := [d1, d2, d3] }
  | _ => none }
def MsgidSpoiltWrongFalsely : Prop := msgidSpoiltRow.holds Try.pinned (OpenSpec.ofChange msgidSpoiltWrong)

/-- 'bulletinlaw11.MsgidCompares': WHATEVER THE INPUT: true; the input reads as it did. -/
def msgidComparesSpec : ChangeSpec := { name := "msgidCompares", fn := fun _ => fun
  | [d1, d2, d3] => { results := [.lit (.bool true)], args := [d1, d2, d3] }
  | _ => none }
def msgidComparesRow : OpenClaim := { program := "yteahhfmnicfmbaa", sum := "82ff87d78df3e39c3dfa536d7e5a631df5af7309f9548ece6e793a000d46132d", func := "bulletin/bulletinlaw11.MsgidCompares", spec := "msgidCompares", inPlace := ["internal/abi.NoEscape", "internal/bytealg.IndexByteString", "internal/bytealg.Compare"], unfollowed := true, recurses := true, apart := false }
def MsgidComparesSaid : Prop := msgidComparesRow.holds Try.pinned (OpenSpec.ofChange msgidComparesSpec)

/-- ITS FALSE NEIGHBOUR: 'it returns false'. Refute it at one input. -/
def msgidComparesWrong : ChangeSpec := { name := "msgidCompares", fn := fun _ => fun
  | [d1, d2, d3] => { results := [.lit (.bool false)], args := [d1, d2, d3] }
  | _ => none }
def MsgidComparesWrongFalsely : Prop := msgidComparesRow.holds Try.pinned (OpenSpec.ofChange msgidComparesWrong)

/-- 'bulletinlaw11.MsgidSites': WHATEVER THE INPUT: true; the input reads as it did. -/
def msgidSitesSpec : ChangeSpec := { name := "msgidSites", fn := fun _ => fun
  | [d] => { results := [.lit (.bool true)], args := [d] }
  | _ => none }
def msgidSitesRow : OpenClaim := { program := "yteahhfmnicfmbaa", sum := "82ff87d78df3e39c3dfa536d7e5a631df5af7309f9548ece6e793a000d46132d", func := "bulletin/bulletinlaw11.MsgidSites", spec := "msgidSites", inPlace := ["internal/abi.NoEscape", "internal/bytealg.IndexByteString", "internal/bytealg.Compare"], unfollowed := true, recurses := true, apart := false }
def MsgidSitesSaid : Prop := msgidSitesRow.holds Try.pinned (OpenSpec.ofChange msgidSitesSpec)

/-- ITS FALSE NEIGHBOUR: 'it returns false'. Refute it at one input. -/
def msgidSitesWrong : ChangeSpec := { name := "msgidSites", fn := fun _ => fun
  | [d] => { results := [.lit (.bool false)], args := [d] }
  | _ => none }
def MsgidSitesWrongFalsely : Prop := msgidSitesRow.holds Try.pinned (OpenSpec.ofChange msgidSitesWrong)

/- THE SECOND FORM. 'bulk': how many values and letters a reading holds, each counted each time it is reached (what is shared counts as often as it is met; a slice's spare places count too). A statement '..UptoSaid' is the law's where the arguments, and the package variables that the reading takes, are together of bulk at most 1048576: NARROWER than '..Said'. Prove '..Said' where nothing that the law and all that it calls make is longer than what came in: it says more and counts as full. Else prove '..UptoSaid'. A law counts once. -/
mutual
def uptoBulk {H : Type} : DataW H → Nat
  | .lit (.string bytes) => bytes.length + 1
  | .lit _ => 1
  | .nil => 1
  | .ptr d => uptoBulk d + 1
  | .slice elems spare => uptoBulkAll elems + uptoBulkAll spare + 1
  | .agg parts => uptoBulkAll parts + 1
  | .iface _ d => uptoBulk d + 1
  | .map entries => uptoBulkEntries entries + 1
  | .held _ => 1
def uptoBulkAll {H : Type} : List (DataW H) → Nat
  | [] => 0
  | d :: r => uptoBulk d + uptoBulkAll r
def uptoBulkEntries {H : Type} : List (Lit × DataW H) → Nat
  | [] => 0
  | x :: r => uptoBulkEntry x + uptoBulkEntries r
def uptoBulkEntry {H : Type} : Lit × DataW H → Nat
  | (.string bytes, d) => bytes.length + uptoBulk d + 1
  | (_, d) => uptoBulk d + 1
 end
def uptoSmall : (H : Type) → List (DataW H) → Bool := fun _ ds => decide (uptoBulkAll ds ≤ 1048576)
def OpenSpec.upto (s : _root_.Go.ChangeSpec) : _root_.Go.OpenSpec := { _root_.Go.OpenSpec.ofChange s with cond := some uptoSmall }

/-- 'bulletinlaw11.MsgidPrints', WHERE WHAT IT READS IS OF BULK AT MOST 1048576: true; the input reads as it did. -/
def msgidPrintsUptoRow : OpenClaim := { program := "yteahhfmnicfmbaa", sum := "82ff87d78df3e39c3dfa536d7e5a631df5af7309f9548ece6e793a000d46132d", func := "bulletin/bulletinlaw11.MsgidPrints", spec := "msgidPrints", inPlace := ["internal/abi.NoEscape", "internal/bytealg.IndexByteString", "internal/bytealg.Compare"], unfollowed := true, recurses := true, apart := false, narrowed := true }
def MsgidPrintsUptoSaid : Prop := msgidPrintsUptoRow.holds Try.pinned (OpenSpec.upto msgidPrintsSpec)

/-- 'bulletinlaw11.MsgidParses', WHERE WHAT IT READS IS OF BULK AT MOST 1048576: true; the input reads as it did. -/
def msgidParsesUptoRow : OpenClaim := { program := "yteahhfmnicfmbaa", sum := "82ff87d78df3e39c3dfa536d7e5a631df5af7309f9548ece6e793a000d46132d", func := "bulletin/bulletinlaw11.MsgidParses", spec := "msgidParses", inPlace := ["internal/abi.NoEscape", "internal/bytealg.IndexByteString", "internal/bytealg.Compare"], unfollowed := true, recurses := true, apart := false, narrowed := true }
def MsgidParsesUptoSaid : Prop := msgidParsesUptoRow.holds Try.pinned (OpenSpec.upto msgidParsesSpec)

/-- 'bulletinlaw11.MsgidSpoilt', WHERE WHAT IT READS IS OF BULK AT MOST 1048576: true; the input reads as it did. -/
def msgidSpoiltUptoRow : OpenClaim := { program := "yteahhfmnicfmbaa", sum := "82ff87d78df3e39c3dfa536d7e5a631df5af7309f9548ece6e793a000d46132d", func := "bulletin/bulletinlaw11.MsgidSpoilt", spec := "msgidSpoilt", inPlace := ["internal/abi.NoEscape", "internal/bytealg.IndexByteString", "internal/bytealg.Compare"], unfollowed := true, recurses := true, apart := false, narrowed := true }
def MsgidSpoiltUptoSaid : Prop := msgidSpoiltUptoRow.holds Try.pinned (OpenSpec.upto msgidSpoiltSpec)

/-- 'bulletinlaw11.MsgidCompares', WHERE WHAT IT READS IS OF BULK AT MOST 1048576: true; the input reads as it did. -/
def msgidComparesUptoRow : OpenClaim := { program := "yteahhfmnicfmbaa", sum := "82ff87d78df3e39c3dfa536d7e5a631df5af7309f9548ece6e793a000d46132d", func := "bulletin/bulletinlaw11.MsgidCompares", spec := "msgidCompares", inPlace := ["internal/abi.NoEscape", "internal/bytealg.IndexByteString", "internal/bytealg.Compare"], unfollowed := true, recurses := true, apart := false, narrowed := true }
def MsgidComparesUptoSaid : Prop := msgidComparesUptoRow.holds Try.pinned (OpenSpec.upto msgidComparesSpec)

/-- 'bulletinlaw11.MsgidSites', WHERE WHAT IT READS IS OF BULK AT MOST 1048576: true; the input reads as it did. -/
def msgidSitesUptoRow : OpenClaim := { program := "yteahhfmnicfmbaa", sum := "82ff87d78df3e39c3dfa536d7e5a631df5af7309f9548ece6e793a000d46132d", func := "bulletin/bulletinlaw11.MsgidSites", spec := "msgidSites", inPlace := ["internal/abi.NoEscape", "internal/bytealg.IndexByteString", "internal/bytealg.Compare"], unfollowed := true, recurses := true, apart := false, narrowed := true }
def MsgidSitesUptoSaid : Prop := msgidSitesUptoRow.holds Try.pinned (OpenSpec.upto msgidSitesSpec)

end Rows
end Go.Proofs.Yteahhfmnicfmbaa
