/-
  No cell of these rows narrows 'for every input' (looked for: loops, veiled, ifaces, maps, wideKeys, modest, calm, conditions, laid).
  DERIVED. THE GIVEN ROWS OF THIS SEAT. 7 by the template 'for every input the law returns true; each argument reads behind the call as it read before'; 0 by the template 'total and deterministic' (their statements: YtokhapaffleffaaGreatTotals.lean).
  GIVEN WITH THE SEED: the statements are not yours to turn. If you find one false, say at which input.
  Laid BY PROGRAM, IN A SANDBOX (cutbox-rows.mjs): the forced cells as the released guide's own fill.sh prints them over the translation b9bbc10fb849c89b… (all of the seat's roots in one cut). By AI agents, Wed Nov 11 2026. No macro, syntax, notation, axiom, sorry.
-/
import Derived.Test.YtokhapaffleffaaGreatChecked
import GoSem.Claim
import GoSem.ClaimJoined
import GoSem.ClaimMapViews
import Derived.JoinedTies
import Derived.KernelRfl
namespace Go.Proofs.YtokhapaffleffaaGreat
/- THE CELL 'sum', in the pinned program and in every row, IS THE sha256 OF THE DUMP (.gsa) THAT YtokhapaffleffaaGreatProg.lean LOADS. Nothing in Lean hashes anything: it is a label: what it is worth is what the hold of that sum in a sandbox is worth. -/
noncomputable def Tryz.pinned : Pinned := { name := "ytokhapaffleffaagreat", sum := "b9bbc10fb849c89b0dd28e7e4fa88287e98794d4e9d99ae5e5d9c5fcbb7a8a4e", checked := Tryz.checked }
namespace Rows
def none {H : Type} : Left H := { results := [], args := [] }

/-- 'waypointlaw12.DagNext': WHATEVER THE INPUT: true; the input reads as it did. -/
def dagNextSpec : ChangeSpec := { name := "dagNext", fn := fun _ => fun
  | [d1, d2, d3] => { results := [.lit (.bool true)], args := [d1, d2, d3] }
  | _ => none }
def dagNextRow : OpenClaim := { program := "ytokhapaffleffaagreat", sum := "b9bbc10fb849c89b0dd28e7e4fa88287e98794d4e9d99ae5e5d9c5fcbb7a8a4e", func := "waypoint/waypointlaw12.DagNext", spec := "dagNext", unfollowed := true, recurses := true, named := ["math/bits.overflowError"], apart := false }
def DagNextSaid : Prop := dagNextRow.holds Tryz.pinned (OpenSpec.ofChange dagNextSpec)

/-- ITS FALSE NEIGHBOUR: 'it returns false'. Refute it at one input. -/
def dagNextWrong : ChangeSpec := { name := "dagNext", fn := fun _ => fun
  | [d1, d2, d3] => { results := [.lit (.bool false)], args := [d1, d2, d3] }
  | _ => none }
def DagNextWrongFalsely : Prop := dagNextRow.holds Tryz.pinned (OpenSpec.ofChange dagNextWrong)

/-- 'waypointlaw12.DagOrder': WHATEVER THE INPUT: true; the input reads as it did. -/
def dagOrderSpec : ChangeSpec := { name := "dagOrder", fn := fun _ => fun
  | [d1, d2, d3] => { results := [.lit (.bool true)], args := [d1, d2, d3] }
  | _ => none }
def dagOrderRow : OpenClaim := { program := "ytokhapaffleffaagreat", sum := "b9bbc10fb849c89b0dd28e7e4fa88287e98794d4e9d99ae5e5d9c5fcbb7a8a4e", func := "waypoint/waypointlaw12.DagOrder", spec := "dagOrder", unfollowed := true, recurses := true, named := ["math/bits.overflowError"], apart := false }
def DagOrderSaid : Prop := dagOrderRow.holds Tryz.pinned (OpenSpec.ofChange dagOrderSpec)

/-- ITS FALSE NEIGHBOUR: 'it returns false'. Refute it at one input. -/
def dagOrderWrong : ChangeSpec := { name := "dagOrder", fn := fun _ => fun
  | [d1, d2, d3] => { results := [.lit (.bool false)], args := [d1, d2, d3] }
  | _ => none }
def DagOrderWrongFalsely : Prop := dagOrderRow.holds Tryz.pinned (OpenSpec.ofChange dagOrderWrong)

/-- 'waypointlaw12.DagFollowed': WHATEVER THE INPUT: true; the input reads as it did. -/
def dagFollowedSpec : ChangeSpec := { name := "dagFollowed", fn := fun _ => fun
  | [d1, d2, d3, d4] => { results := [.lit (.bool true)], args := [d1, d2, d3, d4] }
  | _ => none }
def dagFollowedRow : OpenClaim := { program := "ytokhapaffleffaagreat", sum := "b9bbc10fb849c89b0dd28e7e4fa88287e98794d4e9d99ae5e5d9c5fcbb7a8a4e", func := "waypoint/waypointlaw12.DagFollowed", spec := "dagFollowed", unfollowed := true, recurses := true, named := ["math/bits.overflowError"], apart := false }
def DagFollowedSaid : Prop := dagFollowedRow.holds Tryz.pinned (OpenSpec.ofChange dagFollowedSpec)

/-- ITS FALSE NEIGHBOUR: 'it returns false'. Refute it at one input. -/
def dagFollowedWrong : ChangeSpec := { name := "dagFollowed", fn := fun _ => fun
  | [d1, d2, d3, d4] => { results := [.lit (.bool false)], args := [d1, d2, d3, d4] }
  | _ => none }
def DagFollowedWrongFalsely : Prop := dagFollowedRow.holds Tryz.pinned (OpenSpec.ofChange dagFollowedWrong)

/-- 'waypointlaw12.DagCount': WHATEVER THE INPUT: true; the input reads as it did. -/
def dagCountSpec : ChangeSpec := { name := "dagCount", fn := fun _ => fun
  | [d1, d2, d3] => { results := [.lit (.bool true)], args := [d1, d2, d3] }
  | _ => none }
def dagCountRow : OpenClaim := { program := "ytokhapaffleffaagreat", sum := "b9bbc10fb849c89b0dd28e7e4fa88287e98794d4e9d99ae5e5d9c5fcbb7a8a4e", func := "waypoint/waypointlaw12.DagCount", spec := "dagCount", unfollowed := true, recurses := true, named := ["math/bits.overflowError"], apart := false }
def DagCountSaid : Prop := dagCountRow.holds Tryz.pinned (OpenSpec.ofChange dagCountSpec)

/-- ITS FALSE NEIGHBOUR: 'it returns false'. Refute it at one input. -/
def dagCountWrong : ChangeSpec := { name := "dagCount", fn := fun _ => fun
  | [d1, d2, d3] => { results := [.lit (.bool false)], args := [d1, d2, d3] }
  | _ => none }
def DagCountWrongFalsely : Prop := dagCountRow.holds Tryz.pinned (OpenSpec.ofChange dagCountWrong)

/-- 'waypointlaw12.DagParts': WHATEVER THE INPUT: true; the input reads as it did. -/
def dagPartsSpec : ChangeSpec := { name := "dagParts", fn := fun _ => fun
  | [d1, d2, d3] => { results := [.lit (.bool true)], args := [d1, d2, d3] }
  | _ => none }
def dagPartsRow : OpenClaim := { program := "ytokhapaffleffaagreat", sum := "b9bbc10fb849c89b0dd28e7e4fa88287e98794d4e9d99ae5e5d9c5fcbb7a8a4e", func := "waypoint/waypointlaw12.DagParts", spec := "dagParts", unfollowed := true, recurses := true, named := ["math/bits.overflowError"], apart := false }
def DagPartsSaid : Prop := dagPartsRow.holds Tryz.pinned (OpenSpec.ofChange dagPartsSpec)

/-- ITS FALSE NEIGHBOUR: 'it returns false'. Refute it at one input. -/
def dagPartsWrong : ChangeSpec := { name := "dagParts", fn := fun _ => fun
  | [d1, d2, d3] => { results := [.lit (.bool false)], args := [d1, d2, d3] }
  | _ => none }
def DagPartsWrongFalsely : Prop := dagPartsRow.holds Tryz.pinned (OpenSpec.ofChange dagPartsWrong)

/-- 'waypointlaw12.DagRemains': WHATEVER THE INPUT: true; the input reads as it did. -/
def dagRemainsSpec : ChangeSpec := { name := "dagRemains", fn := fun _ => fun
  | [d1, d2, d3, d4] => { results := [.lit (.bool true)], args := [d1, d2, d3, d4] }
  | _ => none }
def dagRemainsRow : OpenClaim := { program := "ytokhapaffleffaagreat", sum := "b9bbc10fb849c89b0dd28e7e4fa88287e98794d4e9d99ae5e5d9c5fcbb7a8a4e", func := "waypoint/waypointlaw12.DagRemains", spec := "dagRemains", unfollowed := true, recurses := true, named := ["math/bits.overflowError"], apart := false }
def DagRemainsSaid : Prop := dagRemainsRow.holds Tryz.pinned (OpenSpec.ofChange dagRemainsSpec)

/-- ITS FALSE NEIGHBOUR: 'it returns false'. Refute it at one input. -/
def dagRemainsWrong : ChangeSpec := { name := "dagRemains", fn := fun _ => fun
  | [d1, d2, d3, d4] => { results := [.lit (.bool false)], args := [d1, d2, d3, d4] }
  | _ => none }
def DagRemainsWrongFalsely : Prop := dagRemainsRow.holds Tryz.pinned (OpenSpec.ofChange dagRemainsWrong)

/-- 'waypointlaw12.DagConserved': WHATEVER THE INPUT: true; the input reads as it did. -/
def dagConservedSpec : ChangeSpec := { name := "dagConserved", fn := fun _ => fun
  | [d1, d2, d3] => { results := [.lit (.bool true)], args := [d1, d2, d3] }
  | _ => none }
def dagConservedRow : OpenClaim := { program := "ytokhapaffleffaagreat", sum := "b9bbc10fb849c89b0dd28e7e4fa88287e98794d4e9d99ae5e5d9c5fcbb7a8a4e", func := "waypoint/waypointlaw12.DagConserved", spec := "dagConserved", unfollowed := true, recurses := true, named := ["math/bits.overflowError"], apart := false }
def DagConservedSaid : Prop := dagConservedRow.holds Tryz.pinned (OpenSpec.ofChange dagConservedSpec)

/-- ITS FALSE NEIGHBOUR: 'it returns false'. Refute it at one input. -/
def dagConservedWrong : ChangeSpec := { name := "dagConserved", fn := fun _ => fun
  | [d1, d2, d3] => { results := [.lit (.bool false)], args := [d1, d2, d3] }
  | _ => none }
def DagConservedWrongFalsely : Prop := dagConservedRow.holds Tryz.pinned (OpenSpec.ofChange dagConservedWrong)

/- THE SECOND FORM. 'bulk': how many values and letters a reading holds, each counted each time it is reached (what is shared counts as often as it is met; a slice's spare places count too). A statement '..UptoSaid' is the law's where the arguments, and the package variables that the reading takes, are together of bulk at most 1048576: NARROWER than '..Said'. Prove '..Said' where nothing that the law and all that it calls make is longer than what came in: it says more and counts as full. Else prove '..UptoSaid'. A law counts once. -/
mutual
def uptoBulk {H : Type} : DataW H → Nat
  | .lit (.string bytes) => bytes.length + 1
  | .lit _ => 1
  | .nil => 1
  | .ptr d => uptoBulk d + 1
  | .slice elems spare => uptoBulkAll elems + uptoBulkAll spare + 1
  | .agg parts => uptoBulkAll parts + 1
  | .iface _ d => uptoBulk d + 1
  | .map entries => uptoBulkEntries entries + 1
  | .held _ => 1
def uptoBulkAll {H : Type} : List (DataW H) → Nat
  | [] => 0
  | d :: r => uptoBulk d + uptoBulkAll r
def uptoBulkEntries {H : Type} : List (Lit × DataW H) → Nat
  | [] => 0
  | x :: r => uptoBulkEntry x + uptoBulkEntries r
def uptoBulkEntry {H : Type} : Lit × DataW H → Nat
  | (.string bytes, d) => bytes.length + uptoBulk d + 1
  | (_, d) => uptoBulk d + 1
 end
def uptoSmall : (H : Type) → List (DataW H) → Bool := fun _ ds => decide (uptoBulkAll ds ≤ 1048576)
def OpenSpec.upto (s : _root_.Go.ChangeSpec) : _root_.Go.OpenSpec := { _root_.Go.OpenSpec.ofChange s with cond := some uptoSmall }

/-- 'waypointlaw12.DagNext', WHERE WHAT IT READS IS OF BULK AT MOST 1048576: true; the input reads as it did. -/
def dagNextUptoRow : OpenClaim := { program := "ytokhapaffleffaagreat", sum := "b9bbc10fb849c89b0dd28e7e4fa88287e98794d4e9d99ae5e5d9c5fcbb7a8a4e", func := "waypoint/waypointlaw12.DagNext", spec := "dagNext", unfollowed := true, recurses := true, named := ["math/bits.overflowError"], apart := false, narrowed := true }
def DagNextUptoSaid : Prop := dagNextUptoRow.holds Tryz.pinned (OpenSpec.upto dagNextSpec)

/-- 'waypointlaw12.DagOrder', WHERE WHAT IT READS IS OF BULK AT MOST 1048576: true; the input reads as it did. -/
def dagOrderUptoRow : OpenClaim := { program := "ytokhapaffleffaagreat", sum := "b9bbc10fb849c89b0dd28e7e4fa88287e98794d4e9d99ae5e5d9c5fcbb7a8a4e", func := "waypoint/waypointlaw12.DagOrder", spec := "dagOrder", unfollowed := true, recurses := true, named := ["math/bits.overflowError"], apart := false, narrowed := true }
def DagOrderUptoSaid : Prop := dagOrderUptoRow.holds Tryz.pinned (OpenSpec.upto dagOrderSpec)

/-- 'waypointlaw12.DagFollowed', WHERE WHAT IT READS IS OF BULK AT MOST 1048576: true; the input reads as it did. -/
def dagFollowedUptoRow : OpenClaim := { program := "ytokhapaffleffaagreat", sum := "b9bbc10fb849c89b0dd28e7e4fa88287e98794d4e9d99ae5e5d9c5fcbb7a8a4e", func := "waypoint/waypointlaw12.DagFollowed", spec := "dagFollowed", unfollowed := true, recurses := true, named := ["math/bits.overflowError"], apart := false, narrowed := true }
def DagFollowedUptoSaid : Prop := dagFollowedUptoRow.holds Tryz.pinned (OpenSpec.upto dagFollowedSpec)

/-- 'waypointlaw12.DagCount', WHERE WHAT IT READS IS OF BULK AT MOST 1048576: true; the input reads as it did. -/
def dagCountUptoRow : OpenClaim := { program := "ytokhapaffleffaagreat", sum := "b9bbc10fb849c89b0dd28e7e4fa88287e98794d4e9d99ae5e5d9c5fcbb7a8a4e", func := "waypoint/waypointlaw12.DagCount", spec := "dagCount", unfollowed := true, recurses := true, named := ["math/bits.overflowError"], apart := false, narrowed := true }
def DagCountUptoSaid : Prop := dagCountUptoRow.holds Tryz.pinned (OpenSpec.upto dagCountSpec)

/-- 'waypointlaw12.DagParts', WHERE WHAT IT READS IS OF BULK AT MOST 1048576: true; the input reads as it did. -/
def dagPartsUptoRow : OpenClaim := { program := "ytokhapaffleffaagreat", sum := "b9bbc10fb849c89b0dd28e7e4fa88287e98794d4e9d99ae5e5d9c5fcbb7a8a4e", func := "waypoint/waypointlaw12.DagParts", spec := "dagParts", unfollowed := true, recurses := true, named := ["math/bits.overflowError"], apart := false, narrowed := true }
def DagPartsUptoSaid : Prop := dagPartsUptoRow.holds Tryz.pinned (OpenSpec.upto dagPartsSpec)

/-- 'waypointlaw12.DagRemains', WHERE WHAT IT READS IS OF BULK AT MOST 1048576: true; the input reads as it did. -/
def dagRemainsUptoRow : OpenClaim := { program := "ytokhapaffleffaagreat", sum := "b9bbc10fb849c89b0dd28e7e4fa88287e98794d4e9d99ae5e5d9c5fcbb7a8a4e", func := "waypoint/waypointlaw12.DagRemains", spec := "dagRemains", unfollowed := true, recurses := true, named := ["math/bits.overflowError"], apart := false, narrowed := true }
def DagRemainsUptoSaid : Prop := dagRemainsUptoRow.holds Tryz.pinned (OpenSpec.upto dagRemainsSpec)

/-- 'waypointlaw12.DagConserved', WHERE WHAT IT READS IS OF BULK AT MOST 1048576: true; the input reads as it did. -/
def dagConservedUptoRow : OpenClaim := { program := "ytokhapaffleffaagreat", sum := "b9bbc10fb849c89b0dd28e7e4fa88287e98794d4e9d99ae5e5d9c5fcbb7a8a4e", func := "waypoint/waypointlaw12.DagConserved", spec := "dagConserved", unfollowed := true, recurses := true, named := ["math/bits.overflowError"], apart := false, narrowed := true }
def DagConservedUptoSaid : Prop := dagConservedUptoRow.holds Tryz.pinned (OpenSpec.upto dagConservedSpec)

end Rows
end Go.Proofs.YtokhapaffleffaaGreat
