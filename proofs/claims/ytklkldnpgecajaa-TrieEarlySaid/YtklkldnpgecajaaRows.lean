/-
  No cell of these rows narrows 'for every input' (looked for: loops, veiled, ifaces, maps, wideKeys, modest, calm, conditions, laid).
  DERIVED. THE GIVEN ROWS OF THIS SEAT. 7 by the template 'for every input the law returns true; each argument reads behind the call as it read before'; 0 by the template 'total and deterministic' (their statements: YtklkldnpgecajaaTotals.lean).
  GIVEN WITH THE SEED: the statements are not yours to turn. If you find one false, say at which input.
  Laid BY PROGRAM, IN A SANDBOX (cutbox-rows.mjs): the forced cells as the released guide's own fill.sh prints them over the translation 2bf4d6bd93d84754… (all of the seat's roots in one cut). By AI agents, Wed Nov 11 2026. No macro, syntax, notation, axiom, sorry.
-/
import Derived.Test.YtklkldnpgecajaaChecked
import GoSem.Claim
import GoSem.ClaimJoined
import GoSem.ClaimMapViews
import Derived.JoinedTies
import Derived.KernelRfl
namespace Go.Proofs.Ytklkldnpgecajaa
/- THE CELL 'sum', in the pinned program and in every row, IS THE sha256 OF THE DUMP (.gsa) THAT YtklkldnpgecajaaProg.lean LOADS. Nothing in Lean hashes anything: it is a label: what it is worth is what the hold of that sum in a sandbox is worth. -/
noncomputable def Try.pinned : Pinned := { name := "ytklkldnpgecajaa", sum := "2bf4d6bd93d847549a5af377fa67641f3b242ead5f96597ccdb35c92013d25d7", checked := Try.checked }
namespace Rows
def none {H : Type} : Left H := { results := [], args := [] }

/-- 'waypointlaw05.TrieOps': WHATEVER THE INPUT: true; the input reads as it did. -/
def trieOpsSpec : ChangeSpec := { name := "trieOps", fn := fun _ => fun
  | [d] => { results := [.lit (.bool true)], args := [d] }
  | _ => none }
def trieOpsRow : OpenClaim := { program := "ytklkldnpgecajaa", sum := "2bf4d6bd93d847549a5af377fa67641f3b242ead5f96597ccdb35c92013d25d7", func := "waypoint/waypointlaw05.TrieOps", spec := "trieOps", unfollowed := true, recurses := true, apart := false }
def TrieOpsSaid : Prop := trieOpsRow.holds Try.pinned (OpenSpec.ofChange trieOpsSpec)

/-- ITS FALSE NEIGHBOUR: 'it returns false'. Refute it at one input. -/
def trieOpsWrong : ChangeSpec := { name := "trieOps", fn := fun _ => fun
  | [d] => { results := [.lit (.bool false)], args := [d] }
  | _ => none }
def TrieOpsWrongFalsely : Prop := trieOpsRow.holds Try.pinned (OpenSpec.ofChange trieOpsWrong)

/-- 'waypointlaw05.TrieLookup': WHATEVER THE INPUT: true; the input reads as it did. -/
def trieLookupSpec : ChangeSpec := { name := "trieLookup", fn := fun _ => fun
  | [d1, d2, d3] => { results := [.lit (.bool true)], args := [d1, d2, d3] }
  | _ => none }
def trieLookupRow : OpenClaim := { program := "ytklkldnpgecajaa", sum := "2bf4d6bd93d847549a5af377fa67641f3b242ead5f96597ccdb35c92013d25d7", func := "waypoint/waypointlaw05.TrieLookup", spec := "trieLookup", unfollowed := true, recurses := true, apart := false }
def TrieLookupSaid : Prop := trieLookupRow.holds Try.pinned (OpenSpec.ofChange trieLookupSpec)

/-- ITS FALSE NEIGHBOUR: 'it returns false'. Refute it at one input. -/
def trieLookupWrong : ChangeSpec := { name := "trieLookup", fn := fun _ => fun
  | [d1, d2, d3] => { results := [.lit (.bool false)], args := [d1, d2, d3] }
  | _ => none }
def TrieLookupWrongFalsely : Prop := trieLookupRow.holds Try.pinned (OpenSpec.ofChange trieLookupWrong)

/-- 'waypointlaw05.TrieSize': WHATEVER THE INPUT: true; the input reads as it did. -/
def trieSizeSpec : ChangeSpec := { name := "trieSize", fn := fun _ => fun
  | [d] => { results := [.lit (.bool true)], args := [d] }
  | _ => none }
def trieSizeRow : OpenClaim := { program := "ytklkldnpgecajaa", sum := "2bf4d6bd93d847549a5af377fa67641f3b242ead5f96597ccdb35c92013d25d7", func := "waypoint/waypointlaw05.TrieSize", spec := "trieSize", unfollowed := true, recurses := true, apart := false }
def TrieSizeSaid : Prop := trieSizeRow.holds Try.pinned (OpenSpec.ofChange trieSizeSpec)

/-- ITS FALSE NEIGHBOUR: 'it returns false'. Refute it at one input. -/
def trieSizeWrong : ChangeSpec := { name := "trieSize", fn := fun _ => fun
  | [d] => { results := [.lit (.bool false)], args := [d] }
  | _ => none }
def TrieSizeWrongFalsely : Prop := trieSizeRow.holds Try.pinned (OpenSpec.ofChange trieSizeWrong)

/-- 'waypointlaw05.TrieOrder': WHATEVER THE INPUT: true; the input reads as it did. -/
def trieOrderSpec : ChangeSpec := { name := "trieOrder", fn := fun _ => fun
  | [d1, d2] => { results := [.lit (.bool true)], args := [d1, d2] }
  | _ => none }
def trieOrderRow : OpenClaim := { program := "ytklkldnpgecajaa", sum := "2bf4d6bd93d847549a5af377fa67641f3b242ead5f96597ccdb35c92013d25d7", func := "waypoint/waypointlaw05.TrieOrder", spec := "trieOrder", unfollowed := true, recurses := true, apart := false }
def TrieOrderSaid : Prop := trieOrderRow.holds Try.pinned (OpenSpec.ofChange trieOrderSpec)

/-- ITS FALSE NEIGHBOUR: 'it returns false'. Refute it at one input. -/
def trieOrderWrong : ChangeSpec := { name := "trieOrder", fn := fun _ => fun
  | [d1, d2] => { results := [.lit (.bool false)], args := [d1, d2] }
  | _ => none }
def TrieOrderWrongFalsely : Prop := trieOrderRow.holds Try.pinned (OpenSpec.ofChange trieOrderWrong)

/-- 'waypointlaw05.TrieEarly': WHATEVER THE INPUT: true; the input reads as it did. -/
def trieEarlySpec : ChangeSpec := { name := "trieEarly", fn := fun _ => fun
  | [d1, d2] => { results := [.lit (.bool true)], args := [d1, d2] }
  | _ => none }
def trieEarlyRow : OpenClaim := { program := "ytklkldnpgecajaa", sum := "2bf4d6bd93d847549a5af377fa67641f3b242ead5f96597ccdb35c92013d25d7", func := "waypoint/waypointlaw05.TrieEarly", spec := "trieEarly", unfollowed := true, recurses := true, apart := false }
def TrieEarlySaid : Prop := trieEarlyRow.holds Try.pinned (OpenSpec.ofChange trieEarlySpec)

/-- ITS FALSE NEIGHBOUR: 'it returns false'. Refute it at one input. -/
def trieEarlyWrong : ChangeSpec := { name := "trieEarly", fn := fun _ => fun
  | [d1, d2] => { results := [.lit (.bool false)], args := [d1, d2] }
  | _ => none }
def TrieEarlyWrongFalsely : Prop := trieEarlyRow.holds Try.pinned (OpenSpec.ofChange trieEarlyWrong)

/-- 'waypointlaw05.TrieUnder': WHATEVER THE INPUT: true; the input reads as it did. -/
def trieUnderSpec : ChangeSpec := { name := "trieUnder", fn := fun _ => fun
  | [d1, d2] => { results := [.lit (.bool true)], args := [d1, d2] }
  | _ => none }
def trieUnderRow : OpenClaim := { program := "ytklkldnpgecajaa", sum := "2bf4d6bd93d847549a5af377fa67641f3b242ead5f96597ccdb35c92013d25d7", func := "waypoint/waypointlaw05.TrieUnder", spec := "trieUnder", unfollowed := true, recurses := true, apart := false }
def TrieUnderSaid : Prop := trieUnderRow.holds Try.pinned (OpenSpec.ofChange trieUnderSpec)

/-- ITS FALSE NEIGHBOUR: 'it returns false'. Refute it at one input. -/
def trieUnderWrong : ChangeSpec := { name := "trieUnder", fn := fun _ => fun
  | [d1, d2] => { results := [.lit (.bool false)], args := [d1, d2] }
  | _ => none }
def TrieUnderWrongFalsely : Prop := trieUnderRow.holds Try.pinned (OpenSpec.ofChange trieUnderWrong)

/-- 'waypointlaw05.TrieNil': WHATEVER THE INPUT: true; the input reads as it did. -/
def trieNilSpec : ChangeSpec := { name := "trieNil", fn := fun _ => fun
  | [d] => { results := [.lit (.bool true)], args := [d] }
  | _ => none }
def trieNilRow : OpenClaim := { program := "ytklkldnpgecajaa", sum := "2bf4d6bd93d847549a5af377fa67641f3b242ead5f96597ccdb35c92013d25d7", func := "waypoint/waypointlaw05.TrieNil", spec := "trieNil", unfollowed := true, recurses := true, apart := false }
def TrieNilSaid : Prop := trieNilRow.holds Try.pinned (OpenSpec.ofChange trieNilSpec)

/-- ITS FALSE NEIGHBOUR: 'it returns false'. Refute it at one input. -/
def trieNilWrong : ChangeSpec := { name := "trieNil", fn := fun _ => fun
  | [d] => { results := [.lit (.bool false)], args := [d] }
  | _ => none }
def TrieNilWrongFalsely : Prop := trieNilRow.holds Try.pinned (OpenSpec.ofChange trieNilWrong)

/- THE SECOND FORM. 'bulk': how many values and letters a reading holds, each counted each time it is reached (what is shared counts as often as it is met; a slice's spare places count too). A statement '..UptoSaid' is the law's where the arguments, and the package variables that the reading takes, are together of bulk at most 1048576: NARROWER than '..Said'. Prove '..Said' where nothing that the law and all that it calls make is longer than what came in: it says more and counts as full. Else prove '..UptoSaid'. A law counts once. -/
mutual
def uptoBulk {H : Type} : DataW H → Nat
  | .lit (.string bytes) => bytes.length + 1
  | .lit _ => 1
  | .nil => 1
  | .ptr d => uptoBulk d + 1
  | .slice elems spare => uptoBulkAll elems + uptoBulkAll spare + 1
  | .agg parts => uptoBulkAll parts + 1
  | .iface _ d => uptoBulk d + 1
  | .map entries => uptoBulkEntries entries + 1
  | .held _ => 1
def uptoBulkAll {H : Type} : List (DataW H) → Nat
  | [] => 0
  | d :: r => uptoBulk d + uptoBulkAll r
def uptoBulkEntries {H : Type} : List (Lit × DataW H) → Nat
  | [] => 0
  | x :: r => uptoBulkEntry x + uptoBulkEntries r
def uptoBulkEntry {H : Type} : Lit × DataW H → Nat
  | (.string bytes, d) => bytes.length + uptoBulk d + 1
  | (_, d) => uptoBulk d + 1
 end
def uptoSmall : (H : Type) → List (DataW H) → Bool := fun _ ds => decide (uptoBulkAll ds ≤ 1048576)
def OpenSpec.upto (s : _root_.Go.ChangeSpec) : _root_.Go.OpenSpec := { _root_.Go.OpenSpec.ofChange s with cond := some uptoSmall }

/-- 'waypointlaw05.TrieOps', WHERE WHAT IT READS IS OF BULK AT MOST 1048576: true; the input reads as it did. -/
def trieOpsUptoRow : OpenClaim := { program := "ytklkldnpgecajaa", sum := "2bf4d6bd93d847549a5af377fa67641f3b242ead5f96597ccdb35c92013d25d7", func := "waypoint/waypointlaw05.TrieOps", spec := "trieOps", unfollowed := true, recurses := true, apart := false, narrowed := true }
def TrieOpsUptoSaid : Prop := trieOpsUptoRow.holds Try.pinned (OpenSpec.upto trieOpsSpec)

/-- 'waypointlaw05.TrieLookup', WHERE WHAT IT READS IS OF BULK AT MOST 1048576: true; the input reads as it did. -/
def trieLookupUptoRow : OpenClaim := { program := "ytklkldnpgecajaa", sum := "2bf4d6bd93d847549a5af377fa67641f3b242ead5f96597ccdb35c92013d25d7", func := "waypoint/waypointlaw05.TrieLookup", spec := "trieLookup", unfollowed := true, recurses := true, apart := false, narrowed := true }
def TrieLookupUptoSaid : Prop := trieLookupUptoRow.holds Try.pinned (OpenSpec.upto trieLookupSpec)

/-- 'waypointlaw05.TrieSize', WHERE WHAT IT READS IS OF BULK AT MOST 1048576: true; the input reads as it did. -/
def trieSizeUptoRow : OpenClaim := { program := "ytklkldnpgecajaa", sum := "2bf4d6bd93d847549a5af377fa67641f3b242ead5f96597ccdb35c92013d25d7", func := "waypoint/waypointlaw05.TrieSize", spec := "trieSize", unfollowed := true, recurses := true, apart := false, narrowed := true }
def TrieSizeUptoSaid : Prop := trieSizeUptoRow.holds Try.pinned (OpenSpec.upto trieSizeSpec)

/-- 'waypointlaw05.TrieOrder', WHERE WHAT IT READS IS OF BULK AT MOST 1048576: true; the input reads as it did. -/
def trieOrderUptoRow : OpenClaim := { program := "ytklkldnpgecajaa", sum := "2bf4d6bd93d847549a5af377fa67641f3b242ead5f96597ccdb35c92013d25d7", func := "waypoint/waypointlaw05.TrieOrder", spec := "trieOrder", unfollowed := true, recurses := true, apart := false, narrowed := true }
def TrieOrderUptoSaid : Prop := trieOrderUptoRow.holds Try.pinned (OpenSpec.upto trieOrderSpec)

/-- 'waypointlaw05.TrieEarly', WHERE WHAT IT READS IS OF BULK AT MOST 1048576: true; the input reads as it did. -/
def trieEarlyUptoRow : OpenClaim := { program := "ytklkldnpgecajaa", sum := "2bf4d6bd93d847549a5af377fa67641f3b242ead5f96597ccdb35c92013d25d7", func := "waypoint/waypointlaw05.TrieEarly", spec := "trieEarly", unfollowed := true, recurses := true, apart := false, narrowed := true }
def TrieEarlyUptoSaid : Prop := trieEarlyUptoRow.holds Try.pinned (OpenSpec.upto trieEarlySpec)

/-- 'waypointlaw05.TrieUnder', WHERE WHAT IT READS IS OF BULK AT MOST 1048576: true; the input reads as it did. -/
def trieUnderUptoRow : OpenClaim := { program := "ytklkldnpgecajaa", sum := "2bf4d6bd93d847549a5af377fa67641f3b242ead5f96597ccdb35c92013d25d7", func := "waypoint/waypointlaw05.TrieUnder", spec := "trieUnder", unfollowed := true, recurses := true, apart := false, narrowed := true }
def TrieUnderUptoSaid : Prop := trieUnderUptoRow.holds Try.pinned (OpenSpec.upto trieUnderSpec)

/-- 'waypointlaw05.TrieNil', WHERE WHAT IT READS IS OF BULK AT MOST 1048576: true; the input reads as it did. -/
def trieNilUptoRow : OpenClaim := { program := "ytklkldnpgecajaa", sum := "2bf4d6bd93d847549a5af377fa67641f3b242ead5f96597ccdb35c92013d25d7", func := "waypoint/waypointlaw05.TrieNil", spec := "trieNil", unfollowed := true, recurses := true, apart := false, narrowed := true }
def TrieNilUptoSaid : Prop := trieNilUptoRow.holds Try.pinned (OpenSpec.upto trieNilSpec)

end Rows
end Go.Proofs.Ytklkldnpgecajaa
