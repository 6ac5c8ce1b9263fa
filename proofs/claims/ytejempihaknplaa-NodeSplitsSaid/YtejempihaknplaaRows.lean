/-
  No cell of these rows narrows 'for every input' (looked for: loops, veiled, ifaces, maps, wideKeys, modest, calm, conditions, laid).
  DERIVED. THE GIVEN ROWS OF THIS SEAT. 7 by the template 'for every input the law returns true; each argument reads behind the call as it read before'; 0 by the template 'total and deterministic' (their statements: YtejempihaknplaaTotals.lean).
  GIVEN WITH THE SEED: the statements are not yours to turn. If you find one false, say at which input.
  Laid BY PROGRAM, IN A SANDBOX (cutbox-rows.mjs): the forced cells as the released guide's own fill.sh prints them over the translation 8ed18ea244277002… (all of the seat's roots in one cut). By AI agents, Wed Nov 11 2026. No macro, syntax, notation, axiom, sorry.
-/
import Derived.Test.YtejempihaknplaaChecked
import GoSem.Claim
import GoSem.ClaimJoined
import GoSem.ClaimMapViews
import Derived.JoinedTies
import Derived.KernelRfl
namespace Go.Proofs.Ytejempihaknplaa
/- THE CELL 'sum', in the pinned program and in every row, IS THE sha256 OF THE DUMP (.gsa) THAT YtejempihaknplaaProg.lean LOADS. Nothing in Lean hashes anything: it is a label: what it is worth is what the hold of that sum in a sandbox is worth. -/
noncomputable def Try.pinned : Pinned := { name := "ytejempihaknplaa", sum := "8ed18ea2442770026885350b1b6a63b7e98251b47723889505e8acba25801d3f", checked := Try.checked }
namespace Rows
def none {H : Type} : Left H := { results := [], args := [] }

/-- 'bazaarlaw06.NodeBytes': WHATEVER THE INPUT: true; the input reads as it did. -/
def nodeBytesSpec : ChangeSpec := { name := "nodeBytes", fn := fun _ => fun
  | [d1, d2] => { results := [.lit (.bool true)], args := [d1, d2] }
  | _ => none }
def nodeBytesRow : OpenClaim := { program := "ytejempihaknplaa", sum := "8ed18ea2442770026885350b1b6a63b7e98251b47723889505e8acba25801d3f", func := "bazaar/bazaarlaw06.NodeBytes", spec := "nodeBytes", inPlace := ["internal/abi.NoEscape", "internal/bytealg.MakeNoZero"], unfollowed := true, recurses := true, apart := false }
def NodeBytesSaid : Prop := nodeBytesRow.holds Try.pinned (OpenSpec.ofChange nodeBytesSpec)

/-- ITS FALSE NEIGHBOUR: 'it returns false'. Refute it at one input. -/
def nodeBytesWrong : ChangeSpec := { name := "nodeBytes", fn := fun _ => fun
  | [d1, d2] => { results := [.lit (.bool false)], args := [d1, d2] }
  | _ => none }
def NodeBytesWrongFalsely : Prop := nodeBytesRow.holds Try.pinned (OpenSpec.ofChange nodeBytesWrong)

/-- 'bazaarlaw06.NodeSizes': WHATEVER THE INPUT: true; the input reads as it did. -/
def nodeSizesSpec : ChangeSpec := { name := "nodeSizes", fn := fun _ => fun
  | [d] => { results := [.lit (.bool true)], args := [d] }
  | _ => none }
def nodeSizesRow : OpenClaim := { program := "ytejempihaknplaa", sum := "8ed18ea2442770026885350b1b6a63b7e98251b47723889505e8acba25801d3f", func := "bazaar/bazaarlaw06.NodeSizes", spec := "nodeSizes", inPlace := ["internal/abi.NoEscape", "internal/bytealg.MakeNoZero"], unfollowed := true, recurses := true, apart := false }
def NodeSizesSaid : Prop := nodeSizesRow.holds Try.pinned (OpenSpec.ofChange nodeSizesSpec)

/-- ITS FALSE NEIGHBOUR: 'it returns false'. Refute it at one input. -/
def nodeSizesWrong : ChangeSpec := { name := "nodeSizes", fn := fun _ => fun
  | [d] => { results := [.lit (.bool false)], args := [d] }
  | _ => none }
def NodeSizesWrongFalsely : Prop := nodeSizesRow.holds Try.pinned (OpenSpec.ofChange nodeSizesWrong)

/-- 'bazaarlaw06.NodePlaces': WHATEVER THE INPUT: true; the input reads as it did. -/
def nodePlacesSpec : ChangeSpec := { name := "nodePlaces", fn := fun _ => fun
  | [d1, d2] => { results := [.lit (.bool true)], args := [d1, d2] }
  | _ => none }
def nodePlacesRow : OpenClaim := { program := "ytejempihaknplaa", sum := "8ed18ea2442770026885350b1b6a63b7e98251b47723889505e8acba25801d3f", func := "bazaar/bazaarlaw06.NodePlaces", spec := "nodePlaces", inPlace := ["internal/abi.NoEscape", "internal/bytealg.MakeNoZero"], unfollowed := true, recurses := true, apart := false }
def NodePlacesSaid : Prop := nodePlacesRow.holds Try.pinned (OpenSpec.ofChange nodePlacesSpec)

/-- ITS FALSE NEIGHBOUR: 'it returns false'. Refute it at one input. -/
def nodePlacesWrong : ChangeSpec := { name := "nodePlaces", fn := fun _ => fun
  | [d1, d2] => { results := [.lit (.bool false)], args := [d1, d2] }
  | _ => none }
def NodePlacesWrongFalsely : Prop := nodePlacesRow.holds Try.pinned (OpenSpec.ofChange nodePlacesWrong)

/-- 'bazaarlaw06.NodePuts': WHATEVER THE INPUT: true; the input reads as it did. -/
def nodePutsSpec : ChangeSpec := { name := "nodePuts", fn := fun _ => fun
  | [d1, d2, d3] => { results := [.lit (.bool true)], args := [d1, d2, d3] }
  | _ => none }
def nodePutsRow : OpenClaim := { program := "ytejempihaknplaa", sum := "8ed18ea2442770026885350b1b6a63b7e98251b47723889505e8acba25801d3f", func := "bazaar/bazaarlaw06.NodePuts", spec := "nodePuts", inPlace := ["internal/abi.NoEscape", "internal/bytealg.MakeNoZero"], unfollowed := true, recurses := true, apart := false }
def NodePutsSaid : Prop := nodePutsRow.holds Try.pinned (OpenSpec.ofChange nodePutsSpec)

/-- ITS FALSE NEIGHBOUR: 'it returns false'. Refute it at one input. -/
def nodePutsWrong : ChangeSpec := { name := "nodePuts", fn := fun _ => fun
  | [d1, d2, d3] => { results := [.lit (.bool false)], args := [d1, d2, d3] }
  | _ => none }
def NodePutsWrongFalsely : Prop := nodePutsRow.holds Try.pinned (OpenSpec.ofChange nodePutsWrong)

/-- 'bazaarlaw06.NodeFinds': WHATEVER THE INPUT: true; the input reads as it did. -/
def nodeFindsSpec : ChangeSpec := { name := "nodeFinds", fn := fun _ => fun
  | [d1, d2] => { results := [.lit (.bool true)], args := [d1, d2] }
  | _ => none }
def nodeFindsRow : OpenClaim := { program := "ytejempihaknplaa", sum := "8ed18ea2442770026885350b1b6a63b7e98251b47723889505e8acba25801d3f", func := "bazaar/bazaarlaw06.NodeFinds", spec := "nodeFinds", inPlace := ["internal/abi.NoEscape", "internal/bytealg.MakeNoZero"], unfollowed := true, recurses := true, apart := false }
def NodeFindsSaid : Prop := nodeFindsRow.holds Try.pinned (OpenSpec.ofChange nodeFindsSpec)

/-- ITS FALSE NEIGHBOUR: 'it returns false'. Refute it at one input. -/
def nodeFindsWrong : ChangeSpec := { name := "nodeFinds", fn := fun _ => fun
  | [d1, d2] => { results := [.lit (.bool false)], args := [d1, d2] }
  | _ => none }
def NodeFindsWrongFalsely : Prop := nodeFindsRow.holds Try.pinned (OpenSpec.ofChange nodeFindsWrong)

/-- 'bazaarlaw06.NodeHalves': WHATEVER THE INPUT: true; the input reads as it did. -/
def nodeHalvesSpec : ChangeSpec := { name := "nodeHalves", fn := fun _ => fun
  | [d] => { results := [.lit (.bool true)], args := [d] }
  | _ => none }
def nodeHalvesRow : OpenClaim := { program := "ytejempihaknplaa", sum := "8ed18ea2442770026885350b1b6a63b7e98251b47723889505e8acba25801d3f", func := "bazaar/bazaarlaw06.NodeHalves", spec := "nodeHalves", inPlace := ["internal/abi.NoEscape", "internal/bytealg.MakeNoZero"], unfollowed := true, recurses := true, apart := false }
def NodeHalvesSaid : Prop := nodeHalvesRow.holds Try.pinned (OpenSpec.ofChange nodeHalvesSpec)

/-- ITS FALSE NEIGHBOUR: 'it returns false'. Refute it at one input. -/
def nodeHalvesWrong : ChangeSpec := { name := "nodeHalves", fn := fun _ => fun
  | [d] => { results := [.lit (.bool false)], args := [d] }
  | _ => none }
def NodeHalvesWrongFalsely : Prop := nodeHalvesRow.holds Try.pinned (OpenSpec.ofChange nodeHalvesWrong)

/-- 'bazaarlaw06.NodeSplits': WHATEVER THE INPUT: true; the input reads as it did. -/
def nodeSplitsSpec : ChangeSpec := { name := "nodeSplits", fn := fun _ => fun
  | [d1, d2, d3] => { results := [.lit (.bool true)], args := [d1, d2, d3] }
  | _ => none }
def nodeSplitsRow : OpenClaim := { program := "ytejempihaknplaa", sum := "8ed18ea2442770026885350b1b6a63b7e98251b47723889505e8acba25801d3f", func := "bazaar/bazaarlaw06.NodeSplits", spec := "nodeSplits", inPlace := ["internal/abi.NoEscape", "internal/bytealg.MakeNoZero"], unfollowed := true, recurses := true, apart := false }
def NodeSplitsSaid : Prop := nodeSplitsRow.holds Try.pinned (OpenSpec.ofChange nodeSplitsSpec)

/-- ITS FALSE NEIGHBOUR: 'it returns false'. Refute it at one input. -/
def nodeSplitsWrong : ChangeSpec := { name := "nodeSplits", fn := fun _ => fun
  | [d1, d2, d3] => { results := [.lit (.bool false)], args := [d1, d2, d3] }
  | _ => none }
def NodeSplitsWrongFalsely : Prop := nodeSplitsRow.holds Try.pinned (OpenSpec.ofChange nodeSplitsWrong)

/- THE SECOND FORM. 'bulk': how many values and letters a reading holds, each counted each time it is reached (what is shared counts as often as it is met; a slice's spare places count too). A statement '..UptoSaid' is the law's where the arguments, and the package variables that the reading takes, are together of bulk at most 1048576: NARROWER than '..Said'. Prove '..Said' where nothing that the law and all that it calls make is longer than what came in: it says more and counts as full. Else prove '..UptoSaid'. A law counts once. -/
mutual
def uptoBulk {H : Type} : DataW H → Nat
  | .lit (.string bytes) => bytes.length + 1
  | .lit _ => 1
  | .nil => 1
  | .ptr d => uptoBulk d + 1
  | .slice elems spare => uptoBulkAll elems + uptoBulkAll spare + 1
  | .agg parts => uptoBulkAll parts + 1
  | .iface _ d => uptoBulk d + 1
  | .map entries => uptoBulkEntries entries + 1
  | .held _ => 1
def uptoBulkAll {H : Type} : List (DataW H) → Nat
  | [] => 0
  | d :: r => uptoBulk d + uptoBulkAll r
def uptoBulkEntries {H : Type} : List (Lit × DataW H) → Nat
  | [] => 0
  | x :: r => uptoBulkEntry x + uptoBulkEntries r
def uptoBulkEntry {H : Type} : Lit × DataW H → Nat
  | (.string bytes, d) => bytes.length + uptoBulk d + 1
  | (_, d) => uptoBulk d + 1
 end
def uptoSmall : (H : Type) → List (DataW H) → Bool := fun _ ds => decide (uptoBulkAll ds ≤ 1048576)
def OpenSpec.upto (s : _root_.Go.ChangeSpec) : _root_.Go.OpenSpec := { _root_.Go.OpenSpec.ofChange s with cond := some uptoSmall }

/-- 'bazaarlaw06.NodeBytes', WHERE WHAT IT READS IS OF BULK AT MOST 1048576: true; the input reads as it did. -/
def nodeBytesUptoRow : OpenClaim := { program := "ytejempihaknplaa", sum := "8ed18ea2442770026885350b1b6a63b7e98251b47723889505e8acba25801d3f", func := "bazaar/bazaarlaw06.NodeBytes", spec := "nodeBytes", inPlace := ["internal/abi.NoEscape", "internal/bytealg.MakeNoZero"], unfollowed := true, recurses := true, apart := false, narrowed := true }
def NodeBytesUptoSaid : Prop := nodeBytesUptoRow.holds Try.pinned (OpenSpec.upto nodeBytesSpec)

/-- 'bazaarlaw06.NodeSizes', WHERE WHAT IT READS IS OF BULK AT MOST 1048576: true; the input reads as it did. -/
def nodeSizesUptoRow : OpenClaim := { program := "ytejempihaknplaa", sum := "8ed18ea2442770026885350b1b6a63b7e98251b47723889505e8acba25801d3f", func := "bazaar/bazaarlaw06.NodeSizes", spec := "nodeSizes", inPlace := ["internal/abi.NoEscape", "internal/bytealg.MakeNoZero"], unfollowed := true, recurses := true, apart := false, narrowed := true }
def NodeSizesUptoSaid : Prop := nodeSizesUptoRow.holds Try.pinned (OpenSpec.upto nodeSizesSpec)

/-- 'bazaarlaw06.NodePlaces', WHERE WHAT IT READS IS OF BULK AT MOST 1048576: true; the input reads as it did. -/
def nodePlacesUptoRow : OpenClaim := { program := "ytejempihaknplaa", sum := "8ed18ea2442770026885350b1b6a63b7e98251b47723889505e8acba25801d3f", func := "bazaar/bazaarlaw06.NodePlaces", spec := "nodePlaces", inPlace := ["internal/abi.NoEscape", "internal/bytealg.MakeNoZero"], unfollowed := true, recurses := true, apart := false, narrowed := true }
def NodePlacesUptoSaid : Prop := nodePlacesUptoRow.holds Try.pinned (OpenSpec.upto nodePlacesSpec)

/-- 'bazaarlaw06.NodePuts', WHERE WHAT IT READS IS OF BULK AT MOST 1048576: true; the input reads as it did. -/
def nodePutsUptoRow : OpenClaim := { program := "ytejempihaknplaa", sum := "8ed18ea2442770026885350b1b6a63b7e98251b47723889505e8acba25801d3f", func := "bazaar/bazaarlaw06.NodePuts", spec := "nodePuts", inPlace := ["internal/abi.NoEscape", "internal/bytealg.MakeNoZero"], unfollowed := true, recurses := true, apart := false, narrowed := true }
def NodePutsUptoSaid : Prop := nodePutsUptoRow.holds Try.pinned (OpenSpec.upto nodePutsSpec)

/-- 'bazaarlaw06.NodeFinds', WHERE WHAT IT READS IS OF BULK AT MOST 1048576: true; the input reads as it did. -/
def nodeFindsUptoRow : OpenClaim := { program := "ytejempihaknplaa", sum := "8ed18ea2442770026885350b1b6a63b7e98251b47723889505e8acba25801d3f", func := "bazaar/bazaarlaw06.NodeFinds", spec := "nodeFinds", inPlace := ["internal/abi.NoEscape", "internal/bytealg.MakeNoZero"], unfollowed := true, recurses := true, apart := false, narrowed := true }
def NodeFindsUptoSaid : Prop := nodeFindsUptoRow.holds Try.pinned (OpenSpec.upto nodeFindsSpec)

/-- 'bazaarlaw06.NodeHalves', WHERE WHAT IT READS IS OF BULK AT MOST 1048576: true; the input reads as it did. -/
def nodeHalvesUptoRow : OpenClaim := { program := "ytejempihaknplaa", sum := "8ed18ea2442770026885350b1b6a63b7e98251b47723889505e8acba25801d3f", func := "bazaar/bazaarlaw06.NodeHalves", spec := "nodeHalves", inPlace := ["internal/abi.NoEscape", "internal/bytealg.MakeNoZero"], unfollowed := true, recurses := true, apart := false, narrowed := true }
def NodeHalvesUptoSaid : Prop := nodeHalvesUptoRow.holds Try.pinned (OpenSpec.upto nodeHalvesSpec)

/-- 'bazaarlaw06.NodeSplits', WHERE WHAT IT READS IS OF BULK AT MOST 1048576: true; the input reads as it did. -/
def nodeSplitsUptoRow : OpenClaim := { program := "ytejempihaknplaa", sum := "8ed18ea2442770026885350b1b6a63b7e98251b47723889505e8acba25801d3f", func := "bazaar/bazaarlaw06.NodeSplits", spec := "nodeSplits", inPlace := ["internal/abi.NoEscape", "internal/bytealg.MakeNoZero"], unfollowed := true, recurses := true, apart := false, narrowed := true }
def NodeSplitsUptoSaid : Prop := nodeSplitsUptoRow.holds Try.pinned (OpenSpec.upto nodeSplitsSpec)

end Rows
end Go.Proofs.Ytejempihaknplaa
