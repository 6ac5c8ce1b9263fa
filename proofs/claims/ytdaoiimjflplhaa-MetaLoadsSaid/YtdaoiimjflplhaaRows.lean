/-
  No cell of these rows narrows 'for every input' (looked for: loops, veiled, ifaces, maps, wideKeys, modest, calm, conditions, laid).
  DERIVED. THE GIVEN ROWS OF THIS SEAT. 7 by the template 'for every input the law returns true; each argument reads behind the call as it read before'; 0 by the template 'total and deterministic' (their statements: YtdaoiimjflplhaaTotals.lean).
  GIVEN WITH THE SEED: the statements are not yours to turn. If you find one false, say at which input.
  Laid BY PROGRAM, IN A SANDBOX (cutbox-rows.mjs): the forced cells as the released guide's own fill.sh prints them over the translation 6e59810d88f7df54… (all of the seat's roots in one cut). By AI agents, Wed Nov 11 2026. No macro, syntax, notation, axiom, sorry.
-/
import Derived.Test.YtdaoiimjflplhaaChecked
import GoSem.Claim
import GoSem.ClaimJoined
import GoSem.ClaimMapViews
import Derived.JoinedTies
import Derived.KernelRfl
namespace Go.Proofs.Ytdaoiimjflplhaa
/- THE CELL 'sum', in the pinned program and in every row, IS THE sha256 OF THE DUMP (.gsa) THAT YtdaoiimjflplhaaProg.lean LOADS. Nothing in Lean hashes anything: it is a label: what it is worth is what the hold of that sum in a sandbox is worth. -/
noncomputable def Try.pinned : Pinned := { name := "ytdaoiimjflplhaa", sum := "6e59810d88f7df545d08504f7dabbf22a81d8711cacd79758d6828c79173e772", checked := Try.checked }
namespace Rows
def none {H : Type} : Left H := { results := [], args := [] }

/-- 'bazaarlaw04.MetaBytes': WHATEVER THE INPUT: true; the input reads as it did. -/
def metaBytesSpec : ChangeSpec := { name := "metaBytes", fn := fun _ => fun
  | [d] => { results := [.lit (.bool true)], args := [d] }
  | _ => none }
def metaBytesRow : OpenClaim := { program := "ytdaoiimjflplhaa", sum := "6e59810d88f7df545d08504f7dabbf22a81d8711cacd79758d6828c79173e772", func := "bazaar/bazaarlaw04.MetaBytes", spec := "metaBytes", inPlace := ["internal/abi.NoEscape", "internal/bytealg.MakeNoZero"], unfollowed := true, recurses := true, apart := false }
def MetaBytesSaid : Prop := metaBytesRow.holds Try.pinned (OpenSpec.ofChange metaBytesSpec)

/-- ITS FALSE NEIGHBOUR: 'it returns false'. Refute it at one input. -/
def metaBytesWrong : ChangeSpec := { name := "metaBytes", fn := fun _ => fun
  | [d] => { results := [.lit (.bool false)], args := [d] }
  | _ => none }
def MetaBytesWrongFalsely : Prop := metaBytesRow.holds Try.pinned (OpenSpec.ofChange metaBytesWrong)

/-- 'bazaarlaw04.MetaDecodes': WHATEVER THE INPUT: true; the input reads as it did. -/
def metaDecodesSpec : ChangeSpec := { name := "metaDecodes", fn := fun _ => fun
  | [d] => { results := [.lit (.bool true)], args := [d] }
  | _ => none }
def metaDecodesRow : OpenClaim := { program := "ytdaoiimjflplhaa", sum := "6e59810d88f7df545d08504f7dabbf22a81d8711cacd79758d6828c79173e772", func := "bazaar/bazaarlaw04.MetaDecodes", spec := "metaDecodes", inPlace := ["internal/abi.NoEscape", "internal/bytealg.MakeNoZero"], unfollowed := true, recurses := true, apart := false }
def MetaDecodesSaid : Prop := metaDecodesRow.holds Try.pinned (OpenSpec.ofChange metaDecodesSpec)

/-- ITS FALSE NEIGHBOUR: 'it returns false'. Refute it at one input. -/
def metaDecodesWrong : ChangeSpec := { name := "metaDecodes", fn := fun _ => fun
  | [d] => { results := [.lit (.bool false)], args := [d] }
  | _ => none }
def MetaDecodesWrongFalsely : Prop := metaDecodesRow.holds Try.pinned (OpenSpec.ofChange metaDecodesWrong)

/-- 'bazaarlaw04.MetaLoads': WHATEVER THE INPUT: true; the input reads as it did. -/
def metaLoadsSpec : ChangeSpec := { name := "metaLoads", fn := fun _ => fun
  | [d1, d2, d3] => { results := [.lit (.bool true)], args := [d1, d2, d3] }
  | _ => none }
def metaLoadsRow : OpenClaim := { program := "ytdaoiimjflplhaa", sum := "6e59810d88f7df545d08504f7dabbf22a81d8711cacd79758d6828c79173e772", func := "bazaar/bazaarlaw04.MetaLoads", spec := "metaLoads", inPlace := ["internal/abi.NoEscape", "internal/bytealg.MakeNoZero"], unfollowed := true, recurses := true, apart := false }
def MetaLoadsSaid : Prop := metaLoadsRow.holds Try.pinned (OpenSpec.ofChange metaLoadsSpec)

/-- ITS FALSE NEIGHBOUR: 'it returns false'. Refute it at one input. -/
def metaLoadsWrong : ChangeSpec := { name := "metaLoads", fn := fun _ => fun
  | [d1, d2, d3] => { results := [.lit (.bool false)], args := [d1, d2, d3] }
  | _ => none }
def MetaLoadsWrongFalsely : Prop := metaLoadsRow.holds Try.pinned (OpenSpec.ofChange metaLoadsWrong)

/-- 'bazaarlaw04.MetaBack': WHATEVER THE INPUT: true; the input reads as it did. -/
def metaBackSpec : ChangeSpec := { name := "metaBack", fn := fun _ => fun
  | [d1, d2] => { results := [.lit (.bool true)], args := [d1, d2] }
  | _ => none }
def metaBackRow : OpenClaim := { program := "ytdaoiimjflplhaa", sum := "6e59810d88f7df545d08504f7dabbf22a81d8711cacd79758d6828c79173e772", func := "bazaar/bazaarlaw04.MetaBack", spec := "metaBack", inPlace := ["internal/abi.NoEscape", "internal/bytealg.MakeNoZero"], unfollowed := true, recurses := true, apart := false }
def MetaBackSaid : Prop := metaBackRow.holds Try.pinned (OpenSpec.ofChange metaBackSpec)

/-- ITS FALSE NEIGHBOUR: 'it returns false'. Refute it at one input. -/
def metaBackWrong : ChangeSpec := { name := "metaBack", fn := fun _ => fun
  | [d1, d2] => { results := [.lit (.bool false)], args := [d1, d2] }
  | _ => none }
def MetaBackWrongFalsely : Prop := metaBackRow.holds Try.pinned (OpenSpec.ofChange metaBackWrong)

/-- 'bazaarlaw04.MetaTurns': WHATEVER THE INPUT: true; the input reads as it did. -/
def metaTurnsSpec : ChangeSpec := { name := "metaTurns", fn := fun _ => fun
  | [d1, d2] => { results := [.lit (.bool true)], args := [d1, d2] }
  | _ => none }
def metaTurnsRow : OpenClaim := { program := "ytdaoiimjflplhaa", sum := "6e59810d88f7df545d08504f7dabbf22a81d8711cacd79758d6828c79173e772", func := "bazaar/bazaarlaw04.MetaTurns", spec := "metaTurns", inPlace := ["internal/abi.NoEscape", "internal/bytealg.MakeNoZero"], unfollowed := true, recurses := true, apart := false }
def MetaTurnsSaid : Prop := metaTurnsRow.holds Try.pinned (OpenSpec.ofChange metaTurnsSpec)

/-- ITS FALSE NEIGHBOUR: 'it returns false'. Refute it at one input. -/
def metaTurnsWrong : ChangeSpec := { name := "metaTurns", fn := fun _ => fun
  | [d1, d2] => { results := [.lit (.bool false)], args := [d1, d2] }
  | _ => none }
def MetaTurnsWrongFalsely : Prop := metaTurnsRow.holds Try.pinned (OpenSpec.ofChange metaTurnsWrong)

/-- 'bazaarlaw04.MetaSlots': WHATEVER THE INPUT: true; the input reads as it did. -/
def metaSlotsSpec : ChangeSpec := { name := "metaSlots", fn := fun _ => fun
  | [d] => { results := [.lit (.bool true)], args := [d] }
  | _ => none }
def metaSlotsRow : OpenClaim := { program := "ytdaoiimjflplhaa", sum := "6e59810d88f7df545d08504f7dabbf22a81d8711cacd79758d6828c79173e772", func := "bazaar/bazaarlaw04.MetaSlots", spec := "metaSlots", inPlace := ["internal/abi.NoEscape", "internal/bytealg.MakeNoZero"], unfollowed := true, recurses := true, apart := false }
def MetaSlotsSaid : Prop := metaSlotsRow.holds Try.pinned (OpenSpec.ofChange metaSlotsSpec)

/-- ITS FALSE NEIGHBOUR: 'it returns false'. Refute it at one input. -/
def metaSlotsWrong : ChangeSpec := { name := "metaSlots", fn := fun _ => fun
  | [d] => { results := [.lit (.bool false)], args := [d] }
  | _ => none }
def MetaSlotsWrongFalsely : Prop := metaSlotsRow.holds Try.pinned (OpenSpec.ofChange metaSlotsWrong)

/-- 'bazaarlaw04.MetaTorn': WHATEVER THE INPUT: true; the input reads as it did. -/
def metaTornSpec : ChangeSpec := { name := "metaTorn", fn := fun _ => fun
  | [d1, d2, d3, d4] => { results := [.lit (.bool true)], args := [d1, d2, d3, d4] }
  | _ => none }
def metaTornRow : OpenClaim := { program := "ytdaoiimjflplhaa", sum := "6e59810d88f7df545d08504f7dabbf22a81d8711cacd79758d6828c79173e772", func := "bazaar/bazaarlaw04.MetaTorn", spec := "metaTorn", inPlace := ["internal/abi.NoEscape", "internal/bytealg.MakeNoZero"], unfollowed := true, recurses := true, apart := false }
def MetaTornSaid : Prop := metaTornRow.holds Try.pinned (OpenSpec.ofChange metaTornSpec)

/-- ITS FALSE NEIGHBOUR: 'it returns false'. Refute it at one input. -/
def metaTornWrong : ChangeSpec := { name := "metaTorn", fn := fun _ => fun
  | [d1, d2, d3, d4] => { results := [.lit (.bool false)], args := [d1, d2, d3, d4] }
  | _ => none }
def MetaTornWrongFalsely : Prop := metaTornRow.holds Try.pinned (OpenSpec.ofChange metaTornWrong)

/- THE SECOND FORM. 'bulk': how many values and letters a reading holds, each counted each time it is reached (what is shared counts as often as it is met; a slice's spare places count too). A statement '..UptoSaid' is the law's where the arguments, and the package variables that the reading takes, are together of bulk at most 1048576: NARROWER than '..Said'. Prove '..Said' where nothing that the law and all that it calls make is longer than what came in: it says more and counts as full. Else prove '..UptoSaid'. A law counts once. -/
mutual
def uptoBulk {H : Type} : DataW H → Nat
  | .lit (.string bytes) => bytes.length + 1
  | .lit _ => 1
  | .nil => 1
  | .ptr d => uptoBulk d + 1
  | .slice elems spare => uptoBulkAll elems + uptoBulkAll spare + 1
  | .agg parts => uptoBulkAll parts + 1
  | .iface _ d => uptoBulk d + 1
  | .map entries => uptoBulkEntries entries + 1
  | .held _ => 1
def uptoBulkAll {H : Type} : List (DataW H) → Nat
  | [] => 0
  | d :: r => uptoBulk d + uptoBulkAll r
def uptoBulkEntries {H : Type} : List (Lit × DataW H) → Nat
  | [] => 0
  | x :: r => uptoBulkEntry x + uptoBulkEntries r
def uptoBulkEntry {H : Type} : Lit × DataW H → Nat
  | (.string bytes, d) => bytes.length + uptoBulk d + 1
  | (_, d) => uptoBulk d + 1
 end
def uptoSmall : (H : Type) → List (DataW H) → Bool := fun _ ds => decide (uptoBulkAll ds ≤ 1048576)
def OpenSpec.upto (s : _root_.Go.ChangeSpec) : _root_.Go.OpenSpec := { _root_.Go.OpenSpec.ofChange s with cond := some uptoSmall }

/-- 'bazaarlaw04.MetaBytes', WHERE WHAT IT READS IS OF BULK AT MOST 1048576: true; the input reads as it did. -/
def metaBytesUptoRow : OpenClaim := { program := "ytdaoiimjflplhaa", sum := "6e59810d88f7df545d08504f7dabbf22a81d8711cacd79758d6828c79173e772", func := "bazaar/bazaarlaw04.MetaBytes", spec := "metaBytes", inPlace := ["internal/abi.NoEscape", "internal/bytealg.MakeNoZero"], unfollowed := true, recurses := true, apart := false, narrowed := true }
def MetaBytesUptoSaid : Prop := metaBytesUptoRow.holds Try.pinned (OpenSpec.upto metaBytesSpec)

/-- 'bazaarlaw04.MetaDecodes', WHERE WHAT IT READS IS OF BULK AT MOST 1048576: true; the input reads as it did. -/
def metaDecodesUptoRow : OpenClaim := { program := "ytdaoiimjflplhaa", sum := "6e59810d88f7df545d08504f7dabbf22a81d8711cacd79758d6828c79173e772", func := "bazaar/bazaarlaw04.MetaDecodes", spec := "metaDecodes", inPlace := ["internal/abi.NoEscape", "internal/bytealg.MakeNoZero"], unfollowed := true, recurses := true, apart := false, narrowed := true }
def MetaDecodesUptoSaid : Prop := metaDecodesUptoRow.holds Try.pinned (OpenSpec.upto metaDecodesSpec)

/-- 'bazaarlaw04.MetaLoads', WHERE WHAT IT READS IS OF BULK AT MOST 1048576: true; the input reads as it did. -/
def metaLoadsUptoRow : OpenClaim := { program := "ytdaoiimjflplhaa", sum := "6e59810d88f7df545d08504f7dabbf22a81d8711cacd79758d6828c79173e772", func := "bazaar/bazaarlaw04.MetaLoads", spec := "metaLoads", inPlace := ["internal/abi.NoEscape", "internal/bytealg.MakeNoZero"], unfollowed := true, recurses := true, apart := false, narrowed := true }
def MetaLoadsUptoSaid : Prop := metaLoadsUptoRow.holds Try.pinned (OpenSpec.upto metaLoadsSpec)

/-- 'bazaarlaw04.MetaBack', WHERE WHAT IT READS IS OF BULK AT MOST 1048576: true; the input reads as it did. -/
def metaBackUptoRow : OpenClaim := { program := "ytdaoiimjflplhaa", sum := "6e59810d88f7df545d08504f7dabbf22a81d8711cacd79758d6828c79173e772", func := "bazaar/bazaarlaw04.MetaBack", spec := "metaBack", inPlace := ["internal/abi.NoEscape", "internal/bytealg.MakeNoZero"], unfollowed := true, recurses := true, apart := false, narrowed := true }
def MetaBackUptoSaid : Prop := metaBackUptoRow.holds Try.pinned (OpenSpec.upto metaBackSpec)

/-- 'bazaarlaw04.MetaTurns', WHERE WHAT IT READS IS OF BULK AT MOST 1048576: true; the input reads as it did. -/
def metaTurnsUptoRow : OpenClaim := { program := "ytdaoiimjflplhaa", sum := "6e59810d88f7df545d08504f7dabbf22a81d8711cacd79758d6828c79173e772", func := "bazaar/bazaarlaw04.MetaTurns", spec := "metaTurns", inPlace := ["internal/abi.NoEscape", "internal/bytealg.MakeNoZero"], unfollowed := true, recurses := true, apart := false, narrowed := true }
def MetaTurnsUptoSaid : Prop := metaTurnsUptoRow.holds Try.pinned (OpenSpec.upto metaTurnsSpec)

/-- 'bazaarlaw04.MetaSlots', WHERE WHAT IT READS IS OF BULK AT MOST 1048576: true; the input reads as it did. -/
def metaSlotsUptoRow : OpenClaim := { program := "ytdaoiimjflplhaa", sum := "6e59810d88f7df545d08504f7dabbf22a81d8711cacd79758d6828c79173e772", func := "bazaar/bazaarlaw04.MetaSlots", spec := "metaSlots", inPlace := ["internal/abi.NoEscape", "internal/bytealg.MakeNoZero"], unfollowed := true, recurses := true, apart := false, narrowed := true }
def MetaSlotsUptoSaid : Prop := metaSlotsUptoRow.holds Try.pinned (OpenSpec.upto metaSlotsSpec)

/-- 'bazaarlaw04.MetaTorn', WHERE WHAT IT READS IS OF BULK AT MOST 1048576: true; the input reads as it did. -/
def metaTornUptoRow : OpenClaim := { program := "ytdaoiimjflplhaa", sum := "6e59810d88f7df545d08504f7dabbf22a81d8711cacd79758d6828c79173e772", func := "bazaar/bazaarlaw04.MetaTorn", spec := "metaTorn", inPlace := ["internal/abi.NoEscape", "internal/bytealg.MakeNoZero"], unfollowed := true, recurses := true, apart := false, narrowed := true }
def MetaTornUptoSaid : Prop := metaTornUptoRow.holds Try.pinned (OpenSpec.upto metaTornSpec)

end Rows
end Go.Proofs.Ytdaoiimjflplhaa
