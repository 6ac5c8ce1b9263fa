/-
  No cell of these rows narrows 'for every input' (looked for: loops, veiled, ifaces, maps, wideKeys, modest, calm, conditions, laid).
  DERIVED. THE GIVEN ROWS OF THIS SEAT. 12 by the template 'for every input the law returns true; each argument reads behind the call as it read before'; 0 by the template 'total and deterministic' (their statements: YtmbjbckjfkijmaaTotals.lean).
  GIVEN WITH THE SEED: the statements are not yours to turn. If you find one false, say at which input.
  Laid BY PROGRAM, IN A SANDBOX (cutbox-rows.mjs): the forced cells as the released guide's own fill.sh prints them over the translation 4d31b5b3656d2cca… (all of the seat's roots in one cut). By AI agents, Wed Nov 11 2026. No macro, syntax, notation, axiom, sorry.
-/
import Derived.Test.YtmbjbckjfkijmaaChecked
import GoSem.Claim
import GoSem.ClaimJoined
import GoSem.ClaimMapViews
import Derived.JoinedTies
import Derived.KernelRfl
namespace Go.Proofs.Ytmbjbckjfkijmaa
/- THE CELL 'sum', in the pinned program and in every row, IS THE sha256 OF THE DUMP (.gsa) THAT YtmbjbckjfkijmaaProg.lean LOADS. Nothing in Lean hashes anything: it is a label: what it is worth is what the hold of that sum in a sandbox is worth. -/
noncomputable def Try.pinned : Pinned := { name := "ytmbjbckjfkijmaa", sum := "4d31b5b3656d2ccaa025ad971e1505e1328d1bc392c4a594342f6b08b8984d79", checked := Try.checked }
namespace Rows
def none {H : Type} : Left H := { results := [], args := [] }

/-- 'bazaarlaw01.DiskKeeps': WHATEVER THE INPUT: true; the input reads as it did. -/
def diskKeepsSpec : ChangeSpec := { name := "diskKeeps", fn := fun _ => fun
  | [d1, d2, d3] => { results := [.lit (.bool true)], args := [d1, d2, d3] }
  | _ => none }
def diskKeepsRow : OpenClaim := { program := "ytmbjbckjfkijmaa", sum := "4d31b5b3656d2ccaa025ad971e1505e1328d1bc392c4a594342f6b08b8984d79", func := "bazaar/bazaarlaw01.DiskKeeps", spec := "diskKeeps", unfollowed := true, recurses := true, apart := false }
def DiskKeepsSaid : Prop := diskKeepsRow.holds Try.pinned (OpenSpec.ofChange diskKeepsSpec)

/-- ITS FALSE NEIGHBOUR: 'it returns false'. Refute it at one input. -/
def diskKeepsWrong : ChangeSpec := { name := "diskKeeps", fn := fun _ => fun
  | [d1, d2, d3] => { results := [.lit (.bool false)], args := [d1, d2, d3] }
  | _ => none }
def DiskKeepsWrongFalsely : Prop := diskKeepsRow.holds Try.pinned (OpenSpec.ofChange diskKeepsWrong)

/-- 'bazaarlaw01.DiskTears': WHATEVER THE INPUT: true; the input reads as it did. -/
def diskTearsSpec : ChangeSpec := { name := "diskTears", fn := fun _ => fun
  | [d1, d2, d3] => { results := [.lit (.bool true)], args := [d1, d2, d3] }
  | _ => none }
def diskTearsRow : OpenClaim := { program := "ytmbjbckjfkijmaa", sum := "4d31b5b3656d2ccaa025ad971e1505e1328d1bc392c4a594342f6b08b8984d79", func := "bazaar/bazaarlaw01.DiskTears", spec := "diskTears", unfollowed := true, recurses := true, apart := false }
def DiskTearsSaid : Prop := diskTearsRow.holds Try.pinned (OpenSpec.ofChange diskTearsSpec)

/-- ITS FALSE NEIGHBOUR: 'it returns false'. Refute it at one input. -/
def diskTearsWrong : ChangeSpec := { name := "diskTears", fn := fun _ => fun
  | [d1, d2, d3] => { results := [.lit (.bool false)], args := [d1, d2, d3] }
  | _ => none }
def DiskTearsWrongFalsely : Prop := diskTearsRow.holds Try.pinned (OpenSpec.ofChange diskTearsWrong)

/-- 'bazaarlaw01.DiskMany': WHATEVER THE INPUT: true; the input reads as it did. -/
def diskManySpec : ChangeSpec := { name := "diskMany", fn := fun _ => fun
  | [d] => { results := [.lit (.bool true)], args := [d] }
  | _ => none }
def diskManyRow : OpenClaim := { program := "ytmbjbckjfkijmaa", sum := "4d31b5b3656d2ccaa025ad971e1505e1328d1bc392c4a594342f6b08b8984d79", func := "bazaar/bazaarlaw01.DiskMany", spec := "diskMany", unfollowed := true, recurses := true, apart := false }
def DiskManySaid : Prop := diskManyRow.holds Try.pinned (OpenSpec.ofChange diskManySpec)

/-- ITS FALSE NEIGHBOUR: 'it returns false'. Refute it at one input. -/
def diskManyWrong : ChangeSpec := { name := "diskMany", fn := fun _ => fun
  | [d] => { results := [.lit (.bool false)], args := [d] }
  | _ => none }
def DiskManyWrongFalsely : Prop := diskManyRow.holds Try.pinned (OpenSpec.ofChange diskManyWrong)

/-- 'bazaarlaw01.DiskAll': WHATEVER THE INPUT: true; the input reads as it did. -/
def diskAllSpec : ChangeSpec := { name := "diskAll", fn := fun _ => fun
  | [d1, d2] => { results := [.lit (.bool true)], args := [d1, d2] }
  | _ => none }
def diskAllRow : OpenClaim := { program := "ytmbjbckjfkijmaa", sum := "4d31b5b3656d2ccaa025ad971e1505e1328d1bc392c4a594342f6b08b8984d79", func := "bazaar/bazaarlaw01.DiskAll", spec := "diskAll", unfollowed := true, recurses := true, apart := false }
def DiskAllSaid : Prop := diskAllRow.holds Try.pinned (OpenSpec.ofChange diskAllSpec)

/-- ITS FALSE NEIGHBOUR: 'it returns false'. Refute it at one input. -/
def diskAllWrong : ChangeSpec := { name := "diskAll", fn := fun _ => fun
  | [d1, d2] => { results := [.lit (.bool false)], args := [d1, d2] }
  | _ => none }
def DiskAllWrongFalsely : Prop := diskAllRow.holds Try.pinned (OpenSpec.ofChange diskAllWrong)

/-- 'bazaarlaw01.DiskDoes': WHATEVER THE INPUT: true; the input reads as it did. -/
def diskDoesSpec : ChangeSpec := { name := "diskDoes", fn := fun _ => fun
  | [d1, d2] => { results := [.lit (.bool true)], args := [d1, d2] }
  | _ => none }
def diskDoesRow : OpenClaim := { program := "ytmbjbckjfkijmaa", sum := "4d31b5b3656d2ccaa025ad971e1505e1328d1bc392c4a594342f6b08b8984d79", func := "bazaar/bazaarlaw01.DiskDoes", spec := "diskDoes", unfollowed := true, recurses := true, apart := false }
def DiskDoesSaid : Prop := diskDoesRow.holds Try.pinned (OpenSpec.ofChange diskDoesSpec)

/-- ITS FALSE NEIGHBOUR: 'it returns false'. Refute it at one input. -/
def diskDoesWrong : ChangeSpec := { name := "diskDoes", fn := fun _ => fun
  | [d1, d2] => { results := [.lit (.bool false)], args := [d1, d2] }
  | _ => none }
def DiskDoesWrongFalsely : Prop := diskDoesRow.holds Try.pinned (OpenSpec.ofChange diskDoesWrong)

/-- 'bazaarlaw01.DiskNone': WHATEVER THE INPUT: true; the input reads as it did. -/
def diskNoneSpec : ChangeSpec := { name := "diskNone", fn := fun _ => fun
  | [d] => { results := [.lit (.bool true)], args := [d] }
  | _ => none }
def diskNoneRow : OpenClaim := { program := "ytmbjbckjfkijmaa", sum := "4d31b5b3656d2ccaa025ad971e1505e1328d1bc392c4a594342f6b08b8984d79", func := "bazaar/bazaarlaw01.DiskNone", spec := "diskNone", unfollowed := true, recurses := true, apart := false }
def DiskNoneSaid : Prop := diskNoneRow.holds Try.pinned (OpenSpec.ofChange diskNoneSpec)

/-- ITS FALSE NEIGHBOUR: 'it returns false'. Refute it at one input. -/
def diskNoneWrong : ChangeSpec := { name := "diskNone", fn := fun _ => fun
  | [d] => { results := [.lit (.bool false)], args := [d] }
  | _ => none }
def DiskNoneWrongFalsely : Prop := diskNoneRow.holds Try.pinned (OpenSpec.ofChange diskNoneWrong)

/-- 'bazaarlaw03.PageBytes': WHATEVER THE INPUT: true; the input reads as it did. -/
def pageBytesSpec : ChangeSpec := { name := "pageBytes", fn := fun _ => fun
  | [d] => { results := [.lit (.bool true)], args := [d] }
  | _ => none }
def pageBytesRow : OpenClaim := { program := "ytmbjbckjfkijmaa", sum := "4d31b5b3656d2ccaa025ad971e1505e1328d1bc392c4a594342f6b08b8984d79", func := "bazaar/bazaarlaw03.PageBytes", spec := "pageBytes", inPlace := ["internal/abi.NoEscape", "internal/bytealg.MakeNoZero"], unfollowed := true, recurses := true, apart := false }
def PageBytesSaid : Prop := pageBytesRow.holds Try.pinned (OpenSpec.ofChange pageBytesSpec)

/-- ITS FALSE NEIGHBOUR: 'it returns false'. Refute it at one input. -/
def pageBytesWrong : ChangeSpec := { name := "pageBytes", fn := fun _ => fun
  | [d] => { results := [.lit (.bool false)], args := [d] }
  | _ => none }
def PageBytesWrongFalsely : Prop := pageBytesRow.holds Try.pinned (OpenSpec.ofChange pageBytesWrong)

/-- 'bazaarlaw03.PageDecodes': WHATEVER THE INPUT: true; the input reads as it did. -/
def pageDecodesSpec : ChangeSpec := { name := "pageDecodes", fn := fun _ => fun
  | [d1, d2] => { results := [.lit (.bool true)], args := [d1, d2] }
  | _ => none }
def pageDecodesRow : OpenClaim := { program := "ytmbjbckjfkijmaa", sum := "4d31b5b3656d2ccaa025ad971e1505e1328d1bc392c4a594342f6b08b8984d79", func := "bazaar/bazaarlaw03.PageDecodes", spec := "pageDecodes", inPlace := ["internal/abi.NoEscape", "internal/bytealg.MakeNoZero"], unfollowed := true, recurses := true, apart := false }
def PageDecodesSaid : Prop := pageDecodesRow.holds Try.pinned (OpenSpec.ofChange pageDecodesSpec)

/-- ITS FALSE NEIGHBOUR: 'it returns false'. Refute it at one input. -/
def pageDecodesWrong : ChangeSpec := { name := "pageDecodes", fn := fun _ => fun
  | [d1, d2] => { results := [.lit (.bool false)], args := [d1, d2] }
  | _ => none }
def PageDecodesWrongFalsely : Prop := pageDecodesRow.holds Try.pinned (OpenSpec.ofChange pageDecodesWrong)

/-- 'bazaarlaw03.PageBack': WHATEVER THE INPUT: true; the input reads as it did. -/
def pageBackSpec : ChangeSpec := { name := "pageBack", fn := fun _ => fun
  | [d1, d2] => { results := [.lit (.bool true)], args := [d1, d2] }
  | _ => none }
def pageBackRow : OpenClaim := { program := "ytmbjbckjfkijmaa", sum := "4d31b5b3656d2ccaa025ad971e1505e1328d1bc392c4a594342f6b08b8984d79", func := "bazaar/bazaarlaw03.PageBack", spec := "pageBack", inPlace := ["internal/abi.NoEscape", "internal/bytealg.MakeNoZero"], unfollowed := true, recurses := true, apart := false }
def PageBackSaid : Prop := pageBackRow.holds Try.pinned (OpenSpec.ofChange pageBackSpec)

/-- ITS FALSE NEIGHBOUR: 'it returns false'. Refute it at one input. -/
def pageBackWrong : ChangeSpec := { name := "pageBack", fn := fun _ => fun
  | [d1, d2] => { results := [.lit (.bool false)], args := [d1, d2] }
  | _ => none }
def PageBackWrongFalsely : Prop := pageBackRow.holds Try.pinned (OpenSpec.ofChange pageBackWrong)

/-- 'bazaarlaw03.PageHurt': WHATEVER THE INPUT: true; the input reads as it did. -/
def pageHurtSpec : ChangeSpec := { name := "pageHurt", fn := fun _ => fun
  | [d1, d2, d3] => { results := [.lit (.bool true)], args := [d1, d2, d3] }
  | _ => none }
def pageHurtRow : OpenClaim := { program := "ytmbjbckjfkijmaa", sum := "4d31b5b3656d2ccaa025ad971e1505e1328d1bc392c4a594342f6b08b8984d79", func := "bazaar/bazaarlaw03.PageHurt", spec := "pageHurt", inPlace := ["internal/abi.NoEscape", "internal/bytealg.MakeNoZero"], unfollowed := true, recurses := true, apart := false }
def PageHurtSaid : Prop := pageHurtRow.holds Try.pinned (OpenSpec.ofChange pageHurtSpec)

/-- ITS FALSE NEIGHBOUR: 'it returns false'. Refute it at one input. -/
def pageHurtWrong : ChangeSpec := { name := "pageHurt", fn := fun _ => fun
  | [d1, d2, d3] => { results := [.lit (.bool false)], args := [d1, d2, d3] }
  | _ => none }
def PageHurtWrongFalsely : Prop := pageHurtRow.holds Try.pinned (OpenSpec.ofChange pageHurtWrong)

/-- 'bazaarlaw03.PageSizes': WHATEVER THE INPUT: true; the input reads as it did. -/
def pageSizesSpec : ChangeSpec := { name := "pageSizes", fn := fun _ => fun
  | [d1, d2] => { results := [.lit (.bool true)], args := [d1, d2] }
  | _ => none }
def pageSizesRow : OpenClaim := { program := "ytmbjbckjfkijmaa", sum := "4d31b5b3656d2ccaa025ad971e1505e1328d1bc392c4a594342f6b08b8984d79", func := "bazaar/bazaarlaw03.PageSizes", spec := "pageSizes", inPlace := ["internal/abi.NoEscape", "internal/bytealg.MakeNoZero"], unfollowed := true, recurses := true, apart := false }
def PageSizesSaid : Prop := pageSizesRow.holds Try.pinned (OpenSpec.ofChange pageSizesSpec)

/-- ITS FALSE NEIGHBOUR: 'it returns false'. Refute it at one input. -/
def pageSizesWrong : ChangeSpec := { name := "pageSizes", fn := fun _ => fun
  | [d1, d2] => { results := [.lit (.bool false)], args := [d1, d2] }
  | _ => none }
def PageSizesWrongFalsely : Prop := pageSizesRow.holds Try.pinned (OpenSpec.ofChange pageSizesWrong)

/-- 'bazaarlaw03.PageKeeps': WHATEVER THE INPUT: true; the input reads as it did. -/
def pageKeepsSpec : ChangeSpec := { name := "pageKeeps", fn := fun _ => fun
  | [d] => { results := [.lit (.bool true)], args := [d] }
  | _ => none }
def pageKeepsRow : OpenClaim := { program := "ytmbjbckjfkijmaa", sum := "4d31b5b3656d2ccaa025ad971e1505e1328d1bc392c4a594342f6b08b8984d79", func := "bazaar/bazaarlaw03.PageKeeps", spec := "pageKeeps", inPlace := ["internal/abi.NoEscape", "internal/bytealg.MakeNoZero"], unfollowed := true, recurses := true, apart := false }
def PageKeepsSaid : Prop := pageKeepsRow.holds Try.pinned (OpenSpec.ofChange pageKeepsSpec)

/-- ITS FALSE NEIGHBOUR: 'it returns false'. Refute it at one input. -/
def pageKeepsWrong : ChangeSpec := { name := "pageKeeps", fn := fun _ => fun
  | [d] => { results := [.lit (.bool false)], args := [d] }
  | _ => none }
def PageKeepsWrongFalsely : Prop := pageKeepsRow.holds Try.pinned (OpenSpec.ofChange pageKeepsWrong)

/- THE SECOND FORM. 'bulk': how many values and letters a reading holds, each counted each time it is reached (what is shared counts as often as it is met; a slice's spare places count too). A statement '..UptoSaid' is the law's where the arguments, and the package variables that the reading takes, are together of bulk at most 1048576: NARROWER than '..Said'. Prove '..Said' where nothing that the law and all that it calls make is longer than what came in: it says more and counts as full. Else prove '..UptoSaid'. A law counts once. -/
mutual
def uptoBulk {H : Type} : DataW H → Nat
  | .lit (.string bytes) => bytes.length + 1
  | .lit _ => 1
  | .nil => 1
  | .ptr d => uptoBulk d + 1
  | .slice elems spare => uptoBulkAll elems + uptoBulkAll spare + 1
  | .agg parts => uptoBulkAll parts + 1
  | .iface _ d => uptoBulk d + 1
  | .map entries => uptoBulkEntries entries + 1
  | .held _ => 1
def uptoBulkAll {H : Type} : List (DataW H) → Nat
  | [] => 0
  | d :: r => uptoBulk d + uptoBulkAll r
def uptoBulkEntries {H : Type} : List (Lit × DataW H) → Nat
  | [] => 0
  | x :: r => uptoBulkEntry x + uptoBulkEntries r
def uptoBulkEntry {H : Type} : Lit × DataW H → Nat
  | (.string bytes, d) => bytes.length + uptoBulk d + 1
  | (_, d) => uptoBulk d + 1
 end
def uptoSmall : (H : Type) → List (DataW H) → Bool := fun _ ds => decide (uptoBulkAll ds ≤ 1048576)
def OpenSpec.upto (s : _root_.Go.ChangeSpec) : _root_.Go.OpenSpec := { _root_.Go.OpenSpec.ofChange s with cond := some uptoSmall }

/-- 'bazaarlaw01.DiskKeeps', WHERE WHAT IT READS IS OF BULK AT MOST 1048576: true; the input reads as it did. -/
def diskKeepsUptoRow : OpenClaim := { program := "ytmbjbckjfkijmaa", sum := "4d31b5b3656d2ccaa025ad971e1505e1328d1bc392c4a594342f6b08b8984d79", func := "bazaar/bazaarlaw01.DiskKeeps", spec := "diskKeeps", unfollowed := true, recurses := true, apart := false, narrowed := true }
def DiskKeepsUptoSaid : Prop := diskKeepsUptoRow.holds Try.pinned (OpenSpec.upto diskKeepsSpec)

/-- 'bazaarlaw01.DiskTears', WHERE WHAT IT READS IS OF BULK AT MOST 1048576: true; the input reads as it did. -/
def diskTearsUptoRow : OpenClaim := { program := "ytmbjbckjfkijmaa", sum := "4d31b5b3656d2ccaa025ad971e1505e1328d1bc392c4a594342f6b08b8984d79", func := "bazaar/bazaarlaw01.DiskTears", spec := "diskTears", unfollowed := true, recurses := true, apart := false, narrowed := true }
def DiskTearsUptoSaid : Prop := diskTearsUptoRow.holds Try.pinned (OpenSpec.upto diskTearsSpec)

/-- 'bazaarlaw01.DiskMany', WHERE WHAT IT READS IS OF BULK AT MOST 1048576: true; the input reads as it did. -/
def diskManyUptoRow : OpenClaim := { program := "ytmbjbckjfkijmaa", sum := "4d31b5b3656d2ccaa025ad971e1505e1328d1bc392c4a594342f6b08b8984d79", func := "bazaar/bazaarlaw01.DiskMany", spec := "diskMany", unfollowed := true, recurses := true, apart := false, narrowed := true }
def DiskManyUptoSaid : Prop := diskManyUptoRow.holds Try.pinned (OpenSpec.upto diskManySpec)

/-- 'bazaarlaw01.DiskAll', WHERE WHAT IT READS IS OF BULK AT MOST 1048576: true; the input reads as it did. -/
def diskAllUptoRow : OpenClaim := { program := "ytmbjbckjfkijmaa", sum := "4d31b5b3656d2ccaa025ad971e1505e1328d1bc392c4a594342f6b08b8984d79", func := "bazaar/bazaarlaw01.DiskAll", spec := "diskAll", unfollowed := true, recurses := true, apart := false, narrowed := true }
def DiskAllUptoSaid : Prop := diskAllUptoRow.holds Try.pinned (OpenSpec.upto diskAllSpec)

/-- 'bazaarlaw01.DiskDoes', WHERE WHAT IT READS IS OF BULK AT MOST 1048576: true; the input reads as it did. -/
def diskDoesUptoRow : OpenClaim := { program := "ytmbjbckjfkijmaa", sum := "4d31b5b3656d2ccaa025ad971e1505e1328d1bc392c4a594342f6b08b8984d79", func := "bazaar/bazaarlaw01.DiskDoes", spec := "diskDoes", unfollowed := true, recurses := true, apart := false, narrowed := true }
def DiskDoesUptoSaid : Prop := diskDoesUptoRow.holds Try.pinned (OpenSpec.upto diskDoesSpec)

/-- 'bazaarlaw01.DiskNone', WHERE WHAT IT READS IS OF BULK AT MOST 1048576: true; the input reads as it did. -/
def diskNoneUptoRow : OpenClaim := { program := "ytmbjbckjfkijmaa", sum := "4d31b5b3656d2ccaa025ad971e1505e1328d1bc392c4a594342f6b08b8984d79", func := "bazaar/bazaarlaw01.DiskNone", spec := "diskNone", unfollowed := true, recurses := true, apart := false, narrowed := true }
def DiskNoneUptoSaid : Prop := diskNoneUptoRow.holds Try.pinned (OpenSpec.upto diskNoneSpec)

/-- 'bazaarlaw03.PageBytes', WHERE WHAT IT READS IS OF BULK AT MOST 1048576: true; the input reads as it did. -/
def pageBytesUptoRow : OpenClaim := { program := "ytmbjbckjfkijmaa", sum := "4d31b5b3656d2ccaa025ad971e1505e1328d1bc392c4a594342f6b08b8984d79", func := "bazaar/bazaarlaw03.PageBytes", spec := "pageBytes", inPlace := ["internal/abi.NoEscape", "internal/bytealg.MakeNoZero"], unfollowed := true, recurses := true, apart := false, narrowed := true }
def PageBytesUptoSaid : Prop := pageBytesUptoRow.holds Try.pinned (OpenSpec.upto pageBytesSpec)

/-- 'bazaarlaw03.PageDecodes', WHERE WHAT IT READS IS OF BULK AT MOST 1048576: true; the input reads as it did. -/
def pageDecodesUptoRow : OpenClaim := { program := "ytmbjbckjfkijmaa", sum := "4d31b5b3656d2ccaa025ad971e1505e1328d1bc392c4a594342f6b08b8984d79", func := "bazaar/bazaarlaw03.PageDecodes", spec := "pageDecodes", inPlace := ["internal/abi.NoEscape", "internal/bytealg.MakeNoZero"], unfollowed := true, recurses := true, apart := false, narrowed := true }
def PageDecodesUptoSaid : Prop := pageDecodesUptoRow.holds Try.pinned (OpenSpec.upto pageDecodesSpec)

/-- 'bazaarlaw03.PageBack', WHERE WHAT IT READS IS OF BULK AT MOST 1048576: true; the input reads as it did. -/
def pageBackUptoRow : OpenClaim := { program := "ytmbjbckjfkijmaa", sum := "4d31b5b3656d2ccaa025ad971e1505e1328d1bc392c4a594342f6b08b8984d79", func := "bazaar/bazaarlaw03.PageBack", spec := "pageBack", inPlace := ["internal/abi.NoEscape", "internal/bytealg.MakeNoZero"], unfollowed := true, recurses := true, apart := false, narrowed := true }
def PageBackUptoSaid : Prop := pageBackUptoRow.holds Try.pinned (OpenSpec.upto pageBackSpec)

/-- 'bazaarlaw03.PageHurt', WHERE WHAT IT READS IS OF BULK AT MOST 1048576: true; the input reads as it did. -/
def pageHurtUptoRow : OpenClaim := { program := "ytmbjbckjfkijmaa", sum := "4d31b5b3656d2ccaa025ad971e1505e1328d1bc392c4a594342f6b08b8984d79", func := "bazaar/bazaarlaw03.PageHurt", spec := "pageHurt", inPlace := ["internal/abi.NoEscape", "internal/bytealg.MakeNoZero"], unfollowed := true, recurses := true, apart := false, narrowed := true }
def PageHurtUptoSaid : Prop := pageHurtUptoRow.holds Try.pinned (OpenSpec.upto pageHurtSpec)

/-- 'bazaarlaw03.PageSizes', WHERE WHAT IT READS IS OF BULK AT MOST 1048576: true; the input reads as it did. -/
def pageSizesUptoRow : OpenClaim := { program := "ytmbjbckjfkijmaa", sum := "4d31b5b3656d2ccaa025ad971e1505e1328d1bc392c4a594342f6b08b8984d79", func := "bazaar/bazaarlaw03.PageSizes", spec := "pageSizes", inPlace := ["internal/abi.NoEscape", "internal/bytealg.MakeNoZero"], unfollowed := true, recurses := true, apart := false, narrowed := true }
def PageSizesUptoSaid : Prop := pageSizesUptoRow.holds Try.pinned (OpenSpec.upto pageSizesSpec)

/-- 'bazaarlaw03.PageKeeps', WHERE WHAT IT READS IS OF BULK AT MOST 1048576: true; the input reads as it did. -/
def pageKeepsUptoRow : OpenClaim := { program := "ytmbjbckjfkijmaa", sum := "4d31b5b3656d2ccaa025ad971e1505e1328d1bc392c4a594342f6b08b8984d79", func := "bazaar/bazaarlaw03.PageKeeps", spec := "pageKeeps", inPlace := ["internal/abi.NoEscape", "internal/bytealg.MakeNoZero"], unfollowed := true, recurses := true, apart := false, narrowed := true }
def PageKeepsUptoSaid : Prop := pageKeepsUptoRow.holds Try.pinned (OpenSpec.upto pageKeepsSpec)

end Rows
end Go.Proofs.Ytmbjbckjfkijmaa
