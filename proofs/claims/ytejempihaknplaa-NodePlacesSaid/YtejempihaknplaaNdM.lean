/- Nodes as plain lists: which are right, their sizes and bytes, places, pairs put and deleted. Definitions alone. -/
import Derived.Test.YtejempihaknplaaGX
namespace Go.Proofs.Ytejempihaknplaa.G
open Go.RowKit

def blt (a b : ByteArray) : Bool := Op.bytesLess a.toList b.toList
def kOk (s : ByteArray) : Bool := decide (1 ≤ s.size) && decide (s.size ≤ 24)
def pOk (p : S39) : Bool := kOk p.f0 && decide (p.f1.size ≤ 60)
def risesB : List ByteArray → Bool
  | [] => true
  | [_] => true
  | a :: b :: r => blt a b && risesB (b :: r)
def leafB (ps : List S39) (ks : List ByteArray) (kd : List Int) : Bool := ks.isEmpty && kd.isEmpty && decide (ps.length ≤ 255) && ps.all pOk && risesB (ps.map (·.f0))
def kidOk (k : Int) : Bool := decide (2 ≤ k) && decide (k < 16384)
def branchB (ps : List S39) (ks : List ByteArray) (kd : List Int) : Bool := ps.isEmpty && decide (1 ≤ kd.length) && decide (kd.length ≤ 255) && decide (ks.length + 1 = kd.length) && kd.all kidOk && ks.all kOk && risesB ks
def rightB (ps : List S39) (ks : List ByteArray) (kd : List Int) : Bool := leafB ps ks kd || branchB ps ks kd
def sumP (ps : List S39) : Nat := (ps.map fun p => 2 + p.f0.size + p.f1.size).sum
def sumK (ks : List ByteArray) : Nat := (ks.map fun k => 5 + k.size).sum
def sizeN (ps : List S39) (ks : List ByteArray) (kd : List Int) : Nat := if kd.isEmpty then 1 + sumP ps else 5 + sumK ks
def byteOf (n : Nat) : UInt8 := UInt8.ofNat n
def be4 (k : Int) : List UInt8 := [byteOf (k.toNat / 16777216 % 256), byteOf (k.toNat / 65536 % 256), byteOf (k.toNat / 256 % 256), byteOf (k.toNat % 256)]
def textB (s : ByteArray) : List UInt8 := byteOf s.size :: s.data.toList
def pairsB (ps : List S39) : List UInt8 := ps.flatMap fun p => textB p.f0 ++ textB p.f1
def partsB (ks : List ByteArray) (kd : List Int) : List UInt8 := (ks.zip kd).flatMap fun x => textB x.1 ++ be4 x.2
def bytesN (ps : List S39) (ks : List ByteArray) (kd : List Int) : List UInt8 := if kd.isEmpty then byteOf ps.length :: pairsB ps else byteOf kd.length :: (be4 (kd.headD 0) ++ partsB ks kd.tail)
/-- How many keys are less than this one. -/
def placeP (l : List ByteArray) (k : ByteArray) : Nat := (l.takeWhile fun x => blt x k).length
def putN (ps : List S39) (p : S39) : List S39 := (ps.takeWhile fun x => blt x.f0 p.f0) ++ p :: ((ps.dropWhile fun x => blt x.f0 p.f0).dropWhile fun x => x.f0.toList == p.f0.toList)

def slices_Clone_string_string.f (l : List ByteArray) : Option (List ByteArray) := if l.length < 4398046511104 then some l else none
def slices_Clone_Pair.f (l : List S39) : Option (List S39) := if l.length < 4398046511104 then some l else none
def slices_Clone_uint32_uint32.f (l : List Int) : Option (List Int) := if l.length < 4398046511104 then some l else none
def slices_Concat_Pair.f (l : List (List S39)) : Option (List S39) := if l.flatten.length < 4398046511104 then some l.flatten else none
def slices_Concat_string_string.f (l : List (List ByteArray)) : Option (List ByteArray) := if l.flatten.length < 4398046511104 then some l.flatten else none
def slices_Concat_uint32_uint32.f (l : List (List Int)) : Option (List Int) := if l.flatten.length < 4398046511104 then some l.flatten else none
def node_isBranch.f (ps : List S39) (ks : List ByteArray) (kd : List Int) : Option Bool := some (branchB ps ks kd)
/-- Bounds that keep every sum of lengths far from a wrap. -/
def smallB (ps : List S39) (ks : List ByteArray) (kd : List Int) : Bool := decide (ps.length ≤ 100000) && decide (ks.length ≤ 100000) && decide (kd.length ≤ 100000)
def node_Size.f (ps : List S39) (ks : List ByteArray) (kd : List Int) : Option Int := if smallB ps ks kd = true then some (if rightB ps ks kd = true then (sizeN ps ks kd : Int) else 0) else none
def fitsB (ps : List S39) (ks : List ByteArray) (kd : List Int) : Bool := rightB ps ks kd && decide (sizeN ps ks kd ≤ 237)
def node_Encode.f (ps : List S39) (ks : List ByteArray) (kd : List Int) : Option (Int × ByteArray × Int) :=
  if smallB ps ks kd = true then if fitsB ps ks kd = true then some (if kd.isEmpty then 1 else 2, ⟨(bytesN ps ks kd).toArray⟩, 0) else some (0, ⟨#[]⟩, 60) else none
def node_Put.f (ps : List S39) (ks : List ByteArray) (kd : List Int) (k v : ByteArray) : Option (List S39 × List ByteArray × List Int × Int) :=
  if smallB ps ks kd = true then if (leafB ps ks kd && pOk ⟨k, v⟩ && decide ((putN ps ⟨k, v⟩).length ≤ 255)) = true then some (putN ps ⟨k, v⟩, [], [], 0) else some ([], [], [], 60) else none
def node_Delete.f (ps : List S39) (ks : List ByteArray) (kd : List Int) (k : ByteArray) : Option (List S39 × List ByteArray × List Int × Bool × Int) :=
  if smallB ps ks kd = true then if leafB ps ks kd = true then some (ps.filter (fun p => !(p.f0.toList == k.toList)), [], [], decide ((ps.filter fun p => !(p.f0.toList == k.toList)).length < ps.length), 0) else some ([], [], [], false, 60) else none
def node_Decode.f (kind : Int) (s : ByteArray) : Option (List S39 × List ByteArray × List Int × Int) := if kind = 9 ∧ s.size = 0 then some ([], [], [], 60) else none
end Go.Proofs.Ytejempihaknplaa.G
