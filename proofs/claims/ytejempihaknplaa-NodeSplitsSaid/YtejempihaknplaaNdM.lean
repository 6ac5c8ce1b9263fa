/- Small laws for this seat's walks, over any program: blocks that are known whole, the statement 'range over a function' by its loop's record, equality of pairs of numbers, bits, and the row's last step behind 'Below'. No condition. '[]byte(s)' and 'string(b)' in a walk, over any program: what the conversions leave. No condition. Laws for a walk over values of many cells (arrays, structs), over any program: loads, stores and new variables at a list of operations, plain and inside a fence; which blocks a call may write. No condition. Nodes as plain lists: which are right, their sizes and bytes, places, pairs put and deleted. Definitions alone. Texts in their order, rising lists of them, and where a text stands in one: plain lists, no program. No condition. Clone of package slices at []string, []api.Pair and []uint32: a new row of the same elements; whatever lay lies as it lay. Condition: fewer than 2^42 elements. The end of a function whose first result is a node in a variable of its own. No condition. -/
import Derived.RangeFuncNested
import Derived.RangeFuncBound
import Derived.RangeFuncCalls
import Derived.RangeFuncLeaves
import Derived.Shelf.Abstract
import Derived.Shelf.RegionOpen
import Derived.WalkKit
import Derived.OwnWalk
import Derived.OwnWalkIn
import Derived.TacticsInMore
import Derived.LoopNIn
import Derived.LoopIn
import Derived.Below
import Derived.Lib.Hide
import Derived.RegionTactic
import Derived.ChangeAlike
import Derived.BigRegion
import Derived.BigQuiet
import Derived.Deep.QuietTactic
import Derived.Deep.Draws
import Derived.Deep.LoopGhost
import Derived.Laws.OwnMore
import Derived.Laws.Rows
import Derived.Laws.BitsAllLaws
import Derived.Laws.BitsLemmas
import Derived.ChangeKeysEq
import Derived.ChangeSame
import Derived.KernelRfl
import Derived.Outline
import Derived.ScopeJumps
import Derived.WalkMore
import Derived.Lib.ConvBytes
import Derived.RegionIn
import Derived.BigRegionIn
import Derived.IntWalk
import Derived.Laws.BytesArg
import Derived.Laws.IdiomStrings
import Derived.Deep.MidRow
import Derived.Deep.AppendLies
import Derived.Deep.RegionHeld3
import Derived.Deep.DrawnRows
import Derived.Laws.IdiomCopy
import Derived.Test.YtejempihaknplaaGX
import Derived.WalkSpells
namespace Go.Proofs.Ytejempihaknplaa
open Go.RowKit

/-! ### a block that is known whole -/
def Blk (w : World) (g : Nat) (t : TypeId) (cs : Array Value) : Prop := w.heap[g]? = some (.cells cs t (0, 0))
section
variable {w w' : World} {g : Nat} {t : TypeId} {cs : Array Value}
theorem Blk.lt (h : Blk w g t cs) : g < w.heap.size := (Array.getElem?_eq_some_iff.1 h).1
theorem Blk.cell (h : Blk w g t cs) (i : Nat) : w.cell? ⟨g, i, none⟩ = cs[i]? := cell_of_row w g i cs t (0, 0) h
theorem Blk.frozen (h : Blk w g t cs) (i : Nat) : w.frozen? ⟨g, i, none⟩ = false := by
  unfold Blk at h
  simp [World.frozen?, h]
theorem Blk.new (w : World) (t : TypeId) (cs : Array Value) : Blk (w.alloc (.cells cs t)) w.heap.size t cs := World.alloc_heap_new w _
theorem Blk.drew (h : Blk w g t cs) : Blk w.drew g t cs := h
theorem Blk.alloc (h : Blk w g t cs) (o : Obj) : Blk (w.alloc o) g t cs := (Below.heap_alloc w o g h.lt).trans h
theorem Blk.set_ (h : Blk w g t cs) (i : Nat) (u : Value) : Blk (w.setCell ⟨g, i, none⟩ u) g t (cs.setIfInBounds i u) := by
  unfold Blk at h ⊢
  simp [World.setCell, Array.getElem?_modify, h]
theorem Blk.far (h : Blk w g t cs) {p : Addr} (hp : g ≠ p.block) (u : Value) : Blk (w.setCell p u) g t cs := (Below.heap_setCell w p u g hp).trans h
theorem Blk.below {B : Nat} (h : Blk w g t cs) (hb : Below B w w') (hg : g < B) : Blk w' g t cs := (hb.block g hg).trans h
theorem Blk.grown {row : Option Nat} (h : Blk w g t cs) (hb : w.grownBy w' row) (hg : some g ≠ row) : Blk w' g t cs := (hb.block g h.lt hg).trans h
theorem Blk.putObj (h : Blk w g t cs) {l : Nat} (hl : g ≠ l) (o : Obj) : Blk (w.putObj l o) g t cs := (World.putObj_heap_other hl).trans h
end

theorem below_drewN {B : Nat} {a w : World} (h : Below B a w) (n : Nat) : Below B a (w.drewN n) := ⟨h.os, h.tape, h.output, h.size, h.block⟩
theorem below_putObj {B : Nat} {a w : World} (h : Below B a w) {l : Nat} (hl : B ≤ l) (o : Obj) : Below B a (w.putObj l o) :=
  ⟨h.os, h.tape, h.output, by simpa using h.size, fun k hk => (World.putObj_heap_other (by omega)).trans (h.block k hk)⟩

theorem bl_re (w : World) : Below w.heap.size w w := Below.refl _ _
theorem bl_tr {a b c : World} (h : Below a.heap.size a b) (k : Below b.heap.size b c) : Below a.heap.size a c := h.trans (k.mono h.size)
theorem bl_al {a b : World} (h : Below a.heap.size a b) (o : Obj) : Below a.heap.size a (b.alloc o) := h.alloc h.size o
theorem bl_dr {a b : World} (h : Below a.heap.size a b) : Below a.heap.size a b.drew := h.drew
theorem bl_st {a b : World} (h : Below a.heap.size a b) {p : Addr} (hp : a.heap.size ≤ p.block) (u : Value) : Below a.heap.size a (b.setCell p u) := h.setCell hp u

/-! ### the statement 'for .. := range f { .. }', by its loop's record -/
section rangefunc
variable {F : Fence} {n m : Nat} {P : Program}

/-- The loop's record. -/
def recOf (fn : FuncId) (tmps : Array Value) (ps : Array Tmp) (assign body : Code) (D : Nat) (st : LoopState) (pe : Option Code) : Obj :=
  .loop { state := st, pending := pe, fn, tmps, params := ps, assign, body, defers := D }

/-- What a round's body owes at its end: the record is still there (busy), and R of what yield hands back and of the world in which the record has been written. -/
def roundEnd (l : Nat) (rec : LoopState → Option Code → Obj) (R : Ending → World → Prop) : Exit → Act → World → Prop
  | .normal, _, w => w.heap[l]? = some (rec .busy none) ∧ R (.returned (.bool true)) (w.putObj l (rec .ready none))
  | .ret, _, w => w.heap[l]? = some (rec .busy none) ∧ R (.returned (.bool false)) (w.putObj l (rec .done (some .ret)))
  | .exit id, _, w => w.heap[l]? = some (rec .busy none) ∧ R (.returned (.bool false)) (w.putObj l (rec .done (some (.exit id))))
  | .goto t, _, w => w.heap[l]? = some (rec .busy none) ∧ R (.returned (.bool false)) (w.putObj l (rec .done (some (.goto t))))
  | .panic _, _, _ => False
  | .outgrown, _, _ => False

theorem yieldAt_of {l : Nat} {fn : FuncId} {tmps : Array Value} {ps : Array Tmp} {assign body : Code} {D : Nat} {rec : LoopState → Option Code → Obj} {args : Array Value} {W : World} {R : Ending → World → Prop}
    (hrec : rec = recOf fn tmps ps assign body D) (hfn : F.fn fn) (hl : W.heap[l]? = some (rec .ready none)) (hs : args.size = ps.size)
    (h : assign.wpIn (F.inRound l) m P (Exit.then (fun a₁ W₁ => W₁.heap[l]? = some (rec .ready none) ∧
        body.wpIn (F.inRound l) m P (roundEnd l rec R) a₁ (W₁.putObj l (rec .busy none))) (fun _ _ _ => False))
      { tmps := (ps.zip args).foldl (fun t (p, v) => t.setIfInBounds p v) tmps, defers := [] } W) :
    YieldAt F m P l args W R := by
  subst hrec
  refine ⟨fn, _, assign, body, run_yield (r := { state := .ready, pending := none, fn, tmps, params := ps, assign, body, defers := D }) hl hs, roundIn_of_wpIn hfn ?_⟩
  refine wpIn_mono h ?_
  rintro e a₁ W₁ he
  cases e with
  | normal =>
    obtain ⟨hl1, hb⟩ := he
    refine ⟨_, run_beginRound hl1 rfl, wpIn_mono hb ?_⟩
    rintro e2 a2 W2 h2
    cases e2 with
    | normal => exact ⟨_, _, run_endRound none h2.1, h2.2⟩
    | ret => exact ⟨_, _, run_endRound (some .ret) h2.1, h2.2⟩
    | exit id => exact ⟨_, _, run_endRound (some (.exit id)) h2.1, h2.2⟩
    | goto t => exact ⟨_, _, run_endRound (some (.goto t)) h2.1, h2.2⟩
    | panic _ => exact h2.elim
    | outgrown => exact h2.elim
  | exit id => exact he.elim
  | goto t => exact he.elim
  | ret => exact he.elim
  | panic _ => exact he.elim
  | outgrown => exact he.elim

/-- The statement: the iterator is called with yield in the world in which the block for deferred calls (at w.heap.size) and the record (behind it) have been laid; what it leaves is the record with a jump or none; the activation goes on with that. -/
theorem wpIn_rf {g : Operand} {ps : Array Tmp} {assign body : Code} {Q : Exit → Act → World → Prop} {a : Act} {w : World}
    (hro : F.round = none) (h1 : F.depth.isSome = true → 1 ≤ n) {gf : Nat} {lb : Array Value} (hg : a.eval g = .func (.func gf) #[] lb) (hFg : F.fn gf) (eg : ∀ args w, (callFunc gf args).run P w = .ok (.enter gf args) w)
    (h : ∀ fn rec, F.fn fn → rec = recOf fn a.tmps ps assign body w.heap.size → CallsIn F (n - 1) P gf (#[.func (.yield (w.heap.size + 1)) #[] #[]] ++ lb)
      ((w.alloc (.deferred (some []))).alloc (rec .ready none)) fun e W => (∃ v, e = .returned v) ∧
        ∃ st jump, st ≠ .busy ∧ W.heap[w.heap.size + 1]? = some (rec st jump) ∧
          (match jump with
           | none => Q .normal { a with defers := { target := .collected w.heap.size, args := #[] } :: a.defers } (W.putObj (w.heap.size + 1) (rec .exhausted none))
           | some c => c.wpIn F n P Q { a with defers := { target := .collected w.heap.size, args := #[] } :: a.defers } (W.putObj (w.heap.size + 1) (rec .exhausted (some c))))) :
    (Code.rangeFunc g ps assign body).wpIn F n P Q a w := by
  refine wpIn_rangeFunc ?_
  intro fn hfn
  rw [hro]
  have hcall := h fn _ hfn rfl
  have henter := run_enterLoop_outer (P := P) (w := w) fn a.tmps ps assign body
  clear h
  obtain ⟨W1, hW1⟩ : ∃ W1, (w.alloc (.deferred (some []))).alloc (recOf fn a.tmps ps assign body w.heap.size .ready none) = W1 := ⟨_, rfl⟩
  rw [hW1] at hcall
  have henter' : (Instr.enterLoop fn a.tmps ps assign body none).run P w = .ok (w.heap.size + 1, [{ target := .collected w.heap.size, args := #[] }]) W1 := by rw [← hW1]; exact henter
  clear henter
  refine ⟨w.heap.size + 1, [{ target := .collected w.heap.size, args := #[] }], W1, { target := .fn (.func gf) lb, args := #[.func (.yield (w.heap.size + 1)) #[] #[]] }, W1, gf,
    #[.func (.yield (w.heap.size + 1)) #[] #[]] ++ lb, W1, henter', ?_, ?_, ?_, h1, ?_⟩
  · simp only [resolve, hg]
    simp [go_sem]
  · intro f' hf'
    simp [Target.leads] at hf'
    subst hf'
    exact hFg
  · simp [invoke, go_sem, eg]
  · refine hcall.mono ?_
    rintro e W ⟨⟨v, rfl⟩, st, jump, hst, hl, hj⟩
    refine ⟨jump, _, run_endLoop (r := { state := st, pending := jump, fn, tmps := a.tmps, params := ps, assign, body, defers := w.heap.size }) hl hst, ?_⟩
    cases jump with
    | none => exact hj
    | some c => exact hj
end rangefunc

/-! ### equality of two pairs of uint64 -/
/-! ### endings, bits -/
/-! ### texts as lists of bytes -/
/-- The text of these bytes. -/
def mk (l : List UInt8) : ByteArray := ⟨l.toArray⟩
theorem mk_of (s : ByteArray) : mk s.data.toList = s := by simp [mk]
theorem ba_ext {a b : ByteArray} (h : a.data.toList = b.data.toList) : a = b := by rw [← mk_of a, ← mk_of b, h]
theorem ba_length (s : ByteArray) : s.data.toList.length = s.size := Array.length_toList
end Go.Proofs.Ytejempihaknplaa

namespace Go.Proofs.Ytejempihaknplaa
open Go.RowKit
section
variable {P : Program}
/-- A block holds the bytes l from its head on. -/
def Holds (W : World) (g : Nat) (l : List UInt8) : Prop := ∀ j (h : j < l.length), W.cell? ⟨g, j, none⟩ = some (.int .u8 (l[j].toNat : Int))
theorem Holds.of {W : World} {g : Nat} {s : ByteArray} (hc : ∀ j (h : j < s.size), W.cell? ⟨g, j, none⟩ = some (.int .u8 (s[j].toNat : Int))) : Holds W g s.data.toList :=
  fun j h => hc j (by rw [ba_length] at h; exact h)
theorem Holds.set_ {W : World} {g : Nat} {l : List UInt8} (h : Holds W g l) (k : Nat) (c : UInt8) (hk : k < l.length) : Holds (W.setCell ⟨g, k, none⟩ (.int .u8 (c.toNat : Int))) g (l.set k c) := by
  intro j hj
  have hj' : j < l.length := by rw [List.length_set] at hj; exact hj
  by_cases e : k = j
  · subst e
    rw [List.getElem_set_self]
    exact World.cell?_setCell_same' _ _ _ (by rw [h k hk]; rfl)
  · rw [List.getElem_set_ne e, World.cell?_setCell_other _ _ _ _ (by intro h; injection h with _ h2; exact e h2)]
    exact h j hj'
theorem Holds.drew {W : World} {g : Nat} {l : List UInt8} (h : Holds W g l) : Holds W.drew g l := h

end
end Go.Proofs.Ytejempihaknplaa

namespace Go.Proofs.Ytejempihaknplaa
open Go.RowKit

/-- A type of n cells whose value is one of many cells. -/
def RowT (P : Program) (T : TypeId) (n : Nat) : Prop := ∃ d, P.underlying T = some d ∧ d.isRow = true ∧ (P.info? T).map (·.size) = some n
/-- A type of n cells, its zero's cells Z. -/
def ZeroT (P : Program) (T : TypeId) (Z : Array Value) : Prop := ∃ i z, P.info? T = some i ∧ i.zero = some z ∧ z.cells = Z

section
variable {F : Fence} {n : Nat} {P : Program} {ops : Array Oper} {rest : List Oper} {a : Act} {w : World} {Q : Exit → Act → World → Prop} {ty : TypeId} {pos : String} {after : Array Edge} {dst : Option Tmp}

theorem setCells_row (g : Nat) (t : TypeId) : ∀ (vs : List Value) (o : Nat) (w : World) (cur : Array Value), w.heap[g]? = some (.cells cur t (0, 0)) → o + vs.length ≤ cur.size →
    (w.setCells g o vs) = w.setRow g (cur.toList.take o ++ vs ++ cur.toList.drop (o + vs.length)).toArray
  | [], o, w, cur, hg, _ => by
    simp only [World.setCells, List.append_nil, List.length_nil, Nat.add_zero, List.take_append_drop, Array.toArray_toList]
    exact (setRow_self w g cur t (0, 0) hg).symm
  | v :: rest, o, w, cur, hg, hl => by
    have ih := setCells_row g t rest (o + 1) (w.setCell ⟨g, o, none⟩ v) (cur.setIfInBounds o v) (heap_setCell_same w g o cur t v hg) (by simp at hl ⊢; omega)
    simp only [World.setCells, ih]
    rw [setCell_eq_setRow w g o cur t (0, 0) v hg, setRow_setRow]
    congr 2
    have e := list_seg_step cur.toList o v rest (by simp at hl ⊢; omega)
    simp only [List.length_cons, ← e]
    simp [Array.toList_setIfInBounds, Nat.add_assoc]

/-! the arms -/
end

theorem rangeAt_row {w : World} {b o : Nat} {C : Array Value} {t : TypeId} {fr : Nat × Nat} (hb : w.heap[b]? = some (.cells C t fr)) (cs : List Value) (h : ∀ j v, cs[j]? = some v → C[o + j]? = some v) : w.rangeAt b o cs := fun j v hv => by
  rw [cell_of_row w b (o + j) C t fr hb]
  exact h j v hv

/-! ### which blocks a call may write -/
structure Chg (S : Nat → Prop) (w w' : World) : Prop where
  os : w'.os = w.os
  tape : w'.tape = w.tape
  output : w'.output = w.output
  size : w.heap.size ≤ w'.heap.size
  block : ∀ k, k < w.heap.size → ¬ S k → w'.heap[k]? = w.heap[k]?
section
variable {S : Nat → Prop} {w a b : World}
theorem Chg.refl (S : Nat → Prop) (w : World) : Chg S w w := ⟨rfl, rfl, rfl, Nat.le_refl _, fun _ _ _ => rfl⟩
theorem Chg.trans {c : World} (h : Chg S a b) (k : Chg S b c) : Chg S a c :=
  ⟨k.os.trans h.os, k.tape.trans h.tape, k.output.trans h.output, Nat.le_trans h.size k.size, fun i hi hs => (k.block i (Nat.lt_of_lt_of_le hi h.size) hs).trans (h.block i hi hs)⟩
theorem Chg.below {B : Nat} (h : Chg S a b) (hS : ∀ k, S k → B ≤ k) (hB : B ≤ a.heap.size) : Below B a b := ⟨h.os, h.tape, h.output, h.size, fun k hk => h.block k (by omega) fun hs => by have := hS k hs; omega⟩
theorem Chg.mono {S' : Nat → Prop} (h : Chg S a b) (hs : ∀ k, k < a.heap.size → S k → S' k) : Chg S' a b := ⟨h.os, h.tape, h.output, h.size, fun k hk hn => h.block k hk fun x => hn (hs k hk x)⟩
end

/-- The cells of bytes. -/
def u8s (l : List UInt8) : List Value := l.map fun b => .int .u8 (b.toNat : Int)
@[simp] theorem u8s_length (l : List UInt8) : (u8s l).length = l.length := by simp [u8s]
end Go.Proofs.Ytejempihaknplaa

namespace Go.Proofs.Ytejempihaknplaa.G
open Go.RowKit

def blt (a b : ByteArray) : Bool := Op.bytesLess a.toList b.toList
def kOk (s : ByteArray) : Bool := decide (1 ≤ s.size) && decide (s.size ≤ 24)
def pOk (p : S39) : Bool := kOk p.f0 && decide (p.f1.size ≤ 60)
def risesB : List ByteArray → Bool
  | [] => true
  | [_] => true
  | a :: b :: r => blt a b && risesB (b :: r)
def leafB (ps : List S39) (ks : List ByteArray) (kd : List Int) : Bool := ks.isEmpty && kd.isEmpty && decide (ps.length ≤ 255) && ps.all pOk && risesB (ps.map (·.f0))
def kidOk (k : Int) : Bool := decide (2 ≤ k) && decide (k < 16384)
def branchB (ps : List S39) (ks : List ByteArray) (kd : List Int) : Bool := ps.isEmpty && decide (1 ≤ kd.length) && decide (kd.length ≤ 255) && decide (ks.length + 1 = kd.length) && kd.all kidOk && ks.all kOk && risesB ks
def rightB (ps : List S39) (ks : List ByteArray) (kd : List Int) : Bool := leafB ps ks kd || branchB ps ks kd
def sumP (ps : List S39) : Nat := (ps.map fun p => 2 + p.f0.size + p.f1.size).sum
def sumK (ks : List ByteArray) : Nat := (ks.map fun k => 5 + k.size).sum
def sizeN (ps : List S39) (ks : List ByteArray) (kd : List Int) : Nat := if kd.isEmpty then 1 + sumP ps else 5 + sumK ks
def byteOf (n : Nat) : UInt8 := UInt8.ofNat n
def be4 (k : Int) : List UInt8 := [byteOf (k.toNat / 16777216 % 256), byteOf (k.toNat / 65536 % 256), byteOf (k.toNat / 256 % 256), byteOf (k.toNat % 256)]
def textB (s : ByteArray) : List UInt8 := byteOf s.size :: s.data.toList
def pairsB (ps : List S39) : List UInt8 := ps.flatMap fun p => textB p.f0 ++ textB p.f1
def partsB (ks : List ByteArray) (kd : List Int) : List UInt8 := (ks.zip kd).flatMap fun x => textB x.1 ++ be4 x.2
def bytesN (ps : List S39) (ks : List ByteArray) (kd : List Int) : List UInt8 := if kd.isEmpty then byteOf ps.length :: pairsB ps else byteOf kd.length :: (be4 (kd.headD 0) ++ partsB ks kd.tail)
/-- How many keys are less than this one. -/
def placeP (l : List ByteArray) (k : ByteArray) : Nat := (l.takeWhile fun x => blt x k).length
def putN (ps : List S39) (p : S39) : List S39 := (ps.takeWhile fun x => blt x.f0 p.f0) ++ p :: ((ps.dropWhile fun x => blt x.f0 p.f0).dropWhile fun x => x.f0.toList == p.f0.toList)

def slices_Clone_string_string.f (l : List ByteArray) : Option (List ByteArray) := if l.length < 4398046511104 then some l else none
def slices_Clone_Pair.f (l : List S39) : Option (List S39) := if l.length < 4398046511104 then some l else none
def slices_Clone_uint32_uint32.f (l : List Int) : Option (List Int) := if l.length < 4398046511104 then some l else none
def slices_Concat_Pair.f (l : List (List S39)) : Option (List S39) := if l.flatten.length < 4398046511104 then some l.flatten else none
def slices_Concat_string_string.f (l : List (List ByteArray)) : Option (List ByteArray) := if l.flatten.length < 4398046511104 then some l.flatten else none
def slices_Concat_uint32_uint32.f (l : List (List Int)) : Option (List Int) := if l.flatten.length < 4398046511104 then some l.flatten else none
def node_isBranch.f (ps : List S39) (ks : List ByteArray) (kd : List Int) : Option Bool := some (branchB ps ks kd)
/-- Bounds that keep every sum of lengths far from a wrap. -/
def smallB (ps : List S39) (ks : List ByteArray) (kd : List Int) : Bool := decide (ps.length ≤ 100000) && decide (ks.length ≤ 100000) && decide (kd.length ≤ 100000)
def node_Size.f (ps : List S39) (ks : List ByteArray) (kd : List Int) : Option Int := if smallB ps ks kd = true then some (if rightB ps ks kd = true then (sizeN ps ks kd : Int) else 0) else none
def fitsB (ps : List S39) (ks : List ByteArray) (kd : List Int) : Bool := rightB ps ks kd && decide (sizeN ps ks kd ≤ 237)
def node_Encode.f (ps : List S39) (ks : List ByteArray) (kd : List Int) : Option (Int × ByteArray × Int) :=
  if smallB ps ks kd = true then if fitsB ps ks kd = true then some (if kd.isEmpty then 1 else 2, ⟨(bytesN ps ks kd).toArray⟩, 0) else some (0, ⟨#[]⟩, 60) else none
def node_Put.f (ps : List S39) (ks : List ByteArray) (kd : List Int) (k v : ByteArray) : Option (List S39 × List ByteArray × List Int × Int) :=
  if smallB ps ks kd = true then if (leafB ps ks kd && pOk ⟨k, v⟩ && decide ((putN ps ⟨k, v⟩).length ≤ 255)) = true then some (putN ps ⟨k, v⟩, [], [], 0) else some ([], [], [], 60) else none
def node_Delete.f (ps : List S39) (ks : List ByteArray) (kd : List Int) (k : ByteArray) : Option (List S39 × List ByteArray × List Int × Bool × Int) :=
  if smallB ps ks kd = true then if leafB ps ks kd = true then some (ps.filter (fun p => !(p.f0.toList == k.toList)), [], [], decide ((ps.filter fun p => !(p.f0.toList == k.toList)).length < ps.length), 0) else some ([], [], [], false, 60) else none
def node_Decode.f (kind : Int) (s : ByteArray) : Option (List S39 × List ByteArray × List Int × Int) := if kind = 9 ∧ s.size = 0 then some ([], [], [], 60) else none
end Go.Proofs.Ytejempihaknplaa.G

namespace Go.Proofs.Ytejempihaknplaa.G
open Go.RowKit

/-! ### the order of texts -/
theorem less_irr : ∀ a : List UInt8, Op.bytesLess a a = false
  | [] => rfl
  | a :: x => by
    unfold Op.bytesLess
    rw [less_irr x]
    simp
theorem less_trans : ∀ {a b c : List UInt8}, Op.bytesLess a b = true → Op.bytesLess b c = true → Op.bytesLess a c = true
  | a, b, [], _, h2 => by cases b <;> simp [Op.bytesLess] at h2
  | a, [], c :: z, h1, _ => by cases a <;> simp [Op.bytesLess] at h1
  | [], b :: y, c :: z, _, _ => by simp [Op.bytesLess]
  | a :: x, b :: y, c :: z, h1, h2 => by
    simp only [Op.bytesLess, Bool.or_eq_true, Bool.and_eq_true, decide_eq_true_eq, beq_iff_eq] at h1 h2 ⊢
    rcases h1 with h1 | ⟨rfl, h1⟩
    · rcases h2 with h2 | ⟨rfl, h2⟩
      · exact .inl (UInt8.lt_trans h1 h2)
      · exact .inl h1
    · rcases h2 with h2 | ⟨rfl, h2⟩
      · exact .inl h2
      · exact .inr ⟨rfl, less_trans h1 h2⟩
theorem ba_eq {a b : ByteArray} (h : a.toList = b.toList) : a = b := by
  rw [ByteArray.toList_eq, ByteArray.toList_eq] at h
  cases a; cases b
  simp only [ByteArray.mk.injEq]
  exact Array.toList_inj.1 h
theorem blt_trans {a b c : ByteArray} (h1 : blt a b = true) (h2 : blt b c = true) : blt a c = true := less_trans h1 h2
/-! ### rising lists -/
def Rising (l : List ByteArray) : Prop := l.Pairwise fun a b => blt a b = true
theorem rises_iff : ∀ l : List ByteArray, risesB l = true ↔ Rising l
  | [] => by simp [risesB, Rising]
  | [a] => by simp [risesB, Rising]
  | a :: b :: r => by
    have ih := rises_iff (b :: r)
    unfold Rising at ih ⊢
    simp only [risesB, Bool.and_eq_true, ih]
    constructor
    · rintro ⟨h1, h2⟩
      refine List.pairwise_cons.2 ⟨fun c hc => ?_, h2⟩
      rcases List.mem_cons.1 hc with rfl | hc
      · exact h1
      · exact blt_trans h1 ((List.pairwise_cons.1 h2).1 c hc)
    · intro h
      exact ⟨(List.pairwise_cons.1 h).1 b (List.mem_cons_self), (List.pairwise_cons.1 h).2⟩

/-- What is less than a text comes first in a rising list. -/
theorem rising_split {l : List ByteArray} (h : Rising l) (t : ByteArray) : (∀ i (hi : i < l.length), i < placeP l t → blt l[i] t = true) ∧ (∀ i (hi : i < l.length), placeP l t ≤ i → blt l[i] t = false) := by
  unfold placeP
  induction l with
  | nil => exact ⟨fun i hi => by simp at hi, fun i hi => by simp at hi⟩
  | cons a r ih =>
    have ha := List.pairwise_cons.1 h
    obtain ⟨h1, h2⟩ := ih ha.2
    rw [List.takeWhile_cons]
    cases hb : blt a t with
    | true =>
      simp only [if_true, List.length_cons]
      refine ⟨fun i hi hlt => ?_, fun i hi hge => ?_⟩
      · cases i with
        | zero => exact hb
        | succ i => exact h1 i (by simpa using hi) (by omega)
      · cases i with
        | zero => omega
        | succ i => exact h2 i (by simpa using hi) (by omega)
    | false =>
      simp only [Bool.false_eq_true, if_false, List.length_nil]
      refine ⟨fun i hi hlt => by omega, fun i hi _ => ?_⟩
      cases i with
      | zero => exact hb
      | succ i =>
        have hai := ha.1 (r[i]'(by simpa using hi)) (List.getElem_mem _)
        rw [Bool.eq_false_iff]
        intro hc
        have := blt_trans hai hc
        rw [hb] at this
        cases this
theorem placeP_le (l : List ByteArray) (t : ByteArray) : placeP l t ≤ l.length := (List.takeWhile_sublist _).length_le
theorem placeP_unique {l : List ByteArray} (h : Rising l) (t : ByteArray) (n : Nat) (hn : n ≤ l.length) (h1 : ∀ i (hi : i < l.length), i < n → blt l[i] t = true) (h2 : ∀ i (hi : i < l.length), n ≤ i → blt l[i] t = false) : n = placeP l t := by
  have hs := rising_split h t
  have hp := placeP_le l t
  rcases Nat.lt_trichotomy n (placeP l t) with hlt | he | hgt
  · have a1 := hs.1 n (by omega) hlt
    rw [h2 n (by omega) (Nat.le_refl _)] at a1
    cases a1
  · exact he
  · have a1 := hs.2 (placeP l t) (by omega) (Nat.le_refl _)
    rw [h1 (placeP l t) (by omega) hgt] at a1
    cases a1
end Go.Proofs.Ytejempihaknplaa.G

namespace Go.Proofs.Ytejempihaknplaa.G
open Go.RowKit Go.Proofs.YtejempihaknplaaW.PrintWords Go.Proofs.YtejempihaknplaaW.PrintLast Go.Proofs.YtejempihaknplaaW.PrintMore
set_option linter.unusedVariables false

theorem own_empty (W : World) (base : Nat) (e : TypeId) (size : Nat) (hb : base ≤ W.heap.size) : (W.alloc (.cells #[] e)).ownsRow base e size (.slice (some ⟨W.heap.size, 0, none⟩) 0 0) 0 [] :=
  ⟨by simp, .inr ⟨W.heap.size, 0, #[], rfl, hb, Go.heap_alloc_new W _, by simp, by simp [maxLen], by simp, by simp⟩⟩
theorem reads_nil {α : Type} {d : Kd α} {w : World} {n : Nat} {l : List α} (h : Kd.C d w none n l) : l = [] := by
  rcases Nat.eq_zero_or_pos n with h0 | h0
  · exact List.eq_nil_of_length_eq_zero (h.1.trans h0)
  · obtain ⟨ad, h, _⟩ := h.2.2 h0
    cases h
theorem R_empty {α : Type} (d : Kd α) (W : World) (base : Nat) (e : TypeId) (hb : base ≤ W.heap.size) : d.R e (W.alloc (.cells #[] e)) base (fun _ => True) (.slice (some ⟨W.heap.size, 0, none⟩) 0 0) [] :=
  ⟨fun _ _ => trivial, [], own_empty W base e d.sz hb, Reps.none _ _⟩

set_option maxHeartbeats 1000000 in
theorem slices_Clone_string_string.calls (A0 : Option Addr) (c0 : Nat) (l0 : List ByteArray) (r : List ByteArray) (w : World) (hr0 : Kd.C Kd.string w A0 l0.length l0) (hc0 : l0.length ≤ c0) (h : slices_Clone_string_string.f l0 = some r) :
    Calls Try.prog 69 #[.slice A0 l0.length c0] w fun e w' => ∃ v0_ : Value, e = .returned (v0_) ∧ Kd.R Kd.string 9 w' w.heap.size (fun _ => True) v0_ r ∧ Below w.heap.size w w' := by
  unfold slices_Clone_string_string.f at h
  split at h
  · rename_i hl
    obtain rfl := Option.some.inj h
    clear h
    have hn := fun (w : World) (a : Option Addr) (n c n' c' : Nat) => Lib.run_eql_slice_nil w 23 9 a n c n' c' Try.underlying23
    have HR := Aside0.mk hr0
    have HL := Aside0.mk hl
    clear hr0 hl
    cases A0 with
    | none =>
      go_enter Try.func69, Try.ntmps69
      go_wp2
      go_ret
      exact ⟨_, rfl, by rw [reads_nil HR.out]; exact Kd.R_nil _ _ _ _ _, Below.refl _ _⟩
    | some ad =>
      go_enter Try.func69, Try.ntmps69
      go_wp2_with (at_builtin; refine Kd.R_append_rows (Rr := Kd.K Kd.string w) Kd.string (w0 := w) w.heap.size rfl (.tmp 5) (.tmp 6) 23 9 (.string ⟨#[]⟩) 16 rfl Try.underlying23 info9 rfl (by decide) (by decide) (.slice (some ⟨w.heap.size, 0, none⟩) 0 0) [] l0 (some ad) l0.length c0 (fun _ => True) (fun _ => False) rfl rfl ?O ?R ?K (fun _ h => h.elim) (fun _ _ => trivial) ?B ?S ?L ?_; (case O => exact R_empty Kd.string w w.heap.size 9 (Nat.le_refl _)); (case R => exact ReadsRow.imp_ HR.out ((Below.refl w.heap.size w).alloc (Nat.le_refl _) _) (fun _ _ h => h)); (case K => exact (fun x cs h => h)); (case B => exact (Below.refl w.heap.size w).alloc (Nat.le_refl _) _); (case S => simp); (case L => (have := HL.out; simp only [List.length_nil]; omega)); intro v1 w1 hR1 hB1 hg1 hb1; have HR1 := Aside0.mk (show Kd.R Kd.string 9 w1 w.heap.size (fun _ => True) v1 l0 from hR1); have HB1 := Aside0.mk hB1; clear hR1 hB1 hg1 hb1)
      go_ret
      exact ⟨_, rfl, HR1.out, HB1.out⟩
  · cases h

set_option maxHeartbeats 1000000 in
theorem slices_Clone_Pair.calls (A0 : Option Addr) (c0 : Nat) (l0 : List S39) (r : List S39) (w : World) (hr0 : Kd.C k39 w A0 l0.length l0) (hc0 : l0.length ≤ c0) (h : slices_Clone_Pair.f l0 = some r) :
    Calls Try.prog 48 #[.slice A0 l0.length c0] w fun e w' => ∃ v0_ : Value, e = .returned (v0_) ∧ Kd.R k39 39 w' w.heap.size (fun _ => True) v0_ r ∧ Below w.heap.size w w' := by
  unfold slices_Clone_Pair.f at h
  split at h
  · rename_i hl
    obtain rfl := Option.some.inj h
    clear h
    have hn := fun (w : World) (a : Option Addr) (n c n' c' : Nat) => Lib.run_eql_slice_nil w 22 39 a n c n' c' Try.underlying22
    have HR := Aside0.mk hr0
    have HL := Aside0.mk hl
    clear hr0 hl
    cases A0 with
    | none =>
      go_enter Try.func48, Try.ntmps48
      go_wp2
      go_ret
      exact ⟨_, rfl, by rw [reads_nil HR.out]; exact Kd.R_nil _ _ _ _ _, Below.refl _ _⟩
    | some ad =>
      go_enter Try.func48, Try.ntmps48
      go_wp2_with (at_builtin; refine Kd.R_append_rows (Rr := Kd.K k39 w) k39 (w0 := w) w.heap.size rfl (.tmp 5) (.tmp 6) 22 39 (.agg #[(.string ⟨#[]⟩), (.string ⟨#[]⟩)]) 32 rfl Try.underlying22 info39 rfl (by decide) (by decide) (.slice (some ⟨w.heap.size, 0, none⟩) 0 0) [] l0 (some ad) l0.length c0 (fun _ => True) (fun _ => False) rfl rfl ?O ?R ?K (fun _ h => h.elim) (fun _ _ => trivial) ?B ?S ?L ?_; (case O => exact R_empty k39 w w.heap.size 39 (Nat.le_refl _)); (case R => exact ReadsRow.imp_ HR.out ((Below.refl w.heap.size w).alloc (Nat.le_refl _) _) (fun _ _ h => h)); (case K => exact (fun x cs h => h)); (case B => exact (Below.refl w.heap.size w).alloc (Nat.le_refl _) _); (case S => simp); (case L => (have := HL.out; simp only [List.length_nil]; omega)); intro v1 w1 hR1 hB1 hg1 hb1; have HR1 := Aside0.mk (show Kd.R k39 39 w1 w.heap.size (fun _ => True) v1 l0 from hR1); have HB1 := Aside0.mk hB1; clear hR1 hB1 hg1 hb1)
      go_ret
      exact ⟨_, rfl, HR1.out, HB1.out⟩
  · cases h

set_option maxHeartbeats 1000000 in
theorem slices_Clone_uint32_uint32.calls (A0 : Option Addr) (c0 : Nat) (l0 : List Int) (r : List Int) (w : World) (hr0 : Kd.C (Kd.int .u32) w A0 l0.length l0) (hc0 : l0.length ≤ c0) (h : slices_Clone_uint32_uint32.f l0 = some r) :
    Calls Try.prog 71 #[.slice A0 l0.length c0] w fun e w' => ∃ v0_ : Value, e = .returned (v0_) ∧ Kd.R (Kd.int .u32) 65 w' w.heap.size (fun _ => True) v0_ r ∧ Below w.heap.size w w' := by
  unfold slices_Clone_uint32_uint32.f at h
  split at h
  · rename_i hl
    obtain rfl := Option.some.inj h
    clear h
    have hn := fun (w : World) (a : Option Addr) (n c n' c' : Nat) => Lib.run_eql_slice_nil w 24 65 a n c n' c' Try.underlying24
    have HR := Aside0.mk hr0
    have HL := Aside0.mk hl
    clear hr0 hl
    cases A0 with
    | none =>
      go_enter Try.func71, Try.ntmps71
      go_wp2
      go_ret
      exact ⟨_, rfl, by rw [reads_nil HR.out]; exact Kd.R_nil _ _ _ _ _, Below.refl _ _⟩
    | some ad =>
      go_enter Try.func71, Try.ntmps71
      go_wp2_with (at_builtin; refine Kd.R_append_rows (Rr := Kd.K (Kd.int .u32) w) (Kd.int .u32) (w0 := w) w.heap.size rfl (.tmp 5) (.tmp 6) 24 65 (.int .u32 0) 4 rfl Try.underlying24 info65 rfl (by decide) (by decide) (.slice (some ⟨w.heap.size, 0, none⟩) 0 0) [] l0 (some ad) l0.length c0 (fun _ => True) (fun _ => False) rfl rfl ?O ?R ?K (fun _ h => h.elim) (fun _ _ => trivial) ?B ?S ?L ?_; (case O => exact R_empty (Kd.int .u32) w w.heap.size 65 (Nat.le_refl _)); (case R => exact ReadsRow.imp_ HR.out ((Below.refl w.heap.size w).alloc (Nat.le_refl _) _) (fun _ _ h => h)); (case K => exact (fun x cs h => h)); (case B => exact (Below.refl w.heap.size w).alloc (Nat.le_refl _) _); (case S => simp); (case L => (have := HL.out; simp only [List.length_nil]; omega)); intro v1 w1 hR1 hB1 hg1 hb1; have HR1 := Aside0.mk (show Kd.R (Kd.int .u32) 65 w1 w.heap.size (fun _ => True) v1 l0 from hR1); have HB1 := Aside0.mk hB1; clear hR1 hB1 hg1 hb1)
      go_ret
      exact ⟨_, rfl, HR1.out, HB1.out⟩
  · cases h

end Go.Proofs.Ytejempihaknplaa.G

namespace Go.Proofs.Ytejempihaknplaa.G
open Go.RowKit
theorem rowT_node : RowT Try.prog 26 3 := ⟨_, Try.underlying26, rfl, by kernel_rfl⟩
/-- The end of a function whose first result lies in a variable of its own, a node. -/
theorem post_node {fn : Func} {p q : Tmp} {R : Ending → World → Prop} {a : Act} {W : World} {g : Nat} {v0 v1 v2 v : Value} (h : fn.results = #[.cell p 26, .tmp q]) (hB : Blk W g 26 #[v0, v1, v2]) (hd : a.defers = [])
    (hp : a.tmps.getD p undef = .pointer (some ⟨g, 0, none⟩)) (hq : a.tmps.getD q undef = v) (hR : R (.returned (.tuple #[.agg #[v0, v1, v2], v])) W) : bodyPost Try.prog fn R .ret a W := by
  obtain ⟨d, hu, hdd, hi⟩ := rowT_node
  have hc : W.rangeAt g 0 [v0, v1, v2] := rangeAt_row hB _ fun j v hj => by simpa using hj
  have hp' : a.tmps[p]?.getD undef = .pointer (some ⟨g, 0, none⟩) := by simpa using hp
  have hq' : a.tmps[q]?.getD undef = v := by simpa using hq
  refine bodyPost_ret (v := .tuple #[.agg #[v0, v1, v2], v]) ?_ hd hR
  simp [results, h, hp', hq', asAddr, run_loadVar_mid _ g 0 _ [v0, v1, v2] d hc hu hdd hi]
end Go.Proofs.Ytejempihaknplaa.G
