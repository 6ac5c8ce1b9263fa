/- Small laws for this seat's walks, over any program: blocks that are known whole, the statement 'range over a function' by its loop's record, equality of pairs of numbers, bits, and the row's last step behind 'Below'. No condition. -/
import Derived.RangeFuncNested
import Derived.RangeFuncBound
import Derived.RangeFuncCalls
import Derived.RangeFuncLeaves
import Derived.Shelf.Abstract
import Derived.Shelf.RegionOpen
import Derived.WalkKit
import Derived.OwnWalk
import Derived.OwnWalkIn
import Derived.TacticsInMore
import Derived.LoopNIn
import Derived.LoopIn
import Derived.Below
import Derived.Lib.Hide
import Derived.RegionTactic
import Derived.ChangeAlike
import Derived.BigRegion
import Derived.BigQuiet
import Derived.Deep.QuietTactic
import Derived.Deep.Draws
import Derived.Deep.LoopGhost
import Derived.Laws.OwnMore
import Derived.Laws.Rows
import Derived.Laws.BitsAllLaws
import Derived.Laws.BitsLemmas
import Derived.ChangeKeysEq
import Derived.ChangeSame
import Derived.KernelRfl
import Derived.Outline
import Derived.ScopeJumps
import Derived.WalkMore
import Derived.Lib.ConvBytes
import Derived.RegionIn
import Derived.BigRegionIn
import Derived.IntWalk
import Derived.Laws.BytesArg
import Derived.Laws.IdiomStrings
namespace Go.Proofs.Ytdaoiimjflplhaa
open Go.RowKit

/-! ### a block that is known whole -/
def Blk (w : World) (g : Nat) (t : TypeId) (cs : Array Value) : Prop := w.heap[g]? = some (.cells cs t (0, 0))
section
variable {w w' : World} {g : Nat} {t : TypeId} {cs : Array Value}
theorem Blk.lt (h : Blk w g t cs) : g < w.heap.size := (Array.getElem?_eq_some_iff.1 h).1
theorem Blk.cell (h : Blk w g t cs) (i : Nat) : w.cell? ⟨g, i, none⟩ = cs[i]? := cell_of_row w g i cs t (0, 0) h
theorem Blk.frozen (h : Blk w g t cs) (i : Nat) : w.frozen? ⟨g, i, none⟩ = false := by
  unfold Blk at h
  simp [World.frozen?, h]
theorem Blk.new (w : World) (t : TypeId) (cs : Array Value) : Blk (w.alloc (.cells cs t)) w.heap.size t cs := World.alloc_heap_new w _
theorem Blk.drew (h : Blk w g t cs) : Blk w.drew g t cs := h
theorem Blk.alloc (h : Blk w g t cs) (o : Obj) : Blk (w.alloc o) g t cs := (Below.heap_alloc w o g h.lt).trans h
theorem Blk.set_ (h : Blk w g t cs) (i : Nat) (u : Value) : Blk (w.setCell ⟨g, i, none⟩ u) g t (cs.setIfInBounds i u) := by
  unfold Blk at h ⊢
  simp [World.setCell, Array.getElem?_modify, h]
theorem Blk.far (h : Blk w g t cs) {p : Addr} (hp : g ≠ p.block) (u : Value) : Blk (w.setCell p u) g t cs := (Below.heap_setCell w p u g hp).trans h
theorem Blk.below {B : Nat} (h : Blk w g t cs) (hb : Below B w w') (hg : g < B) : Blk w' g t cs := (hb.block g hg).trans h
theorem Blk.grown {row : Option Nat} (h : Blk w g t cs) (hb : w.grownBy w' row) (hg : some g ≠ row) : Blk w' g t cs := (hb.block g h.lt hg).trans h
theorem Blk.putObj (h : Blk w g t cs) {l : Nat} (hl : g ≠ l) (o : Obj) : Blk (w.putObj l o) g t cs := (World.putObj_heap_other hl).trans h
end

theorem below_drewN {B : Nat} {a w : World} (h : Below B a w) (n : Nat) : Below B a (w.drewN n) := ⟨h.os, h.tape, h.output, h.size, h.block⟩
theorem below_putObj {B : Nat} {a w : World} (h : Below B a w) {l : Nat} (hl : B ≤ l) (o : Obj) : Below B a (w.putObj l o) :=
  ⟨h.os, h.tape, h.output, by simpa using h.size, fun k hk => (World.putObj_heap_other (by omega)).trans (h.block k hk)⟩

theorem bl_re (w : World) : Below w.heap.size w w := Below.refl _ _
theorem bl_tr {a b c : World} (h : Below a.heap.size a b) (k : Below b.heap.size b c) : Below a.heap.size a c := h.trans (k.mono h.size)
theorem bl_al {a b : World} (h : Below a.heap.size a b) (o : Obj) : Below a.heap.size a (b.alloc o) := h.alloc h.size o
theorem bl_dr {a b : World} (h : Below a.heap.size a b) : Below a.heap.size a b.drew := h.drew
theorem bl_dN {a b : World} (h : Below a.heap.size a b) (n : Nat) : Below a.heap.size a (b.drewN n) := below_drewN h n
theorem bl_st {a b : World} (h : Below a.heap.size a b) {p : Addr} (hp : a.heap.size ≤ p.block) (u : Value) : Below a.heap.size a (b.setCell p u) := h.setCell hp u

/-! ### the statement 'for .. := range f { .. }', by its loop's record -/
section rangefunc
variable {F : Fence} {n m : Nat} {P : Program}

/-- The loop's record. -/
def recOf (fn : FuncId) (tmps : Array Value) (ps : Array Tmp) (assign body : Code) (D : Nat) (st : LoopState) (pe : Option Code) : Obj :=
  .loop { state := st, pending := pe, fn, tmps, params := ps, assign, body, defers := D }

/-- What a round's body owes at its end: the record is still there (busy), and R of what yield hands back and of the world in which the record has been written. -/
def roundEnd (l : Nat) (rec : LoopState → Option Code → Obj) (R : Ending → World → Prop) : Exit → Act → World → Prop
  | .normal, _, w => w.heap[l]? = some (rec .busy none) ∧ R (.returned (.bool true)) (w.putObj l (rec .ready none))
  | .ret, _, w => w.heap[l]? = some (rec .busy none) ∧ R (.returned (.bool false)) (w.putObj l (rec .done (some .ret)))
  | .exit id, _, w => w.heap[l]? = some (rec .busy none) ∧ R (.returned (.bool false)) (w.putObj l (rec .done (some (.exit id))))
  | .goto t, _, w => w.heap[l]? = some (rec .busy none) ∧ R (.returned (.bool false)) (w.putObj l (rec .done (some (.goto t))))
  | .panic _, _, _ => False
  | .outgrown, _, _ => False

theorem yieldAt_of {l : Nat} {fn : FuncId} {tmps : Array Value} {ps : Array Tmp} {assign body : Code} {D : Nat} {rec : LoopState → Option Code → Obj} {args : Array Value} {W : World} {R : Ending → World → Prop}
    (hrec : rec = recOf fn tmps ps assign body D) (hfn : F.fn fn) (hl : W.heap[l]? = some (rec .ready none)) (hs : args.size = ps.size)
    (h : assign.wpIn (F.inRound l) m P (Exit.then (fun a₁ W₁ => W₁.heap[l]? = some (rec .ready none) ∧
        body.wpIn (F.inRound l) m P (roundEnd l rec R) a₁ (W₁.putObj l (rec .busy none))) (fun _ _ _ => False))
      { tmps := (ps.zip args).foldl (fun t (p, v) => t.setIfInBounds p v) tmps, defers := [] } W) :
    YieldAt F m P l args W R := by
  subst hrec
  refine ⟨fn, _, assign, body, run_yield (r := { state := .ready, pending := none, fn, tmps, params := ps, assign, body, defers := D }) hl hs, roundIn_of_wpIn hfn ?_⟩
  refine wpIn_mono h ?_
  rintro e a₁ W₁ he
  cases e with
  | normal =>
    obtain ⟨hl1, hb⟩ := he
    refine ⟨_, run_beginRound hl1 rfl, wpIn_mono hb ?_⟩
    rintro e2 a2 W2 h2
    cases e2 with
    | normal => exact ⟨_, _, run_endRound none h2.1, h2.2⟩
    | ret => exact ⟨_, _, run_endRound (some .ret) h2.1, h2.2⟩
    | exit id => exact ⟨_, _, run_endRound (some (.exit id)) h2.1, h2.2⟩
    | goto t => exact ⟨_, _, run_endRound (some (.goto t)) h2.1, h2.2⟩
    | panic _ => exact h2.elim
    | outgrown => exact h2.elim
  | exit id => exact he.elim
  | goto t => exact he.elim
  | ret => exact he.elim
  | panic _ => exact he.elim
  | outgrown => exact he.elim

/-- The statement: the iterator is called with yield in the world in which the block for deferred calls (at w.heap.size) and the record (behind it) have been laid; what it leaves is the record with a jump or none; the activation goes on with that. -/
theorem wpIn_rf {g : Operand} {ps : Array Tmp} {assign body : Code} {Q : Exit → Act → World → Prop} {a : Act} {w : World}
    (hro : F.round = none) (h1 : F.depth.isSome = true → 1 ≤ n) {gf : Nat} {lb : Array Value} (hg : a.eval g = .func (.func gf) #[] lb) (hFg : F.fn gf) (eg : ∀ args w, (callFunc gf args).run P w = .ok (.enter gf args) w)
    (h : ∀ fn rec, F.fn fn → rec = recOf fn a.tmps ps assign body w.heap.size → CallsIn F (n - 1) P gf (#[.func (.yield (w.heap.size + 1)) #[] #[]] ++ lb)
      ((w.alloc (.deferred (some []))).alloc (rec .ready none)) fun e W => (∃ v, e = .returned v) ∧
        ∃ st jump, st ≠ .busy ∧ W.heap[w.heap.size + 1]? = some (rec st jump) ∧
          (match jump with
           | none => Q .normal { a with defers := { target := .collected w.heap.size, args := #[] } :: a.defers } (W.putObj (w.heap.size + 1) (rec .exhausted none))
           | some c => c.wpIn F n P Q { a with defers := { target := .collected w.heap.size, args := #[] } :: a.defers } (W.putObj (w.heap.size + 1) (rec .exhausted (some c))))) :
    (Code.rangeFunc g ps assign body).wpIn F n P Q a w := by
  refine wpIn_rangeFunc ?_
  intro fn hfn
  rw [hro]
  have hcall := h fn _ hfn rfl
  have henter := run_enterLoop_outer (P := P) (w := w) fn a.tmps ps assign body
  clear h
  obtain ⟨W1, hW1⟩ : ∃ W1, (w.alloc (.deferred (some []))).alloc (recOf fn a.tmps ps assign body w.heap.size .ready none) = W1 := ⟨_, rfl⟩
  rw [hW1] at hcall
  have henter' : (Instr.enterLoop fn a.tmps ps assign body none).run P w = .ok (w.heap.size + 1, [{ target := .collected w.heap.size, args := #[] }]) W1 := by rw [← hW1]; exact henter
  clear henter
  refine ⟨w.heap.size + 1, [{ target := .collected w.heap.size, args := #[] }], W1, { target := .fn (.func gf) lb, args := #[.func (.yield (w.heap.size + 1)) #[] #[]] }, W1, gf,
    #[.func (.yield (w.heap.size + 1)) #[] #[]] ++ lb, W1, henter', ?_, ?_, ?_, h1, ?_⟩
  · simp only [resolve, hg]
    simp [go_sem]
  · intro f' hf'
    simp [Target.leads] at hf'
    subst hf'
    exact hFg
  · simp [invoke, go_sem, eg]
  · refine hcall.mono ?_
    rintro e W ⟨⟨v, rfl⟩, st, jump, hst, hl, hj⟩
    refine ⟨jump, _, run_endLoop (r := { state := st, pending := jump, fn, tmps := a.tmps, params := ps, assign, body, defers := w.heap.size }) hl hst, ?_⟩
    cases jump with
    | none => exact hj
    | some c => exact hj
end rangefunc

/-! ### equality of two pairs of uint64 -/
theorem run_isAgg_int {P : Program} {w : World} {e : TypeId} {k : IntKind} (he : P.underlying e = some (.int k)) : (isAgg e).run P w = .ok false w := by
  simp [isAgg, run_underlying he]
theorem run_eql_pair {P : Program} {w : World} {t e : TypeId} {i : TypeInfo} (hu : P.underlying t = some (.array 2 e)) (he : P.underlying e = some (.int .u64)) (hi : P.info? e = some i) (hc : P.cellsOf e = 1)
    (a b c d : Int) : (binOp .eql t (.agg #[.int .u64 a, .int .u64 b]) (.agg #[.int .u64 c, .int .u64 d])).run P w = .ok (.bool (a == c && b == d)) w := by
  simp only [binOp, Op.equal, Op.maxDepth, Sem.run_bind]
  rw [run_equalIn_array (d := 9999) _ _ _ hu hi]
  simp [Op.eqItems, hc, go_sem, he, part, run_isAgg_int he, List.range, List.range.loop]
  by_cases h1 : a = c <;> by_cases h2 : b = d <;> simp [h1, h2]

/-! ### endings, bits -/
theorem ret_int {k : IntKind} {a b : Int} (h : a = b) : Ending.returned (.int k a) = .returned (.int k b) := by rw [h]
theorem ret_bool {a b : Bool} (h : a = b) : Ending.returned (.bool a) = .returned (.bool b) := by rw [h]
theorem u32_mask16 (n : Nat) (hn : n < 4294967296) : bits .and .u32 (n : Int) 65535 = ((n % 65536 : Nat) : Int) := by
  rw [show (65535 : Int) = ((65535 : Nat) : Int) from rfl, u32_and_nat n 65535 hn (by omega), nat_mask16]
theorem u64_join16 (a b : Nat) (ha : a < 65536) (hb : b < 281474976710656) : bits .or .u64 ((b * 65536 : Nat) : Int) (a : Int) = ((b * 65536 + a : Nat) : Int) := by
  rw [u64_or_nat (b * 65536) a (by omega) (by omega), nat_join 16 (b * 65536) a (by omega) (by omega)]
theorem u32_join8 (a b : Nat) (ha : a < 256) (hb : b < 16777216) : bits .or .u32 ((b : Int) * 256) (a : Int) = ((b * 256 + a : Nat) : Int) := by
  rw [show ((b : Int) * 256) = ((b * 256 : Nat) : Int) by omega, u32_or_nat (b * 256) a (by omega) (by omega), nat_join 8 (b * 256) a (by omega) (by omega)]
theorem u32_join16 (a b : Nat) (ha : a < 65536) (hb : b < 65536) : bits .or .u32 ((b * 65536 : Nat) : Int) (a : Int) = ((b * 65536 + a : Nat) : Int) := by
  rw [u32_or_nat (b * 65536) a (by omega) (by omega), nat_join 16 (b * 65536) a (by omega) (by omega)]

theorem jump_ret {l : Nat} {J : Act → World → Prop} {Q : Exit → Act → World → Prop} {a : Act} {w : World} : Exit.jump l J Q .ret a w = Q .ret a w := rfl

/-! ### texts as lists of bytes -/
/-- The text of these bytes. -/
def mk (l : List UInt8) : ByteArray := ⟨l.toArray⟩
theorem mk_toList (l : List UInt8) : (mk l).data.toList = l := by simp [mk]
theorem mk_size (l : List UInt8) : (mk l).size = l.length := by simp [mk, ByteArray.size]
theorem mk_of (s : ByteArray) : mk s.data.toList = s := by simp [mk]
theorem ba_ext {a b : ByteArray} (h : a.data.toList = b.data.toList) : a = b := by rw [← mk_of a, ← mk_of b, h]
theorem ba_length (s : ByteArray) : s.data.toList.length = s.size := Array.length_toList
theorem ba_append (a b : ByteArray) : (a ++ b).data.toList = a.data.toList ++ b.data.toList := by simp
theorem ret_str {a b : ByteArray} (h : a.data.toList = b.data.toList) : Ending.returned (.string a) = .returned (.string b) := by rw [ba_ext h]
end Go.Proofs.Ytdaoiimjflplhaa
