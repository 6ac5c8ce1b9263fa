/- Laws for a walk over values of many cells (arrays, structs), over any program: loads, stores and new variables at a list of operations, plain and inside a fence; which blocks a call may write. No condition. -/
import Derived.Test.YtdaoiimjflplhaaConv
import Derived.Deep.MidRow
import Derived.Deep.AppendLies
import Derived.Deep.RegionHeld3
import Derived.Deep.DrawnRows
import Derived.Laws.IdiomCopy
namespace Go.Proofs.Ytdaoiimjflplhaa
open Go.RowKit

/-- A type of n cells whose value is one of many cells. -/
def RowT (P : Program) (T : TypeId) (n : Nat) : Prop := ∃ d, P.underlying T = some d ∧ d.isRow = true ∧ (P.info? T).map (·.size) = some n
/-- A type of n cells, its zero's cells Z. -/
def ZeroT (P : Program) (T : TypeId) (Z : Array Value) : Prop := ∃ i z, P.info? T = some i ∧ i.zero = some z ∧ z.cells = Z

section
variable {F : Fence} {n : Nat} {P : Program} {ops : Array Oper} {rest : List Oper} {a : Act} {w : World} {Q : Exit → Act → World → Prop} {ty : TypeId} {pos : String} {after : Array Edge} {dst : Option Tmp}

theorem pl_run {op : Op} {nx : Next} {v : Value} {w' : World} (hnx : nx = .value v ∨ (nx = .skip ∧ v = undef)) (hrun : (execOp a.eval ⟨dst, op, ty, pos, after, none⟩).run P w = .ok nx w')
    (h : wpList P ops Q rest (a.put dst v) w') : wpList P ops Q (⟨dst, op, ty, pos, after, none⟩ :: rest) a w := by
  refine wpList_plain rfl fun K hK => ?_
  unfold Oper.wp
  rw [hrun]
  rcases hnx with rfl | ⟨rfl, rfl⟩
  · exact hK _ _ h
  · exact hK _ _ h

theorem in_run {op : Op} {nx : Next} {v : Value} {w' : World} (hnc : ∀ c, op ≠ .call c) (hnd : ∀ c, op ≠ .defer c) (hnx : nx = .value v ∨ (nx = .skip ∧ v = undef)) (hrun : (execOp a.eval ⟨dst, op, ty, pos, after, none⟩).run P w = .ok nx w')
    (h : wpListIn F n P ops Q rest (a.put dst v) w') : wpListIn F n P ops Q (⟨dst, op, ty, pos, after, none⟩ :: rest) a w := by
  refine wpListIn_plain rfl fun K hK => ?_
  unfold Oper.wpIn
  refine ⟨?_, ?_⟩
  · intro f hf
    unfold Oper.about at hf
    cases op <;> first | (cases hf; done) | exact absurd rfl (hnc _)
  · rw [Oper.semAt_plain F _ _ hnd, hrun]
    rcases hnx with rfl | ⟨rfl, rfl⟩
    · exact hK _ _ h
    · exact hK _ _ h

theorem run_load {T : TypeId} {x : Operand} {b o : Nat} {cs : List Value} (hT : RowT P T cs.length) (hx : a.eval x = .pointer (some ⟨b, o, none⟩)) (hc : w.rangeAt b o cs) :
    (execOp a.eval ⟨dst, .load T x, ty, pos, after, none⟩).run P w = .ok (.value (.agg cs.toArray)) w := by
  obtain ⟨d, hu, hd, hi⟩ := hT
  simp [execOp, hx, run_loadAt_mid w b o T cs d hc hu hd hi]

theorem setCells_row (g : Nat) (t : TypeId) : ∀ (vs : List Value) (o : Nat) (w : World) (cur : Array Value), w.heap[g]? = some (.cells cur t (0, 0)) → o + vs.length ≤ cur.size →
    (w.setCells g o vs) = w.setRow g (cur.toList.take o ++ vs ++ cur.toList.drop (o + vs.length)).toArray
  | [], o, w, cur, hg, _ => by
    simp only [World.setCells, List.append_nil, List.length_nil, Nat.add_zero, List.take_append_drop, Array.toArray_toList]
    exact (setRow_self w g cur t (0, 0) hg).symm
  | v :: rest, o, w, cur, hg, hl => by
    have ih := setCells_row g t rest (o + 1) (w.setCell ⟨g, o, none⟩ v) (cur.setIfInBounds o v) (heap_setCell_same w g o cur t v hg) (by simp at hl ⊢; omega)
    simp only [World.setCells, ih]
    rw [setCell_eq_setRow w g o cur t (0, 0) v hg, setRow_setRow]
    congr 2
    have e := list_seg_step cur.toList o v rest (by simp at hl ⊢; omega)
    simp only [List.length_cons, ← e]
    simp [Array.toList_setIfInBounds, Nat.add_assoc]

theorem setRow_alloc (w : World) (Z C : Array Value) (t : TypeId) : (w.alloc (.cells Z t)).setRow w.heap.size C = w.alloc (.cells C t) := by
  cases w with
  | mk heap tape drawn os output =>
    simp only [World.setRow, World.alloc]
    congr 1
    apply Array.ext
    · simp
    · intro i h1 h2
      simp only [Array.getElem_modify]
      split
      · rename_i hk; subst hk; simp
      · rename_i hk
        have : i < heap.size := by simp at h2; omega
        simp [Array.getElem_push, this]

theorem setCells_alloc (w : World) (Z : Array Value) (t : TypeId) (cs : List Value) (hZ : Z.size = cs.length) : (w.alloc (.cells Z t)).setCells w.heap.size 0 cs = w.alloc (.cells cs.toArray t) := by
  rw [setCells_row w.heap.size t cs 0 _ Z (heap_alloc_new w _) (by omega)]
  have : Z.toList.drop (0 + cs.length) = [] := List.drop_eq_nil_of_le (by simp; omega)
  rw [this, setRow_alloc]
  simp

theorem there_new (w : World) (Z : Array Value) (t : TypeId) : (w.alloc (.cells Z t)).there w.heap.size 0 Z.size := by
  intro j hj
  have h := heap_alloc_new w (.cells Z t)
  constructor
  · rw [cell_of_row _ _ _ _ _ _ h]; simp [hj]
  · exact frozen_of_row _ _ _ _ _ h

theorem run_storeAt_new {T : TypeId} {t : TypeId} {Z : Array Value} {cs : List Value} (hT : RowT P T cs.length) (hZ : Z.size = cs.length) (h1 : ∀ v ∈ cs, v.oneCell' = true) :
    (Instr.storeAt T (.pointer (some ⟨w.heap.size, 0, none⟩)) (.agg cs.toArray)).run P (w.alloc (.cells Z t)) = .ok () (w.alloc (.cells cs.toArray t)) := by
  obtain ⟨d, hu, hd, hi⟩ := hT
  have ht := there_new w Z t
  rw [hZ] at ht
  rw [run_storeAt_mid _ _ _ _ _ (by simpa using ht) (by simpa using hi) (all_oneCell_toArray h1)]
  exact congrArg (Result.ok ()) (setCells_alloc w Z t cs hZ)

theorem run_alloc {T : TypeId} {Z : Array Value} (hz : ZeroT P T Z) : (execOp a.eval ⟨dst, .alloc T, ty, pos, after, none⟩).run P w = .ok (.value (.pointer (some ⟨w.heap.size, 0, none⟩))) (w.alloc (.cells Z T)) := by
  obtain ⟨i, z, hi, hz, rfl⟩ := hz
  simp [execOp, Instr.alloc, zeroValue, typeInfo, hi, hz, newVar, newRow, go_sem]

/-! the arms -/
theorem pl_load (T : TypeId) {x : Operand} {cs : List Value} (b o : Nat) (hT : RowT P T cs.length) (hx : a.eval x = .pointer (some ⟨b, o, none⟩)) (hc : w.rangeAt b o cs)
    (h : wpList P ops Q rest (a.put dst (.agg cs.toArray)) w) : wpList P ops Q (⟨dst, .load T x, ty, pos, after, none⟩ :: rest) a w := pl_run (.inl rfl) (run_load hT hx hc) h
theorem in_load (T : TypeId) {x : Operand} {cs : List Value} (b o : Nat) (hT : RowT P T cs.length) (hx : a.eval x = .pointer (some ⟨b, o, none⟩)) (hc : w.rangeAt b o cs)
    (h : wpListIn F n P ops Q rest (a.put dst (.agg cs.toArray)) w) : wpListIn F n P ops Q (⟨dst, .load T x, ty, pos, after, none⟩ :: rest) a w := in_run (by intro c; simp) (by intro c; simp) (.inl rfl) (run_load hT hx hc) h
theorem pl_alloc (T : TypeId) {Z : Array Value} (hz : ZeroT P T Z)
    (h : wpList P ops Q rest (a.put dst (.pointer (some ⟨w.heap.size, 0, none⟩))) (w.alloc (.cells Z T))) : wpList P ops Q (⟨dst, .alloc T, ty, pos, after, none⟩ :: rest) a w := pl_run (.inl rfl) (run_alloc hz) h
theorem in_alloc (T : TypeId) {Z : Array Value} (hz : ZeroT P T Z)
    (h : wpListIn F n P ops Q rest (a.put dst (.pointer (some ⟨w.heap.size, 0, none⟩))) (w.alloc (.cells Z T))) : wpListIn F n P ops Q (⟨dst, .alloc T, ty, pos, after, none⟩ :: rest) a w := in_run (by intro c; simp) (by intro c; simp) (.inl rfl) (run_alloc hz) h
theorem run_store_new {T t : TypeId} {x y : Operand} {Z : Array Value} {cs : List Value} (hT : RowT P T cs.length) (hZ : Z.size = cs.length) (h1 : ∀ v ∈ cs, v.oneCell' = true)
    (hx : a.eval x = .pointer (some ⟨w.heap.size, 0, none⟩)) (hy : a.eval y = .agg cs.toArray) :
    (execOp a.eval ⟨dst, .store T x y, ty, pos, after, none⟩).run P (w.alloc (.cells Z t)) = .ok .skip (w.alloc (.cells cs.toArray t)) := by
  simp [execOp, hx, hy, run_storeAt_new hT hZ h1]
theorem pl_store_new (T : TypeId) {t : TypeId} {x y : Operand} {Z : Array Value} {cs : List Value} (hT : RowT P T cs.length) (hZ : Z.size = cs.length) (h1 : ∀ v ∈ cs, v.oneCell' = true)
    (hx : a.eval x = .pointer (some ⟨w.heap.size, 0, none⟩)) (hy : a.eval y = .agg cs.toArray)
    (h : wpList P ops Q rest (a.put dst undef) (w.alloc (.cells cs.toArray t))) : wpList P ops Q (⟨dst, .store T x y, ty, pos, after, none⟩ :: rest) a (w.alloc (.cells Z t)) := pl_run (.inr ⟨rfl, rfl⟩) (run_store_new hT hZ h1 hx hy) h
theorem in_store_new (T : TypeId) {t : TypeId} {x y : Operand} {Z : Array Value} {cs : List Value} (hT : RowT P T cs.length) (hZ : Z.size = cs.length) (h1 : ∀ v ∈ cs, v.oneCell' = true)
    (hx : a.eval x = .pointer (some ⟨w.heap.size, 0, none⟩)) (hy : a.eval y = .agg cs.toArray)
    (h : wpListIn F n P ops Q rest (a.put dst undef) (w.alloc (.cells cs.toArray t))) : wpListIn F n P ops Q (⟨dst, .store T x y, ty, pos, after, none⟩ :: rest) a (w.alloc (.cells Z t)) := in_run (by intro c; simp) (by intro c; simp) (.inr ⟨rfl, rfl⟩) (run_store_new hT hZ h1 hx hy) h
theorem run_store_mid {T : TypeId} {x y : Operand} {b o : Nat} {cs : List Value} (hT : RowT P T cs.length) (ht : w.there b o cs.length) (h1 : ∀ v ∈ cs, v.oneCell' = true)
    (hx : a.eval x = .pointer (some ⟨b, o, none⟩)) (hy : a.eval y = .agg cs.toArray) :
    (execOp a.eval ⟨dst, .store T x y, ty, pos, after, none⟩).run P w = .ok .skip (w.setCells b o cs) := by
  obtain ⟨d, hu, hd, hi⟩ := hT
  simp [execOp, hx, hy, run_storeAt_mid w b o T cs.toArray (by simpa using ht) (by simpa using hi) (all_oneCell_toArray h1)]
theorem in_store_mid (T : TypeId) {x y : Operand} {cs : List Value} (b o : Nat) (hT : RowT P T cs.length) (ht : w.there b o cs.length) (h1 : ∀ v ∈ cs, v.oneCell' = true)
    (hx : a.eval x = .pointer (some ⟨b, o, none⟩)) (hy : a.eval y = .agg cs.toArray)
    (h : wpListIn F n P ops Q rest (a.put dst undef) (w.setCells b o cs)) : wpListIn F n P ops Q (⟨dst, .store T x y, ty, pos, after, none⟩ :: rest) a w := in_run (by intro c; simp) (by intro c; simp) (.inr ⟨rfl, rfl⟩) (run_store_mid hT ht h1 hx hy) h
theorem pl_store_mid (T : TypeId) {x y : Operand} {cs : List Value} (b o : Nat) (hT : RowT P T cs.length) (ht : w.there b o cs.length) (h1 : ∀ v ∈ cs, v.oneCell' = true)
    (hx : a.eval x = .pointer (some ⟨b, o, none⟩)) (hy : a.eval y = .agg cs.toArray)
    (h : wpList P ops Q rest (a.put dst undef) (w.setCells b o cs)) : wpList P ops Q (⟨dst, .store T x y, ty, pos, after, none⟩ :: rest) a w := pl_run (.inr ⟨rfl, rfl⟩) (run_store_mid hT ht h1 hx hy) h
end

theorem rangeAt_row {w : World} {b o : Nat} {C : Array Value} {t : TypeId} {fr : Nat × Nat} (hb : w.heap[b]? = some (.cells C t fr)) (cs : List Value) (h : ∀ j v, cs[j]? = some v → C[o + j]? = some v) : w.rangeAt b o cs := fun j v hv => by
  rw [cell_of_row w b (o + j) C t fr hb]
  exact h j v hv

/-! ### which blocks a call may write -/
structure Chg (S : Nat → Prop) (w w' : World) : Prop where
  os : w'.os = w.os
  tape : w'.tape = w.tape
  output : w'.output = w.output
  size : w.heap.size ≤ w'.heap.size
  block : ∀ k, k < w.heap.size → ¬ S k → w'.heap[k]? = w.heap[k]?
section
variable {S : Nat → Prop} {w a b : World}
theorem Chg.refl (S : Nat → Prop) (w : World) : Chg S w w := ⟨rfl, rfl, rfl, Nat.le_refl _, fun _ _ _ => rfl⟩
theorem Chg.trans {c : World} (h : Chg S a b) (k : Chg S b c) : Chg S a c :=
  ⟨k.os.trans h.os, k.tape.trans h.tape, k.output.trans h.output, Nat.le_trans h.size k.size, fun i hi hs => (k.block i (Nat.lt_of_lt_of_le hi h.size) hs).trans (h.block i hi hs)⟩
theorem Chg.ofBelow {B : Nat} (h : Below B a b) (hB : ∀ k, k < a.heap.size → ¬ S k → k < B) : Chg S a b := ⟨h.os, h.tape, h.output, h.size, fun k hk hs => h.block k (hB k hk hs)⟩
theorem Chg.ofNew (h : Below a.heap.size a b) : Chg S a b := Chg.ofBelow h fun _ hk _ => hk
theorem Chg.below {B : Nat} (h : Chg S a b) (hS : ∀ k, S k → B ≤ k) (hB : B ≤ a.heap.size) : Below B a b := ⟨h.os, h.tape, h.output, h.size, fun k hk => h.block k (by omega) fun hs => by have := hS k hs; omega⟩
theorem Chg.mono {S' : Nat → Prop} (h : Chg S a b) (hs : ∀ k, k < a.heap.size → S k → S' k) : Chg S' a b := ⟨h.os, h.tape, h.output, h.size, fun k hk hn => h.block k hk fun x => hn (hs k hk x)⟩
theorem Chg.ofSetCell (w : World) (p : Addr) (u : Value) (hp : S p.block) : Chg S w (w.setCell p u) :=
  ⟨rfl, rfl, rfl, by simp, fun k _ hs => heap_setCell_other w p k u fun e => hs (e ▸ hp)⟩
theorem Chg.ofSetCells (g : Nat) (hp : S g) : ∀ (vs : List Value) (o : Nat) (w : World), Chg S w (w.setCells g o vs)
  | [], _, w => Chg.refl S w
  | v :: r, o, w => (Chg.ofSetCell w ⟨g, o, none⟩ v hp).trans (Chg.ofSetCells g hp r (o + 1) _)
theorem Chg.ofGrown {row : Option Nat} (h : a.grownBy b row) (hr : ∀ k, row = some k → S k) : Chg S a b := ⟨h.os, h.tape, h.output, h.size, fun k hk hs => h.block k hk fun e => hs (hr k e.symm)⟩
theorem Chg.ofPut (w : World) (l : Nat) (o : Obj) (hp : S l) : Chg S w (w.putObj l o) :=
  ⟨rfl, rfl, rfl, by simp, fun k _ hs => World.putObj_heap_other fun e => hs (e ▸ hp)⟩
theorem rangeAt_block {w w' : World} {g o : Nat} {cs : List Value} (h : w.rangeAt g o cs) (hb : w'.heap[g]? = w.heap[g]?) : w'.rangeAt g o cs := fun j v hv => by
  rw [World.cell?_of_block (a := ⟨g, o + j, none⟩) hb]; exact h j v hv
theorem there_block {w w' : World} {g o n : Nat} (h : w.there g o n) (hb : w'.heap[g]? = w.heap[g]?) : w'.there g o n := fun j hj => by
  rw [World.cell?_of_block (a := ⟨g, o + j, none⟩) hb, World.frozen?_of_block (a := ⟨g, o + j, none⟩) hb]; exact h j hj
theorem ownsRow_block {w w' : World} {base : Nat} {e : TypeId} {size : Nat} {v : Value} {n : Nat} {xs : List Value} (h : w.ownsRow base e size v n xs) (hb : ∀ k, v.ownBlock = some k → w'.heap[k]? = w.heap[k]?) : w'.ownsRow base e size v n xs := by
  refine ⟨h.1, ?_⟩
  rcases h.2 with hn | ⟨g, cap, cur, rfl, hbb, hgg, rest⟩
  · exact .inl hn
  · exact .inr ⟨g, cap, cur, rfl, hbb, (hb g rfl).trans hgg, rest⟩
end

/-- The cells of bytes. -/
def u8s (l : List UInt8) : List Value := l.map fun b => .int .u8 (b.toNat : Int)
@[simp] theorem u8s_length (l : List UInt8) : (u8s l).length = l.length := by simp [u8s]
theorem u8s_one (l : List UInt8) : ∀ v ∈ u8s l, v.oneCell' = true := by
  intro v hv
  obtain ⟨_, _, rfl⟩ := List.mem_map.1 hv
  rfl
theorem u8s_get (l : List UInt8) (j : Nat) : (u8s l)[j]? = (l[j]?).map fun b => .int .u8 (b.toNat : Int) := by simp [u8s]
end Go.Proofs.Ytdaoiimjflplhaa
