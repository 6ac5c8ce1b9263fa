/- 'string(make([]byte, n))' in a walk: what it leaves. -/
import Derived.Test.YtdaoiimjflplhaaRefPut
import Derived.Test.YtdaoiimjflplhaaDiskB
namespace Go.Proofs.Ytdaoiimjflplhaa
open Go.RowKit Go.Shelf
attribute [local go_sem] Oper.semAt_some
theorem pl_makeI {P : Program} {ops : Array Oper} {rest : List Oper} {a : Act} {w : World} {Q : Exit → Act → World → Prop} {ty : TypeId} {pos : String} {after : Array Edge} {dst : Option Tmp} (T e : TypeId) {l c : Operand} (x : Int) (n : Nat) (C : Array Value)
    (hm : (Instr.makeSlice T (.int .i64 x) (.int .i64 x)).run P w = .ok (.slice (some ⟨w.heap.size, 0, none⟩) n n) (w.alloc (.cells C e))) (hl : a.eval l = .int .i64 x) (hc : a.eval c = .int .i64 x)
    (h : wpList P ops Q rest (a.put dst (.slice (some ⟨w.heap.size, 0, none⟩) n n)) (w.alloc (.cells C e))) :
    wpList P ops Q (⟨dst, .makeSlice T l c, ty, pos, after, none⟩ :: rest) a w := by
  refine pl_run (.inl rfl) ?_ h
  simp [execOp, hl, hc, hm]
theorem made_u8 (m : Nat) (h : m ≤ 140737488355328) : ∃ C : Array Value, (∀ W : World, (Instr.makeSlice 59 (.int .i64 m) (.int .i64 m)).run Try.prog W = .ok (.slice (some ⟨W.heap.size, 0, none⟩) m m) (W.alloc (.cells C 5))) ∧
    (∀ W : World, (convert 59 9 (.slice (some ⟨W.heap.size, 0, none⟩) m m)).run Try.prog (W.alloc (.cells C 5)) = .ok (.string (mk (List.replicate m 0))) (W.alloc (.cells C 5))) := by
  obtain ⟨i0, hi, hz0, hz1, hz2⟩ := info_parts info_u8
  refine ⟨_, run_make_n Try.underlying59 hi hz0 m (by rw [hz2]; omega) (by omega), fun W => ?_⟩
  refine conv_back (P := Try.prog) _ _ _ 5 _ _ _ _ Try.underlying59 Try.underlying5 Try.underlying9 (by rw [List.length_replicate]) fun j hj => ?_
  rw [List.length_replicate] at hj
  rw [(Blk.new W _ _).cell j, hz1, List.getElem_replicate]
  simp only [madeCells, Nat.mul_one, Array.getElem?_map, Array.getElem?_range, hj, if_true, Option.map_some]
  simp [Value.cells, Nat.mod_one]
end Go.Proofs.Ytdaoiimjflplhaa
