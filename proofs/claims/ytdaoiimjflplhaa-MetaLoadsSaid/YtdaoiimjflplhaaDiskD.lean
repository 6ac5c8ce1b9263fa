/- package disk: a range over what is not synced, by what holds at each round. -/
import Derived.Test.YtdaoiimjflplhaaDiskC
namespace Go.Proofs.Ytdaoiimjflplhaa
open Go.RowKit Go.Shelf
attribute [local go_sem] Oper.semAt_some

theorem rf_pending {gop : Operand} {p1 p2 : Tmp} {assign body : Code} {Q : Exit → Act → World → Prop} {a : Act} {w0 : World} {Bm g cap : Nat} {so : Option Addr} {U : List (Nat × List UInt8)} (M : Nat) (hM : w0.heap.size = M)
    (hg : a.eval gop = .func (.func 51) #[] #[.pointer (some ⟨Bm, 0, none⟩)])
    (hB : w0.cell? ⟨Bm, 0, none⟩ = some (.pointer (some ⟨g, 0, none⟩))) (h1 : w0.cell? ⟨g, 1, none⟩ = some (.slice so U.length cap))
    (hU : ∀ p ∈ U, p.2.length = 64) (hlen : U.length ≤ 1000000) (I : Nat → World → Prop)
    (hI : ∀ k W, I k W → W.ownsRow 0 76 65 (.slice so U.length cap) U.length (ucs U)) (hIa : ∀ k W o, I k W → I k (W.alloc o)) (hIp : ∀ k W o, I k W → I k (W.putObj (M + 1) o)) (h0 : I 0 w0)
    (round : ∀ k p W x y z, U[k]? = some p → I k W → W.heap[M]? = some x → W.heap[M + 1]? = some y → M + 1 < W.heap.size →
      assign.wpIn (Fence.wide.inRound (M + 1)) 7 Try.prog (Exit.then (fun a₁ W₁ => W₁.heap[M + 1]? = some y ∧
        body.wpIn (Fence.wide.inRound (M + 1)) 7 Try.prog (fun e _ W₂ => e = .normal ∧ I (k + 1) W₂ ∧ W₂.heap[M]? = some x ∧ W₂.heap[M + 1]? = some z) a₁ (W₁.putObj (M + 1) z)) (fun _ _ _ => False))
        { tmps := (a.tmps.setIfInBounds p1 (.int .i64 k)).setIfInBounds p2 (.agg (ucell p).toArray), defers := [] } W)
    (fin : ∀ W, I U.length W → W.heap[M]? = some (.deferred (some [])) → Q .normal { a with defers := { target := .collected M, args := #[] } :: a.defers } W) :
    (Code.rangeFunc gop #[p1, p2] assign body).wpIn Fence.wide 9 Try.prog Q a w0 := by
  subst hM
  refine wpIn_rf rfl (fun h => by cases h) hg trivial (enters_of Try.func51 (by kernel_rfl) rfl) ?_
  intro fn rec _ hrec
  have hBl : Bm < w0.heap.size := World.block_lt_of_cell? w0 _ hB
  have hgl : g < w0.heap.size := World.block_lt_of_cell? w0 _ h1
  refine (pending1_in (9 - 1) (w0.heap.size + 1) Bm g so cap U hU hlen
    (fun k W => I k W ∧ W.heap[w0.heap.size + 1]? = some (rec .ready none) ∧ W.heap[w0.heap.size]? = some (.deferred (some []))) ?_ ?_ ?_ _ ?_ ?_ ?_).mono ?_
  · exact fun k W h => hI k W h.1
  · rintro k W o ⟨j1, j2, j3⟩
    exact ⟨hIa _ _ _ j1, (Below.heap_alloc _ _ _ (Array.getElem?_eq_some_iff.1 j2).1).trans j2, (Below.heap_alloc _ _ _ (Array.getElem?_eq_some_iff.1 j3).1).trans j3⟩
  · rintro k W p hp ⟨j1, j2, j3⟩
    refine yieldAt_of hrec trivial j2 rfl ?_
    have hz : (#[p1, p2].zip #[Value.int .i64 (k : Int), Value.agg (ucell p).toArray]).foldl (fun t (x : Tmp × Value) => t.setIfInBounds x.1 x.2) a.tmps = (a.tmps.setIfInBounds p1 (.int .i64 k)).setIfInBounds p2 (.agg (ucell p).toArray) := by simp
    rw [hz]
    refine wpIn_mono (round k p W _ _ (rec .busy none) hp j1 j3 j2 (Array.getElem?_eq_some_iff.1 j2).1) ?_
    rintro e a₁ W₁ he
    cases e with
    | normal =>
      refine ⟨he.1, wpIn_mono he.2 ?_⟩
      rintro e a₂ W₂ ⟨rfl, i1, i2, i3⟩
      exact ⟨i3, rfl, hIp _ _ _ i1, World.putObj_heap_same (Array.getElem?_eq_some_iff.1 i3).1, (World.putObj_heap_other (by omega)).trans i2⟩
    | exit id => exact he.elim
    | goto t => exact he.elim
    | ret => exact he.elim
    | panic _ => exact he.elim
    | outgrown => exact he.elim
  · refine ⟨hIa _ _ _ (hIa _ _ _ h0), ?_, (Below.heap_alloc _ _ _ (by simp)).trans (World.alloc_heap_new _ _)⟩
    rw [← World.size_alloc w0 (.deferred (some []))]
    exact World.alloc_heap_new _ _
  · rw [World.cell?_alloc_lt _ _ _ (by simp; omega), World.cell?_alloc_lt _ _ _ hBl]
    exact hB
  · rw [World.cell?_alloc_lt _ _ _ (by simp; omega), World.cell?_alloc_lt _ _ _ hgl]
    exact h1
  · rintro e W ⟨he, j1, j2, j3⟩
    refine ⟨he, .ready, none, by simp, j2, ?_⟩
    exact fin _ (hIp _ _ _ j1) ((World.putObj_heap_other (by omega)).trans j3)
end Go.Proofs.Ytdaoiimjflplhaa
