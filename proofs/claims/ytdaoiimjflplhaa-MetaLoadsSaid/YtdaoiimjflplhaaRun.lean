/- The two disks while calls go on: what stands. No program's step in sight. -/
import Derived.Test.YtdaoiimjflplhaaRDsk
import Derived.Test.YtdaoiimjflplhaaMetaL
namespace Go.Proofs.Ytdaoiimjflplhaa
open Go.RowKit

/-- The two disks and what may have been written since. -/
def Run (F : Nat → Prop) (W w : World) (g : Nat) (D : Dk) (h : Nat) (E : Dk) : Prop := Two F w g D h E ∧ Chg (fun k => ¬ F k) W w
theorem Run.below {F : Nat → Prop} {W w w' : World} {g h : Nat} {D E : Dk} {B : Nat} (r : Run F W w g D h E) (hb : Below B w w') (hB : B = w.heap.size) : Run F W w' g D h E := by
  subst hB
  exact ⟨r.1.below hb, r.2.trans (Chg.ofNew hb)⟩
theorem Run.left {F : Nat → Prop} {W w : World} {g h : Nat} {D E : Dk} (r : Run F W w g D h E) : ∃ S : Nat → Prop, (∀ k, w.heap.size ≤ k → S k) ∧ (∀ k, S k → ¬ F k) ∧ Held S w g D ∧ ∀ w' D', Held S w' g D' → Chg S w w' → Run F W w' g D' h E := by
  obtain ⟨S, a, b, c, d⟩ := r.1.left
  exact ⟨S, a, b, c, fun w' D' hh hc => ⟨(d w' D' hh hc).1, r.2.trans (d w' D' hh hc).2⟩⟩
theorem Run.right {F : Nat → Prop} {W w : World} {g h : Nat} {D E : Dk} (r : Run F W w g D h E) : ∃ S : Nat → Prop, (∀ k, w.heap.size ≤ k → S k) ∧ (∀ k, S k → ¬ F k) ∧ RHeld S w h E ∧ ∀ w' E', RHeld S w' h E' → Chg S w w' → Run F W w' g D h E' := by
  obtain ⟨S, a, b, c, d⟩ := r.1.right
  exact ⟨S, a, b, c, fun w' D' hh hc => ⟨(d w' D' hh hc).1, r.2.trans (d w' D' hh hc).2⟩⟩
theorem Run.cell {F : Nat → Prop} {W w : World} {g h : Nat} {D E : Dk} (r : Run F W w g D h E) {b : Nat} (hb : F b) (hl : b < W.heap.size) (i : Nat) (v : Value) (hv : W.cell? ⟨b, i, none⟩ = some v) : w.cell? ⟨b, i, none⟩ = some v :=
  (World.cell?_of_block (a := ⟨b, i, none⟩) (r.2.block b hl (fun x => x hb))).trans hv
/-- What an act makes of a disk's sizes. -/
def Near (D D' : Dk) : Prop := D'.S.length = D.S.length ∧ D'.U.length ≤ D.U.length + 1 ∧ D'.N ≤ D.N + 1
theorem near_write (D : Dk) (c : Int) (s : List UInt8) : Near D (D.write c s).2 := by
  unfold Dk.write Near
  split
  · simp
  · split <;> simp
theorem near_refl (D : Dk) : Near D D := ⟨rfl, by omega, by omega⟩
theorem near_store (D : Dk) (t r h f : Nat) : Near D (D.mstore t r h f).2 := by
  unfold Dk.mstore
  split
  · exact near_write D _ _
  · exact near_refl D
end Go.Proofs.Ytdaoiimjflplhaa
