/- package disk: Sectors, Ops. -/
import Derived.Test.YtmbjbckjfkijmaaDiskB
namespace Go.Proofs.Ytmbjbckjfkijmaa
open Go.RowKit Go.Shelf
set_option maxHeartbeats 1000000 in
theorem sectors_any (S : Nat → Prop) (g : Nat) (D : Dk) (w : World) (h : Held S w g D) :
    Calls Try.prog 23 #[.pointer (some ⟨g, 0, none⟩)] w fun e w' => e = .returned (.int .i64 D.S.length) ∧ Below w.heap.size w w' := by
  obtain ⟨kb, so, cap, hok, h1, h2, h3, h4, h5, h6, h7, h8, h9, h10, h11⟩ := h
  have c0 : w.cell? ⟨g, 0, none⟩ = some (.slice (some ⟨kb, 0, none⟩) D.S.length D.S.length) := h1.cell 0
  clear h1 h2 h3 h4 h5 h6 h7 h8 h9 h10 h11 hok
  go_enter Try.func23, Try.ntmps23
  go_wp2
  go_ret
  exact ⟨rfl, bl_re w⟩
set_option maxHeartbeats 1000000 in
theorem sectors_nil (w : World) : Calls Try.prog 23 #[.pointer none] w fun e w' => e = .returned (.int .i64 0) ∧ Below w.heap.size w w' := by
  go_enter Try.func23, Try.ntmps23
  go_wp2
  go_ret
  exact ⟨rfl, bl_re w⟩
set_option maxHeartbeats 1000000 in
theorem ops_any (S : Nat → Prop) (g : Nat) (D : Dk) (w : World) (h : Held S w g D) :
    Calls Try.prog 28 #[.pointer (some ⟨g, 0, none⟩)] w fun e w' => e = .returned (.int .i64 D.N) ∧ Below w.heap.size w w' := by
  obtain ⟨kb, so, cap, hok, h1, h2, h3, h4, h5, h6, h7, h8, h9, h10, h11⟩ := h
  have c0 : w.cell? ⟨g, 2, none⟩ = some (.int .i64 D.N) := h1.cell 2
  clear h1 h2 h3 h4 h5 h6 h7 h8 h9 h10 h11 hok
  go_enter Try.func28, Try.ntmps28
  go_wp2
  go_ret
  exact ⟨rfl, bl_re w⟩
set_option maxHeartbeats 1000000 in
theorem ops_nil (w : World) : Calls Try.prog 28 #[.pointer none] w fun e w' => e = .returned (.int .i64 0) ∧ Below w.heap.size w w' := by
  go_enter Try.func28, Try.ntmps28
  go_wp2
  go_ret
  exact ⟨rfl, bl_re w⟩
end Go.Proofs.Ytmbjbckjfkijmaa
