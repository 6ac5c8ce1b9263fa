/- Arguments that are structs or slices: what they are, and that they read behind a call as they did. -/
import Derived.Test.YtmbjbckjfkijmaaLawD1
import Derived.Carry
import Derived.WideKeyArgs
import Derived.Lib.SmallJoins
import Derived.Deep.Slices
import Derived.Deep.Fields
import Derived.ChangeSlices
namespace Go.Proofs.Ytmbjbckjfkijmaa
open Go.RowKit Go.ChangeShapes Go.WideShapes Go.Joins Go.Deep
section
variable {H : Type} {enc : TypeId × Value → H} {w : World} {base : Nat} {spare : Nat → Bool} {held : Bool}

theorem wf_int {n : Int} (h : (Lit.int .i64 n).wf = true) : -9223372036854775808 ≤ n ∧ n ≤ 9223372036854775807 := by
  simp [Lit.wf] at h
  exact h

theorem slice_form {t e : TypeId} {fuel : Nat} {v : Value} {x : DataW H × List MemPlace} (ht : Try.prog.underlying t = some (.slice e)) (h : DataW.trod enc Try.prog w base spare held fuel t [v] = some x) : ∃ (so : Option Addr) (n cap : Nat), v = .slice so n cap := by
  rcases DataW.trod_slice ht h with ⟨hv, _⟩ | ⟨a, len, cap, elems, rest, n, _, hv, _⟩
  · exact ⟨none, 0, 0, by simpa using hv⟩
  · exact ⟨some a, len, cap, by simpa using hv⟩

set_option maxRecDepth 100000 in
theorem act_of {r : Reach} {b0 : Nat} {v : Value} {d : DataW H} {p : List MemPlace} (hv : Value.okWide Try.prog w r b0 31 v) (h : DataW.Trod enc Try.prog w base spare held 31 v d p) :
    ∃ (a c : Int) (s : ByteArray) (so : Option Addr) (n cap : Nat), v = .agg #[.int .i64 a, .int .i64 c, .string s, .slice so n cap] ∧ (-9223372036854775808 ≤ c ∧ c ≤ 9223372036854775807) ∧ s.size ≤ maxLen := by
  obtain ⟨v0, v1, v2, v3, y0, y1, y2, y3, n, rfl, rfl, rfl, g0, g1, g2, g3⟩ := open_agg4 Try.underlying31 (by kernel_rfl) (by kernel_rfl) hv h
  obtain ⟨a, e0, _, w0⟩ := DataW.trod_int Try.underlying3 g0
  obtain ⟨c, e1, _, w1⟩ := DataW.trod_int Try.underlying3 g1
  obtain ⟨s, e2, _, w2⟩ := DataW.trod_string Try.underlying9 g2
  obtain ⟨so, m, cap, rfl⟩ := slice_form Try.underlying23 g3
  obtain rfl := (List.cons.inj e0).1
  obtain rfl := (List.cons.inj e1).1
  obtain rfl := (List.cons.inj e2).1
  exact ⟨a, c, s, so, m, cap, rfl, wf_int w1, w2⟩
end
theorem laid : laidOutB Try.prog = true := by kernel_rfl
end Go.Proofs.Ytmbjbckjfkijmaa
