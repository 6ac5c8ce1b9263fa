/- Arguments that are pages: what they are. -/
import Derived.Test.YtmbjbckjfkijmaaArgs
namespace Go.Proofs.Ytmbjbckjfkijmaa
open Go.RowKit Go.ChangeShapes Go.WideShapes Go.Joins Go.Deep
section
variable {H : Type} {enc : TypeId × Value → H} {w : World} {base : Nat} {spare : Nat → Bool} {held : Bool}
theorem wf_u8 {n : Int} (h : (Lit.int .u8 n).wf = true) : ∃ k : Nat, n = k ∧ k < 256 := by
  simp [Lit.wf] at h
  have h0 : IntKind.u8.min = 0 := by decide
  have h1 : IntKind.u8.max = 255 := by decide
  exact ⟨n.toNat, by omega, by omega⟩
theorem wf_u32 {n : Int} (h : (Lit.int .u32 n).wf = true) : ∃ k : Nat, n = k ∧ k < 4294967296 := by
  simp [Lit.wf] at h
  have h0 : IntKind.u32.min = 0 := by decide
  have h1 : IntKind.u32.max = 4294967295 := by decide
  exact ⟨n.toNat, by omega, by omega⟩
theorem wf_u64 {n : Int} (h : (Lit.int .u64 n).wf = true) : ∃ k : Nat, n = k ∧ k < 18446744073709551616 := by
  simp [Lit.wf] at h
  have h0 : IntKind.u64.min = 0 := by decide
  have h1 : IntKind.u64.max = 18446744073709551615 := by decide
  exact ⟨n.toNat, by omega, by omega⟩

set_option maxRecDepth 100000 in
theorem page_of {r : Reach} {b0 : Nat} {v : Value} {d : DataW H} {p : List MemPlace} (hv : Value.okWide Try.prog w r b0 60 v) (h : DataW.Trod enc Try.prog w base spare held 60 v d p) :
    ∃ (k : Int) (i t : Nat) (s : ByteArray), v = .agg #[.int .i64 k, .int .u32 (i : Int), .int .u64 (t : Int), .string s] ∧ (-9223372036854775808 ≤ k ∧ k ≤ 9223372036854775807) ∧ i < 4294967296 ∧ t < 18446744073709551616 ∧ s.size ≤ maxLen := by
  obtain ⟨v0, v1, v2, v3, y0, y1, y2, y3, n, rfl, rfl, rfl, g0, g1, g2, g3⟩ := open_agg4 Try.underlying60 (by kernel_rfl) (by kernel_rfl) hv h
  obtain ⟨a, e0, _, w0⟩ := DataW.trod_int Try.underlying3 g0
  obtain ⟨b, e1, _, w1⟩ := DataW.trod_int Try.underlying57 g1
  obtain ⟨c, e2, _, w2⟩ := DataW.trod_int Try.underlying58 g2
  obtain ⟨s, e3, _, w3⟩ := DataW.trod_string Try.underlying9 g3
  obtain rfl := (List.cons.inj e0).1
  obtain rfl := (List.cons.inj e1).1
  obtain rfl := (List.cons.inj e2).1
  obtain rfl := (List.cons.inj e3).1
  obtain ⟨b, rfl, hb⟩ := wf_u32 w1
  obtain ⟨c, rfl, hc⟩ := wf_u64 w2
  exact ⟨a, b, c, s, rfl, wf_int w0, hb, hc, w3⟩
end
end Go.Proofs.Ytmbjbckjfkijmaa
