/- Arguments that are metas, and slices of metas: what they are. -/
import Derived.Test.YtdaoiimjflplhaaArgs0
namespace Go.Proofs.Ytdaoiimjflplhaa
open Go.RowKit Go.ChangeShapes Go.WideShapes Go.Joins Go.Deep
section
variable {H : Type} {enc : TypeId × Value → H} {w : World} {base : Nat} {spare : Nat → Bool} {held : Bool}
set_option maxRecDepth 100000 in
theorem meta_of {r : Reach} {b0 : Nat} {v : Value} {d : DataW H} {p : List MemPlace} (hv : Value.okWide Try.prog w r b0 25 v) (h : DataW.Trod enc Try.prog w base spare held 25 v d p) :
    ∃ (t r h f : Nat), v = .agg #[.int .u64 (t : Int), .int .u32 (r : Int), .int .u32 (h : Int), .int .u32 (f : Int)] ∧ t < 18446744073709551616 ∧ r < 4294967296 ∧ h < 4294967296 ∧ f < 4294967296 := by
  obtain ⟨v0, v1, v2, v3, y0, y1, y2, y3, n, rfl, rfl, rfl, g0, g1, g2, g3⟩ := open_agg4 Try.underlying25 (by kernel_rfl) (by kernel_rfl) hv h
  obtain ⟨a, e0, _, w0⟩ := DataW.trod_int Try.underlying22 g0
  obtain ⟨b, e1, _, w1⟩ := DataW.trod_int Try.underlying23 g1
  obtain ⟨c, e2, _, w2⟩ := DataW.trod_int Try.underlying23 g2
  obtain ⟨d, e3, _, w3⟩ := DataW.trod_int Try.underlying23 g3
  obtain rfl := (List.cons.inj e0).1
  obtain rfl := (List.cons.inj e1).1
  obtain rfl := (List.cons.inj e2).1
  obtain rfl := (List.cons.inj e3).1
  obtain ⟨a, rfl, ha⟩ := wf_u64 w0
  obtain ⟨b, rfl, hb⟩ := wf_u32 w1
  obtain ⟨c, rfl, hc⟩ := wf_u32 w2
  obtain ⟨d, rfl, hd⟩ := wf_u32 w3
  exact ⟨a, b, c, d, rfl, ha, hb, hc, hd⟩

/-- What a meta among arguments is. -/
structure MetaA where
  t : Nat
  r : Nat
  h : Nat
  f : Nat
def MetaA.ok (x : MetaA) : Prop := x.t < 18446744073709551616 ∧ x.r < 4294967296 ∧ x.h < 4294967296 ∧ x.f < 4294967296
/-- A slice of metas: its elements. -/
def MetasAt (w : World) (so : Option Addr) (xs : List MetaA) : Prop := ∀ k x, xs[k]? = some x → x.ok ∧ ∃ b o, so = some ⟨b, o, none⟩ ∧ b < w.heap.size ∧
  w.cell? ⟨b, o + k * 4, none⟩ = some (.int .u64 (x.t : Int)) ∧ w.cell? ⟨b, o + k * 4 + 1, none⟩ = some (.int .u32 (x.r : Int)) ∧ w.cell? ⟨b, o + k * 4 + 2, none⟩ = some (.int .u32 (x.h : Int)) ∧ w.cell? ⟨b, o + k * 4 + 3, none⟩ = some (.int .u32 (x.f : Int))

set_option maxRecDepth 100000 in
theorem metas_of {r : Reach} {b0 : Nat} {v : Value} {d : DataW H} {p : List MemPlace} (hv : Value.okWide Try.prog w r b0 34 v) (h : DataW.Trod enc Try.prog w 0 (fun _ => true) held 34 v d p) :
    ∃ (so : Option Addr) (n cap : Nat) (xs : List MetaA), v = .slice so n cap ∧ xs.length = n ∧ n ≤ maxLen ∧ MetasAt w so xs := by
  obtain ⟨so, n, cap, rfl⟩ := okWide_slice Try.underlying34 hv
  obtain ⟨fuel, hf⟩ := h
  rcases open_slice_fields Try.underlying34 Try.underlying25 (by kernel_rfl) (by kernel_rfl) hf with ⟨hcs, _⟩ | ⟨a, len, c, m, D, Pl, hcs, hb, hl, hm, hmm, _, hF⟩
  · simp [Value.cells] at hcs
    obtain ⟨rfl, rfl, rfl⟩ := hcs
    exact ⟨none, 0, 0, [], rfl, rfl, by simp [maxLen], by intro k x hk; simp at hk⟩
  · simp [Value.cells] at hcs
    obtain ⟨rfl, rfl, rfl⟩ := hcs
    have hlm : n ≤ m := by rw [hmm]; simp; omega
    have one : ∀ k, k < n → ∃ x : MetaA, x.ok ∧ ∃ b o, (some a : Option Addr) = some ⟨b, o, none⟩ ∧ b < w.heap.size ∧
        w.cell? ⟨b, o + k * 4, none⟩ = some (.int .u64 (x.t : Int)) ∧ w.cell? ⟨b, o + k * 4 + 1, none⟩ = some (.int .u32 (x.r : Int)) ∧ w.cell? ⟨b, o + k * 4 + 2, none⟩ = some (.int .u32 (x.h : Int)) ∧ w.cell? ⟨b, o + k * 4 + 3, none⟩ = some (.int .u32 (x.f : Int)) := by
      intro k hk
      have h00 := hF 0 (by omega)
      obtain ⟨_, _, _, _, _, hf00⟩ := h00
      obtain ⟨_, _, hc00, _⟩ := hf00 0 _ rfl
      have ha := block_addr (by simpa using hc00)
      obtain ⟨ys, fu, _, _, _, hfk⟩ := hF k (by omega)
      obtain ⟨v0, y0, c0, _, t0⟩ := hfk 0 _ rfl
      obtain ⟨v1, y1, c1, _, t1⟩ := hfk 1 _ rfl
      obtain ⟨v2, y2, c2, _, t2⟩ := hfk 2 _ rfl
      obtain ⟨v3, y3, c3, _, t3⟩ := hfk 3 _ rfl
      obtain ⟨z0, e0, _, w0⟩ := DataW.trod_int Try.underlying22 t0
      obtain ⟨z1, e1, _, w1⟩ := DataW.trod_int Try.underlying23 t1
      obtain ⟨z2, e2, _, w2⟩ := DataW.trod_int Try.underlying23 t2
      obtain ⟨z3, e3, _, w3⟩ := DataW.trod_int Try.underlying23 t3
      obtain rfl := (List.cons.inj e0).1
      obtain rfl := (List.cons.inj e1).1
      obtain rfl := (List.cons.inj e2).1
      obtain rfl := (List.cons.inj e3).1
      obtain ⟨z0, rfl, h0⟩ := wf_u64 w0
      obtain ⟨z1, rfl, h1⟩ := wf_u32 w1
      obtain ⟨z2, rfl, h2⟩ := wf_u32 w2
      obtain ⟨z3, rfl, h3⟩ := wf_u32 w3
      rw [ha, Addr.add_mid] at c0 c1 c2 c3
      have hbl := World.block_lt_of_cell? w _ c0
      exact ⟨⟨z0, z1, z2, z3⟩, ⟨h0, h1, h2, h3⟩, a.block, a.off, by rw [← ha], hbl, by simpa using c0, by simpa [Nat.add_assoc] using c1, by simpa [Nat.add_assoc] using c2, by simpa [Nat.add_assoc] using c3⟩
    obtain ⟨xs, h1, h2⟩ := list_of n _ one
    exact ⟨some a, n, cap, xs, rfl, h1, by omega, h2⟩
end
end Go.Proofs.Ytdaoiimjflplhaa
