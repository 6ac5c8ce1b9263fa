/- Arguments that are slices of pages: their elements. -/
import Derived.Test.YtmbjbckjfkijmaaArgsP
namespace Go.Proofs.Ytmbjbckjfkijmaa
open Go.RowKit Go.ChangeShapes Go.WideShapes Go.Joins Go.Deep
section
variable {H : Type} {enc : TypeId × Value → H} {w : World} {base : Nat} {spare : Nat → Bool} {held : Bool}

/-- What a page among arguments is. -/
structure PageA where
  k : Int
  i : Nat
  t : Nat
  s : ByteArray
def PageA.ok (x : PageA) : Prop := (-9223372036854775808 ≤ x.k ∧ x.k ≤ 9223372036854775807) ∧ x.i < 4294967296 ∧ x.t < 18446744073709551616 ∧ x.s.size ≤ maxLen
/-- A slice of pages: its elements. -/
def PagesAt (w : World) (so : Option Addr) (xs : List PageA) : Prop := ∀ k x, xs[k]? = some x → x.ok ∧ ∃ b o, so = some ⟨b, o, none⟩ ∧ b < w.heap.size ∧
  w.cell? ⟨b, o + k * 4, none⟩ = some (.int .i64 x.k) ∧ w.cell? ⟨b, o + k * 4 + 1, none⟩ = some (.int .u32 (x.i : Int)) ∧ w.cell? ⟨b, o + k * 4 + 2, none⟩ = some (.int .u64 (x.t : Int)) ∧ w.cell? ⟨b, o + k * 4 + 3, none⟩ = some (.string x.s)

set_option maxRecDepth 100000 in
theorem pages_of {r : Reach} {b0 : Nat} {v : Value} {d : DataW H} {p : List MemPlace} (hv : Value.okWide Try.prog w r b0 72 v) (h : DataW.Trod enc Try.prog w 0 (fun _ => true) held 72 v d p) :
    ∃ (so : Option Addr) (n cap : Nat) (xs : List PageA), v = .slice so n cap ∧ xs.length = n ∧ n ≤ maxLen ∧ PagesAt w so xs := by
  obtain ⟨so, n, cap, rfl⟩ := okWide_slice Try.underlying72 hv
  obtain ⟨fuel, hf⟩ := h
  rcases open_slice_fields Try.underlying72 Try.underlying60 (by kernel_rfl) (by kernel_rfl) hf with ⟨hcs, _⟩ | ⟨a, len, c, m, D, Pl, hcs, hb, hl, hm, hmm, _, hF⟩
  · simp [Value.cells] at hcs
    obtain ⟨rfl, rfl, rfl⟩ := hcs
    exact ⟨none, 0, 0, [], rfl, rfl, by simp [maxLen], by intro k x hk; simp at hk⟩
  · simp [Value.cells] at hcs
    obtain ⟨rfl, rfl, rfl⟩ := hcs
    have hlm : n ≤ m := by rw [hmm]; simp; omega
    have one : ∀ k, k < n → ∃ x : PageA, x.ok ∧ ∃ b o, (some a : Option Addr) = some ⟨b, o, none⟩ ∧ b < w.heap.size ∧
        w.cell? ⟨b, o + k * 4, none⟩ = some (.int .i64 x.k) ∧ w.cell? ⟨b, o + k * 4 + 1, none⟩ = some (.int .u32 (x.i : Int)) ∧ w.cell? ⟨b, o + k * 4 + 2, none⟩ = some (.int .u64 (x.t : Int)) ∧ w.cell? ⟨b, o + k * 4 + 3, none⟩ = some (.string x.s) := by
      intro k hk
      have h00 := hF 0 (by omega)
      obtain ⟨_, _, _, _, _, hf00⟩ := h00
      obtain ⟨_, _, hc00, _⟩ := hf00 0 _ rfl
      have ha := block_addr (by simpa using hc00)
      obtain ⟨ys, fu, _, _, _, hfk⟩ := hF k (by omega)
      obtain ⟨v0, y0, c0, _, t0⟩ := hfk 0 _ rfl
      obtain ⟨v1, y1, c1, _, t1⟩ := hfk 1 _ rfl
      obtain ⟨v2, y2, c2, _, t2⟩ := hfk 2 _ rfl
      obtain ⟨v3, y3, c3, _, t3⟩ := hfk 3 _ rfl
      obtain ⟨z0, e0, _, w0⟩ := DataW.trod_int Try.underlying3 t0
      obtain ⟨z1, e1, _, w1⟩ := DataW.trod_int Try.underlying57 t1
      obtain ⟨z2, e2, _, w2⟩ := DataW.trod_int Try.underlying58 t2
      obtain ⟨z3, e3, _, w3⟩ := DataW.trod_string Try.underlying9 t3
      obtain rfl := (List.cons.inj e0).1
      obtain rfl := (List.cons.inj e1).1
      obtain rfl := (List.cons.inj e2).1
      obtain rfl := (List.cons.inj e3).1
      obtain ⟨z1, rfl, h1⟩ := wf_u32 w1
      obtain ⟨z2, rfl, h2⟩ := wf_u64 w2
      rw [ha, Addr.add_mid] at c0 c1 c2 c3
      have hbl := World.block_lt_of_cell? w _ c0
      exact ⟨⟨z0, z1, z2, z3⟩, ⟨wf_int w0, h1, h2, w3⟩, a.block, a.off, by rw [← ha], hbl, by simpa using c0, by simpa [Nat.add_assoc] using c1, by simpa [Nat.add_assoc] using c2, by simpa [Nat.add_assoc] using c3⟩
    obtain ⟨xs, h1, h2⟩ := list_of n _ one
    exact ⟨some a, n, cap, xs, rfl, h1, by omega, h2⟩
end
end Go.Proofs.Ytmbjbckjfkijmaa
