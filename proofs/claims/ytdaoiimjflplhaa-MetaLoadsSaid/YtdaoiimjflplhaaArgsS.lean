/- Arguments that are slices of texts: what they are. -/
import Derived.Test.YtdaoiimjflplhaaArgs0
import Derived.SliceStrings
namespace Go.Proofs.Ytdaoiimjflplhaa
open Go.RowKit Go.ChangeShapes Go.WideShapes Go.Joins Go.Deep
section
variable {H : Type} {enc : TypeId × Value → H} {w : World} {base : Nat} {spare : Nat → Bool} {held : Bool}
/-- A slice of texts: its elements. -/
def StrsAt (w : World) (so : Option Addr) (xs : List ByteArray) : Prop := ∀ k x, xs[k]? = some x → x.size ≤ maxLen ∧ ∃ b o, so = some ⟨b, o, none⟩ ∧ b < w.heap.size ∧ w.cell? ⟨b, o + k, none⟩ = some (.string x)
set_option maxRecDepth 100000 in
theorem texts_of {r : Reach} {b0 : Nat} {v : Value} {d : DataW H} {p : List MemPlace} (hv : Value.okWide Try.prog w r b0 35 v) (h : DataW.Trod enc Try.prog w 0 (fun _ => true) held 35 v d p) :
    ∃ (so : Option Addr) (n cap : Nat) (xs : List ByteArray), v = .slice so n cap ∧ xs.length = n ∧ n ≤ maxLen ∧ StrsAt w so xs := by
  obtain ⟨so, n, cap, rfl⟩ := okWide_slice Try.underlying35 hv
  obtain ⟨fuel, hf⟩ := h
  rcases open_strings Try.underlying35 Try.underlying9 (by kernel_rfl) hf with ⟨hcs, _⟩ | ⟨a, len, c, ss, hcs, hb, hl, hm, hz, _, hcell, hsz⟩
  · simp [Value.cells] at hcs
    obtain ⟨rfl, rfl, rfl⟩ := hcs
    exact ⟨none, 0, 0, [], rfl, rfl, by simp [maxLen], by intro k x hk; simp at hk⟩
  · simp [Value.cells] at hcs
    obtain ⟨rfl, rfl, rfl⟩ := hcs
    simp at hz
    have hlen : (ss.take n).length = n := by rw [List.length_take]; omega
    refine ⟨some a, n, cap, ss.take n, rfl, hlen, by omega, ?_⟩
    intro k x hk
    have hk2 := (List.getElem?_eq_some_iff.1 hk).1
    rw [hlen] at hk2
    have hx : x ∈ ss := List.mem_of_mem_take (List.mem_of_getElem? hk)
    rw [List.getElem?_take_of_lt hk2] at hk
    have hc := hcell k (by omega)
    rw [List.getD_eq_getElem?_getD, hk] at hc
    have ha := block_addr (hcell 0 (by omega))
    have hc' : w.cell? (a.add k) = some (.string x) := hc
    rw [ha, Addr.add_mid] at hc'
    have hbl : a.block < w.heap.size := World.block_lt_of_cell? w ⟨a.block, a.off + k, none⟩ hc'
    exact ⟨hsz x hx, a.block, a.off, by rw [← ha], hbl, hc'⟩
end
end Go.Proofs.Ytdaoiimjflplhaa
