/- Arguments that are structs or slices, in general: what they are. -/
import Derived.Test.YtdaoiimjflplhaaDiskF
import Derived.Carry
import Derived.WideKeyArgs
import Derived.Lib.SmallJoins
import Derived.Deep.Slices
import Derived.Deep.Fields
import Derived.ChangeSlices
namespace Go.Proofs.Ytdaoiimjflplhaa
open Go.RowKit Go.ChangeShapes Go.WideShapes Go.Joins Go.Deep
section
variable {H : Type} {enc : TypeId × Value → H} {w : World} {base : Nat} {spare : Nat → Bool} {held : Bool}

theorem wf_int {n : Int} (h : (Lit.int .i64 n).wf = true) : -9223372036854775808 ≤ n ∧ n ≤ 9223372036854775807 := by
  simp [Lit.wf] at h
  exact h

theorem slice_form {t e : TypeId} {fuel : Nat} {v : Value} {x : DataW H × List MemPlace} (ht : Try.prog.underlying t = some (.slice e)) (h : DataW.trod enc Try.prog w base spare held fuel t [v] = some x) : ∃ (so : Option Addr) (n cap : Nat), v = .slice so n cap := by
  rcases DataW.trod_slice ht h with ⟨hv, _⟩ | ⟨a, len, cap, elems, rest, n, _, hv, _⟩
  · exact ⟨none, 0, 0, by simpa using hv⟩
  · exact ⟨some a, len, cap, by simpa using hv⟩

theorem block_addr {w : World} {a : Addr} {v : Value} (h : w.cell? (a.add 0) = some v) : a = ⟨a.block, a.off, none⟩ := by
  have := World.cell?_spot h
  rw [Addr.add_zero'] at this
  cases a
  simp_all

/-- The ints behind a slice that was read. -/
theorem ints_at {w : World} {fuel : Nat} {so : Option Addr} {n cap : Nat} {x : DataW H × List MemPlace} (h : DataW.trod enc Try.prog w 0 (fun _ => true) held fuel 51 [.slice so n cap] = some x) :
    ∃ l : List Int, l.length = n ∧ (n ≤ cap ∧ cap ≤ maxLen ∧ (so = none → cap = 0)) ∧ (∀ x ∈ l, -9223372036854775808 ≤ x ∧ x ≤ 9223372036854775807) ∧ IntsAt w so l := by
  rcases open_ints Try.underlying51 Try.underlying3 (by kernel_rfl) h with ⟨hcs, _⟩ | ⟨a, len, c, zs, hcs, hb, hl, hm, hz, _, hcell, hwf⟩
  · simp at hcs
    obtain ⟨rfl, rfl, rfl⟩ := hcs
    exact ⟨[], rfl, by simp [maxLen], by simp, by intro k x hk; simp at hk⟩
  · simp at hcs
    obtain ⟨rfl, rfl, rfl⟩ := hcs
    simp at hz
    refine ⟨zs.take n, by simp; omega, ⟨hl, hm, by simp⟩, fun y hy => wf_int (hwf y (List.mem_of_mem_take hy)), ?_⟩
    intro k y hk
    have hk' := (List.getElem?_eq_some_iff.1 hk).1
    have hkl : k < zs.length := by simp at hk'; omega
    have hc := hcell k hkl
    rw [List.getElem?_take_of_lt (by simp at hk'; omega)] at hk
    rw [List.getD_eq_getElem?_getD, hk] at hc
    exact ⟨a, rfl, by have := World.block_lt_of_cell? w _ hc; rw [ad_block] at this; exact this, hc⟩

set_option maxRecDepth 100000 in
/-- A slice of int: its elements. -/
theorem ints_of {w : World} {r : Reach} {b0 : Nat} {v : Value} {d : DataW H} {p : List MemPlace} (hv : Value.okWide Try.prog w r b0 51 v) (h : DataW.Trod enc Try.prog w 0 (fun _ => true) held 51 v d p) :
    ∃ (so : Option Addr) (n cap : Nat) (l : List Int), v = .slice so n cap ∧ l.length = n ∧ (n ≤ cap ∧ cap ≤ maxLen ∧ (so = none → cap = 0)) ∧ (∀ x ∈ l, -9223372036854775808 ≤ x ∧ x ≤ 9223372036854775807) ∧ IntsAt w so l := by
  obtain ⟨so, n, cap, rfl⟩ := okWide_slice Try.underlying51 hv
  obtain ⟨fuel, hf⟩ := h
  obtain ⟨l, h⟩ := ints_at hf
  exact ⟨so, n, cap, l, rfl, h⟩

theorem open_slice_fields {P : Program} {t e : TypeId} {fs : Array Field} {fuel : Nat} {cs : List Value} {x : DataW H × List MemPlace} (ht : P.underlying t = some (.slice e)) (he : P.underlying e = some (.struct fs))
    (hone : oneCellFields P fs = true) (hC : P.cellsOf e = fs.size) (h : DataW.trod enc P w base spare held fuel t cs = some x) :
    (cs = [.slice none 0 0] ∧ x = (.nil, [])) ∨
    ∃ (a : Addr) (len cap m : Nat) (D : Nat → DataW H) (Pl : Nat → List MemPlace), cs = [.slice (some a) len cap] ∧ base ≤ a.block ∧ len ≤ cap ∧ cap ≤ maxLen ∧ m = (if spare a.block then cap else len) ∧
      x = (.slice ((List.range len).map D) ((List.range (m - len)).map fun j => D (len + j)), MemPlace.row a (m * fs.size) ++ (List.range m).flatMap Pl) ∧
      ∀ i, i < m → ∃ (ys : List (DataW H × List MemPlace)) (n : Nat), D i = .agg (ys.map (·.1)) ∧ Pl i = ys.flatMap (·.2) ∧ ys.length = fs.size ∧
        ∀ (j : Nat) (f : Field), fs[j]? = some f → ∃ (v : Value) (y : DataW H × List MemPlace), w.cell? (a.add (i * fs.size + j)) = some v ∧ ys[j]? = some y ∧ DataW.trod enc P w base spare held n f.type [v] = some y := by
  rcases open_slice ht h with h0 | ⟨a, len, cap, m, n, D, Pl, hcs, hb, hl, hm, hmm, hx, hi⟩
  · exact .inl h0
  · refine .inr ⟨a, len, cap, m, D, Pl, hcs, hb, hl, hm, hmm, by rw [hC] at hx; exact hx, fun i him => ?_⟩
    obtain ⟨cs', hc, ht'⟩ := hi i him
    rw [hC] at hc
    obtain ⟨ys, n', hn', hy, hlen, hyl, hf⟩ := DataW.trod_struct he ht'
    obtain ⟨_, hcl, hat⟩ := World.cells?_some hc
    simp only [Prod.mk.injEq] at hy
    refine ⟨ys, n', hy.1, hy.2, hyl, fun j f hj => ?_⟩
    obtain ⟨ho, hk⟩ := hone_of hone j f hj
    have hjl : j < fs.size := (Array.getElem?_eq_some_iff.1 hj).1
    have hcell := hat j hjl
    have hv : cs'[j]? = some (cs'[j]'(by omega)) := List.getElem?_eq_getElem (by omega)
    have h1 := hf j f hj
    rw [ho, hk] at h1
    have hone' : (cs'.drop j).take 1 = [cs'[j]'(by omega)] := by
      rw [List.drop_eq_getElem_cons (by omega)]
      rfl
    rw [hone'] at h1
    have hys : ys[j]? = some (ys[j]'(by omega)) := List.getElem?_eq_getElem (by omega)
    refine ⟨_, _, ?_, hys, h1.trans hys⟩
    rw [← Go.Deep.add_add, hcell, hv]

theorem list_of {α : Type} : ∀ (n : Nat) (R : Nat → α → Prop), (∀ k, k < n → ∃ x, R k x) → ∃ xs : List α, xs.length = n ∧ ∀ k x, xs[k]? = some x → R k x
  | 0, _, _ => ⟨[], rfl, by intro k x hk; simp at hk⟩
  | n + 1, R, h => by
    obtain ⟨x0, h0⟩ := h 0 (by omega)
    obtain ⟨xs, h1, h2⟩ := list_of n (fun k => R (k + 1)) (fun k hk => h (k + 1) (by omega))
    refine ⟨x0 :: xs, by simp [h1], ?_⟩
    intro k x hk
    cases k with
    | zero => simp at hk; subst hk; exact h0
    | succ k => exact h2 k x (by simpa using hk)
theorem wf_u8 {n : Int} (h : (Lit.int .u8 n).wf = true) : ∃ k : Nat, n = k ∧ k < 256 := by
  simp [Lit.wf] at h
  have h0 : IntKind.u8.min = 0 := by decide
  have h1 : IntKind.u8.max = 255 := by decide
  exact ⟨n.toNat, by omega, by omega⟩
theorem wf_u32 {n : Int} (h : (Lit.int .u32 n).wf = true) : ∃ k : Nat, n = k ∧ k < 4294967296 := by
  simp [Lit.wf] at h
  have h0 : IntKind.u32.min = 0 := by decide
  have h1 : IntKind.u32.max = 4294967295 := by decide
  exact ⟨n.toNat, by omega, by omega⟩
theorem wf_u64 {n : Int} (h : (Lit.int .u64 n).wf = true) : ∃ k : Nat, n = k ∧ k < 18446744073709551616 := by
  simp [Lit.wf] at h
  have h0 : IntKind.u64.min = 0 := by decide
  have h1 : IntKind.u64.max = 18446744073709551615 := by decide
  exact ⟨n.toNat, by omega, by omega⟩

end
theorem laid : laidOutB Try.prog = true := by kernel_rfl
end Go.Proofs.Ytdaoiimjflplhaa
