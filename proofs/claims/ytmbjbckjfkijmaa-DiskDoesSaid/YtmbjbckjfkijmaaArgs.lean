/- Arguments that are structs or slices: what they are, and that they read behind a call as they did. -/
import Derived.Test.YtmbjbckjfkijmaaLawD1
import Derived.Test.YtmbjbckjfkijmaaArgs0
import Derived.Carry
import Derived.WideKeyArgs
import Derived.Lib.SmallJoins
import Derived.Deep.Slices
import Derived.Deep.Fields
import Derived.ChangeSlices
namespace Go.Proofs.Ytmbjbckjfkijmaa
open Go.RowKit Go.ChangeShapes Go.WideShapes Go.Joins Go.Deep
section
variable {H : Type} {enc : TypeId × Value → H} {w : World} {base : Nat} {spare : Nat → Bool} {held : Bool}

set_option maxRecDepth 100000 in
theorem act_of {r : Reach} {b0 : Nat} {v : Value} {d : DataW H} {p : List MemPlace} (hv : Value.okWide Try.prog w r b0 31 v) (h : DataW.Trod enc Try.prog w base spare held 31 v d p) :
    ∃ (a c : Int) (s : ByteArray) (so : Option Addr) (n cap : Nat), v = .agg #[.int .i64 a, .int .i64 c, .string s, .slice so n cap] ∧ (-9223372036854775808 ≤ c ∧ c ≤ 9223372036854775807) ∧ s.size ≤ maxLen := by
  obtain ⟨v0, v1, v2, v3, y0, y1, y2, y3, n, rfl, rfl, rfl, g0, g1, g2, g3⟩ := open_agg4 Try.underlying31 (by kernel_rfl) (by kernel_rfl) hv h
  obtain ⟨a, e0, _, w0⟩ := DataW.trod_int Try.underlying3 g0
  obtain ⟨c, e1, _, w1⟩ := DataW.trod_int Try.underlying3 g1
  obtain ⟨s, e2, _, w2⟩ := DataW.trod_string Try.underlying9 g2
  obtain ⟨so, m, cap, rfl⟩ := slice_form Try.underlying23 g3
  obtain rfl := (List.cons.inj e0).1
  obtain rfl := (List.cons.inj e1).1
  obtain rfl := (List.cons.inj e2).1
  exact ⟨a, c, s, so, m, cap, rfl, wf_int w1, w2⟩

/-- What an act is. -/
structure ActV where
  d : Int
  c : Int
  s : ByteArray
  so : Option Addr
  n : Nat
  cap : Nat
  l : List Int

def ActV.ok (w : World) (x : ActV) : Prop := (-9223372036854775808 ≤ x.d ∧ x.d ≤ 9223372036854775807) ∧ (-9223372036854775808 ≤ x.c ∧ x.c ≤ 9223372036854775807) ∧ x.s.size ≤ maxLen ∧ x.l.length = x.n ∧ (x.n ≤ x.cap ∧ x.cap ≤ maxLen ∧ (x.so = none → x.cap = 0)) ∧
  (∀ y ∈ x.l, -9223372036854775808 ≤ y ∧ y ≤ 9223372036854775807) ∧ IntsAt w x.so x.l
/-- A slice of acts: its elements. -/
def ActsAt (w : World) (so : Option Addr) (xs : List ActV) : Prop := ∀ k x, xs[k]? = some x → x.ok w ∧ ∃ b o, so = some ⟨b, o, none⟩ ∧ b < w.heap.size ∧
  w.cell? ⟨b, o + k * 4, none⟩ = some (.int .i64 x.d) ∧ w.cell? ⟨b, o + k * 4 + 1, none⟩ = some (.int .i64 x.c) ∧ w.cell? ⟨b, o + k * 4 + 2, none⟩ = some (.string x.s) ∧ w.cell? ⟨b, o + k * 4 + 3, none⟩ = some (.slice x.so x.n x.cap)

set_option maxRecDepth 100000 in
theorem acts_of {w : World} {r : Reach} {b0 : Nat} {v : Value} {d : DataW H} {p : List MemPlace} (hv : Value.okWide Try.prog w r b0 22 v) (h : DataW.Trod enc Try.prog w 0 (fun _ => true) held 22 v d p) :
    ∃ (so : Option Addr) (n cap : Nat) (xs : List ActV), v = .slice so n cap ∧ xs.length = n ∧ n ≤ maxLen ∧ ActsAt w so xs := by
  obtain ⟨so, n, cap, rfl⟩ := okWide_slice Try.underlying22 hv
  obtain ⟨fuel, hf⟩ := h
  rcases open_slice_fields Try.underlying22 Try.underlying31 (by kernel_rfl) (by kernel_rfl) hf with ⟨hcs, _⟩ | ⟨a, len, c, m, D, Pl, hcs, hb, hl, hm, hmm, _, hF⟩
  · simp [Value.cells] at hcs
    obtain ⟨rfl, rfl, rfl⟩ := hcs
    exact ⟨none, 0, 0, [], rfl, rfl, by simp [maxLen], by intro k x hk; simp at hk⟩
  · simp [Value.cells] at hcs
    obtain ⟨rfl, rfl, rfl⟩ := hcs
    have hlm : n ≤ m := by rw [hmm]; simp; omega
    have one : ∀ k, k < n → ∃ x : ActV, x.ok w ∧ ∃ b o, (some a : Option Addr) = some ⟨b, o, none⟩ ∧ b < w.heap.size ∧
        w.cell? ⟨b, o + k * 4, none⟩ = some (.int .i64 x.d) ∧ w.cell? ⟨b, o + k * 4 + 1, none⟩ = some (.int .i64 x.c) ∧ w.cell? ⟨b, o + k * 4 + 2, none⟩ = some (.string x.s) ∧ w.cell? ⟨b, o + k * 4 + 3, none⟩ = some (.slice x.so x.n x.cap) := by
      intro k hk
      have h00 := hF 0 (by omega)
      obtain ⟨_, _, _, _, _, hf00⟩ := h00
      obtain ⟨_, _, hc00, _⟩ := hf00 0 _ rfl
      have ha := block_addr (by simpa using hc00)
      obtain ⟨ys, fu, _, _, _, hfk⟩ := hF k (by omega)
      obtain ⟨v0, y0, c0, _, t0⟩ := hfk 0 _ rfl
      obtain ⟨v1, y1, c1, _, t1⟩ := hfk 1 _ rfl
      obtain ⟨v2, y2, c2, _, t2⟩ := hfk 2 _ rfl
      obtain ⟨v3, y3, c3, _, t3⟩ := hfk 3 _ rfl
      obtain ⟨z0, e0, _, w0⟩ := DataW.trod_int Try.underlying3 t0
      obtain ⟨z1, e1, _, w1⟩ := DataW.trod_int Try.underlying3 t1
      obtain ⟨z2, e2, _, w2⟩ := DataW.trod_string Try.underlying9 t2
      obtain ⟨so, m3, cap3, rfl⟩ := slice_form Try.underlying23 t3
      obtain ⟨l, hl3⟩ := ints_at t3
      obtain rfl := (List.cons.inj e0).1
      obtain rfl := (List.cons.inj e1).1
      obtain rfl := (List.cons.inj e2).1
      rw [ha, Addr.add_mid] at c0 c1 c2 c3
      have hbl := World.block_lt_of_cell? w _ c0
      exact ⟨⟨z0, z1, z2, so, m3, cap3, l⟩, ⟨wf_int w0, wf_int w1, w2, hl3⟩, a.block, a.off, by rw [← ha], hbl, by simpa using c0, by simpa [Nat.add_assoc] using c1, by simpa [Nat.add_assoc] using c2, by simpa [Nat.add_assoc] using c3⟩
    obtain ⟨xs, h1, h2⟩ := list_of n _ one
    exact ⟨some a, n, cap, xs, rfl, h1, by omega, h2⟩
end
section
open Go.Shelf
/-- A list's first eighty numbers. -/
def cut80 (l : List Int) : List Int := l.take 80
set_option maxRecDepth 100000 in
set_option maxHeartbeats 400000 in
theorem cut_any (so : Option Addr) (n cap : Nat) (w : World) (hn : n ≤ cap) (hc : cap ≤ maxLen) (hso : so = none → cap = 0) :
    Calls Try.prog 22 #[.slice so n cap] w fun e w' => e = .returned (.slice so (min n 80) cap) ∧ Below w.heap.size w w' := by
  unfold maxLen at hc
  by_cases h : n ≤ 80
  · have hm : min n 80 = n := by omega
    rw [hm]
    have h1 : (n : Int) ≤ 80 := by omega
    cases so with
    | none =>
      obtain rfl := hso rfl
      obtain rfl : n = 0 := by omega
      go_enter Try.func22, Try.ntmps22
      go_wp2
      go_ret
      exact ⟨rfl, bl_re _⟩
    | some a =>
      clear hso
      have i0 : (0 : Int) ≤ (n : Int) := by omega
      have i1 : (n : Int) ≤ (cap : Int) := by omega
      go_enter Try.func22, Try.ntmps22
      go_wp2
      go_ret
      exact ⟨rfl, bl_re _⟩
  · have hm : min n 80 = 80 := by omega
    rw [hm]
    cases so with
    | none => have := hso rfl; omega
    | some a =>
      clear hso
      have i1 : (80 : Int) ≤ (cap : Int) := by omega
      go_enter Try.func22, Try.ntmps22
      go_wp2
      go_ret
      exact ⟨rfl, bl_re _⟩
end
end Go.Proofs.Ytmbjbckjfkijmaa
