/- '[]byte(s)' and 'string(b)' in a walk, over any program: what the conversions leave. No condition. -/
import Derived.Test.YtdaoiimjflplhaaBase
namespace Go.Proofs.Ytdaoiimjflplhaa
open Go.RowKit
section
variable {P : Program}
/-- '[]byte(s)': a new block with the text's bytes; whatever lay lies as it lay. -/
theorem conv_bytes (W : World) (src dst e : TypeId) (s : ByteArray) (hs : P.underlying src = some .string) (hd : P.underlying dst = some (.slice e)) (he : P.underlying e = some (.int .u8)) :
    ∃ (cap : Nat) (W' : World), (convert src dst (.string s)).run P W = .ok (.slice (some ⟨W.heap.size, 0, none⟩) s.size cap) W' ∧
      (∀ j (h : j < s.size), W'.cell? ⟨W.heap.size, j, none⟩ = some (.int .u8 (s[j].toNat : Int))) ∧ (∀ j, j < s.size → W'.frozen? ⟨W.heap.size, j, none⟩ = false) ∧
      Below W.heap.size W W' ∧ W'.heap.size = W.heap.size + 1 := by
  refine ⟨_, _, run_bytes_of_string W src dst e s hs hd he, ?_, ?_, ?_, ?_⟩
  · intro j h
    have h1 := World.cell?_alloc_mark W.drew (bytesRow s (grownCap W s.size 0 e)) e ((bytesRow s (grownCap W s.size 0 e)).size, (bytesRow s (grownCap W s.size 0 e)).size + 1) j
    rw [bytesRow_at s _ j h] at h1
    exact h1
  · intro j h
    have h1 := World.frozen?_alloc_mark W.drew (bytesRow s (grownCap W s.size 0 e)) e (bytesRow s (grownCap W s.size 0 e)).size ((bytesRow s (grownCap W s.size 0 e)).size + 1) j
    have h2 : s.size ≤ (bytesRow s (grownCap W s.size 0 e)).size := by
      unfold bytesRow
      rw [Array.size_append, Array.size_map]
      exact Nat.le_add_right _ _
    rw [decide_eq_false (by omega), Bool.false_and] at h1
    exact h1
  · exact (Below.refl W.heap.size W).drew.alloc (Nat.le_refl _) _
  · exact World.size_alloc W.drew _

/-- 'string(b)': the bytes that the block holds. -/
theorem conv_back (W : World) (src dst e : TypeId) (g cap n : Nat) (l : List UInt8) (hs : P.underlying src = some (.slice e)) (he : P.underlying e = some (.int .u8)) (hd : P.underlying dst = some .string)
    (hn : l.length = n) (hc : ∀ j (h : j < l.length), W.cell? ⟨g, j, none⟩ = some (.int .u8 (l[j].toNat : Int))) :
    (convert src dst (.slice (some ⟨g, 0, none⟩) n cap)).run P W = .ok (.string (mk l)) W := by
  subst hn
  refine run_convert_bytes_back W src dst e ⟨g, 0, none⟩ cap l hs he hd ?_
  intro j hj
  have h1 : (⟨g, 0, none⟩ : Addr).add j = ⟨g, j, none⟩ := by
    unfold Addr.add
    by_cases h0 : j = 0
    · rw [if_pos h0, h0]
    · rw [if_neg h0]
      simp
  rw [h1]
  exact hc j hj
/-- A block holds the bytes l from its head on. -/
def Holds (W : World) (g : Nat) (l : List UInt8) : Prop := ∀ j (h : j < l.length), W.cell? ⟨g, j, none⟩ = some (.int .u8 (l[j].toNat : Int))
theorem Holds.of {W : World} {g : Nat} {s : ByteArray} (hc : ∀ j (h : j < s.size), W.cell? ⟨g, j, none⟩ = some (.int .u8 (s[j].toNat : Int))) : Holds W g s.data.toList :=
  fun j h => hc j (by rw [ba_length] at h; exact h)
theorem Holds.set_ {W : World} {g : Nat} {l : List UInt8} (h : Holds W g l) (k : Nat) (c : UInt8) (hk : k < l.length) : Holds (W.setCell ⟨g, k, none⟩ (.int .u8 (c.toNat : Int))) g (l.set k c) := by
  intro j hj
  have hj' : j < l.length := by rw [List.length_set] at hj; exact hj
  by_cases e : k = j
  · subst e
    rw [List.getElem_set_self]
    exact World.cell?_setCell_same' _ _ _ (by rw [h k hk]; rfl)
  · rw [List.getElem_set_ne e, World.cell?_setCell_other _ _ _ _ (by intro h; injection h with _ h2; exact e h2)]
    exact h j hj'
theorem Holds.drew {W : World} {g : Nat} {l : List UInt8} (h : Holds W g l) : Holds W.drew g l := h

/-- 'min(x, y)' of two ints. -/
theorem run_min_two (x y m : Int) (hm : min x y = m) (ats : Array TypeId) (ty : TypeId) (w : World) : (Builtin.min_ ats ty #[.int .i64 x, .int .i64 y]).run P w = .ok (.int .i64 m) w := by
  have h : (if y < x then y else x) = m := by rw [← hm]; omega
  simp only [Builtin.min_, List.foldlM_cons, List.foldlM_nil, Builtin.min2, h]
  simp
end
end Go.Proofs.Ytdaoiimjflplhaa
