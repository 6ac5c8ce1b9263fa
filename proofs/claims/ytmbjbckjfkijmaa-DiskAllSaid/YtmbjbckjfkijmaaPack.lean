/- Several disks in one heap: each block belongs to one of them, or to none. No program's step in sight. -/
import Derived.Test.YtmbjbckjfkijmaaDiskU
import Derived.Test.YtmbjbckjfkijmaaLawD1
namespace Go.Proofs.Ytmbjbckjfkijmaa
open Go.RowKit

/-- The disks of L lie in the heap from block B on, apart from each other; the blocks R are no disk's. -/
def Pack (B : Nat) (w : World) (R : List Nat) (L : List (Nat × Dk)) : Prop := B ≤ w.heap.size ∧ ∃ F : Nat → Nat, (∀ k ∈ R, k < w.heap.size ∧ L.length ≤ F k) ∧
  ∀ (i : Nat) (g : Nat) (D : Dk), L[i]? = some (g, D) → Held (fun k => B ≤ k ∧ k < w.heap.size ∧ F k = i) w g D

theorem Pack.nil (B : Nat) (w : World) (hB : B ≤ w.heap.size) : Pack B w [] [] := ⟨hB, fun _ => 0, by simp, by simp⟩

/-- Nothing that lay has turned: the disks stand, and what is new may be no disk's. -/
theorem Pack.below {B : Nat} {w w' : World} {R : List Nat} {L : List (Nat × Dk)} (h : Pack B w R L) (hb : Below w.heap.size w w') (R' : List Nat) (hR : ∀ k ∈ R', w.heap.size ≤ k ∧ k < w'.heap.size) : Pack B w' (R' ++ R) L := by
  obtain ⟨hB, F, h1, h2⟩ := h
  have hs := hb.size
  refine ⟨by omega, fun k => if k < w.heap.size then F k else L.length, ?_, ?_⟩
  · intro k hk
    rcases List.mem_append.1 hk with hk | hk
    · have := hR k hk
      exact ⟨this.2, by dsimp only; rw [if_neg (by omega)]; exact Nat.le_refl _⟩
    · have := h1 k hk
      exact ⟨by omega, by dsimp only; rw [if_pos this.1]; exact this.2⟩
  · intro i g D hi
    refine ((h2 i g D hi).below hb).sub fun k _ ⟨a, b, c⟩ => ⟨a, by omega, by dsimp only; rw [if_pos b]; exact c⟩

/-- One of the disks is worked on. -/
theorem Pack.at_ {B : Nat} {w : World} {R : List Nat} {L : List (Nat × Dk)} (h : Pack B w R L) (i g : Nat) (D : Dk) (hi : L[i]? = some (g, D)) :
    ∃ S : Nat → Prop, Held S w g D ∧ (∀ k, w.heap.size ≤ k → S k) ∧ (∀ k, S k → B ≤ k) ∧ (∀ k ∈ R, ¬ S k) ∧
      ∀ (w' : World) (D' : Dk), Held S w' g D' → Chg S w w' → Pack B w' R (L.set i (g, D')) := by
  obtain ⟨hB, F, h1, h2⟩ := h
  have hil := (List.getElem?_eq_some_iff.1 hi).1
  refine ⟨fun k => B ≤ k ∧ (k < w.heap.size → F k = i), (h2 i g D hi).sub fun k _ ⟨a, b, c⟩ => ⟨a, fun _ => c⟩, fun k hk => ⟨by omega, fun h => by omega⟩, fun k hk => hk.1, fun k hk hs => ?_, ?_⟩
  · have := h1 k hk
    have := hs.2 this.1
    omega
  · intro w' D' hh hc
    have hs := hc.size
    refine ⟨by omega, fun k => if k < w.heap.size then F k else i, ?_, ?_⟩
    · intro k hk
      have := h1 k hk
      rw [List.length_set]
      exact ⟨by omega, by dsimp only; rw [if_pos this.1]; exact this.2⟩
    · intro j g' D'' hj
      by_cases hji : i = j
      · subst hji
        rw [List.getElem?_set_self hil] at hj
        obtain ⟨rfl, rfl⟩ := Prod.mk.inj (Option.some.inj hj)
        refine hh.sub fun k hk ⟨a, b⟩ => ⟨a, hk, ?_⟩
        by_cases hkw : k < w.heap.size
        · dsimp only; rw [if_pos hkw]; exact b hkw
        · dsimp only; rw [if_neg hkw]
      · rw [List.getElem?_set_ne hji] at hj
        refine ((h2 j g' D'' hj).keep (fun k hk ⟨a, b, c⟩ => hc.block k hk fun x => ?_) hs).sub fun k _ ⟨a, b, c⟩ => ⟨a, by omega, by dsimp only; rw [if_pos b]; exact c⟩
        have := x.2 hk
        omega

/-- A new disk beside them. -/
theorem Pack.new {B : Nat} {w w' : World} {R : List Nat} {L : List (Nat × Dk)} (h : Pack B w R L) (hb : Below w.heap.size w w') (g : Nat) (D : Dk) (hn : ∀ S : Nat → Prop, (∀ k, w.heap.size ≤ k → S k) → Held S w' g D) : Pack B w' R (L ++ [(g, D)]) := by
  obtain ⟨hB, F, h1, h2⟩ := h
  have hs := hb.size
  refine ⟨by omega, fun k => if k < w.heap.size then (if F k < L.length then F k else L.length + 1) else L.length, ?_, ?_⟩
  · intro k hk
    have := h1 k hk
    simp only [List.length_append, List.length_cons, List.length_nil]
    exact ⟨by omega, by rw [if_pos this.1, if_neg (by omega)]; omega⟩
  · intro i g' D' hi
    by_cases hl : i < L.length
    · rw [List.getElem?_append_left hl] at hi
      refine ((h2 i g' D' hi).below hb).sub fun k _ ⟨a, b, c⟩ => ⟨a, by omega, by dsimp only; rw [if_pos b, if_pos (by omega)]; exact c⟩
    · have hi2 := (List.getElem?_eq_some_iff.1 hi).1
      simp at hi2
      obtain rfl : i = L.length := by omega
      simp at hi
      obtain ⟨rfl, rfl⟩ := hi
      refine (hn (fun k => w.heap.size ≤ k) fun k hk => hk).sub fun k hk hs => ⟨by omega, hk, by dsimp only; rw [if_neg (by omega)]⟩
theorem Pack.reserved {B : Nat} {w : World} {R : List Nat} {L : List (Nat × Dk)} (h : Pack B w R L) : ∀ k ∈ R, k < w.heap.size := by
  obtain ⟨_, F, h1, _⟩ := h
  exact fun k hk => (h1 k hk).1
end Go.Proofs.Ytmbjbckjfkijmaa
