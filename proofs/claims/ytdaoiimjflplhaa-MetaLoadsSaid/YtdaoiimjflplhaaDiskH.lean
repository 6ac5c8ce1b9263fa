/- A disk as a plain thing, and what it is for a heap to hold one. No program's step in sight. -/
import Derived.Test.YtdaoiimjflplhaaProg
import Derived.Test.YtdaoiimjflplhaaRow
namespace Go.Proofs.Ytdaoiimjflplhaa
open Go.RowKit

/-- Sectors that are kept; unsynced writes; how many writes and syncs. -/
structure Dk where
  S : List (List UInt8)
  U : List (Nat × List UInt8)
  N : Nat

structure DkOk (D : Dk) : Prop where
  one : 1 ≤ D.S.length
  most : D.S.length ≤ 65536
  sec : ∀ s ∈ D.S, s.length = 64
  uns : ∀ p ∈ D.U, p.2.length = 64 ∧ p.1 < D.S.length
  few : D.U.length ≤ 1000000
  ops : D.N ≤ 1000000

def ucell (p : Nat × List UInt8) : List Value := .int .i64 (p.1 : Int) :: u8s p.2
def ucs (U : List (Nat × List UInt8)) : List Value := U.flatMap ucell
theorem ucell_length (p : Nat × List UInt8) (h : p.2.length = 64) : (ucell p).length = 65 := by simp [ucell, h]
theorem ucell_one (p : Nat × List UInt8) : ∀ v ∈ ucell p, v.oneCell' = true := by
  intro v hv
  rcases List.mem_cons.1 hv with rfl | hv
  · rfl
  · exact u8s_one _ _ hv
theorem ucs_length : ∀ (U : List (Nat × List UInt8)), (∀ p ∈ U, p.2.length = 64) → (ucs U).length = U.length * 65
  | [], _ => rfl
  | p :: U, h => by
    have ih := ucs_length U fun q hq => h q (List.mem_cons_of_mem _ hq)
    have hp := ucell_length p (h p (List.mem_cons_self ..))
    simp only [ucs, List.flatMap_cons, List.length_append, List.length_cons] at ih ⊢
    omega
theorem ucs_at : ∀ (U : List (Nat × List UInt8)), (∀ p ∈ U, p.2.length = 64) → ∀ (k : Nat) (p : Nat × List UInt8), U[k]? = some p → ∀ j v, (ucell p)[j]? = some v → (ucs U)[k * 65 + j]? = some v
  | [], _, k, p, hk, _, _, _ => by simp at hk
  | q :: U, h, 0, p, hk, j, v, hj => by
    simp at hk
    subst hk
    have hlt := (List.getElem?_eq_some_iff.1 hj).1
    simp only [ucs, List.flatMap_cons, Nat.zero_mul, Nat.zero_add]
    rw [List.getElem?_append_left hlt]
    exact hj
  | q :: U, h, k + 1, p, hk, j, v, hj => by
    have ih := ucs_at U (fun q hq => h q (List.mem_cons_of_mem _ hq)) k p (by simpa using hk) j v hj
    have hq := ucell_length q (h q (List.mem_cons_self ..))
    simp only [ucs, List.flatMap_cons] at ih ⊢
    rw [List.getElem?_append_right (by omega), hq, show (k + 1) * 65 + j - 65 = k * 65 + j by omega]
    exact ih
theorem ucs_snoc (U : List (Nat × List UInt8)) (p : Nat × List UInt8) : ucs (U ++ [p]) = ucs U ++ ucell p := by simp [ucs]

/-- At block g of the heap lies the disk D; its sectors at block kb, its unsynced writes where so says; what it is made of lies in S. -/
def HeldAt (S : Nat → Prop) (w : World) (g kb : Nat) (so : Option Addr) (cap : Nat) (D : Dk) : Prop := DkOk D ∧
  Blk w g 67 #[.slice (some ⟨kb, 0, none⟩) D.S.length D.S.length, .slice so D.U.length cap, .int .i64 (D.N : Int)] ∧
  (∀ k s, D.S[k]? = some s → w.rangeAt kb (k * 64) (u8s s)) ∧ w.there kb 0 (D.S.length * 64) ∧
  w.ownsRow 0 76 65 (.slice so D.U.length cap) D.U.length (ucs D.U) ∧
  g ≠ kb ∧ (∀ a, so = some a → a.block ≠ g ∧ a.block ≠ kb) ∧ S g ∧ S kb ∧ (∀ a, so = some a → S a.block) ∧ kb < w.heap.size ∧ (∀ a, so = some a → a.block < w.heap.size)
def Held (S : Nat → Prop) (w : World) (g : Nat) (D : Dk) : Prop := ∃ (kb : Nat) (so : Option Addr) (cap : Nat), HeldAt S w g kb so cap D

section
variable {S S' : Nat → Prop} {w w' : World} {g kb cap : Nat} {so : Option Addr} {D : Dk}
theorem HeldAt.keep (h : HeldAt S w g kb so cap D) (hc : ∀ k, k < w.heap.size → S k → w'.heap[k]? = w.heap[k]?) (hs : w.heap.size ≤ w'.heap.size) : HeldAt S w' g kb so cap D := by
  obtain ⟨hok, h1, h2, h3, h4, h5, h6, h7, h8, h9, h10, h11⟩ := h
  refine ⟨hok, (hc g h1.lt h7).trans h1, fun k s hk => rangeAt_block (h2 k s hk) (hc kb h10 h8), there_block h3 (hc kb h10 h8), ownsRow_block h4 ?_, h5, h6, h7, h8, h9, by omega, fun a ha => by have := h11 a ha; omega⟩
  intro k hk
  cases so with
  | none => simp [Value.ownBlock] at hk
  | some a => simp [Value.ownBlock] at hk; subst hk; exact hc _ (h11 a rfl) (h9 a rfl)
theorem HeldAt.sub (h : HeldAt S w g kb so cap D) (hs : ∀ k, k < w.heap.size → S k → S' k) : HeldAt S' w g kb so cap D := by
  obtain ⟨hok, h1, h2, h3, h4, h5, h6, h7, h8, h9, h10, h11⟩ := h
  exact ⟨hok, h1, h2, h3, h4, h5, h6, hs _ h1.lt h7, hs _ h10 h8, fun a ha => hs _ (h11 a ha) (h9 a ha), h10, h11⟩
theorem HeldAt.below (h : HeldAt S w g kb so cap D) (hb : Below w.heap.size w w') : HeldAt S w' g kb so cap D := h.keep (fun k hk _ => hb.block k hk) hb.size
theorem HeldAt.alloc (h : HeldAt S w g kb so cap D) (o : Obj) : HeldAt S (w.alloc o) g kb so cap D := h.below ((Below.refl _ _).alloc (Nat.le_refl _) _)
theorem HeldAt.drew (h : HeldAt S w g kb so cap D) : HeldAt S w.drew g kb so cap D := h.below (Below.refl _ _).drew
theorem HeldAt.far (h : HeldAt S w g kb so cap D) {p : Addr} (hp : ¬ S p.block) (u : Value) : HeldAt S (w.setCell p u) g kb so cap D := h.keep (fun k _ hk => heap_setCell_other w p k u fun e => hp (e ▸ hk)) (by simp)
theorem HeldAt.put (h : HeldAt S w g kb so cap D) {l : Nat} (hp : ¬ S l) (o : Obj) : HeldAt S (w.putObj l o) g kb so cap D := h.keep (fun k _ hk => World.putObj_heap_other fun e => hp (e ▸ hk)) (by simp)
theorem HeldAt.lt (h : HeldAt S w g kb so cap D) : g < w.heap.size := h.2.1.lt
theorem HeldAt.ok (h : HeldAt S w g kb so cap D) : DkOk D := h.1
theorem Held.keep (h : Held S w g D) (hc : ∀ k, k < w.heap.size → S k → w'.heap[k]? = w.heap[k]?) (hs : w.heap.size ≤ w'.heap.size) : Held S w' g D := by
  obtain ⟨kb, so, cap, h⟩ := h; exact ⟨kb, so, cap, h.keep hc hs⟩
theorem Held.sub (h : Held S w g D) (hs : ∀ k, k < w.heap.size → S k → S' k) : Held S' w g D := by
  obtain ⟨kb, so, cap, h⟩ := h; exact ⟨kb, so, cap, h.sub hs⟩
theorem Held.below (h : Held S w g D) (hb : Below w.heap.size w w') : Held S w' g D := h.keep (fun k hk _ => hb.block k hk) hb.size
theorem Held.alloc (h : Held S w g D) (o : Obj) : Held S (w.alloc o) g D := h.below ((Below.refl _ _).alloc (Nat.le_refl _) _)
theorem Held.drew (h : Held S w g D) : Held S w.drew g D := h.below (Below.refl _ _).drew
theorem Held.far (h : Held S w g D) {p : Addr} (hp : ¬ S p.block) (u : Value) : Held S (w.setCell p u) g D := h.keep (fun k _ hk => heap_setCell_other w p k u fun e => hp (e ▸ hk)) (by simp)
theorem Held.put (h : Held S w g D) {l : Nat} (hp : ¬ S l) (o : Obj) : Held S (w.putObj l o) g D := h.keep (fun k _ hk => World.putObj_heap_other fun e => hp (e ▸ hk)) (by simp)
theorem Held.lt (h : Held S w g D) : g < w.heap.size := by obtain ⟨_, _, _, h⟩ := h; exact h.lt
theorem Held.ok (h : Held S w g D) : DkOk D := by obtain ⟨_, _, _, h⟩ := h; exact h.ok

/-- A sector's first cells are written. -/
theorem HeldAt.wrote (h : HeldAt S w g kb so cap D) (i : Nat) (s l : List UInt8) (hi : D.S[i]? = some s) (hl : l.length ≤ 64) : HeldAt S (w.setCells kb (i * 64) (u8s l)) g kb so cap { D with S := D.S.set i (l ++ s.drop l.length) } := by
  obtain ⟨hok, h1, h2, h3, h4, h5, h6, h7, h8, h9, h10, h11⟩ := h
  have hs : s.length = 64 := hok.sec s (List.mem_of_getElem? hi)
  have hlt := (List.getElem?_eq_some_iff.1 hi).1
  have hc : ∀ k, k ≠ kb → (w.setCells kb (i * 64) (u8s l)).heap[k]? = w.heap[k]? := fun k hk => by
    by_cases hk2 : k < w.heap.size
    · exact (Chg.ofSetCells (S := fun j => j = kb) kb rfl (u8s l) (i * 64) w).block k hk2 hk
    · have e := (Chg.ofSetCells (S := fun j => j = kb) kb rfl (u8s l) (i * 64) w).size
      have e2 : (w.setCells kb (i * 64) (u8s l)).heap.size = w.heap.size := by
        clear h1 h2 h3 h4 e
        generalize i * 64 = o
        generalize u8s l = cs
        induction cs generalizing o w with
        | nil => rfl
        | cons v r ih => simp only [World.setCells]; rw [ih]; simp; simpa using h10; simpa using h11; simpa using hk2
      rw [Array.getElem?_eq_none (by omega), Array.getElem?_eq_none (by omega)]
  have hsz : w.heap.size ≤ (w.setCells kb (i * 64) (u8s l)).heap.size := (Chg.ofSetCells (S := fun j => j = kb) kb rfl (u8s l) (i * 64) w).size
  have hth : w.there kb (i * 64) (u8s l).length := fun j hj => by
    have := h3 (i * 64 + j) (by simp at hj; omega)
    simpa using this
  refine ⟨⟨by simpa using hok.one, by simpa using hok.most, ?_, by simpa using hok.uns, hok.few, hok.ops⟩, ?_, ?_, by simpa using World.there_setCells h3 _ _ _, ownsRow_block h4 ?_, h5, h6, h7, h8, h9, by omega, fun a ha => by have := h11 a ha; omega⟩
  · intro t ht
    rcases List.mem_or_eq_of_mem_set ht with ht | rfl
    · exact hok.sec t ht
    · simp [hs]; omega
  · have := (hc g h5).trans h1
    simp only [List.length_set]
    exact this
  · intro k t hk
    have hk' : k < D.S.length := by have := (List.getElem?_eq_some_iff.1 hk).1; simpa using this
    by_cases e : i = k
    · subst e
      rw [List.getElem?_set_self hlt] at hk
      obtain rfl := Option.some.inj hk
      intro j v hv
      by_cases hj : j < l.length
      · refine World.rangeAt_setCells_same w kb (i * 64) (u8s l) hth j v ?_
        rw [← hv, u8s_get, u8s_get, List.getElem?_append_left hj]
      · have hap : (w.setCells kb (i * 64) (u8s l)).cell? ⟨kb, i * 64 + j, none⟩ = w.cell? ⟨kb, i * 64 + j, none⟩ := World.cell?_setCells_out _ _ _ _ _ (fun _ _ => .inr (by simp; omega))
        rw [hap]
        refine h2 i s hi j v ?_
        rw [← hv]
        simp only [u8s_get]
        rw [List.getElem?_append_right (by omega), List.getElem?_drop, show l.length + (j - l.length) = j by omega]
    · rw [List.getElem?_set_ne e] at hk
      have ht := hok.sec t (List.mem_of_getElem? hk)
      refine World.rangeAt_setCells_apart (h2 k t hk) _ _ _ (.inr ?_)
      simp only [u8s_length, ht]
      omega
  · intro k hk
    cases so with
    | none => simp [Value.ownBlock] at hk
    | some a => simp [Value.ownBlock] at hk; subst hk; exact hc _ (h6 a rfl).2
end

theorem ownsRow_nil_iff {w : World} {base : Nat} {e : TypeId} {size : Nat} {so : Option Addr} {n cap : Nat} {xs : List Value} (h : w.ownsRow base e size (.slice so n cap) n xs) (hn : 0 < n) : ∃ ub, so = some ⟨ub, 0, none⟩ := by
  obtain ⟨g, c, hv, _⟩ := h.form hn
  simp at hv
  exact ⟨g, hv.1⟩

theorem uns_at {w : World} {ub n cap : Nat} {U : List (Nat × List UInt8)} (h : w.ownsRow 0 76 65 (.slice (some ⟨ub, 0, none⟩) n cap) n (ucs U)) (hU : ∀ p ∈ U, p.2.length = 64) (k : Nat) (p : Nat × List UInt8) (hk : U[k]? = some p) :
    w.rangeAt ub (k * 65) (ucell p) := fun j v hv => by
  have := h.cells (g := ub) rfl (k * 65 + j) v (ucs_at U hU k p hk j v hv)
  rw [Addr.add_lit] at this
  simpa using this
end Go.Proofs.Ytdaoiimjflplhaa
