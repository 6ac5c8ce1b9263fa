/- The plain law of PageKeeps: what a page's write leaves of what is read. No program in sight. -/
import Derived.Test.YtmbjbckjfkijmaaPageWr
import Derived.Test.YtmbjbckjfkijmaaPageR
namespace Go.Proofs.Ytmbjbckjfkijmaa

theorem over_snoc1 (j : Nat) (s : List UInt8) (U : List (Nat × List UInt8)) (p : Nat × List UInt8) : Dk.over j s (U ++ [p]) = if p.1 = j then p.2 else Dk.over j s U := by
  simp [Dk.over, List.foldl_append]
theorem rd_pw (D : Dk) (id : Nat) (z : List UInt8) (j : Nat) : ∀ k, (D.pw id z k).rd j = if 4 * id ≤ j ∧ j < 4 * id + k then chunk z (j - 4 * id) else D.rd j
  | 0 => by rw [if_neg (by omega)]; rfl
  | k + 1 => by
    have ih := rd_pw D id z j k
    unfold Dk.rd at ih ⊢
    simp only [Dk.pw]
    rw [over_snoc1]
    dsimp only
    by_cases h : 4 * id + k = j
    · rw [if_pos h, if_pos (by omega)]
      congr 1
      omega
    · rw [if_neg h, ih]
      by_cases h2 : 4 * id ≤ j ∧ j < 4 * id + k
      · rw [if_pos h2, if_pos (by omega)]
      · rw [if_neg h2, if_neg (by omega)]
theorem pg_pw_other (D : Dk) (id : Nat) (z : List UInt8) (j : Nat) (h : j ≠ id) : ∀ k, k ≤ 4 → (D.pw id z 4).pg j k = D.pg j k
  | 0, _ => rfl
  | k + 1, hk => by
    rw [Dk.pg, Dk.pg, pg_pw_other D id z j h k (by omega), rd_pw, if_neg (by omega)]
theorem take_chunk (z : List UInt8) (k : Nat) (_h : 64 * k + 64 ≤ z.length) : z.take (64 * k) ++ chunk z k = z.take (64 * k + 64) := by
  unfold chunk
  have h1 : z.take (64 * k) = (z.take (64 * k + 64)).take (64 * k) := by rw [List.take_take]; congr 1; omega
  rw [h1, List.take_append_drop]
theorem pg_pw_same (D : Dk) (id : Nat) (z : List UInt8) (hz : z.length = 256) : ∀ k, k ≤ 4 → (D.pw id z 4).pg id k = z.take (64 * k)
  | 0, _ => by simp [Dk.pg]
  | k + 1, hk => by
    rw [Dk.pg, pg_pw_same D id z hz k (by omega), rd_pw, if_pos (by omega), show 4 * id + k - 4 * id = k by omega, take_chunk z k (by omega)]
    congr 1
theorem preadV_pw_other (D : Dk) (id : Nat) (z : List UInt8) (j : Nat) (h : j ≠ id) : preadV (D.pw id z 4) j = preadV D j := by
  unfold preadV
  rw [pg_pw_other D id z j h 4 (by omega)]
theorem preadV_pw_same (D : Dk) (k i t : Nat) (b : List UInt8) (hi : i < 4294967296) (ht : t < 18446744073709551616) (hr : rightB k i t b.length = true) : preadV (D.pw i (encL k i t b) 4) i = .tuple #[pageV k i t b, .int .i64 0] := by
  have h3 := (rightB_iff _ _ _ _).1 hr
  have hl := encL_length k i t b (by omega)
  obtain ⟨h4, h5, h6, h7, h8⟩ := dec_enc k i t b (by omega) hi ht (by omega)
  unfold preadV
  rw [pg_pw_same D i _ hl 4 (by omega), List.take_of_length_le (by omega), if_pos ⟨decB_enc k i t b hi ht hr, h5⟩, h4, h5, h6, h8]

/-- What is wanted of a page. -/
structure Wp where
  k : Nat
  i : Nat
  t : Nat
  b : ByteArray
def Wp.zero : Wp := ⟨0, 0, 0, ⟨#[]⟩⟩
/-- Each page is read as it is wanted. -/
def Keeps (D : Dk) (f : Nat → Wp) : Prop := ∀ j, 2 ≤ j → j ≤ 9 → ((f j).t = 0 ∧ preadV D j = .tuple #[pageZ, .int .i64 30]) ∨ ((f j).t ≠ 0 ∧ preadV D j = .tuple #[.agg #[.int .i64 ((f j).k : Int), .int .u32 ((f j).i : Int), .int .u64 ((f j).t : Int), .string (f j).b], .int .i64 0])
def Wp.upd (f : Nat → Wp) (q : Nat) (x : Wp) (j : Nat) : Wp := if j = q then x else f j
theorem Keeps.wrote {D : Dk} {f : Nat → Wp} (h : Keeps D f) (k i t : Nat) (b : ByteArray) (hi : i < 4294967296) (ht : t < 18446744073709551616) (hr : rightB k i t b.size = true) : Keeps (D.pw i (encL k i t b.data.toList) 4) (Wp.upd f i ⟨k, i, t, b⟩) := by
  intro j h2 h9
  by_cases hj : j = i
  · subst hj
    have h3 := (rightB_iff _ _ _ _).1 hr
    refine .inr ?_
    have e : Wp.upd f j ⟨k, j, t, b⟩ j = ⟨k, j, t, b⟩ := by unfold Wp.upd; rw [if_pos rfl]
    rw [e, preadV_pw_same D k j t _ hi ht (by rw [ba_length]; exact hr)]
    refine ⟨by dsimp only; omega, ?_⟩
    unfold pageV
    rw [mk_of]
  · have e : Wp.upd f i ⟨k, i, t, b⟩ j = f j := by unfold Wp.upd; rw [if_neg hj]
    rw [e, preadV_pw_other D i _ j hj]
    exact h j h2 h9
end Go.Proofs.Ytmbjbckjfkijmaa
