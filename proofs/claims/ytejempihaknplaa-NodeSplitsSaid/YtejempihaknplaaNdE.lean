/- What the reference's functions answer (leaf), as plain lists; what a rising list's keys are. Condition: texts of at most 70 bytes, small lists. -/
import Derived.Test.YtejempihaknplaaNdR
import Derived.Test.YtejempihaknplaaNdA
namespace Go.Proofs.Ytejempihaknplaa.G
open Go.RowKit Go.Proofs.YtejempihaknplaaW.PrintWords Go.Proofs.YtejempihaknplaaW.PrintMore

/-- The bounds of the laws: short texts, small lists. -/
def Cut (ps : List S39) (ks : List ByteArray) (kd : List Int) : Prop :=
  smallB ps ks kd = true ∧ (∀ p ∈ ps, p.f0.size ≤ 70 ∧ p.f1.size ≤ 70) ∧ (∀ s ∈ ks, s.size ≤ 70)
theorem cut_cut (ps : List S39) (ks : List ByteArray) (kd : List Int) : Cut (cutP ps) (cutK ks) (cutD kd) := ⟨cut_small ps ks kd, cutP_key ps, cutK_key ks⟩

theorem refPair_eq (p : S39) : bazaarref06_RightPair.f p.f0 p.f1 = some (pOk p) := by
  unfold bazaarref06_RightPair.f pOk kOk
  by_cases h1 : 1 ≤ p.f0.size
  · rw [if_pos (by omega), decide_eq_true h1]
    by_cases h2 : p.f0.size ≤ 24
    · rw [if_pos (by omega), decide_eq_true h2]
      congr 1
      simp
      omega
    · rw [if_neg (by omega), decide_eq_false h2]
      rfl
  · rw [if_neg (by omega), decide_eq_false h1]
    rfl

theorem rises_drop (l : List ByteArray) (i : Nat) (h : i + 1 < l.length) : risesB (l.drop i) = (blt l[i] l[i + 1] && risesB (l.drop (i + 1))) := by
  rw [List.drop_eq_getElem_cons (by omega : i < l.length)]
  exact rises_step _ _ _ (by rw [List.head?_drop, List.getElem?_eq_getElem h])
theorem rises_end (l : List ByteArray) (i : Nat) (h : l.length ≤ i + 1) : risesB (l.drop i) = true := by
  rcases Nat.lt_or_ge i l.length with hlt | hge
  · rw [List.drop_eq_getElem_cons hlt, List.drop_of_length_le (by omega)]
    rfl
  · rw [List.drop_of_length_le hge]
    rfl
theorem leaf_l0 (ps : List S39) (ks : List ByteArray) (kd : List Int) (hl : ps.length ≤ 100000) (hp : ∀ p ∈ ps, p.f0.size ≤ 70 ∧ p.f1.size ≤ 70) : ∀ (d k i : Nat), 1 ≤ i → i + d = ps.length → d + 3000 < k →
    bazaarref06_leaf.l0 k (i : Int) ps ks kd = some ((ps.drop i).all pOk && risesB ((ps.map (·.f0)).drop (i - 1)))
  | 0, k, i, h1, hi, hk => by
    obtain ⟨k, rfl⟩ : ∃ m, k = m + 1 := ⟨k - 1, by omega⟩
    simp only [bazaarref06_leaf.l0]
    rw [if_neg (by omega), List.drop_of_length_le (by omega), rises_end _ _ (by simp; omega)]
    rfl
  | d + 1, k, i, h1, hi, hk => by
    obtain ⟨k, rfl⟩ : ∃ m, k = m + 1 := ⟨k - 1, by omega⟩
    have ih := leaf_l0 ps ks kd hl hp d k (i + 1) (by omega) (by omega) (by omega)
    have hlt : i < ps.length := by omega
    have h0 := hp _ (List.getElem_mem hlt)
    have h2 := hp _ (List.getElem_mem (show i - 1 < ps.length by omega))
    simp only [bazaarref06_leaf.l0]
    rw [if_pos (by omega), if_pos (by omega), rdT_nat ps i hlt, refPair_eq, Option.bind_some, if_pos (show (i : Int) > 0 by omega), w_sub i (by omega) h1, if_pos (show (0 : Int) ≤ ((i - 1 : Nat) : Int) by omega), if_pos (show ((i - 1 : Nat) : Int) < (ps.length : Int) by omega), rdT_nat ps (i - 1) (by omega), refLess_eq _ _ (by omega) (by omega) k (by omega), Option.bind_some, w_add i (by omega), ih,
      List.drop_eq_getElem_cons hlt, List.all_cons, rises_drop _ (i - 1) (by simp; omega)]
    simp only [List.getElem_map, show i - 1 + 1 = i by omega, show i + 1 - 1 = i by omega]
    cases pOk ps[i] <;> cases blt ps[i - 1].f0 ps[i].f0 <;> simp
theorem leaf_l00 (ps : List S39) (ks : List ByteArray) (kd : List Int) (hl : ps.length ≤ 100000) (hp : ∀ p ∈ ps, p.f0.size ≤ 70 ∧ p.f1.size ≤ 70) (k : Nat) (hk : ps.length + 3010 < k) :
    bazaarref06_leaf.l0 k 0 ps ks kd = some (ps.all pOk && risesB (ps.map (·.f0))) := by
  obtain ⟨k, rfl⟩ : ∃ m, k = m + 1 := ⟨k - 1, by omega⟩
  simp only [bazaarref06_leaf.l0]
  cases ps with
  | nil => rfl
  | cons p ps =>
    have ih := leaf_l0 (p :: ps) ks kd hl hp ps.length k 1 (by omega) (by rw [List.length_cons]; omega) (by rw [List.length_cons] at hk; omega)
    rw [if_pos (by rw [List.length_cons]; omega), if_pos (by omega), show rd_T39 (p :: ps) 0 = p from rfl, refPair_eq, Option.bind_some, if_neg (show ¬ ((0 : Int) > 0) by omega), show wrap64 (0 + 1) = ((1 : Nat) : Int) from by unfold wrap64; omega, ih, List.all_cons]
    cases pOk p <;> simp
theorem refLeaf_eq {ps : List S39} {ks : List ByteArray} {kd : List Int} (h : Cut ps ks kd) (k : Nat) (hk : 400010 < k) : bazaarref06_leaf.f k ps ks kd = some (leafB ps ks kd) := by
  obtain ⟨hs, hp, hkk⟩ := h
  simp only [smallB, Bool.and_eq_true, decide_eq_true_eq] at hs
  obtain ⟨k, rfl⟩ : ∃ m, k = m + 1 := ⟨k - 1, by omega⟩
  unfold bazaarref06_leaf.f leafB
  simp only [bazaarref06_leaf.j0]
  cases ks with
  | cons a b => rw [if_pos (by rw [List.length_cons]; omega), if_pos trivial]; rfl
  | nil =>
    cases kd with
    | cons a b => rw [if_neg (by simp), if_pos (by rw [List.length_cons]; omega), if_pos trivial]; rfl
    | nil =>
      rw [if_neg (by simp), if_neg (by simp)]
      by_cases h2 : ps.length ≤ 255
      · rw [if_neg (by simp; omega), leaf_l00 ps [] [] (by omega) hp k (by omega), decide_eq_true h2]
        rfl
      · rw [if_pos (by simp; omega), decide_eq_false h2]
        rfl
end Go.Proofs.Ytejempihaknplaa.G
