/- What the reference's branch, Right and Place answer, as plain lists. -/
import Derived.Test.YtejempihaknplaaNdE
import Derived.Test.YtejempihaknplaaGC
namespace Go.Proofs.Ytejempihaknplaa.G
open Go.RowKit Go.Proofs.YtejempihaknplaaW.PrintWords Go.Proofs.YtejempihaknplaaW.PrintMore

theorem refBranch_l1 (ps : List S39) (ks : List ByteArray) (kd : List Int) (hl : ks.length ≤ 100000) (hp : ∀ s ∈ ks, s.size ≤ 70) : ∀ (d k i : Nat), 1 ≤ i → i + d = ks.length → d + 3000 < k →
    bazaarref06_branch.l1 k (i : Int) ps ks kd = some ((ks.drop i).all kOk && risesB (ks.drop (i - 1)))
  | 0, k, i, h1, hi, hk => by
    obtain ⟨k, rfl⟩ : ∃ m, k = m + 1 := ⟨k - 1, by omega⟩
    simp only [bazaarref06_branch.l1]
    rw [if_neg (by omega), List.drop_of_length_le (by omega), rises_end _ _ (by omega)]
    rfl
  | d + 1, k, i, h1, hi, hk => by
    obtain ⟨k, rfl⟩ : ∃ m, k = m + 1 := ⟨k - 1, by omega⟩
    have ih := refBranch_l1 ps ks kd hl hp d k (i + 1) (by omega) (by omega) (by omega)
    have hlt : i < ks.length := by omega
    have h0 := hp _ (List.getElem_mem hlt)
    have h2 := hp _ (List.getElem_mem (show i - 1 < ks.length by omega))
    simp only [bazaarref06_branch.l1]
    rw [if_pos (by omega), if_pos (by omega), rdOf_nat ks i hlt, if_pos (show (i : Int) > 0 by omega), w_sub i (by omega) h1, if_pos (show (0 : Int) ≤ ((i - 1 : Nat) : Int) by omega), if_pos (show ((i - 1 : Nat) : Int) < (ks.length : Int) by omega), rdOf_nat ks (i - 1) (by omega), refLess_eq _ _ (by omega) (by omega) k (by omega), Option.bind_some, w_add i (by omega), ih,
      List.drop_eq_getElem_cons hlt, List.all_cons, rises_drop _ (i - 1) (by omega)]
    simp only [show i - 1 + 1 = i by omega, show i + 1 - 1 = i by omega]
    unfold kOk
    by_cases h3 : 1 ≤ ks[i].size
    · rw [if_neg (by omega)]
      by_cases h4 : ks[i].size ≤ 24
      · rw [if_neg (by omega)]
        cases blt ks[i - 1] ks[i] <;> simp [h3, h4]
      · rw [if_pos (by omega)]
        simp [h4]
    · rw [if_pos (by omega)]
      simp [h3]
theorem refBranch_l10 (ps : List S39) (ks : List ByteArray) (kd : List Int) (hl : ks.length ≤ 100000) (hp : ∀ s ∈ ks, s.size ≤ 70) (k : Nat) (hk : ks.length + 3010 < k) :
    bazaarref06_branch.l1 k 0 ps ks kd = some (ks.all kOk && risesB ks) := by
  obtain ⟨k, rfl⟩ : ∃ m, k = m + 1 := ⟨k - 1, by omega⟩
  simp only [bazaarref06_branch.l1]
  cases ks with
  | nil => rfl
  | cons s ks =>
    have ih := refBranch_l1 ps (s :: ks) kd hl hp ks.length k 1 (by omega) (by rw [List.length_cons]; omega) (by rw [List.length_cons] at hk; omega)
    rw [if_pos (by rw [List.length_cons]; omega), if_pos (by omega), show rdOf ByteArray.empty (s :: ks) 0 = s from rfl, if_neg (show ¬ ((0 : Int) > 0) by omega), show wrap64 (0 + 1) = ((1 : Nat) : Int) from by unfold wrap64; omega, ih, List.all_cons]
    show _ = some ((kOk s && _) && _)
    unfold kOk
    by_cases h3 : 1 ≤ s.size
    · rw [if_neg (by omega)]
      by_cases h4 : s.size ≤ 24
      · rw [if_neg (by omega)]
        simp [h3, h4]
      · rw [if_pos (by omega)]
        simp [h4]
    · rw [if_pos (by omega)]
      simp [h3]
theorem refBranch_l0 (ps : List S39) (ks : List ByteArray) (kd : List Int) (hl : ks.length ≤ 100000) (hd : kd.length ≤ 100000) (hp : ∀ s ∈ ks, s.size ≤ 70) : ∀ (d k i : Nat), i + d = kd.length → d + 103020 < k →
    bazaarref06_branch.l0 k (i : Int) ps ks kd = some ((kd.drop i).all kidOk && (ks.all kOk && risesB ks))
  | 0, k, i, hi, hk => by
    obtain ⟨k, rfl⟩ : ∃ m, k = m + 1 := ⟨k - 1, by omega⟩
    simp only [bazaarref06_branch.l0]
    rw [if_neg (by omega), List.drop_of_length_le (by omega), refBranch_l10 ps ks kd hl hp k (by omega)]
    simp
  | d + 1, k, i, hi, hk => by
    obtain ⟨k, rfl⟩ : ∃ m, k = m + 1 := ⟨k - 1, by omega⟩
    have ih := refBranch_l0 ps ks kd hl hd hp d k (i + 1) (by omega) (by omega)
    have hlt : i < kd.length := by omega
    simp only [bazaarref06_branch.l0]
    rw [if_pos (by omega), if_pos (by omega), rd_nat kd i hlt, w_add i (by omega), ih, List.drop_eq_getElem_cons hlt, List.all_cons]
    unfold kidOk
    by_cases h3 : 2 ≤ kd[i]
    · rw [if_neg (by omega)]
      by_cases h4 : kd[i] < 16384
      · rw [if_neg (by omega)]
        simp [h3, h4]
      · rw [if_pos (by omega)]
        simp [h4]
    · rw [if_pos (by omega)]
      simp [h3]
theorem refBranch_eq {ps : List S39} {ks : List ByteArray} {kd : List Int} (h : Cut ps ks kd) (k : Nat) (hk : 400010 < k) : bazaarref06_branch.f k ps ks kd = some (branchB ps ks kd) := by
  obtain ⟨hs, hp, hkk⟩ := h
  simp only [smallB, Bool.and_eq_true, decide_eq_true_eq] at hs
  obtain ⟨k, rfl⟩ : ∃ m, k = m + 1 := ⟨k - 1, by omega⟩
  unfold bazaarref06_branch.f branchB
  simp only [bazaarref06_branch.j0]
  cases ps with
  | cons a b => rw [if_pos (by rw [List.length_cons]; omega), if_pos trivial]; rfl
  | nil =>
    rw [if_neg (by simp)]
    by_cases h1 : 1 ≤ kd.length
    · rw [if_neg (by omega), decide_eq_true h1]
      by_cases h2 : kd.length ≤ 255
      · rw [if_neg (by omega), decide_eq_true h2]
        have hw : wrap64 ((kd.length : Int) - 1) = ((kd.length - 1 : Nat) : Int) := w_sub _ (by omega) h1
        rw [hw]
        by_cases h3 : ks.length + 1 = kd.length
        · rw [if_neg (by simp; omega), decide_eq_true h3]
          have := refBranch_l0 [] ks kd (by omega) (by omega) hkk kd.length k 0 (by omega) (by omega)
          rw [show ((0 : Nat) : Int) = 0 from rfl, List.drop_zero] at this
          rw [this]
          simp [Bool.and_assoc]
        · rw [if_pos (by simp; omega), decide_eq_false h3]
          simp
      · rw [if_pos (by omega), if_pos trivial, decide_eq_false h2]
        simp
    · rw [if_pos (by omega), if_pos trivial, decide_eq_false h1]
      simp
theorem refRight_eq {ps : List S39} {ks : List ByteArray} {kd : List Int} (h : Cut ps ks kd) (k : Nat) (hk : 400010 < k) : bazaarref06_Right.f k ps ks kd = some (rightB ps ks kd) := by
  unfold bazaarref06_Right.f rightB
  rw [refLeaf_eq h k hk, Option.bind_some, refBranch_eq h k hk, Option.bind_some]
  cases leafB ps ks kd <;> simp
end Go.Proofs.Ytejempihaknplaa.G
