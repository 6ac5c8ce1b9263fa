/- cut, text and shown of the laws' package: plain lists. Condition: lengths are lengths. -/
import Derived.Test.YtejempihaknplaaNdA
import Derived.Test.YtejempihaknplaaGL
namespace Go.Proofs.Ytejempihaknplaa.G
open Go.RowKit Go.Proofs.YtejempihaknplaaW.PrintWords Go.Proofs.YtejempihaknplaaW.PrintMore

/-- The first seventy bytes. -/
def txt (s : ByteArray) : ByteArray := s.extract 0 (min s.size 70)
theorem txt_size (s : ByteArray) : (txt s).size ≤ 70 := by
  unfold txt
  rw [ByteArray.size_extract]
  omega
theorem mn_nat (n m : Nat) : (mn (n : Int) (m : Int)).toNat = min n m ∧ 0 ≤ mn (n : Int) (m : Int) ∧ mn (n : Int) (m : Int) ≤ (n : Int) := by
  unfold mn
  split <;> refine ⟨?_, ?_, ?_⟩ <;> omega
theorem text_eq (s : ByteArray) : bazaarlaw06_text.f s = some (txt s) := by
  have h := mn_nat s.size 70
  rw [show ((70 : Nat) : Int) = 70 from rfl] at h
  unfold bazaarlaw06_text.f txt
  rw [if_pos h.2.1, if_pos h.2.2, h.1]
def txtP (p : S39) : S39 := ⟨txt p.f0, txt p.f1⟩
def cutP (ps : List S39) : List S39 := (ps.take 260).map txtP
def cutK (ks : List ByteArray) : List ByteArray := (ks.take 260).map txt
def cutD (kd : List Int) : List Int := kd.take 260
theorem cut_small (ps : List S39) (ks : List ByteArray) (kd : List Int) : smallB (cutP ps) (cutK ks) (cutD kd) = true := by
  simp only [smallB, cutP, cutK, cutD, Bool.and_eq_true, decide_eq_true_eq, List.length_map, List.length_take]
  omega
theorem cut_l1 (ps : List S39) (ks : List ByteArray) (kd : List Int) (A : List S39) : ∀ (d k i : Nat) (B : List ByteArray), B.length ≤ i → i + d = min ks.length 260 → d < k →
    bazaarlaw06_cut.l1 k (i : Int) ps ks kd A B = some (A, B ++ ((ks.take 260).drop i).map txt, cutD kd)
  | 0, k, i, B, hB, h, hk => by
    obtain ⟨k, rfl⟩ : ∃ m, k = m + 1 := ⟨k - 1, by omega⟩
    have hm := mn_nat kd.length 260
    rw [show ((260 : Nat) : Int) = 260 from rfl] at hm
    have hlt : (([] : List Int).length + (kd.take (mn (kd.length : Int) 260).toNat).length) < 35184372088832 := by rw [hm.1, List.length_take]; simp; omega
    have hkd : ([] : List Int) ++ kd.take (mn (kd.length : Int) 260).toNat = cutD kd := by
      unfold cutD
      rw [hm.1, List.nil_append]
      rcases Nat.le_total kd.length 260 with hle | hle
      · rw [List.take_of_length_le (by omega), List.take_of_length_le hle]
      · rw [Nat.min_eq_right hle]
    have hdr : (ks.take 260).drop i = [] := List.drop_of_length_le (by rw [List.length_take]; omega)
    simp only [bazaarlaw06_cut.l1]
    rw [hdr, List.map_nil, List.append_nil, if_pos hm.2.1, if_pos hm.2.2, if_pos hlt, hkd]
    by_cases hi : (i : Int) < (ks.length : Int)
    · rw [if_pos hi, if_neg (by omega)]
    · rw [if_neg hi]
  | d + 1, k, i, B, hB, h, hk => by
    obtain ⟨k, rfl⟩ : ∃ m, k = m + 1 := ⟨k - 1, by omega⟩
    have hi : i < ks.length := by omega
    have ih := cut_l1 ps ks kd A d k (i + 1) (B ++ [txt ks[i]]) (by simp; omega) (by omega) (by omega)
    have hdr : (ks.take 260).drop i = ks[i] :: (ks.take 260).drop (i + 1) := by
      rw [List.drop_eq_getElem_cons (by rw [List.length_take]; omega), List.getElem_take]
    simp only [bazaarlaw06_cut.l1]
    rw [if_pos (by omega), if_pos (by omega), if_pos (by omega), rdOf_nat ks i hi, text_eq, Option.bind_some, if_pos (by omega), w_add i (by omega), ih, hdr]
    simp
theorem cut_l0 (ps : List S39) (ks : List ByteArray) (kd : List Int) : ∀ (d k i : Nat) (A : List S39), A.length ≤ i → i + d = min ps.length 260 → 2 * d + 300 < k →
    bazaarlaw06_cut.l0 k (i : Int) ps ks kd A = some (A ++ ((ps.take 260).drop i).map txtP, cutK ks, cutD kd)
  | 0, k, i, A, hA, h, hk => by
    obtain ⟨k, rfl⟩ : ∃ m, k = m + 1 + 1 := ⟨k - 2, by omega⟩
    have h1 := cut_l1 ps ks kd A (min ks.length 260) k 0 [] (by simp) (by omega) (by omega)
    rw [List.nil_append, List.drop_zero] at h1
    have hdr : (ps.take 260).drop i = [] := List.drop_of_length_le (by rw [List.length_take]; omega)
    rw [hdr, List.map_nil, List.append_nil]
    simp only [bazaarlaw06_cut.l0]
    by_cases hi : (i : Int) < (ps.length : Int)
    · rw [if_pos hi, decide_eq_false (by omega)]
      simp only [bazaarlaw06_cut.j1]
      rw [if_neg (by simp)]
      exact h1
    · rw [if_neg hi]
      simp only [bazaarlaw06_cut.j1]
      rw [if_neg (by simp)]
      exact h1
  | d + 1, k, i, A, hA, h, hk => by
    obtain ⟨k, rfl⟩ : ∃ m, k = m + 1 + 1 := ⟨k - 2, by omega⟩
    have hi : i < ps.length := by omega
    have ih := cut_l0 ps ks kd d k (i + 1) (A ++ [txtP ps[i]]) (by simp; omega) (by omega) (by omega)
    have hdr : (ps.take 260).drop i = ps[i] :: (ps.take 260).drop (i + 1) := by
      rw [List.drop_eq_getElem_cons (by rw [List.length_take]; omega), List.getElem_take]
    simp only [bazaarlaw06_cut.l0]
    rw [if_pos (by omega), decide_eq_true (by omega)]
    simp only [bazaarlaw06_cut.j1]
    rw [if_pos trivial, if_pos (by omega), if_pos (by omega), rdT_nat ps i hi, text_eq, Option.bind_some, text_eq, Option.bind_some, if_pos (by omega), w_add i (by omega), hdr]
    have e : (⟨txt ps[i].f0, txt ps[i].f1⟩ : S39) = txtP ps[i] := rfl
    rw [e, ih]
    simp
theorem cut_eq (ps : List S39) (ks : List ByteArray) (kd : List Int) (k : Nat) (hk : 1000 < k) : bazaarlaw06_cut.f k ps ks kd = some (cutP ps, cutK ks, cutD kd) := by
  unfold bazaarlaw06_cut.f
  have := cut_l0 ps ks kd (min ps.length 260) k 0 [] (by simp) (by omega) (by omega)
  rw [List.nil_append, List.drop_zero] at this
  exact this
theorem shown_eq : bazaarlaw06_shown.f = some true := by decide +kernel
end Go.Proofs.Ytejempihaknplaa.G
