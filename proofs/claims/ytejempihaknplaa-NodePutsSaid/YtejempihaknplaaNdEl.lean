/- What the reference's Right and Place answer of a leaf, as plain lists. -/
import Derived.Test.YtejempihaknplaaNdE
import Derived.Test.YtejempihaknplaaGCl
namespace Go.Proofs.Ytejempihaknplaa.G
open Go.RowKit Go.Proofs.YtejempihaknplaaW.PrintWords Go.Proofs.YtejempihaknplaaW.PrintMore

theorem refRight_eq {ps : List S39} {ks : List ByteArray} {kd : List Int} (h : Cut ps ks kd) (hl : leafB ps ks kd = true) (k : Nat) (hk : 400010 < k) : bazaarref06_Right.f k ps ks kd = some (rightB ps ks kd) := by
  unfold bazaarref06_Right.f rightB
  rw [refLeaf_eq h k hk, Option.bind_some, hl]
  rfl
theorem refPlace_l1 (t : ByteArray) (ps : List S39) (ks : List ByteArray) (kd : List Int) (ht : t.size ≤ 70) (hl : ks.length ≤ 100000) (hp : ∀ s ∈ ks, s.size ≤ 70) : ∀ (d k i n : Nat), n ≤ 200000 + i → i + d = ks.length → d + 3000 < k →
    bazaarref06_Place.l1 k t (n : Int) (i : Int) ps ks kd = some ((n + ((ks.drop i).filter fun x => !blt t x).length : Nat) : Int)
  | 0, k, i, n, hn, hi, hk => by
    obtain ⟨k, rfl⟩ : ∃ m, k = m + 1 := ⟨k - 1, by omega⟩
    simp only [bazaarref06_Place.l1]
    rw [if_neg (by omega), List.drop_of_length_le (by omega)]
    rfl
  | d + 1, k, i, n, hn, hi, hk => by
    obtain ⟨k, rfl⟩ : ∃ m, k = m + 1 := ⟨k - 1, by omega⟩
    have hlt : i < ks.length := by omega
    have h0 := hp _ (List.getElem_mem hlt)
    simp only [bazaarref06_Place.l1]
    rw [if_pos (by omega), if_pos (by omega), rdOf_nat ks i hlt, refLess_eq _ _ (by omega) (by omega) k (by omega), Option.bind_some, w_add i (by omega), w_add n (by omega),
      refPlace_l1 t ps ks kd ht hl hp d k (i + 1) n (by omega) (by omega) (by omega), refPlace_l1 t ps ks kd ht hl hp d k (i + 1) (n + 1) (by omega) (by omega) (by omega), List.drop_eq_getElem_cons hlt, List.filter_cons]
    cases blt t ks[i] with
    | true => simp
    | false =>
      simp
      omega
theorem refPlace_l0 (t : ByteArray) (ps : List S39) (ks : List ByteArray) (kd : List Int) (ht : t.size ≤ 70) (hpl : ps.length ≤ 100000) (hl : ks.length ≤ 100000) (hpp : ∀ p ∈ ps, p.f0.size ≤ 70 ∧ p.f1.size ≤ 70) (hp : ∀ s ∈ ks, s.size ≤ 70) : ∀ (d k i n : Nat), n ≤ i → i + d = ps.length → d + 103020 < k →
    bazaarref06_Place.l0 k t (n : Int) (i : Int) ps ks kd = some ((n + ((ps.drop i).filter fun x => blt x.f0 t).length + (ks.filter fun x => !blt t x).length : Nat) : Int)
  | 0, k, i, n, hn, hi, hk => by
    obtain ⟨k, rfl⟩ : ∃ m, k = m + 1 := ⟨k - 1, by omega⟩
    have h1 := refPlace_l1 t ps ks kd ht hl hp ks.length k 0 n (by omega) (by omega) (by omega)
    simp only [bazaarref06_Place.l0]
    rw [if_neg (by omega), List.drop_of_length_le (by omega : ps.length ≤ i)]
    rw [show ((0 : Nat) : Int) = 0 from rfl] at h1
    rw [h1]
    rfl
  | d + 1, k, i, n, hn, hi, hk => by
    obtain ⟨k, rfl⟩ : ∃ m, k = m + 1 := ⟨k - 1, by omega⟩
    have hlt : i < ps.length := by omega
    have h0 := hpp _ (List.getElem_mem hlt)
    simp only [bazaarref06_Place.l0]
    rw [if_pos (by omega), if_pos (by omega), rdT_nat ps i hlt, refLess_eq _ _ (by omega) (by omega) k (by omega), Option.bind_some, w_add i (by omega), w_add n (by omega),
      refPlace_l0 t ps ks kd ht hpl hl hpp hp d k (i + 1) n (by omega) (by omega) (by omega), refPlace_l0 t ps ks kd ht hpl hl hpp hp d k (i + 1) (n + 1) (by omega) (by omega) (by omega), List.drop_eq_getElem_cons hlt, List.filter_cons]
    cases blt ps[i].f0 t with
    | false => simp
    | true =>
      simp
      omega
theorem refPlace_eq {ps : List S39} {ks : List ByteArray} {kd : List Int} (h : Cut ps ks kd) (hl : leafB ps ks kd = true) (t : ByteArray) (ht : t.size ≤ 70) (k : Nat) (hk : 400010 < k) : bazaarref06_Place.f k ps ks kd t = some (placeN ps ks kd t : Int) := by
  have hc := h
  obtain ⟨hs, hp, hkk⟩ := h
  simp only [smallB, Bool.and_eq_true, decide_eq_true_eq] at hs
  unfold bazaarref06_Place.f placeN
  rw [refRight_eq hc hl k hk, Option.bind_some]
  cases hr : rightB ps ks kd with
  | false => rfl
  | true =>
    have h1 := refPlace_l0 t ps ks kd ht (by omega) (by omega) hp hkk ps.length k 0 0 (by omega) (by omega) (by omega)
    rw [show ((0 : Nat) : Int) = 0 from rfl, List.drop_zero] at h1
    simp only [if_true]
    rw [h1]
    have hri := right_rising hr
    congr 2
    have hor : (ks = [] ∧ kd = []) ∨ (ps = [] ∧ 0 < kd.length) := by
      simp only [rightB, leafB, branchB, Bool.or_eq_true, Bool.and_eq_true, List.isEmpty_iff, decide_eq_true_eq] at hr
      rcases hr with h | h
      · exact .inl ⟨h.1.1.1.1, h.1.1.1.2⟩
      · exact .inr ⟨h.1.1.1.1.1.1, h.1.1.1.1.1.2⟩
    rcases hor with ⟨rfl, rfl⟩ | ⟨rfl, hkd⟩
    · rw [List.nil_append] at hri ⊢
      rw [← filter_lt hri, List.filter_map, List.length_map]
      simp
      rfl
    · rw [List.map_nil, List.append_nil] at hri ⊢
      rw [filter_le hri, decide_eq_true hkd]
      simp
end Go.Proofs.Ytejempihaknplaa.G
