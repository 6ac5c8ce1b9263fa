/- The reference's order of texts is the program's. Condition: at most 70 bytes each (or what bounds the rounds). -/
import Derived.Test.YtejempihaknplaaNdC
import Derived.Test.YtejempihaknplaaGB
namespace Go.Proofs.Ytejempihaknplaa.G
open Go.RowKit Go.Proofs.YtejempihaknplaaW.PrintWords Go.Proofs.YtejempihaknplaaW.PrintMore

theorem bt_nat (s : ByteArray) (i : Nat) (h : i < s.size) : bt s (i : Int) = ((s.data.toList[i]'(by rw [Array.length_toList]; exact h)).toNat : Int) := by
  unfold bt
  rw [dif_pos (by rw [Int.toNat_natCast]; exact h)]
  simp only [Int.toNat_natCast, Array.getElem_toList]
  rfl
theorem less_l0 (a b : ByteArray) (ha : a.size ≤ 1000) (hb : b.size ≤ 1000) : ∀ (d k i : Nat), i + d = min a.size b.size → 2 * d + 2 < k → bazaarref06_Less.l0 k a b (i : Int) = some (Op.bytesLess (a.data.toList.drop i) (b.data.toList.drop i))
  | 0, k, i, h, hk => by
    obtain ⟨k, rfl⟩ : ∃ m, k = m + 1 + 1 := ⟨k - 2, by omega⟩
    have la : a.data.toList.length = a.size := Array.length_toList
    have lb : b.data.toList.length = b.size := Array.length_toList
    have hend : Op.bytesLess (a.data.toList.drop i) (b.data.toList.drop i) = decide ((a.size : Int) < (b.size : Int)) := by
      rcases Nat.lt_or_ge i b.size with hlt | hge
      · have hi : i = a.size := by omega
        rw [List.drop_of_length_le (by omega), List.drop_eq_getElem_cons (by omega)]
        simp [Op.bytesLess]
        omega
      · rw [show b.data.toList.drop i = [] from List.drop_of_length_le (by omega)]
        unfold Op.bytesLess
        simp
        omega
    rw [hend]
    simp only [bazaarref06_Less.l0]
    by_cases hi : (i : Int) < (a.size : Int)
    · rw [if_pos hi, decide_eq_false (by omega)]
      simp only [bazaarref06_Less.j1]
      rw [if_neg (by simp)]
    · rw [if_neg hi]
      simp only [bazaarref06_Less.j1]
      rw [if_neg (by simp)]
  | d + 1, k, i, h, hk => by
    obtain ⟨k, rfl⟩ : ∃ m, k = m + 1 + 1 := ⟨k - 2, by omega⟩
    have la : a.data.toList.length = a.size := Array.length_toList
    have lb : b.data.toList.length = b.size := Array.length_toList
    have hia : i < a.size := by omega
    have hib : i < b.size := by omega
    have ih := less_l0 a b ha hb d k (i + 1) (by omega) (by omega)
    rw [List.drop_eq_getElem_cons (by omega : i < a.data.toList.length), List.drop_eq_getElem_cons (by omega : i < b.data.toList.length)]
    simp only [bazaarref06_Less.l0]
    rw [if_pos (by omega), decide_eq_true (by omega)]
    simp only [bazaarref06_Less.j1]
    rw [if_pos trivial, if_pos (by omega), if_pos (by omega), if_pos (by omega), bt_nat a i hia, bt_nat b i hib, w_add i (by omega), ih]
    have eb : ∀ (x y : UInt8) (xs ys : List UInt8), Op.bytesLess (x :: xs) (y :: ys) = (decide (x < y) || (x == y && Op.bytesLess xs ys)) := fun _ _ _ _ => rfl
    rw [eb]
    generalize a.data.toList[i] = x
    generalize b.data.toList[i] = y
    by_cases hxy : (x.toNat : Int) = (y.toNat : Int)
    · have e : x = y := UInt8.toNat_inj.1 (by omega)
      subst e
      rw [if_pos hxy]
      simp
    · have e : x ≠ y := fun e => hxy (by rw [e])
      have e2 : (x == y) = false := by simp [e]
      rw [if_neg hxy, e2]
      simp [UInt8.lt_iff_toNat_lt]
theorem refLess_eq (a b : ByteArray) (ha : a.size ≤ 1000) (hb : b.size ≤ 1000) (k : Nat) (hk : 2010 < k) : bazaarref06_Less.f k a b = some (blt a b) := by
  unfold bazaarref06_Less.f blt
  have := less_l0 a b ha hb (min a.size b.size) k 0 (by omega) (by omega)
  rw [List.drop_zero, List.drop_zero] at this
  rw [ByteArray.toList_eq, ByteArray.toList_eq]
  exact this
theorem cutP_key (ps : List S39) : ∀ p ∈ cutP ps, p.f0.size ≤ 70 ∧ p.f1.size ≤ 70 := by
  intro p hp
  simp only [cutP, List.mem_map] at hp
  obtain ⟨q, _, rfl⟩ := hp
  exact ⟨txt_size _, txt_size _⟩
theorem cutK_key (ks : List ByteArray) : ∀ s ∈ cutK ks, s.size ≤ 70 := by
  intro s hs
  simp only [cutK, List.mem_map] at hs
  obtain ⟨q, _, rfl⟩ := hs
  exact txt_size _
end Go.Proofs.Ytejempihaknplaa.G
