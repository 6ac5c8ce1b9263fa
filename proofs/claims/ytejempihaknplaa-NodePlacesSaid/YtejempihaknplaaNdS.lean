/- isSize and rise of package node, as plain lists. Condition: at most a million elements. -/
import Derived.Test.YtejempihaknplaaNdL
import Derived.Test.YtejempihaknplaaGA
import Derived.Test.YtejempihaknplaaGR
namespace Go.Proofs.Ytejempihaknplaa.G
open Go.RowKit Go.Proofs.YtejempihaknplaaW.PrintWords

theorem w_add (i : Nat) (h : i ≤ 1000000) : wrap64 ((i : Int) + 1) = ((i + 1 : Nat) : Int) := by unfold wrap64; omega
theorem w_sub (i : Nat) (h : i ≤ 1000000) (h0 : 1 ≤ i) : wrap64 ((i : Int) - 1) = ((i - 1 : Nat) : Int) := by unfold wrap64; omega
theorem w_half (i j : Nat) (h : i ≤ 1000000) (h2 : j ≤ 1000000) : wrap64 ((IntKind.u64.wrap (wrap64 ((i : Int) + (j : Int)))) / 2) = (((i + j) / 2 : Nat) : Int) := by
  have h1 : wrap64 ((i : Int) + (j : Int)) = ((i + j : Nat) : Int) := by unfold wrap64; omega
  have h3 : IntKind.u64.wrap ((i + j : Nat) : Int) = ((i + j : Nat) : Int) := IntWalk.u64_in _ (by omega)
  rw [h1, h3]
  unfold wrap64
  omega
theorem rdOf_nat (l : List ByteArray) (i : Nat) (h : i < l.length) : rdOf ByteArray.empty l (i : Int) = l[i] := by
  unfold rdOf
  rw [Int.toNat_natCast, List.getD_eq_getElem?_getD, List.getElem?_eq_getElem h]
  rfl
theorem rdT_nat (l : List S39) (i : Nat) (h : i < l.length) : rd_T39 l (i : Int) = l[i] := by
  unfold rd_T39
  rw [Int.toNat_natCast, List.getD_eq_getElem?_getD, List.getElem?_eq_getElem h]
  rfl

/-! ### isSize -/
def inB (a b : Int) (s : ByteArray) : Bool := decide (a ≤ (s.size : Int)) && decide ((s.size : Int) ≤ b)
theorem isSize_l0 (a b : Int) (l : List ByteArray) (hl : l.length ≤ 1000000) : ∀ (d k i : Nat), i + d = l.length → d < k → node_isSize.l0 k a b l (l.length : Int) (i : Int) = some ((l.drop i).all (inB a b))
  | 0, k, i, h, hk => by
    obtain ⟨k, rfl⟩ : ∃ m, k = m + 1 := ⟨k - 1, by omega⟩
    simp only [node_isSize.l0]
    rw [if_neg (by omega), List.drop_of_length_le (by omega)]
    rfl
  | d + 1, k, i, h, hk => by
    obtain ⟨k, rfl⟩ : ∃ m, k = m + 1 := ⟨k - 1, by omega⟩
    have ih := isSize_l0 a b l hl d k (i + 1) (by omega) (by omega)
    have hi : i < l.length := by omega
    simp only [node_isSize.l0]
    rw [if_pos (by omega), if_pos (by omega), if_pos (by omega), rdOf_nat l i hi, w_add i (by omega), ih, List.drop_eq_getElem_cons hi, List.all_cons]
    by_cases h1 : (l[i].size : Int) < a
    · rw [if_pos h1]
      simp [inB, show ¬ a ≤ (l[i].size : Int) by omega]
    · rw [if_neg h1]
      by_cases h2 : (l[i].size : Int) > b
      · rw [if_pos h2]
        simp [inB, show ¬ (l[i].size : Int) ≤ b by omega]
      · rw [if_neg h2]
        simp [inB, show a ≤ (l[i].size : Int) by omega, show (l[i].size : Int) ≤ b by omega]
theorem isSize_eq (a b : Int) (l : List ByteArray) (hl : l.length ≤ 1000000) (k : Nat) (hk : l.length < k) : node_isSize.f k a b l = some (l.all (inB a b)) := by
  unfold node_isSize.f
  have := isSize_l0 a b l hl l.length k 0 (by omega) hk
  rw [List.drop_zero] at this
  exact this
theorem inB_key (s : ByteArray) : inB 1 24 s = kOk s := by
  unfold inB kOk
  rw [Bool.eq_iff_iff]
  simp
  omega
theorem inB_value (s : ByteArray) : inB 0 60 s = decide (s.size ≤ 60) := by
  unfold inB
  rw [Bool.eq_iff_iff]
  simp
  omega

/-! ### rise -/
theorem rises_step (a : ByteArray) (l : List ByteArray) : ∀ x, l.head? = some x → risesB (a :: l) = (blt a x && risesB l) := by
  intro x hx
  cases l with
  | nil => cases hx
  | cons y r => cases hx; rfl
theorem rise_l0 (l : List ByteArray) (hl : l.length ≤ 1000000) : ∀ (d k i : Nat), 1 ≤ i → i + d = l.length → d < k → node_rise.l0 k l (i : Int) = some (risesB (l.drop (i - 1)))
  | 0, k, i, h1, h, hk => by
    obtain ⟨k, rfl⟩ : ∃ m, k = m + 1 := ⟨k - 1, by omega⟩
    simp only [node_rise.l0]
    rw [if_neg (by omega), List.drop_eq_getElem_cons (by omega : i - 1 < l.length), List.drop_of_length_le (by omega)]
    rfl
  | d + 1, k, i, h1, h, hk => by
    obtain ⟨k, rfl⟩ : ∃ m, k = m + 1 := ⟨k - 1, by omega⟩
    have ih := rise_l0 l hl d k (i + 1) (by omega) (by omega) (by omega)
    have hi : i < l.length := by omega
    have hi2 : i - 1 < l.length := by omega
    simp only [node_rise.l0]
    rw [if_pos (by omega), w_sub i (by omega) h1, if_pos (by omega), if_pos (by omega), if_pos (by omega), rdOf_nat l i hi, rdOf_nat l (i - 1) hi2, w_add i (by omega), ih, List.drop_eq_getElem_cons hi2,
      rises_step _ _ l[i] (by rw [List.head?_drop]; rw [show i - 1 + 1 = i by omega]; exact List.getElem?_eq_getElem hi)]
    rw [show i + 1 - 1 = i - 1 + 1 by omega]
    change (if blt l[i - 1] l[i] = true then _ else _) = _
    cases hb : blt l[i - 1] l[i] <;> simp
theorem rise_eq (l : List ByteArray) (hl : l.length ≤ 1000000) (k : Nat) (hk : l.length < k) : node_rise.f k l = some (risesB l) := by
  unfold node_rise.f
  cases l with
  | nil =>
    obtain ⟨k, rfl⟩ : ∃ m, k = m + 1 := ⟨k - 1, by omega⟩
    simp [node_rise.l0, risesB]
  | cons a r =>
    have := rise_l0 (a :: r) hl r.length k 1 (by omega) (by simp; omega) (by simp at hk; omega)
    simpa using this

end Go.Proofs.Ytejempihaknplaa.G
