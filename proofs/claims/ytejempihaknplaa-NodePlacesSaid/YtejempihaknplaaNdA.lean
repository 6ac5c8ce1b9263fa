/- What the printed functions of package node answer, as plain lists: keys, isLeaf, Right, BinarySearch, Place. Condition: at most 100000 elements in each list. -/
import Derived.Test.YtejempihaknplaaNdS
import Derived.Test.YtejempihaknplaaGf44
import Derived.Test.YtejempihaknplaaGf38
import Derived.Test.YtejempihaknplaaGf14
import Derived.Test.YtejempihaknplaaGf18
namespace Go.Proofs.Ytejempihaknplaa.G
open Go.RowKit Go.Proofs.YtejempihaknplaaW.PrintWords

/-! ### keys -/
theorem keys_l0 (ps : List S39) (hl : ps.length ≤ 1000000) : ∀ (d k i : Nat) (acc : List ByteArray), acc.length ≤ 1000000 + i → i + d = ps.length → d < k → node_keys.l0 k acc ps (ps.length : Int) (i : Int) = some (acc ++ (ps.drop i).map (·.f0))
  | 0, k, i, acc, ha, h, hk => by
    obtain ⟨k, rfl⟩ : ∃ m, k = m + 1 := ⟨k - 1, by omega⟩
    simp only [node_keys.l0]
    rw [if_neg (by omega), List.drop_of_length_le (by omega)]
    simp
  | d + 1, k, i, acc, ha, h, hk => by
    obtain ⟨k, rfl⟩ : ∃ m, k = m + 1 := ⟨k - 1, by omega⟩
    have hi : i < ps.length := by omega
    have ih := keys_l0 ps hl d k (i + 1) (acc ++ [ps[i].f0]) (by simp; omega) (by omega) (by omega)
    simp only [node_keys.l0]
    rw [if_pos (by omega), if_pos (by omega), if_pos (by omega), if_pos (by omega), rdT_nat ps i hi, w_add i (by omega), ih, List.drop_eq_getElem_cons hi, List.map_cons, List.append_assoc]
    rfl
theorem keys_eq (ps : List S39) (ks : List ByteArray) (kd : List Int) (h : smallB ps ks kd = true) (k : Nat) (hk : ps.length < k) : node_keys.f k ps ks kd = some (ks ++ ps.map (·.f0)) := by
  simp only [smallB, Bool.and_eq_true, decide_eq_true_eq] at h
  unfold node_keys.f slices_Clone_string_string.f
  rw [if_pos (by omega), Option.bind_some]
  have := keys_l0 ps (by omega) ps.length k 0 ks (by omega) (by omega) hk
  simpa using this

/-! ### isLeaf, Right -/
theorem isLeaf_l0 (ps : List S39) (ks : List ByteArray) (kd : List Int) (h : smallB ps ks kd = true) : ∀ (d k i : Nat), i + d = ps.length → d + 300002 < k →
    node_isLeaf.l0 k ps (ps.length : Int) (i : Int) ps ks kd = some ((ps.drop i).all (fun p => decide (p.f1.size ≤ 60)) && ((ks ++ ps.map (·.f0)).all kOk && risesB (ks ++ ps.map (·.f0))))
  | 0, k, i, hi, hk => by
    obtain ⟨k, rfl⟩ : ∃ m, k = m + 1 := ⟨k - 1, by omega⟩
    have hs := h
    simp only [smallB, Bool.and_eq_true, decide_eq_true_eq] at hs
    simp only [node_isLeaf.l0]
    rw [if_neg (by omega), keys_eq ps ks kd h k (by omega), Option.bind_some, isSize_eq _ _ _ (by simp; omega) k (by simp; omega), Option.bind_some, rise_eq _ (by simp; omega) k (by simp; omega), Option.bind_some, List.drop_of_length_le (by omega),
      show inB 1 24 = kOk from funext inB_key]
    cases (ks ++ ps.map (·.f0)).all kOk <;> simp
  | d + 1, k, i, hi, hk => by
    obtain ⟨k, rfl⟩ : ∃ m, k = m + 1 := ⟨k - 1, by omega⟩
    have ih := isLeaf_l0 ps ks kd h d k (i + 1) (by omega) (by omega)
    have hs := h
    simp only [smallB, Bool.and_eq_true, decide_eq_true_eq] at hs
    have hlt : i < ps.length := by omega
    simp only [node_isLeaf.l0]
    rw [if_pos (by omega), if_pos (by omega), if_pos (by omega), isSize_eq _ _ _ (by simp) k (by simp; omega), Option.bind_some, rdT_nat ps i hlt, w_add i (by omega), ih, List.drop_eq_getElem_cons hlt, List.all_cons, List.all_cons, List.all_nil, inB_value]
    cases decide (ps[i].f1.size ≤ 60) <;> simp
theorem isLeaf_eq (ps : List S39) (ks : List ByteArray) (kd : List Int) (h : smallB ps ks kd = true) (k : Nat) (hk : 400010 < k) : node_isLeaf.f k ps ks kd = some (leafB ps ks kd) := by
  have hs := h
  simp only [smallB, Bool.and_eq_true, decide_eq_true_eq] at hs
  obtain ⟨k, rfl⟩ : ∃ m, k = m + 1 := ⟨k - 1, by omega⟩
  have hw : wrap64 ((ks.length : Int) + (kd.length : Int)) = ((ks.length + kd.length : Nat) : Int) := by unfold wrap64; omega
  unfold node_isLeaf.f leafB
  rw [hw]
  by_cases h0 : ks.length + kd.length > 0
  · rw [if_pos (by omega)]
    simp only [node_isLeaf.j0, if_true]
    have : (ks.isEmpty && kd.isEmpty) = false := by
      cases ks with
      | nil => cases kd with
        | nil => simp at h0
        | cons _ _ => rfl
      | cons _ _ => rfl
    rw [this]
    simp
  · rw [if_neg (by omega)]
    obtain rfl : ks = [] := List.eq_nil_of_length_eq_zero (by omega)
    obtain rfl : kd = [] := List.eq_nil_of_length_eq_zero (by omega)
    simp only [node_isLeaf.j0]
    by_cases h1 : ps.length ≤ 255
    · rw [if_neg (by simp; omega)]
      have := isLeaf_l0 ps [] [] h ps.length k 0 (by omega) (by omega)
      rw [show ((0 : Nat) : Int) = 0 from rfl] at this
      rw [this]
      simp only [List.drop_zero, List.nil_append, List.isEmpty_nil, Bool.true_and, decide_eq_true h1]
      congr 1
      rw [Bool.eq_iff_iff]
      simp only [Bool.and_eq_true, List.all_eq_true, pOk, List.mem_map]
      constructor
      · rintro ⟨h2, h3, h4⟩
        exact ⟨fun x hx => ⟨h3 _ ⟨x, hx, rfl⟩, h2 x hx⟩, h4⟩
      · rintro ⟨h2, h3⟩
        exact ⟨fun x hx => (h2 x hx).2, fun y hy => by obtain ⟨x, hx, rfl⟩ := hy; exact (h2 x hx).1, h3⟩
    · rw [if_pos (by simp; omega)]
      simp [h1]
theorem right_eq (ps : List S39) (ks : List ByteArray) (kd : List Int) (h : smallB ps ks kd = true) (k : Nat) (hk : 400010 < k) : node_Right.f k ps ks kd = some (rightB ps ks kd) := by
  unfold node_Right.f rightB node_isBranch.f
  rw [isLeaf_eq ps ks kd h k hk, Option.bind_some, Option.bind_some]
  cases leafB ps ks kd <;> simp

/-! ### BinarySearch, Place -/
theorem isNaN_no (s : ByteArray) : slices_isNaN_string.f s = some false := by simp [slices_isNaN_string.f]
theorem less_eq (a b : ByteArray) : cmp_Less_string.f a b = some (blt a b) := by simp [cmp_Less_string.f, cmp_isNaN_string.f, blt]
theorem search_l0 (l : List ByteArray) (t : ByteArray) (hl : l.length ≤ 1000000) (hr : Rising l) : ∀ (d k i j : Nat), j - i ≤ d → i ≤ j → j ≤ l.length → (∀ q (hq : q < l.length), q < i → blt l[q] t = true) → (∀ q (hq : q < l.length), j ≤ q → blt l[q] t = false) → d < k →
    slices_BinarySearch_string_string.l0 k l t (l.length : Int) (i : Int) (j : Int) = some ((placeP l t : Int), decide (l[placeP l t]? = some t))
  | 0, k, i, j, h, hij, hj, h1, h2, hk => by
    obtain ⟨k, rfl⟩ : ∃ m, k = m + 1 := ⟨k - 1, by omega⟩
    obtain rfl : i = j := by omega
    have hp := placeP_unique hr t i (by omega) h1 h2
    subst hp
    simp only [slices_BinarySearch_string_string.l0]
    rw [if_neg (by omega)]
    by_cases hlt : placeP l t < l.length
    · rw [if_pos (by omega), if_pos (by omega), if_pos (by omega), rdOf_nat l _ hlt, List.getElem?_eq_getElem hlt]
      by_cases he : l[placeP l t].toList = t.toList
      · rw [if_pos he]
        simp [ba_eq he]
      · rw [if_neg he, isNaN_no, Option.bind_some, if_neg (by simp)]
        have : l[placeP l t] ≠ t := fun e => he (by rw [e])
        simp [this]
    · rw [if_neg (by omega), List.getElem?_eq_none (by omega)]
      simp
  | d + 1, k, i, j, h, hij, hj, h1, h2, hk => by
    obtain ⟨k, rfl⟩ : ∃ m, k = m + 1 := ⟨k - 1, by omega⟩
    by_cases hlt : i < j
    · have hm1 : (i + j) / 2 < l.length := by omega
      simp only [slices_BinarySearch_string_string.l0]
      rw [if_pos (by omega), w_half i j (by omega) (by omega), if_pos (by omega), if_pos (by omega), rdOf_nat l _ hm1, less_eq, Option.bind_some, w_add _ (by omega)]
      have hs := rising_split hr t
      cases hb : blt l[(i + j) / 2] t with
      | true =>
        rw [if_pos rfl]
        refine search_l0 l t hl hr d k _ _ (by omega) (by omega) hj (fun q hq hqi => ?_) h2 (by omega)
        refine hs.1 q hq ?_
        rcases Nat.lt_or_ge q (placeP l t) with h | h
        · exact h
        · have := hs.2 ((i + j) / 2) hm1 (by omega)
          rw [hb] at this
          cases this
      | false =>
        rw [if_neg (by simp)]
        refine search_l0 l t hl hr d k _ _ (by omega) (by omega) (by omega) h1 (fun q hq hqi => ?_) (by omega)
        refine hs.2 q hq ?_
        rcases Nat.lt_or_ge q (placeP l t) with h | h
        · have := hs.1 ((i + j) / 2) hm1 (by omega)
          rw [hb] at this
          cases this
        · exact h
    · exact search_l0 l t hl hr 0 (k + 1) i j (by omega) hij hj h1 h2 (by omega)
theorem search_eq (l : List ByteArray) (t : ByteArray) (hl : l.length ≤ 1000000) (hr : Rising l) (k : Nat) (hk : l.length < k) :
    slices_BinarySearch_string_string.f k l t = some ((placeP l t : Int), decide (l[placeP l t]? = some t)) := by
  unfold slices_BinarySearch_string_string.f
  have := search_l0 l t hl hr l.length k 0 l.length (by omega) (by omega) (by omega) (fun q hq h => by omega) (fun q hq h => by omega) hk
  exact this
/-- A key's place in a node. -/
def placeN (ps : List S39) (ks : List ByteArray) (kd : List Int) (t : ByteArray) : Nat :=
  if rightB ps ks kd = true then placeP (ks ++ ps.map (·.f0)) t + (if decide ((ks ++ ps.map (·.f0))[placeP (ks ++ ps.map (·.f0)) t]? = some t) && decide (0 < kd.length) then 1 else 0) else 0
theorem right_rising {ps : List S39} {ks : List ByteArray} {kd : List Int} (h : rightB ps ks kd = true) : Rising (ks ++ ps.map (·.f0)) := by
  simp only [rightB, leafB, branchB, Bool.or_eq_true, Bool.and_eq_true, List.isEmpty_iff] at h
  rcases h with ⟨⟨⟨⟨rfl, _⟩, _⟩, _⟩, h⟩ | ⟨⟨⟨⟨⟨⟨rfl, _⟩, _⟩, _⟩, _⟩, _⟩, h⟩
  · exact (rises_iff _).1 h
  · rw [List.map_nil, List.append_nil]; exact (rises_iff _).1 h
theorem place_eq (ps : List S39) (ks : List ByteArray) (kd : List Int) (t : ByteArray) (h : smallB ps ks kd = true) (k : Nat) (hk : 400010 < k) : node_Place.f k ps ks kd t = some (placeN ps ks kd t : Int) := by
  have hs := h
  simp only [smallB, Bool.and_eq_true, decide_eq_true_eq] at hs
  unfold node_Place.f placeN
  rw [right_eq ps ks kd h k hk, Option.bind_some]
  cases hr : rightB ps ks kd with
  | false => simp
  | true =>
    have hp := placeP_le (ks ++ ps.map (·.f0)) t
    rw [if_pos rfl, if_pos rfl, keys_eq ps ks kd h k (by omega), Option.bind_some, search_eq _ t (by simp; omega) (right_rising hr) k (by simp; omega), Option.bind_some]
    simp only [List.length_append, List.length_map] at hp
    cases hd : decide ((ks ++ ps.map (·.f0))[placeP (ks ++ ps.map (·.f0)) t]? = some t) with
    | false => simp
    | true =>
      by_cases hk0 : 0 < kd.length
      · rw [if_pos rfl, if_pos (by omega), w_add _ (by omega)]
        simp [hk0]
      · rw [if_pos rfl, if_neg (by omega)]
        simp [hk0]
end Go.Proofs.Ytejempihaknplaa.G
