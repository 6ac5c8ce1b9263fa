/- Texts in their order, rising lists of them, and where a text stands in one: plain lists, no program. No condition. -/
import Derived.Test.YtejempihaknplaaNdM
namespace Go.Proofs.Ytejempihaknplaa.G
open Go.RowKit

/-! ### the order of texts -/
theorem less_irr : ∀ a : List UInt8, Op.bytesLess a a = false
  | [] => rfl
  | a :: x => by
    unfold Op.bytesLess
    rw [less_irr x]
    simp
theorem less_trans : ∀ {a b c : List UInt8}, Op.bytesLess a b = true → Op.bytesLess b c = true → Op.bytesLess a c = true
  | a, b, [], _, h2 => by cases b <;> simp [Op.bytesLess] at h2
  | a, [], c :: z, h1, _ => by cases a <;> simp [Op.bytesLess] at h1
  | [], b :: y, c :: z, _, _ => by simp [Op.bytesLess]
  | a :: x, b :: y, c :: z, h1, h2 => by
    simp only [Op.bytesLess, Bool.or_eq_true, Bool.and_eq_true, decide_eq_true_eq, beq_iff_eq] at h1 h2 ⊢
    rcases h1 with h1 | ⟨rfl, h1⟩
    · rcases h2 with h2 | ⟨rfl, h2⟩
      · exact .inl (UInt8.lt_trans h1 h2)
      · exact .inl h1
    · rcases h2 with h2 | ⟨rfl, h2⟩
      · exact .inl h2
      · exact .inr ⟨rfl, less_trans h1 h2⟩
theorem less_total : ∀ {a b : List UInt8}, Op.bytesLess a b = false → Op.bytesLess b a = false → a = b
  | [], [], _, _ => rfl
  | [], b :: y, h1, _ => by simp [Op.bytesLess] at h1
  | a :: x, [], _, h2 => by simp [Op.bytesLess] at h2
  | a :: x, b :: y, h1, h2 => by
    simp only [Op.bytesLess, Bool.or_eq_false_iff, Bool.and_eq_false_iff, decide_eq_false_iff_not, beq_eq_false_iff_ne] at h1 h2
    have hab : a = b := by
      have h3 := h1.1
      have h4 := h2.1
      rw [UInt8.lt_iff_toNat_lt] at h3 h4
      exact UInt8.toNat_inj.1 (by omega)
    subst hab
    rw [less_total (h1.2.resolve_left (by simp)) (h2.2.resolve_left (by simp))]
theorem ba_eq {a b : ByteArray} (h : a.toList = b.toList) : a = b := by
  rw [ByteArray.toList_eq, ByteArray.toList_eq] at h
  cases a; cases b
  simp only [ByteArray.mk.injEq]
  exact Array.toList_inj.1 h
theorem blt_irr (a : ByteArray) : blt a a = false := less_irr _
theorem blt_trans {a b c : ByteArray} (h1 : blt a b = true) (h2 : blt b c = true) : blt a c = true := less_trans h1 h2
theorem blt_total {a b : ByteArray} (h1 : blt a b = false) (h2 : blt b a = false) : a = b := ba_eq (less_total h1 h2)
theorem blt_asymm {a b : ByteArray} (h1 : blt a b = true) : blt b a = false := by
  rw [Bool.eq_false_iff]
  intro h2
  have := blt_trans h1 h2
  rw [blt_irr] at this
  cases this
theorem blt_le {a b c : ByteArray} (h1 : blt b a = false) (h2 : blt b c = true) : blt a c = true := by
  cases h : blt a b with
  | true => exact blt_trans h h2
  | false => rw [blt_total h h1]; exact h2

/-! ### rising lists -/
def Rising (l : List ByteArray) : Prop := l.Pairwise fun a b => blt a b = true
theorem rises_iff : ∀ l : List ByteArray, risesB l = true ↔ Rising l
  | [] => by simp [risesB, Rising]
  | [a] => by simp [risesB, Rising]
  | a :: b :: r => by
    have ih := rises_iff (b :: r)
    unfold Rising at ih ⊢
    simp only [risesB, Bool.and_eq_true, ih]
    constructor
    · rintro ⟨h1, h2⟩
      refine List.pairwise_cons.2 ⟨fun c hc => ?_, h2⟩
      rcases List.mem_cons.1 hc with rfl | hc
      · exact h1
      · exact blt_trans h1 ((List.pairwise_cons.1 h2).1 c hc)
    · intro h
      exact ⟨(List.pairwise_cons.1 h).1 b (List.mem_cons_self), (List.pairwise_cons.1 h).2⟩

/-- What is less than a text comes first in a rising list. -/
theorem rising_split {l : List ByteArray} (h : Rising l) (t : ByteArray) : (∀ i (hi : i < l.length), i < placeP l t → blt l[i] t = true) ∧ (∀ i (hi : i < l.length), placeP l t ≤ i → blt l[i] t = false) := by
  unfold placeP
  induction l with
  | nil => exact ⟨fun i hi => by simp at hi, fun i hi => by simp at hi⟩
  | cons a r ih =>
    have ha := List.pairwise_cons.1 h
    obtain ⟨h1, h2⟩ := ih ha.2
    rw [List.takeWhile_cons]
    cases hb : blt a t with
    | true =>
      simp only [if_true, List.length_cons]
      refine ⟨fun i hi hlt => ?_, fun i hi hge => ?_⟩
      · cases i with
        | zero => exact hb
        | succ i => exact h1 i (by simpa using hi) (by omega)
      · cases i with
        | zero => omega
        | succ i => exact h2 i (by simpa using hi) (by omega)
    | false =>
      simp only [Bool.false_eq_true, if_false, List.length_nil]
      refine ⟨fun i hi hlt => by omega, fun i hi _ => ?_⟩
      cases i with
      | zero => exact hb
      | succ i =>
        have hai := ha.1 (r[i]'(by simpa using hi)) (List.getElem_mem _)
        rw [Bool.eq_false_iff]
        intro hc
        have := blt_trans hai hc
        rw [hb] at this
        cases this
theorem placeP_le (l : List ByteArray) (t : ByteArray) : placeP l t ≤ l.length := (List.takeWhile_sublist _).length_le
theorem placeP_unique {l : List ByteArray} (h : Rising l) (t : ByteArray) (n : Nat) (hn : n ≤ l.length) (h1 : ∀ i (hi : i < l.length), i < n → blt l[i] t = true) (h2 : ∀ i (hi : i < l.length), n ≤ i → blt l[i] t = false) : n = placeP l t := by
  have hs := rising_split h t
  have hp := placeP_le l t
  rcases Nat.lt_trichotomy n (placeP l t) with hlt | he | hgt
  · have a1 := hs.1 n (by omega) hlt
    rw [h2 n (by omega) (Nat.le_refl _)] at a1
    cases a1
  · exact he
  · have a1 := hs.2 (placeP l t) (by omega) (Nat.le_refl _)
    rw [h1 (placeP l t) (by omega) hgt] at a1
    cases a1
end Go.Proofs.Ytejempihaknplaa.G
