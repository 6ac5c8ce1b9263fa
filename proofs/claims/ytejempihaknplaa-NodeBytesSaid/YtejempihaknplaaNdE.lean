/- What the reference's functions answer (leaf, branch, Right, Place), as plain lists. Condition: texts of at most 70 bytes, small lists. -/
import Derived.Test.YtejempihaknplaaNdR
import Derived.Test.YtejempihaknplaaNdA
import Derived.Test.YtejempihaknplaaGC
namespace Go.Proofs.Ytejempihaknplaa.G
open Go.RowKit Go.Proofs.YtejempihaknplaaW.PrintWords Go.Proofs.YtejempihaknplaaW.PrintMore

/-- The bounds of the laws: short texts, small lists. -/
def Cut (ps : List S39) (ks : List ByteArray) (kd : List Int) : Prop :=
  smallB ps ks kd = true ∧ (∀ p ∈ ps, p.f0.size ≤ 70 ∧ p.f1.size ≤ 70) ∧ (∀ s ∈ ks, s.size ≤ 70)
theorem cut_cut (ps : List S39) (ks : List ByteArray) (kd : List Int) : Cut (cutP ps) (cutK ks) (cutD kd) := ⟨cut_small ps ks kd, cutP_key ps, cutK_key ks⟩

theorem refPair_eq (p : S39) : bazaarref06_RightPair.f p.f0 p.f1 = some (pOk p) := by
  unfold bazaarref06_RightPair.f pOk kOk
  by_cases h1 : 1 ≤ p.f0.size
  · rw [if_pos (by omega), decide_eq_true h1]
    by_cases h2 : p.f0.size ≤ 24
    · rw [if_pos (by omega), decide_eq_true h2]
      congr 1
      simp
      omega
    · rw [if_neg (by omega), decide_eq_false h2]
      rfl
  · rw [if_neg (by omega), decide_eq_false h1]
    rfl

theorem rises_drop (l : List ByteArray) (i : Nat) (h : i + 1 < l.length) : risesB (l.drop i) = (blt l[i] l[i + 1] && risesB (l.drop (i + 1))) := by
  rw [List.drop_eq_getElem_cons (by omega : i < l.length)]
  exact rises_step _ _ _ (by rw [List.head?_drop, List.getElem?_eq_getElem h])
theorem rises_end (l : List ByteArray) (i : Nat) (h : l.length ≤ i + 1) : risesB (l.drop i) = true := by
  rcases Nat.lt_or_ge i l.length with hlt | hge
  · rw [List.drop_eq_getElem_cons hlt, List.drop_of_length_le (by omega)]
    rfl
  · rw [List.drop_of_length_le hge]
    rfl
theorem leaf_l0 (ps : List S39) (ks : List ByteArray) (kd : List Int) (hl : ps.length ≤ 100000) (hp : ∀ p ∈ ps, p.f0.size ≤ 70 ∧ p.f1.size ≤ 70) : ∀ (d k i : Nat), 1 ≤ i → i + d = ps.length → d + 3000 < k →
    bazaarref06_leaf.l0 k (i : Int) ps ks kd = some ((ps.drop i).all pOk && risesB ((ps.map (·.f0)).drop (i - 1)))
  | 0, k, i, h1, hi, hk => by
    obtain ⟨k, rfl⟩ : ∃ m, k = m + 1 := ⟨k - 1, by omega⟩
    simp only [bazaarref06_leaf.l0]
    rw [if_neg (by omega), List.drop_of_length_le (by omega), rises_end _ _ (by simp; omega)]
    rfl
  | d + 1, k, i, h1, hi, hk => by
    obtain ⟨k, rfl⟩ : ∃ m, k = m + 1 := ⟨k - 1, by omega⟩
    have ih := leaf_l0 ps ks kd hl hp d k (i + 1) (by omega) (by omega) (by omega)
    have hlt : i < ps.length := by omega
    have h0 := hp _ (List.getElem_mem hlt)
    have h2 := hp _ (List.getElem_mem (show i - 1 < ps.length by omega))
    simp only [bazaarref06_leaf.l0]
    rw [if_pos (by omega), if_pos (by omega), rdT_nat ps i hlt, refPair_eq, Option.bind_some, if_pos (show (i : Int) > 0 by omega), w_sub i (by omega) h1, if_pos (show (0 : Int) ≤ ((i - 1 : Nat) : Int) by omega), if_pos (show ((i - 1 : Nat) : Int) < (ps.length : Int) by omega), rdT_nat ps (i - 1) (by omega), refLess_eq _ _ (by omega) (by omega) k (by omega), Option.bind_some, w_add i (by omega), ih,
      List.drop_eq_getElem_cons hlt, List.all_cons, rises_drop _ (i - 1) (by simp; omega)]
    simp only [List.getElem_map, show i - 1 + 1 = i by omega, show i + 1 - 1 = i by omega]
    cases pOk ps[i] <;> cases blt ps[i - 1].f0 ps[i].f0 <;> simp
theorem leaf_l00 (ps : List S39) (ks : List ByteArray) (kd : List Int) (hl : ps.length ≤ 100000) (hp : ∀ p ∈ ps, p.f0.size ≤ 70 ∧ p.f1.size ≤ 70) (k : Nat) (hk : ps.length + 3010 < k) :
    bazaarref06_leaf.l0 k 0 ps ks kd = some (ps.all pOk && risesB (ps.map (·.f0))) := by
  obtain ⟨k, rfl⟩ : ∃ m, k = m + 1 := ⟨k - 1, by omega⟩
  simp only [bazaarref06_leaf.l0]
  cases ps with
  | nil => rfl
  | cons p ps =>
    have ih := leaf_l0 (p :: ps) ks kd hl hp ps.length k 1 (by omega) (by rw [List.length_cons]; omega) (by rw [List.length_cons] at hk; omega)
    rw [if_pos (by rw [List.length_cons]; omega), if_pos (by omega), show rd_T39 (p :: ps) 0 = p from rfl, refPair_eq, Option.bind_some, if_neg (show ¬ ((0 : Int) > 0) by omega), show wrap64 (0 + 1) = ((1 : Nat) : Int) from by unfold wrap64; omega, ih, List.all_cons]
    cases pOk p <;> simp
theorem refLeaf_eq {ps : List S39} {ks : List ByteArray} {kd : List Int} (h : Cut ps ks kd) (k : Nat) (hk : 400010 < k) : bazaarref06_leaf.f k ps ks kd = some (leafB ps ks kd) := by
  obtain ⟨hs, hp, hkk⟩ := h
  simp only [smallB, Bool.and_eq_true, decide_eq_true_eq] at hs
  obtain ⟨k, rfl⟩ : ∃ m, k = m + 1 := ⟨k - 1, by omega⟩
  unfold bazaarref06_leaf.f leafB
  simp only [bazaarref06_leaf.j0]
  cases ks with
  | cons a b => rw [if_pos (by rw [List.length_cons]; omega), if_pos trivial]; rfl
  | nil =>
    cases kd with
    | cons a b => rw [if_neg (by simp), if_pos (by rw [List.length_cons]; omega), if_pos trivial]; rfl
    | nil =>
      rw [if_neg (by simp), if_neg (by simp)]
      by_cases h2 : ps.length ≤ 255
      · rw [if_neg (by simp; omega), leaf_l00 ps [] [] (by omega) hp k (by omega), decide_eq_true h2]
        rfl
      · rw [if_pos (by simp; omega), decide_eq_false h2]
        rfl
theorem refBranch_l1 (ps : List S39) (ks : List ByteArray) (kd : List Int) (hl : ks.length ≤ 100000) (hp : ∀ s ∈ ks, s.size ≤ 70) : ∀ (d k i : Nat), 1 ≤ i → i + d = ks.length → d + 3000 < k →
    bazaarref06_branch.l1 k (i : Int) ps ks kd = some ((ks.drop i).all kOk && risesB (ks.drop (i - 1)))
  | 0, k, i, h1, hi, hk => by
    obtain ⟨k, rfl⟩ : ∃ m, k = m + 1 := ⟨k - 1, by omega⟩
    simp only [bazaarref06_branch.l1]
    rw [if_neg (by omega), List.drop_of_length_le (by omega), rises_end _ _ (by omega)]
    rfl
  | d + 1, k, i, h1, hi, hk => by
    obtain ⟨k, rfl⟩ : ∃ m, k = m + 1 := ⟨k - 1, by omega⟩
    have ih := refBranch_l1 ps ks kd hl hp d k (i + 1) (by omega) (by omega) (by omega)
    have hlt : i < ks.length := by omega
    have h0 := hp _ (List.getElem_mem hlt)
    have h2 := hp _ (List.getElem_mem (show i - 1 < ks.length by omega))
    simp only [bazaarref06_branch.l1]
    rw [if_pos (by omega), if_pos (by omega), rdOf_nat ks i hlt, if_pos (show (i : Int) > 0 by omega), w_sub i (by omega) h1, if_pos (show (0 : Int) ≤ ((i - 1 : Nat) : Int) by omega), if_pos (show ((i - 1 : Nat) : Int) < (ks.length : Int) by omega), rdOf_nat ks (i - 1) (by omega), refLess_eq _ _ (by omega) (by omega) k (by omega), Option.bind_some, w_add i (by omega), ih,
      List.drop_eq_getElem_cons hlt, List.all_cons, rises_drop _ (i - 1) (by omega)]
    simp only [show i - 1 + 1 = i by omega, show i + 1 - 1 = i by omega]
    unfold kOk
    by_cases h3 : 1 ≤ ks[i].size
    · rw [if_neg (by omega)]
      by_cases h4 : ks[i].size ≤ 24
      · rw [if_neg (by omega)]
        cases blt ks[i - 1] ks[i] <;> simp [h3, h4]
      · rw [if_pos (by omega)]
        simp [h4]
    · rw [if_pos (by omega)]
      simp [h3]
theorem refBranch_l10 (ps : List S39) (ks : List ByteArray) (kd : List Int) (hl : ks.length ≤ 100000) (hp : ∀ s ∈ ks, s.size ≤ 70) (k : Nat) (hk : ks.length + 3010 < k) :
    bazaarref06_branch.l1 k 0 ps ks kd = some (ks.all kOk && risesB ks) := by
  obtain ⟨k, rfl⟩ : ∃ m, k = m + 1 := ⟨k - 1, by omega⟩
  simp only [bazaarref06_branch.l1]
  cases ks with
  | nil => rfl
  | cons s ks =>
    have ih := refBranch_l1 ps (s :: ks) kd hl hp ks.length k 1 (by omega) (by rw [List.length_cons]; omega) (by rw [List.length_cons] at hk; omega)
    rw [if_pos (by rw [List.length_cons]; omega), if_pos (by omega), show rdOf ByteArray.empty (s :: ks) 0 = s from rfl, if_neg (show ¬ ((0 : Int) > 0) by omega), show wrap64 (0 + 1) = ((1 : Nat) : Int) from by unfold wrap64; omega, ih, List.all_cons]
    show _ = some ((kOk s && _) && _)
    unfold kOk
    by_cases h3 : 1 ≤ s.size
    · rw [if_neg (by omega)]
      by_cases h4 : s.size ≤ 24
      · rw [if_neg (by omega)]
        simp [h3, h4]
      · rw [if_pos (by omega)]
        simp [h4]
    · rw [if_pos (by omega)]
      simp [h3]
theorem refBranch_l0 (ps : List S39) (ks : List ByteArray) (kd : List Int) (hl : ks.length ≤ 100000) (hd : kd.length ≤ 100000) (hp : ∀ s ∈ ks, s.size ≤ 70) : ∀ (d k i : Nat), i + d = kd.length → d + 103020 < k →
    bazaarref06_branch.l0 k (i : Int) ps ks kd = some ((kd.drop i).all kidOk && (ks.all kOk && risesB ks))
  | 0, k, i, hi, hk => by
    obtain ⟨k, rfl⟩ : ∃ m, k = m + 1 := ⟨k - 1, by omega⟩
    simp only [bazaarref06_branch.l0]
    rw [if_neg (by omega), List.drop_of_length_le (by omega), refBranch_l10 ps ks kd hl hp k (by omega)]
    simp
  | d + 1, k, i, hi, hk => by
    obtain ⟨k, rfl⟩ : ∃ m, k = m + 1 := ⟨k - 1, by omega⟩
    have ih := refBranch_l0 ps ks kd hl hd hp d k (i + 1) (by omega) (by omega)
    have hlt : i < kd.length := by omega
    simp only [bazaarref06_branch.l0]
    rw [if_pos (by omega), if_pos (by omega), rd_nat kd i hlt, w_add i (by omega), ih, List.drop_eq_getElem_cons hlt, List.all_cons]
    unfold kidOk
    by_cases h3 : 2 ≤ kd[i]
    · rw [if_neg (by omega)]
      by_cases h4 : kd[i] < 16384
      · rw [if_neg (by omega)]
        simp [h3, h4]
      · rw [if_pos (by omega)]
        simp [h4]
    · rw [if_pos (by omega)]
      simp [h3]
theorem refBranch_eq {ps : List S39} {ks : List ByteArray} {kd : List Int} (h : Cut ps ks kd) (k : Nat) (hk : 400010 < k) : bazaarref06_branch.f k ps ks kd = some (branchB ps ks kd) := by
  obtain ⟨hs, hp, hkk⟩ := h
  simp only [smallB, Bool.and_eq_true, decide_eq_true_eq] at hs
  obtain ⟨k, rfl⟩ : ∃ m, k = m + 1 := ⟨k - 1, by omega⟩
  unfold bazaarref06_branch.f branchB
  simp only [bazaarref06_branch.j0]
  cases ps with
  | cons a b => rw [if_pos (by rw [List.length_cons]; omega), if_pos trivial]; rfl
  | nil =>
    rw [if_neg (by simp)]
    by_cases h1 : 1 ≤ kd.length
    · rw [if_neg (by omega), decide_eq_true h1]
      by_cases h2 : kd.length ≤ 255
      · rw [if_neg (by omega), decide_eq_true h2]
        have hw : wrap64 ((kd.length : Int) - 1) = ((kd.length - 1 : Nat) : Int) := w_sub _ (by omega) h1
        rw [hw]
        by_cases h3 : ks.length + 1 = kd.length
        · rw [if_neg (by simp; omega), decide_eq_true h3]
          have := refBranch_l0 [] ks kd (by omega) (by omega) hkk kd.length k 0 (by omega) (by omega)
          rw [show ((0 : Nat) : Int) = 0 from rfl, List.drop_zero] at this
          rw [this]
          simp [Bool.and_assoc]
        · rw [if_pos (by simp; omega), decide_eq_false h3]
          simp
      · rw [if_pos (by omega), if_pos trivial, decide_eq_false h2]
        simp
    · rw [if_pos (by omega), if_pos trivial, decide_eq_false h1]
      simp
theorem refRight_eq {ps : List S39} {ks : List ByteArray} {kd : List Int} (h : Cut ps ks kd) (k : Nat) (hk : 400010 < k) : bazaarref06_Right.f k ps ks kd = some (rightB ps ks kd) := by
  unfold bazaarref06_Right.f rightB
  rw [refLeaf_eq h k hk, Option.bind_some, refBranch_eq h k hk, Option.bind_some]
  cases leafB ps ks kd <;> simp
theorem refPlace_l1 (t : ByteArray) (ps : List S39) (ks : List ByteArray) (kd : List Int) (ht : t.size ≤ 70) (hl : ks.length ≤ 100000) (hp : ∀ s ∈ ks, s.size ≤ 70) : ∀ (d k i n : Nat), n ≤ 200000 + i → i + d = ks.length → d + 3000 < k →
    bazaarref06_Place.l1 k t (n : Int) (i : Int) ps ks kd = some ((n + ((ks.drop i).filter fun x => !blt t x).length : Nat) : Int)
  | 0, k, i, n, hn, hi, hk => by
    obtain ⟨k, rfl⟩ : ∃ m, k = m + 1 := ⟨k - 1, by omega⟩
    simp only [bazaarref06_Place.l1]
    rw [if_neg (by omega), List.drop_of_length_le (by omega)]
    rfl
  | d + 1, k, i, n, hn, hi, hk => by
    obtain ⟨k, rfl⟩ : ∃ m, k = m + 1 := ⟨k - 1, by omega⟩
    have hlt : i < ks.length := by omega
    have h0 := hp _ (List.getElem_mem hlt)
    simp only [bazaarref06_Place.l1]
    rw [if_pos (by omega), if_pos (by omega), rdOf_nat ks i hlt, refLess_eq _ _ (by omega) (by omega) k (by omega), Option.bind_some, w_add i (by omega), w_add n (by omega),
      refPlace_l1 t ps ks kd ht hl hp d k (i + 1) n (by omega) (by omega) (by omega), refPlace_l1 t ps ks kd ht hl hp d k (i + 1) (n + 1) (by omega) (by omega) (by omega), List.drop_eq_getElem_cons hlt, List.filter_cons]
    cases blt t ks[i] with
    | true => simp
    | false =>
      simp
      omega
theorem refPlace_l0 (t : ByteArray) (ps : List S39) (ks : List ByteArray) (kd : List Int) (ht : t.size ≤ 70) (hpl : ps.length ≤ 100000) (hl : ks.length ≤ 100000) (hpp : ∀ p ∈ ps, p.f0.size ≤ 70 ∧ p.f1.size ≤ 70) (hp : ∀ s ∈ ks, s.size ≤ 70) : ∀ (d k i n : Nat), n ≤ i → i + d = ps.length → d + 103020 < k →
    bazaarref06_Place.l0 k t (n : Int) (i : Int) ps ks kd = some ((n + ((ps.drop i).filter fun x => blt x.f0 t).length + (ks.filter fun x => !blt t x).length : Nat) : Int)
  | 0, k, i, n, hn, hi, hk => by
    obtain ⟨k, rfl⟩ : ∃ m, k = m + 1 := ⟨k - 1, by omega⟩
    have h1 := refPlace_l1 t ps ks kd ht hl hp ks.length k 0 n (by omega) (by omega) (by omega)
    simp only [bazaarref06_Place.l0]
    rw [if_neg (by omega), List.drop_of_length_le (by omega : ps.length ≤ i)]
    rw [show ((0 : Nat) : Int) = 0 from rfl] at h1
    rw [h1]
    rfl
  | d + 1, k, i, n, hn, hi, hk => by
    obtain ⟨k, rfl⟩ : ∃ m, k = m + 1 := ⟨k - 1, by omega⟩
    have hlt : i < ps.length := by omega
    have h0 := hpp _ (List.getElem_mem hlt)
    simp only [bazaarref06_Place.l0]
    rw [if_pos (by omega), if_pos (by omega), rdT_nat ps i hlt, refLess_eq _ _ (by omega) (by omega) k (by omega), Option.bind_some, w_add i (by omega), w_add n (by omega),
      refPlace_l0 t ps ks kd ht hpl hl hpp hp d k (i + 1) n (by omega) (by omega) (by omega), refPlace_l0 t ps ks kd ht hpl hl hpp hp d k (i + 1) (n + 1) (by omega) (by omega) (by omega), List.drop_eq_getElem_cons hlt, List.filter_cons]
    cases blt ps[i].f0 t with
    | false => simp
    | true =>
      simp
      omega
/-- In a rising list those less than a text stand ahead. -/
theorem filter_lt {l : List ByteArray} (h : Rising l) (t : ByteArray) : (l.filter fun x => blt x t).length = placeP l t := by
  induction l with
  | nil => rfl
  | cons a l ih =>
    have hl := (List.pairwise_cons.1 h)
    rw [List.filter_cons]
    unfold placeP
    rw [List.takeWhile_cons]
    cases ha : blt a t with
    | true =>
      simp only [if_true, List.length_cons]
      rw [ih hl.2]
      rfl
    | false =>
      simp only [Bool.false_eq_true, if_false, List.length_nil, List.length_eq_zero_iff, List.filter_eq_nil_iff]
      intro x hx hxt
      have := blt_trans (hl.1 x hx) hxt
      rw [ha] at this
      cases this
theorem filter_le {l : List ByteArray} (h : Rising l) (t : ByteArray) : (l.filter fun x => !blt t x).length = placeP l t + (if l[placeP l t]? = some t then 1 else 0) := by
  induction l with
  | nil => rfl
  | cons a l ih =>
    have hl := (List.pairwise_cons.1 h)
    rw [List.filter_cons]
    cases ha : blt a t with
    | true =>
      have hta : blt t a = false := blt_asymm ha
      have e : placeP (a :: l) t = placeP l t + 1 := by
        unfold placeP
        rw [List.takeWhile_cons, ha]
        rfl
      rw [e, hta, List.getElem?_cons_succ]
      simp only [Bool.not_false, if_true, List.length_cons]
      rw [ih hl.2]
      omega
    | false =>
      have e : placeP (a :: l) t = 0 := by
        unfold placeP
        rw [List.takeWhile_cons, ha]
        rfl
      have hnil : (l.filter fun x => !blt t x) = [] := by
        rw [List.filter_eq_nil_iff]
        intro x hx hxt
        have h1 := blt_le (a := t) (b := a) (c := x) ha (hl.1 x hx)
        rw [h1] at hxt
        cases hxt
      rw [e, hnil, List.getElem?_cons_zero]
      cases hta : blt t a with
      | true =>
        have hne : a ≠ t := by
          rintro rfl
          rw [blt_irr] at hta
          cases hta
        simp [hne]
      | false =>
        have : a = t := blt_total ha hta
        simp [this]
theorem refPlace_eq {ps : List S39} {ks : List ByteArray} {kd : List Int} (h : Cut ps ks kd) (t : ByteArray) (ht : t.size ≤ 70) (k : Nat) (hk : 400010 < k) : bazaarref06_Place.f k ps ks kd t = some (placeN ps ks kd t : Int) := by
  have hc := h
  obtain ⟨hs, hp, hkk⟩ := h
  simp only [smallB, Bool.and_eq_true, decide_eq_true_eq] at hs
  unfold bazaarref06_Place.f placeN
  rw [refRight_eq hc k hk, Option.bind_some]
  cases hr : rightB ps ks kd with
  | false => rfl
  | true =>
    have h1 := refPlace_l0 t ps ks kd ht (by omega) (by omega) hp hkk ps.length k 0 0 (by omega) (by omega) (by omega)
    rw [show ((0 : Nat) : Int) = 0 from rfl, List.drop_zero] at h1
    simp only [if_true]
    rw [h1]
    have hri := right_rising hr
    congr 2
    have hor : (ks = [] ∧ kd = []) ∨ (ps = [] ∧ 0 < kd.length) := by
      simp only [rightB, leafB, branchB, Bool.or_eq_true, Bool.and_eq_true, List.isEmpty_iff, decide_eq_true_eq] at hr
      rcases hr with h | h
      · exact .inl ⟨h.1.1.1.1, h.1.1.1.2⟩
      · exact .inr ⟨h.1.1.1.1.1.1, h.1.1.1.1.1.2⟩
    rcases hor with ⟨rfl, rfl⟩ | ⟨rfl, hkd⟩
    · rw [List.nil_append] at hri ⊢
      rw [← filter_lt hri, List.filter_map, List.length_map]
      simp
      rfl
    · rw [List.map_nil, List.append_nil] at hri ⊢
      rw [filter_le hri, decide_eq_true hkd]
      simp
end Go.Proofs.Ytejempihaknplaa.G
