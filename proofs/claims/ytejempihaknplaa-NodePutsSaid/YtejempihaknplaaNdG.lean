/- What the reference's Put and Delete answer, as plain lists. -/
import Derived.Test.YtejempihaknplaaNdEl
import Derived.Test.YtejempihaknplaaGf23
import Derived.Test.YtejempihaknplaaGf25
import Derived.Test.YtejempihaknplaaNdH
namespace Go.Proofs.Ytejempihaknplaa.G
open Go.RowKit Go.Proofs.YtejempihaknplaaW.PrintWords Go.Proofs.YtejempihaknplaaW.PrintMore

theorem refDel_l0 (t : ByteArray) (ps : List S39) (ks : List ByteArray) (kd : List Int) (hl : ps.length ≤ 1000000) : ∀ (d k i : Nat) (acc : List S39), acc.length ≤ i → i + d = ps.length → d < k →
    bazaarref06_Delete.l0 k t (i : Int) ps ks kd acc = some (acc ++ (ps.drop i).filter (fun p => !(p.f0.toList == t.toList)), [], [], decide ((acc ++ (ps.drop i).filter (fun p => !(p.f0.toList == t.toList))).length < ps.length), 0)
  | 0, k, i, acc, ha, hi, hk => by
    obtain ⟨k, rfl⟩ : ∃ m, k = m + 1 := ⟨k - 1, by omega⟩
    simp only [bazaarref06_Delete.l0]
    rw [if_neg (by omega), List.drop_of_length_le (by omega)]
    simp
  | d + 1, k, i, acc, ha, hi, hk => by
    obtain ⟨k, rfl⟩ : ∃ m, k = m + 1 := ⟨k - 1, by omega⟩
    have hlt : i < ps.length := by omega
    simp only [bazaarref06_Delete.l0]
    rw [if_pos (by omega), if_pos (by omega), rdT_nat ps i hlt, w_add i (by omega), List.drop_eq_getElem_cons hlt, List.filter_cons]
    by_cases he : ps[i].f0.toList = t.toList
    · rw [if_pos he, refDel_l0 t ps ks kd hl d k (i + 1) acc (by omega) (by omega) (by omega), if_neg (by simp [he])]
    · rw [if_neg he, if_pos (by omega), refDel_l0 t ps ks kd hl d k (i + 1) _ (by simp; omega) (by omega) (by omega), if_pos (by simp [he]), List.append_assoc]
      rfl
theorem refDelete_eq {ps : List S39} {ks : List ByteArray} {kd : List Int} (h : Cut ps ks kd) (t : ByteArray) (k : Nat) (hk : 400010 < k) : bazaarref06_Delete.f k ps ks kd t = node_Delete.f ps ks kd t := by
  have hs := h.1
  simp only [smallB, Bool.and_eq_true, decide_eq_true_eq] at hs
  unfold bazaarref06_Delete.f node_Delete.f
  rw [refLeaf_eq h k hk, Option.bind_some, if_pos h.1]
  cases leafB ps ks kd with
  | false => rfl
  | true =>
    have h1 := refDel_l0 t ps ks kd (by omega) ps.length k 0 [] (by simp) (by omega) (by omega)
    rw [show ((0 : Nat) : Int) = 0 from rfl, List.drop_zero, List.nil_append] at h1
    rw [if_pos rfl, h1]
    rfl
theorem refPut_eq {ps : List S39} {ks : List ByteArray} {kd : List Int} (h : Cut ps ks kd) (s v : ByteArray) (hsz : s.size ≤ 70) (k : Nat) (hk : 400020 < k) : bazaarref06_Put.f k ps ks kd s v = node_Put.f ps ks kd s v := by
  have hs := h.1
  simp only [smallB, Bool.and_eq_true, decide_eq_true_eq] at hs
  obtain ⟨k, rfl⟩ : ∃ m, k = m + 1 + 1 := ⟨k - 2, by omega⟩
  unfold bazaarref06_Put.f node_Put.f
  rw [show bazaarref06_RightPair.f s v = some (pOk ⟨s, v⟩) from refPair_eq ⟨s, v⟩, refLeaf_eq h _ (by omega), Option.bind_some, Option.bind_some, if_pos h.1]
  simp only [bazaarref06_Put.j0]
  cases hp : pOk ⟨s, v⟩ with
  | false =>
    rw [if_neg (by simp), if_pos trivial, Bool.and_false, Bool.false_and, if_neg (by simp)]
  | true =>
    rw [if_pos rfl]
    cases hl : leafB ps ks kd with
    | false =>
      rw [if_pos (by rfl), Bool.false_and, Bool.false_and, if_neg (by simp)]
    | true =>
      have hle := place_leaf_le hl s
      have hP := putP_eq hl ⟨s, v⟩
      unfold putEnd putP at hP
      simp only [] at hP
      rw [if_neg (by simp), refPlace_eq h hl s hsz _ (by omega), Option.bind_some]
      generalize placeN ps ks kd s = m at *
      generalize putN ps ⟨s, v⟩ = Q at *
      subst hP
      have e1 : (([] : List S39) ++ ps.take ((m : Int)).toNat) = ps.take m := by rw [Int.toNat_natCast]; rfl
      have e2 : ([] : List S39).length + (ps.take ((m : Int)).toNat).length < 4398046511104 := by
        rw [Int.toNat_natCast, List.length_nil, List.length_take]
        omega
      have e3 : (ps.take m).length < 4398046511104 := by
        rw [List.length_take]
        omega
      have e4 : (ps.take m ++ [(⟨s, v⟩ : S39)]).length + (ps.drop m).length < 4398046511104 := by
        rw [List.length_append, List.length_take, List.length_drop, List.length_singleton]
        omega
      have e5 : (ps.take m ++ [(⟨s, v⟩ : S39)]).length + (ps.drop (m + 1)).length < 4398046511104 := by
        rw [List.length_append, List.length_take, List.length_drop, List.length_singleton]
        omega
      have e6 : ∀ l : List S39, (ps.take m ++ [(⟨s, v⟩ : S39)]) ++ l = ps.take m ++ ⟨s, v⟩ :: l := by
        intro l
        rw [List.append_assoc]
        rfl
      rw [if_pos (by omega), if_pos (by omega), Option.bind_some, if_pos e2, Option.bind_some, e1, if_pos e3, Option.bind_some]
      by_cases hlt : m < ps.length
      · rw [if_pos (by omega), rdT_nat ps m hlt, List.getElem?_eq_getElem hlt, bazaarref06_Put.j1]
        by_cases he : ps[m].f0.toList = s.toList
        · rw [if_pos (by simp [he]), w_add m (by omega), if_pos (by omega), if_pos (by omega), Option.bind_some, Int.toNat_natCast, if_pos e5, Option.bind_some, e6, if_pos (show Option.map (fun x : S39 => x.f0.toList) (some ps[m]) = some s.toList by simp [he])]
          by_cases h2 : (ps.take m ++ ⟨s, v⟩ :: ps.drop (m + 1)).length ≤ 255
          · rw [if_neg (by omega), decide_eq_true h2]
            rfl
          · rw [if_pos (by omega), decide_eq_false h2]
            rfl
        · rw [if_neg (by simp [he]), if_pos (by omega), if_pos (by omega), Option.bind_some, Int.toNat_natCast, if_pos e4, Option.bind_some, e6, if_neg (show ¬ Option.map (fun x : S39 => x.f0.toList) (some ps[m]) = some s.toList by simp [he])]
          by_cases h2 : (ps.take m ++ ⟨s, v⟩ :: ps.drop m).length ≤ 255
          · rw [if_neg (by omega), decide_eq_true h2]
            rfl
          · rw [if_pos (by omega), decide_eq_false h2]
            rfl
      · rw [if_neg (by omega), bazaarref06_Put.j1, if_neg (by simp), if_pos (by omega), if_pos (by omega), Option.bind_some, Int.toNat_natCast, if_pos e4, Option.bind_some, e6, List.getElem?_eq_none (by omega), if_neg (show ¬ Option.map (fun x : S39 => x.f0.toList) none = some s.toList by simp)]
        by_cases h2 : (ps.take m ++ ⟨s, v⟩ :: ps.drop m).length ≤ 255
        · rw [if_neg (by omega), decide_eq_true h2]
          rfl
        · rw [if_pos (by omega), decide_eq_false h2]
          rfl
end Go.Proofs.Ytejempihaknplaa.G
