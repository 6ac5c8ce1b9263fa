/- What the reference's Same answers of a node and itself; what a leaf is behind a pair put into it. -/
import Derived.Test.YtejempihaknplaaNdC
import Derived.Test.YtejempihaknplaaGf26
import Derived.Test.YtejempihaknplaaHPut
namespace Go.Proofs.Ytejempihaknplaa.G
open Go.RowKit Go.Proofs.YtejempihaknplaaW.PrintWords Go.Proofs.YtejempihaknplaaW.PrintMore

theorem same_l2 (ps : List S39) (ks : List ByteArray) (kd : List Int) (hl : kd.length ≤ 1000000) : ∀ (d k i : Nat), i + d = kd.length → d < k → bazaarref06_Same.l2 k (i : Int) ps ks kd ps ks kd = some true
  | 0, k, i, hi, hk => by
    obtain ⟨k, rfl⟩ : ∃ m, k = m + 1 := ⟨k - 1, by omega⟩
    simp only [bazaarref06_Same.l2]
    rw [if_neg (by omega)]
  | d + 1, k, i, hi, hk => by
    obtain ⟨k, rfl⟩ : ∃ m, k = m + 1 := ⟨k - 1, by omega⟩
    simp only [bazaarref06_Same.l2]
    rw [if_pos (by omega), if_pos (by omega), if_pos (by omega), if_pos trivial, w_add i (by omega), same_l2 ps ks kd hl d k (i + 1) (by omega) (by omega)]
theorem same_l1 (ps : List S39) (ks : List ByteArray) (kd : List Int) (hl : ks.length ≤ 1000000) (hd : kd.length ≤ 1000000) : ∀ (d k i : Nat), i + d = ks.length → d + kd.length + 1 < k → bazaarref06_Same.l1 k (i : Int) ps ks kd ps ks kd = some true
  | 0, k, i, hi, hk => by
    obtain ⟨k, rfl⟩ : ∃ m, k = m + 1 := ⟨k - 1, by omega⟩
    simp only [bazaarref06_Same.l1]
    rw [if_neg (by omega)]
    exact same_l2 ps ks kd hd kd.length k 0 (by omega) (by omega)
  | d + 1, k, i, hi, hk => by
    obtain ⟨k, rfl⟩ : ∃ m, k = m + 1 := ⟨k - 1, by omega⟩
    simp only [bazaarref06_Same.l1]
    rw [if_pos (by omega), if_pos (by omega), if_pos (by omega), if_pos trivial, w_add i (by omega), same_l1 ps ks kd hl hd d k (i + 1) (by omega) (by omega)]
theorem same_l0 (ps : List S39) (ks : List ByteArray) (kd : List Int) (hp : ps.length ≤ 1000000) (hl : ks.length ≤ 1000000) (hd : kd.length ≤ 1000000) : ∀ (d k i : Nat), i + d = ps.length → d + ks.length + kd.length + 2 < k → bazaarref06_Same.l0 k (i : Int) ps ks kd ps ks kd = some true
  | 0, k, i, hi, hk => by
    obtain ⟨k, rfl⟩ : ∃ m, k = m + 1 := ⟨k - 1, by omega⟩
    simp only [bazaarref06_Same.l0]
    rw [if_neg (by omega)]
    exact same_l1 ps ks kd hl hd ks.length k 0 (by omega) (by omega)
  | d + 1, k, i, hi, hk => by
    obtain ⟨k, rfl⟩ : ∃ m, k = m + 1 := ⟨k - 1, by omega⟩
    simp only [bazaarref06_Same.l0]
    rw [if_pos (by omega), if_pos (by omega), if_pos (by omega), if_neg (by simp), w_add i (by omega), same_l0 ps ks kd hp hl hd d k (i + 1) (by omega) (by omega)]
theorem same_eq (ps : List S39) (ks : List ByteArray) (kd : List Int) (hp : ps.length ≤ 1000000) (hl : ks.length ≤ 1000000) (hd : kd.length ≤ 1000000) (k : Nat) (hk : ps.length + ks.length + kd.length + 4 < k) : bazaarref06_Same.f k ps ks kd ps ks kd = some true := by
  obtain ⟨k, rfl⟩ : ∃ m, k = m + 1 := ⟨k - 1, by omega⟩
  unfold bazaarref06_Same.f
  rw [if_pos rfl, if_pos rfl]
  simp only [bazaarref06_Same.j0]
  rw [if_neg (by simp)]
  exact same_l0 ps ks kd hp hl hd ps.length k 0 (by omega) (by omega)

theorem toList_ne {a b : ByteArray} (h : blt a b = true) : (a.toList == b.toList) = false := by
  rw [beq_eq_false_iff_ne]
  intro e
  unfold blt at h
  rw [e, less_irr] at h
  cases h
theorem toList_ne' {a b : ByteArray} (h : blt a b = true) : (b.toList == a.toList) = false := by
  rw [beq_eq_false_iff_ne]
  intro e
  unfold blt at h
  rw [e, less_irr] at h
  cases h
/-- The parts of a leaf behind a pair put into it. -/
theorem put_parts {ps : List S39} {ks : List ByteArray} {kd : List Int} (h : leafB ps ks kd = true) (p : S39) :
    ∃ m e : Nat, m ≤ ps.length ∧ e ≤ ps.length ∧ putN ps p = ps.take m ++ p :: ps.drop e ∧ (∀ x ∈ ps.take m, blt x.f0 p.f0 = true) ∧ (∀ x ∈ ps.drop e, blt p.f0 x.f0 = true) ∧ (e = m ∨ (e = m + 1 ∧ ∃ h : m < ps.length, ps[m].f0.toList = p.f0.toList)) := by
  have hri : Rising (ps.map (·.f0)) := by
    simp only [leafB, Bool.and_eq_true] at h
    exact (rises_iff _).1 h.2
  have hP := putP_eq h p
  have hle := place_leaf_le h p.f0
  have hpl : placeN ps ks kd p.f0 = placeP (ps.map (·.f0)) p.f0 := by
    have hr : rightB ps ks kd = true := by unfold rightB; rw [h]; rfl
    unfold placeN
    rw [if_pos hr]
    simp only [leafB, Bool.and_eq_true, List.isEmpty_iff] at h
    obtain ⟨⟨⟨⟨rfl, rfl⟩, _⟩, _⟩, _⟩ := h
    simp
  have hsp := rising_split hri p.f0
  rw [← hpl] at hsp
  generalize placeN ps ks kd p.f0 = m at *
  have hlt : ∀ x ∈ ps.take m, blt x.f0 p.f0 = true := by
    intro x hx
    obtain ⟨q, hq, rfl⟩ := List.mem_iff_getElem.1 hx
    rw [List.length_take] at hq
    have := hsp.1 q (by simp; omega) (by omega)
    simpa using this
  have hge : ∀ q (hq : q < ps.length), m ≤ q → ps[q].f0.toList ≠ p.f0.toList → blt p.f0 ps[q].f0 = true := by
    intro q hq hmq hne
    have h1 := hsp.2 q (by simpa using hq) hmq
    rw [List.getElem_map] at h1
    cases h2 : blt p.f0 ps[q].f0 with
    | true => rfl
    | false => exact absurd (congrArg ByteArray.toList (blt_total h1 h2)) hne
  unfold putP at hP
  by_cases hm : (ps[m]?).map (·.f0.toList) = some p.f0.toList
  · have hpe : putEnd ps p.f0 m = m + 1 := by unfold putEnd; rw [if_pos hm]
    rw [hpe] at hP
    have hml : m < ps.length := by
      rcases Nat.lt_or_ge m ps.length with h | h
      · exact h
      · rw [List.getElem?_eq_none h] at hm
        cases hm
    rw [List.getElem?_eq_getElem hml] at hm
    have hmk : ps[m].f0.toList = p.f0.toList := by simpa using hm
    refine ⟨m, m + 1, hle, by omega, hP.symm, hlt, fun x hx => ?_, .inr ⟨rfl, hml, hmk⟩⟩
    obtain ⟨q, hq, rfl⟩ := List.mem_iff_getElem.1 hx
    rw [List.length_drop] at hq
    rw [List.getElem_drop]
    have hpw := List.pairwise_iff_getElem.1 hri m (m + 1 + q) (by simpa using hml) (by simp; omega) (by omega)
    simp only [List.getElem_map] at hpw
    unfold blt at hpw ⊢
    rw [← hmk]
    exact hpw
  · have hpe : putEnd ps p.f0 m = m := by unfold putEnd; rw [if_neg hm]
    rw [hpe] at hP
    refine ⟨m, m, hle, hle, hP.symm, hlt, fun x hx => ?_, .inl rfl⟩
    obtain ⟨q, hq, rfl⟩ := List.mem_iff_getElem.1 hx
    rw [List.length_drop] at hq
    rw [List.getElem_drop]
    refine hge (m + q) (by omega) (by omega) (fun he => ?_)
    cases q with
    | zero => exact hm (by rw [List.getElem?_eq_getElem (show m < ps.length by omega)]; simpa using he)
    | succ q =>
      have hpw := List.pairwise_iff_getElem.1 hri m (m + (q + 1)) (by simp; omega) (by simp; omega) (by omega)
      simp only [List.getElem_map] at hpw
      have h1 := hsp.2 m (by simp; omega) (Nat.le_refl _)
      rw [List.getElem_map] at h1
      unfold blt at hpw h1
      rw [he, h1] at hpw
      cases hpw
theorem put_facts {ps : List S39} (h : leafB ps [] [] = true) (p : S39) (hp : pOk p = true) (h255 : (putN ps p).length ≤ 255) :
    leafB (putN ps p) [] [] = true ∧ (∃ hl : placeN (putN ps p) [] [] p.f0 < (putN ps p).length, (putN ps p)[placeN (putN ps p) [] [] p.f0] = p) ∧
    ((putN ps p).filter fun x => !(x.f0.toList == p.f0.toList)) = ps.filter (fun x => !(x.f0.toList == p.f0.toList)) ∧
    (((ps.filter fun x => !(x.f0.toList == p.f0.toList)).length < ps.length ∧ (putN ps p).length = ps.length) ∨ (¬ (ps.filter fun x => !(x.f0.toList == p.f0.toList)).length < ps.length ∧ (putN ps p).length = ps.length + 1)) := by
  have hri : Rising (ps.map (·.f0)) := by
    simp only [leafB, Bool.and_eq_true] at h
    exact (rises_iff _).1 h.2
  have hok : ps.all pOk = true := by
    simp only [leafB, Bool.and_eq_true] at h
    exact h.1.2
  obtain ⟨m, e, hm, he, hQ, hA, hC, hme⟩ := put_parts h p
  have hfA : ((ps.take m).filter fun x => !(x.f0.toList == p.f0.toList)) = ps.take m := List.filter_eq_self.2 (fun x hx => by rw [toList_ne (hA x hx)]; rfl)
  have hfC : ((ps.drop e).filter fun x => !(x.f0.toList == p.f0.toList)) = ps.drop e := List.filter_eq_self.2 (fun x hx => by rw [toList_ne' (hC x hx)]; rfl)
  have hfQ : ((putN ps p).filter fun x => !(x.f0.toList == p.f0.toList)) = ps.take m ++ ps.drop e := by
    rw [hQ, List.filter_append, List.filter_cons, if_neg (by simp), hfA, hfC]
  have hfP : (ps.filter fun x => !(x.f0.toList == p.f0.toList)) = ps.take m ++ ps.drop e := by
    conv => lhs; rw [← List.take_append_drop m ps]
    rw [List.filter_append, hfA]
    congr 1
    rcases hme with rfl | ⟨rfl, hml, hmk⟩
    · exact hfC
    · rw [List.drop_eq_getElem_cons hml, List.filter_cons, if_neg (by simp [hmk]), hfC]
  have hrQ : Rising ((putN ps p).map (·.f0)) := by
    rw [hQ, List.map_append, List.map_cons]
    unfold Rising
    rw [List.pairwise_append, List.pairwise_cons]
    refine ⟨?_, ⟨?_, ?_⟩, ?_⟩
    · rw [List.map_take]
      exact hri.sublist (List.take_sublist _ _)
    · intro x hx
      obtain ⟨y, hy, rfl⟩ := List.mem_map.1 hx
      exact hC y hy
    · rw [List.map_drop]
      exact hri.sublist (List.drop_sublist _ _)
    · intro a ha b hb
      obtain ⟨x, hx, rfl⟩ := List.mem_map.1 ha
      rcases List.mem_cons.1 hb with rfl | hb
      · exact hA x hx
      · obtain ⟨y, hy, rfl⟩ := List.mem_map.1 hb
        exact blt_trans (hA x hx) (hC y hy)
  have hlQ : leafB (putN ps p) [] [] = true := by
    unfold leafB
    rw [(rises_iff _).2 hrQ, decide_eq_true h255]
    have : (putN ps p).all pOk = true := by
      rw [hQ, List.all_eq_true]
      intro x hx
      rw [List.all_eq_true] at hok
      rcases List.mem_append.1 hx with hx | hx
      · exact hok x (List.mem_of_mem_take hx)
      · rcases List.mem_cons.1 hx with rfl | hx
        · exact hp
        · exact hok x (List.mem_of_mem_drop hx)
    rw [this]
    rfl
  have hpl : placeN (putN ps p) [] [] p.f0 = m := by
    rw [leaf_place hlQ, hQ]
    rw [List.takeWhile_append_of_pos (fun x hx => hA x hx), List.takeWhile_cons, blt_irr]
    simp
    omega
  refine ⟨hlQ, ?_, by rw [hfQ, hfP], ?_⟩
  · rw [hpl]
    refine ⟨by rw [hQ]; simp; omega, ?_⟩
    have : (putN ps p)[m]? = some p := by
      rw [hQ, List.getElem?_append_right (by rw [List.length_take]; omega), List.length_take, Nat.min_eq_left hm, Nat.sub_self]
      rfl
    exact (List.getElem?_eq_some_iff.1 this).2
  · rw [hfP, hQ]
    simp only [List.length_append, List.length_cons, List.length_take, List.length_drop]
    rcases hme with rfl | ⟨rfl, hml, _⟩
    · exact .inr ⟨by omega, by omega⟩
    · exact .inl ⟨by omega, by omega⟩
end Go.Proofs.Ytejempihaknplaa.G
