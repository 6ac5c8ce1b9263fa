/- NodePlaces, in plain words: a key's place in a leaf is where it stands; in a branch it goes by the keys. -/
import Derived.Test.YtejempihaknplaaNdR
import Derived.Test.YtejempihaknplaaGf5
namespace Go.Proofs.Ytejempihaknplaa.G
open Go.RowKit Go.Proofs.YtejempihaknplaaW.PrintWords Go.Proofs.YtejempihaknplaaW.PrintMore

/-- What a place is. -/
theorem placeN_spec {ps : List S39} {ks : List ByteArray} {kd : List Int} (h : rightB ps ks kd = true) (t : ByteArray) :
    placeN ps ks kd t ≤ ps.length + ks.length ∧ (∀ i (hi : i < ps.length), blt ps[i].f0 t = decide (i < placeN ps ks kd t)) ∧ (∀ i (hi : i < ks.length), blt t ks[i] = decide (placeN ps ks kd t ≤ i)) := by
  have hr := right_rising h
  have hs := rising_split hr t
  have hp := placeP_le (ks ++ ps.map (·.f0)) t
  unfold placeN
  rw [if_pos h]
  have hor : rightB ps ks kd = true → (ks = [] ∧ kd = []) ∨ (ps = [] ∧ 0 < kd.length) := by
    intro h
    simp only [rightB, leafB, branchB, Bool.or_eq_true, Bool.and_eq_true, List.isEmpty_iff, decide_eq_true_eq] at h
    rcases h with h | h
    · exact .inl ⟨h.1.1.1.1, h.1.1.1.2⟩
    · exact .inr ⟨h.1.1.1.1.1.1, h.1.1.1.1.1.2⟩
  rcases hor h with ⟨rfl, rfl⟩ | ⟨rfl, hk⟩
  · simp only [List.nil_append, List.length_nil, Nat.lt_irrefl, decide_false, Bool.and_false, Bool.false_eq_true, if_false, Nat.add_zero, List.length_map] at hs hp ⊢
    refine ⟨hp, fun i hi => ?_, fun i hi => absurd hi (by omega)⟩
    by_cases hlt : i < placeP (ps.map (·.f0)) t
    · have := hs.1 i hi hlt
      rw [List.getElem_map] at this
      rw [this, decide_eq_true hlt]
    · have := hs.2 i hi (by omega)
      rw [List.getElem_map] at this
      rw [this, decide_eq_false hlt]
  · simp only [List.map_nil, List.append_nil, List.length_nil, Nat.zero_add, decide_eq_true hk, Bool.and_true] at hs hp ⊢
    have hr' : Rising ks := by simpa using hr
    refine ⟨?_, fun i hi => absurd hi (by omega), fun i hi => ?_⟩
    · by_cases hf : ks[placeP ks t]? = some t
      · have := (List.getElem?_eq_some_iff.1 hf).1
        simp [hf]
        omega
      · simp [hf, hp]
    · by_cases hf : ks[placeP ks t]? = some t
      · obtain ⟨hl, he⟩ := List.getElem?_eq_some_iff.1 hf
        simp only [hf, decide_true, if_true]
        rcases Nat.lt_trichotomy i (placeP ks t) with hlt | heq | hgt
        · rw [blt_asymm (hs.1 i hi hlt), decide_eq_false (by omega)]
        · subst heq
          rw [he, blt_irr, decide_eq_false (by omega)]
        · have := List.pairwise_iff_getElem.1 hr' (placeP ks t) i hl hi hgt
          rw [he] at this
          rw [this, decide_eq_true (by omega)]
      · simp only [hf, decide_false, Bool.false_eq_true, if_false, Nat.add_zero]
        by_cases hlt : i < placeP ks t
        · rw [blt_asymm (hs.1 i hi hlt), decide_eq_false (by omega)]
        · rw [decide_eq_true (by omega)]
          have h1 := hs.2 i hi (by omega)
          cases h2 : blt t ks[i] with
          | true => rfl
          | false =>
            exfalso
            have he : ks[i] = t := blt_total h1 h2
            have hpi : placeP ks t = i := by
              rcases Nat.lt_or_ge (placeP ks t) i with hlt2 | hge
              · have h3 := List.pairwise_iff_getElem.1 hr' (placeP ks t) i (by omega) hi hlt2
                rw [he] at h3
                rw [hs.2 (placeP ks t) (by omega) (Nat.le_refl _)] at h3
                cases h3
              · omega
            rw [hpi, List.getElem?_eq_getElem hi, he] at hf
            exact hf rfl
theorem places_l1 (t : ByteArray) (n : Nat) (ps : List S39) (ks : List ByteArray) (kd : List Int) (ht : t.size ≤ 70) (hk : ∀ s ∈ ks, s.size ≤ 70) (hl : ks.length ≤ 100000) (hn : n ≤ 1000000) (h : ∀ i (hi : i < ks.length), blt t ks[i] = decide (n ≤ i)) :
    ∀ (d k i : Nat), i + d = ks.length → d + 3000 < k → bazaarlaw06_NodePlaces.l1 k t true (n : Int) (i : Int) ps ks kd = some true
  | 0, k, i, hi, hkk => by
    obtain ⟨k, rfl⟩ : ∃ m, k = m + 1 := ⟨k - 1, by omega⟩
    simp only [bazaarlaw06_NodePlaces.l1]
    rw [if_neg (by omega)]
  | d + 1, k, i, hi, hkk => by
    obtain ⟨k, rfl⟩ : ∃ m, k = m + 1 := ⟨k - 1, by omega⟩
    have hlt : i < ks.length := by omega
    have ih := places_l1 t n ps ks kd ht hk hl hn h d k (i + 1) (by omega) (by omega)
    have h70 := hk _ (List.getElem_mem hlt)
    simp only [bazaarlaw06_NodePlaces.l1]
    rw [if_pos (by omega), if_pos (by omega), rdOf_nat ks i hlt, refLess_eq _ _ (by omega) (by omega) k (by omega), Option.bind_some, h i hlt, if_neg, w_add i (by omega), ih]
    by_cases hni : n ≤ i
    · simp [hni]
    · simp [hni]
theorem places_l0 (t : ByteArray) (n : Nat) (ps : List S39) (ks : List ByteArray) (kd : List Int) (ht : t.size ≤ 70) (hp : ∀ p ∈ ps, p.f0.size ≤ 70 ∧ p.f1.size ≤ 70) (hk : ∀ s ∈ ks, s.size ≤ 70) (hlp : ps.length ≤ 100000) (hl : ks.length ≤ 100000) (hn : n ≤ 1000000)
    (h0 : ∀ i (hi : i < ps.length), blt ps[i].f0 t = decide (i < n)) (h : ∀ i (hi : i < ks.length), blt t ks[i] = decide (n ≤ i)) :
    ∀ (d k i : Nat), i + d = ps.length → d + 103002 < k → bazaarlaw06_NodePlaces.l0 k t true (n : Int) (i : Int) ps ks kd = some true
  | 0, k, i, hi, hkk => by
    obtain ⟨k, rfl⟩ : ∃ m, k = m + 1 := ⟨k - 1, by omega⟩
    simp only [bazaarlaw06_NodePlaces.l0]
    rw [if_neg (by omega)]
    exact places_l1 t n ps ks kd ht hk hl hn h ks.length k 0 (by omega) (by omega)
  | d + 1, k, i, hi, hkk => by
    obtain ⟨k, rfl⟩ : ∃ m, k = m + 1 := ⟨k - 1, by omega⟩
    have hlt : i < ps.length := by omega
    have ih := places_l0 t n ps ks kd ht hp hk hlp hl hn h0 h d k (i + 1) (by omega) (by omega)
    have h70 := hp _ (List.getElem_mem hlt)
    simp only [bazaarlaw06_NodePlaces.l0]
    rw [if_pos (by omega), if_pos (by omega), rdT_nat ps i hlt, refLess_eq _ _ (by omega) (by omega) k (by omega), Option.bind_some, h0 i hlt, if_neg, w_add i (by omega), ih]
    by_cases hni : i < n
    · simp [hni]
    · simp [hni]
theorem nodePlaces_plain (ps : List S39) (ks : List ByteArray) (kd : List Int) (t : ByteArray) : bazaarlaw06_NodePlaces.f 500000 ps ks kd t = some true := by
  unfold bazaarlaw06_NodePlaces.f
  rw [shown_eq, Option.bind_some, cut_eq _ _ _ _ (by omega), Option.bind_some, text_eq, Option.bind_some]
  have hs := cut_small ps ks kd
  have hp := cutP_key ps
  have hk := cutK_key ks
  have ht := txt_size t
  generalize cutP ps = ps at *
  generalize cutK ks = ks at *
  generalize cutD kd = kd at *
  generalize txt t = t at *
  simp only []
  rw [place_eq ps ks kd t hs 500000 (by omega), Option.bind_some, right_eq ps ks kd hs 500000 (by omega), Option.bind_some]
  cases hr : rightB ps ks kd with
  | false =>
    have : placeN ps ks kd t = 0 := by unfold placeN; rw [hr]; simp
    rw [this]
    simp
  | true =>
    obtain ⟨h1, h2, h3⟩ := placeN_spec hr t
    simp only [smallB, Bool.and_eq_true, decide_eq_true_eq] at hs
    have hw : wrap64 ((ps.length : Int) + (ks.length : Int)) = (ps.length : Int) + (ks.length : Int) := by unfold wrap64; omega
    rw [if_pos rfl, if_neg (by omega), hw, decide_eq_false (by omega)]
    obtain ⟨k, hk2⟩ : ∃ k, 500000 = k + 1 := ⟨499999, rfl⟩
    rw [hk2]
    simp only [bazaarlaw06_NodePlaces.j0]
    rw [if_neg (by simp)]
    exact places_l0 t _ ps ks kd ht hp hk (by omega) (by omega) (by omega) h2 h3 ps.length k 0 (by omega) (by omega)
end Go.Proofs.Ytejempihaknplaa.G
