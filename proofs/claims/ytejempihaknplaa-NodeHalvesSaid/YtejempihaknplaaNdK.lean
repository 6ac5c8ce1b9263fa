/- A node in two, as plain lists: the halves behind each place, how large the larger one is, and what Split answers. -/
import Derived.Test.YtejempihaknplaaGf27
import Derived.Test.YtejempihaknplaaNdC
import Derived.Test.YtejempihaknplaaHEncode
namespace Go.Proofs.Ytejempihaknplaa.G
open Go.RowKit Go.Proofs.YtejempihaknplaaW.PrintWords Go.Proofs.YtejempihaknplaaW.PrintMore

/-- What node.cut gives. -/
def cutN (ps : List S39) (ks : List ByteArray) (kd : List Int) (a : Nat) : List S39 × List ByteArray × List Int × List S39 × List ByteArray × List Int × ByteArray :=
  if kd.isEmpty then (ps.take a, [], [], ps.drop a, [], [], (ps[a]?.map (·.f0)).getD ⟨#[]⟩) else ([], ks.take (a - 1), kd.take a, [], ks.drop a, kd.drop a, ks[a - 1]?.getD ⟨#[]⟩)
def leastN (kd : List Int) : Nat := if kd.isEmpty then 1 else 2
theorem w_nat (n : Nat) (h : n ≤ 1000000) : wrap64 (n : Int) = (n : Int) := by unfold wrap64; omega
theorem clone_p (l : List S39) (h : l.length ≤ 1000000) : slices_Clone_Pair.f l = some l := by unfold slices_Clone_Pair.f; rw [if_pos (by omega)]
theorem clone_k (l : List ByteArray) (h : l.length ≤ 1000000) : slices_Clone_string_string.f l = some l := by unfold slices_Clone_string_string.f; rw [if_pos (by omega)]
theorem clone_d (l : List Int) (h : l.length ≤ 1000000) : slices_Clone_uint32_uint32.f l = some l := by unfold slices_Clone_uint32_uint32.f; rw [if_pos (by omega)]
theorem cut_at {ps : List S39} {ks : List ByteArray} {kd : List Int} (h : rightB ps ks kd = true) (a : Nat) (h1 : 1 ≤ a) (h2 : a < ps.length + kd.length) : node_cut.f ps ks kd (a : Int) = some (cutN ps ks kd a) := by
  unfold node_cut.f cutN
  rcases right_or h with h | h
  · obtain ⟨rfl, rfl, h3, _⟩ := leaf_facts h
    simp only [List.length_nil, Nat.add_zero] at h2
    have l1 : (ps.take a).length ≤ 1000000 := by rw [List.length_take]; omega
    have l2 : (ps.drop a).length ≤ 1000000 := by rw [List.length_drop]; omega
    rw [if_pos (by simp), if_pos (by omega), if_pos (by omega), Int.toNat_natCast, clone_p _ l1, Option.bind_some, clone_p _ l2, Option.bind_some, if_pos (by omega), rdT_nat ps a h2, if_pos (by rfl), List.getElem?_eq_getElem h2]
    rfl
  · obtain ⟨rfl, h3, h4, h5, _⟩ := branch_facts h
    simp only [List.length_nil, Nat.zero_add] at h2
    have l1 : (ks.take (a - 1)).length ≤ 1000000 := by rw [List.length_take]; omega
    have l2 : (ks.drop a).length ≤ 1000000 := by rw [List.length_drop]; omega
    have l3 : (kd.take a).length ≤ 1000000 := by rw [List.length_take]; omega
    have l4 : (kd.drop a).length ≤ 1000000 := by rw [List.length_drop]; omega
    have hne : kd.isEmpty = false := by
      cases kd with
      | nil => simp at h3
      | cons _ _ => rfl
    rw [if_neg (by omega), w_sub a (by omega) h1, if_pos (by omega), if_pos (by omega), Int.toNat_natCast, clone_k _ l1, Option.bind_some, if_pos (by omega), if_pos (by omega), Int.toNat_natCast, clone_d _ l3, Option.bind_some, if_pos (by omega), clone_k _ l2, Option.bind_some, clone_d _ l4, Option.bind_some, if_pos (by omega), rdOf_nat ks (a - 1) (by omega), hne, if_neg (by simp), List.getElem?_eq_getElem (by omega)]
    rfl
theorem rises_take {l : List ByteArray} (h : risesB l = true) (a : Nat) : risesB (l.take a) = true := (rises_iff _).2 (((rises_iff _).1 h).sublist (List.take_sublist _ _))
theorem rises_drop' {l : List ByteArray} (h : risesB l = true) (a : Nat) : risesB (l.drop a) = true := (rises_iff _).2 (((rises_iff _).1 h).sublist (List.drop_sublist _ _))
theorem leafB_mk {ps : List S39} (h1 : ps.length ≤ 255) (h2 : ∀ p ∈ ps, pOk p = true) (h3 : risesB (ps.map (·.f0)) = true) : leafB ps [] [] = true := by
  unfold leafB
  rw [decide_eq_true h1, List.all_eq_true.2 h2, h3]
  rfl
theorem branchB_mk {ks : List ByteArray} {kd : List Int} (h1 : 1 ≤ kd.length) (h2 : kd.length ≤ 255) (h3 : ks.length + 1 = kd.length) (h4 : ∀ k ∈ kd, kidOk k = true) (h5 : ∀ k ∈ ks, kOk k = true) (h6 : risesB ks = true) : branchB [] ks kd = true := by
  unfold branchB
  rw [decide_eq_true h1, decide_eq_true h2, decide_eq_true h3, List.all_eq_true.2 h4, List.all_eq_true.2 h5, h6]
  rfl
/-- Both halves are right. -/
theorem halves_right {ps : List S39} {ks : List ByteArray} {kd : List Int} (h : rightB ps ks kd = true) (a : Nat) (h1 : 1 ≤ a) (h2 : a < ps.length + kd.length) :
    rightB (cutN ps ks kd a).1 (cutN ps ks kd a).2.1 (cutN ps ks kd a).2.2.1 = true ∧ rightB (cutN ps ks kd a).2.2.2.1 (cutN ps ks kd a).2.2.2.2.1 (cutN ps ks kd a).2.2.2.2.2.1 = true := by
  unfold cutN
  rcases right_or h with h | h
  · obtain ⟨rfl, rfl, h3, h4, h5⟩ := leaf_facts h
    simp only [List.isEmpty_nil, if_true]
    unfold rightB
    rw [leafB_mk (by rw [List.length_take]; omega) (fun p hp => h4 p (List.mem_of_mem_take hp)) (by rw [List.map_take]; exact rises_take h5 a),
      leafB_mk (by rw [List.length_drop]; omega) (fun p hp => h4 p (List.mem_of_mem_drop hp)) (by rw [List.map_drop]; exact rises_drop' h5 a)]
    exact ⟨rfl, rfl⟩
  · obtain ⟨rfl, h3, h4, h5, h6, h7, h8⟩ := branch_facts h
    simp only [List.length_nil, Nat.zero_add] at h2
    have hne : kd.isEmpty = false := by
      cases kd with
      | nil => simp at h3
      | cons _ _ => rfl
    simp only [hne, Bool.false_eq_true, if_false]
    unfold rightB
    rw [branchB_mk (ks := ks.take (a - 1)) (kd := kd.take a) (by rw [List.length_take]; omega) (by rw [List.length_take]; omega) (by rw [List.length_take, List.length_take]; omega) (fun k hk => h6 k (List.mem_of_mem_take hk)) (fun k hk => h7 k (List.mem_of_mem_take hk)) (rises_take h8 _),
      branchB_mk (ks := ks.drop a) (kd := kd.drop a) (by rw [List.length_drop]; omega) (by rw [List.length_drop]; omega) (by rw [List.length_drop, List.length_drop]; omega) (fun k hk => h6 k (List.mem_of_mem_drop hk)) (fun k hk => h7 k (List.mem_of_mem_drop hk)) (rises_drop' h8 _)]
    simp
theorem cut_smalls {ps : List S39} {ks : List ByteArray} {kd : List Int} (h : smallB ps ks kd = true) (a : Nat) :
    smallB (cutN ps ks kd a).1 (cutN ps ks kd a).2.1 (cutN ps ks kd a).2.2.1 = true ∧ smallB (cutN ps ks kd a).2.2.2.1 (cutN ps ks kd a).2.2.2.2.1 (cutN ps ks kd a).2.2.2.2.2.1 = true := by
  simp only [smallB, Bool.and_eq_true, decide_eq_true_eq] at h ⊢
  unfold cutN
  split <;> simp <;> omega
def leftN (ps : List S39) (ks : List ByteArray) (kd : List Int) (a : Nat) : Nat := sizeN (cutN ps ks kd a).1 (cutN ps ks kd a).2.1 (cutN ps ks kd a).2.2.1
def rightN (ps : List S39) (ks : List ByteArray) (kd : List Int) (a : Nat) : Nat := sizeN (cutN ps ks kd a).2.2.2.1 (cutN ps ks kd a).2.2.2.2.1 (cutN ps ks kd a).2.2.2.2.2.1
def mostN (ps : List S39) (ks : List ByteArray) (kd : List Int) (a : Nat) : Nat := max (leftN ps ks kd a) (rightN ps ks kd a)
theorem most_at {ps : List S39} {ks : List ByteArray} {kd : List Int} (hs : smallB ps ks kd = true) (h : rightB ps ks kd = true) (a : Nat) (h1 : 1 ≤ a) (h2 : a < ps.length + kd.length) (x : ByteArray) :
    node_halves_most.f (cutN ps ks kd a).1 (cutN ps ks kd a).2.1 (cutN ps ks kd a).2.2.1 (cutN ps ks kd a).2.2.2.1 (cutN ps ks kd a).2.2.2.2.1 (cutN ps ks kd a).2.2.2.2.2.1 x = some (mostN ps ks kd a : Int) := by
  obtain ⟨r1, r2⟩ := halves_right h a h1 h2
  obtain ⟨s1, s2⟩ := cut_smalls hs a
  unfold node_halves_most.f node_Size.f
  rw [if_pos s1, if_pos s2, if_pos r1, if_pos r2, Option.bind_some, Option.bind_some]
  congr 1
  unfold mx mostN leftN rightN
  split <;> omega
theorem split_l0 {ps : List S39} {ks : List ByteArray} {kd : List Int} (hs : smallB ps ks kd = true) (h : rightB ps ks kd = true) (hc : 2 * leastN kd ≤ ps.length + kd.length) : ∀ (d k i b : Nat), i + d = ps.length + kd.length - leastN kd + 1 → d < k → leastN kd ≤ b → b < i → (∀ a, leastN kd ≤ a → a < i → mostN ps ks kd b ≤ mostN ps ks kd a) →
    ∃ c, leastN kd ≤ c ∧ c + leastN kd ≤ ps.length + kd.length ∧ (∀ a, leastN kd ≤ a → a + leastN kd ≤ ps.length + kd.length → mostN ps ks kd c ≤ mostN ps ks kd a) ∧
      node_Split.l0 k (leastN kd : Int) ((ps.length + kd.length : Nat) : Int) (i : Int) ps ks kd (cutN ps ks kd b).1 (cutN ps ks kd b).2.1 (cutN ps ks kd b).2.2.1 (cutN ps ks kd b).2.2.2.1 (cutN ps ks kd b).2.2.2.2.1 (cutN ps ks kd b).2.2.2.2.2.1 (cutN ps ks kd b).2.2.2.2.2.2 =
        some ((cutN ps ks kd c).1, (cutN ps ks kd c).2.1, (cutN ps ks kd c).2.2.1, (cutN ps ks kd c).2.2.2.2.2.2, (cutN ps ks kd c).2.2.2.1, (cutN ps ks kd c).2.2.2.2.1, (cutN ps ks kd c).2.2.2.2.2.1, 0) := by
  have hlen : ps.length + kd.length ≤ 255 := (right_facts h).2.1
  have hle : 1 ≤ leastN kd := by unfold leastN; split <;> omega
  intro d
  induction d with
  | zero =>
    intro k i b hi hk hb1 hb2 hm
    obtain ⟨k, rfl⟩ : ∃ m, k = m + 1 := ⟨k - 1, by omega⟩
    have e : wrap64 (((ps.length + kd.length : Nat) : Int) - (leastN kd : Int)) = ((ps.length + kd.length - leastN kd : Nat) : Int) := by unfold wrap64; omega
    refine ⟨b, hb1, by omega, fun a h1 h2 => hm a h1 (by omega), ?_⟩
    rw [node_Split.l0, e, if_neg (by omega)]
  | succ d ih =>
    intro k i b hi hk hb1 hb2 hm
    obtain ⟨k, rfl⟩ : ∃ m, k = m + 1 := ⟨k - 1, by omega⟩
    have e : wrap64 (((ps.length + kd.length : Nat) : Int) - (leastN kd : Int)) = ((ps.length + kd.length - leastN kd : Nat) : Int) := by unfold wrap64; omega
    rw [node_Split.l0, e, if_pos (by omega), cut_at h i (by omega) (by omega), Option.bind_some, most_at hs h i (by omega) (by omega), Option.bind_some, most_at hs h b (by omega) (by omega), Option.bind_some, w_add i (by omega)]
    by_cases hlt : (mostN ps ks kd i : Int) < (mostN ps ks kd b : Int)
    · rw [if_pos hlt]
      refine ih k (i + 1) i (by omega) (by omega) (by omega) (by omega) (fun a h1 h2 => ?_)
      rcases Nat.lt_or_ge a i with h3 | h3
      · have := hm a h1 h3
        omega
      · obtain rfl : a = i := by omega
        exact Nat.le_refl _
    · rw [if_neg hlt]
      refine ih k (i + 1) b (by omega) (by omega) hb1 (by omega) (fun a h1 h2 => ?_)
      rcases Nat.lt_or_ge a i with h3 | h3
      · exact hm a h1 h3
      · obtain rfl : a = i := by omega
        omega
/-- What Split answers: a cut whose larger half is the least, or the error. -/
theorem split_eq {ps : List S39} {ks : List ByteArray} {kd : List Int} (hs : smallB ps ks kd = true) (k : Nat) (hk : 400020 < k) :
    (rightB ps ks kd = true ∧ 2 * leastN kd ≤ ps.length + kd.length ∧ ∃ c, leastN kd ≤ c ∧ c + leastN kd ≤ ps.length + kd.length ∧ (∀ a, leastN kd ≤ a → a + leastN kd ≤ ps.length + kd.length → mostN ps ks kd c ≤ mostN ps ks kd a) ∧
      node_Split.f k ps ks kd = some ((cutN ps ks kd c).1, (cutN ps ks kd c).2.1, (cutN ps ks kd c).2.2.1, (cutN ps ks kd c).2.2.2.2.2.2, (cutN ps ks kd c).2.2.2.1, (cutN ps ks kd c).2.2.2.2.1, (cutN ps ks kd c).2.2.2.2.2.1, 0)) ∨
    (¬ (rightB ps ks kd = true ∧ 2 * leastN kd ≤ ps.length + kd.length) ∧ node_Split.f k ps ks kd = some ([], [], [], ⟨#[]⟩, [], [], [], 60)) := by
  have hs2 := hs
  simp only [smallB, Bool.and_eq_true, decide_eq_true_eq] at hs2
  obtain ⟨k, rfl⟩ : ∃ m, k = m + 1 + 1 := ⟨k - 2, by omega⟩
  have ew : wrap64 ((ps.length : Int) + (kd.length : Int)) = ((ps.length + kd.length : Nat) : Int) := by unfold wrap64; omega
  have hf : node_Split.f (k + 1 + 1) ps ks kd = node_Split.j0 (k + 1 + 1) (leastN kd : Int) ((ps.length + kd.length : Nat) : Int) ps ks kd := by
    unfold node_Split.f leastN
    rw [ew]
    cases kd with
    | nil => rfl
    | cons a b => rw [if_pos (by rw [List.length_cons]; omega)]; rfl
  have hl2 : leastN kd ≤ 2 := by unfold leastN; split <;> omega
  have hl1 : 1 ≤ leastN kd := by unfold leastN; split <;> omega
  rw [hf, node_Split.j0, right_eq ps ks kd hs _ (by omega), Option.bind_some]
  cases hr : rightB ps ks kd with
  | false =>
    right
    rw [if_neg (by simp), node_Split.j1, if_pos rfl]
    exact ⟨fun h => (by cases h.1), rfl⟩
  | true =>
    have e2 : wrap64 (2 * (leastN kd : Int)) = ((2 * leastN kd : Nat) : Int) := by unfold wrap64; omega
    rw [if_pos rfl, e2, node_Split.j1]
    by_cases hc : 2 * leastN kd ≤ ps.length + kd.length
    · left
      refine ⟨rfl, hc, ?_⟩
      rw [if_neg (by simp; omega), cut_at hr _ (by omega) (by omega), Option.bind_some, w_add _ (by omega)]
      have hlen : ps.length + kd.length ≤ 255 := (right_facts hr).2.1
      exact split_l0 hs hr hc (ps.length + kd.length - leastN kd - leastN kd) k (leastN kd + 1) (leastN kd) (by omega) (by omega) (Nat.le_refl _) (by omega) (fun a h1 h2 => by rw [show a = leastN kd by omega]; exact Nat.le_refl _)
    · right
      rw [if_pos (by simp; omega)]
      exact ⟨fun h => hc h.2, rfl⟩
end Go.Proofs.Ytejempihaknplaa.G
