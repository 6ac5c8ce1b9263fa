/- Cutting a node, in plain words. No program's step in sight. -/
import Derived.Test.YtejempihaknplaaNdC
namespace Go.Proofs.Ytejempihaknplaa.G
open Go.RowKit Go.Proofs.YtejempihaknplaaW.PrintWords Go.Proofs.YtejempihaknplaaW.PrintMore
def cutN (ps : List S39) (ks : List ByteArray) (kd : List Int) (a : Nat) : List S39 × List ByteArray × List Int × List S39 × List ByteArray × List Int × ByteArray :=
  if kd.isEmpty then (ps.take a, [], [], ps.drop a, [], [], (ps[a]?.map (·.f0)).getD ⟨#[]⟩) else ([], ks.take (a - 1), kd.take a, [], ks.drop a, kd.drop a, ks[a - 1]?.getD ⟨#[]⟩)
def leastN (kd : List Int) : Nat := if kd.isEmpty then 1 else 2
theorem rises_take {l : List ByteArray} (h : risesB l = true) (a : Nat) : risesB (l.take a) = true := (rises_iff _).2 (((rises_iff _).1 h).sublist (List.take_sublist _ _))
theorem rises_drop' {l : List ByteArray} (h : risesB l = true) (a : Nat) : risesB (l.drop a) = true := (rises_iff _).2 (((rises_iff _).1 h).sublist (List.drop_sublist _ _))
theorem leafB_mk {ps : List S39} (h1 : ps.length ≤ 255) (h2 : ∀ p ∈ ps, pOk p = true) (h3 : risesB (ps.map (·.f0)) = true) : leafB ps [] [] = true := by
  unfold leafB
  rw [decide_eq_true h1, List.all_eq_true.2 h2, h3]
  rfl
theorem branchB_mk {ks : List ByteArray} {kd : List Int} (h1 : 1 ≤ kd.length) (h2 : kd.length ≤ 255) (h3 : ks.length + 1 = kd.length) (h4 : ∀ k ∈ kd, kidOk k = true) (h5 : ∀ k ∈ ks, kOk k = true) (h6 : risesB ks = true) : branchB [] ks kd = true := by
  unfold branchB
  rw [decide_eq_true h1, decide_eq_true h2, decide_eq_true h3, List.all_eq_true.2 h4, List.all_eq_true.2 h5, h6]
  rfl
/-- Both halves are right. -/
theorem halves_right {ps : List S39} {ks : List ByteArray} {kd : List Int} (h : rightB ps ks kd = true) (a : Nat) (h1 : 1 ≤ a) (h2 : a < ps.length + kd.length) :
    rightB (cutN ps ks kd a).1 (cutN ps ks kd a).2.1 (cutN ps ks kd a).2.2.1 = true ∧ rightB (cutN ps ks kd a).2.2.2.1 (cutN ps ks kd a).2.2.2.2.1 (cutN ps ks kd a).2.2.2.2.2.1 = true := by
  unfold cutN
  rcases right_or h with h | h
  · obtain ⟨rfl, rfl, h3, h4, h5⟩ := leaf_facts h
    simp only [List.isEmpty_nil, if_true]
    unfold rightB
    rw [leafB_mk (by rw [List.length_take]; omega) (fun p hp => h4 p (List.mem_of_mem_take hp)) (by rw [List.map_take]; exact rises_take h5 a),
      leafB_mk (by rw [List.length_drop]; omega) (fun p hp => h4 p (List.mem_of_mem_drop hp)) (by rw [List.map_drop]; exact rises_drop' h5 a)]
    exact ⟨rfl, rfl⟩
  · obtain ⟨rfl, h3, h4, h5, h6, h7, h8⟩ := branch_facts h
    simp only [List.length_nil, Nat.zero_add] at h2
    have hne : kd.isEmpty = false := by
      cases kd with
      | nil => simp at h3
      | cons _ _ => rfl
    simp only [hne, Bool.false_eq_true, if_false]
    unfold rightB
    rw [branchB_mk (ks := ks.take (a - 1)) (kd := kd.take a) (by rw [List.length_take]; omega) (by rw [List.length_take]; omega) (by rw [List.length_take, List.length_take]; omega) (fun k hk => h6 k (List.mem_of_mem_take hk)) (fun k hk => h7 k (List.mem_of_mem_take hk)) (rises_take h8 _),
      branchB_mk (ks := ks.drop a) (kd := kd.drop a) (by rw [List.length_drop]; omega) (by rw [List.length_drop]; omega) (by rw [List.length_drop, List.length_drop]; omega) (fun k hk => h6 k (List.mem_of_mem_drop hk)) (fun k hk => h7 k (List.mem_of_mem_drop hk)) (rises_drop' h8 _)]
    simp
theorem cut_smalls {ps : List S39} {ks : List ByteArray} {kd : List Int} (h : smallB ps ks kd = true) (a : Nat) :
    smallB (cutN ps ks kd a).1 (cutN ps ks kd a).2.1 (cutN ps ks kd a).2.2.1 = true ∧ smallB (cutN ps ks kd a).2.2.2.1 (cutN ps ks kd a).2.2.2.2.1 (cutN ps ks kd a).2.2.2.2.2.1 = true := by
  simp only [smallB, Bool.and_eq_true, decide_eq_true_eq] at h ⊢
  unfold cutN
  split <;> simp <;> omega
def leftN (ps : List S39) (ks : List ByteArray) (kd : List Int) (a : Nat) : Nat := sizeN (cutN ps ks kd a).1 (cutN ps ks kd a).2.1 (cutN ps ks kd a).2.2.1
def rightN (ps : List S39) (ks : List ByteArray) (kd : List Int) (a : Nat) : Nat := sizeN (cutN ps ks kd a).2.2.2.1 (cutN ps ks kd a).2.2.2.2.1 (cutN ps ks kd a).2.2.2.2.2.1
def mostN (ps : List S39) (ks : List ByteArray) (kd : List Int) (a : Nat) : Nat := max (leftN ps ks kd a) (rightN ps ks kd a)

end Go.Proofs.Ytejempihaknplaa.G
