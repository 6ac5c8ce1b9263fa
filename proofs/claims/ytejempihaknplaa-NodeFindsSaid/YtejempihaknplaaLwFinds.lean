/- NodeFinds, in plain words: what is put is there, and what is deleted is not; all others stay. -/
import Derived.Test.YtejempihaknplaaNdH
import Derived.Test.YtejempihaknplaaGf7
namespace Go.Proofs.Ytejempihaknplaa.G
open Go.RowKit Go.Proofs.YtejempihaknplaaW.PrintWords Go.Proofs.YtejempihaknplaaW.PrintMore

theorem finds_j0 (k : Nat) (x8 : Int) (x10 : Bool) (x13 : Bool) (ps Q F G : List S39) (s v : ByteArray) (h0 : 0 ≤ x8) (h1 : x8 < (Q.length : Int)) (hq : rd_T39 Q x8 = ⟨s, v⟩) (hx : x10 = true) (hFG : F = G) (hl : F.length ≤ 1000000) (hk : F.length + 4 < k)
    (hlen : (Q.length : Int) = wrap64 ((ps.length : Int) + (if x13 = true then 0 else 1))) :
    bazaarlaw06_NodeFinds.j0 (k + 1) true x8 x10 0 x13 0 false ps [] [] s v Q [] [] F [] [] G [] [] = some true := by
  subst hFG
  subst hx
  have hs := same_eq F [] [] hl (by simp) (by simp) k (by simpa using hk)
  simp only [bazaarlaw06_NodeFinds.j0]
  rw [if_neg (by simp)]
  cases x13 with
  | true =>
    rw [if_pos rfl] at hlen
    rw [if_pos rfl, if_pos trivial, if_pos h0, if_pos h1, hq, if_pos (by simp), if_pos trivial, if_pos trivial, if_pos trivial, hs, Option.bind_some, if_pos rfl, hlen]
    simp
  | false =>
    rw [if_neg (by simp)] at hlen
    rw [if_neg (by simp), if_pos trivial, if_pos h0, if_pos h1, hq, if_pos (by simp), if_pos trivial, if_pos trivial, if_pos trivial, hs, Option.bind_some, if_pos rfl, hlen]
    simp
theorem finds_yes (ps : List S39) (s v : ByteArray) (hs : smallB ps [] [] = true) (hl : leafB ps [] [] = true) (hp : pOk ⟨s, v⟩ = true) (h255 : (putN ps ⟨s, v⟩).length ≤ 255) (k : Nat) (hk : 400100 < k) :
    ((node_Place.f k (putN ps ⟨s, v⟩) [] [] s).bind fun t334 => ((node_Delete.f (putN ps ⟨s, v⟩) [] [] s).bind fun bt335 => ((node_Delete.f ps [] [] s).bind fun bt347 => (if t334 < 0 then (bazaarlaw06_NodeFinds.j0 k true t334 bt335.2.2.2.1 bt335.2.2.2.2 bt347.2.2.2.1 bt347.2.2.2.2 true ps [] [] s v (putN ps ⟨s, v⟩) [] [] bt335.1 bt335.2.1 bt335.2.2.1 bt347.1 bt347.2.1 bt347.2.2.1) else (if t334 ≥ ((putN ps ⟨s, v⟩).length : Int) then (bazaarlaw06_NodeFinds.j0 k true t334 bt335.2.2.2.1 bt335.2.2.2.2 bt347.2.2.2.1 bt347.2.2.2.2 true ps [] [] s v (putN ps ⟨s, v⟩) [] [] bt335.1 bt335.2.1 bt335.2.2.1 bt347.1 bt347.2.1 bt347.2.2.1) else ((node_Right.f k (putN ps ⟨s, v⟩) [] []).bind fun t359 => (bazaarlaw06_NodeFinds.j0 k true t334 bt335.2.2.2.1 bt335.2.2.2.2 bt347.2.2.2.1 bt347.2.2.2.2 (!t359) ps [] [] s v (putN ps ⟨s, v⟩) [] [] bt335.1 bt335.2.1 bt335.2.2.1 bt347.1 bt347.2.1 bt347.2.2.1))))))) = some true := by
  have hps : ps.length ≤ 255 := by
    simp only [leafB, Bool.and_eq_true, decide_eq_true_eq] at hl
    exact hl.1.1.2
  obtain ⟨hlQ, ⟨hpl, hget⟩, hfil, hlen⟩ := put_facts hl ⟨s, v⟩ hp h255
  dsimp only at hpl hget hfil hlen
  generalize putN ps ⟨s, v⟩ = Q at *
  have hsQ : smallB Q [] [] = true := by simp [smallB]; omega
  have hrQ : rightB Q [] [] = true := by unfold rightB; rw [hlQ]; rfl
  obtain ⟨k, rfl⟩ : ∃ m, k = m + 1 := ⟨k - 1, by omega⟩
  rw [place_eq Q [] [] s hsQ _ (by omega), right_eq Q [] [] hsQ _ (by omega)]
  unfold node_Delete.f
  rw [if_pos hsQ, if_pos hlQ, if_pos hs, if_pos hl]
  simp only [Option.bind_some]
  rw [if_neg (by omega), if_neg (by omega), hrQ]
  have h13 : (decide ((ps.filter fun p => !(p.f0.toList == s.toList)).length < ps.length) = true ∧ Q.length = ps.length) ∨ (decide ((ps.filter fun p => !(p.f0.toList == s.toList)).length < ps.length) = false ∧ Q.length = ps.length + 1) := by
    rcases hlen with ⟨h1, h2⟩ | ⟨h1, h2⟩
    · exact .inl ⟨decide_eq_true h1, h2⟩
    · exact .inr ⟨decide_eq_false h1, h2⟩
  have hflt : (Q.filter fun p => !(p.f0.toList == s.toList)).length < Q.length := by
    rw [hfil]
    have := List.length_filter_le (fun p : S39 => !(p.f0.toList == s.toList)) ps
    rcases hlen with ⟨h1, h2⟩ | ⟨h1, h2⟩ <;> omega
  have hfl := List.length_filter_le (fun p : S39 => !(p.f0.toList == s.toList)) Q
  refine finds_j0 k _ _ _ ps Q _ _ s v (by omega) (by omega) ?_ (decide_eq_true hflt) hfil (by omega) (by omega) ?_
  · rw [rdT_nat Q _ hpl]
    exact hget
  · rcases h13 with ⟨h1, h2⟩ | ⟨h1, h2⟩
    · rw [h1, if_pos rfl, h2]
      unfold wrap64
      omega
    · rw [h1, if_neg (by simp), h2]
      unfold wrap64
      omega
theorem nodeFinds_plain (ps : List S39) (ks : List ByteArray) (kd : List Int) (s v : ByteArray) (k : Nat) (hk : 400100 < k) : bazaarlaw06_NodeFinds.f k ps ks kd s v = some true := by
  unfold bazaarlaw06_NodeFinds.f
  rw [shown_eq, Option.bind_some, cut_eq _ _ _ _ (by omega), Option.bind_some, text_eq, Option.bind_some, text_eq, Option.bind_some]
  have hs := cut_small ps ks kd
  generalize cutP ps = ps at *
  generalize cutK ks = ks at *
  generalize cutD kd = kd at *
  generalize txt s = s at *
  generalize txt v = v at *
  simp only []
  by_cases h : (leafB ps ks kd && pOk ⟨s, v⟩ && decide ((putN ps ⟨s, v⟩).length ≤ 255)) = true
  · have hp : node_Put.f ps ks kd s v = some (putN ps ⟨s, v⟩, [], [], 0) := by unfold node_Put.f; rw [if_pos hs, if_pos h]
    simp only [Bool.and_eq_true, decide_eq_true_eq] at h
    obtain ⟨⟨hl, hpk⟩, h255⟩ := h
    obtain ⟨rfl, rfl⟩ : ks = [] ∧ kd = [] := by
      have := hl
      simp only [leafB, Bool.and_eq_true, List.isEmpty_iff] at this
      exact ⟨this.1.1.1.1, this.1.1.1.2⟩
    rw [hp, Option.bind_some, if_pos rfl]
    exact finds_yes ps s v hs hl hpk h255 k hk
  · have hp : node_Put.f ps ks kd s v = some ([], [], [], 60) := by unfold node_Put.f; rw [if_pos hs, if_neg h]
    rw [hp, Option.bind_some, if_neg (by simp), if_pos trivial]
    rfl
end Go.Proofs.Ytejempihaknplaa.G
