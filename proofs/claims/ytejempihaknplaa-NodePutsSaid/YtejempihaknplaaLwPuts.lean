/- NodePuts, in plain words: a pair put and deleted as the reference says. -/
import Derived.Test.YtejempihaknplaaNdG
import Derived.Test.YtejempihaknplaaGf6
namespace Go.Proofs.Ytejempihaknplaa.G
open Go.RowKit Go.Proofs.YtejempihaknplaaW.PrintWords Go.Proofs.YtejempihaknplaaW.PrintMore
theorem put_some (ps : List S39) (ks : List ByteArray) (kd : List Int) (hs : smallB ps ks kd = true) (s v : ByteArray) : ∃ Q : List S39, ∃ e : Int, node_Put.f ps ks kd s v = some (Q, [], [], e) ∧ Q.length ≤ 255 := by
  unfold node_Put.f
  rw [if_pos hs]
  by_cases h : (leafB ps ks kd && pOk ⟨s, v⟩ && decide ((putN ps ⟨s, v⟩).length ≤ 255)) = true
  · rw [if_pos h]
    refine ⟨_, _, rfl, ?_⟩
    simp only [Bool.and_eq_true, decide_eq_true_eq] at h
    exact h.2
  · rw [if_neg h]
    exact ⟨_, _, rfl, by simp⟩
theorem del_some (ps : List S39) (ks : List ByteArray) (kd : List Int) (hs : smallB ps ks kd = true) (s : ByteArray) : ∃ Q : List S39, ∃ b : Bool, ∃ e : Int, node_Delete.f ps ks kd s = some (Q, [], [], b, e) ∧ Q.length ≤ 100000 := by
  have hs2 := hs
  simp only [smallB, Bool.and_eq_true, decide_eq_true_eq] at hs2
  unfold node_Delete.f
  rw [if_pos hs]
  by_cases h : leafB ps ks kd = true
  · rw [if_pos h]
    refine ⟨_, _, _, rfl, ?_⟩
    have := List.length_filter_le (fun p : S39 => !(p.f0.toList == s.toList)) ps
    omega
  · rw [if_neg h]
    exact ⟨_, _, _, rfl, by simp⟩
theorem puts_law (ps : List S39) (ks : List ByteArray) (kd : List Int) (s v t : ByteArray) (k : Nat) (hk : 400020 < k) (hc : Cut ps ks kd) (hs : smallB ps ks kd = true) (hsz : s.size ≤ 70) :
    ((node_Put.f ps ks kd s v).bind fun bt419 => ((bazaarref06_Put.f k ps ks kd s v).bind fun bt430 => ((bazaarlaw06_text.f t).bind fun t441 => ((node_Delete.f ps ks kd t441).bind fun bt442 => ((bazaarlaw06_text.f t).bind fun t454 => ((bazaarref06_Delete.f k ps ks kd t454).bind fun bt455 => (if true = true then ((bazaarref06_Same.f k bt419.1 bt419.2.1 bt419.2.2.1 bt430.1 bt430.2.1 bt430.2.2.1).bind fun t467 => (if t467 = true then (if bt419.2.2.2 = bt430.2.2.2 then ((bazaarref06_Same.f k bt442.1 bt442.2.1 bt442.2.2.1 bt455.1 bt455.2.1 bt455.2.2.1).bind fun t468 => (if t468 = true then (if (bt442.2.2.2.1 == bt455.2.2.2.1) = true then (some (bt442.2.2.2.2 == bt455.2.2.2.2)) else (some false)) else (some false))) else (some false)) else (some false))) else (some false)))))))) = some true := by
  obtain ⟨Q, e, h1, hQ⟩ := put_some ps ks kd hs s v
  obtain ⟨D, b, g, h2, hD⟩ := del_some ps ks kd hs (txt t)
  have h3 := refPut_eq hc s v hsz k (by omega)
  have h4 := refDelete_eq hc (txt t) k (by omega)
  have h5 := same_eq Q [] [] (by omega) (by simp) (by simp) k (by simp; omega)
  have h6 := same_eq D [] [] (by omega) (by simp) (by simp) k (by simp; omega)
  rw [h3, h1, text_eq]
  simp only [Option.bind_some]
  rw [h4, h2]
  simp only [Option.bind_some]
  rw [if_pos trivial, h5, Option.bind_some, if_pos rfl, if_pos trivial, h6, Option.bind_some, if_pos rfl, if_pos (beq_self_eq_true b), beq_self_eq_true]
theorem nodePuts_plain (ps : List S39) (ks : List ByteArray) (kd : List Int) (s v t : ByteArray) (k : Nat) (hk : 400020 < k) : bazaarlaw06_NodePuts.f k ps ks kd s v t = some true := by
  unfold bazaarlaw06_NodePuts.f
  rw [shown_eq, Option.bind_some, cut_eq _ _ _ _ (by omega), Option.bind_some, text_eq, Option.bind_some, text_eq, Option.bind_some]
  have hc := cut_cut ps ks kd
  generalize cutP ps = ps at *
  generalize cutK ks = ks at *
  generalize cutD kd = kd at *
  exact puts_law ps ks kd (txt s) (txt v) t k hk hc hc.1 (txt_size s)
end Go.Proofs.Ytejempihaknplaa.G
