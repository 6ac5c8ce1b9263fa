/- NodeHalves, in plain words: a node at most 86 bytes above what fits makes two that fit, are right, and are less, and not less than the key. -/
import Derived.Test.YtejempihaknplaaNdK
import Derived.Test.YtejempihaknplaaNdR
import Derived.Test.YtejempihaknplaaGf8
namespace Go.Proofs.Ytejempihaknplaa.G
open Go.RowKit Go.Proofs.YtejempihaknplaaW.PrintWords Go.Proofs.YtejempihaknplaaW.PrintMore

theorem climb (P : Nat → Nat) (B : Nat) : ∀ (d m n : Nat), m + d = n → P m ≤ B → ∃ c, m ≤ c ∧ c ≤ n ∧ P c ≤ B ∧ (c = n ∨ B < P (c + 1))
  | 0, m, n, h, hm => ⟨m, Nat.le_refl _, by omega, hm, .inl (by omega)⟩
  | d + 1, m, n, h, hm => by
    rcases Nat.lt_or_ge B (P (m + 1)) with h1 | h1
    · exact ⟨m, Nat.le_refl _, by omega, hm, .inr h1⟩
    · obtain ⟨c, h2, h3, h4, h5⟩ := climb P B d (m + 1) n (by omega) h1
      exact ⟨c, by omega, h3, h4, h5⟩
theorem sumP_split (ps : List S39) (a : Nat) : sumP (ps.take a) + sumP (ps.drop a) = sumP ps := by
  unfold sumP
  rw [← List.sum_append_nat, ← List.map_append, List.take_append_drop]
theorem sumK_split (ks : List ByteArray) (a : Nat) : sumK (ks.take a) + sumK (ks.drop a) = sumK ks := by
  unfold sumK
  rw [← List.sum_append_nat, ← List.map_append, List.take_append_drop]
theorem sumP_step (ps : List S39) (a : Nat) (h : a < ps.length) : sumP (ps.take (a + 1)) = sumP (ps.take a) + (2 + ps[a].f0.size + ps[a].f1.size) := by
  unfold sumP
  rw [List.take_succ_eq_append_getElem h, List.map_append, List.sum_append_nat]
  simp
theorem sumK_step (ks : List ByteArray) (a : Nat) (h : a < ks.length) : sumK (ks.take (a + 1)) = sumK (ks.take a) + (5 + ks[a].size) := by
  unfold sumK
  rw [List.take_succ_eq_append_getElem h, List.map_append, List.sum_append_nat]
  simp
/-- Some cut fits. -/
theorem some_fits {ps : List S39} {ks : List ByteArray} {kd : List Int} (h : rightB ps ks kd = true) (hc : 2 * leastN kd ≤ ps.length + kd.length) (hsz : sizeN ps ks kd ≤ 323) :
    ∃ a, leastN kd ≤ a ∧ a + leastN kd ≤ ps.length + kd.length ∧ mostN ps ks kd a ≤ 237 := by
  rcases right_or h with h | h
  · obtain ⟨rfl, rfl, h3, h4, h5⟩ := leaf_facts h
    have hl : leastN [] = 1 := rfl
    rw [hl] at hc ⊢
    simp only [List.length_nil, Nat.add_zero] at hc ⊢
    have hp : ∀ i (hi : i < ps.length), 2 + ps[i].f0.size + ps[i].f1.size ≤ 86 := by
      intro i hi
      have := h4 _ (List.getElem_mem hi)
      simp only [pOk, kOk, Bool.and_eq_true, decide_eq_true_eq] at this
      omega
    have hS : sizeN ps [] [] = 1 + sumP ps := rfl
    have h1 : sumP (ps.take 1) ≤ 86 := by
      have e := sumP_step ps 0 (by omega)
      have := hp 0 (by omega)
      have e0 : sumP (ps.take 0) = 0 := rfl
      rw [show (0 + 1 : Nat) = 1 from rfl] at e
      omega
    obtain ⟨c, c1, c2, c3, c4⟩ := climb (fun i => sumP (ps.take i)) 236 (ps.length - 2) 1 (ps.length - 1) (by omega) (by omega)
    refine ⟨c, c1, by omega, ?_⟩
    have eL : leftN ps [] [] c = 1 + sumP (ps.take c) := rfl
    have eR : rightN ps [] [] c = 1 + sumP (ps.drop c) := rfl
    have hsp := sumP_split ps c
    have hst := sumP_step ps c (by omega)
    have hpc := hp c (by omega)
    unfold mostN
    rw [eL, eR]
    rcases c4 with c4 | c4
    · have hst2 : sumP (ps.take (c + 1)) = sumP ps := by rw [List.take_of_length_le (by omega)]
      omega
    · omega
  · obtain ⟨rfl, h3, h4, h5, h6, h7, h8⟩ := branch_facts h
    have hne : kd.isEmpty = false := by
      cases kd with
      | nil => simp at h3
      | cons _ _ => rfl
    have hl : leastN kd = 2 := by unfold leastN; rw [hne]; rfl
    rw [hl] at hc ⊢
    simp only [List.length_nil, Nat.zero_add] at hc ⊢
    have hp : ∀ i (hi : i < ks.length), 5 + ks[i].size ≤ 29 := by
      intro i hi
      have := h7 _ (List.getElem_mem hi)
      simp only [kOk, Bool.and_eq_true, decide_eq_true_eq] at this
      omega
    have hS : sizeN [] ks kd = 5 + sumK ks := by unfold sizeN; rw [hne]; rfl
    have h1 : sumK (ks.take 1) ≤ 29 := by
      have e := sumK_step ks 0 (by omega)
      have := hp 0 (by omega)
      have e0 : sumK (ks.take 0) = 0 := rfl
      rw [show (0 + 1 : Nat) = 1 from rfl] at e
      omega
    obtain ⟨c, c1, c2, c3, c4⟩ := climb (fun i => sumK (ks.take i)) 232 (kd.length - 4) 1 (kd.length - 3) (by omega) (by omega)
    refine ⟨c + 1, by omega, by omega, ?_⟩
    have eL : leftN [] ks kd (c + 1) = 5 + sumK (ks.take c) := by
      unfold leftN cutN sizeN
      rw [hne]
      have : (kd.take (c + 1)).isEmpty = false := by
        cases kd with
        | nil => simp at h3
        | cons _ _ => rfl
      simp [this]
    have eR : rightN [] ks kd (c + 1) = 5 + sumK (ks.drop (c + 1)) := by
      unfold rightN cutN sizeN
      rw [hne]
      have : (kd.drop (c + 1)).isEmpty = false := by
        rw [List.isEmpty_eq_false_iff]
        intro e
        have := congrArg List.length e
        rw [List.length_drop] at this
        simp at this
        omega
      simp [this]
    have hsp := sumK_split ks (c + 1)
    have hst := sumK_step ks c (by omega)
    unfold mostN
    rw [eL, eR]
    rcases c4 with c4 | c4
    · have hst2 := sumK_step ks (c + 1) (by omega)
      have hpc := hp (c + 1) (by omega)
      have hst3 : sumK (ks.take (c + 1 + 1)) = sumK ks := by rw [List.take_of_length_le (by omega)]
      omega
    · omega
theorem halves_l1 (s : ByteArray) (Q : List S39) (ks : List ByteArray) (kd : List Int) (hl : Q.length ≤ 100000) (hs : s.size ≤ 70) (hp : ∀ p ∈ Q, p.f0.size ≤ 70 ∧ blt p.f0 s = false) : ∀ (d k i : Nat), i + d = Q.length → d + 3000 < k →
    bazaarlaw06_NodeHalves.l1 k true s (i : Int) Q ks kd = some true
  | 0, k, i, hi, hk => by
    obtain ⟨k, rfl⟩ : ∃ m, k = m + 1 := ⟨k - 1, by omega⟩
    rw [bazaarlaw06_NodeHalves.l1, if_neg (by omega)]
  | d + 1, k, i, hi, hk => by
    obtain ⟨k, rfl⟩ : ∃ m, k = m + 1 := ⟨k - 1, by omega⟩
    have hlt : i < Q.length := by omega
    have h0 := hp _ (List.getElem_mem hlt)
    rw [bazaarlaw06_NodeHalves.l1, if_pos (by omega), if_pos (by omega), rdT_nat Q i hlt, refLess_eq _ _ (by omega) (by omega) k (by omega), Option.bind_some, h0.2, if_neg (by simp), w_add i (by omega), halves_l1 s Q ks kd hl hs hp d k (i + 1) (by omega) (by omega)]
theorem halves_l0 (s : ByteArray) (P Q : List S39) (k1 k2 : List ByteArray) (d1 d2 : List Int) (hlp : P.length ≤ 100000) (hl : Q.length ≤ 100000) (hs : s.size ≤ 70) (hP : ∀ p ∈ P, p.f0.size ≤ 70 ∧ blt p.f0 s = true) (hQ : ∀ p ∈ Q, p.f0.size ≤ 70 ∧ blt p.f0 s = false) : ∀ (d k i : Nat), i + d = P.length → d + 103010 < k →
    bazaarlaw06_NodeHalves.l0 k true s (i : Int) P k1 d1 Q k2 d2 = some true
  | 0, k, i, hi, hk => by
    obtain ⟨k, rfl⟩ : ∃ m, k = m + 1 := ⟨k - 1, by omega⟩
    rw [bazaarlaw06_NodeHalves.l0, if_neg (by omega)]
    exact halves_l1 s Q k2 d2 hl hs hQ Q.length k 0 (by omega) (by omega)
  | d + 1, k, i, hi, hk => by
    obtain ⟨k, rfl⟩ : ∃ m, k = m + 1 := ⟨k - 1, by omega⟩
    have hlt : i < P.length := by omega
    have h0 := hP _ (List.getElem_mem hlt)
    rw [bazaarlaw06_NodeHalves.l0, if_pos (by omega), if_pos (by omega), rdT_nat P i hlt, refLess_eq _ _ (by omega) (by omega) k (by omega), Option.bind_some, h0.2, if_pos rfl, w_add i (by omega), halves_l0 s P Q k1 k2 d1 d2 hlp hl hs hP hQ d k (i + 1) (by omega) (by omega)]
/-- The keys of the halves. -/
theorem halves_keys {ps : List S39} {ks : List ByteArray} {kd : List Int} (h : rightB ps ks kd = true) (c : Nat) (h1 : 1 ≤ c) (h2 : c < ps.length + kd.length) :
    (cutN ps ks kd c).2.2.2.2.2.2.size ≤ 24 ∧ (cutN ps ks kd c).1.length ≤ 255 ∧ (cutN ps ks kd c).2.2.2.1.length ≤ 255 ∧ (∀ p ∈ (cutN ps ks kd c).1, p.f0.size ≤ 70 ∧ blt p.f0 (cutN ps ks kd c).2.2.2.2.2.2 = true) ∧ (∀ p ∈ (cutN ps ks kd c).2.2.2.1, p.f0.size ≤ 70 ∧ blt p.f0 (cutN ps ks kd c).2.2.2.2.2.2 = false) := by
  unfold cutN
  rcases right_or h with h | h
  · obtain ⟨rfl, rfl, h3, h4, h5⟩ := leaf_facts h
    simp only [List.length_nil, Nat.add_zero] at h2
    have hri := (rises_iff _).1 h5
    have hsz : ∀ p ∈ ps, p.f0.size ≤ 24 := by
      intro p hp
      have := h4 p hp
      simp only [pOk, kOk, Bool.and_eq_true, decide_eq_true_eq] at this
      omega
    simp only [List.isEmpty_nil, if_true, List.getElem?_eq_getElem h2, Option.map_some, Option.getD_some]
    refine ⟨hsz _ (List.getElem_mem h2), by rw [List.length_take]; omega, by rw [List.length_drop]; omega, ?_, ?_⟩
    · intro p hp
      refine ⟨by have := hsz p (List.mem_of_mem_take hp); omega, ?_⟩
      obtain ⟨q, hq, rfl⟩ := List.mem_iff_getElem.1 hp
      rw [List.length_take] at hq
      rw [List.getElem_take]
      have := List.pairwise_iff_getElem.1 hri q c (by simp; omega) (by simp; omega) (by omega)
      simpa using this
    · intro p hp
      refine ⟨by have := hsz p (List.mem_of_mem_drop hp); omega, ?_⟩
      obtain ⟨q, hq, rfl⟩ := List.mem_iff_getElem.1 hp
      rw [List.length_drop] at hq
      rw [List.getElem_drop]
      cases q with
      | zero => exact blt_irr _
      | succ q =>
        have := List.pairwise_iff_getElem.1 hri c (c + (q + 1)) (by simp; omega) (by simp; omega) (by omega)
        simp only [List.getElem_map] at this
        exact blt_asymm this
  · obtain ⟨rfl, h3, h4, h5, h6, h7, h8⟩ := branch_facts h
    simp only [List.length_nil, Nat.zero_add] at h2
    have hne : kd.isEmpty = false := by
      cases kd with
      | nil => simp at h3
      | cons _ _ => rfl
    simp only [hne, Bool.false_eq_true, if_false, List.getElem?_eq_getElem (show c - 1 < ks.length by omega), Option.getD_some]
    have := h7 _ (List.getElem_mem (show c - 1 < ks.length by omega))
    simp only [kOk, Bool.and_eq_true, decide_eq_true_eq] at this
    exact ⟨this.2, by simp, by simp, fun p hp => (by cases hp), fun p hp => (by cases hp)⟩
theorem sizeN_ge (ps : List S39) (ks : List ByteArray) (kd : List Int) : 1 ≤ sizeN ps ks kd := by
  unfold sizeN
  split <;> omega
theorem halves_yes (A B : List S39) (a1 b1 : List ByteArray) (a2 b2 : List Int) (s : ByteArray) (k : Nat) (hk : 400100 < k) (sa : smallB A a1 a2 = true) (sb : smallB B b1 b2 = true) (ra : rightB A a1 a2 = true) (rb : rightB B b1 b2 = true) (za : sizeN A a1 a2 ≤ 237) (zb : sizeN B b1 b2 ≤ 237)
    (hs : s.size ≤ 24) (hA : A.length ≤ 255) (hB : B.length ≤ 255) (hP : ∀ p ∈ A, p.f0.size ≤ 70 ∧ blt p.f0 s = true) (hQ : ∀ p ∈ B, p.f0.size ≤ 70 ∧ blt p.f0 s = false) :
    bazaarlaw06_NodeHalves.j0 k true s 0 false A a1 a2 B b1 b2 = some true := by
  obtain ⟨k, rfl⟩ : ∃ m, k = m + 1 + 1 := ⟨k - 2, by omega⟩
  have ga := sizeN_ge A a1 a2
  have gb := sizeN_ge B b1 b2
  have fa : node_Size.f A a1 a2 = some (sizeN A a1 a2 : Int) := by unfold node_Size.f; rw [if_pos sa, if_pos ra]
  have fb : node_Size.f B b1 b2 = some (sizeN B b1 b2 : Int) := by unfold node_Size.f; rw [if_pos sb, if_pos rb]
  rw [bazaarlaw06_NodeHalves.j0, if_neg (by simp), right_eq A a1 a2 sa _ (by omega), Option.bind_some, if_pos ra, right_eq B b1 b2 sb _ (by omega), Option.bind_some, if_pos rb, fa, Option.bind_some, if_neg (by omega), fb, Option.bind_some, if_neg (by omega), Option.bind_some, if_neg (by omega), Option.bind_some, decide_eq_false (by omega), bazaarlaw06_NodeHalves.j1, if_neg (by simp)]
  exact halves_l0 s A B a1 b1 a2 b2 (by omega) (by omega) (by omega) hP hQ A.length k 0 (by omega) (by omega)
theorem halves_law (ps : List S39) (ks : List ByteArray) (kd : List Int) (hs : smallB ps ks kd = true) (k : Nat) (hk : 400100 < k) :
    ((node_Split.f k ps ks kd).bind fun bt564 => (if bt564.2.2.2.2.2.2.2 = 0 then ((node_Size.f ps ks kd).bind fun t586 => (bazaarlaw06_NodeHalves.j0 k true bt564.2.2.2.1 bt564.2.2.2.2.2.2.2 (decide (t586 > 323)) bt564.1 bt564.2.1 bt564.2.2.1 bt564.2.2.2.2.1 bt564.2.2.2.2.2.1 bt564.2.2.2.2.2.2.1)) else (bazaarlaw06_NodeHalves.j0 k true bt564.2.2.2.1 bt564.2.2.2.2.2.2.2 true bt564.1 bt564.2.1 bt564.2.2.1 bt564.2.2.2.2.1 bt564.2.2.2.2.2.1 bt564.2.2.2.2.2.2.1))) = some true := by
  have hl1 : 1 ≤ leastN kd := by unfold leastN; split <;> omega
  rcases split_eq hs k (by omega) with ⟨hr, hc, c, c1, c2, c3, hf⟩ | ⟨_, hf⟩
  · rw [hf, Option.bind_some, if_pos rfl]
    have fs : node_Size.f ps ks kd = some (sizeN ps ks kd : Int) := by unfold node_Size.f; rw [if_pos hs, if_pos hr]
    rw [fs, Option.bind_some]
    by_cases hz : sizeN ps ks kd ≤ 323
    · rw [decide_eq_false (by omega)]
      obtain ⟨a, a1, a2, a3⟩ := some_fits hr hc hz
      have hm := c3 a a1 a2
      obtain ⟨r1, r2⟩ := halves_right hr c (by omega) (by omega)
      obtain ⟨s1, s2⟩ := cut_smalls hs c
      obtain ⟨k1, k2, k3, k4, k5⟩ := halves_keys hr c (by omega) (by omega)
      have hm2 : max (leftN ps ks kd c) (rightN ps ks kd c) ≤ 237 := Nat.le_trans hm a3
      exact halves_yes _ _ _ _ _ _ _ k hk s1 s2 r1 r2 (by have : leftN ps ks kd c ≤ 237 := by omega
                                                          exact this) (by have : rightN ps ks kd c ≤ 237 := by omega
                                                                          exact this) k1 k2 k3 k4 k5
    · obtain ⟨k, rfl⟩ : ∃ m, k = m + 1 := ⟨k - 1, by omega⟩
      rw [decide_eq_true (by omega), bazaarlaw06_NodeHalves.j0, if_pos rfl, if_pos rfl, if_pos rfl]
  · obtain ⟨k, rfl⟩ : ∃ m, k = m + 1 := ⟨k - 1, by omega⟩
    rw [hf, Option.bind_some, if_neg (by simp), bazaarlaw06_NodeHalves.j0, if_pos rfl, if_pos rfl, if_neg (by simp)]
    rfl
theorem nodeHalves_plain (ps : List S39) (ks : List ByteArray) (kd : List Int) (k : Nat) (hk : 400100 < k) : bazaarlaw06_NodeHalves.f k ps ks kd = some true := by
  unfold bazaarlaw06_NodeHalves.f
  rw [shown_eq, Option.bind_some, cut_eq _ _ _ _ (by omega), Option.bind_some]
  exact halves_law (cutP ps) (cutK ks) (cutD kd) (cut_small ps ks kd) k hk
end Go.Proofs.Ytejempihaknplaa.G
