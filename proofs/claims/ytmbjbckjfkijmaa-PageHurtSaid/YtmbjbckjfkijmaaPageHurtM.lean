/- The plain law of PageHurt: a page's bytes of which one was changed are no page's. No program in sight. -/
import Derived.Test.YtmbjbckjfkijmaaPageL
import Derived.Test.YtmbjbckjfkijmaaSumM4
namespace Go.Proofs.Ytmbjbckjfkijmaa

theorem wgt_set : ∀ (l : List UInt8) (i : Nat) (c d : UInt8), l[i]? = some c → d.toNat = c.toNat + (d.toNat - c.toNat) → c.toNat ≤ d.toNat → Sm.wgt (l.set i d) = Sm.wgt l + (l.length - i) * (d.toNat - c.toNat)
  | [], i, c, d, h, _, _ => by simp at h
  | x :: l, 0, c, d, h, h1, h2 => by
    simp at h
    subst h
    simp only [List.set_cons_zero, Sm.wgt, List.length_cons, Nat.sub_zero]
    rw [h1]
    rw [Nat.add_sub_cancel_left, Nat.mul_add]
    omega
  | x :: l, i + 1, c, d, h, h1, h2 => by
    have ih := wgt_set l i c d (by simpa using h) h1 h2
    simp only [List.set_cons_succ, Sm.wgt, List.length_set, List.length_cons, Nat.add_sub_add_right] at ih ⊢
    omega
theorem tot_set (l : List UInt8) (i : Nat) (c d : UInt8) (h : l[i]? = some c) (h2 : c.toNat ≤ d.toNat) : Sm.tot (l.set i d) = Sm.tot l + (d.toNat - c.toNat) := by
  obtain ⟨hi, rfl⟩ := List.getElem?_eq_some_iff.1 h
  rw [Sm.set_at l i d hi, Sm.tot_append, Sm.tot_cons]
  have h1 : Sm.tot l = Sm.tot (l.take i) + (l[i].toNat + Sm.tot (l.drop (i + 1))) := by
    conv => lhs; rw [Sm.split_at l i hi]
    rw [Sm.tot_append, Sm.tot_cons]
  omega
theorem tot_le (l : List UInt8) : Sm.tot l ≤ 255 * l.length := by
  induction l with
  | nil => simp [Sm.tot]
  | cons c l ih =>
    rw [Sm.tot_cons, List.length_cons]
    have := c.toNat_lt
    omega

/-- A page's bytes, in three parts. -/
structure PgB (l X : List UInt8) (n : Nat) : Prop where
  eq : l = X ++ (Sm.be4 (Sm.sumV X) ++ List.replicate (256 - (19 + n)) 0)
  len : X.length = 15 + n
  le : n ≤ 237
  b13 : X[13]? = some 0
  b14 : X[14]? = some (UInt8.ofNat n)
theorem PgB.of (k i t : Nat) (b : List UInt8) (h : b.length ≤ 237) : PgB (encL k i t b) (headL k i t b) b.length := by
  have h2 : be 2 b.length = [0, UInt8.ofNat b.length] := by
    simp only [be, Nat.pow_one, Nat.pow_zero, Nat.div_one]
    rw [Nat.div_eq_of_lt (by omega), Nat.mod_eq_of_lt (show b.length < 256 by omega)]
    rfl
  refine ⟨by simp [encL, sealL], headL_length _ _ _ _, h, ?_, ?_⟩
  · unfold headL
    rw [h2]
    simp [be_length, List.getElem?_append]
  · unfold headL
    rw [h2]
    simp [be_length, List.getElem?_append]
theorem PgB.at_low {l X : List UInt8} {n : Nat} (h : PgB l X n) (j : Nat) (hj : j < 15 + n) : l[j]? = X[j]? := by
  rw [h.eq, List.getElem?_append_left (by rw [h.len]; exact hj)]
theorem PgB.at_sum {l X : List UInt8} {n : Nat} (h : PgB l X n) (j : Nat) (hj : j < 4) : l[15 + n + j]? = (Sm.be4 (Sm.sumV X))[j]? := by
  rw [h.eq, List.getElem?_append_right (by rw [h.len]; omega), h.len, show 15 + n + j - (15 + n) = j by omega, List.getElem?_append_left (by simpa [Sm.be4] using hj)]
theorem PgB.at_end {l X : List UInt8} {n : Nat} (h : PgB l X n) (j : Nat) (h1 : 19 + n ≤ j) (h2 : j < 256) : l[j]? = some 0 := by
  have h4 : (Sm.be4 (Sm.sumV X)).length = 4 := rfl
  rw [h.eq, List.getElem?_append_right (by rw [h.len]; omega), h.len, List.getElem?_append_right (by rw [h4]; omega), h4, List.getElem?_replicate, if_pos (by have := h.le; omega)]
theorem PgB.length {l X : List UInt8} {n : Nat} (h : PgB l X n) : l.length = 256 := by
  have h4 : (Sm.be4 (Sm.sumV X)).length = 4 := rfl
  rw [h.eq, List.length_append, List.length_append, h.len, h4, List.length_replicate]
  have := h.le
  omega
theorem PgB.bytes {l X : List UInt8} {n : Nat} (h : PgB l X n) : l[15 + n]? = some (UInt8.ofNat (Sm.sumV X / 16777216)) ∧ l[16 + n]? = some (UInt8.ofNat (Sm.sumV X / 65536 % 256)) ∧ l[17 + n]? = some (UInt8.ofNat (Sm.sumV X / 256 % 256)) ∧ l[18 + n]? = some (UInt8.ofNat (Sm.sumV X % 256)) := by
  have h0 := h.at_sum 0 (by omega)
  have h1 := h.at_sum 1 (by omega)
  have h2 := h.at_sum 2 (by omega)
  have h3 := h.at_sum 3 (by omega)
  rw [show 15 + n + 1 = 16 + n by omega] at h1
  rw [show 15 + n + 2 = 17 + n by omega] at h2
  rw [show 15 + n + 3 = 18 + n by omega] at h3
  exact ⟨h0, h1, h2, h3⟩
theorem ofNat_inj (a b : Nat) (ha : a < 256) (hb : b < 256) (h : some (UInt8.ofNat a) = some (UInt8.ofNat b)) : a = b := by
  have h1 := congrArg UInt8.toNat (Option.some.inj h)
  rw [UInt8.toNat_ofNat', UInt8.toNat_ofNat', Nat.mod_eq_of_lt (by exact ha), Nat.mod_eq_of_lt (by exact hb)] at h1
  exact h1
theorem PgB.low {l X : List UInt8} {n : Nat} (h : PgB l X n) : Sm.sumV X % 65536 = 1 + Sm.tot X ∧ 1 + Sm.tot X < 65521 := by
  have h1 := Sm.adl_fst (1, 0) X (by simp)
  have h2 := tot_le X
  have h3 := h.le
  have h4 := h.len
  rw [Sm.sumV_mod, h1]
  simp only
  constructor
  · exact Nat.mod_eq_of_lt (by omega)
  · omega
theorem PgB.high {l X : List UInt8} {n : Nat} (_h : PgB l X n) : Sm.sumV X / 65536 = (X.length + Sm.wgt X) % 65521 := by
  have h1 := Sm.adl_snd 1 0 X (by omega)
  rw [Sm.sumV_div, h1]
  simp

theorem lo16 (N : Nat) : N % 65536 = N / 256 % 256 * 256 + N % 256 := by omega
theorem hi16 (N : Nat) : N / 65536 = N / 16777216 * 256 + N / 65536 % 256 := by omega
theorem no_sum (a b c d n T T' : Nat) (p0 : a < 256) (p1 : b < 256) (p2 : c < 256) (p3 : d < 256) (hn : n ≤ 236) (q1 : c * 256 + d = 1 + T) (q2 : d * 256 = 1 + T') (ht : T' = T + 1 + a) (hh : b * 256 + c = (a * 256 + b + (n + 1) + (1 + T')) % 65521) : False := by
  have h1 : a + d + 1 = 256 := by omega
  have h2 : d = c + 1 := by omega
  rcases Nat.lt_or_ge (a * 256 + b + (n + 1) + (1 + T')) 65521 with h | h
  · rw [Nat.mod_eq_of_lt h] at hh
    omega
  · rw [Nat.mod_eq_sub_mod h, Nat.mod_eq_of_lt (by omega)] at hh
    omega

/-- A page's bytes do not turn into a longer page's by one byte. -/
theorem PgB.no_longer {l l' X X' : List UInt8} {n n' : Nat} (h : PgB l X n) (h' : PgB l' X' n') (hn : n < n') (hj : ∀ j, j ≠ 14 → l'[j]? = l[j]?) : False := by
  have hle := h'.le
  obtain ⟨s0, s1, s2, s3⟩ := h.bytes
  obtain ⟨r0, r1, r2, r3⟩ := h'.bytes
  have hl := h.low
  have hl' := h'.low
  have hlt := Sm.sumV_lt X
  have hlt' := Sm.sumV_lt X'
  have z3 : Sm.sumV X' % 256 = 0 := by
    rw [hj _ (by omega), h.at_end (18 + n') (by omega) (by omega)] at r3
    exact (ofNat_inj 0 _ (by omega) (Nat.mod_lt _ (by omega)) r3).symm
  by_cases hd : n + 2 ≤ n'
  · have z2 : Sm.sumV X' / 256 % 256 = 0 := by
      rw [hj _ (by omega), h.at_end (17 + n') (by omega) (by omega)] at r2
      exact (ofNat_inj 0 _ (by omega) (Nat.mod_lt _ (by omega)) r2).symm
    omega
  · obtain rfl : n' = n + 1 := by omega
    have z2 : Sm.sumV X' / 256 % 256 = Sm.sumV X % 256 := by
      rw [hj _ (by omega), show 17 + (n + 1) = 18 + n by omega, s3] at r2
      exact (ofNat_inj _ _ (Nat.mod_lt _ (by omega)) (Nat.mod_lt _ (by omega)) r2).symm
    have z1 : Sm.sumV X' / 65536 % 256 = Sm.sumV X / 256 % 256 := by
      rw [hj _ (by omega), show 16 + (n + 1) = 17 + n by omega, s2] at r1
      exact (ofNat_inj _ _ (Nat.mod_lt _ (by omega)) (Nat.mod_lt _ (by omega)) r1).symm
    have z0 : Sm.sumV X' / 16777216 = Sm.sumV X / 65536 % 256 := by
      rw [hj _ (by omega), show 15 + (n + 1) = 16 + n by omega, s1] at r0
      exact (ofNat_inj _ _ (Nat.mod_lt _ (by omega)) (by omega) r0).symm
    have hc : (UInt8.ofNat n).toNat = n := by rw [UInt8.toNat_ofNat']; exact Nat.mod_eq_of_lt (by omega)
    have hd2 : (UInt8.ofNat (n + 1)).toNat = n + 1 := by rw [UInt8.toNat_ofNat']; exact Nat.mod_eq_of_lt (by omega)
    have hX : X' = X.set 14 (UInt8.ofNat (n + 1)) ++ [UInt8.ofNat (Sm.sumV X / 16777216)] := by
      apply List.ext_getElem?
      intro j
      rcases Nat.lt_trichotomy j (15 + n) with hjn | hjn | hjn
      · rw [List.getElem?_append_left (by rw [List.length_set, h.len]; exact hjn), List.getElem?_set]
        by_cases e : 14 = j
        · subst e
          rw [if_pos rfl, if_pos (by rw [h.len]; omega)]
          exact h'.b14
        · rw [if_neg e, ← h.at_low j hjn, ← hj j (fun x => e x.symm), h'.at_low j (by omega)]
      · subst hjn
        rw [List.getElem?_append_right (by rw [List.length_set, h.len]; exact Nat.le_refl _), List.length_set, h.len, ← h'.at_low _ (by omega), hj _ (by omega), s0]
        simp
      · rw [List.getElem?_eq_none (by rw [h'.len]; omega), List.getElem?_eq_none (by rw [List.length_append, List.length_set, h.len, List.length_singleton]; omega)]
    have ht : Sm.tot X' = Sm.tot X + 1 + Sm.sumV X / 16777216 := by
      rw [hX, Sm.tot_append, tot_set X 14 _ _ h.b14 (by omega), hc, hd2, Sm.tot_cons, Sm.tot_nil, UInt8.toNat_ofNat']
      omega
    have hc0 : (UInt8.ofNat (Sm.sumV X / 16777216)).toNat = Sm.sumV X / 16777216 := by rw [UInt8.toNat_ofNat']; exact Nat.mod_eq_of_lt (by omega)
    have hh' : Sm.sumV X' / 65536 = (Sm.sumV X / 65536 + (n + 1) + (1 + Sm.tot X')) % 65521 := by
      have e1 : (Sm.adl (1, 0) X').1 = 1 + Sm.tot X' := by rw [← Sm.sumV_mod]; exact hl'.1
      rw [Sm.sumV_div]
      rw [hX] at e1 ⊢
      rw [Sm.adl_snoc] at e1 ⊢
      have e2 := Sm.adl_snd 1 0 (X.set 14 (UInt8.ofNat (n + 1))) (by omega)
      rw [wgt_set X 14 _ _ h.b14 (by omega) (by omega), hc, hd2, List.length_set, h.len] at e2
      have e3 := h.high
      rw [h.len] at e3
      simp only [Sm.stp] at e1 ⊢
      rw [e1, e2, e3]
      generalize Sm.wgt X = W
      generalize Sm.tot (X.set 14 (UInt8.ofNat (n + 1)) ++ [UInt8.ofNat (Sm.sumV X / 16777216)]) = T
      rw [show n + 1 - n = 1 by omega]
      omega
    have q1 : Sm.sumV X / 256 % 256 * 256 + Sm.sumV X % 256 = 1 + Sm.tot X := by rw [← hl.1, lo16 (Sm.sumV X)]
    have q2 : Sm.sumV X % 256 * 256 = 1 + Sm.tot X' := by rw [← hl'.1, lo16 (Sm.sumV X'), z2, z3, Nat.add_zero]
    have q3 := hi16 (Sm.sumV X)
    have q4 : Sm.sumV X' / 65536 = Sm.sumV X / 65536 % 256 * 256 + Sm.sumV X / 256 % 256 := by rw [hi16 (Sm.sumV X'), z0, z1]
    rw [q3, q4] at hh'
    exact no_sum _ _ _ _ n _ _ (by omega) (Nat.mod_lt _ (by omega)) (Nat.mod_lt _ (by omega)) (Nat.mod_lt _ (by omega)) (by omega) q1 q2 ht hh'

/-- One byte of a page's bytes changed: they are no page's. -/
theorem hurt_none (k i t : Nat) (b : List UInt8) (j : Nat) (c : UInt8) (hb : b.length ≤ 237) (hj : j < 256) (hc : (encL k i t b)[j]? ≠ some c) : decB ((encL k i t b).set j c) = false := by
  cases hd : decB ((encL k i t b).set j c) with
  | false => rfl
  | true =>
    exfalso
    have h := PgB.of k i t b hb
    generalize hX : headL k i t b = X at h
    generalize hl : encL k i t b = l at *
    generalize b.length = n at *
    obtain ⟨g1, g2, g3, g4⟩ := (decB_iff _).1 hd
    have g5 := (rightB_iff _ _ _ _).1 g3
    have g6 := dBody_length _ g1 g2
    have h' := PgB.of (dKind (l.set j c)) (dId (l.set j c)) (dTx (l.set j c)) (dBody (l.set j c)) (by omega)
    rw [g4] at h'
    generalize headL (dKind (l.set j c)) (dId (l.set j c)) (dTx (l.set j c)) (dBody (l.set j c)) = X' at h'
    generalize (dBody (l.set j c)).length = n' at *
    have hlen := h.length
    have hget : ∀ i, i ≠ j → (l.set j c)[i]? = l[i]? := fun i hi => by rw [List.getElem?_set, if_neg (fun e => hi e.symm)]
    have hjc : (l.set j c)[j]? = some c := by rw [List.getElem?_set_self (by omega)]
    by_cases hnn : n = n'
    · subst hnn
      by_cases hjn : j < 19 + n
      · have e1 : l.take (19 + n) = X ++ Sm.be4 (Sm.sumV X) := by
          rw [h.eq, ← List.append_assoc, List.take_append_of_le_length (by rw [List.length_append, h.len, Sm.be4_length]; omega), List.take_of_length_le (by rw [List.length_append, h.len, Sm.be4_length]; omega)]
        have e2 : (l.set j c).take (19 + n) = X' ++ Sm.be4 (Sm.sumV X') := by
          rw [h'.eq, ← List.append_assoc, List.take_append_of_le_length (by rw [List.length_append, h'.len, Sm.be4_length]; omega), List.take_of_length_le (by rw [List.length_append, h'.len, Sm.be4_length]; omega)]
        have e3 : (l.set j c).take (19 + n) = (l.take (19 + n)).set j c := by
          rw [List.take_set]
        have e4 := Sm.openOk_seal X'
        have e5 := Sm.openOk_set X j c (by rw [List.length_append, h.len, Sm.be4_length]; omega) (fun e => by
          apply hc
          rw [h.eq, ← List.append_assoc, List.getElem?_append_left (by rw [List.length_append, h.len, Sm.be4_length]; omega), List.getElem?_eq_getElem, e])
        rw [← e1, ← e3, e2, e4] at e5
        cases e5
      · apply hc
        rw [h.at_end j (by omega) hj, ← hjc, h'.at_end j (by omega) hj]
    · have b14 : l[14]? = some (UInt8.ofNat n) := by rw [h.at_low 14 (by omega)]; exact h.b14
      have b14' : (l.set j c)[14]? = some (UInt8.ofNat n') := by rw [h'.at_low 14 (by omega)]; exact h'.b14
      have hj14 : j = 14 := by
        by_cases e : j = 14
        · exact e
        · exfalso
          rw [hget 14 (fun x => e x.symm), b14] at b14'
          exact hnn (ofNat_inj n n' (by have := h.le; omega) (by have := h'.le; omega) b14')
      subst hj14
      rcases Nat.lt_or_gt_of_ne hnn with hlt | hlt
      · exact h.no_longer h' hlt hget
      · exact h'.no_longer h hlt (fun i hi => (hget i hi).symm)
end Go.Proofs.Ytmbjbckjfkijmaa
