/- The plain law of MetaTorn: what a torn store leaves of what is loaded. No program in sight. -/
import Derived.Test.YtdaoiimjflplhaaMetaP
namespace Go.Proofs.Ytdaoiimjflplhaa
open Go.RowKit Go.Shelf

theorem rd_new (n j : Nat) (h : j < n) : (Dk.new n).rd j = List.replicate 64 0 := by
  unfold Dk.rd Dk.new Dk.over
  simp [h]
theorem enc_tail (t r h f : Nat) : (mEnc t r h f).drop 56 = be 8 t := by
  unfold mEnc
  rw [show be 8 t ++ (be 4 r ++ (be 4 h ++ (be 4 f ++ (List.replicate 36 0 ++ be 8 t)))) = (be 8 t ++ be 4 r ++ be 4 h ++ be 4 f ++ List.replicate 36 0) ++ be 8 t by simp]
  rw [List.drop_append_of_le_length (by simp [be_length]), List.drop_of_length_le (by simp [be_length]), List.nil_append]
theorem dec_tail (l : List UInt8) (h : mDecB l = true) : l.drop 56 = be 8 (mTx l) := by
  have h1 := ((mDecB_iff l).1 h).2.2
  have h2 := enc_tail (mTx l) (mRoot l) (mHigh l) (mFree l)
  rw [h1] at h2
  exact h2
/-- A sector of which a store's first k bytes were kept. -/
def torn (A B : List UInt8) (k : Nat) : List UInt8 := A.take k ++ B.drop k
theorem torn_dec (t r h f : Nat) (B : List UInt8) (k : Nat) (ht : t < 18446744073709551616) (hr : r < 4294967296) (hh : h < 4294967296) (hf : f < 4294967296) (hk : k ≤ 64) (hd : mDecB (torn (mEnc t r h f) B k) = true) :
    mdec4 (torn (mEnc t r h f) B k) = (t, r, h, f) ∨ (k ≤ 56 ∧ mTx (torn (mEnc t r h f) B k) = Sm.num (B.drop 56)) := by
  have hl := mEnc_length t r h f
  by_cases h56 : k ≤ 56
  · right
    refine ⟨h56, ?_⟩
    have h1 := dec_tail _ hd
    have h2 : (torn (mEnc t r h f) B k).drop 56 = B.drop 56 := by
      unfold torn
      rw [List.drop_append, List.drop_of_length_le (by rw [List.length_take]; omega), List.nil_append, List.drop_drop, List.length_take]
      congr 1
      omega
    rw [h2] at h1
    rw [h1]
    exact (num_be_lt 8 _ (mTx_lt _)).symm
  · left
    have h20 : ∀ n, n ≤ 20 → (torn (mEnc t r h f) B k).take n = (mEnc t r h f).take n := fun n hn => by
      unfold torn
      rw [List.take_append_of_le_length (by rw [List.length_take]; omega), List.take_take, Nat.min_eq_left (by omega)]
    obtain ⟨e1, e2, e3, e4⟩ := mDec_enc t r h f ht hr hh hf
    unfold mdec4
    rw [if_pos hd]
    unfold mTx mRoot mHigh mFree at *
    rw [h20 8 (by omega), h20 12 (by omega), h20 16 (by omega), h20 20 (by omega), e1, e2, e3, e4]
/-- What a sector of turn j holds ahead of t. -/
def Sec (l : List UInt8) (j t : Nat) : Prop := l = List.replicate 64 0 ∨ ∃ a r h f, a < t ∧ a % 2 = j ∧ a < 18446744073709551616 ∧ r < 4294967296 ∧ h < 4294967296 ∧ f < 4294967296 ∧ mRightB a r h f = true ∧ l = mEnc a r h f
theorem Sec.num {l : List UInt8} {t : Nat} (h : Sec l (t % 2) t) (ht : 2 ≤ t) : Sm.num (l.drop 56) + 1 < t := by
  rcases h with rfl | ⟨a, r, h, f, h1, h2, h3, _, _, _, _, rfl⟩
  · rw [show Sm.num ((List.replicate 64 (0 : UInt8)).drop 56) = 0 by decide]
    omega
  · rw [enc_tail, num_be_lt 8 _ h3]
    omega
theorem Sec.mono {l : List UInt8} {j t u : Nat} (h : Sec l j t) (hu : t ≤ u) : Sec l j u := by
  rcases h with rfl | ⟨a, r, h, f, h1, h2⟩
  · exact .inl rfl
  · exact .inr ⟨a, r, h, f, by omega, h2⟩
/-- The sector's meta behind a torn store: the new one, or one that is older than the last one. -/
theorem torn_hm (t r h f : Nat) (B : List UInt8) (k : Nat) (ht : t < 18446744073709551616) (hr : r < 4294967296) (hh : h < 4294967296) (hf : f < 4294967296) (hR : mRightB t r h f = true) (hk : k ≤ 64) (ht2 : 2 ≤ t) (hB : Sec B (t % 2) t) (D : Dk) (hD : D.rd (4 * (t % 2)) = torn (mEnc t r h f) B k) :
    (D.hm (t % 2) = (t, r, h, f) ∧ 0 < k) ∨ ((D.hm (t % 2)).1 + 1 < t ∧ k < 64) := by
  have hn := hB.num ht2
  have hl := mEnc_length t r h f
  unfold Dk.hm
  rw [hD]
  by_cases h64 : k = 64
  · have e : torn (mEnc t r h f) B k = mEnc t r h f := by
      have hBl : B.drop 64 = [] := by
        rcases hB with rfl | ⟨a, r, h, f, _, _, _, _, _, _, _, rfl⟩
        · decide
        · exact List.drop_of_length_le (by rw [mEnc_length]; omega)
      unfold torn
      rw [h64, hBl, List.append_nil, List.take_of_length_le (by omega)]
    rw [e, mdec4_enc t r h f ht hr hh hf hR, if_pos rfl]
    exact .inl ⟨rfl, by omega⟩
  · cases hd : mDecB (torn (mEnc t r h f) B k) with
    | false =>
      right
      refine ⟨?_, by omega⟩
      unfold mdec4
      rw [hd]
      simp
      omega
    | true =>
      rcases torn_dec t r h f B k ht hr hh hf hk hd with h1 | ⟨h56, h1⟩
      · rw [h1, if_pos rfl]
        by_cases h0 : k = 0
        · exfalso
          have e : torn (mEnc t r h f) B k = B := by unfold torn; rw [h0]; simp
          rw [e] at h1 hd
          have h2 := dec_tail _ hd
          rw [h2, num_be_lt 8 _ (mTx_lt _)] at hn
          unfold mdec4 at h1
          rw [if_pos hd] at h1
          have : mTx B = t := congrArg Prod.fst h1
          omega
        · exact .inl ⟨rfl, by omega⟩
      · right
        refine ⟨?_, by omega⟩
        split
        · unfold mdec4
          rw [if_pos hd]
          dsimp only
          omega
        · dsimp only
          omega
theorem put_full (S : List (List UInt8)) (p : Nat × List UInt8) (h : p.2.length = 64) (hS : ∀ s ∈ S, s.length = 64) : Dk.put S p 64 = S.set p.1 p.2 := by
  unfold Dk.put
  by_cases hi : p.1 < S.length
  · rw [List.getElem?_eq_getElem hi, Option.getD_some, List.drop_eq_nil_of_le (by rw [hS _ (List.getElem_mem hi)]; exact Nat.le_refl _), List.append_nil, List.take_of_length_le (by omega)]
  · rw [List.set_eq_of_length_le (by omega), List.set_eq_of_length_le (by omega)]
theorem puts_full : ∀ (U : List (Nat × List UInt8)) (S : List (List UInt8)), (∀ s ∈ S, s.length = 64) → (∀ p ∈ U, p.2.length = 64 ∧ p.1 < S.length) → ∀ j, j < S.length →
    (Dk.puts S U (List.replicate U.length 64))[j]?.getD [] = Dk.over j (S[j]?.getD []) U ∧ (∀ s ∈ Dk.puts S U (List.replicate U.length 64), s.length = 64)
  | [], S, hS, _, j, _ => ⟨rfl, hS⟩
  | p :: U, S, hS, hU, j, hj => by
    have hp := hU p (List.mem_cons_self ..)
    have hS' : ∀ s ∈ S.set p.1 p.2, s.length = 64 := fun s hs => by
      rcases List.mem_or_eq_of_mem_set hs with h | rfl
      · exact hS s h
      · exact hp.1
    have ih := puts_full U (S.set p.1 p.2) hS' (fun q hq => by rw [List.length_set]; exact hU q (List.mem_cons_of_mem _ hq)) j (by rw [List.length_set]; exact hj)
    simp only [List.length_cons, List.replicate_succ, Dk.puts, put_full S p hp.1 hS]
    refine ⟨?_, ih.2⟩
    rw [ih.1]
    simp only [Dk.over, List.foldl_cons]
    by_cases e : p.1 = j
    · subst e
      rw [if_pos rfl, List.getElem?_set_self hj]
      rfl
    · rw [if_neg e, List.getElem?_set_ne e]
def Dk.synced (D : Dk) : Dk := { S := Dk.puts D.S D.U (List.replicate D.U.length 64), U := [], N := D.N + 1 }
theorem rd_synced {D : Dk} (h : DkOk D) (j : Nat) (hj : j < D.S.length) : D.synced.rd j = D.rd j := by
  unfold Dk.rd Dk.synced
  dsimp only
  rw [(puts_full D.U D.S h.sec h.uns j hj).1]
  rfl
/-- The disk behind a crash that keeps k bytes of the one store. -/
def Dk.tears (D : Dk) (t r h f k : Nat) : Dk := { D with S := D.S.set (4 * (t % 2)) (torn (mEnc t r h f) (D.S[4 * (t % 2)]?.getD []) k), U := [], N := D.N + 1 }
theorem crash_ms (D : Dk) (t r h f : Nat) (keep : Int) (hU : D.U = []) : (D.ms t r h f).crash [keep] = if 0 ≤ keep ∧ keep ≤ 64 then (0, D.tears t r h f keep.toNat) else (2, D.ms t r h f) := by
  unfold Dk.crash Dk.tears torn
  by_cases hk : 0 ≤ keep ∧ keep ≤ 64
  · rw [if_pos hk, if_neg (by simp [Dk.ms, hU, hk.1, hk.2])]
    simp [Dk.ms, hU, kept, Dk.puts, Dk.put]
  · rw [if_neg hk, if_pos (by
      right
      simp
      omega)]
theorem rd_tears (D : Dk) (t r h f k : Nat) (hS : 4 < D.S.length) (hU : D.U = []) (j : Nat) (hj : j < 2) : (D.tears t r h f k).rd (4 * j) = if j = t % 2 then torn (mEnc t r h f) (D.rd (4 * j)) k else D.rd (4 * j) := by
  unfold Dk.rd Dk.tears
  dsimp only
  rw [hU]
  unfold Dk.over
  simp only [List.foldl_nil]
  by_cases hjt : j = t % 2
  · rw [if_pos hjt, ← hjt, List.getElem?_set_self (by omega)]
    rfl
  · rw [if_neg hjt, List.getElem?_set_ne (by omega)]
/-- What is loaded behind it: the last one, or the new one. -/
theorem hl_tears (D : Dk) (t r h f k : Nat) (hS : 4 < D.S.length) (hU : D.U = []) (ht : t < 18446744073709551616) (hr : r < 4294967296) (hh : h < 4294967296) (hf : f < 4294967296) (hR : mRightB t r h f = true) (hk : k ≤ 64) (ht2 : 2 ≤ t) (hB : Sec (D.rd (4 * (t % 2))) (t % 2) t) (q : M4) (hq : D.hm ((t + 1) % 2) = q) (hq1 : q.1 + 1 = t) :
    ((D.tears t r h f k).hl 2 = (t, r, h, f) ∧ 0 < k) ∨ ((D.tears t r h f k).hl 2 = q ∧ k < 64) := by
  have h1 := torn_hm t r h f (D.rd (4 * (t % 2))) k ht hr hh hf hR hk ht2 hB (D.tears t r h f k) (by rw [rd_tears D t r h f k hS hU (t % 2) (by omega), if_pos rfl])
  have h2 : (D.tears t r h f k).hm ((t + 1) % 2) = q := by
    have e := rd_tears D t r h f k hS hU ((t + 1) % 2) (by omega)
    rw [if_neg (by omega)] at e
    rw [← hq]
    unfold Dk.hm
    rw [e]
  rw [hl_two]
  rcases (by omega : t % 2 = 0 ∨ t % 2 = 1) with e | e
  · have e' : (t + 1) % 2 = 1 := by omega
    rw [e] at h1
    rw [e'] at h2
    rw [h2]
    rcases h1 with ⟨h1, h3⟩ | ⟨h1, h3⟩
    · rw [h1, if_neg (by dsimp only; omega)]
      exact .inl ⟨rfl, h3⟩
    · rw [if_pos (by omega)]
      exact .inr ⟨rfl, h3⟩
  · have e' : (t + 1) % 2 = 0 := by omega
    rw [e] at h1
    rw [e'] at h2
    rw [h2]
    rcases h1 with ⟨h1, h3⟩ | ⟨h1, h3⟩
    · rw [h1, if_pos (by dsimp only; omega)]
      exact .inl ⟨rfl, h3⟩
    · rw [if_neg (by omega)]
      exact .inr ⟨rfl, h3⟩
end Go.Proofs.Ytdaoiimjflplhaa
