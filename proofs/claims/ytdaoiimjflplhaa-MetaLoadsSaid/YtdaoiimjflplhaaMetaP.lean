/- The plain law of metas on a disk: what a store leaves of what is loaded. No program in sight. -/
import Derived.Test.YtdaoiimjflplhaaMetaR
namespace Go.Proofs.Ytdaoiimjflplhaa
open Go.RowKit Go.Shelf

theorem mDecB_pos (l : List UInt8) (h : mDecB l = true) : 0 < mTx l := ((mRightB_iff _ _ _ _).1 ((mDecB_iff l).1 h).2.1).1
theorem hm_zero (D : Dk) (k : Nat) (h : (D.hm k).1 = 0) : D.hm k = (0, 0, 0, 0) := by
  unfold Dk.hm at h ⊢
  split
  · rename_i h1
    rw [if_pos h1] at h
    unfold mdec4 at h ⊢
    split
    · rename_i h2
      rw [if_pos h2] at h
      have := mDecB_pos _ h2
      dsimp only at h
      omega
    · rfl
  · rfl
theorem hl_two (D : Dk) : D.hl 2 = if (D.hm 0).1 < (D.hm 1).1 then D.hm 1 else D.hm 0 := by
  have e1 : D.hl 1 = D.hm 0 := by
    show (if (Dk.hl D 0).1 < (D.hm 0).1 then D.hm 0 else Dk.hl D 0) = D.hm 0
    split
    · rfl
    · rename_i h
      have h0 : (D.hm 0).1 = 0 := by
        have : (Dk.hl D 0).1 = 0 := rfl
        omega
      exact (hm_zero D 0 h0).symm
  show (if (Dk.hl D 1).1 < (D.hm 1).1 then D.hm 1 else Dk.hl D 1) = _
  rw [e1]
theorem hm_new (n k : Nat) (h : 4 * k < n) : (Dk.new n).hm k = (0, 0, 0, 0) := by
  have hr : (Dk.new n).rd (4 * k) = List.replicate 64 0 := by
    unfold Dk.rd Dk.new Dk.over
    simp [h]
  have hz : mDecB (List.replicate 64 0) = false := by
    rw [Bool.eq_false_iff]
    intro hc
    have := mDecB_pos _ hc
    have h0 : mTx (List.replicate 64 0) = 0 := by decide
    omega
  unfold Dk.hm
  rw [hr]
  unfold mdec4
  rw [hz]
  simp
/-- The disk behind a store that is right. -/
def Dk.ms (D : Dk) (t r h f : Nat) : Dk := { D with U := D.U ++ [(4 * (t % 2), mEnc t r h f)], N := D.N + 1 }
theorem mstore_ok (D : Dk) (t r h f : Nat) (hR : mRightB t r h f = true) (hl : 4 < D.S.length) : D.mstore t r h f = (0, D.ms t r h f) := by
  unfold Dk.mstore
  rw [if_pos hR]
  have hc : D.chk (4 * ((t : Int) % 2)) = 0 := by unfold Dk.chk; rw [if_pos (by omega)]
  unfold Dk.write
  have hle := mEnc_length t r h f
  rw [if_neg (by rw [hc]; simp), if_neg (by omega)]
  unfold Dk.ms pad
  rw [hle]
  have e : (4 * ((t : Int) % 2)).toNat = 4 * (t % 2) := by omega
  rw [e]
  simp
theorem mstore_no (D : Dk) (t r h f : Nat) (hR : mRightB t r h f = false) : D.mstore t r h f = (40, D) := by
  unfold Dk.mstore
  rw [if_neg (by rw [hR]; simp)]
theorem mdec4_enc (t r h f : Nat) (ht : t < 18446744073709551616) (hr : r < 4294967296) (hh : h < 4294967296) (hf : f < 4294967296) (hR : mRightB t r h f = true) : mdec4 (mEnc t r h f) = (t, r, h, f) := by
  unfold mdec4
  obtain ⟨h1, h2, h3, h4⟩ := mDec_enc t r h f ht hr hh hf
  rw [if_pos (mDecB_enc t r h f ht hr hh hf hR), h1, h2, h3, h4]
theorem rd_ms (D : Dk) (t r h f k : Nat) : (D.ms t r h f).rd (4 * k) = if k = t % 2 then mEnc t r h f else D.rd (4 * k) := by
  unfold Dk.rd Dk.ms Dk.over
  dsimp only
  rw [List.foldl_append]
  simp only [List.foldl_cons, List.foldl_nil]
  by_cases hk : k = t % 2
  · rw [if_pos (by omega), if_pos hk]
  · rw [if_neg (by omega), if_neg hk]
theorem hm_ms (D : Dk) (t r h f k : Nat) (ht : t < 18446744073709551616) (hr : r < 4294967296) (hh : h < 4294967296) (hf : f < 4294967296) (hR : mRightB t r h f = true) : (D.ms t r h f).hm k = if k = t % 2 then (t, r, h, f) else D.hm k := by
  unfold Dk.hm
  rw [rd_ms]
  by_cases hk : k = t % 2
  · rw [if_pos hk, if_pos hk, mdec4_enc t r h f ht hr hh hf hR, if_pos hk.symm]
  · rw [if_neg hk, if_neg hk]
theorem ms_S (D : Dk) (t r h f : Nat) : (D.ms t r h f).S = D.S := rfl
theorem ms_U (D : Dk) (t r h f : Nat) : (D.ms t r h f).U.length = D.U.length + 1 := by simp [Dk.ms]
theorem ms_N (D : Dk) (t r h f : Nat) : (D.ms t r h f).N = D.N + 1 := rfl
/-- A right meta that is newer than what is held is loaded. -/
theorem hl_ms (D : Dk) (t r h f : Nat) (ht : t < 18446744073709551616) (hr : r < 4294967296) (hh : h < 4294967296) (hf : f < 4294967296) (hR : mRightB t r h f = true) (hn : ∀ k, k < 2 → k ≠ t % 2 → (D.hm k).1 < t) : (D.ms t r h f).hl 2 = (t, r, h, f) := by
  rw [hl_two, hm_ms D t r h f 0 ht hr hh hf hR, hm_ms D t r h f 1 ht hr hh hf hR]
  rcases (by omega : t % 2 = 0 ∨ t % 2 = 1) with h2 | h2
  · rw [h2, if_pos (rfl : (0 : Nat) = 0), if_neg (by decide : ¬ (1 : Nat) = 0)]
    have := hn 1 (by omega) (by omega)
    rw [if_neg (by dsimp only; omega)]
  · rw [h2, if_neg (by decide : ¬ (0 : Nat) = 1), if_pos (rfl : (1 : Nat) = 1)]
    have := hn 0 (by omega) (by omega)
    rw [if_pos (by dsimp only; omega)]
end Go.Proofs.Ytdaoiimjflplhaa
