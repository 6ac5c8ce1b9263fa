/- Metas as plain things: which are right, their bytes, the meta of bytes. No program in sight. -/
import Derived.Test.YtdaoiimjflplhaaPageM
namespace Go.Proofs.Ytdaoiimjflplhaa

def placeB (p high : Nat) : Bool := decide (p = 0 ∨ 2 ≤ p ∧ p < high)
def mRightB (t r h f : Nat) : Bool := decide (0 < t ∧ 2 ≤ h ∧ h ≤ 16384) && placeB r h && placeB f h
theorem mRightB_iff (t r h f : Nat) : mRightB t r h f = true ↔ 0 < t ∧ 2 ≤ h ∧ h ≤ 16384 ∧ (r = 0 ∨ 2 ≤ r ∧ r < h) ∧ (f = 0 ∨ 2 ≤ f ∧ f < h) := by
  simp only [mRightB, placeB, Bool.and_eq_true, decide_eq_true_eq]
  omega
def mEnc (t r h f : Nat) : List UInt8 := be 8 t ++ (be 4 r ++ (be 4 h ++ (be 4 f ++ (List.replicate 36 0 ++ be 8 t))))
theorem mEnc_length (t r h f : Nat) : (mEnc t r h f).length = 64 := by simp [mEnc, be_length]
def mTx (l : List UInt8) : Nat := Sm.num (l.take 8)
def mRoot (l : List UInt8) : Nat := Sm.num ((l.take 12).drop 8)
def mHigh (l : List UInt8) : Nat := Sm.num ((l.take 16).drop 12)
def mFree (l : List UInt8) : Nat := Sm.num ((l.take 20).drop 16)
def mDecB (l : List UInt8) : Bool := decide (l.length = 64) && mRightB (mTx l) (mRoot l) (mHigh l) (mFree l) && decide (mEnc (mTx l) (mRoot l) (mHigh l) (mFree l) = l)
theorem mDecB_iff (l : List UInt8) : mDecB l = true ↔ l.length = 64 ∧ mRightB (mTx l) (mRoot l) (mHigh l) (mFree l) = true ∧ mEnc (mTx l) (mRoot l) (mHigh l) (mFree l) = l := by
  simp only [mDecB, Bool.and_eq_true, decide_eq_true_eq, and_assoc]
theorem num_drop_lt' (l : List UInt8) (a b : Nat) : Sm.num ((l.take b).drop a) < 256 ^ (b - a) := Nat.lt_of_lt_of_le (Sm.num_lt _) (Nat.pow_le_pow_right (by omega) (by simp; omega))
theorem mTx_lt (l : List UInt8) : mTx l < 18446744073709551616 := num_drop_lt' l 0 8
theorem mRoot_lt (l : List UInt8) : mRoot l < 4294967296 := num_drop_lt' l 8 12
theorem mHigh_lt (l : List UInt8) : mHigh l < 4294967296 := num_drop_lt' l 12 16
theorem mFree_lt (l : List UInt8) : mFree l < 4294967296 := num_drop_lt' l 16 20
theorem mid_list' {α : Type} (A B C : List α) (n m : Nat) (hA : A.length = n) (hm : n + B.length = m) : ((A ++ (B ++ C)).take m).drop n = B := by
  subst hA
  subst hm
  simp [List.take_append]
theorem mDec_enc (t r h f : Nat) (ht : t < 18446744073709551616) (hr : r < 4294967296) (hh : h < 4294967296) (hf : f < 4294967296) :
    mTx (mEnc t r h f) = t ∧ mRoot (mEnc t r h f) = r ∧ mHigh (mEnc t r h f) = h ∧ mFree (mEnc t r h f) = f := by
  have l8 := be_length 8 t
  have l1 := be_length 4 r
  have l2 := be_length 4 h
  have l3 := be_length 4 f
  refine ⟨?_, ?_, ?_, ?_⟩
  · unfold mTx mEnc
    rw [List.take_append_of_le_length (by omega), List.take_of_length_le (by omega)]
    exact num_be_lt 8 t (by omega)
  · unfold mRoot mEnc
    rw [mid_list' _ _ _ 8 12 l8 (by omega)]
    exact num_be_lt 4 r (by omega)
  · unfold mHigh mEnc
    rw [show be 8 t ++ (be 4 r ++ (be 4 h ++ (be 4 f ++ (List.replicate 36 0 ++ be 8 t)))) = (be 8 t ++ be 4 r) ++ (be 4 h ++ (be 4 f ++ (List.replicate 36 0 ++ be 8 t))) by simp]
    rw [mid_list' _ _ _ 12 16 (by simp [l8, l1]) (by omega)]
    exact num_be_lt 4 h (by omega)
  · unfold mFree mEnc
    rw [show be 8 t ++ (be 4 r ++ (be 4 h ++ (be 4 f ++ (List.replicate 36 0 ++ be 8 t)))) = (be 8 t ++ be 4 r ++ be 4 h) ++ (be 4 f ++ (List.replicate 36 0 ++ be 8 t)) by simp]
    rw [mid_list' _ _ _ 16 20 (by simp [l8, l1, l2]) (by omega)]
    exact num_be_lt 4 f (by omega)
theorem mDecB_enc (t r h f : Nat) (ht : t < 18446744073709551616) (hr : r < 4294967296) (hh : h < 4294967296) (hf : f < 4294967296) (hR : mRightB t r h f = true) : mDecB (mEnc t r h f) = true := by
  obtain ⟨h1, h2, h3, h4⟩ := mDec_enc t r h f ht hr hh hf
  refine (mDecB_iff _).2 ⟨mEnc_length _ _ _ _, ?_, ?_⟩
  · rw [h1, h2, h3, h4]; exact hR
  · rw [h1, h2, h3, h4]
end Go.Proofs.Ytdaoiimjflplhaa
