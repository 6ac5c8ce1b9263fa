/- Plain laws of pages' bytes: what is encoded is decoded to itself; one byte changed is none. No program in sight. -/
import Derived.Test.YtmbjbckjfkijmaaPageD
import Derived.Test.YtmbjbckjfkijmaaSumM3
import Derived.Test.YtmbjbckjfkijmaaSumM2
namespace Go.Proofs.Ytmbjbckjfkijmaa

theorem be_get1 (k : Nat) (hk : k < 256) : be 1 k = [UInt8.ofNat k] := by simp [be, Nat.mod_eq_of_lt hk]
theorem mid_list {α : Type} (A B C : List α) (n m : Nat) (hA : A.length = n) (hm : n + B.length = m) : ((A ++ (B ++ C)).take m).drop n = B := by
  subst hA
  subst hm
  simp [List.take_append]
theorem encL_parts (k i t : Nat) (b : List UInt8) : ∃ T, encL k i t b = be 1 k ++ (be 4 i ++ (be 8 t ++ (be 2 b.length ++ (b ++ T)))) := by
  refine ⟨Sm.be4 (Sm.sumV (headL k i t b)) ++ List.replicate (256 - (19 + b.length)) 0, ?_⟩
  simp [encL, sealL, headL]
theorem dec_enc (k i t : Nat) (b : List UInt8) (hk : k < 256) (hi : i < 4294967296) (ht : t < 18446744073709551616) (hb : b.length ≤ 237) :
    dKind (encL k i t b) = k ∧ dId (encL k i t b) = i ∧ dTx (encL k i t b) = t ∧ dLen (encL k i t b) = b.length ∧ dBody (encL k i t b) = b := by
  obtain ⟨T, hT⟩ := encL_parts k i t b
  rw [hT]
  have l1 := be_length 1 k
  have l4 := be_length 4 i
  have l8 := be_length 8 t
  have l2 := be_length 2 b.length
  have hlen : dLen (be 1 k ++ (be 4 i ++ (be 8 t ++ (be 2 b.length ++ (b ++ T))))) = b.length := by
    unfold dLen
    rw [show be 1 k ++ (be 4 i ++ (be 8 t ++ (be 2 b.length ++ (b ++ T)))) = (be 1 k ++ be 4 i ++ be 8 t) ++ (be 2 b.length ++ (b ++ T)) by simp]
    rw [mid_list _ _ _ 13 15 (by simp [l1, l4, l8]) (by rw [l2])]
    exact num_be_lt 2 _ (by omega)
  refine ⟨?_, ?_, ?_, hlen, ?_⟩
  · unfold dKind
    rw [be_get1 k hk]
    simp
    omega
  · unfold dId
    rw [mid_list _ _ _ 1 5 l1 (by rw [l4])]
    exact num_be_lt 4 i (by omega)
  · unfold dTx
    rw [show be 1 k ++ (be 4 i ++ (be 8 t ++ (be 2 b.length ++ (b ++ T)))) = (be 1 k ++ be 4 i) ++ (be 8 t ++ (be 2 b.length ++ (b ++ T))) by simp]
    rw [mid_list _ _ _ 5 13 (by simp [l1, l4]) (by rw [l8])]
    exact num_be_lt 8 t (by omega)
  · unfold dBody
    rw [hlen, show be 1 k ++ (be 4 i ++ (be 8 t ++ (be 2 b.length ++ (b ++ T)))) = (be 1 k ++ be 4 i ++ be 8 t ++ be 2 b.length) ++ (b ++ T) by simp]
    exact mid_list _ _ _ 15 _ (by simp [l1, l4, l8, l2]) rfl
theorem decB_enc (k i t : Nat) (b : List UInt8) (hi : i < 4294967296) (ht : t < 18446744073709551616) (hr : rightB k i t b.length = true) : decB (encL k i t b) = true := by
  have h3 := (rightB_iff _ _ _ _).1 hr
  obtain ⟨h4, h5, h6, h7, h8⟩ := dec_enc k i t b (by omega) hi ht (by omega)
  unfold decB
  refine decide_eq_true ⟨encL_length _ _ _ _ (by omega), by rw [h7]; omega, ?_, ?_⟩
  · rw [h4, h5, h6, h7]; exact hr
  · rw [h4, h5, h6, h8]
theorem decV_enc (k i t : Nat) (b : List UInt8) (hi : i < 4294967296) (ht : t < 18446744073709551616) (hr : rightB k i t b.length = true) : decV (encL k i t b) = .tuple #[pageV k i t b, .int .i64 0] := by
  have h3 := (rightB_iff _ _ _ _).1 hr
  obtain ⟨h4, h5, h6, h7, h8⟩ := dec_enc k i t b (by omega) hi ht (by omega)
  unfold decV
  rw [if_pos (decB_enc k i t b hi ht hr), h4, h5, h6, h8]
theorem decB_iff (l : List UInt8) : decB l = true ↔ l.length = 256 ∧ dLen l ≤ 237 ∧ rightB (dKind l) (dId l) (dTx l) (dLen l) = true ∧ encL (dKind l) (dId l) (dTx l) (dBody l) = l := by
  unfold decB
  exact decide_eq_true_iff
end Go.Proofs.Ytmbjbckjfkijmaa
