/- NodeSizes, in plain words: a node's size is that of its bytes. -/
import Derived.Test.YtejempihaknplaaNdC
import Derived.Test.YtejempihaknplaaHEncode
import Derived.Test.YtejempihaknplaaGf4
namespace Go.Proofs.Ytejempihaknplaa.G
open Go.RowKit Go.Proofs.YtejempihaknplaaW.PrintWords Go.Proofs.YtejempihaknplaaW.PrintMore
theorem sizeN_pos (ps : List S39) (ks : List ByteArray) (kd : List Int) : 1 ≤ sizeN ps ks kd := by
  unfold sizeN
  split <;> omega
theorem nodeSizes_plain (ps : List S39) (ks : List ByteArray) (kd : List Int) : bazaarlaw06_NodeSizes.f 500000 ps ks kd = some true := by
  unfold bazaarlaw06_NodeSizes.f
  rw [shown_eq, Option.bind_some, cut_eq _ _ _ _ (by omega), Option.bind_some]
  have hs := cut_small ps ks kd
  generalize cutP ps = ps at *
  generalize cutK ks = ks at *
  generalize cutD kd = kd at *
  have hp := sizeN_pos ps ks kd
  simp only [node_Encode.f, node_Size.f, if_pos hs, right_eq ps ks kd hs 500000 (by omega), Option.bind_some]
  cases hr : rightB ps ks kd with
  | false =>
    have hf : fitsB ps ks kd = false := by unfold fitsB; rw [hr]; rfl
    rw [hf]
    simp
  | true =>
    by_cases h : sizeN ps ks kd ≤ 237
    · have hf : fitsB ps ks kd = true := by unfold fitsB; rw [hr]; simp [h]
      have hb := bytes_length hr
      rw [hf]
      have hsz : (⟨(bytesN ps ks kd).toArray⟩ : ByteArray).size = sizeN ps ks kd := by rw [← hb]; simp [ByteArray.size]
      simp only [if_true, Option.bind_some]
      rw [if_pos (by rw [hsz]), if_pos (by omega), decide_eq_true (by omega)]
      rfl
    · have hf : fitsB ps ks kd = false := by unfold fitsB; rw [hr]; simp [h]
      rw [hf]
      simp only [Bool.false_eq_true, if_false, if_true, Option.bind_some]
      rw [if_neg (by decide), if_pos (by decide +kernel), if_neg (by omega), if_pos (by omega), decide_eq_true (by omega)]
      rfl
end Go.Proofs.Ytejempihaknplaa.G
