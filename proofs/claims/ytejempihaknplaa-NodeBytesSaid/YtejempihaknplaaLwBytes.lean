/- NodeBytes, in plain words: which nodes are right, their sizes and bytes, and a key's place are as the reference says. -/
import Derived.Test.YtejempihaknplaaNdF
import Derived.Test.YtejempihaknplaaGf3
namespace Go.Proofs.Ytejempihaknplaa.G
open Go.RowKit Go.Proofs.YtejempihaknplaaW.PrintWords Go.Proofs.YtejempihaknplaaW.PrintMore
theorem enc_some (ps : List S39) (ks : List ByteArray) (kd : List Int) (hs : smallB ps ks kd = true) : ∃ v, node_Encode.f ps ks kd = some v := by
  unfold node_Encode.f
  rw [if_pos hs]
  split
  · exact ⟨_, rfl⟩
  · exact ⟨_, rfl⟩
theorem bytes_law (ps : List S39) (ks : List ByteArray) (kd : List Int) (t : ByteArray) (k : Nat) (hk : 400020 < k) (hc : Cut ps ks kd) (hs : smallB ps ks kd = true) (v : Int × ByteArray × Int) (hv : node_Encode.f ps ks kd = some v) : ((node_Encode.f ps ks kd).bind fun bt287 => ((bazaarref06_Encode.f k ps ks kd).bind fun bt290 => (if true = true then ((node_Right.f k ps ks kd).bind fun t293 => ((bazaarref06_Right.f k ps ks kd).bind fun t294 => (if (t293 == t294) = true then ((node_Size.f ps ks kd).bind fun t295 => ((bazaarref06_Size.f k ps ks kd).bind fun t296 => (if t295 = t296 then (if bt287.1 = bt290.1 then (if bt287.2.1.toList = bt290.2.1.toList then (if bt287.2.2 = bt290.2.2 then ((bazaarlaw06_text.f t).bind fun t297 => ((node_Place.f k ps ks kd t297).bind fun t298 => ((bazaarlaw06_text.f t).bind fun t299 => ((bazaarref06_Place.f k ps ks kd t299).bind fun t300 => (some (t298 == t300)))))) else (some false)) else (some false)) else (some false)) else (some false)))) else (some false)))) else (some false)))) = some true := by
  have h1 := refEncode_eq hc k (by omega)
  have h2 := right_eq ps ks kd hs k (by omega)
  have h3 := refRight_eq hc k (by omega)
  have h4 := refSize_eq hc k (by omega)
  have h5 := place_eq ps ks kd (txt t) hs k (by omega)
  have h6 := refPlace_eq hc _ (txt_size t) k (by omega)
  rw [h1, hv, h2, h3, h4, text_eq]
  have h7 : node_Size.f ps ks kd = some (if rightB ps ks kd = true then (sizeN ps ks kd : Int) else 0) := by unfold node_Size.f; rw [if_pos hs]
  rw [h7]
  rw [Option.bind_some, Option.bind_some, if_pos rfl, Option.bind_some, Option.bind_some, if_pos (beq_self_eq_true _), Option.bind_some, Option.bind_some, if_pos rfl, if_pos rfl, if_pos rfl, if_pos rfl, Option.bind_some, h5, Option.bind_some, Option.bind_some, h6, Option.bind_some, beq_self_eq_true]
theorem nodeBytes_plain (ps : List S39) (ks : List ByteArray) (kd : List Int) (t : ByteArray) (k : Nat) (hk : 400020 < k) : bazaarlaw06_NodeBytes.f k ps ks kd t = some true := by
  unfold bazaarlaw06_NodeBytes.f
  rw [shown_eq, Option.bind_some, cut_eq _ _ _ _ (by omega), Option.bind_some]
  have hc := cut_cut ps ks kd
  generalize cutP ps = ps at *
  generalize cutK ks = ks at *
  generalize cutD kd = kd at *
  have hs := hc.1
  simp only []
  obtain ⟨v, hv⟩ := enc_some ps ks kd hs
  exact bytes_law ps ks kd t k hk hc hs v hv
end Go.Proofs.Ytejempihaknplaa.G
