/- What the reference's Same answers of a node and itself; what a leaf is behind a pair put into it. -/
import Derived.Test.YtejempihaknplaaNdC
import Derived.Test.YtejempihaknplaaGf26
import Derived.Test.YtejempihaknplaaHPut
namespace Go.Proofs.Ytejempihaknplaa.G
open Go.RowKit Go.Proofs.YtejempihaknplaaW.PrintWords Go.Proofs.YtejempihaknplaaW.PrintMore

theorem same_l2 (ps : List S39) (ks : List ByteArray) (kd : List Int) (hl : kd.length ≤ 1000000) : ∀ (d k i : Nat), i + d = kd.length → d < k → bazaarref06_Same.l2 k (i : Int) ps ks kd ps ks kd = some true
  | 0, k, i, hi, hk => by
    obtain ⟨k, rfl⟩ : ∃ m, k = m + 1 := ⟨k - 1, by omega⟩
    simp only [bazaarref06_Same.l2]
    rw [if_neg (by omega)]
  | d + 1, k, i, hi, hk => by
    obtain ⟨k, rfl⟩ : ∃ m, k = m + 1 := ⟨k - 1, by omega⟩
    simp only [bazaarref06_Same.l2]
    rw [if_pos (by omega), if_pos (by omega), if_pos (by omega), if_pos trivial, w_add i (by omega), same_l2 ps ks kd hl d k (i + 1) (by omega) (by omega)]
theorem same_l1 (ps : List S39) (ks : List ByteArray) (kd : List Int) (hl : ks.length ≤ 1000000) (hd : kd.length ≤ 1000000) : ∀ (d k i : Nat), i + d = ks.length → d + kd.length + 1 < k → bazaarref06_Same.l1 k (i : Int) ps ks kd ps ks kd = some true
  | 0, k, i, hi, hk => by
    obtain ⟨k, rfl⟩ : ∃ m, k = m + 1 := ⟨k - 1, by omega⟩
    simp only [bazaarref06_Same.l1]
    rw [if_neg (by omega)]
    exact same_l2 ps ks kd hd kd.length k 0 (by omega) (by omega)
  | d + 1, k, i, hi, hk => by
    obtain ⟨k, rfl⟩ : ∃ m, k = m + 1 := ⟨k - 1, by omega⟩
    simp only [bazaarref06_Same.l1]
    rw [if_pos (by omega), if_pos (by omega), if_pos (by omega), if_pos trivial, w_add i (by omega), same_l1 ps ks kd hl hd d k (i + 1) (by omega) (by omega)]
theorem same_l0 (ps : List S39) (ks : List ByteArray) (kd : List Int) (hp : ps.length ≤ 1000000) (hl : ks.length ≤ 1000000) (hd : kd.length ≤ 1000000) : ∀ (d k i : Nat), i + d = ps.length → d + ks.length + kd.length + 2 < k → bazaarref06_Same.l0 k (i : Int) ps ks kd ps ks kd = some true
  | 0, k, i, hi, hk => by
    obtain ⟨k, rfl⟩ : ∃ m, k = m + 1 := ⟨k - 1, by omega⟩
    simp only [bazaarref06_Same.l0]
    rw [if_neg (by omega)]
    exact same_l1 ps ks kd hl hd ks.length k 0 (by omega) (by omega)
  | d + 1, k, i, hi, hk => by
    obtain ⟨k, rfl⟩ : ∃ m, k = m + 1 := ⟨k - 1, by omega⟩
    simp only [bazaarref06_Same.l0]
    rw [if_pos (by omega), if_pos (by omega), if_pos (by omega), if_neg (by simp), w_add i (by omega), same_l0 ps ks kd hp hl hd d k (i + 1) (by omega) (by omega)]
theorem same_eq (ps : List S39) (ks : List ByteArray) (kd : List Int) (hp : ps.length ≤ 1000000) (hl : ks.length ≤ 1000000) (hd : kd.length ≤ 1000000) (k : Nat) (hk : ps.length + ks.length + kd.length + 4 < k) : bazaarref06_Same.f k ps ks kd ps ks kd = some true := by
  obtain ⟨k, rfl⟩ : ∃ m, k = m + 1 := ⟨k - 1, by omega⟩
  unfold bazaarref06_Same.f
  rw [if_pos rfl, if_pos rfl]
  simp only [bazaarref06_Same.j0]
  rw [if_neg (by simp)]
  exact same_l0 ps ks kd hp hl hd ps.length k 0 (by omega) (by omega)

end Go.Proofs.Ytejempihaknplaa.G
