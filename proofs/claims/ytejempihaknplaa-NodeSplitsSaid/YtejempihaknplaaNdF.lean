/- What the reference's bytes, Size and Encode answer, as plain lists. -/
import Derived.Test.YtejempihaknplaaNdEb
import Derived.Test.YtejempihaknplaaGD
import Derived.Test.YtejempihaknplaaHEncode
import Derived.Test.YtejempihaknplaaNdM
namespace Go.Proofs.Ytejempihaknplaa.G
open Go.RowKit Go.Proofs.YtejempihaknplaaW.PrintWords Go.Proofs.YtejempihaknplaaW.PrintMore

theorem put_step (n : Nat) (l : List Int) (hl : l.length < 1000) (j : Nat) (hj : j < 8) (k : Nat) :
    bazaarref03_Put.l0 (k + 1) (n : Int) l (j : Int) = bazaarref03_Put.l0 k (n : Int) (l ++ [((n / 256 ^ j % 256 : Nat) : Int)]) ((j : Int) - 1) := by
  rw [bazaarref03_Put.l0]
  have h1 : IntKind.u64.wrap (wrap64 (8 * (j : Int))) = 8 * (j : Int) := by
    have : wrap64 (8 * (j : Int)) = 8 * (j : Int) := by unfold wrap64; omega
    rw [this]
    simp [IntKind.wrap, IntKind.signed, IntKind.bits]
    omega
  have h2 : wrap64 ((j : Int) - 1) = (j : Int) - 1 := by unfold wrap64; omega
  rw [h1, h2, if_pos (by omega), if_pos (by omega), if_pos (by omega)]
  congr 3
  unfold shr
  have h3 : min (8 * (j : Int)).toNat IntKind.u64.bits = 8 * j := by
    have : IntKind.u64.bits = 64 := rfl
    rw [this]
    omega
  rw [h3]
  have h4 : (2 : Int) ^ (8 * j) = ((256 ^ j : Nat) : Int) := by
    rw [Int.pow_mul]
    simp
  rw [h4]
  omega
theorem u64_nat (n : Nat) (h : n < 18446744073709551616) : IntKind.u64.wrap (n : Int) = (n : Int) := by
  simp [IntKind.wrap, IntKind.signed, IntKind.bits]
  omega
theorem ofNums_byte (l : List Nat) : strOfNums (l.map fun n => ((n : Nat) : Int)) = ⟨(l.map byteOf).toArray⟩ := by
  unfold strOfNums
  congr 1
  rw [List.map_map]
  rfl
theorem put1_eq (n : Nat) (h : n < 256) (k : Nat) (hk : 2 < k) : bazaarref03_Put.f k (IntKind.u64.wrap (n : Int)) 1 = some ⟨#[byteOf n]⟩ := by
  obtain ⟨k, rfl⟩ : ∃ m, k = m + 1 + 1 := ⟨k - 2, by omega⟩
  unfold bazaarref03_Put.f
  rw [u64_nat n (by omega), show wrap64 ((1 : Int) - 1) = ((0 : Nat) : Int) from by unfold wrap64; omega, put_step n [] (by decide) 0 (by omega)]
  rw [bazaarref03_Put.l0, if_neg (by omega)]
  rw [show (([] : List Int) ++ [((n / 256 ^ 0 % 256 : Nat) : Int)]) = [n].map (fun n => ((n : Nat) : Int)) from by simp; omega, ofNums_byte]
  rfl
theorem put4_eq (d : Int) (h0 : 0 ≤ d) (h : d < 4294967296) (k : Nat) (hk : 5 < k) : bazaarref03_Put.f k (IntKind.u64.wrap d) 4 = some ⟨(be4 d).toArray⟩ := by
  obtain ⟨n, rfl⟩ : ∃ n : Nat, d = n := ⟨d.toNat, by omega⟩
  obtain ⟨k, rfl⟩ : ∃ m, k = m + 1 + 1 + 1 + 1 + 1 := ⟨k - 5, by omega⟩
  unfold bazaarref03_Put.f
  rw [u64_nat n (by omega), show wrap64 ((4 : Int) - 1) = ((3 : Nat) : Int) from by unfold wrap64; omega, put_step n [] (by decide) 3 (by omega),
    show (((3 : Nat) : Int) - 1) = ((2 : Nat) : Int) from by omega, put_step n _ (by simp) 2 (by omega),
    show (((2 : Nat) : Int) - 1) = ((1 : Nat) : Int) from by omega, put_step n _ (by simp) 1 (by omega),
    show (((1 : Nat) : Int) - 1) = ((0 : Nat) : Int) from by omega, put_step n _ (by simp) 0 (by omega)]
  rw [bazaarref03_Put.l0, if_neg (by omega)]
  rw [show ((((([] : List Int) ++ [((n / 256 ^ 3 % 256 : Nat) : Int)]) ++ [((n / 256 ^ 2 % 256 : Nat) : Int)]) ++ [((n / 256 ^ 1 % 256 : Nat) : Int)]) ++ [((n / 256 ^ 0 % 256 : Nat) : Int)]) = [n / 16777216 % 256, n / 65536 % 256, n / 256 % 256, n % 256].map (fun n => ((n : Nat) : Int)) from by simp, ofNums_byte]
  rfl
theorem bytes_l0 (ps : List S39) (ks : List ByteArray) (kd : List Int) (hl : ps.length ≤ 100000) (hp : ∀ p ∈ ps, p.f0.size ≤ 70 ∧ p.f1.size ≤ 70) : ∀ (d k i : Nat) (acc : ByteArray), acc.size ≤ 1 + 1000 * i → i + d = ps.length → d + 10 < k →
    bazaarref06_bytes.l0 k acc (i : Int) ps ks kd = some ⟨(acc.data.toList ++ pairsB (ps.drop i)).toArray⟩
  | 0, k, i, acc, ha, hi, hk => by
    obtain ⟨k, rfl⟩ : ∃ m, k = m + 1 := ⟨k - 1, by omega⟩
    simp only [bazaarref06_bytes.l0]
    rw [if_neg (by omega), List.drop_of_length_le (by omega)]
    simp [pairsB]
  | d + 1, k, i, acc, ha, hi, hk => by
    obtain ⟨k, rfl⟩ : ∃ m, k = m + 1 := ⟨k - 1, by omega⟩
    have hlt : i < ps.length := by omega
    have h0 := hp _ (List.getElem_mem hlt)
    simp only [bazaarref06_bytes.l0]
    rw [if_pos (by omega), if_pos (by omega), rdT_nat ps i hlt, put1_eq _ (by omega) k (by omega), Option.bind_some, put1_eq _ (by omega) k (by omega), Option.bind_some, w_add i (by omega)]
    have s1 : ∀ u : UInt8, (⟨#[u]⟩ : ByteArray).size = 1 := fun _ => rfl
    simp only [ByteArray.size_append, s1]
    rw [if_pos (by omega), if_pos (by omega), if_pos (by omega), if_pos (by omega), bytes_l0 ps ks kd hl hp d k (i + 1) _ (by simp only [ByteArray.size_append, s1]; omega) (by omega) (by omega), List.drop_eq_getElem_cons hlt, show pairsB (ps[i] :: ps.drop (i + 1)) = textB ps[i].f0 ++ textB ps[i].f1 ++ pairsB (ps.drop (i + 1)) from rfl]
    simp [textB]
theorem bytes_l1 (ps : List S39) (ks : List ByteArray) (kd : List Int) (hl : ks.length ≤ 100000) (hlk : ks.length + 1 = kd.length) (hd : ∀ d ∈ kd, kidOk d = true) (hp : ∀ s ∈ ks, s.size ≤ 70) : ∀ (d k i : Nat) (acc : ByteArray), acc.size ≤ 5 + 1000 * i → i + d = ks.length → d + 10 < k →
    bazaarref06_bytes.l1 k acc (i : Int) ps ks kd = some ⟨(acc.data.toList ++ partsB (ks.drop i) (kd.drop (i + 1))).toArray⟩
  | 0, k, i, acc, ha, hi, hk => by
    obtain ⟨k, rfl⟩ : ∃ m, k = m + 1 := ⟨k - 1, by omega⟩
    simp only [bazaarref06_bytes.l1]
    rw [if_neg (by omega), List.drop_of_length_le (by omega)]
    simp [partsB]
  | d + 1, k, i, acc, ha, hi, hk => by
    obtain ⟨k, rfl⟩ : ∃ m, k = m + 1 := ⟨k - 1, by omega⟩
    have hlt : i < ks.length := by omega
    have hlt2 : i + 1 < kd.length := by omega
    have h0 := hp _ (List.getElem_mem hlt)
    have h2 := hd _ (List.getElem_mem hlt2)
    simp only [kidOk, Bool.and_eq_true, decide_eq_true_eq] at h2
    simp only [bazaarref06_bytes.l1]
    rw [if_pos (by omega), if_pos (by omega), rdOf_nat ks i hlt, put1_eq _ (by omega) k (by omega), Option.bind_some, w_add i (by omega), rd_nat kd (i + 1) hlt2, put4_eq _ (by omega) (by omega) k (by omega), Option.bind_some]
    have s1 : ∀ u : UInt8, (⟨#[u]⟩ : ByteArray).size = 1 := fun _ => rfl
    have s4 : ∀ d : Int, (⟨(be4 d).toArray⟩ : ByteArray).size = 4 := fun _ => rfl
    simp only [ByteArray.size_append, s1, s4]
    rw [if_pos (by omega), if_pos (by omega), if_pos (by omega), if_pos (by omega), if_pos (by omega), bytes_l1 ps ks kd hl hlk hd hp d k (i + 1) _ (by simp only [ByteArray.size_append, s1, s4]; omega) (by omega) (by omega), List.drop_eq_getElem_cons hlt, List.drop_eq_getElem_cons hlt2, show partsB (ks[i] :: ks.drop (i + 1)) (kd[i + 1] :: kd.drop (i + 1 + 1)) = textB ks[i] ++ be4 kd[i + 1] ++ partsB (ks.drop (i + 1)) (kd.drop (i + 1 + 1)) from rfl]
    simp [textB]
theorem bytes_eq {ps : List S39} {ks : List ByteArray} {kd : List Int} (h : Cut ps ks kd) (hr : rightB ps ks kd = true) (k : Nat) (hk : 400010 < k) : bazaarref06_bytes.f k ps ks kd = some ⟨(bytesN ps ks kd).toArray⟩ := by
  obtain ⟨hs, hp, hkk⟩ := h
  simp only [smallB, Bool.and_eq_true, decide_eq_true_eq] at hs
  unfold bazaarref06_bytes.f bytesN
  rcases right_or hr with h | h
  · obtain ⟨rfl, rfl, h3, _⟩ := leaf_facts h
    have h1 := bytes_l0 ps [] [] (by omega) hp ps.length k 0 ⟨#[byteOf ps.length]⟩ (by show 1 ≤ _; omega) (by omega) (by omega)
    rw [if_pos (by simp), put1_eq _ (by omega) k (by omega), Option.bind_some]
    rw [show ((0 : Nat) : Int) = 0 from rfl, List.drop_zero] at h1
    rw [h1]
    rfl
  · obtain ⟨rfl, h1, h2, h3, h4, h5, _⟩ := branch_facts h
    cases kd with
    | nil => simp at h1
    | cons d0 r =>
      have hd0 := h4 d0 List.mem_cons_self
      simp only [kidOk, Bool.and_eq_true, decide_eq_true_eq] at hd0
      have h6 := bytes_l1 [] ks (d0 :: r) (by omega) h3 h4 hkk ks.length k 0 (⟨#[byteOf (d0 :: r).length]⟩ ++ ⟨(be4 d0).toArray⟩) (by rw [ByteArray.size_append]; show 1 + 4 ≤ _; omega) (by omega) (by omega)
      rw [if_neg (by rw [List.length_cons]; omega), put1_eq _ (by omega) k (by omega), Option.bind_some, if_pos (by rw [List.length_cons]; omega), show rd (d0 :: r) 0 = d0 from rfl, put4_eq _ (by omega) (by omega) k (by omega), Option.bind_some,
        if_pos (by show 1 + 4 ≤ _; omega)]
      rw [show ((0 : Nat) : Int) = 0 from rfl] at h6
      rw [h6]
      simp
end Go.Proofs.Ytejempihaknplaa.G
