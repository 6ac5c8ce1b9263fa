/- Plain laws: the sum of two parts. No condition but bounds. -/
import Derived.Test.YtmbjbckjfkijmaaSumM3
namespace Go.Proofs.Ytmbjbckjfkijmaa.Sm
/-- All bytes, each as many times as there are bytes from it on. -/
def wgt : List UInt8 → Nat
  | [] => 0
  | c :: l => (l.length + 1) * c.toNat + wgt l
theorem adl_snd (a b : Nat) (l : List UInt8) (h : b < 65521) : (adl (a, b) l).2 = (b + l.length * a + wgt l) % 65521 := by
  induction l generalizing a b with
  | nil => simp [adl_nil, wgt, Nat.mod_eq_of_lt h]
  | cons c l ih =>
    have h1 := ih ((a + c.toNat) % 65521) ((b + (a + c.toNat) % 65521) % 65521) (Nat.mod_lt _ (by omega))
    show (adl (stp (a, b) c) l).2 = _
    simp only [stp]
    rw [h1]
    simp only [wgt, List.length_cons]
    generalize c.toNat = x
    generalize wgt l = W
    generalize l.length = n
    have e1 : a + x = (a + x) % 65521 + 65521 * ((a + x) / 65521) := (Nat.mod_add_div _ _).symm
    have e2 : n * (a + x) = n * ((a + x) % 65521) + 65521 * (n * ((a + x) / 65521)) := by
      conv => lhs; rw [e1]
      rw [Nat.mul_add, Nat.mul_left_comm]
    have e3 : (n + 1) * a + ((n + 1) * x + W) = n * (a + x) + (a + x) + W := by
      rw [Nat.add_mul, Nat.add_mul, Nat.mul_add]
      omega
    have e4 : b + (n + 1) * a + ((n + 1) * x + W) = b + ((n + 1) * a + ((n + 1) * x + W)) := by omega
    rw [e4, e3, e2]
    generalize n * ((a + x) % 65521) = u
    generalize n * ((a + x) / 65521) = v
    omega
theorem adl_sumV (l m : List UInt8) : adl (1, 0) (l ++ m) = adl ((adl (1, 0) l).1, (adl (1, 0) l).2) m := adl_append _ _ _
theorem more_sum (l m : List UInt8) : pack (adl (sumV l % 65536, sumV l / 65536) m) = sumV (l ++ m) := by
  rw [sumV_mod, sumV_div]
  show _ = pack (adl (1, 0) (l ++ m))
  rw [adl_sumV]
theorem join_sum (l m : List UInt8) :
    pack ((sumV l % 65536 + sumV m % 65536 + 65520) % 65521, (sumV l / 65536 + sumV m / 65536 + m.length * (sumV l % 65536 + 65520)) % 65521) = sumV (l ++ m) := by
  rw [sumV_mod, sumV_div, sumV_mod, sumV_div]
  show _ = pack (adl (1, 0) (l ++ m))
  rw [adl_sumV]
  obtain ⟨h1, h2⟩ := sum_lt l
  generalize (adl (1, 0) l).1 = a at *
  generalize (adl (1, 0) l).2 = b at *
  have f1 := adl_fst (a, b) m h1
  have f2 := adl_snd a b m h2
  have g1 := adl_fst (1, 0) m (by simp)
  have g2 := adl_snd 1 0 m (by omega)
  have key : adl (a, b) m = ((a + (adl (1, 0) m).1 + 65520) % 65521, (b + (adl (1, 0) m).2 + m.length * (a + 65520)) % 65521) := by
    refine Prod.ext ?_ ?_
    · rw [f1, g1]
      simp only
      omega
    · rw [f2, g2]
      simp only [Nat.zero_add, Nat.mul_one]
      rw [Nat.mul_add]
      generalize m.length * a = u
      generalize m.length = n
      generalize wgt m = W
      omega
  rw [key]
end Go.Proofs.Ytmbjbckjfkijmaa.Sm
