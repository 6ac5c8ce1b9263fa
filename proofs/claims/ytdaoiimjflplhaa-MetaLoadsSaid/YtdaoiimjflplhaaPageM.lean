/- Pages and metas as plain things: numbers' bytes, which pages are right, their bytes, the page of bytes. No program in sight. -/
import Derived.Test.YtdaoiimjflplhaaSumM
namespace Go.Proofs.Ytdaoiimjflplhaa

/-- The last k bytes of a number, the greatest first. -/
def be : Nat → Nat → List UInt8
  | 0, _ => []
  | k + 1, n => UInt8.ofNat (n / 256 ^ k % 256) :: be k n
theorem be_length : ∀ k n, (be k n).length = k
  | 0, _ => rfl
  | k + 1, n => by simp [be, be_length k n]
theorem be_byte (k n : Nat) : (UInt8.ofNat (n / 256 ^ k % 256)).toNat = n / 256 ^ k % 256 := by
  rw [UInt8.toNat_ofNat']
  exact Nat.mod_eq_of_lt (Nat.lt_of_lt_of_le (Nat.mod_lt _ (by omega)) (by decide))
/-- The number of bytes, of 64 bits. -/
theorem num_cons (c : UInt8) (l : List UInt8) : Sm.num (c :: l) = c.toNat * 256 ^ l.length + Sm.num l := by
  have h : ∀ (l : List UInt8) (a : Nat), l.foldl (fun n c => n * 256 + c.toNat) a = a * 256 ^ l.length + Sm.num l := by
    intro l
    induction l with
    | nil => intro a; simp [Sm.num]
    | cons d l ih =>
      intro a
      unfold Sm.num
      rw [List.foldl_cons, List.foldl_cons, ih, ih, List.length_cons, Nat.pow_succ, Nat.add_mul, Nat.zero_mul, Nat.zero_add, Nat.mul_assoc, Nat.mul_comm 256, Nat.add_assoc]
  unfold Sm.num
  rw [List.foldl_cons, h]
  simp [Sm.num]
theorem num_be : ∀ k n, Sm.num (be k n) = n % 256 ^ k
  | 0, n => by simp [be, Sm.num, Nat.mod_one]
  | k + 1, n => by
    rw [be, num_cons, be_byte, be_length, num_be k n, Nat.pow_succ, Nat.mod_mul, Nat.mul_comm, Nat.add_comm]
theorem num_be_lt (k n : Nat) (h : n < 256 ^ k) : Sm.num (be k n) = n := by rw [num_be, Nat.mod_eq_of_lt h]
theorem be_num : ∀ (l : List UInt8), be l.length (Sm.num l) = l
  | [] => rfl
  | c :: l => by
    have hl := Sm.num_lt l
    have hc : c.toNat < 256 := c.toNat_lt
    rw [List.length_cons, be, num_cons]
    have h1 : (c.toNat * 256 ^ l.length + Sm.num l) / 256 ^ l.length = c.toNat := by
      rw [Nat.mul_comm, Nat.mul_add_div (Nat.pow_pos (by omega)), Nat.div_eq_of_lt hl, Nat.add_zero]
    rw [h1, Nat.mod_eq_of_lt hc]
    have h2 : ∀ (k a n : Nat), be k (a * 256 ^ k + n) = be k n := by
      intro k
      induction k with
      | zero => intro a n; rfl
      | succ k ih =>
        intro a n
        rw [be, be]
        congr 1
        · congr 1
          rw [Nat.pow_succ, Nat.mul_comm (256 ^ k) 256, ← Nat.mul_assoc, Nat.add_comm, Nat.add_mul_div_right _ _ (Nat.pow_pos (by omega)), Nat.add_mul_mod_self_right]
        · rw [Nat.pow_succ, Nat.mul_comm (256 ^ k) 256, ← Nat.mul_assoc]
          exact ih (a * 256) n
    rw [h2, be_num l]
    congr 1
    exact UInt8.toNat.inj (by rw [UInt8.toNat_ofNat']; exact Nat.mod_eq_of_lt (Nat.lt_of_lt_of_le hc (by decide)))

/-- Which pages are right: kind, id, transaction, the body's length. -/
def rightB (k : Int) (i t n : Nat) : Bool := decide (1 ≤ k ∧ k ≤ 3 ∧ 2 ≤ i ∧ i < 16384 ∧ 0 < t ∧ n ≤ 237)
theorem rightB_iff (k : Int) (i t n : Nat) : rightB k i t n = true ↔ 1 ≤ k ∧ k ≤ 3 ∧ 2 ≤ i ∧ i < 16384 ∧ 0 < t ∧ n ≤ 237 := by simp [rightB]
theorem rightB_not (k : Int) (i t n : Nat) (h : ¬ (1 ≤ k ∧ k ≤ 3 ∧ 2 ≤ i ∧ i < 16384 ∧ 0 < t ∧ n ≤ 237)) : rightB k i t n = false := by
  unfold rightB
  exact decide_eq_false h
/-- A page's bytes ahead of its sum. -/
def headL (k i t : Nat) (b : List UInt8) : List UInt8 := be 1 k ++ be 4 i ++ be 8 t ++ be 2 b.length ++ b
theorem headL_length (k i t : Nat) (b : List UInt8) : (headL k i t b).length = 15 + b.length := by simp [headL, be_length]; omega
def sealL (l : List UInt8) : List UInt8 := l ++ Sm.be4 (Sm.sumV l)
theorem sealL_length (l : List UInt8) : (sealL l).length = l.length + 4 := by simp [sealL, Sm.be4]
/-- Its bytes. -/
def encL (k i t : Nat) (b : List UInt8) : List UInt8 := sealL (headL k i t b) ++ List.replicate (256 - (19 + b.length)) 0
theorem encL_length (k i t : Nat) (b : List UInt8) (h : b.length ≤ 237) : (encL k i t b).length = 256 := by
  simp only [encL, List.length_append, sealL_length, headL_length, List.length_replicate]
  omega
end Go.Proofs.Ytdaoiimjflplhaa
