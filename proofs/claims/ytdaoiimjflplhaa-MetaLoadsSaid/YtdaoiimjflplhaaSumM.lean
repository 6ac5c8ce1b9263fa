/- The plain functions of the check sum, over numbers and lists of bytes: the two running numbers, the packed sum, which sums are right. No condition. -/
namespace Go.Proofs.Ytdaoiimjflplhaa.Sm

/-- One byte. -/
def stp (p : Nat × Nat) (c : UInt8) : Nat × Nat := ((p.1 + c.toNat) % 65521, (p.2 + (p.1 + c.toNat) % 65521) % 65521)
/-- All of them. -/
def adl (p : Nat × Nat) (l : List UInt8) : Nat × Nat := l.foldl stp p
/-- The two numbers in one. -/
def pack (p : Nat × Nat) : Nat := p.2 * 65536 + p.1
/-- Is a sum right? -/
def okS (n : Nat) : Bool := decide (n % 65536 < 65521) && decide (n / 65536 < 65521)
/-- More bytes. -/
def moreV (n : Nat) (l : List UInt8) : Nat := if okS n = true then pack (adl (n % 65536, n / 65536) l) else 0
def errArg (b : Bool) : Int := if b = true then 0 else 2
/-- The sum of bytes. -/
def sumV (l : List UInt8) : Nat := pack (adl (1, 0) l)
/-- Two parts. -/
def okJ (a b : Nat) (n : Int) : Bool := okS a && okS b && decide (0 ≤ n) && decide (n ≤ 1048576)
def joinV (a b : Nat) (n : Int) : Nat :=
  if okJ a b n = true then pack ((a % 65536 + b % 65536 + 65520) % 65521, (a / 65536 + b / 65536 + n.toNat * (a % 65536 + 65520)) % 65521) else 0

theorem adl_nil (p : Nat × Nat) : adl p [] = p := rfl
theorem adl_append (p : Nat × Nat) (l m : List UInt8) : adl p (l ++ m) = adl (adl p l) m := by simp [adl]
theorem adl_snoc (p : Nat × Nat) (l : List UInt8) (c : UInt8) : adl p (l ++ [c]) = stp (adl p l) c := by simp [adl]
theorem stp_lt (p : Nat × Nat) (c : UInt8) : (stp p c).1 < 65521 ∧ (stp p c).2 < 65521 := by
  simp only [stp]
  omega
theorem adl_lt (p : Nat × Nat) (l : List UInt8) (h1 : p.1 < 65521) (h2 : p.2 < 65521) : (adl p l).1 < 65521 ∧ (adl p l).2 < 65521 := by
  induction l generalizing p with
  | nil => exact ⟨h1, h2⟩
  | cons c l ih => exact ih (stp p c) (stp_lt p c).1 (stp_lt p c).2
theorem okS_iff (n : Nat) : okS n = true ↔ n % 65536 < 65521 ∧ n / 65536 < 65521 := by simp [okS]
theorem pack_mod (p : Nat × Nat) (h : p.1 < 65536) : pack p % 65536 = p.1 := by simp only [pack]; omega
theorem pack_div (p : Nat × Nat) (h : p.1 < 65536) : pack p / 65536 = p.2 := by simp only [pack]; omega
theorem pack_lt (p : Nat × Nat) (h1 : p.1 < 65536) (h2 : p.2 < 65536) : pack p < 4294967296 := by simp only [pack]; omega
theorem okS_pack (p : Nat × Nat) (h1 : p.1 < 65521) (h2 : p.2 < 65521) : okS (pack p) = true := by
  rw [okS_iff, pack_mod p (by omega), pack_div p (by omega)]
  exact ⟨h1, h2⟩
theorem sum_lt (l : List UInt8) : (adl (1, 0) l).1 < 65521 ∧ (adl (1, 0) l).2 < 65521 := adl_lt _ l (by simp) (by simp)
theorem sumV_lt (l : List UInt8) : sumV l < 4294967296 := pack_lt _ (by have := (sum_lt l).1; omega) (by have := (sum_lt l).2; omega)
theorem sumV_mod (l : List UInt8) : sumV l % 65536 = (adl (1, 0) l).1 := pack_mod _ (by have := (sum_lt l).1; omega)
theorem sumV_div (l : List UInt8) : sumV l / 65536 = (adl (1, 0) l).2 := pack_div _ (by have := (sum_lt l).1; omega)
theorem okS_sumV (l : List UInt8) : okS (sumV l) = true := okS_pack _ (sum_lt l).1 (sum_lt l).2
theorem moreV_lt (n : Nat) (l : List UInt8) : moreV n l < 4294967296 := by
  unfold moreV
  split
  · rename_i h
    obtain ⟨h1, h2⟩ := (okS_iff n).1 h
    obtain ⟨h3, h4⟩ := adl_lt (n % 65536, n / 65536) l h1 h2
    exact pack_lt _ (by omega) (by omega)
  · omega
theorem joinV_lt (a b : Nat) (n : Int) : joinV a b n < 4294967296 := by
  unfold joinV
  split
  · exact pack_lt _ (by show _ % 65521 < 65536; omega) (by show _ % 65521 < 65536; omega)
  · omega
theorem take_snoc (s : ByteArray) (k : Nat) (h : k < s.size) : s.data.toList.take (k + 1) = s.data.toList.take k ++ [s[k]] := by
  rw [List.take_succ_eq_append_getElem (by simpa using h)]; rfl
/-- A sum's four bytes, the greatest first. -/
def be4 (n : Nat) : List UInt8 := [UInt8.ofNat (n / 16777216), UInt8.ofNat (n / 65536 % 256), UInt8.ofNat (n / 256 % 256), UInt8.ofNat (n % 256)]
/-- The number of bytes, the greatest first. -/
def num (l : List UInt8) : Nat := l.foldl (fun n c => n * 256 + c.toNat) 0
theorem num_snoc (l : List UInt8) (c : UInt8) : num (l ++ [c]) = num l * 256 + c.toNat := by simp [num]
theorem num_nil : num [] = 0 := rfl
theorem num_lt (l : List UInt8) : num l < 256 ^ l.length := by
  have key : ∀ (l : List UInt8) (n : Nat), l.foldl (fun n c => n * 256 + c.toNat) n < (n + 1) * 256 ^ l.length := by
    intro l
    induction l with
    | nil => intro n; simp
    | cons c l ih =>
      intro n
      have h1 := ih (n * 256 + c.toNat)
      have h2 := c.toNat_lt
      rw [List.foldl_cons, List.length_cons, Nat.pow_succ]
      refine Nat.lt_of_lt_of_le h1 ?_
      rw [Nat.mul_comm (256 ^ l.length) 256, ← Nat.mul_assoc]
      exact Nat.mul_le_mul_right _ (by omega)
  have h := key l 0
  rw [Nat.zero_add, Nat.one_mul] at h
  exact h
theorem num_lt3 (l : List UInt8) (h : l.length ≤ 3) : num l < 16777216 := by
  have h1 := num_lt l
  have h2 : 256 ^ l.length ≤ 256 ^ 3 := Nat.pow_le_pow_right (by omega) h
  omega
theorem num_lt4 (l : List UInt8) (h : l.length ≤ 4) : num l < 4294967296 := by
  have h1 := num_lt l
  have h2 : 256 ^ l.length ≤ 256 ^ 4 := Nat.pow_le_pow_right (by omega) h
  omega
theorem drop_take_snoc (s : ByteArray) (m i : Nat) (hm : m ≤ i) (h : i < s.size) : (s.data.toList.take (i + 1)).drop m = (s.data.toList.take i).drop m ++ [s[i]] := by
  rw [take_snoc s i h, List.drop_append_of_le_length (by rw [List.length_take, Array.length_toList]; show m ≤ min i s.size; omega)]
/-- Are sealed bytes right? -/
def openOk (l : List UInt8) : Bool := decide (4 ≤ l.length) && decide (num (l.drop (l.length - 4)) = sumV (l.take (l.length - 4)))
end Go.Proofs.Ytdaoiimjflplhaa.Sm
