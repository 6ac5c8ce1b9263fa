/- Plain laws of sealed bytes: the four bytes of a number tell it; what is sealed is right. No condition but bounds. -/
import Derived.Test.YtmbjbckjfkijmaaSumM
namespace Go.Proofs.Ytmbjbckjfkijmaa.Sm
theorem u8_of (n : Nat) (h : n < 256) : (UInt8.ofNat n).toNat = n := by
  rw [UInt8.toNat_ofNat']
  exact Nat.mod_eq_of_lt h
theorem be4_length (n : Nat) : (be4 n).length = 4 := rfl
theorem num_be4 (n : Nat) (h : n < 4294967296) : num (be4 n) = n := by
  simp only [num, be4, List.foldl_cons, List.foldl_nil]
  rw [u8_of (n / 16777216) (by omega), u8_of (n / 65536 % 256) (by omega), u8_of (n / 256 % 256) (by omega), u8_of (n % 256) (by omega)]
  omega
theorem drop_seal (l m : List UInt8) (h : m.length = 4) : (l ++ m).drop ((l ++ m).length - 4) = m := by
  rw [List.length_append, h, Nat.add_sub_cancel]
  simp
theorem take_seal (l m : List UInt8) (h : m.length = 4) : (l ++ m).take ((l ++ m).length - 4) = l := by
  rw [List.length_append, h, Nat.add_sub_cancel]
  simp
theorem openOk_append (l m : List UInt8) (h : m.length = 4) : openOk (l ++ m) = decide (num m = sumV l) := by
  unfold openOk
  rw [drop_seal l m h, take_seal l m h, decide_eq_true (by rw [List.length_append, h]; omega)]
  simp
theorem openOk_seal (l : List UInt8) : openOk (l ++ be4 (sumV l)) = true := by
  rw [openOk_append l _ rfl, num_be4 _ (sumV_lt l)]
  simp
/-- Four bytes are told by their number. -/
theorem num4_inj (l m : List UInt8) (hl : l.length = 4) (hm : m.length = 4) (h : num l = num m) : l = m := by
  obtain ⟨a0, a1, a2, a3, rfl⟩ : ∃ a b c d, l = [a, b, c, d] := by
    match l, hl with
    | [a, b, c, d], _ => exact ⟨a, b, c, d, rfl⟩
  obtain ⟨b0, b1, b2, b3, rfl⟩ : ∃ a b c d, m = [a, b, c, d] := by
    match m, hm with
    | [a, b, c, d], _ => exact ⟨a, b, c, d, rfl⟩
  simp only [num, List.foldl_cons, List.foldl_nil] at h
  have h0 := a0.toNat_lt
  have h1 := a1.toNat_lt
  have h2 := a2.toNat_lt
  have h3 := a3.toNat_lt
  have k0 := b0.toNat_lt
  have k1 := b1.toNat_lt
  have k2 := b2.toNat_lt
  have k3 := b3.toNat_lt
  rw [UInt8.toNat.inj (show a0.toNat = b0.toNat by omega), UInt8.toNat.inj (show a1.toNat = b1.toNat by omega), UInt8.toNat.inj (show a2.toNat = b2.toNat by omega), UInt8.toNat.inj (show a3.toNat = b3.toNat by omega)]
end Go.Proofs.Ytmbjbckjfkijmaa.Sm
