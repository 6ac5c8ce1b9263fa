/- Plain laws: a changed byte, or two neighbours that are turned, give another sum. No condition but bounds. -/
import Derived.Test.YtmbjbckjfkijmaaSumM2
namespace Go.Proofs.Ytmbjbckjfkijmaa.Sm
/-- All bytes added. -/
def tot (l : List UInt8) : Nat := (l.map UInt8.toNat).sum
theorem tot_nil : tot [] = 0 := rfl
theorem tot_cons (c : UInt8) (l : List UInt8) : tot (c :: l) = c.toNat + tot l := by simp [tot]
theorem tot_append (l m : List UInt8) : tot (l ++ m) = tot l + tot m := by simp [tot]
theorem adl_fst (p : Nat × Nat) (l : List UInt8) (h : p.1 < 65521) : (adl p l).1 = (p.1 + tot l) % 65521 := by
  induction l generalizing p with
  | nil => rw [tot_nil, adl_nil, Nat.add_zero, Nat.mod_eq_of_lt h]
  | cons c l ih =>
    have h1 := ih (stp p c) (stp_lt p c).1
    show (adl (stp p c) l).1 = _
    rw [h1, tot_cons]
    simp only [stp]
    omega
theorem sumV_fst (l m : List UInt8) (h : sumV l = sumV m) : (1 + tot l) % 65521 = (1 + tot m) % 65521 := by
  rw [← adl_fst (1, 0) l (by simp), ← adl_fst (1, 0) m (by simp), ← sumV_mod, ← sumV_mod, h]
theorem split_at (l : List UInt8) (i : Nat) (h : i < l.length) : l = l.take i ++ l[i] :: l.drop (i + 1) := by
  rw [List.getElem_cons_drop, List.take_append_drop]
theorem set_at (l : List UInt8) (i : Nat) (c : UInt8) (h : i < l.length) : l.set i c = l.take i ++ c :: l.drop (i + 1) := by
  rw [List.set_eq_take_append_cons_drop, if_pos h]
/-- One byte changed: another sum. -/
theorem sumV_set (l : List UInt8) (i : Nat) (c : UInt8) (h : i < l.length) (hc : c ≠ l[i]) : sumV (l.set i c) ≠ sumV l := by
  intro he
  have h1 := sumV_fst _ _ he
  rw [set_at l i c h] at h1
  have h2 : tot l = tot (l.take i) + (l[i].toNat + tot (l.drop (i + 1))) := by
    conv => lhs; rw [split_at l i h]
    rw [tot_append, tot_cons]
  rw [tot_append, tot_cons, h2] at h1
  have h3 := c.toNat_lt
  have h4 := l[i].toNat_lt
  have h5 : c.toNat ≠ l[i].toNat := fun e => hc (UInt8.toNat.inj e)
  omega
/-- One byte of sealed ones changed: they are not right. -/
theorem openOk_set (l : List UInt8) (i : Nat) (c : UInt8) (h : i < (l ++ be4 (sumV l)).length) (hc : c ≠ (l ++ be4 (sumV l))[i]) : openOk ((l ++ be4 (sumV l)).set i c) = false := by
  by_cases hi : i < l.length
  · rw [List.set_append_left i c hi, openOk_append _ _ (be4_length _), num_be4 _ (sumV_lt l)]
    rw [List.getElem_append_left hi] at hc
    exact decide_eq_false (fun e => sumV_set l i c hi hc e.symm)
  · have hi' : l.length ≤ i := by omega
    have hlt : i - l.length < (be4 (sumV l)).length := by rw [List.length_append] at h; omega
    rw [List.set_append_right i c hi', openOk_append _ _ (by rw [List.length_set]; rfl)]
    rw [List.getElem_append_right hi'] at hc
    refine decide_eq_false (fun e => ?_)
    have h1 := num4_inj ((be4 (sumV l)).set (i - l.length) c) (be4 (sumV l)) (by rw [List.length_set]; rfl) rfl (by rw [e, num_be4 _ (sumV_lt l)])
    have h2 : ((be4 (sumV l)).set (i - l.length) c)[i - l.length]? = (be4 (sumV l))[i - l.length]? := by rw [h1]
    rw [List.getElem?_set_self hlt, List.getElem?_eq_getElem hlt] at h2
    exact hc (Option.some.inj h2)
theorem xor_ne (c b : UInt8) (h : b ≠ 0) : c ^^^ b ≠ c := by
  intro e
  apply h
  have h1 : c ^^^ (c ^^^ b) = c ^^^ c := by rw [e]
  rwa [← UInt8.xor_assoc, UInt8.xor_self, UInt8.zero_xor] at h1
end Go.Proofs.Ytmbjbckjfkijmaa.Sm
