/- Turn of package sum: what each call returns, and that it leaves whatever lay as it lay. No condition but that a text's length is a length. -/
import Derived.Test.YtcklponeofdfcaaSumFinds
namespace Go.Proofs.Ytcklponeofdfcaa
open Go.RowKit Go.Shelf

/-- Two neighbours turned. -/
def turnL (l : List UInt8) (k : Nat) : List UInt8 := (l.set k (l.getD (k + 1) 0)).set (k + 1) (l.getD k 0)
theorem getD_at (l : List UInt8) (k : Nat) (h : k < l.length) : l.getD k 0 = l[k] := by simp [List.getD, h]
theorem turnL_length (l : List UInt8) (k : Nat) : (turnL l k).length = l.length := by simp [turnL]

set_option maxHeartbeats 400000 in
theorem turn_no (s : ByteArray) (i : Int) (w : World) (hs : s.size ≤ maxLen) (h : i < 0 ∨ (0 ≤ i ∧ (s.size : Int) - 1 ≤ i)) :
    Calls Try.prog 22 #[.string s, .int .i64 i] w fun e w' => e = .returned (.tuple #[.string ⟨#[]⟩, .int .i64 2]) ∧ Below w.heap.size w w' := by
  unfold maxLen at hs
  rcases h with h | ⟨h, h2⟩
  · have k1 : decide (i < 0) = true := decide_eq_true h
    clear h
    go_enter Try.func22, Try.ntmps22
    go_wp2
    go_ret2
    exact ⟨rfl, bl_re _⟩
  · have k1 : decide (i < 0) = false := decide_eq_false (by omega)
    have k2 : decide (i < (s.size : Int) - 1) = false := decide_eq_false (by omega)
    have k3 : decide ((s.size : Int) - 1 ≤ i) = true := decide_eq_true (by omega)
    clear h
    go_enter Try.func22, Try.ntmps22
    go_wp2
    go_ret2
    exact ⟨rfl, bl_re _⟩

set_option maxRecDepth 100000 in
set_option maxHeartbeats 1000000 in
theorem turn_yes (s : ByteArray) (k : Nat) (w : World) (hs : s.size ≤ maxLen) (hk : k + 1 < s.size) :
    Calls Try.prog 22 #[.string s, .int .i64 k] w fun e w' => e = .returned (.tuple #[.string (mk (turnL s.data.toList k)), .int .i64 0]) ∧ Below w.heap.size w w' := by
  unfold maxLen at hs
  have k1 : decide ((k : Int) < 0) = false := decide_eq_false (by omega)
  have k3 : decide ((s.size : Int) - 1 ≤ (k : Int)) = false := decide_eq_false (by omega)
  obtain ⟨cap, W', hcv, hcell, hfr, hbl, hWs⟩ := conv_bytes (P := Try.prog) w 9 33 5 s Try.underlying9 Try.underlying33 Try.underlying5
  have g0 := hcell k (by omega)
  have g1 := hcell (k + 1) hk
  have f0 := hfr k (by omega)
  have f1 := hfr (k + 1) hk
  have hturn : (s.data.toList.set k (s[k + 1]'hk)).set (k + 1) (s[k]'(Nat.lt_of_succ_lt hk)) = turnL s.data.toList k := by
    unfold turnL
    rw [getD_at _ _ (show k + 1 < s.data.toList.length by rw [ba_length]; exact hk), getD_at _ _ (show k < s.data.toList.length by rw [ba_length]; omega)]
    rfl
  have hH := (((Holds.of hcell).set_ k (s[k + 1]'hk) (by rw [ba_length]; omega)).set_ (k + 1) (s[k]'(Nat.lt_of_succ_lt hk)) (by rw [List.length_set, ba_length]; exact hk)).drew
  rw [hturn] at hH
  have hback := conv_back (P := Try.prog) _ 33 9 5 w.heap.size cap s.size (turnL s.data.toList k)
    Try.underlying33 Try.underlying5 Try.underlying9 (by rw [turnL_length, ba_length]) hH
  clear hcell hfr hWs hturn hH
  have x0 : 0 ≤ (k : Int) + 1 := by omega
  have x1 : ((k : Int) + 1).toNat = k + 1 := by omega
  go_enter Try.func22, Try.ntmps22
  go_wp2
  go_region
  go_wp2
  go_ret2
  exact ⟨rfl, bl_dr (bl_st (bl_st hbl (Nat.le_refl _) _) (Nat.le_refl _) _)⟩
end Go.Proofs.Ytcklponeofdfcaa
