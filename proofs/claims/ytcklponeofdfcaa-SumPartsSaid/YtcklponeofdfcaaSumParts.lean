/- The law SumParts: for every three texts the law returns true, and whatever lay lies as it lay. No condition. -/
import Derived.Test.YtcklponeofdfcaaSumJoins
import Derived.Test.YtcklponeofdfcaaConv
namespace Go.Proofs.Ytcklponeofdfcaa
open Go.RowKit Go.Shelf

set_option maxRecDepth 100000 in
set_option maxHeartbeats 1000000 in
theorem sumParts_law (a b c : ByteArray) (ha : a.size ≤ maxLen) (hb : b.size ≤ maxLen) (hc : c.size ≤ maxLen) (w : World) :
    Calls Try.prog 8 #[.string a, .string b, .string c] w fun e w' => e = .returned (.bool true) ∧ Below w.heap.size w w' := by
  unfold maxLen at ha hb hc
  have h0 := fun w => shown_any w
  obtain ⟨i, hi, hi1, hi2⟩ : ∃ k : Nat, min (a.size : Int) 1000 = (k : Int) ∧ k ≤ a.size ∧ k ≤ 1000 := ⟨min a.size 1000, by omega, by omega, by omega⟩
  have mi := fun ats ty w => run_min_two (P := Try.prog) _ _ _ hi ats ty w
  obtain ⟨A, hA⟩ : ∃ A, a.extract 0 i = A := ⟨_, rfl⟩
  have hAs : A.size ≤ 1000 := by rw [← hA, ByteArray.size_extract]; omega
  obtain ⟨j, hj, hj1, hj2⟩ : ∃ k : Nat, min (b.size : Int) 1000 = (k : Int) ∧ k ≤ b.size ∧ k ≤ 1000 := ⟨min b.size 1000, by omega, by omega, by omega⟩
  have mj := fun ats ty w => run_min_two (P := Try.prog) _ _ _ hj ats ty w
  obtain ⟨B, hB⟩ : ∃ A, b.extract 0 j = A := ⟨_, rfl⟩
  have hBs : B.size ≤ 1000 := by rw [← hB, ByteArray.size_extract]; omega
  obtain ⟨k, hk, hk1, hk2⟩ : ∃ k : Nat, min (c.size : Int) 1000 = (k : Int) ∧ k ≤ c.size ∧ k ≤ 1000 := ⟨min c.size 1000, by omega, by omega, by omega⟩
  have mk := fun ats ty w => run_min_two (P := Try.prog) _ _ _ hk ats ty w
  obtain ⟨C, hC⟩ : ∃ A, c.extract 0 k = A := ⟨_, rfl⟩
  have hCs : C.size ≤ 1000 := by rw [← hC, ByteArray.size_extract]; omega
  have h1 := fun w => sum_any A w (by unfold maxLen; omega)
  have h2 := fun w => sum_any B w (by unfold maxLen; omega)
  have h3 := fun w => sum_any C w (by unfold maxLen; omega)
  have h4 := fun w => join_sums A B B.size w rfl (by omega)
  have h5 := fun w => join_sums (A ++ B) C C.size w rfl (by omega)
  have h6 := fun w => join_sums B C C.size w rfl (by omega)
  have h7 := fun w => join_sums A (B ++ C) ((B.size : Int) + (C.size : Int)) w (by rw [ByteArray.size_append]; omega) (by rw [ByteArray.size_append]; omega)
  have h8 := fun w => sum_any (A ++ B ++ C) w (by unfold maxLen; rw [ByteArray.size_append, ByteArray.size_append]; omega)
  rw [ba_append] at h5
  rw [ba_append, ← List.append_assoc] at h7
  rw [ba_append, ba_append] at h8
  have hx := Sm.sumV_lt A.data.toList
  generalize Sm.sumV (A.data.toList ++ B.data.toList ++ C.data.toList) = N at *
  generalize Sm.sumV (A.data.toList ++ B.data.toList) = u at *
  generalize Sm.sumV (B.data.toList ++ C.data.toList) = v at *
  generalize Sm.sumV A.data.toList = x at *
  generalize Sm.sumV B.data.toList = y at *
  generalize Sm.sumV C.data.toList = z at *
  have H0 := Lib.hid h0
  have H1 := Lib.hid h1
  have H2 := Lib.hid h2
  have H3 := Lib.hid h3
  have H4 := Lib.hid h4
  have H5 := Lib.hid h5
  have H6 := Lib.hid h6
  have H7 := Lib.hid h7
  have H8 := Lib.hid h8
  clear h0 h1 h2 h3 h4 h5 h6 h7 h8 hx hi hj hk
  go_enter Try.func8, Try.ntmps8
  go_wp2_with fail
  refine (H0.out _).mono ?_
  rintro e w1 ⟨rfl, hb1⟩
  go_wp2_with fail
  refine (H1.out _).mono ?_
  rintro e w2 ⟨rfl, hb2⟩
  go_wp2_with fail
  refine (H2.out _).mono ?_
  rintro e w3 ⟨rfl, hb3⟩
  go_wp2_with fail
  refine (H4.out _).mono ?_
  rintro e w4 ⟨rfl, hb4⟩
  go_wp2_with fail
  refine (H3.out _).mono ?_
  rintro e w5 ⟨rfl, hb5⟩
  go_wp2_with fail
  refine (H5.out _).mono ?_
  rintro e w6 ⟨rfl, hb6⟩
  go_wp2_with fail
  refine (H2.out _).mono ?_
  rintro e w7 ⟨rfl, hb7⟩
  go_wp2_with fail
  refine (H3.out _).mono ?_
  rintro e w8 ⟨rfl, hb8⟩
  go_wp2_with fail
  refine (H6.out _).mono ?_
  rintro e w9 ⟨rfl, hb9⟩
  go_wp2_with fail
  refine (H1.out _).mono ?_
  rintro e w10 ⟨rfl, hb10⟩
  go_wp2_with fail
  refine (H7.out _).mono ?_
  rintro e w11 ⟨rfl, hb11⟩
  go_wp2_with fail
  refine (H8.out _).mono ?_
  rintro e w12 ⟨rfl, hb12⟩
  go_wp2
  go_ret
  exact ⟨rfl, bl_tr (bl_tr (bl_tr (bl_tr (bl_tr (bl_tr (bl_tr (bl_tr (bl_tr (bl_tr (bl_tr hb1 hb2) hb3) hb4) hb5) hb6) hb7) hb8) hb9) hb10) hb11) hb12⟩
end Go.Proofs.Ytcklponeofdfcaa
