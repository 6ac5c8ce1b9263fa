/- The helpers of the laws of package sum (shown, cut): what each call returns, and that it leaves whatever lay as it lay. No condition but that a text's length is a length. -/
import Derived.Test.YtcklponeofdfcaaSumO
namespace Go.Proofs.Ytcklponeofdfcaa
open Go.RowKit Go.Shelf

/-- A text's first three thousand bytes. -/
def cutS (s : ByteArray) : ByteArray := mk (s.data.toList.take 3000)
theorem cutS_size (s : ByteArray) : (cutS s).size ≤ 3000 := by
  unfold cutS
  rw [mk_size, List.length_take]
  omega

set_option maxHeartbeats 400000 in
theorem cut_any (s : ByteArray) (w : World) (hs : s.size ≤ maxLen) :
    Calls Try.prog 13 #[.string s] w fun e w' => e = .returned (.string (cutS s)) ∧ Below w.heap.size w w' := by
  unfold maxLen at hs
  by_cases h : s.size ≤ 3000
  · go_enter Try.func13, Try.ntmps13
    go_wp2
    go_ret
    refine ⟨ret_str ?_, bl_re _⟩
    unfold cutS
    rw [mk_toList]
    exact (List.take_of_length_le (by rw [ba_length]; omega)).symm
  · go_enter Try.func13, Try.ntmps13
    go_wp2
    go_ret
    refine ⟨ret_str ?_, bl_re _⟩
    unfold cutS
    rw [mk_toList]
    show (s.extract 0 3000).data.toList = _
    simp

set_option maxHeartbeats 400000 in
theorem shown_any (w : World) : Calls Try.prog 11 #[] w fun e w' => e = .returned (.bool true) ∧ Below w.heap.size w w' := by
  have h1 := fun w => open_short ⟨#[]⟩ w (by decide)
  have h2 := fun w => more_no 65521 ⟨#[]⟩ w (by omega) rfl
  have h3 := fun w => sum_any ⟨#[87, 105, 107, 105, 112, 101, 100, 105, 97]⟩ w (by decide)
  have h4 := fun w => sum_any ⟨#[]⟩ w (by decide)
  rw [show Sm.sumV (ByteArray.mk #[87, 105, 107, 105, 112, 101, 100, 105, 97]).data.toList = 300286872 by decide +kernel] at h3
  rw [show Sm.sumV (ByteArray.mk #[]).data.toList = 1 by decide +kernel] at h4
  have H1 := Lib.hid h1
  have H2 := Lib.hid h2
  have H3 := Lib.hid h3
  have H4 := Lib.hid h4
  clear h1 h2 h3 h4
  go_enter Try.func11, Try.ntmps11
  go_wp2_with fail
  refine (H1.out _).mono ?_
  rintro e w1 ⟨rfl, hb1⟩
  go_wp2_with fail
  refine (H2.out _).mono ?_
  rintro e w2 ⟨rfl, hb2⟩
  go_wp2_with fail
  refine (H3.out _).mono ?_
  rintro e w3 ⟨rfl, hb3⟩
  go_wp2_with fail
  refine (H4.out _).mono ?_
  rintro e w4 ⟨rfl, hb4⟩
  go_wp2
  go_ret
  exact ⟨rfl, bl_tr (bl_tr (bl_tr hb1 hb2) hb3) hb4⟩
end Go.Proofs.Ytcklponeofdfcaa
