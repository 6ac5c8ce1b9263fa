/- The law SumSeals: for every text and place the law returns true, and whatever lay lies as it lay. No condition. -/
import Derived.Test.YtcklponeofdfcaaRef02S
import Derived.Test.YtcklponeofdfcaaSumSums
namespace Go.Proofs.Ytcklponeofdfcaa
open Go.RowKit Go.Shelf

theorem open_both (s : ByteArray) (hs : s.size ≤ 140737488351232) : ∃ (t : ByteArray) (e : Int),
    (∀ w, Calls Try.prog 15 #[.string s] w fun r w' => r = .returned (.tuple #[.string t, .int .i64 e]) ∧ Below w.heap.size w w') ∧
    (∀ w, Calls Try.prog 21 #[.string s] w fun r w' => r = .returned (.tuple #[.string t, .int .i64 e]) ∧ Below w.heap.size w w') := by
  by_cases h4 : 4 ≤ s.size
  · have h1 := fun w => open_long s w (by unfold maxLen; omega) h4
    have h2 := fun w => ropen_long s w hs h4
    cases ho : Sm.openOk s.data.toList with
    | true =>
      rw [ho, if_pos rfl] at h1 h2
      exact ⟨_, _, h1, h2⟩
    | false =>
      rw [ho, if_neg (by simp)] at h1 h2
      exact ⟨_, _, h1, h2⟩
  · exact ⟨_, _, fun w => open_short s w (by omega), fun w => ropen_short s w (by omega)⟩
theorem turn_both (s : ByteArray) (i : Int) (hs : s.size ≤ 140737488351232) : ∃ (t : ByteArray) (e : Int),
    (∀ w, Calls Try.prog 22 #[.string s, .int .i64 i] w fun r w' => r = .returned (.tuple #[.string t, .int .i64 e]) ∧ Below w.heap.size w w') ∧
    (∀ w, Calls Try.prog 23 #[.string s, .int .i64 i] w fun r w' => r = .returned (.tuple #[.string t, .int .i64 e]) ∧ Below w.heap.size w w') := by
  have hm : s.size ≤ maxLen := by unfold maxLen; omega
  by_cases h1 : i < 0
  · exact ⟨_, _, fun w => turn_no s i w hm (.inl h1), fun w => rturn_no s i w hm (.inl h1)⟩
  by_cases h2 : (s.size : Int) - 1 ≤ i
  · exact ⟨_, _, fun w => turn_no s i w hm (.inr ⟨by omega, h2⟩), fun w => rturn_no s i w hm (.inr ⟨by omega, h2⟩)⟩
  obtain ⟨k, rfl⟩ := Int.eq_ofNat_of_zero_le (show 0 ≤ i by omega)
  exact ⟨_, _, fun w => turn_yes s k w hm (by omega), fun w => rturn_yes s k w hs (by omega)⟩

set_option maxRecDepth 100000 in
set_option maxHeartbeats 1000000 in
theorem sumSeals_law (s : ByteArray) (i : Int) (hs : s.size ≤ maxLen) (_hi : (Lit.int .i64 i).wf = true) (w : World) :
    Calls Try.prog 9 #[.string s, .int .i64 i] w fun e w' => e = .returned (.bool true) ∧ Below w.heap.size w w' := by
  have h1 := fun w => shown_any w
  have h2 := fun w => cut_any s w hs
  have hc := cutS_size s
  obtain ⟨c, hcc⟩ : ∃ c, cutS s = c := ⟨_, rfl⟩
  rw [hcc] at hc h2
  obtain ⟨t, e, h3, h4⟩ := open_both c (by omega)
  obtain ⟨u, f, h5, h6⟩ := turn_both c i (by omega)
  have h7 := fun w => seal_any c w (by omega)
  have h8 := fun w => rseal_any c w (by omega)
  generalize mk (c.data.toList ++ Sm.be4 (Sm.sumV c.data.toList)) = z at *
  have H1 := Lib.hid h1
  have H2 := Lib.hid h2
  have H3 := Lib.hid h3
  have H4 := Lib.hid h4
  have H5 := Lib.hid h5
  have H6 := Lib.hid h6
  have H7 := Lib.hid h7
  have H8 := Lib.hid h8
  clear h1 h2 h3 h4 h5 h6 h7 h8 hcc hs
  go_enter Try.func9, Try.ntmps9
  go_wp2_with fail
  refine (H1.out _).mono ?_
  rintro e w1 ⟨rfl, hb1⟩
  go_wp2_with fail
  refine (H2.out _).mono ?_
  rintro e w2 ⟨rfl, hb2⟩
  go_wp2_with fail
  refine (H3.out _).mono ?_
  rintro e w3 ⟨rfl, hb3⟩
  go_wp2_with fail
  refine (H4.out _).mono ?_
  rintro e w4 ⟨rfl, hb4⟩
  go_wp2_with fail
  refine (H5.out _).mono ?_
  rintro e w5 ⟨rfl, hb5⟩
  go_wp2_with fail
  refine (H6.out _).mono ?_
  rintro e w6 ⟨rfl, hb6⟩
  go_wp2_with fail
  refine (H7.out _).mono ?_
  rintro e w7 ⟨rfl, hb7⟩
  go_wp2_with fail
  refine (H8.out _).mono ?_
  rintro e w8 ⟨rfl, hb8⟩
  go_wp2
  go_ret
  exact ⟨rfl, bl_tr (bl_tr (bl_tr (bl_tr (bl_tr (bl_tr (bl_tr hb1 hb2) hb3) hb4) hb5) hb6) hb7) hb8⟩
end Go.Proofs.Ytcklponeofdfcaa
