/- The law SumJoins: for every two texts the law returns true, and whatever lay lies as it lay. No condition. -/
import Derived.Test.YtcklponeofdfcaaLaws1
import Derived.Test.YtcklponeofdfcaaSumM4
namespace Go.Proofs.Ytcklponeofdfcaa
open Go.RowKit Go.Shelf

/-- Join at the sums of two texts. -/
theorem join_sums (c d : ByteArray) (n : Int) (w : World) (hn : n = d.size) (hd : d.size ≤ 1048576) :
    Calls Try.prog 18 #[.int .u32 (Sm.sumV c.data.toList : Nat), .int .u32 (Sm.sumV d.data.toList : Nat), .int .i64 n] w fun e w' =>
      e = .returned (.tuple #[.int .u32 (Sm.sumV (c.data.toList ++ d.data.toList) : Nat), .int .i64 0]) ∧ Below w.heap.size w w' := by
  subst hn
  have h := join_yes (Sm.sumV c.data.toList) (Sm.sumV d.data.toList) d.size w (Sm.sumV_lt _) (Sm.sumV_lt _) (Sm.okS_sumV _) (Sm.okS_sumV _) hd
  have h2 := Sm.join_sum c.data.toList d.data.toList
  rw [ba_length] at h2
  rw [h2] at h
  exact h

set_option maxRecDepth 100000 in
set_option maxHeartbeats 1000000 in
theorem sumJoins_law (s t : ByteArray) (hs : s.size ≤ maxLen) (ht : t.size ≤ maxLen) (w : World) :
    Calls Try.prog 7 #[.string s, .string t] w fun e w' => e = .returned (.bool true) ∧ Below w.heap.size w w' := by
  have h1 := fun w => shown_any w
  have h2 := fun w => cut_any s w hs
  have h3 := fun w => cut_any t w ht
  have hc := cutS_size s
  have hd := cutS_size t
  obtain ⟨c, hcc⟩ : ∃ c, cutS s = c := ⟨_, rfl⟩
  obtain ⟨d, hdd⟩ : ∃ d, cutS t = d := ⟨_, rfl⟩
  rw [hcc] at hc h2
  rw [hdd] at hd h3
  have h4 := fun w => sum_any c w (by unfold maxLen; omega)
  have h5 := fun w => sum_any d w (by unfold maxLen; omega)
  have h6 := fun w => join_sums c d d.size w rfl (by omega)
  have h7 := fun w => more_yes (Sm.sumV c.data.toList) d w (Sm.sumV_lt _) (by unfold maxLen; omega) (Sm.okS_sumV _)
  rw [Sm.more_sum] at h7
  have h8 := fun w => sum_any (c ++ d) w (by unfold maxLen; rw [ByteArray.size_append]; omega)
  rw [ba_append] at h8
  have hx := Sm.sumV_lt c.data.toList
  have hN := Sm.sumV_lt (c.data.toList ++ d.data.toList)
  generalize Sm.sumV (c.data.toList ++ d.data.toList) = N at *
  generalize Sm.sumV c.data.toList = x at *
  generalize Sm.sumV d.data.toList = y at *
  have H1 := Lib.hid h1
  have H2 := Lib.hid h2
  have H3 := Lib.hid h3
  have H4 := Lib.hid h4
  have H5 := Lib.hid h5
  have H6 := Lib.hid h6
  have H7 := Lib.hid h7
  have H8 := Lib.hid h8
  clear h1 h2 h3 h4 h5 h6 h7 h8 hcc hdd hs ht
  go_enter Try.func7, Try.ntmps7
  go_wp2_with fail
  refine (H1.out _).mono ?_
  rintro e w1 ⟨rfl, hb1⟩
  go_wp2_with fail
  refine (H2.out _).mono ?_
  rintro e w2 ⟨rfl, hb2⟩
  go_wp2_with fail
  refine (H3.out _).mono ?_
  rintro e w3 ⟨rfl, hb3⟩
  go_wp2_with fail
  refine (H4.out _).mono ?_
  rintro e w4 ⟨rfl, hb4⟩
  go_wp2_with fail
  refine (H5.out _).mono ?_
  rintro e w5 ⟨rfl, hb5⟩
  go_wp2_with fail
  refine (H6.out _).mono ?_
  rintro e w6 ⟨rfl, hb6⟩
  go_wp2_with fail
  refine (H4.out _).mono ?_
  rintro e w7 ⟨rfl, hb7⟩
  go_wp2_with fail
  refine (H7.out _).mono ?_
  rintro e w8 ⟨rfl, hb8⟩
  go_wp2_with fail
  refine (H8.out _).mono ?_
  rintro e w9 ⟨rfl, hb9⟩
  go_wp2
  go_ret
  exact ⟨rfl, bl_tr (bl_tr (bl_tr (bl_tr (bl_tr (bl_tr (bl_tr (bl_tr hb1 hb2) hb3) hb4) hb5) hb6) hb7) hb8) hb9⟩
end Go.Proofs.Ytcklponeofdfcaa
