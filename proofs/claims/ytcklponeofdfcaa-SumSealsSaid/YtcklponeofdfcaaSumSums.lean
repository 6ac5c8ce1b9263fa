/- The law SumSums: for every two numbers, text and number the law returns true, and whatever lay lies as it lay. No condition. -/
import Derived.Test.YtcklponeofdfcaaLaws1
import Derived.Test.YtcklponeofdfcaaRef02J
import Derived.OpenShut
namespace Go.Proofs.Ytcklponeofdfcaa
open Go.RowKit Go.Shelf

theorem eq_below {P : Program} {f : FuncId} {args : Array Value} {w : World} {v : Value} (h : Calls P f args w fun r w' => r = .returned v ∧ w = w') : Calls P f args w fun r w' => r = .returned v ∧ Below w.heap.size w w' :=
  h.mono fun _ _ k => ⟨k.1, by rw [← k.2]; exact bl_re _⟩
theorem more_both (n : Nat) (s : ByteArray) (hn : n < 4294967296) (hs : s.size ≤ maxLen) : ∃ (v : Nat) (e : Int),
    (∀ w, Calls Try.prog 14 #[.int .u32 n, .string s] w fun r w' => r = .returned (.tuple #[.int .u32 v, .int .i64 e]) ∧ Below w.heap.size w w') ∧
    (∀ w, Calls Try.prog 17 #[.int .u32 n, .string s] w fun r w' => r = .returned (.tuple #[.int .u32 v, .int .i64 e]) ∧ Below w.heap.size w w') := by
  cases h : Sm.okS n with
  | false => exact ⟨0, 2, fun w => more_no n s w hn h, fun w => eq_below (rmore_no n s w hn h)⟩
  | true => exact ⟨_, 0, fun w => more_yes n s w hn hs h, fun w => eq_below (rmore_yes n s w hn hs h)⟩
theorem join_both (a b : Nat) (n : Int) (ha : a < 4294967296) (hb : b < 4294967296) : ∃ (v : Nat) (e : Int),
    (∀ w, Calls Try.prog 18 #[.int .u32 a, .int .u32 b, .int .i64 n] w fun r w' => r = .returned (.tuple #[.int .u32 v, .int .i64 e]) ∧ Below w.heap.size w w') ∧
    (∀ w, Calls Try.prog 19 #[.int .u32 a, .int .u32 b, .int .i64 n] w fun r w' => r = .returned (.tuple #[.int .u32 v, .int .i64 e]) ∧ Below w.heap.size w w') := by
  cases h : Sm.okJ a b n with
  | false => exact ⟨0, 2, fun w => join_no a b n w ha hb h, fun w => eq_below (rjoin_no a b n w ha hb h)⟩
  | true =>
    unfold Sm.okJ at h
    simp only [Bool.and_eq_true, decide_eq_true_eq] at h
    obtain ⟨⟨⟨h1, h2⟩, h3⟩, h4⟩ := h
    obtain ⟨n, rfl⟩ := Int.eq_ofNat_of_zero_le h3
    exact ⟨_, 0, fun w => join_yes a b n w ha hb h1 h2 (by omega), fun w => eq_below (rjoin_yes a b n w ha hb h1 h2 (by omega))⟩

set_option maxRecDepth 100000 in
set_option maxHeartbeats 1000000 in
theorem sumSums_law (a b : Int) (s : ByteArray) (n : Int) (ha : (Lit.int .u32 a).wf = true) (hb : (Lit.int .u32 b).wf = true) (hs : s.size ≤ maxLen) (_hn : (Lit.int .i64 n).wf = true) (w : World) :
    Calls Try.prog 6 #[.int .u32 a, .int .u32 b, .string s, .int .i64 n] w fun e w' => e = .returned (.bool true) ∧ Below w.heap.size w w' := by
  obtain ⟨ha1, ha2⟩ := bounds_u32 ha
  obtain ⟨kb1, kb2⟩ := bounds_u32 hb
  obtain ⟨a, rfl⟩ := Int.eq_ofNat_of_zero_le ha1
  obtain ⟨b, rfl⟩ := Int.eq_ofNat_of_zero_le kb1
  have h1 := fun w => shown_any w
  have h2 := fun w => cut_any s w hs
  have hc := cutS_size s
  obtain ⟨c, hcc⟩ : ∃ c, cutS s = c := ⟨_, rfl⟩
  rw [hcc] at hc h2
  obtain ⟨v, e, h3, h4⟩ := more_both a c (by omega) (by unfold maxLen; omega)
  obtain ⟨x, y, h5, h6⟩ := join_both a b n (by omega) (by omega)
  have h7 := fun w => sum_any c w (by unfold maxLen; omega)
  have h8 := fun w => eq_below (rsum_any c w (by unfold maxLen; omega))
  have hlt := Sm.sumV_lt c.data.toList
  generalize Sm.sumV c.data.toList = z at *
  have H1 := Lib.hid h1
  have H2 := Lib.hid h2
  have H3 := Lib.hid h3
  have H4 := Lib.hid h4
  have H5 := Lib.hid h5
  have H6 := Lib.hid h6
  have H7 := Lib.hid h7
  have H8 := Lib.hid h8
  clear h1 h2 h3 h4 h5 h6 h7 h8 hcc hs ha hb
  go_enter Try.func6, Try.ntmps6
  go_wp2_with fail
  refine (H1.out _).mono ?_
  rintro e w1 ⟨rfl, hb1⟩
  go_wp2_with fail
  refine (H2.out _).mono ?_
  rintro e w2 ⟨rfl, hb2⟩
  go_wp2_with fail
  refine (H3.out _).mono ?_
  rintro e w3 ⟨rfl, hb3⟩
  go_wp2_with fail
  refine (H2.out _).mono ?_
  rintro e w4 ⟨rfl, hb4⟩
  go_wp2_with fail
  refine (H4.out _).mono ?_
  rintro e w5 ⟨rfl, hb5⟩
  go_wp2_with fail
  refine (H5.out _).mono ?_
  rintro e w6 ⟨rfl, hb6⟩
  go_wp2_with fail
  refine (H6.out _).mono ?_
  rintro e w7 ⟨rfl, hb7⟩
  go_wp2_with fail
  refine (H2.out _).mono ?_
  rintro e w8 ⟨rfl, hb8⟩
  go_wp2_with fail
  refine (H7.out _).mono ?_
  rintro e w9 ⟨rfl, hb9⟩
  go_wp2_with fail
  refine (H2.out _).mono ?_
  rintro e w10 ⟨rfl, hb10⟩
  go_wp2_with fail
  refine (H8.out _).mono ?_
  rintro e w11 ⟨rfl, hb11⟩
  go_wp2
  go_ret
  exact ⟨rfl, bl_tr (bl_tr (bl_tr (bl_tr (bl_tr (bl_tr (bl_tr (bl_tr (bl_tr (bl_tr hb1 hb2) hb3) hb4) hb5) hb6) hb7) hb8) hb9) hb10) hb11⟩
end Go.Proofs.Ytcklponeofdfcaa
