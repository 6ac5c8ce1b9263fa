/- Open of package sum: what each call returns, and that it leaves whatever lay as it lay. No condition but that a text's length is a length. -/
import Derived.Test.YtcklponeofdfcaaSumZ
namespace Go.Proofs.Ytcklponeofdfcaa
open Go.RowKit Go.Shelf

set_option maxHeartbeats 400000 in
theorem open_short (s : ByteArray) (w : World) (hs : s.size < 4) :
    Calls Try.prog 15 #[.string s] w fun e w' => e = .returned (.tuple #[.string (mk []), .int .i64 20]) ∧ Below w.heap.size w w' := by
  have hlt : (s.size : Int) - 4 < 0 := by omega
  go_enter Try.func15, Try.ntmps15
  go_wp2
  refine wp_scope_jumps 0 (fun a' w' => ∃ k : Int, a' = { tmps := #[.string s, undef, .string ⟨#[]⟩, .int .i64 0, .int .i64 k, .int .u32 0, undef, .string s, .int .i64 s.size, .int .i64 k, .int .i64 k, .bool true, undef, undef, undef, undef, undef, undef, undef, undef, undef, undef, undef, undef, undef, undef, undef, undef, undef, undef, undef, undef, undef, undef, undef], defers := [] } ∧ w' = w) (fun _ _ => 0) rfl ?first ?pass
  case first =>
    go_wp2
    refine wp_goto ?_
    exact ⟨rfl, _, rfl, rfl⟩
  case pass =>
    rintro a' w' ⟨k, rfl, rfl⟩
    go_wp2
    rw [jump_ret]
    go_ret2
    exact ⟨rfl, bl_re _⟩

set_option maxHeartbeats 1000000 in
theorem open_long (s : ByteArray) (w : World) (hs : s.size ≤ maxLen) (h4 : 4 ≤ s.size) :
    Calls Try.prog 15 #[.string s] w fun e w' =>
      e = .returned (if Sm.openOk s.data.toList = true then .tuple #[.string (mk (s.data.toList.take (s.size - 4))), .int .i64 0] else .tuple #[.string (mk []), .int .i64 20]) ∧ Below w.heap.size w w' := by
  unfold maxLen at hs
  have hge : 0 ≤ (s.size : Int) - 4 := by omega
  have hl := ba_length s
  have HL := Lib.hid hl
  clear hl
  go_enter Try.func15, Try.ntmps15
  go_wp2
  go_step3
  go_wp2
  go_step3
  go_wp2
  go_loop [5, 6] (fun n i => ∃ k : Nat, s.size ≤ k + 4 ∧ k ≤ s.size ∧ i = .int .i64 k ∧ n = .int .u32 (Sm.num ((s.data.toList.take k).drop (s.size - 4)) : Nat))
    (fun _ i => (s.size - (intOf i).toNat))
  case atStart =>
    refine ⟨s.size - 4, by omega, by omega, ?_, ?_⟩
    · rw [show ((s.size - 4 : Nat) : Int) = (s.size : Int) - 4 by omega]
    · rw [List.drop_of_length_le (by rw [List.length_take]; omega)]; rfl
  case round =>
    obtain ⟨k, hk1, hk2, rfl, rfl⟩ := hrel
    by_cases hlt : k < s.size
    · have hne : ((k : Int) == (s.size : Int)) = false := by rw [beq_eq_false_iff_ne]; omega
      have hst := Sm.drop_take_snoc s (s.size - 4) k (by omega) hlt
      have h3 := Sm.num_lt3 ((s.data.toList.take k).drop (s.size - 4)) (by rw [List.length_drop, List.length_take]; omega)
      have hsn := Sm.num_snoc ((s.data.toList.take k).drop (s.size - 4)) s[k]
      rw [← hst] at hsn
      generalize Sm.num ((s.data.toList.take k).drop (s.size - 4)) = x at *
      have hc := s[k].toNat_lt
      have hj := u32_join8 s[k].toNat x (by omega) h3
      have HS := Lib.hid hsn
      clear hst hsn
      go_wp2
      go_round
      case rel => exact ⟨k + 1, by omega, by omega, by go_num, by rw [HS.out]; go_num⟩
      case measure => simp [intOf]; omega
    · obtain rfl : k = s.size := by omega
      have hfull : s.data.toList.take s.size = s.data.toList := List.take_of_length_le (by rw [HL.out]; omega)
      rw [hfull]
      have HF := Lib.hid hfull
      clear hfull
      have heq : ((s.size : Int) == (s.size : Int)) = true := by simp
      have hok : Sm.openOk s.data.toList = decide (Sm.num (s.data.toList.drop (s.size - 4)) = Sm.sumV (s.data.toList.take (s.size - 4))) := by
        unfold Sm.openOk
        rw [HL.out]
        simp [h4]
      obtain ⟨x, hx⟩ : ∃ x, Sm.num (s.data.toList.drop (s.size - 4)) = x := ⟨_, rfl⟩
      obtain ⟨y, hy⟩ : ∃ y, Sm.sumV (s.data.toList.take (s.size - 4)) = y := ⟨_, rfl⟩
      rw [hx, hy] at hok
      rw [hx]
      have hsum := fun w => sum_any (s.extract 0 (s.size - 4)) w (by unfold maxLen; rw [ByteArray.size_extract]; omega)
      rw [show (s.extract 0 (s.size - 4)).data.toList = s.data.toList.take (s.size - 4) by simp, hy] at hsum
      have HSum := Lib.hid hsum
      have HO := Lib.hid hok
      clear hsum hok hx hy
      by_cases hxy : x = y
      · have hb : ((x : Int) == (y : Int)) = true := by simp [hxy]
        have HX := Lib.hid hxy
        clear hxy
        go_wp2_with fail
        refine (HSum.out _).mono ?_
        rintro e w1 ⟨rfl, hb1⟩
        go_wp2
        rw [Exit.noGoto_ret]
        go_ret2
        refine ⟨?_, hb1⟩
        rw [HO.out, HX.out]
        simp only [decide_true, if_true]
        rw [← mk_of (s.extract 0 (s.size - 4)), show (s.extract 0 (s.size - 4)).data.toList = s.data.toList.take (s.size - 4) by simp]
        rfl
      · have hb : ((x : Int) == (y : Int)) = false := by rw [beq_eq_false_iff_ne]; omega
        have HX := Lib.hid hxy
        clear hxy
        go_wp2_with fail
        refine (HSum.out _).mono ?_
        rintro e w1 ⟨rfl, hb1⟩
        go_wp2
        go_step3
        go_wp2
        rw [Exit.noGoto_ret]
        go_ret2
        refine ⟨?_, hb1⟩
        rw [HO.out, decide_eq_false HX.out]
        rfl
end Go.Proofs.Ytcklponeofdfcaa
