/- The law SumHalves: for every text the law returns true, and whatever lay lies as it lay. No condition. -/
import Derived.Test.YtcklponeofdfcaaLaws1
namespace Go.Proofs.Ytcklponeofdfcaa
open Go.RowKit Go.Shelf

set_option maxRecDepth 100000 in
set_option maxHeartbeats 400000 in
theorem sumHalves_law (s : ByteArray) (hs : s.size ≤ maxLen) (w : World) :
    Calls Try.prog 3 #[.string s] w fun e w' => e = .returned (.bool true) ∧ Below w.heap.size w w' := by
  have hc := cutS_size s
  have h1 := fun w => shown_any w
  have h2 := fun w => cut_any s w hs
  have h3 := fun w => sum_any (cutS s) w (by unfold maxLen; omega)
  have hlt := Sm.sum_lt (cutS s).data.toList
  have hm := Sm.sumV_mod (cutS s).data.toList
  have hd := Sm.sumV_div (cutS s).data.toList
  have hl := Sm.sumV_lt (cutS s).data.toList
  have hok := Sm.okS_sumV (cutS s).data.toList
  obtain ⟨n, hn⟩ : ∃ n, Sm.sumV (cutS s).data.toList = n := ⟨_, rfl⟩
  rw [hn] at h3 hm hd hl hok
  have h4 := fun w => more_yes n ⟨#[]⟩ w hl (by decide) hok
  rw [show Sm.pack (Sm.adl (n % 65536, n / 65536) (ByteArray.mk #[]).data.toList) = n by simp only [Sm.adl_nil, Sm.pack]; omega] at h4
  have hb := u32_mask16 n hl
  have k1 : decide ((n : Int) % 65536 < 65521) = true := decide_eq_true (by omega)
  have k2 : decide ((n : Int) / 65536 < 65521) = true := decide_eq_true (by omega)
  have H1 := Lib.hid h1
  have H2 := Lib.hid h2
  have H3 := Lib.hid h3
  have H4 := Lib.hid h4
  clear h1 h2 h3 h4 hok hn hm hd hlt hs
  go_enter Try.func3, Try.ntmps3
  go_wp2_with fail
  refine (H1.out _).mono ?_
  rintro e w1 ⟨rfl, hb1⟩
  go_wp2_with fail
  refine (H2.out _).mono ?_
  rintro e w2 ⟨rfl, hb2⟩
  go_wp2_with fail
  refine (H3.out _).mono ?_
  rintro e w3 ⟨rfl, hb3⟩
  go_wp2_with fail
  refine (H4.out _).mono ?_
  rintro e w4 ⟨rfl, hb4⟩
  go_wp2
  go_ret
  exact ⟨rfl, bl_tr (bl_tr (bl_tr hb1 hb2) hb3) hb4⟩
end Go.Proofs.Ytcklponeofdfcaa
