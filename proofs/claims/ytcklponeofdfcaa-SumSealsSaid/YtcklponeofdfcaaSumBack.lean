/- The law SumBack: for every text the law returns true, and whatever lay lies as it lay. No condition. -/
import Derived.Test.YtcklponeofdfcaaLaws1
import Derived.Test.YtcklponeofdfcaaSumM2
namespace Go.Proofs.Ytcklponeofdfcaa
open Go.RowKit Go.Shelf

/-- The sealed text. -/
def sealS (c : ByteArray) : ByteArray := mk (c.data.toList ++ Sm.be4 (Sm.sumV c.data.toList))
theorem sealS_size (c : ByteArray) : (sealS c).size = c.size + 4 := by
  unfold sealS
  rw [mk_size, List.length_append, ba_length]
  rfl
theorem open_sealed (c : ByteArray) (w : World) (hc : c.size ≤ 140737488351232) :
    Calls Try.prog 15 #[.string (sealS c)] w fun e w' => e = .returned (.tuple #[.string c, .int .i64 0]) ∧ Below w.heap.size w w' := by
  have hz := sealS_size c
  refine (open_long (sealS c) w (by unfold maxLen; omega) (by omega)).mono ?_
  rintro e w1 ⟨rfl, hb⟩
  refine ⟨?_, hb⟩
  have h1 : (sealS c).data.toList = c.data.toList ++ Sm.be4 (Sm.sumV c.data.toList) := mk_toList _
  rw [if_pos (by rw [h1]; exact Sm.openOk_seal _), ← ba_length (sealS c), h1, Sm.take_seal _ _ rfl, mk_of]

set_option maxRecDepth 100000 in
set_option maxHeartbeats 400000 in
theorem sumBack_law (s : ByteArray) (hs : s.size ≤ maxLen) (w : World) :
    Calls Try.prog 4 #[.string s] w fun e w' => e = .returned (.bool true) ∧ Below w.heap.size w w' := by
  have hc := cutS_size s
  have h1 := fun w => shown_any w
  have h2 := fun w => cut_any s w hs
  obtain ⟨c, hcc⟩ : ∃ c, cutS s = c := ⟨_, rfl⟩
  rw [hcc] at hc h2
  have h3 : ∀ w, Calls Try.prog 16 #[.string c] w fun e w' => e = .returned (.string (sealS c)) ∧ Below w.heap.size w w' := fun w => seal_any c w (by omega)
  have h4 := fun w => open_sealed c w (by omega)
  have hz := sealS_size c
  obtain ⟨z, hzz⟩ : ∃ z, sealS c = z := ⟨_, rfl⟩
  rw [hzz] at h3 h4 hz
  have hlen : ((z.size : Int) == (c.size : Int) + 4) = true := by rw [beq_iff_eq]; omega
  have H1 := Lib.hid h1
  have H2 := Lib.hid h2
  have H3 := Lib.hid h3
  have H4 := Lib.hid h4
  clear h1 h2 h3 h4 hcc hzz hz hs
  go_enter Try.func4, Try.ntmps4
  go_wp2_with fail
  refine (H1.out _).mono ?_
  rintro e w1 ⟨rfl, hb1⟩
  go_wp2_with fail
  refine (H2.out _).mono ?_
  rintro e w2 ⟨rfl, hb2⟩
  go_wp2_with fail
  refine (H3.out _).mono ?_
  rintro e w3 ⟨rfl, hb3⟩
  go_wp2_with fail
  refine (H4.out _).mono ?_
  rintro e w4 ⟨rfl, hb4⟩
  go_wp2_with fail
  refine (H3.out _).mono ?_
  rintro e w5 ⟨rfl, hb5⟩
  go_wp2
  go_ret
  exact ⟨rfl, bl_tr (bl_tr (bl_tr (bl_tr hb1 hb2) hb3) hb4) hb5⟩
end Go.Proofs.Ytcklponeofdfcaa
