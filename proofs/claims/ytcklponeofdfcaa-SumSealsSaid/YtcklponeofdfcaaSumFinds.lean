/- The law SumFinds: for every text, place and change the law returns true, and whatever lay lies as it lay. No condition. -/
import Derived.Test.YtcklponeofdfcaaSumBack
import Derived.Test.YtcklponeofdfcaaSumM3
import Derived.Test.YtcklponeofdfcaaConv
import Derived.OpenShut
namespace Go.Proofs.Ytcklponeofdfcaa
open Go.RowKit Go.Shelf

theorem open_bad (z : ByteArray) (w : World) (hs : z.size ≤ maxLen) (h4 : 4 ≤ z.size) (hb : Sm.openOk z.data.toList = false) :
    Calls Try.prog 15 #[.string z] w fun e w' => e = .returned (.tuple #[.string ⟨#[]⟩, .int .i64 20]) ∧ Below w.heap.size w w' := by
  refine (open_long z w hs h4).mono ?_
  rintro e w1 ⟨rfl, hb1⟩
  refine ⟨?_, hb1⟩
  rw [if_neg (by rw [hb]; simp)]
  rfl

/-- The block behind one store holds the changed bytes. -/
theorem cells_set (W : World) (g k : Nat) (z : ByteArray) (c : UInt8) (hk : k < z.size)
    (hc : ∀ j (h : j < z.size), W.cell? ⟨g, j, none⟩ = some (.int .u8 (z[j].toNat : Int))) :
    ∀ j (h : j < (z.data.toList.set k c).length), (W.setCell ⟨g, k, none⟩ (.int .u8 (c.toNat : Int))).cell? ⟨g, j, none⟩ = some (.int .u8 ((z.data.toList.set k c)[j].toNat : Int)) := by
  intro j h
  have hj : j < z.size := by rw [List.length_set, ba_length] at h; exact h
  by_cases e : k = j
  · subst e
    rw [List.getElem_set_self]
    exact World.cell?_setCell_same' _ _ _ (by rw [hc k hk]; rfl)
  · rw [List.getElem_set_ne e, World.cell?_setCell_other _ _ _ _ (by intro h; injection h with _ h2; exact e h2)]
    exact hc j hj

/-- What the walk is told of the texts: the cut one, the sealed one. -/
structure Sealed (s c z : ByteArray) : Prop where
  small : c.size ≤ 3000
  size : z.size = c.size + 4
  list : z.data.toList = c.data.toList ++ Sm.be4 (Sm.sumV c.data.toList)
  cutC : ∀ w, Calls Try.prog 13 #[.string s] w fun e w' => e = .returned (.string c) ∧ Below w.heap.size w w'
  sealC : ∀ w, Calls Try.prog 16 #[.string c] w fun e w' => e = .returned (.string z) ∧ Below w.heap.size w w'
theorem sealed_of (s : ByteArray) (hs : s.size ≤ maxLen) : Sealed s (cutS s) (sealS (cutS s)) :=
  ⟨cutS_size s, sealS_size _, mk_toList _, fun w => cut_any s w hs, fun w => seal_any _ w (by have := cutS_size s; omega)⟩

set_option maxRecDepth 100000 in
set_option maxHeartbeats 1000000 in
theorem finds_out (s c z : ByteArray) (hz : Sealed s c z) (i b : Int) (w : World)
    (hc : i < 0 ∨ (0 ≤ i ∧ (z.size : Int) ≤ i) ∨ (0 ≤ i ∧ i < (z.size : Int) ∧ b = 0)) :
    Calls Try.prog 5 #[.string s, .int .i64 i, .int .u8 b] w fun e w' => e = .returned (.bool true) ∧ Below w.heap.size w w' := by
  have h1 := fun w => shown_any w
  have H1 := Lib.hid h1
  have HZ := Lib.hid hz
  have hsm : z.size ≤ 3004 := by have := hz.size; have := hz.small; omega
  clear h1 hz
  rcases hc with hc | ⟨hc, hc2⟩ | ⟨hc, hc2, rfl⟩
  · have k1 : decide (i < 0) = true := decide_eq_true hc
    clear hc
    go_enter Try.func5, Try.ntmps5
    go_wp2_with fail
    refine (H1.out _).mono ?_
    rintro e w1 ⟨rfl, hb1⟩
    go_wp2_with fail
    refine (HZ.out.cutC _).mono ?_
    rintro e w2 ⟨rfl, hb2⟩
    go_wp2_with fail
    refine (HZ.out.sealC _).mono ?_
    rintro e w3 ⟨rfl, hb3⟩
    obtain ⟨cap, W', hcv, _, _, hbl, _⟩ := conv_bytes w3 9 33 5 z Try.underlying9 Try.underlying33 Try.underlying5
    go_wp2
    go_ret
    exact ⟨rfl, bl_tr (bl_tr (bl_tr hb1 hb2) hb3) hbl⟩
  · have k1 : decide (i < 0) = false := decide_eq_false (by omega)
    have k2 : decide (i < (z.size : Int)) = false := decide_eq_false (by omega)
    have k3 : decide ((z.size : Int) ≤ i) = true := decide_eq_true (by omega)
    clear hc
    go_enter Try.func5, Try.ntmps5
    go_wp2_with fail
    refine (H1.out _).mono ?_
    rintro e w1 ⟨rfl, hb1⟩
    go_wp2_with fail
    refine (HZ.out.cutC _).mono ?_
    rintro e w2 ⟨rfl, hb2⟩
    go_wp2_with fail
    refine (HZ.out.sealC _).mono ?_
    rintro e w3 ⟨rfl, hb3⟩
    obtain ⟨cap, W', hcv, _, _, hbl, _⟩ := conv_bytes w3 9 33 5 z Try.underlying9 Try.underlying33 Try.underlying5
    go_wp2
    go_ret
    exact ⟨rfl, bl_tr (bl_tr (bl_tr hb1 hb2) hb3) hbl⟩
  · have k1 : decide (i < 0) = false := decide_eq_false (by omega)
    have k2 : decide (i < (z.size : Int)) = true := decide_eq_true (by omega)
    have k3 : decide ((z.size : Int) ≤ i) = false := decide_eq_false (by omega)
    clear hc hc2
    go_enter Try.func5, Try.ntmps5
    go_wp2_with fail
    refine (H1.out _).mono ?_
    rintro e w1 ⟨rfl, hb1⟩
    go_wp2_with fail
    refine (HZ.out.cutC _).mono ?_
    rintro e w2 ⟨rfl, hb2⟩
    go_wp2_with fail
    refine (HZ.out.sealC _).mono ?_
    rintro e w3 ⟨rfl, hb3⟩
    obtain ⟨cap, W', hcv, _, _, hbl, _⟩ := conv_bytes w3 9 33 5 z Try.underlying9 Try.underlying33 Try.underlying5
    go_wp2
    go_ret
    exact ⟨rfl, bl_tr (bl_tr (bl_tr hb1 hb2) hb3) hbl⟩

set_option maxRecDepth 100000 in
set_option maxHeartbeats 1000000 in
theorem finds_in (s c z : ByteArray) (hz : Sealed s c z) (k b : Nat) (w : World) (hk : k < z.size) (hb0 : b ≠ 0) (hb : b < 256) :
    Calls Try.prog 5 #[.string s, .int .i64 k, .int .u8 b] w fun e w' => e = .returned (.bool true) ∧ Below w.heap.size w w' := by
  have h1 := fun w => shown_any w
  have hsm : z.size ≤ 3004 := by have := hz.size; have := hz.small; omega
  have hge : 4 ≤ z.size := by have := hz.size; omega
  have k1 : decide ((k : Int) < 0) = false := decide_eq_false (by omega)
  have k2 : decide ((z.size : Int) ≤ (k : Int)) = false := decide_eq_false (by omega)
  have k3 : ((b : Int) == 0) = false := by rw [beq_eq_false_iff_ne]; omega
  obtain ⟨c', hc'⟩ : ∃ c', z[k] ^^^ UInt8.ofNat b = c' := ⟨_, rfl⟩
  have hx : bits .xor .u8 (z[k].toNat : Int) (b : Int) = (c'.toNat : Int) := by
    rw [u8_xor_nat _ _ z[k].toNat_lt hb, ← hc', UInt8.toNat_xor, Sm.u8_of b hb]
  have hbad : Sm.openOk (z.data.toList.set k c') = false := by
    have hk' : k < z.data.toList.length := by rw [ba_length]; exact hk
    have hne : c' ≠ z.data.toList[k] := by
      rw [← hc']
      refine Sm.xor_ne _ _ (fun e => hb0 ?_)
      have := congrArg UInt8.toNat e
      rw [Sm.u8_of b hb] at this
      exact this
    have hl := hz.list
    generalize z.data.toList = l at *
    subst hl
    exact Sm.openOk_set _ k c' hk' hne
  have hsz : (mk (z.data.toList.set k c')).size = z.size := by rw [mk_size, List.length_set, ba_length]
  have h5 := fun w => open_bad (mk (z.data.toList.set k c')) w (by unfold maxLen; omega) (by omega) (by rw [mk_toList]; exact hbad)
  have H1 := Lib.hid h1
  have H5 := Lib.hid h5
  have HZ := Lib.hid hz
  clear h1 h5 hz hbad hc' hsz
  go_enter Try.func5, Try.ntmps5
  go_wp2_with fail
  refine (H1.out _).mono ?_
  rintro e w1 ⟨rfl, hb1⟩
  go_wp2_with fail
  refine (HZ.out.cutC _).mono ?_
  rintro e w2 ⟨rfl, hb2⟩
  go_wp2_with fail
  refine (HZ.out.sealC _).mono ?_
  rintro e w3 ⟨rfl, hb3⟩
  obtain ⟨cap, W', hcv, hcell, hfr, hbl, hWs⟩ := conv_bytes w3 9 33 5 z Try.underlying9 Try.underlying33 Try.underlying5
  have hback := conv_back (P := Try.prog) (W'.setCell ⟨w3.heap.size, k, none⟩ (.int .u8 (c'.toNat : Int))) 33 9 5 w3.heap.size cap z.size (z.data.toList.set k c')
    Try.underlying33 Try.underlying5 Try.underlying9 (by rw [List.length_set, ba_length]) (cells_set W' w3.heap.size k z c' hk hcell)
  have g1 := hcell k hk
  have g2 := hfr k hk
  have HW := Lib.hid hWs
  clear hcell hfr hWs
  go_wp2_with fail
  refine (H5.out _).mono ?_
  rintro e w5 ⟨rfl, hb5⟩
  go_wp2
  go_ret
  have hb123 := bl_tr (bl_tr hb1 hb2) hb3
  exact ⟨rfl, bl_tr (bl_st (bl_tr hb123 hbl) hb123.size _) hb5⟩

theorem sumFinds_law (s : ByteArray) (i b : Int) (hs : s.size ≤ maxLen) (_hi : (Lit.int .i64 i).wf = true) (hb : (Lit.int .u8 b).wf = true) (w : World) :
    Calls Try.prog 5 #[.string s, .int .i64 i, .int .u8 b] w fun e w' => e = .returned (.bool true) ∧ Below w.heap.size w w' := by
  have hz := sealed_of s hs
  obtain ⟨hb1, hb2⟩ := bounds_u8 hb
  by_cases h1 : i < 0
  · exact finds_out s _ _ hz i b w (.inl h1)
  by_cases h2 : ((sealS (cutS s)).size : Int) ≤ i
  · exact finds_out s _ _ hz i b w (.inr (.inl ⟨by omega, h2⟩))
  by_cases h3 : b = 0
  · exact finds_out s _ _ hz i b w (.inr (.inr ⟨by omega, by omega, h3⟩))
  obtain ⟨k, rfl⟩ := Int.eq_ofNat_of_zero_le (show 0 ≤ i by omega)
  obtain ⟨c, rfl⟩ := Int.eq_ofNat_of_zero_le hb1
  exact finds_in s _ _ hz k c w (by omega) (by omega) (by omega)
end Go.Proofs.Ytcklponeofdfcaa
