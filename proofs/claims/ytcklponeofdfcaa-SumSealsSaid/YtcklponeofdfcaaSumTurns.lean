/- The law SumTurns: for every text and place the law returns true, and whatever lay lies as it lay. No condition. -/
import Derived.Test.YtcklponeofdfcaaSumT
import Derived.Test.YtcklponeofdfcaaSumM4
namespace Go.Proofs.Ytcklponeofdfcaa
open Go.RowKit Go.Shelf

theorem turnL_split' (l : List UInt8) (k : Nat) (h : k + 1 < l.length) : ∃ A c d B, l = A ++ c :: d :: B ∧ turnL l k = A ++ d :: c :: B ∧ A.length = k := by
  refine ⟨l.take k, l[k], l[k + 1], l.drop (k + 2), ?_, ?_, by rw [List.length_take]; omega⟩
  · rw [List.getElem_cons_drop, List.getElem_cons_drop, List.take_append_drop]
  · unfold turnL
    rw [getD_at _ _ h, getD_at _ _ (show k < l.length by omega), Sm.set_at l k _ (by omega)]
    have e1 : l.drop (k + 1) = l[k + 1] :: l.drop (k + 2) := (List.getElem_cons_drop ..).symm
    rw [e1, List.set_append_right _ _ (by rw [List.length_take]; omega), show k + 1 - (l.take k).length = 1 by rw [List.length_take]; omega]
    rfl
theorem turnL_split (l : List UInt8) (k : Nat) (h : k + 1 < l.length) : ∃ A c d B, l = A ++ c :: d :: B ∧ turnL l k = A ++ d :: c :: B := by
  obtain ⟨A, c, d, B, h1, h2, _⟩ := turnL_split' l k h
  exact ⟨A, c, d, B, h1, h2⟩
/-- Two neighbours that are not the same, turned: another sum. -/
theorem sumV_turn (l : List UInt8) (k : Nat) (h : k + 1 < l.length) (hne : turnL l k ≠ l) : Sm.sumV (turnL l k) ≠ Sm.sumV l := by
  obtain ⟨A, c, d, B, h1, h2⟩ := turnL_split l k h
  rw [h2] at hne ⊢
  have hcd : c.toNat ≠ d.toNat := by
    intro e
    apply hne
    rw [h1, UInt8.toNat.inj e]
  rw [h1]
  intro he
  have e2 : (Sm.adl (1, 0) (A ++ d :: c :: B)).2 = (Sm.adl (1, 0) (A ++ c :: d :: B)).2 := by rw [← Sm.sumV_div, ← Sm.sumV_div, he]
  rw [Sm.adl_sumV, Sm.adl_sumV] at e2
  obtain ⟨k1, k2⟩ := Sm.sum_lt A
  generalize (Sm.adl (1, 0) A).1 = a at *
  generalize (Sm.adl (1, 0) A).2 = b at *
  rw [Sm.adl_snd a b _ k2, Sm.adl_snd a b _ k2] at e2
  simp only [Sm.wgt, List.length_cons] at e2
  have hc := c.toNat_lt
  have hd := d.toNat_lt
  generalize c.toNat = x at *
  generalize d.toNat = y at *
  generalize B.length = n at *
  generalize Sm.wgt B = W at *
  rw [Nat.add_mul (n + 1) 1 y, Nat.add_mul (n + 1) 1 x] at e2
  generalize (n + 1) * x = u at *
  generalize (n + 1) * y = v at *
  generalize (n + 1 + 1) * a = q at *
  omega

set_option maxRecDepth 100000 in
set_option maxHeartbeats 1000000 in
theorem turns_no (s c z : ByteArray) (hz : Sealed s c z) (i : Int) (w : World) (h : i < 0 ∨ (0 ≤ i ∧ (c.size : Int) - 1 ≤ i)) :
    Calls Try.prog 10 #[.string s, .int .i64 i] w fun e w' => e = .returned (.bool true) ∧ Below w.heap.size w w' := by
  have h1 := fun w => shown_any w
  have h2 := fun w => turn_no c i w (by have := hz.small; unfold maxLen; omega) h
  have H1 := Lib.hid h1
  have H2 := Lib.hid h2
  have HZ := Lib.hid hz
  clear h1 h2 hz h
  go_enter Try.func10, Try.ntmps10
  go_wp2_with fail
  refine (H1.out _).mono ?_
  rintro e w1 ⟨rfl, hb1⟩
  go_wp2_with fail
  refine (HZ.out.cutC _).mono ?_
  rintro e w2 ⟨rfl, hb2⟩
  go_wp2_with fail
  refine (H2.out _).mono ?_
  rintro e w3 ⟨rfl, hb3⟩
  go_wp2
  go_ret
  exact ⟨rfl, bl_tr (bl_tr hb1 hb2) hb3⟩

set_option maxRecDepth 100000 in
set_option maxHeartbeats 1000000 in
theorem turns_same (s c z : ByteArray) (hz : Sealed s c z) (k : Nat) (w : World) (hk : k + 1 < c.size) (h : turnL c.data.toList k = c.data.toList) :
    Calls Try.prog 10 #[.string s, .int .i64 k] w fun e w' => e = .returned (.bool true) ∧ Below w.heap.size w w' := by
  have h1 := fun w => shown_any w
  have h2 := fun w => turn_yes c k w (by have := hz.small; unfold maxLen; omega) hk
  rw [h, mk_of] at h2
  have H1 := Lib.hid h1
  have H2 := Lib.hid h2
  have HZ := Lib.hid hz
  clear h1 h2 hz h hk
  go_enter Try.func10, Try.ntmps10
  go_wp2_with fail
  refine (H1.out _).mono ?_
  rintro e w1 ⟨rfl, hb1⟩
  go_wp2_with fail
  refine (HZ.out.cutC _).mono ?_
  rintro e w2 ⟨rfl, hb2⟩
  go_wp2_with fail
  refine (H2.out _).mono ?_
  rintro e w3 ⟨rfl, hb3⟩
  go_wp2
  go_ret
  exact ⟨rfl, bl_tr (bl_tr hb1 hb2) hb3⟩

set_option maxRecDepth 100000 in
set_option maxHeartbeats 1000000 in
theorem turns_yes (s c z : ByteArray) (hz : Sealed s c z) (k : Nat) (w : World) (hk : k + 1 < c.size) (h : turnL c.data.toList k ≠ c.data.toList) :
    Calls Try.prog 10 #[.string s, .int .i64 k] w fun e w' => e = .returned (.bool true) ∧ Below w.heap.size w w' := by
  have hsm := hz.small
  have h1 := fun w => shown_any w
  have h2 := fun w => turn_yes c k w (by unfold maxLen; omega) hk
  have hne := sumV_turn c.data.toList k (by rw [ba_length]; exact hk) h
  obtain ⟨t, ht⟩ : ∃ t, mk (turnL c.data.toList k) = t := ⟨_, rfl⟩
  have hts : t.size = c.size := by rw [← ht, mk_size, turnL_length, ba_length]
  have htl : t.data.toList = turnL c.data.toList k := by rw [← ht, mk_toList]
  rw [ht] at h2
  rw [← htl] at hne h
  have h3 := fun w => sum_any t w (by unfold maxLen; omega)
  have h4 := fun w => sum_any c w (by unfold maxLen; omega)
  have hlist : (t ++ z.extract c.size z.size).data.toList = t.data.toList ++ Sm.be4 (Sm.sumV c.data.toList) := by
    rw [ba_append, ByteArray.data_extract, Array.toList_extract, hz.list]
    simp [hz.size]
    rfl
  have hsz : (t ++ z.extract c.size z.size).size = c.size + 4 := by
    rw [ByteArray.size_append, ByteArray.size_extract, hts, hz.size]
    omega
  have h5 := fun w => open_bad (t ++ z.extract c.size z.size) w (by unfold maxLen; omega) (by omega) (by
    rw [hlist, Sm.openOk_append _ _ rfl, Sm.num_be4 _ (Sm.sumV_lt _)]
    exact decide_eq_false (fun e => hne e.symm))
  have hx := Sm.sumV_lt c.data.toList
  have hxy : ((Sm.sumV t.data.toList : Nat) : Int) ≠ ((Sm.sumV c.data.toList : Nat) : Int) := by omega
  have hzs := hz.size
  have hle : c.size ≤ z.size := by omega
  have hq : ((z.size : Int) != (c.size : Int) + 4) = false := by rw [bne_eq_false_iff_eq]; omega
  have hzb : z.size ≤ 3004 := by omega
  have htb : t.size ≤ 3000 := by omega
  have htc : (t.toList == c.toList) = false := by
    rw [beq_eq_false_iff_ne, ByteArray.toList_eq, ByteArray.toList_eq]
    exact h
  generalize Sm.sumV t.data.toList = x at *
  generalize Sm.sumV c.data.toList = y at *
  have hbne : ((x : Int) != (y : Int)) = true := by rw [bne_iff_ne]; exact hxy
  have hbe : ((x : Int) == (y : Int)) = false := by rw [beq_eq_false_iff_ne]; exact hxy
  have H1 := Lib.hid h1
  have H2 := Lib.hid h2
  have H3 := Lib.hid h3
  have H4 := Lib.hid h4
  have H5 := Lib.hid h5
  have HZ := Lib.hid hz
  clear h1 h2 h3 h4 h5 hz h hlist hsz htl ht hne hxy hzs hts
  go_enter Try.func10, Try.ntmps10
  go_wp2_with fail
  refine (H1.out _).mono ?_
  rintro e w1 ⟨rfl, hb1⟩
  go_wp2_with fail
  refine (HZ.out.cutC _).mono ?_
  rintro e w2 ⟨rfl, hb2⟩
  go_wp2_with fail
  refine (H2.out _).mono ?_
  rintro e w3 ⟨rfl, hb3⟩
  go_wp2_with fail
  refine (HZ.out.sealC _).mono ?_
  rintro e w4 ⟨rfl, hb4⟩
  go_wp2_with fail
  refine (H5.out _).mono ?_
  rintro e w5 ⟨rfl, hb5⟩
  go_wp2_with fail
  refine (H3.out _).mono ?_
  rintro e w6 ⟨rfl, hb6⟩
  go_wp2_with fail
  refine (H4.out _).mono ?_
  rintro e w7 ⟨rfl, hb7⟩
  go_wp2
  go_ret
  exact ⟨rfl, bl_tr (bl_tr (bl_tr (bl_tr (bl_tr (bl_tr hb1 hb2) hb3) hb4) hb5) hb6) hb7⟩

theorem sumTurns_law (s : ByteArray) (i : Int) (hs : s.size ≤ maxLen) (_hi : (Lit.int .i64 i).wf = true) (w : World) :
    Calls Try.prog 10 #[.string s, .int .i64 i] w fun e w' => e = .returned (.bool true) ∧ Below w.heap.size w w' := by
  have hz := sealed_of s hs
  by_cases h1 : i < 0
  · exact turns_no s _ _ hz i w (.inl h1)
  by_cases h2 : ((cutS s).size : Int) - 1 ≤ i
  · exact turns_no s _ _ hz i w (.inr ⟨by omega, h2⟩)
  obtain ⟨k, rfl⟩ := Int.eq_ofNat_of_zero_le (show 0 ≤ i by omega)
  by_cases h3 : turnL (cutS s).data.toList k = (cutS s).data.toList
  · exact turns_same s _ _ hz k w (by omega) h3
  · exact turns_yes s _ _ hz k w (by omega) h3
end Go.Proofs.Ytcklponeofdfcaa
