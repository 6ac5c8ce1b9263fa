/- Seal, Open, Turn of package bazaarref02: what each call returns, and that it leaves whatever lay as it lay. No condition but that a text's length is a length. -/
import Derived.Test.YtcklponeofdfcaaRef02J
import Derived.Test.YtcklponeofdfcaaSumTurns
namespace Go.Proofs.Ytcklponeofdfcaa
open Go.RowKit Go.Shelf

set_option maxHeartbeats 400000 in
theorem rseal_any (s : ByteArray) (w : World) (hs : s.size ≤ 140737488351232) :
    Calls Try.prog 24 #[.string s] w fun e w' => e = .returned (.string (mk (s.data.toList ++ Sm.be4 (Sm.sumV s.data.toList)))) ∧ Below w.heap.size w w' := by
  have HS := fun w => rsum_any s w (by unfold maxLen; omega)
  obtain ⟨n, hn⟩ : ∃ n, Sm.sumV s.data.toList = n := ⟨_, rfl⟩
  have hlt := Sm.sumV_lt s.data.toList
  rw [hn] at HS hlt ⊢
  have HS' := Lib.hid HS
  clear HS hn
  have hcv := run_convert_bytes_arg (P := Try.prog) (w.alloc (.cells #[.int .u8 ((n : Int) / 16777216), .int .u8 ((n : Int) / 65536 % 256), .int .u8 ((n : Int) / 256 % 256), .int .u8 ((n : Int) % 256)] 5)) 33 5 Try.underlying33 Try.underlying5 w.heap.size 0 4 4
    [(n : Int) / 16777216, (n : Int) / 65536 % 256, (n : Int) / 256 % 256, (n : Int) % 256] rfl (fun i hi => by
      have hB := Blk.new w 5 #[.int .u8 ((n : Int) / 16777216), .int .u8 ((n : Int) / 65536 % 256), .int .u8 ((n : Int) / 256 % 256), .int .u8 ((n : Int) % 256)]
      rw [hB.cell]
      match i, hi with
      | 0, _ => rfl
      | 1, _ => rfl
      | 2, _ => rfl
      | 3, _ => rfl) 9 Try.underlying9
  obtain ⟨t, ht⟩ : ∃ t, strOfNums [(n : Int) / 16777216, (n : Int) / 65536 % 256, (n : Int) / 256 % 256, (n : Int) % 256] = t := ⟨_, rfl⟩
  have hts : t.size = 4 := by rw [← ht]; rfl
  rw [ht] at hcv
  have HT := Lib.hid ht
  clear ht
  go_enter Try.func24, Try.ntmps24
  go_wp2_with fail
  refine (HS'.out _).mono ?_
  rintro e w1 ⟨rfl, rfl⟩
  go_wp2
  go_ret
  refine ⟨ret_str ?_, bl_al (bl_re _) _⟩
  rw [mk_toList, ← be4_eq n hlt]
  show (s ++ t).data.toList = _
  rw [ba_append, ← HT.out, strOfNums_data]

set_option maxHeartbeats 400000 in
theorem ropen_short (s : ByteArray) (w : World) (hs : s.size < 4) :
    Calls Try.prog 21 #[.string s] w fun e w' => e = .returned (.tuple #[.string (mk []), .int .i64 20]) ∧ Below w.heap.size w w' := by
  go_enter Try.func21, Try.ntmps21
  go_wp2
  go_ret2
  exact ⟨rfl, bl_re _⟩

theorem openOk_iff (l : List UInt8) (h : 4 ≤ l.length) : Sm.openOk l = true ↔ l.take (l.length - 4) ++ Sm.be4 (Sm.sumV (l.take (l.length - 4))) = l := by
  have hd : (l.drop (l.length - 4)).length = 4 := by rw [List.length_drop]; omega
  constructor
  · intro ho
    unfold Sm.openOk at ho
    simp only [Bool.and_eq_true, decide_eq_true_eq] at ho
    have h1 := Sm.num4_inj (l.drop (l.length - 4)) (Sm.be4 (Sm.sumV (l.take (l.length - 4)))) hd rfl (by rw [Sm.num_be4 _ (Sm.sumV_lt _)]; exact ho.2)
    rw [← h1, List.take_append_drop]
  · intro he
    rw [← he]
    exact Sm.openOk_seal _

set_option maxHeartbeats 400000 in
theorem ropen_long (s : ByteArray) (w : World) (hs : s.size ≤ 140737488351232) (h4 : 4 ≤ s.size) :
    Calls Try.prog 21 #[.string s] w fun e w' =>
      e = .returned (if Sm.openOk s.data.toList = true then .tuple #[.string (mk (s.data.toList.take (s.size - 4))), .int .i64 0] else .tuple #[.string (mk []), .int .i64 20]) ∧ Below w.heap.size w w' := by
  have hoi := openOk_iff s.data.toList (by rw [ba_length]; exact h4)
  rw [ba_length] at hoi
  have hex : (s.extract 0 (s.size - 4)).data.toList = s.data.toList.take (s.size - 4) := by simp
  have hse := fun w => rseal_any (s.extract 0 (s.size - 4)) w (by rw [ByteArray.size_extract]; omega)
  rw [hex] at hse
  have hmk : s.extract 0 (s.size - 4) = mk (s.data.toList.take (s.size - 4)) := by rw [← mk_of (s.extract 0 (s.size - 4)), hex]
  obtain ⟨z, hz⟩ : ∃ z, mk (s.data.toList.take (s.size - 4) ++ Sm.be4 (Sm.sumV (s.data.toList.take (s.size - 4)))) = z := ⟨_, rfl⟩
  rw [hz] at hse
  have hzl : z.toList = s.data.toList.take (s.size - 4) ++ Sm.be4 (Sm.sumV (s.data.toList.take (s.size - 4))) := by rw [← hz, ByteArray.toList_eq, mk_toList]
  have HS := Lib.hid hse
  have HM := Lib.hid hmk
  have ge0 : 0 ≤ (s.size : Int) - 4 := by omega
  cases ho : Sm.openOk s.data.toList with
  | true =>
    have hb : (z.toList == s.toList) = true := by rw [beq_iff_eq, hzl, ByteArray.toList_eq]; exact hoi.1 ho
    clear hse hmk hz hzl hex hoi ho
    rw [if_pos rfl]
    go_enter Try.func21, Try.ntmps21
    go_wp2_with fail
    refine (HS.out _).mono ?_
    rintro e w1 ⟨rfl, hb1⟩
    go_wp2
    go_ret2
    refine ⟨?_, hb1⟩
    rw [← HM.out]
    rfl
  | false =>
    have hb : (z.toList == s.toList) = false := by
      rw [beq_eq_false_iff_ne, hzl, ByteArray.toList_eq]
      intro e
      rw [hoi.2 e] at ho
      cases ho
    clear hse hmk hz hzl hex hoi ho
    rw [if_neg (by simp)]
    go_enter Try.func21, Try.ntmps21
    go_wp2_with fail
    refine (HS.out _).mono ?_
    rintro e w1 ⟨rfl, hb1⟩
    go_wp2
    go_ret2
    exact ⟨rfl, hb1⟩

set_option maxHeartbeats 400000 in
theorem rturn_no (s : ByteArray) (i : Int) (w : World) (hs : s.size ≤ maxLen) (h : i < 0 ∨ (0 ≤ i ∧ (s.size : Int) - 1 ≤ i)) :
    Calls Try.prog 23 #[.string s, .int .i64 i] w fun e w' => e = .returned (.tuple #[.string ⟨#[]⟩, .int .i64 2]) ∧ Below w.heap.size w w' := by
  unfold maxLen at hs
  rcases h with h | ⟨h, h2⟩
  · have k1 : decide (i < 0) = true := decide_eq_true h
    clear h
    go_enter Try.func23, Try.ntmps23
    go_wp2
    go_ret2
    exact ⟨rfl, bl_re _⟩
  · have k1 : decide (i < 0) = false := decide_eq_false (by omega)
    have k2 : decide (i < (s.size : Int) - 1) = false := decide_eq_false (by omega)
    have k3 : decide ((s.size : Int) - 1 ≤ i) = true := decide_eq_true (by omega)
    clear h
    go_enter Try.func23, Try.ntmps23
    go_wp2
    go_ret2
    exact ⟨rfl, bl_re _⟩

theorem ext_list (s : ByteArray) (a b : Nat) : (s.extract a b).data.toList = (s.data.toList.take b).drop a := by
  rw [ByteArray.data_extract, Array.toList_extract, List.extract_eq_take_drop, List.drop_take]
theorem turn_parts (s : ByteArray) (k : Nat) (h : k + 1 < s.size) :
    s.extract 0 k ++ s.extract (k + 1) (k + 2) ++ s.extract k (k + 1) ++ s.extract (k + 2) s.size = mk (turnL s.data.toList k) := by
  apply ba_ext
  rw [mk_toList, ba_append, ba_append, ba_append, ext_list, ext_list, ext_list, ext_list, ← ba_length]
  rw [← ba_length] at h
  generalize s.data.toList = l at *
  obtain ⟨A, c, d, B, h1, h2, h3⟩ := turnL_split' l k h
  rw [h2]
  subst h3
  subst h1
  simp [List.take_append, List.drop_append, Nat.add_sub_cancel_left]
  rw [List.take_of_length_le (by omega), List.take_of_length_le (by omega), List.drop_of_length_le (by omega), List.drop_of_length_le (by omega)]
  rfl

set_option maxRecDepth 100000 in
set_option maxHeartbeats 1000000 in
theorem rturn_yes (s : ByteArray) (k : Nat) (w : World) (hs : s.size ≤ 140737488351232) (hk : k + 1 < s.size) :
    Calls Try.prog 23 #[.string s, .int .i64 k] w fun e w' => e = .returned (.tuple #[.string (mk (turnL s.data.toList k)), .int .i64 0]) ∧ Below w.heap.size w w' := by
  have k1 : decide ((k : Int) < 0) = false := decide_eq_false (by omega)
  have k3 : decide ((s.size : Int) - 1 ≤ (k : Int)) = false := decide_eq_false (by omega)
  have x0 : 0 ≤ (k : Int) + 1 := by omega
  have x1 : ((k : Int) + 1).toNat = k + 1 := by omega
  have x2 : ((k : Int) + 2).toNat = k + 2 := by omega
  have y0 : k ≤ s.size := by omega
  have y1 : k + 1 ≤ s.size := by omega
  have y2 : k + 2 ≤ s.size := by omega
  have y3 : k ≤ k + 1 := by omega
  have y4 : k + 1 ≤ k + 2 := by omega
  have z0 : (k : Int) ≤ (k : Int) + 1 := by omega
  have z1 : (k : Int) + 1 ≤ (k : Int) + 2 := by omega
  have z2 : (k : Int) + 1 ≤ (s.size : Int) := by omega
  have z3 : (k : Int) + 2 ≤ (s.size : Int) := by omega
  have z4 : 0 ≤ (k : Int) + 2 := by omega
  go_enter Try.func23, Try.ntmps23
  go_wp2
  go_region
  go_wp2
  go_ret2
  refine ⟨?_, bl_dr (bl_re _)⟩
  rw [← turn_parts s k hk]
  rfl
end Go.Proofs.Ytcklponeofdfcaa
