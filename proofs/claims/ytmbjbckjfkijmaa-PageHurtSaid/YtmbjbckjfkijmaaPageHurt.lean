/- PageHurt: a page of which one byte was changed is none. -/
import Derived.Test.YtmbjbckjfkijmaaLawP
import Derived.Test.YtmbjbckjfkijmaaPageHurtM
namespace Go.Proofs.Ytmbjbckjfkijmaa
open Go.RowKit Go.Shelf
set_option linter.unusedVariables false

theorem cells_set (W : World) (g k : Nat) (z : ByteArray) (c : UInt8) (hk : k < z.size)
    (hc : ∀ j (h : j < z.size), W.cell? ⟨g, j, none⟩ = some (.int .u8 (z[j].toNat : Int))) :
    ∀ j (h : j < (z.data.toList.set k c).length), (W.setCell ⟨g, k, none⟩ (.int .u8 (c.toNat : Int))).cell? ⟨g, j, none⟩ = some (.int .u8 ((z.data.toList.set k c)[j].toNat : Int)) := by
  intro j h
  have hj : j < z.size := by rw [List.length_set, ba_length] at h; exact h
  by_cases e : k = j
  · subst e
    rw [List.getElem_set_self]
    exact World.cell?_setCell_same' _ _ _ (by rw [hc k hk]; rfl)
  · rw [List.getElem_set_ne e, World.cell?_setCell_other _ _ _ _ (by intro h; injection h with _ h2; exact e h2)]
    exact hc j hj

set_option maxRecDepth 100000 in
set_option maxHeartbeats 8000000 in
theorem pageHurt_walk (k : Int) (i t : Nat) (s : ByteArray) (at_ : Int) (by_ : Nat) (w : World) (hk : -9223372036854775808 ≤ k ∧ k ≤ 9223372036854775807) (hi : i < 4294967296) (ht : t < 18446744073709551616) (hs : s.size ≤ maxLen)
    (hat : -9223372036854775808 ≤ at_ ∧ at_ ≤ 9223372036854775807) (hby : by_ < 256) :
    Calls Try.prog 12 #[.agg #[.int .i64 k, .int .u32 i, .int .u64 t, .string s], .int .i64 at_, .int .u8 by_] w fun e w' => e = .returned (.bool true) ∧ Below w.heap.size w w' := by
  have H0 := Lib.hid (fun w => shown3_any w)
  have H1 := Lib.hid (fun w => small_any k i t s w hs)
  obtain ⟨b, hb⟩ : ∃ b, text250 s = b := ⟨_, rfl⟩
  have hbl : b.size ≤ 250 := by have := text250_size s; rw [hb] at this; omega
  rw [hb] at H1
  clear hb
  have hB := Blk.new w 60 #[.int .i64 k, .int .u32 (i : Int), .int .u64 (t : Int), .string s]
  have HB := Lib.hid hB
  clear hB
  cases hr : rightB k i t b.size with
  | false =>
    have H2 := Lib.hid (fun W => encode_no k i t b W hk hi ht (by unfold maxLen; omega) hr)
    clear hr hk hat
    go_enter Try.func12, Try.ntmps12
    go_wp2_with fail
    refine (H0.out _).mono ?_
    rintro e w1 ⟨rfl, hb1⟩
    have b1 := HB.out.below hb1 (by simp)
    have c0 : w1.cell? ⟨w.heap.size, 0, none⟩ = some (.int .i64 k) := b1.cell 0
    have c1 : w1.cell? ⟨w.heap.size, 1, none⟩ = some (.int .u32 (i : Int)) := b1.cell 1
    have c2 : w1.cell? ⟨w.heap.size, 2, none⟩ = some (.int .u64 (t : Int)) := b1.cell 2
    have c3 : w1.cell? ⟨w.heap.size, 3, none⟩ = some (.string s) := b1.cell 3
    have G1 := Lib.hid ((bl_al (bl_re w) _).trans (hb1.mono (by simp)))
    clear b1 hb1
    go_wp2_with fail
    refine (H1.out _).mono ?_
    rintro e w2 ⟨rfl, hb2⟩
    have G2 := Lib.hid (bl_tr G1.out hb2)
    clear hb2 c0 c1 c2 c3
    go_wp2_with fail
    refine (H2.out _).mono ?_
    rintro e w3 ⟨rfl, hb3⟩
    have G3 := Lib.hid (bl_tr G2.out hb3)
    clear hb3
    go_wp2
    go_ret
    exact ⟨rfl, G3.out⟩
  | true =>
    have h3 := (rightB_iff _ _ _ _).1 hr
    obtain ⟨n, rfl⟩ : ∃ n : Nat, k = n := ⟨k.toNat, by omega⟩
    have h2 := fun W => encode_yes n i t b W (by omega) hi ht (by omega) hr
    have hd := fun (j : Nat) (c : UInt8) => hurt_none n i t b.data.toList j c (by rw [ba_length]; omega)
    have hzl := encL_length n i t b.data.toList (by rw [ba_length]; omega)
    obtain ⟨z, hz⟩ : ∃ z, mk (encL n i t b.data.toList) = z := ⟨_, rfl⟩
    have hzd : encL n i t b.data.toList = z.data.toList := by rw [← hz, mk_toList]
    have hzs : z.size = 256 := by rw [← hz, mk_size]; exact hzl
    rw [hz] at h2
    rw [hzd] at hd
    have H2 := Lib.hid h2
    have HD := Lib.hid hd
    have hz1 : (z.size : Int) = 256 := by omega
    clear h2 hd hz hzd hzl hr h3 hk
    have hcase : at_ < 0 ∨ 255 < at_ ∨ (0 ≤ at_ ∧ at_ ≤ 255 ∧ by_ = 0) ∨ (0 ≤ at_ ∧ at_ ≤ 255 ∧ by_ ≠ 0) := by omega
    rcases hcase with h | h | ⟨h, h2, rfl⟩ | ⟨h, h2, h3⟩
    · have e1 : decide (at_ < 0) = true := decide_eq_true h
      clear hzs
      go_enter Try.func12, Try.ntmps12
      go_wp2_with fail
      refine (H0.out _).mono ?_
      rintro e w1 ⟨rfl, hb1⟩
      have b1 := HB.out.below hb1 (by simp)
      have c0 : w1.cell? ⟨w.heap.size, 0, none⟩ = some (.int .i64 (n : Int)) := b1.cell 0
      have c1 : w1.cell? ⟨w.heap.size, 1, none⟩ = some (.int .u32 (i : Int)) := b1.cell 1
      have c2 : w1.cell? ⟨w.heap.size, 2, none⟩ = some (.int .u64 (t : Int)) := b1.cell 2
      have c3 : w1.cell? ⟨w.heap.size, 3, none⟩ = some (.string s) := b1.cell 3
      have G1 := Lib.hid ((bl_al (bl_re w) _).trans (hb1.mono (by simp)))
      clear b1 hb1
      go_wp2_with fail
      refine (H1.out _).mono ?_
      rintro e w2 ⟨rfl, hb2⟩
      have G2 := Lib.hid (bl_tr G1.out hb2)
      clear hb2 c0 c1 c2 c3
      go_wp2_with fail
      refine (H2.out _).mono ?_
      rintro e w3 ⟨rfl, hb3⟩
      have G3 := Lib.hid (bl_tr G2.out hb3)
      clear hb3
      go_wp2
      go_ret
      exact ⟨rfl, G3.out⟩
    · have e1 : decide (at_ < 0) = false := decide_eq_false (by omega)
      have e2 : decide (255 < at_) = true := decide_eq_true (by omega)
      clear hzs
      go_enter Try.func12, Try.ntmps12
      go_wp2_with fail
      refine (H0.out _).mono ?_
      rintro e w1 ⟨rfl, hb1⟩
      have b1 := HB.out.below hb1 (by simp)
      have c0 : w1.cell? ⟨w.heap.size, 0, none⟩ = some (.int .i64 (n : Int)) := b1.cell 0
      have c1 : w1.cell? ⟨w.heap.size, 1, none⟩ = some (.int .u32 (i : Int)) := b1.cell 1
      have c2 : w1.cell? ⟨w.heap.size, 2, none⟩ = some (.int .u64 (t : Int)) := b1.cell 2
      have c3 : w1.cell? ⟨w.heap.size, 3, none⟩ = some (.string s) := b1.cell 3
      have G1 := Lib.hid ((bl_al (bl_re w) _).trans (hb1.mono (by simp)))
      clear b1 hb1
      go_wp2_with fail
      refine (H1.out _).mono ?_
      rintro e w2 ⟨rfl, hb2⟩
      have G2 := Lib.hid (bl_tr G1.out hb2)
      clear hb2 c0 c1 c2 c3
      go_wp2_with fail
      refine (H2.out _).mono ?_
      rintro e w3 ⟨rfl, hb3⟩
      have G3 := Lib.hid (bl_tr G2.out hb3)
      clear hb3
      go_wp2
      go_ret
      exact ⟨rfl, G3.out⟩
    · have e1 : decide (at_ < 0) = false := decide_eq_false (by omega)
      have e2 : decide (255 < at_) = false := decide_eq_false (by omega)
      clear hzs
      go_enter Try.func12, Try.ntmps12
      go_wp2_with fail
      refine (H0.out _).mono ?_
      rintro e w1 ⟨rfl, hb1⟩
      have b1 := HB.out.below hb1 (by simp)
      have c0 : w1.cell? ⟨w.heap.size, 0, none⟩ = some (.int .i64 (n : Int)) := b1.cell 0
      have c1 : w1.cell? ⟨w.heap.size, 1, none⟩ = some (.int .u32 (i : Int)) := b1.cell 1
      have c2 : w1.cell? ⟨w.heap.size, 2, none⟩ = some (.int .u64 (t : Int)) := b1.cell 2
      have c3 : w1.cell? ⟨w.heap.size, 3, none⟩ = some (.string s) := b1.cell 3
      have G1 := Lib.hid ((bl_al (bl_re w) _).trans (hb1.mono (by simp)))
      clear b1 hb1
      go_wp2_with fail
      refine (H1.out _).mono ?_
      rintro e w2 ⟨rfl, hb2⟩
      have G2 := Lib.hid (bl_tr G1.out hb2)
      clear hb2 c0 c1 c2 c3
      go_wp2_with fail
      refine (H2.out _).mono ?_
      rintro e w3 ⟨rfl, hb3⟩
      have G3 := Lib.hid (bl_tr G2.out hb3)
      clear hb3
      go_wp2
      go_ret
      exact ⟨rfl, G3.out⟩
    · obtain ⟨j, rfl⟩ := Int.eq_ofNat_of_zero_le h
      have e1 : decide ((j : Int) < 0) = false := decide_eq_false (by omega)
      have e2 : decide (255 < (j : Int)) = false := decide_eq_false (by omega)
      have e3 : ((by_ : Int) == 0) = false := by rw [beq_eq_false_iff_ne]; omega
      have hk : j < z.size := by omega
      obtain ⟨c', hc'⟩ : ∃ c', z[j] ^^^ UInt8.ofNat by_ = c' := ⟨_, rfl⟩
      have hx : bits .xor .u8 (z[j].toNat : Int) (by_ : Int) = (c'.toNat : Int) := by
        rw [u8_xor_nat _ _ z[j].toNat_lt hby, ← hc', UInt8.toNat_xor, Sm.u8_of by_ hby]
      have hbad : decB (z.data.toList.set j c') = false := HD.out j c' (by omega) (fun e => by
        have hk' : j < z.data.toList.length := by rw [ba_length]; exact hk
        rw [List.getElem?_eq_getElem hk'] at e
        have hne : c' ≠ z.data.toList[j] := by
          rw [← hc']
          refine Sm.xor_ne _ _ (fun e => h3 ?_)
          have := congrArg UInt8.toNat e
          rw [Sm.u8_of by_ hby] at this
          exact this
        exact hne (Option.some.inj e).symm)
      have hsz : (mk (z.data.toList.set j c')).size = z.size := by rw [mk_size, List.length_set, ba_length]
      have h5 : ∀ W : World, Calls Try.prog 36 #[.string (mk (z.data.toList.set j c'))] W fun e w' => e = .returned (.tuple #[.agg #[.int .i64 0, .int .u32 0, .int .u64 0, .string ⟨#[]⟩], .int .i64 30]) ∧ Below W.heap.size W w' := fun W => by
        have h := decode_any (mk (z.data.toList.set j c')) W (by rw [hsz]; unfold maxLen; omega)
        unfold decV at h
        rw [mk_toList, hbad, if_neg (by simp)] at h
        exact h
      have H5 := Lib.hid h5
      clear h5 hbad hc' hsz hat h h2 h3 hzs
      go_enter Try.func12, Try.ntmps12
      go_wp2_with fail
      refine (H0.out _).mono ?_
      rintro e w1 ⟨rfl, hb1⟩
      have b1 := HB.out.below hb1 (by simp)
      have c0 : w1.cell? ⟨w.heap.size, 0, none⟩ = some (.int .i64 (n : Int)) := b1.cell 0
      have c1 : w1.cell? ⟨w.heap.size, 1, none⟩ = some (.int .u32 (i : Int)) := b1.cell 1
      have c2 : w1.cell? ⟨w.heap.size, 2, none⟩ = some (.int .u64 (t : Int)) := b1.cell 2
      have c3 : w1.cell? ⟨w.heap.size, 3, none⟩ = some (.string s) := b1.cell 3
      have G1 := Lib.hid ((bl_al (bl_re w) _).trans (hb1.mono (by simp)))
      clear b1 hb1
      go_wp2_with fail
      refine (H1.out _).mono ?_
      rintro e w2 ⟨rfl, hb2⟩
      have G2 := Lib.hid (bl_tr G1.out hb2)
      clear hb2 c0 c1 c2 c3
      go_wp2_with fail
      refine (H2.out _).mono ?_
      rintro e w3 ⟨rfl, hb3⟩
      have G3 := Lib.hid (bl_tr G2.out hb3)
      clear hb3
      obtain ⟨cap, W', hcv, hcell, hfr, hbl2, hWs⟩ := conv_bytes w3 9 64 5 z Try.underlying9 Try.underlying64 Try.underlying5
      have hback := conv_back (P := Try.prog) (W'.setCell ⟨w3.heap.size, j, none⟩ (.int .u8 (c'.toNat : Int))) 64 9 5 w3.heap.size cap z.size (z.data.toList.set j c')
        Try.underlying64 Try.underlying5 Try.underlying9 (by rw [List.length_set, ba_length]) (cells_set W' w3.heap.size j z c' hk hcell)
      have g1 := hcell j hk
      have g2 := hfr j hk
      have HW := Lib.hid (And.intro hWs hbl2)
      clear hcell hfr hWs hbl2
      go_wp2_with fail
      refine (H5.out _).mono ?_
      rintro e w5 ⟨rfl, hb5⟩
      go_wp2
      go_ret
      exact ⟨rfl, bl_al (bl_tr (bl_st (bl_tr G3.out HW.out.2) G3.out.size _) hb5) _⟩
end Go.Proofs.Ytmbjbckjfkijmaa
