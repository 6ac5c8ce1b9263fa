/- PageBack: pages and bytes are one to one. -/
import Derived.Test.YtmbjbckjfkijmaaPageBytes
import Derived.Test.YtmbjbckjfkijmaaPageDecodes
namespace Go.Proofs.Ytmbjbckjfkijmaa
open Go.RowKit Go.Shelf
set_option linter.unusedVariables false

set_option maxRecDepth 100000 in
set_option maxHeartbeats 8000000 in
theorem pageBack_walk (k : Int) (i t : Nat) (s x : ByteArray) (w : World) (hk : -9223372036854775808 ≤ k ∧ k ≤ 9223372036854775807) (hi : i < 4294967296) (ht : t < 18446744073709551616) (hs : s.size ≤ maxLen) (hx : x.size ≤ maxLen) :
    Calls Try.prog 11 #[.agg #[.int .i64 k, .int .u32 i, .int .u64 t, .string s], .string x] w fun e w' => e = .returned (.bool true) ∧ Below w.heap.size w w' := by
  unfold maxLen at hx
  have H0 := Lib.hid (fun w => shown3_any w)
  have H1 := Lib.hid (fun w => small_any k i t s w hs)
  obtain ⟨b, hb⟩ : ∃ b, text250 s = b := ⟨_, rfl⟩
  have hbl : b.size ≤ 250 := by have := text250_size s; rw [hb] at this; omega
  rw [hb] at H1
  clear hb
  obtain ⟨y, hy⟩ : ∃ y, x.extract 0 (min (x.size : Int) 260).toNat = y := ⟨_, rfl⟩
  have hys : y.size ≤ 260 := by rw [← hy]; exact text260_size x
  -- the page's bytes, decoded
  have first : ∃ (z : ByteArray) (c : Int) (k2 i2 t2 : Nat) (b2 : ByteArray) (c2 : Int), Hid ((∀ W : World, Calls Try.prog 32 #[.agg #[.int .i64 k, .int .u32 (i : Int), .int .u64 (t : Int), .string b]] W fun e w' => e = .returned (.tuple #[.string z, .int .i64 c]) ∧ Below W.heap.size W w') ∧
      (∀ W : World, Calls Try.prog 36 #[.string z] W fun e w' => e = .returned (.tuple #[.agg #[.int .i64 (k2 : Int), .int .u32 (i2 : Int), .int .u64 (t2 : Int), .string b2], .int .i64 c2]) ∧ Below W.heap.size W w')) ∧
      ((c = 0 ∧ z.size = 256 ∧ c2 = 0 ∧ k = k2 ∧ i2 = i ∧ t2 = t ∧ b2 = b) ∨ (c = 30)) := by
    cases hr : rightB k i t b.size with
    | true =>
      have h3 := (rightB_iff _ _ _ _).1 hr
      obtain ⟨n, rfl⟩ : ∃ n : Nat, k = n := ⟨k.toNat, by omega⟩
      refine ⟨mk (encL n i t b.data.toList), 0, n, i, t, b, 0, Lib.hid ⟨fun W => encode_yes n i t b W (by omega) hi ht (by omega) hr, fun W => ?_⟩, .inl ⟨rfl, ?_, rfl, rfl, rfl, rfl, rfl⟩⟩
      · have h := decode_any (mk (encL n i t b.data.toList)) W (by rw [mk_size, encL_length _ _ _ _ (by rw [ba_length]; omega)]; unfold maxLen; omega)
        rw [mk_toList, decV_enc n i t b.data.toList hi ht (by rw [ba_length]; exact hr)] at h
        unfold pageV at h
        rw [mk_of] at h
        exact h
      · rw [mk_size, encL_length _ _ _ _ (by rw [ba_length]; omega)]
    | false =>
      obtain ⟨k2, i2, t2, b2, c2, h⟩ := decV_form (mk ([] : List UInt8)).data.toList
      refine ⟨mk [], 30, k2, i2, t2, b2, c2, Lib.hid ⟨fun W => encode_no k i t b W hk hi ht (by unfold maxLen; omega) hr, fun W => ?_⟩, .inr rfl⟩
      rw [← h]
      exact decode_any _ W (by rw [mk_size]; unfold maxLen; simp)
  -- the bytes, decoded and encoded
  have second : ∃ (k3 i3 t3 : Nat) (b3 : ByteArray) (g : Int) (z3 : ByteArray) (h3 : Int), Hid ((∀ W : World, Calls Try.prog 36 #[.string y] W fun e w' => e = .returned (.tuple #[.agg #[.int .i64 (k3 : Int), .int .u32 (i3 : Int), .int .u64 (t3 : Int), .string b3], .int .i64 g]) ∧ Below W.heap.size W w') ∧
      (∀ W : World, Calls Try.prog 32 #[.agg #[.int .i64 (k3 : Int), .int .u32 (i3 : Int), .int .u64 (t3 : Int), .string b3]] W fun e w' => e = .returned (.tuple #[.string z3, .int .i64 h3]) ∧ Below W.heap.size W w')) ∧
      ((g = 0 ∧ h3 = 0 ∧ z3 = y) ∨ (g = 30)) := by
    have hd := fun W => decode_any y W (by unfold maxLen; omega)
    unfold decV at hd
    cases hr : decB y.data.toList with
    | true =>
      rw [hr, if_pos rfl] at hd
      obtain ⟨h1, h2, h3, h4⟩ := (decB_iff _).1 hr
      have h5 := (rightB_iff _ _ _ _).1 h3
      have h6 := dBody_length _ h1 h2
      refine ⟨_, _, _, _, _, mk (encL (dKind y.data.toList) (dId y.data.toList) (dTx y.data.toList) (dBody y.data.toList)), 0, Lib.hid ⟨hd, fun W => ?_⟩, .inl ⟨rfl, rfl, by rw [h4, mk_of]⟩⟩
      have h7 := encode_yes (dKind y.data.toList) (dId y.data.toList) (dTx y.data.toList) (mk (dBody y.data.toList)) W (by omega) (dId_lt _) (dTx_lt _) (by rw [mk_size]; omega) (by rw [mk_size, h6]; exact h3)
      rw [mk_toList] at h7
      exact h7
    | false =>
      rw [hr, if_neg (by simp)] at hd
      obtain ⟨z3, h3, he⟩ := encV_form 0 0 0 ⟨#[]⟩
      refine ⟨0, 0, 0, ⟨#[]⟩, _, z3, h3, Lib.hid ⟨hd, fun W => ?_⟩, .inr rfl⟩
      rw [← he]
      exact encode_any 0 0 0 ⟨#[]⟩ W (by omega) (by omega) (by omega) (by unfold maxLen; decide)
  obtain ⟨z, c, k2, i2, t2, b2, c2, HF, hF⟩ := first
  obtain ⟨k3, i3, t3, b3, g, z3, h3, HS, hS⟩ := second
  have hB := Blk.new w 60 #[.int .i64 k, .int .u32 (i : Int), .int .u64 (t : Int), .string s]
  have HB := Lib.hid hB
  clear hB
  have HS2 := Lib.hid hS
  clear hS
  rcases hF with ⟨rfl, hz, rfl, rfl, rfl, rfl, rfl⟩ | rfl
  · have hz1 : (z.size : Int) = 256 := by omega
    clear hz
    rcases HS2.out with ⟨rfl, rfl, rfl⟩ | rfl
    all_goals
      go_enter Try.func11, Try.ntmps11
      go_wp2_with fail
      refine (H0.out _).mono ?_
      rintro e w1 ⟨rfl, hb1⟩
      have b1 := HB.out.below hb1 (by simp)
      have c0 : w1.cell? ⟨w.heap.size, 0, none⟩ = some (.int .i64 (k2 : Int)) := b1.cell 0
      have c1 : w1.cell? ⟨w.heap.size, 1, none⟩ = some (.int .u32 (i2 : Int)) := b1.cell 1
      have c2' : w1.cell? ⟨w.heap.size, 2, none⟩ = some (.int .u64 (t2 : Int)) := b1.cell 2
      have c3 : w1.cell? ⟨w.heap.size, 3, none⟩ = some (.string s) := b1.cell 3
      have G1 := Lib.hid (And.intro b1 ((bl_al (bl_re w) _).trans (hb1.mono (by simp))))
      clear b1 hb1
      go_wp2_with fail
      refine (H1.out _).mono ?_
      rintro e w2 ⟨rfl, hb2⟩
      have b2' := G1.out.1.below hb2 G1.out.1.lt
      have G2 := Lib.hid (And.intro b2' (bl_tr G1.out.2 hb2))
      have f0 := b2'.frozen 0
      have f1 := b2'.frozen 1
      have f2 := b2'.frozen 2
      have f3 := b2'.frozen 3
      have d0 : w2.cell? ⟨w.heap.size, 0, none⟩ = some (.int .i64 (k2 : Int)) := b2'.cell 0
      have d1 : w2.cell? ⟨w.heap.size, 1, none⟩ = some (.int .u32 (i2 : Int)) := b2'.cell 1
      have d2 : w2.cell? ⟨w.heap.size, 2, none⟩ = some (.int .u64 (t2 : Int)) := b2'.cell 2
      have d3 : w2.cell? ⟨w.heap.size, 3, none⟩ = some (.string s) := b2'.cell 3
      clear b2' hb2 c0 c1 c2' c3
      go_wp2_with fail
      refine (HF.out.1 (set4 w2 w.heap.size (.int .i64 (k2 : Int)) (.int .u32 (i2 : Int)) (.int .u64 (t2 : Int)) (.string b2))).mono ?_
      rintro e w3 ⟨rfl, hb3⟩
      have b3' := (G2.out.1.set4 (.int .i64 (k2 : Int)) (.int .u32 (i2 : Int)) (.int .u64 (t2 : Int)) (.string b2)).below hb3 (G2.out.1.set4 _ _ _ _).lt
      have G3 := Lib.hid (And.intro b3' (bl_tr (below_set4 G2.out.2 (Nat.le_refl _) (.int .i64 (k2 : Int)) (.int .u32 (i2 : Int)) (.int .u64 (t2 : Int)) (.string b2)) hb3))
      clear b3' hb3 d0 d1 d2 d3 f0 f1 f2 f3
      go_wp2_with fail
      refine (HF.out.2 _).mono ?_
      rintro e w4 ⟨rfl, hb4⟩
      have b4 := G3.out.1.below hb4 G3.out.1.lt
      have c0 : w4.cell? ⟨w.heap.size, 0, none⟩ = some (.int .i64 (k2 : Int)) := b4.cell 0
      have c1 : w4.cell? ⟨w.heap.size, 1, none⟩ = some (.int .u32 (i2 : Int)) := b4.cell 1
      have c2' : w4.cell? ⟨w.heap.size, 2, none⟩ = some (.int .u64 (t2 : Int)) := b4.cell 2
      have c3 : w4.cell? ⟨w.heap.size, 3, none⟩ = some (.string b2) := b4.cell 3
      have hlt4 := b4.lt
      have G4 := Lib.hid (bl_tr G3.out.2 hb4)
      clear b4 hb4
      go_wp2_with fail
      refine (HS.out.1 _).mono ?_
      rintro e w5 ⟨rfl, hb5⟩
      have G5 := Lib.hid (bl_tr (bl_al G4.out _) hb5)
      clear hb5 c0 c1 c2' c3 hlt4
      go_wp2_with fail
      refine (HS.out.2 _).mono ?_
      rintro e w6 ⟨rfl, hb6⟩
      have G6 := Lib.hid (bl_tr (bl_al G5.out _) hb6)
      clear hb6
      go_wp2
      go_ret
      exact ⟨rfl, G6.out⟩
  · rcases HS2.out with ⟨rfl, rfl, rfl⟩ | rfl
    all_goals
      go_enter Try.func11, Try.ntmps11
      go_wp2_with fail
      refine (H0.out _).mono ?_
      rintro e w1 ⟨rfl, hb1⟩
      have b1 := HB.out.below hb1 (by simp)
      have c0 : w1.cell? ⟨w.heap.size, 0, none⟩ = some (.int .i64 k) := b1.cell 0
      have c1 : w1.cell? ⟨w.heap.size, 1, none⟩ = some (.int .u32 (i : Int)) := b1.cell 1
      have c2' : w1.cell? ⟨w.heap.size, 2, none⟩ = some (.int .u64 (t : Int)) := b1.cell 2
      have c3 : w1.cell? ⟨w.heap.size, 3, none⟩ = some (.string s) := b1.cell 3
      have G1 := Lib.hid (And.intro b1 ((bl_al (bl_re w) _).trans (hb1.mono (by simp))))
      clear b1 hb1
      go_wp2_with fail
      refine (H1.out _).mono ?_
      rintro e w2 ⟨rfl, hb2⟩
      have b2' := G1.out.1.below hb2 G1.out.1.lt
      have G2 := Lib.hid (And.intro b2' (bl_tr G1.out.2 hb2))
      have f0 := b2'.frozen 0
      have f1 := b2'.frozen 1
      have f2 := b2'.frozen 2
      have f3 := b2'.frozen 3
      have d0 : w2.cell? ⟨w.heap.size, 0, none⟩ = some (.int .i64 k) := b2'.cell 0
      have d1 : w2.cell? ⟨w.heap.size, 1, none⟩ = some (.int .u32 (i : Int)) := b2'.cell 1
      have d2 : w2.cell? ⟨w.heap.size, 2, none⟩ = some (.int .u64 (t : Int)) := b2'.cell 2
      have d3 : w2.cell? ⟨w.heap.size, 3, none⟩ = some (.string s) := b2'.cell 3
      clear b2' hb2 c0 c1 c2' c3
      go_wp2_with fail
      refine (HF.out.1 (set4 w2 w.heap.size (.int .i64 k) (.int .u32 (i : Int)) (.int .u64 (t : Int)) (.string b))).mono ?_
      rintro e w3 ⟨rfl, hb3⟩
      have b3' := (G2.out.1.set4 (.int .i64 k) (.int .u32 (i : Int)) (.int .u64 (t : Int)) (.string b)).below hb3 (G2.out.1.set4 _ _ _ _).lt
      have G3 := Lib.hid (And.intro b3' (bl_tr (below_set4 G2.out.2 (Nat.le_refl _) (.int .i64 k) (.int .u32 (i : Int)) (.int .u64 (t : Int)) (.string b)) hb3))
      clear b3' hb3 d0 d1 d2 d3 f0 f1 f2 f3
      go_wp2_with fail
      refine (HF.out.2 _).mono ?_
      rintro e w4 ⟨rfl, hb4⟩
      have b4 := G3.out.1.below hb4 G3.out.1.lt
      have c0 : w4.cell? ⟨w.heap.size, 0, none⟩ = some (.int .i64 k) := b4.cell 0
      have c1 : w4.cell? ⟨w.heap.size, 1, none⟩ = some (.int .u32 (i : Int)) := b4.cell 1
      have c2' : w4.cell? ⟨w.heap.size, 2, none⟩ = some (.int .u64 (t : Int)) := b4.cell 2
      have c3 : w4.cell? ⟨w.heap.size, 3, none⟩ = some (.string b) := b4.cell 3
      have hlt4 := b4.lt
      have G4 := Lib.hid (bl_tr G3.out.2 hb4)
      clear b4 hb4
      go_wp2_with fail
      refine (HS.out.1 _).mono ?_
      rintro e w5 ⟨rfl, hb5⟩
      have G5 := Lib.hid (bl_tr (bl_al G4.out _) hb5)
      clear hb5 c0 c1 c2' c3 hlt4
      go_wp2_with fail
      refine (HS.out.2 _).mono ?_
      rintro e w6 ⟨rfl, hb6⟩
      have G6 := Lib.hid (bl_tr (bl_al G5.out _) hb6)
      clear hb6
      go_wp2
      go_ret
      exact ⟨rfl, G6.out⟩
end Go.Proofs.Ytmbjbckjfkijmaa
