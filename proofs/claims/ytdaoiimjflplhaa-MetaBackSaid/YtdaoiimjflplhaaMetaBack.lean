/- MetaBack: metas and bytes are one to one. -/
import Derived.Test.YtdaoiimjflplhaaLawM
namespace Go.Proofs.Ytdaoiimjflplhaa
open Go.RowKit Go.Shelf
set_option linter.unusedVariables false

theorem text70m_size (s : ByteArray) : (s.extract 0 (min (s.size : Int) 70).toNat).size ≤ 70 := by
  rw [ByteArray.size_extract]
  omega
theorem mmk_of (s : ByteArray) : mk s.data.toList = s := ba_ext (by rw [mk_toList])

set_option maxRecDepth 100000 in
set_option maxHeartbeats 8000000 in
theorem metaBack_walk (t r h f : Nat) (x : ByteArray) (w : World) (ht : t < 18446744073709551616) (hr : r < 4294967296) (hh : h < 4294967296) (hf : f < 4294967296) (hx : x.size ≤ maxLen) :
    Calls Try.prog 6 #[metaV t r h f, .string x] w fun e w' => e = .returned (.bool true) ∧ Below w.heap.size w w' := by
  unfold maxLen at hx
  have H0 := Lib.hid (fun w => shown4_any w)
  obtain ⟨y, hy⟩ : ∃ y, x.extract 0 (min (x.size : Int) 70).toNat = y := ⟨_, rfl⟩
  have hys : y.size ≤ 70 := by rw [← hy]; exact text70m_size x
  -- the meta's bytes, decoded
  have first : ∃ (z : ByteArray) (c : Int) (t2 r2 h2 f2 : Nat) (c2 : Int), Hid ((∀ W : World, Calls Try.prog 11 #[.agg #[.int .u64 (t : Int), .int .u32 (r : Int), .int .u32 (h : Int), .int .u32 (f : Int)]] W fun e w' => e = .returned (.tuple #[.string z, .int .i64 c]) ∧ Below W.heap.size W w') ∧
      (∀ W : World, Calls Try.prog 15 #[.string z] W fun e w' => e = .returned (.tuple #[.agg #[.int .u64 (t2 : Int), .int .u32 (r2 : Int), .int .u32 (h2 : Int), .int .u32 (f2 : Int)], .int .i64 c2]) ∧ Below W.heap.size W w')) ∧
      ((c = 0 ∧ z.size = 64 ∧ c2 = 0 ∧ t2 = t ∧ r2 = r ∧ h2 = h ∧ f2 = f) ∨ (c = 40)) := by
    cases hR : mRightB t r h f with
    | true =>
      refine ⟨mk (mEnc t r h f), 0, t, r, h, f, 0, Lib.hid ⟨fun W => mencode_yes t r h f W ht hr hh hf hR, fun W => ?_⟩, .inl ⟨rfl, ?_, rfl, rfl, rfl, rfl, rfl⟩⟩
      · have hd := mdecode_any (mk (mEnc t r h f)) W (by rw [mk_size, mEnc_length]; unfold maxLen; omega)
        obtain ⟨e1, e2, e3, e4⟩ := mDec_enc t r h f ht hr hh hf
        unfold mdecV at hd
        rw [mk_toList, if_pos (mDecB_enc t r h f ht hr hh hf hR), e1, e2, e3, e4] at hd
        exact hd
      · rw [mk_size, mEnc_length]
    | false =>
      obtain ⟨c2, hd⟩ := mdecV_four (mk ([] : List UInt8)).data.toList
      obtain ⟨⟨t2, r2, h2, f2⟩, hq⟩ : ∃ q, mdec4 (mk ([] : List UInt8)).data.toList = q := ⟨_, rfl⟩
      rw [hq] at hd
      refine ⟨mk [], 40, t2, r2, h2, f2, c2, Lib.hid ⟨fun W => mencode_no t r h f W ht hr hh hf hR, fun W => ?_⟩, .inr rfl⟩
      have h5 := mdecode_any (mk ([] : List UInt8)) W (by rw [mk_size]; unfold maxLen; simp)
      rw [hd] at h5
      exact h5
  -- the bytes, decoded and encoded
  have second : ∃ (t3 r3 h3 f3 : Nat) (g : Int) (z3 : ByteArray) (c3 : Int), Hid ((∀ W : World, Calls Try.prog 15 #[.string y] W fun e w' => e = .returned (.tuple #[.agg #[.int .u64 (t3 : Int), .int .u32 (r3 : Int), .int .u32 (h3 : Int), .int .u32 (f3 : Int)], .int .i64 g]) ∧ Below W.heap.size W w') ∧
      (∀ W : World, Calls Try.prog 11 #[.agg #[.int .u64 (t3 : Int), .int .u32 (r3 : Int), .int .u32 (h3 : Int), .int .u32 (f3 : Int)]] W fun e w' => e = .returned (.tuple #[.string z3, .int .i64 c3]) ∧ Below W.heap.size W w')) ∧
      ((g = 0 ∧ c3 = 0 ∧ z3 = y) ∨ (g = 40)) := by
    have hd := fun W => mdecode_any y W (by unfold maxLen; omega)
    unfold mdecV at hd
    cases hR : mDecB y.data.toList with
    | true =>
      rw [hR, if_pos rfl] at hd
      obtain ⟨h1, h2, h3⟩ := (mDecB_iff _).1 hR
      refine ⟨mTx y.data.toList, mRoot y.data.toList, mHigh y.data.toList, mFree y.data.toList, _, mk (mEnc (mTx y.data.toList) (mRoot y.data.toList) (mHigh y.data.toList) (mFree y.data.toList)), 0, Lib.hid ⟨hd, fun W => ?_⟩, .inl ⟨rfl, rfl, by rw [h3, mmk_of]⟩⟩
      exact mencode_yes _ _ _ _ W (mTx_lt _) (mRoot_lt _) (mHigh_lt _) (mFree_lt _) h2
    | false =>
      rw [hR, if_neg (by simp)] at hd
      refine ⟨0, 0, 0, 0, _, mk [], 40, Lib.hid ⟨hd, fun W => ?_⟩, .inr rfl⟩
      exact mencode_no 0 0 0 0 W (by omega) (by omega) (by omega) (by omega) rfl
  obtain ⟨z, c, t2, r2, h2, f2, c2, HF, hF⟩ := first
  obtain ⟨t3, r3, h3, f3, g, z3, c3, HS, hS⟩ := second
  have hB := Blk.new w 25 #[.int .u64 (t : Int), .int .u32 (r : Int), .int .u32 (h : Int), .int .u32 (f : Int)]
  have HB := Lib.hid hB
  clear hB ht hr hh hf
  have HS2 := Lib.hid hS
  clear hS
  unfold metaV
  rcases hF with ⟨rfl, hz, rfl, rfl, rfl, rfl, rfl⟩ | rfl
  · have hz1 : (z.size : Int) = 64 := by omega
    clear hz
    rcases HS2.out with ⟨rfl, rfl, rfl⟩ | rfl
    all_goals
      go_enter Try.func6, Try.ntmps6
      go_wp2_with fail
      refine (H0.out _).mono ?_
      rintro e w1 ⟨rfl, hb1⟩
      have b1 := HB.out.below hb1 (by simp)
      have c0 : w1.cell? ⟨w.heap.size, 0, none⟩ = some (.int .u64 (t2 : Int)) := b1.cell 0
      have c1 : w1.cell? ⟨w.heap.size, 1, none⟩ = some (.int .u32 (r2 : Int)) := b1.cell 1
      have c2' : w1.cell? ⟨w.heap.size, 2, none⟩ = some (.int .u32 (h2 : Int)) := b1.cell 2
      have c3' : w1.cell? ⟨w.heap.size, 3, none⟩ = some (.int .u32 (f2 : Int)) := b1.cell 3
      have G1 := Lib.hid (And.intro b1 ((bl_al (bl_re w) _).trans (hb1.mono (by simp))))
      clear b1 hb1
      go_wp2_with fail
      refine (HF.out.1 _).mono ?_
      rintro e w3 ⟨rfl, hb3⟩
      have G3 := Lib.hid (And.intro (G1.out.1.below hb3 G1.out.1.lt) (bl_tr G1.out.2 hb3))
      clear hb3 c0 c1 c2' c3'
      go_wp2_with fail
      refine (HF.out.2 _).mono ?_
      rintro e w4 ⟨rfl, hb4⟩
      have b4 := G3.out.1.below hb4 G3.out.1.lt
      have c0 : w4.cell? ⟨w.heap.size, 0, none⟩ = some (.int .u64 (t2 : Int)) := b4.cell 0
      have c1 : w4.cell? ⟨w.heap.size, 1, none⟩ = some (.int .u32 (r2 : Int)) := b4.cell 1
      have c2' : w4.cell? ⟨w.heap.size, 2, none⟩ = some (.int .u32 (h2 : Int)) := b4.cell 2
      have c3' : w4.cell? ⟨w.heap.size, 3, none⟩ = some (.int .u32 (f2 : Int)) := b4.cell 3
      have hlt4 := b4.lt
      have G4 := Lib.hid (bl_tr G3.out.2 hb4)
      clear b4 hb4
      go_wp2_with fail
      refine (HS.out.1 _).mono ?_
      rintro e w5 ⟨rfl, hb5⟩
      have G5 := Lib.hid (bl_tr (bl_al G4.out _) hb5)
      clear hb5 c0 c1 c2' c3' hlt4
      go_wp2_with fail
      refine (HS.out.2 _).mono ?_
      rintro e w6 ⟨rfl, hb6⟩
      have G6 := Lib.hid (bl_tr (bl_al G5.out _) hb6)
      clear hb6
      go_wp2
      go_ret
      exact ⟨rfl, G6.out⟩
  · rcases HS2.out with ⟨rfl, rfl, rfl⟩ | rfl
    all_goals
      go_enter Try.func6, Try.ntmps6
      go_wp2_with fail
      refine (H0.out _).mono ?_
      rintro e w1 ⟨rfl, hb1⟩
      have b1 := HB.out.below hb1 (by simp)
      have c0 : w1.cell? ⟨w.heap.size, 0, none⟩ = some (.int .u64 (t : Int)) := b1.cell 0
      have c1 : w1.cell? ⟨w.heap.size, 1, none⟩ = some (.int .u32 (r : Int)) := b1.cell 1
      have c2' : w1.cell? ⟨w.heap.size, 2, none⟩ = some (.int .u32 (h : Int)) := b1.cell 2
      have c3' : w1.cell? ⟨w.heap.size, 3, none⟩ = some (.int .u32 (f : Int)) := b1.cell 3
      have G1 := Lib.hid (And.intro b1 ((bl_al (bl_re w) _).trans (hb1.mono (by simp))))
      clear b1 hb1
      go_wp2_with fail
      refine (HF.out.1 _).mono ?_
      rintro e w3 ⟨rfl, hb3⟩
      have G3 := Lib.hid (And.intro (G1.out.1.below hb3 G1.out.1.lt) (bl_tr G1.out.2 hb3))
      clear hb3 c0 c1 c2' c3'
      go_wp2_with fail
      refine (HF.out.2 _).mono ?_
      rintro e w4 ⟨rfl, hb4⟩
      have b4 := G3.out.1.below hb4 G3.out.1.lt
      have c0 : w4.cell? ⟨w.heap.size, 0, none⟩ = some (.int .u64 (t : Int)) := b4.cell 0
      have c1 : w4.cell? ⟨w.heap.size, 1, none⟩ = some (.int .u32 (r : Int)) := b4.cell 1
      have c2' : w4.cell? ⟨w.heap.size, 2, none⟩ = some (.int .u32 (h : Int)) := b4.cell 2
      have c3' : w4.cell? ⟨w.heap.size, 3, none⟩ = some (.int .u32 (f : Int)) := b4.cell 3
      have hlt4 := b4.lt
      have G4 := Lib.hid (bl_tr G3.out.2 hb4)
      clear b4 hb4
      go_wp2_with fail
      refine (HS.out.1 _).mono ?_
      rintro e w5 ⟨rfl, hb5⟩
      have G5 := Lib.hid (bl_tr (bl_al G4.out _) hb5)
      clear hb5 c0 c1 c2' c3' hlt4
      go_wp2_with fail
      refine (HS.out.2 _).mono ?_
      rintro e w6 ⟨rfl, hb6⟩
      have G6 := Lib.hid (bl_tr (bl_al G5.out _) hb6)
      clear hb6
      go_wp2
      go_ret
      exact ⟨rfl, G6.out⟩
end Go.Proofs.Ytdaoiimjflplhaa
