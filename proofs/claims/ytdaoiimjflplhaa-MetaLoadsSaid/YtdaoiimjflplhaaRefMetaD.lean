/- Decode of package bazaarref04: what each call returns, and that it leaves whatever lay as it lay. -/
import Derived.Test.YtdaoiimjflplhaaRefMetaE
namespace Go.Proofs.Ytdaoiimjflplhaa
open Go.RowKit Go.Shelf
set_option linter.unusedVariables false

theorem rmencode_any (t r h f : Nat) (w : World) (ht : t < 18446744073709551616) (hr : r < 4294967296) (hh : h < 4294967296) (hf : f < 4294967296) :
    Calls Try.prog 12 #[metaV t r h f] w fun e w' => e = .returned (mencV t r h f) ∧ Below w.heap.size w w' := by
  unfold mencV
  cases hR : mRightB t r h f with
  | true => exact rmencode_yes t r h f w ht hr hh hf hR
  | false => exact rmencode_no t r h f w hR

set_option maxRecDepth 100000 in
set_option maxHeartbeats 1000000 in
theorem rmdecode_size (s : ByteArray) (w : World) (hs : s.size ≤ maxLen) (h : s.size ≠ 64) :
    Calls Try.prog 16 #[.string s] w fun e w' => e = .returned (.tuple #[metaZ, .int .i64 40]) ∧ Below w.heap.size w w' := by
  unfold maxLen at hs
  have d0 : ((s.size : Int) == 64) = false := by simp; omega
  have d1 : ((s.size : Int) != 64) = true := by simp; omega
  clear h
  unfold metaZ
  go_enter Try.func16, Try.ntmps16
  go_wp2
  exact bodyPost_ret (v := .tuple #[.agg #[.int .u64 0, .int .u32 0, .int .u32 0, .int .u32 0], .int .i64 40]) (by simp [results, Try.results16, go_sem]) rfl ⟨rfl, bl_al (bl_re w) _⟩

set_option maxRecDepth 100000 in
set_option maxHeartbeats 4000000 in
theorem rmdecode_64 (s : ByteArray) (w : World) (hs : s.size = 64) :
    Calls Try.prog 16 #[.string s] w fun e w' => e = .returned (mdecV s.data.toList) ∧ Below w.heap.size w w' := by
  have hl : s.data.toList.length = 64 := by rw [ba_length]; exact hs
  have hn0 := fun w => rget_any (s.extract 0 8) w (by rw [ByteArray.size_extract]; omega)
  have hn1 := fun w => rget_any (s.extract 8 12) w (by rw [ByteArray.size_extract]; omega)
  have hn2 := fun w => rget_any (s.extract 12 16) w (by rw [ByteArray.size_extract]; omega)
  have hn3 := fun w => rget_any (s.extract 16 20) w (by rw [ByteArray.size_extract]; omega)
  rw [mext_list] at hn0 hn1 hn2 hn3
  have ht := mTx_lt s.data.toList
  have hr := mRoot_lt s.data.toList
  have hh := mHigh_lt s.data.toList
  have hf := mFree_lt s.data.toList
  have hdec : mDecB s.data.toList = (mRightB (mTx s.data.toList) (mRoot s.data.toList) (mHigh s.data.toList) (mFree s.data.toList) && decide (mEnc (mTx s.data.toList) (mRoot s.data.toList) (mHigh s.data.toList) (mFree s.data.toList) = s.data.toList)) := by
    unfold mDecB
    rw [decide_eq_true hl, Bool.true_and]
  unfold mdecV
  rw [hdec]
  change ∀ w, Calls _ _ _ w fun e w' => e = .returned (.int .u64 (mTx s.data.toList : Nat)) ∧ w = w' at hn0
  change ∀ w, Calls _ _ _ w fun e w' => e = .returned (.int .u64 (mRoot s.data.toList : Nat)) ∧ w = w' at hn1
  change ∀ w, Calls _ _ _ w fun e w' => e = .returned (.int .u64 (mHigh s.data.toList : Nat)) ∧ w = w' at hn2
  change ∀ w, Calls _ _ _ w fun e w' => e = .returned (.int .u64 (mFree s.data.toList : Nat)) ∧ w = w' at hn3
  clear hdec
  generalize mTx s.data.toList = t at *
  generalize mRoot s.data.toList = r at *
  generalize mHigh s.data.toList = h at *
  generalize mFree s.data.toList = f at *
  have HN0 := Lib.hid hn0
  have HN1 := Lib.hid hn1
  have HN2 := Lib.hid hn2
  have HN3 := Lib.hid hn3
  have HE : Hid (∀ W, Calls Try.prog 12 #[.agg #[.int .u64 (t : Int), .int .u32 (r : Int), .int .u32 (h : Int), .int .u32 (f : Int)]] W fun e w' => e = .returned (if mRightB t r h f = true then .tuple #[.string (mk (mEnc t r h f)), .int .i64 0] else .tuple #[.string (mk []), .int .i64 40]) ∧ Below W.heap.size W w') := Lib.hid (fun W => rmencode_any t r h f W ht hr hh hf)
  have e1 : IntKind.u32.wrap (r : Int) = r := IntWalk.u32_in _ (by omega)
  have e2 : IntKind.u32.wrap (h : Int) = h := IntWalk.u32_in _ (by omega)
  have e3 : IntKind.u32.wrap (f : Int) = f := IntWalk.u32_in _ (by omega)
  clear hl hn0 hn1 hn2 hn3 ht hr hh hf
  unfold metaZ metaV
  obtain ⟨R, hR⟩ : ∃ R : Value, (if (mRightB t r h f && decide (mEnc t r h f = s.data.toList)) = true then Value.tuple #[.agg #[.int .u64 (t : Int), .int .u32 (r : Int), .int .u32 (h : Int), .int .u32 (f : Int)], .int .i64 0] else .tuple #[.agg #[.int .u64 0, .int .u32 0, .int .u32 0, .int .u32 0], .int .i64 40]) = R := ⟨_, rfl⟩
  rw [hR]
  have HR := Lib.hid hR
  clear hR
  go_enter Try.func16, Try.ntmps16
  go_wp2
  go_upto_region 3 with fail
  go_cut [4] (fun s4 wx => s4 = .pointer (some ⟨w.heap.size + 1, 0, none⟩) ∧ Blk wx w.heap.size 25 #[.int .u64 0, .int .u32 0, .int .u32 0, .int .u32 0] ∧ Blk wx (w.heap.size + 1) 25 #[.int .u64 (t : Int), .int .u32 (r : Int), .int .u32 (h : Int), .int .u32 (f : Int)] ∧ Below w.heap.size w wx)
  case first =>
    go_region_held3 (fun w' => True) (first | go_keep | trivial)
      (first
        | (go_at_call 34; ((with_reducible refine (HN0.out _).mono ?_); rintro e w2 ⟨rfl, rfl⟩))
        | (go_at_call 34; ((with_reducible refine (HN1.out _).mono ?_); rintro e w3 ⟨rfl, rfl⟩))
        | (go_at_call 34; ((with_reducible refine (HN2.out _).mono ?_); rintro e w4 ⟨rfl, rfl⟩))
        | (go_at_call 34; ((with_reducible refine (HN3.out _).mono ?_); rintro e w5 ⟨rfl, rfl⟩)))
    all_goals (go_wp2_with fail; go_meet; exact ⟨rfl, meta_two w t r h f⟩)
  case rest =>
    obtain ⟨rfl, hz0, hp0, hb0⟩ := hcut
    have q0 : wc.cell? ⟨w.heap.size + 1, 0, none⟩ = some (.int .u64 (t : Int)) := hp0.cell 0
    have q1 : wc.cell? ⟨w.heap.size + 1, 1, none⟩ = some (.int .u32 (r : Int)) := hp0.cell 1
    have q2 : wc.cell? ⟨w.heap.size + 1, 2, none⟩ = some (.int .u32 (h : Int)) := hp0.cell 2
    have q3 : wc.cell? ⟨w.heap.size + 1, 3, none⟩ = some (.int .u32 (f : Int)) := hp0.cell 3
    have lz := hz0.lt
    have lp := hp0.lt
    have HZP := Lib.hid (And.intro hz0 (And.intro hp0 hb0))
    clear hz0 hp0 hb0
    go_wp2_with fail
    rcases Bool.eq_false_or_eq_true (mRightB t r h f) with hr | hr
    all_goals
      rw [hr] at HE
      have HRR := Lib.hid hr
      refine (HE.out _).mono ?_
      rintro e w5 ⟨rfl, hb5⟩
      have hz5 := HZP.out.1.below hb5 lz
      have hp5 := HZP.out.2.1.below hb5 lp
      have c0 : w5.cell? ⟨w.heap.size, 0, none⟩ = some (.int .u64 0) := hz5.cell 0
      have c1 : w5.cell? ⟨w.heap.size, 1, none⟩ = some (.int .u32 0) := hz5.cell 1
      have c2 : w5.cell? ⟨w.heap.size, 2, none⟩ = some (.int .u32 0) := hz5.cell 2
      have c3 : w5.cell? ⟨w.heap.size, 3, none⟩ = some (.int .u32 0) := hz5.cell 3
      have f0 := hz5.frozen 0
      have f1 := hz5.frozen 1
      have f2 := hz5.frozen 2
      have f3 := hz5.frozen 3
      have p0 : w5.cell? ⟨w.heap.size + 1, 0, none⟩ = some (.int .u64 (t : Int)) := hp5.cell 0
      have p1 : w5.cell? ⟨w.heap.size + 1, 1, none⟩ = some (.int .u32 (r : Int)) := hp5.cell 1
      have p2 : w5.cell? ⟨w.heap.size + 1, 2, none⟩ = some (.int .u32 (h : Int)) := hp5.cell 2
      have p3 : w5.cell? ⟨w.heap.size + 1, 3, none⟩ = some (.int .u32 (f : Int)) := hp5.cell 3
      have HB := Lib.hid (And.intro hz5 (bl_tr HZP.out.2.2 hb5))
      clear hz5 hp5 hb5 hr q0 q1 q2 q3
    · rw [if_pos rfl]
      by_cases he : mEnc t r h f = s.data.toList
      · obtain ⟨z, hz⟩ : ∃ z, mk (mEnc t r h f) = z := ⟨_, rfl⟩
        rw [hz]
        have hzb : (z.toList == s.toList) = true := by rw [beq_iff_eq, ← hz, ByteArray.toList_eq, ByteArray.toList_eq, mk_toList]; exact he
        have HEQ := Lib.hid he
        clear he hz
        go_wp2
        exact post_meta (v0 := .int .u64 (t : Int)) (v1 := .int .u32 (r : Int)) (v2 := .int .u32 (h : Int)) (v3 := .int .u32 (f : Int)) rfl HB.out.1 rfl rfl rfl ⟨by rw [← HR.out, if_pos (by rw [HRR.out, HEQ.out]; simp)]; rfl, below_mset4 HB.out.2 (Nat.le_refl _) _ _ _ _⟩
      · obtain ⟨z, hz⟩ : ∃ z, mk (mEnc t r h f) = z := ⟨_, rfl⟩
        rw [hz]
        have hzb : (z.toList == s.toList) = false := by rw [beq_eq_false_iff_ne, ← hz, ByteArray.toList_eq, ByteArray.toList_eq, mk_toList]; exact he
        have HEQ := Lib.hid he
        clear he hz
        go_wp2
        exact post_meta (v0 := .int .u64 0) (v1 := .int .u32 0) (v2 := .int .u32 0) (v3 := .int .u32 0) rfl HB.out.1 rfl rfl rfl ⟨by rw [← HR.out, if_neg (by rw [decide_eq_false HEQ.out]; simp)]; rfl, below_mset4 HB.out.2 (Nat.le_refl _) _ _ _ _⟩
    · rw [if_neg (by simp)]
      go_wp2
      exact post_meta (v0 := .int .u64 0) (v1 := .int .u32 0) (v2 := .int .u32 0) (v3 := .int .u32 0) rfl HB.out.1 rfl rfl rfl ⟨by rw [← HR.out, if_neg (by rw [HRR.out]; simp)]; rfl, below_mset4 HB.out.2 (Nat.le_refl _) _ _ _ _⟩

theorem rmdecode_any (s : ByteArray) (w : World) (hs : s.size ≤ maxLen) : Calls Try.prog 16 #[.string s] w fun e w' => e = .returned (mdecV s.data.toList) ∧ Below w.heap.size w w' := by
  by_cases h : s.size = 64
  · exact rmdecode_64 s w h
  · unfold mdecV
    rw [if_neg (by rw [mDecB_iff, ba_length]; exact fun x => h x.1)]
    exact rmdecode_size s w hs h
end Go.Proofs.Ytdaoiimjflplhaa
