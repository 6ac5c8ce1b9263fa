/- Decode of package meta: what each call returns, and that it leaves whatever lay as it lay. -/
import Derived.Test.YtdaoiimjflplhaaMetaE
import Derived.Deep.DeepCutAuto
namespace Go.Proofs.Ytdaoiimjflplhaa
open Go.RowKit Go.Shelf
set_option linter.unusedVariables false

def metaZ : Value := .agg #[.int .u64 0, .int .u32 0, .int .u32 0, .int .u32 0]
def mdecV (l : List UInt8) : Value := if mDecB l = true then .tuple #[metaV (mTx l) (mRoot l) (mHigh l) (mFree l), .int .i64 0] else .tuple #[metaZ, .int .i64 40]
theorem mext_list (s : ByteArray) (a b : Nat) : (s.extract a b).data.toList = (s.data.toList.take b).drop a := by
  rw [ByteArray.data_extract, Array.toList_extract, List.extract_eq_take_drop, List.drop_take]
theorem rowT_meta : RowT Try.prog 25 4 := ⟨_, Try.underlying25, rfl, by kernel_rfl⟩
/-- Four stores into a block of four cells. -/
def mset4 (w : World) (g : Nat) (v0 v1 v2 v3 : Value) : World := (((w.setCell ⟨g, 0, none⟩ v0).setCell ⟨g, 1, none⟩ v1).setCell ⟨g, 2, none⟩ v2).setCell ⟨g, 3, none⟩ v3
theorem Blk.mset4 {w : World} {g : Nat} {t : TypeId} {z0 z1 z2 z3 : Value} (h : Blk w g t #[z0, z1, z2, z3]) (v0 v1 v2 v3 : Value) : Blk (mset4 w g v0 v1 v2 v3) g t #[v0, v1, v2, v3] := by
  have h1 := (((h.set_ 0 v0).set_ 1 v1).set_ 2 v2).set_ 3 v3
  simp at h1
  exact h1
theorem below_mset4 {B : Nat} {a w : World} (h : Below B a w) {g : Nat} (hg : B ≤ g) (v0 v1 v2 v3 : Value) : Below B a (mset4 w g v0 v1 v2 v3) :=
  (((h.setCell (by exact hg) _).setCell (by exact hg) _).setCell (by exact hg) _).setCell (by exact hg) _
theorem post_meta {fn : Func} {p q : Tmp} {R : Ending → World → Prop} {a : Act} {w1 : World} {g : Nat} {t : TypeId} {z0 z1 z2 z3 v0 v1 v2 v3 v : Value} (h : fn.results = #[.cell p 25, .tmp q]) (hB : Blk w1 g t #[z0, z1, z2, z3]) (hd : a.defers = [])
    (hp : a.tmps.getD p undef = .pointer (some ⟨g, 0, none⟩)) (hq : a.tmps.getD q undef = v) (hR : R (.returned (.tuple #[.agg #[v0, v1, v2, v3], v])) (mset4 w1 g v0 v1 v2 v3)) : bodyPost Try.prog fn R .ret a (mset4 w1 g v0 v1 v2 v3) := by
  obtain ⟨d, hu, hdd, hi⟩ := rowT_meta
  have hc : (mset4 w1 g v0 v1 v2 v3).rangeAt g 0 [v0, v1, v2, v3] := rangeAt_row (hB.mset4 v0 v1 v2 v3) _ fun j v hj => by simpa using hj
  have hp' : a.tmps[p]?.getD undef = .pointer (some ⟨g, 0, none⟩) := by simpa using hp
  have hq' : a.tmps[q]?.getD undef = v := by simpa using hq
  refine bodyPost_ret (v := .tuple #[.agg #[v0, v1, v2, v3], v]) ?_ hd hR
  simp [results, h, hp', hq', asAddr, run_loadVar_mid _ g 0 _ [v0, v1, v2, v3] d hc hu hdd hi]

theorem mwp_scope_jump1 {P : Program} {Q : Exit → Act → World → Prop} {a : Act} {w : World} {c rest : Code} (l : Nat) (A : Act) (W : World) (hf : findLabel c l = some rest)
    (first : c.wp P (Exit.jump l (fun a' w' => a' = A ∧ w' = W) Q) a w)
    (pass : rest.wp P (Exit.jump l (fun _ _ => False) Q) A W) : (Code.scope c).wp P Q a w := by
  refine wp_scope_jumps l (fun a' w' => a' = A ∧ w' = W) (fun _ _ => 0) hf first ?_
  rintro a' w' ⟨rfl, rfl⟩
  refine Code.wp_mono (fun e a w h => ?_) pass
  cases e <;> first | exact h | exact ⟨h.1, h.2.elim⟩

set_option maxRecDepth 100000 in
set_option maxHeartbeats 1000000 in
theorem mdecode_size (s : ByteArray) (w : World) (hs : s.size ≤ maxLen) (h : s.size ≠ 64) :
    Calls Try.prog 15 #[.string s] w fun e w' => e = .returned (.tuple #[metaZ, .int .i64 40]) ∧ Below w.heap.size w w' := by
  unfold maxLen at hs
  have d0 : ((s.size : Int) == 64) = false := by simp; omega
  have d1 : ((s.size : Int) != 64) = true := by simp; omega
  have hB := Blk.new w 25 #[.int .u64 0, .int .u32 0, .int .u32 0, .int .u32 0]
  have HB := Lib.hid hB
  clear h hB
  unfold metaZ
  go_enter Try.func15, Try.ntmps15
  go_wp2
  apply mwp_scope_jump1 0 _ _ rfl
  · go_wp2
    refine wp_goto ?_
    exact ⟨rfl, rfl, rfl⟩
  · go_wp2
    rw [jump_ret]
    exact bodyPost_ret (v := .tuple #[.agg #[.int .u64 0, .int .u32 0, .int .u32 0, .int .u32 0], .int .i64 40]) (by simp [results, Try.results15, go_sem]) rfl ⟨rfl, bl_al (bl_al (bl_re w) _) _⟩

theorem meta_two (w : World) (t r h f : Nat) :
    Blk ((w.alloc (.cells #[.int .u64 0, .int .u32 0, .int .u32 0, .int .u32 0] 25)).alloc (.cells #[.int .u64 (t : Int), .int .u32 (r : Int), .int .u32 (h : Int), .int .u32 (f : Int)] 25)).drew w.heap.size 25 #[.int .u64 0, .int .u32 0, .int .u32 0, .int .u32 0] ∧
    Blk ((w.alloc (.cells #[.int .u64 0, .int .u32 0, .int .u32 0, .int .u32 0] 25)).alloc (.cells #[.int .u64 (t : Int), .int .u32 (r : Int), .int .u32 (h : Int), .int .u32 (f : Int)] 25)).drew (w.heap.size + 1) 25 #[.int .u64 (t : Int), .int .u32 (r : Int), .int .u32 (h : Int), .int .u32 (f : Int)] ∧
    Below w.heap.size w ((w.alloc (.cells #[.int .u64 0, .int .u32 0, .int .u32 0, .int .u32 0] 25)).alloc (.cells #[.int .u64 (t : Int), .int .u32 (r : Int), .int .u32 (h : Int), .int .u32 (f : Int)] 25)).drew := by
  have h1 := Blk.new (w.alloc (.cells #[.int .u64 0, .int .u32 0, .int .u32 0, .int .u32 0] 25)) 25 #[.int .u64 (t : Int), .int .u32 (r : Int), .int .u32 (h : Int), .int .u32 (f : Int)]
  rw [World.size_alloc] at h1
  exact ⟨((Blk.new w _ _).alloc _).drew, h1.drew, bl_dr (bl_al (bl_al (bl_re w) _) _)⟩

set_option maxRecDepth 100000 in
set_option maxHeartbeats 4000000 in
theorem mdecode_64 (s : ByteArray) (w : World) (hs : s.size = 64) :
    Calls Try.prog 15 #[.string s] w fun e w' => e = .returned (mdecV s.data.toList) ∧ Below w.heap.size w w' := by
  have hl : s.data.toList.length = 64 := by rw [ba_length]; exact hs
  have hn0 := fun w => mnumber_any (s.extract 0 8) w (by rw [ByteArray.size_extract]; omega)
  have hn1 := fun w => mnumber_any (s.extract 8 12) w (by rw [ByteArray.size_extract]; omega)
  have hn2 := fun w => mnumber_any (s.extract 12 16) w (by rw [ByteArray.size_extract]; omega)
  have hn3 := fun w => mnumber_any (s.extract 16 20) w (by rw [ByteArray.size_extract]; omega)
  rw [mext_list] at hn0 hn1 hn2 hn3
  have ht := mTx_lt s.data.toList
  have hr := mRoot_lt s.data.toList
  have hh := mHigh_lt s.data.toList
  have hf := mFree_lt s.data.toList
  have hdec : mDecB s.data.toList = (mRightB (mTx s.data.toList) (mRoot s.data.toList) (mHigh s.data.toList) (mFree s.data.toList) && decide (mEnc (mTx s.data.toList) (mRoot s.data.toList) (mHigh s.data.toList) (mFree s.data.toList) = s.data.toList)) := by
    unfold mDecB
    rw [decide_eq_true hl, Bool.true_and]
  unfold mdecV
  rw [hdec]
  change ∀ w, Calls _ _ _ w fun e w' => e = .returned (.int .u64 (mTx s.data.toList : Nat)) ∧ w = w' at hn0
  change ∀ w, Calls _ _ _ w fun e w' => e = .returned (.int .u64 (mRoot s.data.toList : Nat)) ∧ w = w' at hn1
  change ∀ w, Calls _ _ _ w fun e w' => e = .returned (.int .u64 (mHigh s.data.toList : Nat)) ∧ w = w' at hn2
  change ∀ w, Calls _ _ _ w fun e w' => e = .returned (.int .u64 (mFree s.data.toList : Nat)) ∧ w = w' at hn3
  clear hdec
  generalize mTx s.data.toList = t at *
  generalize mRoot s.data.toList = r at *
  generalize mHigh s.data.toList = h at *
  generalize mFree s.data.toList = f at *
  have HN0 := Lib.hid hn0
  have HN1 := Lib.hid hn1
  have HN2 := Lib.hid hn2
  have HN3 := Lib.hid hn3
  have HE : Hid (∀ W, Calls Try.prog 11 #[.agg #[.int .u64 (t : Int), .int .u32 (r : Int), .int .u32 (h : Int), .int .u32 (f : Int)]] W fun e w' => e = .returned (if mRightB t r h f = true then .tuple #[.string (mk (mEnc t r h f)), .int .i64 0] else .tuple #[.string (mk []), .int .i64 40]) ∧ Below W.heap.size W w') := Lib.hid (fun W => mencode_any t r h f W ht hr hh hf)
  have e1 : IntKind.u32.wrap (r : Int) = r := IntWalk.u32_in _ (by omega)
  have e2 : IntKind.u32.wrap (h : Int) = h := IntWalk.u32_in _ (by omega)
  have e3 : IntKind.u32.wrap (f : Int) = f := IntWalk.u32_in _ (by omega)
  clear hl hn0 hn1 hn2 hn3 ht hr hh hf
  unfold metaZ metaV
  obtain ⟨R, hR⟩ : ∃ R : Value, (if (mRightB t r h f && decide (mEnc t r h f = s.data.toList)) = true then Value.tuple #[.agg #[.int .u64 (t : Int), .int .u32 (r : Int), .int .u32 (h : Int), .int .u32 (f : Int)], .int .i64 0] else .tuple #[.agg #[.int .u64 0, .int .u32 0, .int .u32 0, .int .u32 0], .int .i64 40]) = R := ⟨_, rfl⟩
  rw [hR]
  have HR := Lib.hid hR
  clear hR
  go_enter Try.func15, Try.ntmps15
  go_wp2
  refine wp_scope_straight ?_
  go_upto_region 3 with fail
  go_cut [12] (fun s12 wx => Blk wx w.heap.size 25 #[.int .u64 0, .int .u32 0, .int .u32 0, .int .u32 0] ∧ Blk wx (w.heap.size + 1) 25 #[.int .u64 (t : Int), .int .u32 (r : Int), .int .u32 (h : Int), .int .u32 (f : Int)] ∧ Below w.heap.size w wx)
  case first =>
    go_region_held3 (fun w' => True) (first | go_keep | trivial)
      (first
        | (go_at_call 33; ((with_reducible refine (HN0.out _).mono ?_); rintro e w2 ⟨rfl, rfl⟩))
        | (go_at_call 33; ((with_reducible refine (HN1.out _).mono ?_); rintro e w3 ⟨rfl, rfl⟩))
        | (go_at_call 33; ((with_reducible refine (HN2.out _).mono ?_); rintro e w4 ⟨rfl, rfl⟩))
        | (go_at_call 33; ((with_reducible refine (HN3.out _).mono ?_); rintro e w5 ⟨rfl, rfl⟩)))
    all_goals (go_wp2_with fail; go_meet; exact meta_two w t r h f)
  case rest =>
    obtain ⟨hz0, hp0, hb0⟩ := hcut
    have q0 : wc.cell? ⟨w.heap.size + 1, 0, none⟩ = some (.int .u64 (t : Int)) := hp0.cell 0
    have q1 : wc.cell? ⟨w.heap.size + 1, 1, none⟩ = some (.int .u32 (r : Int)) := hp0.cell 1
    have q2 : wc.cell? ⟨w.heap.size + 1, 2, none⟩ = some (.int .u32 (h : Int)) := hp0.cell 2
    have q3 : wc.cell? ⟨w.heap.size + 1, 3, none⟩ = some (.int .u32 (f : Int)) := hp0.cell 3
    have lz := hz0.lt
    have lp := hp0.lt
    have HZP := Lib.hid (And.intro hz0 (And.intro hp0 hb0))
    clear hz0 hp0 hb0
    go_wp2_with fail
    rcases Bool.eq_false_or_eq_true (mRightB t r h f) with hr | hr
    all_goals
      rw [hr] at HE
      have HRR := Lib.hid hr
      refine (HE.out _).mono ?_
      rintro e w5 ⟨rfl, hb5⟩
      have hz5 := HZP.out.1.below hb5 lz
      have hp5 := HZP.out.2.1.below hb5 lp
      have c0 : w5.cell? ⟨w.heap.size, 0, none⟩ = some (.int .u64 0) := hz5.cell 0
      have c1 : w5.cell? ⟨w.heap.size, 1, none⟩ = some (.int .u32 0) := hz5.cell 1
      have c2 : w5.cell? ⟨w.heap.size, 2, none⟩ = some (.int .u32 0) := hz5.cell 2
      have c3 : w5.cell? ⟨w.heap.size, 3, none⟩ = some (.int .u32 0) := hz5.cell 3
      have f0 := hz5.frozen 0
      have f1 := hz5.frozen 1
      have f2 := hz5.frozen 2
      have f3 := hz5.frozen 3
      have p0 : w5.cell? ⟨w.heap.size + 1, 0, none⟩ = some (.int .u64 (t : Int)) := hp5.cell 0
      have p1 : w5.cell? ⟨w.heap.size + 1, 1, none⟩ = some (.int .u32 (r : Int)) := hp5.cell 1
      have p2 : w5.cell? ⟨w.heap.size + 1, 2, none⟩ = some (.int .u32 (h : Int)) := hp5.cell 2
      have p3 : w5.cell? ⟨w.heap.size + 1, 3, none⟩ = some (.int .u32 (f : Int)) := hp5.cell 3
      have HB := Lib.hid (And.intro hz5 (bl_tr HZP.out.2.2 hb5))
      clear hz5 hp5 hb5 hr q0 q1 q2 q3
    · rw [if_pos rfl]
      by_cases he : mEnc t r h f = s.data.toList
      · obtain ⟨z, hz⟩ : ∃ z, mk (mEnc t r h f) = z := ⟨_, rfl⟩
        rw [hz]
        have hzb : (z.toList == s.toList) = true := by rw [beq_iff_eq, ← hz, ByteArray.toList_eq, ByteArray.toList_eq, mk_toList]; exact he
        have HEQ := Lib.hid he
        clear he hz
        go_wp2
        rw [Exit.noGoto_ret]
        exact post_meta (v0 := .int .u64 (t : Int)) (v1 := .int .u32 (r : Int)) (v2 := .int .u32 (h : Int)) (v3 := .int .u32 (f : Int)) rfl HB.out.1 rfl rfl rfl ⟨by rw [← HR.out, if_pos (by rw [HRR.out, HEQ.out]; simp)]; rfl, below_mset4 HB.out.2 (Nat.le_refl _) _ _ _ _⟩
      · obtain ⟨z, hz⟩ : ∃ z, mk (mEnc t r h f) = z := ⟨_, rfl⟩
        rw [hz]
        have hzb : (z.toList == s.toList) = false := by rw [beq_eq_false_iff_ne, ← hz, ByteArray.toList_eq, ByteArray.toList_eq, mk_toList]; exact he
        have HEQ := Lib.hid he
        clear he hz
        go_wp2
        refine wp_label ?_
        go_wp2
        rw [Exit.noGoto_ret]
        exact post_meta (v0 := .int .u64 0) (v1 := .int .u32 0) (v2 := .int .u32 0) (v3 := .int .u32 0) rfl HB.out.1 rfl rfl rfl ⟨by rw [← HR.out, if_neg (by rw [decide_eq_false HEQ.out]; simp)]; rfl, below_mset4 HB.out.2 (Nat.le_refl _) _ _ _ _⟩
    · rw [if_neg (by simp)]
      go_wp2
      refine wp_label ?_
      go_wp2
      rw [Exit.noGoto_ret]
      exact post_meta (v0 := .int .u64 0) (v1 := .int .u32 0) (v2 := .int .u32 0) (v3 := .int .u32 0) rfl HB.out.1 rfl rfl rfl ⟨by rw [← HR.out, if_neg (by rw [HRR.out]; simp)]; rfl, below_mset4 HB.out.2 (Nat.le_refl _) _ _ _ _⟩

theorem mdecode_any (s : ByteArray) (w : World) (hs : s.size ≤ maxLen) : Calls Try.prog 15 #[.string s] w fun e w' => e = .returned (mdecV s.data.toList) ∧ Below w.heap.size w w' := by
  by_cases h : s.size = 64
  · exact mdecode_64 s w h
  · unfold mdecV
    rw [if_neg (by rw [mDecB_iff, ba_length]; exact fun x => h x.1)]
    exact mdecode_size s w hs h
end Go.Proofs.Ytdaoiimjflplhaa
