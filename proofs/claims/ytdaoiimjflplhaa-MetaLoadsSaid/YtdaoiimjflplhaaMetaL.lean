/- Store and the iterator held of package meta. -/
import Derived.Test.YtdaoiimjflplhaaMetaD
import Derived.Test.YtdaoiimjflplhaaDiskG
import Derived.Test.YtdaoiimjflplhaaDiskU
import Derived.Test.YtdaoiimjflplhaaFrom
import Derived.Laws.StructEq
namespace Go.Proofs.Ytdaoiimjflplhaa
open Go.RowKit Go.Shelf
set_option linter.unusedVariables false
attribute [local go_sem] Oper.semAt_some

/-- A meta's four numbers. -/
abbrev M4 := Nat × Nat × Nat × Nat
def m4V (q : M4) : Value := metaV q.1 q.2.1 q.2.2.1 q.2.2.2
def mdec4 (l : List UInt8) : M4 := if mDecB l = true then (mTx l, mRoot l, mHigh l, mFree l) else (0, 0, 0, 0)
theorem mdecV_four (l : List UInt8) : ∃ x : Int, mdecV l = .tuple #[m4V (mdec4 l), .int .i64 x] := by
  unfold mdecV mdec4
  by_cases h : mDecB l = true
  · rw [if_pos h, if_pos h]; exact ⟨0, rfl⟩
  · rw [if_neg h, if_neg h]; exact ⟨40, rfl⟩
theorem mdec4_lt (l : List UInt8) : (mdec4 l).1 < 18446744073709551616 := by
  unfold mdec4
  split
  · exact mTx_lt l
  · decide
/-- What a sector of the two holds. -/
def Dk.hm (D : Dk) (k : Nat) : M4 := if (mdec4 (D.rd (4 * k))).1 % 2 = k then mdec4 (D.rd (4 * k)) else (0, 0, 0, 0)
def Dk.mstore (D : Dk) (t r h f : Nat) : Int × Dk := if mRightB t r h f = true then D.write (4 * ((t : Int) % 2)) (mEnc t r h f) else (40, D)

set_option maxRecDepth 100000 in
set_option maxHeartbeats 2000000 in
theorem mstore_any (S : Nat → Prop) (g : Nat) (D : Dk) (t r h f : Nat) (w : World) (hD : Held S w g D) (ht : t < 18446744073709551616) (hr : r < 4294967296) (hh : h < 4294967296) (hf : f < 4294967296) (hU : D.U.length < 1000000) (hN : D.N < 1000000) (hS : ∀ k, w.heap.size ≤ k → S k) :
    Calls Try.prog 19 #[.pointer (some ⟨g, 0, none⟩), metaV t r h f] w fun e w' => e = .returned (.int .i64 (D.mstore t r h f).1) ∧ Held S w' g (D.mstore t r h f).2 ∧ Chg S w w' := by
  have HE := Lib.hid (fun W => mencode_any t r h f W ht hr hh hf)
  have hB := Blk.new w 25 #[.int .u64 (t : Int), .int .u32 (r : Int), .int .u32 (h : Int), .int .u32 (f : Int)]
  have HB := Lib.hid hB
  have HD := Lib.hid hD
  have HS := Lib.hid hS
  unfold mencV metaV at HE
  unfold metaV
  cases hR : mRightB t r h f with
  | false =>
    have e : D.mstore t r h f = (40, D) := by unfold Dk.mstore; rw [if_neg (by rw [hR]; simp)]
    rw [e]
    rw [if_neg (by rw [hR]; simp)] at HE
    clear hB hD hS ht hr hh hf hU hN hR e
    go_enter Try.func19, Try.ntmps19
    go_wp2_with fail
    refine (HE.out _).mono ?_
    rintro e w1 ⟨rfl, hb1⟩
    go_wp2
    go_ret
    have hb := bl_tr (bl_al (bl_re w) _) hb1
    exact ⟨rfl, HD.out.below hb, Chg.ofNew hb⟩
  | true =>
    have e : D.mstore t r h f = D.write (4 * ((t : Int) % 2)) (mEnc t r h f) := by unfold Dk.mstore; rw [if_pos hR]
    rw [e]
    rw [if_pos hR] at HE
    have hl := mEnc_length t r h f
    obtain ⟨z, hz⟩ : ∃ z, mk (mEnc t r h f) = z := ⟨_, rfl⟩
    have hzl : z.data.toList = mEnc t r h f := by rw [← hz, mk_toList]
    have hzs : z.size = 64 := by rw [← ba_length, hzl, hl]
    rw [hz] at HE
    rw [← hzl]
    have HZ := Lib.hid hzs
    have HUN := Lib.hid (And.intro hU hN)
    have e1 : IntKind.i64.wrap ((t % 2 : Nat) : Int) = (t % 2 : Nat) := IntWalk.i64_in _ (by omega)
    have e2 : IntKind.i64.wrap (4 * ((t % 2 : Nat) : Int)) = 4 * ((t % 2 : Nat) : Int) := IntWalk.i64_in _ (by omega)
    clear hB hD hS ht hr hh hf hU hN hR e hz hzl hzs hl
    go_enter Try.func19, Try.ntmps19
    go_wp2_with fail
    refine (HE.out _).mono ?_
    rintro e w1 ⟨rfl, hb1⟩
    have hb := Lib.hid (bl_tr (bl_al (bl_re w) _) hb1)
    have b1 := HB.out.below hb1 (by simp)
    have c0 : w1.cell? ⟨w.heap.size, 0, none⟩ = some (.int .u64 (t : Int)) := b1.cell 0
    clear b1 hb1
    go_wp2_with fail
    refine (write_any S g D (4 * ((t : Int) % 2)) z w1 (HD.out.below hb.out) (by omega) (by rw [HZ.out]; unfold maxLen; omega) HUN.out.1 HUN.out.2 (fun k hk => HS.out k (Nat.le_trans hb.out.size hk))).mono ?_
    rintro e w2 ⟨rfl, hd2, hc2⟩
    go_wp2
    go_ret
    exact ⟨rfl, hd2, (Chg.ofNew hb.out).trans hc2⟩

set_option maxRecDepth 100000 in
set_option maxHeartbeats 1000000 in
theorem mheld_any (g : Nat) (w : World) :
    Calls Try.prog 38 #[.pointer (some ⟨g, 0, none⟩)] w fun e w' => e = .returned (.func (.func 49) #[] #[.pointer (some ⟨w.heap.size, 0, none⟩)]) ∧
      w' = w.alloc (.cells #[.pointer (some ⟨g, 0, none⟩)] 36) := by
  go_enter Try.func38, Try.ntmps38
  go_wp2
  go_ret
  exact ⟨rfl, rfl⟩

set_option maxRecDepth 100000 in
set_option maxHeartbeats 4000000 in
theorem held1_in (m l Bd g : Nat) (D : Dk) (S' : Nat → Prop) (hl : 4 < D.S.length) (J : Nat → World → Prop)
    (hJ : ∀ k W, J k W → W.cell? ⟨Bd, 0, none⟩ = some (.pointer (some ⟨g, 0, none⟩)) ∧ Held S' W g D)
    (hJb : ∀ k W W', J k W → Below W.heap.size W W' → J k W')
    (hY : ∀ k W, k < 2 → J k W → YieldAt Fence.wide (m - 1) Try.prog l #[m4V (D.hm k), .int .i64 0] W fun e W' => e = .returned (.bool true) ∧ J (k + 1) W')
    (W : World) (h0 : J 0 W) :
    CallsIn Fence.wide m Try.prog 49 #[.func (.yield l) #[] #[], .pointer (some ⟨Bd, 0, none⟩)] W fun e W' => (∃ v, e = .returned v) ∧ J 2 W' := by
  have HY := Lib.hid hY
  have HJ := Lib.hid hJ
  have HJB := Lib.hid hJb
  have HL := Lib.hid hl
  clear hY hJ hJb hl
  refine callsIn_of_wp Try.func49 rfl trivial ?_ rfl
  simp only [Try.ntmps49, List.size_toArray, List.length_cons, List.length_nil, Nat.reduceAdd, Nat.reduceSub, Array.replicate_succ, Array.replicate_zero, List.push_toArray, List.append_toArray, List.nil_append, List.cons_append]
  gi_wp2
  gi_loopw [8] (fun i wr => ∃ k : Nat, k ≤ 2 ∧ i = .int .i64 k ∧ J k wr) (fun i _ => 2 - (intOf i).toNat)
  case atStart => exact ⟨0, Nat.zero_le _, rfl, h0⟩
  case round =>
    obtain ⟨k, hk, rfl, hJk⟩ := hrel
    clear h0
    by_cases hlt : k < 2
    · have c0 := (HJ.out k _ hJk).1
      have hrd := read_ok S' g D (4 * k) wr (HJ.out k _ hJk).2 (by have := HL.out; omega)
      rw [show ((4 * k : Nat) : Int) = 4 * (k : Int) by omega] at hrd
      have hln : (D.rd (4 * k)).length = 64 := by
        unfold Dk.rd
        refine over_length (4 * k) D.U _ ?_ fun p hp => ((HJ.out k _ hJk).2.ok.uns p hp).1
        rw [List.getElem?_eq_getElem (by have := HL.out; omega)]
        exact (HJ.out k _ hJk).2.ok.sec _ (List.getElem_mem _)
      have hdec := fun W => mdecode_any (mk (D.rd (4 * k))) W (by rw [mk_size, hln]; unfold maxLen; omega)
      rw [mk_toList] at hdec
      obtain ⟨x, hx⟩ := mdecV_four (D.rd (4 * k))
      have hq := mdec4_lt (D.rd (4 * k))
      rw [hx] at hdec
      have hhm : D.hm k = if (mdec4 (D.rd (4 * k))).1 % 2 = k then mdec4 (D.rd (4 * k)) else (0, 0, 0, 0) := rfl
      obtain ⟨⟨a, b, c, d⟩, hq4⟩ : ∃ q, mdec4 (D.rd (4 * k)) = q := ⟨_, rfl⟩
      rw [hq4] at hdec hq hhm
      obtain ⟨z, hz⟩ : ∃ z, mk (D.rd (4 * k)) = z := ⟨_, rfl⟩
      rw [hz] at hdec hrd
      unfold m4V metaV at hdec
      dsimp only at hdec hhm hq
      have HRD := Lib.hid hrd
      have HDE := Lib.hid hdec
      have HHM := Lib.hid hhm
      have HJk := Lib.hid hJk
      have i0 : (0 : Int) ≤ (k : Int) := Int.natCast_nonneg _
      have i1 : (k : Int) < 2 := by omega
      have i2 : IntKind.u64.wrap (k : Int) = k := IntWalk.u64_in _ (by omega)
      clear hrd hdec hhm hJk hx hq4 hz hq hln
      gi_wp2_with fail
      refine ⟨trivial, fun h => (by cases h), (callsIn_wide.2 HRD.out).mono ?_⟩
      rintro e w1 ⟨rfl, hb1⟩
      have B1 := Lib.hid hb1
      clear hb1
      gi_wp2_with fail
      refine ⟨trivial, fun h => (by cases h), (callsIn_wide.2 (HDE.out _)).mono ?_⟩
      rintro e w2 ⟨rfl, hb2⟩
      have B2 := Lib.hid (bl_tr B1.out hb2)
      clear hb2
      by_cases hak : a % 2 = k
      · have d1 : ((a : Int) % 2 != (k : Int)) = false := by simp; omega
        rw [if_pos hak] at HHM
        have HAK := Lib.hid hak
        clear hak
        have hyy := HY.out k (w2.alloc (.cells #[.int .u64 (a : Int), .int .u32 (b : Int), .int .u32 (c : Int), .int .u32 (d : Int)] 25)) hlt (HJB.out k _ _ HJk.out (bl_al B2.out _))
        rw [HHM.out] at hyy
        unfold m4V metaV at hyy
        dsimp only at hyy
        have HYY := Lib.hid hyy
        clear hyy
        gi_wp2_with fail
        obtain ⟨fn, tmps, assign, body, hy, hR⟩ := HYY.out
        clear HYY
        rw [hy, Oper.uponIn_round]
        refine ⟨fun h => (by cases h), hR.mono ?_⟩
        clear hy
        rintro e W3 ⟨rfl, hJ3⟩
        gi_wp2
        go_roundw
        case rel => exact ⟨k + 1, by omega, by go_num, hJ3⟩
        case measure => simp [intOf]; omega
      · have d1 : ((a : Int) % 2 != (k : Int)) = true := by simp; omega
        rw [if_neg hak] at HHM
        have HAK := Lib.hid hak
        clear hak
        have hyy := HY.out k (w2.alloc (.cells #[.int .u64 ((0 : Nat) : Int), .int .u32 ((0 : Nat) : Int), .int .u32 ((0 : Nat) : Int), .int .u32 ((0 : Nat) : Int)] 25)) hlt (HJB.out k _ _ HJk.out (bl_al B2.out _))
        rw [HHM.out] at hyy
        unfold m4V metaV at hyy
        dsimp only at hyy
        rw [show ((0 : Nat) : Int) = 0 from rfl] at hyy
        have HYY := Lib.hid hyy
        clear hyy
        gi_wp2_with fail
        obtain ⟨fn, tmps, assign, body, hy, hR⟩ := HYY.out
        clear HYY
        rw [hy, Oper.uponIn_round]
        refine ⟨fun h => (by cases h), hR.mono ?_⟩
        clear hy
        rintro e W3 ⟨rfl, hJ3⟩
        gi_wp2
        go_roundw
        case rel => exact ⟨k + 1, by omega, by go_num, hJ3⟩
        case measure => simp [intOf]; omega
    · obtain rfl : k = 2 := by omega
      have i1 : ¬ ((2 : Nat) : Int) < 2 := by omega
      gi_wp2
      go_end0
      exact ⟨⟨_, rfl⟩, hJk⟩

theorem rf_held {gop : Operand} {p1 p2 : Tmp} {assign body : Code} {Q : Exit → Act → World → Prop} {a : Act} {w0 : World} {Bd g : Nat} {D : Dk} {S' : Nat → Prop} (hl : 4 < D.S.length) (M : Nat) (hM : w0.heap.size = M)
    (hg : a.eval gop = .func (.func 49) #[] #[.pointer (some ⟨Bd, 0, none⟩)])
    (I : Nat → World → Prop) (hI : ∀ k W, I k W → W.cell? ⟨Bd, 0, none⟩ = some (.pointer (some ⟨g, 0, none⟩)) ∧ Held S' W g D) (hIb : ∀ k W W', I k W → Below W.heap.size W W' → I k W') (hIp : ∀ k W o, I k W → I k (W.putObj (M + 1) o)) (h0 : I 0 w0)
    (round : ∀ k W x y z, k < 2 → I k W → W.heap[M]? = some x → W.heap[M + 1]? = some y → M + 1 < W.heap.size →
      assign.wpIn (Fence.wide.inRound (M + 1)) 7 Try.prog (Exit.then (fun a₁ W₁ => W₁.heap[M + 1]? = some y ∧
        body.wpIn (Fence.wide.inRound (M + 1)) 7 Try.prog (fun e _ W₂ => e = .normal ∧ I (k + 1) W₂ ∧ W₂.heap[M]? = some x ∧ W₂.heap[M + 1]? = some z) a₁ (W₁.putObj (M + 1) z)) (fun _ _ _ => False))
        { tmps := (a.tmps.setIfInBounds p1 (m4V (D.hm k))).setIfInBounds p2 (.int .i64 0), defers := [] } W)
    (fin : ∀ W, I 2 W → W.heap[M]? = some (.deferred (some [])) → Q .normal { a with defers := { target := .collected M, args := #[] } :: a.defers } W) :
    (Code.rangeFunc gop #[p1, p2] assign body).wpIn Fence.wide 9 Try.prog Q a w0 := by
  subst hM
  refine wpIn_rf rfl (fun h => by cases h) hg trivial (enters_of Try.func49 (by kernel_rfl) rfl) ?_
  intro fn rec _ hrec
  refine (held1_in (9 - 1) (w0.heap.size + 1) Bd g D S' hl
    (fun k W => I k W ∧ W.heap[w0.heap.size + 1]? = some (rec .ready none) ∧ W.heap[w0.heap.size]? = some (.deferred (some []))) ?_ ?_ ?_ _ ?_).mono ?_
  · exact fun k W h => hI k W h.1
  · exact fun k W W' h hb => ⟨hIb k W W' h.1 hb, (hb.block _ (Array.getElem?_eq_some_iff.1 h.2.1).1).trans h.2.1, (hb.block _ (Array.getElem?_eq_some_iff.1 h.2.2).1).trans h.2.2⟩
  · rintro k W hk ⟨j1, j2, j3⟩
    refine yieldAt_of hrec trivial j2 rfl ?_
    have hz : (#[p1, p2].zip #[m4V (D.hm k), Value.int .i64 0]).foldl (fun t (x : Tmp × Value) => t.setIfInBounds x.1 x.2) a.tmps = (a.tmps.setIfInBounds p1 (m4V (D.hm k))).setIfInBounds p2 (.int .i64 0) := by simp
    rw [hz]
    refine wpIn_mono (round k W _ _ (rec .busy none) hk j1 j3 j2 (Array.getElem?_eq_some_iff.1 j2).1) ?_
    rintro e a₁ W₁ he
    cases e with
    | normal =>
      refine ⟨he.1, wpIn_mono he.2 ?_⟩
      rintro e a₂ W₂ ⟨rfl, i1, i2, i3⟩
      exact ⟨i3, rfl, hIp _ _ _ i1, World.putObj_heap_same (Array.getElem?_eq_some_iff.1 i3).1, (World.putObj_heap_other (by omega)).trans i2⟩
    | exit id => exact he.elim
    | goto t => exact he.elim
    | ret => exact he.elim
    | panic _ => exact he.elim
    | outgrown => exact he.elim
  · refine ⟨hIb _ _ _ (hIb _ _ _ h0 (bl_al (bl_re _) _)) (bl_al (bl_re _) _), ?_, (Below.heap_alloc _ _ _ (by simp)).trans (World.alloc_heap_new _ _)⟩
    rw [← World.size_alloc w0 (.deferred (some []))]
    exact World.alloc_heap_new _ _
  · rintro e W ⟨he, j1, j2, j3⟩
    refine ⟨he, .ready, none, by simp, j2, ?_⟩
    exact fin _ (hIp _ _ _ j1) ((World.putObj_heap_other (by omega)).trans j3)
end Go.Proofs.Ytdaoiimjflplhaa
