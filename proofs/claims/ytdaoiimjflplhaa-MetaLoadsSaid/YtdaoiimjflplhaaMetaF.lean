/- Load of package meta on a disk of one to four sectors: the second sector is none, the loop is left. -/
import Derived.Test.YtdaoiimjflplhaaMetaR
namespace Go.Proofs.Ytdaoiimjflplhaa
open Go.RowKit Go.Shelf
set_option linter.unusedVariables false
attribute [local go_sem] Oper.semAt_some

theorem mdec4_nil : mdec4 [] = (0, 0, 0, 0) := by
  unfold mdec4
  rw [if_neg]
  intro h
  have : mDecB [] = false := by decide +kernel
  rw [this] at h
  cases h

set_option maxRecDepth 100000 in
set_option maxHeartbeats 4000000 in
theorem held1_few (m l Bd g : Nat) (D : Dk) (S' : Nat → Prop) (hl : 1 ≤ D.S.length) (hl4 : D.S.length ≤ 4) (J0 J1 J2 : World → Prop)
    (hJ0 : ∀ W, J0 W → W.cell? ⟨Bd, 0, none⟩ = some (.pointer (some ⟨g, 0, none⟩)) ∧ Held S' W g D)
    (hJ1 : ∀ W, J1 W → W.cell? ⟨Bd, 0, none⟩ = some (.pointer (some ⟨g, 0, none⟩)) ∧ Held S' W g D)
    (hb0 : ∀ W W', J0 W → Below W.heap.size W W' → J0 W') (hb1 : ∀ W W', J1 W → Below W.heap.size W W' → J1 W')
    (hY0 : ∀ W, J0 W → YieldAt Fence.wide (m - 1) Try.prog l #[m4V (D.hm 0), .int .i64 0] W fun e W' => e = .returned (.bool true) ∧ J1 W')
    (hY1 : ∀ W, J1 W → YieldAt Fence.wide (m - 1) Try.prog l #[m4V (0, 0, 0, 0), .int .i64 10] W fun e W' => e = .returned (.bool false) ∧ J2 W')
    (W : World) (h0 : J0 W) :
    CallsIn Fence.wide m Try.prog 49 #[.func (.yield l) #[] #[], .pointer (some ⟨Bd, 0, none⟩)] W fun e W' => (∃ v, e = .returned v) ∧ J2 W' := by
  have HY0 := Lib.hid hY0
  have HY1 := Lib.hid hY1
  have HJ0 := Lib.hid hJ0
  have HJ1 := Lib.hid hJ1
  have HB0 := Lib.hid hb0
  have HB1 := Lib.hid hb1
  have HL := Lib.hid (And.intro hl hl4)
  clear hY0 hY1 hJ0 hJ1 hb0 hb1 hl hl4
  refine callsIn_of_wp Try.func49 rfl trivial ?_ rfl
  simp only [Try.ntmps49, List.size_toArray, List.length_cons, List.length_nil, Nat.reduceAdd, Nat.reduceSub, Array.replicate_succ, Array.replicate_zero, List.push_toArray, List.append_toArray, List.nil_append, List.cons_append]
  gi_wp2
  gi_loopw [8] (fun i wr => (i = .int .i64 0 ∧ J0 wr) ∨ (i = .int .i64 1 ∧ J1 wr)) (fun i _ => 2 - (intOf i).toNat)
  case atStart => exact .inl ⟨rfl, h0⟩
  case round =>
    clear h0
    rcases hrel with ⟨rfl, hJk⟩ | ⟨rfl, hJk⟩
    · have c0 := (HJ0.out _ hJk).1
      have hrd := read_ok S' g D 0 wr (HJ0.out _ hJk).2 HL.out.1
      have hln : (D.rd 0).length = 64 := by
        unfold Dk.rd
        refine over_length 0 D.U _ ?_ fun p hp => ((HJ0.out _ hJk).2.ok.uns p hp).1
        rw [List.getElem?_eq_getElem HL.out.1]
        exact (HJ0.out _ hJk).2.ok.sec _ (List.getElem_mem _)
      have hdec := fun W => mdecode_any (mk (D.rd 0)) W (by rw [mk_size, hln]; unfold maxLen; omega)
      rw [mk_toList] at hdec
      obtain ⟨x, hx⟩ := mdecV_four (D.rd 0)
      have hq := mdec4_lt (D.rd 0)
      rw [hx] at hdec
      have hhm : D.hm 0 = if (mdec4 (D.rd 0)).1 % 2 = 0 then mdec4 (D.rd 0) else (0, 0, 0, 0) := rfl
      obtain ⟨⟨a, b, c, d⟩, hq4⟩ : ∃ q, mdec4 (D.rd 0) = q := ⟨_, rfl⟩
      rw [hq4] at hdec hq hhm
      obtain ⟨z, hz⟩ : ∃ z, mk (D.rd 0) = z := ⟨_, rfl⟩
      rw [hz] at hdec hrd
      unfold m4V metaV at hdec
      dsimp only at hdec hhm hq
      have HRD := Lib.hid hrd
      have HDE := Lib.hid hdec
      have HHM := Lib.hid hhm
      have HJk := Lib.hid hJk
      have i2 : IntKind.u64.wrap (0 : Int) = 0 := IntWalk.u64_in _ (by omega)
      clear hrd hdec hhm hJk hx hq4 hz hq hln
      gi_wp2_with fail
      refine ⟨trivial, fun h => (by cases h), (callsIn_wide.2 HRD.out).mono ?_⟩
      rintro e w1 ⟨rfl, hb1⟩
      have B1 := Lib.hid hb1
      clear hb1
      gi_wp2_with fail
      refine ⟨trivial, fun h => (by cases h), (callsIn_wide.2 (HDE.out _)).mono ?_⟩
      rintro e w2 ⟨rfl, hb2⟩
      have B2 := Lib.hid (bl_tr B1.out hb2)
      clear hb2
      by_cases hak : a % 2 = 0
      · have d1 : ((a : Int) % 2 != 0) = false := by simp; omega
        rw [if_pos hak] at HHM
        clear hak
        have hyy := HY0.out (w2.alloc (.cells #[.int .u64 (a : Int), .int .u32 (b : Int), .int .u32 (c : Int), .int .u32 (d : Int)] 25)) (HB0.out _ _ HJk.out (bl_al B2.out _))
        rw [HHM.out] at hyy
        unfold m4V metaV at hyy
        dsimp only at hyy
        have HYY := Lib.hid hyy
        clear hyy
        gi_wp2_with fail
        obtain ⟨fn, tmps, assign, body, hy, hR⟩ := HYY.out
        clear HYY
        rw [hy, Oper.uponIn_round]
        refine ⟨fun h => (by cases h), hR.mono ?_⟩
        clear hy
        rintro e W3 ⟨rfl, hJ3⟩
        gi_wp2
        go_roundw
        case rel => exact .inr ⟨rfl, hJ3⟩
        case measure => simp [intOf]
      · have d1 : ((a : Int) % 2 != 0) = true := by simp; omega
        rw [if_neg hak] at HHM
        clear hak
        have hyy := HY0.out (w2.alloc (.cells #[.int .u64 ((0 : Nat) : Int), .int .u32 ((0 : Nat) : Int), .int .u32 ((0 : Nat) : Int), .int .u32 ((0 : Nat) : Int)] 25)) (HB0.out _ _ HJk.out (bl_al B2.out _))
        rw [HHM.out] at hyy
        unfold m4V metaV at hyy
        dsimp only at hyy
        rw [show ((0 : Nat) : Int) = 0 from rfl] at hyy
        have HYY := Lib.hid hyy
        clear hyy
        gi_wp2_with fail
        obtain ⟨fn, tmps, assign, body, hy, hR⟩ := HYY.out
        clear HYY
        rw [hy, Oper.uponIn_round]
        refine ⟨fun h => (by cases h), hR.mono ?_⟩
        clear hy
        rintro e W3 ⟨rfl, hJ3⟩
        gi_wp2
        go_roundw
        case rel => exact .inr ⟨rfl, hJ3⟩
        case measure => simp [intOf]
    · have c0 := (HJ1.out _ hJk).1
      have hrd := read_far S' g D 4 wr (HJ1.out _ hJk).2 (by omega) (by unfold Dk.chk; rw [if_neg (by have := HL.out.2; omega)])
      have hdec := fun W => mdecode_any (mk []) W (by rw [mk_size]; decide)
      rw [mk_toList] at hdec
      obtain ⟨x, hx⟩ := mdecV_four []
      rw [hx, mdec4_nil] at hdec
      obtain ⟨z, hz⟩ : ∃ z, mk [] = z := ⟨_, rfl⟩
      rw [hz] at hdec hrd
      unfold m4V metaV at hdec
      dsimp only at hdec
      rw [show ((0 : Nat) : Int) = 0 from rfl] at hdec
      have HRD := Lib.hid hrd
      have HDE := Lib.hid hdec
      have HJk := Lib.hid hJk
      have i2 : IntKind.u64.wrap (1 : Int) = 1 := IntWalk.u64_in _ (by omega)
      clear hrd hdec hJk hx hz
      gi_wp2_with fail
      refine ⟨trivial, fun h => (by cases h), (callsIn_wide.2 HRD.out).mono ?_⟩
      rintro e w1 ⟨rfl, hb1⟩
      have B1 := Lib.hid hb1
      clear hb1
      gi_wp2_with fail
      refine ⟨trivial, fun h => (by cases h), (callsIn_wide.2 (HDE.out _)).mono ?_⟩
      rintro e w2 ⟨rfl, hb2⟩
      have B2 := Lib.hid (bl_tr B1.out hb2)
      clear hb2
      have hyy := HY1.out (w2.alloc (.cells #[.int .u64 ((0 : Nat) : Int), .int .u32 ((0 : Nat) : Int), .int .u32 ((0 : Nat) : Int), .int .u32 ((0 : Nat) : Int)] 25)) (HB1.out _ _ HJk.out (bl_al B2.out _))
      unfold m4V metaV at hyy
      dsimp only at hyy
      rw [show ((0 : Nat) : Int) = 0 from rfl] at hyy
      have HYY := Lib.hid hyy
      clear hyy
      gi_wp2_with fail
      obtain ⟨fn, tmps, assign, body, hy, hR⟩ := HYY.out
      clear HYY
      rw [hy, Oper.uponIn_round]
      refine ⟨fun h => (by cases h), hR.mono ?_⟩
      clear hy
      rintro e W3 ⟨rfl, hJ3⟩
      gi_wp2
      refine bodyPost_ret (results_none rfl _ _ _) rfl ?_
      exact ⟨⟨_, rfl⟩, hJ3⟩

theorem rf_held_few {gop : Operand} {p1 p2 : Tmp} {assign body : Code} {Q : Exit → Act → World → Prop} {a : Act} {w0 : World} {Bd g : Nat} {D : Dk} {S' : Nat → Prop} (hl : 1 ≤ D.S.length) (hl4 : D.S.length ≤ 4) (id : Nat) (M : Nat) (hM : w0.heap.size = M)
    (hg : a.eval gop = .func (.func 49) #[] #[.pointer (some ⟨Bd, 0, none⟩)])
    (I0 I1 I2 : World → Prop) (h0c : ∀ W, I0 W → W.cell? ⟨Bd, 0, none⟩ = some (.pointer (some ⟨g, 0, none⟩)) ∧ Held S' W g D) (h1c : ∀ W, I1 W → W.cell? ⟨Bd, 0, none⟩ = some (.pointer (some ⟨g, 0, none⟩)) ∧ Held S' W g D)
    (h0b : ∀ W W', I0 W → Below W.heap.size W W' → I0 W') (h1b : ∀ W W', I1 W → Below W.heap.size W W' → I1 W')
    (h0p : ∀ W o, I0 W → I0 (W.putObj (M + 1) o)) (h1p : ∀ W o, I1 W → I1 (W.putObj (M + 1) o)) (h2p : ∀ W o, I2 W → I2 (W.putObj (M + 1) o)) (h0 : I0 w0)
    (round0 : ∀ W x y z, I0 W → W.heap[M]? = some x → W.heap[M + 1]? = some y → M + 1 < W.heap.size →
      assign.wpIn (Fence.wide.inRound (M + 1)) 7 Try.prog (Exit.then (fun a₁ W₁ => W₁.heap[M + 1]? = some y ∧
        body.wpIn (Fence.wide.inRound (M + 1)) 7 Try.prog (fun e _ W₂ => e = .normal ∧ I1 W₂ ∧ W₂.heap[M]? = some x ∧ W₂.heap[M + 1]? = some z) a₁ (W₁.putObj (M + 1) z)) (fun _ _ _ => False))
        { tmps := (a.tmps.setIfInBounds p1 (m4V (D.hm 0))).setIfInBounds p2 (.int .i64 0), defers := [] } W)
    (round1 : ∀ W x y z, I1 W → W.heap[M]? = some x → W.heap[M + 1]? = some y → M + 1 < W.heap.size →
      assign.wpIn (Fence.wide.inRound (M + 1)) 7 Try.prog (Exit.then (fun a₁ W₁ => W₁.heap[M + 1]? = some y ∧
        body.wpIn (Fence.wide.inRound (M + 1)) 7 Try.prog (fun e _ W₂ => e = .exit id ∧ I2 W₂ ∧ W₂.heap[M]? = some x ∧ W₂.heap[M + 1]? = some z) a₁ (W₁.putObj (M + 1) z)) (fun _ _ _ => False))
        { tmps := (a.tmps.setIfInBounds p1 (m4V (0, 0, 0, 0))).setIfInBounds p2 (.int .i64 10), defers := [] } W)
    (fin : ∀ W, I2 W → W.heap[M]? = some (.deferred (some [])) → Q (.exit id) { a with defers := { target := .collected M, args := #[] } :: a.defers } W) :
    (Code.rangeFunc gop #[p1, p2] assign body).wpIn Fence.wide 9 Try.prog Q a w0 := by
  subst hM
  refine wpIn_rf rfl (fun h => by cases h) hg trivial (enters_of Try.func49 (by kernel_rfl) rfl) ?_
  intro fn rec _ hrec
  refine (held1_few (9 - 1) (w0.heap.size + 1) Bd g D S' hl hl4
    (fun W => I0 W ∧ W.heap[w0.heap.size + 1]? = some (rec .ready none) ∧ W.heap[w0.heap.size]? = some (.deferred (some [])))
    (fun W => I1 W ∧ W.heap[w0.heap.size + 1]? = some (rec .ready none) ∧ W.heap[w0.heap.size]? = some (.deferred (some [])))
    (fun W => I2 W ∧ W.heap[w0.heap.size + 1]? = some (rec .done (some (.exit id))) ∧ W.heap[w0.heap.size]? = some (.deferred (some []))) ?_ ?_ ?_ ?_ ?_ ?_ _ ?_).mono ?_
  · exact fun W h => h0c W h.1
  · exact fun W h => h1c W h.1
  · exact fun W W' h hb => ⟨h0b W W' h.1 hb, (hb.block _ (Array.getElem?_eq_some_iff.1 h.2.1).1).trans h.2.1, (hb.block _ (Array.getElem?_eq_some_iff.1 h.2.2).1).trans h.2.2⟩
  · exact fun W W' h hb => ⟨h1b W W' h.1 hb, (hb.block _ (Array.getElem?_eq_some_iff.1 h.2.1).1).trans h.2.1, (hb.block _ (Array.getElem?_eq_some_iff.1 h.2.2).1).trans h.2.2⟩
  · rintro W ⟨j1, j2, j3⟩
    refine yieldAt_of hrec trivial j2 rfl ?_
    have hz : (#[p1, p2].zip #[m4V (D.hm 0), Value.int .i64 0]).foldl (fun t (x : Tmp × Value) => t.setIfInBounds x.1 x.2) a.tmps = (a.tmps.setIfInBounds p1 (m4V (D.hm 0))).setIfInBounds p2 (.int .i64 0) := by simp
    rw [hz]
    refine wpIn_mono (round0 W _ _ (rec .busy none) j1 j3 j2 (Array.getElem?_eq_some_iff.1 j2).1) ?_
    rintro e a₁ W₁ he
    cases e with
    | normal =>
      refine ⟨he.1, wpIn_mono he.2 ?_⟩
      rintro e a₂ W₂ ⟨rfl, i1, i2, i3⟩
      exact ⟨i3, rfl, h1p _ _ i1, World.putObj_heap_same (Array.getElem?_eq_some_iff.1 i3).1, (World.putObj_heap_other (by omega)).trans i2⟩
    | exit id => exact he.elim
    | goto t => exact he.elim
    | ret => exact he.elim
    | panic _ => exact he.elim
    | outgrown => exact he.elim
  · rintro W ⟨j1, j2, j3⟩
    refine yieldAt_of hrec trivial j2 rfl ?_
    have hz : (#[p1, p2].zip #[m4V (0, 0, 0, 0), Value.int .i64 10]).foldl (fun t (x : Tmp × Value) => t.setIfInBounds x.1 x.2) a.tmps = (a.tmps.setIfInBounds p1 (m4V (0, 0, 0, 0))).setIfInBounds p2 (.int .i64 10) := by simp
    rw [hz]
    refine wpIn_mono (round1 W _ _ (rec .busy none) j1 j3 j2 (Array.getElem?_eq_some_iff.1 j2).1) ?_
    rintro e a₁ W₁ he
    cases e with
    | normal =>
      refine ⟨he.1, wpIn_mono he.2 ?_⟩
      rintro e a₂ W₂ ⟨rfl, i1, i2, i3⟩
      exact ⟨i3, rfl, h2p _ _ i1, World.putObj_heap_same (Array.getElem?_eq_some_iff.1 i3).1, (World.putObj_heap_other (by omega)).trans i2⟩
    | exit id => exact he.elim
    | goto t => exact he.elim
    | ret => exact he.elim
    | panic _ => exact he.elim
    | outgrown => exact he.elim
  · refine ⟨h0b _ _ (h0b _ _ h0 (bl_al (bl_re _) _)) (bl_al (bl_re _) _), ?_, (Below.heap_alloc _ _ _ (by simp)).trans (World.alloc_heap_new _ _)⟩
    rw [← World.size_alloc w0 (.deferred (some []))]
    exact World.alloc_heap_new _ _
  · rintro e W ⟨he, j1, j2, j3⟩
    refine ⟨he, .done, some (.exit id), by simp, j2, ?_⟩
    exact wpIn_exit (fin _ (h2p _ _ j1) ((World.putObj_heap_other (by omega)).trans j3))
end Go.Proofs.Ytdaoiimjflplhaa
