/- Load of package meta on a disk of one to four sectors, and on any. -/
import Derived.Test.YtdaoiimjflplhaaMetaF
import Derived.Test.YtdaoiimjflplhaaRefMetaS
namespace Go.Proofs.Ytdaoiimjflplhaa
open Go.RowKit Go.Shelf
set_option linter.unusedVariables false
attribute [local go_sem] Oper.semAt_some

/-- What stands when the loop has been left. -/
structure Few (w W : World) : Prop where
  br : Blk W w.heap.size 25 #[.int .u64 0, .int .u32 0, .int .u32 0, .int .u32 0]
  be : Blk W (w.heap.size + 1 + 1) 27 #[.int .i64 10]
  bel : Below w.heap.size w W
theorem Few.put {w W : World} (h : Few w W) {n : Nat} (hn : w.heap.size + 4 ≤ n) (o : Obj) : Few w (W.putObj n o) :=
  ⟨h.br.putObj (by omega) o, h.be.putObj (by omega) o, below_putObj h.bel (by omega) o⟩

set_option maxRecDepth 100000 in
set_option maxHeartbeats 8000000 in
theorem mload_few (S : Nat → Prop) (g : Nat) (D : Dk) (w : World) (h : Held S w g D) (hl : D.S.length ≤ 4) :
    Calls Try.prog 23 #[.pointer (some ⟨g, 0, none⟩)] w fun e w' => e = .returned (.tuple #[metaZ, .int .i64 10]) ∧ Below w.heap.size w w' := by
  have HH := Lib.hid h
  clear h
  have h1 := HH.out.ok.one
  refine (callsIn_wide (n := 9)).1 (callsIn_of_wp_marks Try.func23 rfl trivial ?_ rfl)
  simp only [Try.ntmps23, List.size_toArray, List.length_cons, List.length_nil, Nat.reduceAdd, Nat.reduceSub, Array.replicate_succ, Array.replicate_zero, List.push_toArray, List.append_toArray, List.nil_append, List.cons_append]
  gi_wp2_with fail
  refine (wpIn_wide (n := 9)).2 (wp_scope_straight ((wpIn_wide (n := 9)).1 ?_))
  gi_wp2_with fail
  refine wpIn_label ?_
  gi_wp2_with fail
  refine ⟨trivial, (callsIn_wide.2 (mheld_any g _)).mono ?_⟩
  rintro e w2 ⟨rfl, rfl⟩
  obtain ⟨S', hS'⟩ : ∃ S' : Nat → Prop, S' = fun k => S k ∧ k < w.heap.size := ⟨_, rfl⟩
  have hSb : ∀ k, S' k → k < w.heap.size := fun k hk => by rw [hS'] at hk; exact hk.2
  have hH' : Held S' w g D := HH.out.sub fun k hk hs => by rw [hS']; exact ⟨hs, hk⟩
  clear hS'
  obtain ⟨w0, hw0⟩ : ∃ w0, (((w.alloc (.cells #[.int .u64 0, .int .u32 0, .int .u32 0, .int .u32 0] 25)).alloc (.cells #[.int .u64 0, .int .u32 0, .int .u32 0, .int .u32 0] 25)).alloc (.cells #[.int .i64 0] 27)).alloc (.cells #[.pointer (some ⟨g, 0, none⟩)] 36) = w0 := ⟨_, rfl⟩
  have hsz : w0.heap.size = w.heap.size + 4 := by rw [← hw0]; simp
  have h0 : LdI w g D S' (0, 0, 0, 0) w0 := by
    rw [← hw0]
    have e1 := Blk.new w 25 #[.int .u64 0, .int .u32 0, .int .u32 0, .int .u32 0]
    have e2 := Blk.new (w.alloc (.cells #[.int .u64 0, .int .u32 0, .int .u32 0, .int .u32 0] 25)) 25 #[.int .u64 0, .int .u32 0, .int .u32 0, .int .u32 0]
    have e3 := Blk.new ((w.alloc (.cells #[.int .u64 0, .int .u32 0, .int .u32 0, .int .u32 0] 25)).alloc (.cells #[.int .u64 0, .int .u32 0, .int .u32 0, .int .u32 0] 25)) 27 #[.int .i64 0]
    have e4 := Blk.new (((w.alloc (.cells #[.int .u64 0, .int .u32 0, .int .u32 0, .int .u32 0] 25)).alloc (.cells #[.int .u64 0, .int .u32 0, .int .u32 0, .int .u32 0] 25)).alloc (.cells #[.int .i64 0] 27)) 36 #[.pointer (some ⟨g, 0, none⟩)]
    simp only [World.size_alloc] at e2 e3 e4
    exact ⟨((e1.alloc _).alloc _).alloc _, (e2.alloc _).alloc _, e3.alloc _, e4, (((hH'.alloc _).alloc _).alloc _).alloc _, bl_al (bl_al (bl_al (bl_al (bl_re w) _) _) _) _⟩
  have H0 := Lib.hid h0
  clear h0 hH' HH
  gi_wp2_with fail
  clear hw0
  refine rf_held_few (Bd := w.heap.size + 3) (g := g) (D := D) (S' := S') h1 hl 0 (w.heap.size + 4) hsz rfl
    (fun W => LdI w g D S' (D.hl 0) W) (fun W => LdI w g D S' (D.hl 1) W ∧ w.heap.size + 6 ≤ W.heap.size) (fun W => Few w W ∧ w.heap.size + 6 ≤ W.heap.size) ?i0 ?i1 ?b0 ?b1 ?p0 ?p1 ?p2 ?zero ?round ?round1 ?fin
  case i0 => exact fun W h => ⟨h.bd.cell 0, h.hd⟩
  case i1 => exact fun W h => ⟨h.1.bd.cell 0, h.1.hd⟩
  case b0 => exact fun W W' h hb => h.below hb
  case b1 => exact fun W W' h hb => ⟨h.1.below hb, Nat.le_trans h.2 hb.size⟩
  case p0 => exact fun W o h => h.put hSb _ (by omega) o
  case p1 => exact fun W o h => ⟨h.1.put hSb _ (by omega) o, by simpa using h.2⟩
  case p2 => exact fun W o h => ⟨h.1.put (by omega) o, by simpa using h.2⟩
  case zero => exact H0.out
  case round =>
    rintro W x y z hI hx hy hlW
    have hhl : D.hl 1 = if (D.hl 0).1 < (D.hm 0).1 then D.hm 0 else D.hl 0 := rfl
    rw [hhl]
    obtain ⟨⟨a, b, c, d⟩, hm⟩ : ∃ q, D.hm 0 = q := ⟨_, rfl⟩
    obtain ⟨⟨a0, b0, c0, d0⟩, hl0⟩ : ∃ q, D.hl 0 = q := ⟨_, rfl⟩
    rw [hl0] at hI ⊢
    rw [hm]
    clear hhl hm hl0
    obtain ⟨qn, hq2⟩ : ∃ qn : M4, (if a0 < a then (a, b, c, d) else (a0, b0, c0, d0)) = qn := ⟨_, rfl⟩
    have HQ := Lib.hid hq2
    dsimp only
    unfold m4V metaV
    dsimp only
    rw [hq2]
    clear hq2
    obtain ⟨W1, hW1⟩ : ∃ W1, (W.alloc (.cells #[.int .u64 (a : Int), .int .u32 (b : Int), .int .u32 (c : Int), .int .u32 (d : Int)] 25)).putObj (w.heap.size + 4 + 1) z = W1 := ⟨_, rfl⟩
    have hba := bl_al (bl_re W) (.cells #[.int .u64 (a : Int), .int .u32 (b : Int), .int .u32 (c : Int), .int .u32 (d : Int)] 25)
    have hI1 : LdI w g D S' (a0, b0, c0, d0) W1 := by rw [← hW1]; exact (hI.below hba).put hSb _ (by omega) z
    have x1 : W1.heap[w.heap.size + 4]? = some x := by rw [← hW1]; exact (World.putObj_heap_other (by omega)).trans ((hba.block _ (by omega)).trans hx)
    have z1 : W1.heap[w.heap.size + 4 + 1]? = some z := by rw [← hW1]; exact World.putObj_heap_same (by simp; omega)
    have y1 : (W.alloc (.cells #[.int .u64 (a : Int), .int .u32 (b : Int), .int .u32 (c : Int), .int .u32 (d : Int)] 25)).heap[w.heap.size + 4 + 1]? = some y := (hba.block _ (by omega)).trans hy
    have hm1 : Blk W1 W.heap.size 25 #[.int .u64 (a : Int), .int .u32 (b : Int), .int .u32 (c : Int), .int .u32 (d : Int)] := by rw [← hW1]; exact (Blk.new W _ _).putObj (by omega) z
    have h8 : w.heap.size + 6 ≤ W1.heap.size := by rw [← hW1]; simp; omega
    have q0 : W1.cell? ⟨W.heap.size, 0, none⟩ = some (.int .u64 (a : Int)) := hm1.cell 0
    have q1 : W1.cell? ⟨W.heap.size, 1, none⟩ = some (.int .u32 (b : Int)) := hm1.cell 1
    have q2 : W1.cell? ⟨W.heap.size, 2, none⟩ = some (.int .u32 (c : Int)) := hm1.cell 2
    have q3 : W1.cell? ⟨W.heap.size, 3, none⟩ = some (.int .u32 (d : Int)) := hm1.cell 3
    have r0 : W1.cell? ⟨w.heap.size + 1, 0, none⟩ = some (.int .u64 (a0 : Int)) := hI1.bl.cell 0
    have r1 : W1.cell? ⟨w.heap.size + 1, 1, none⟩ = some (.int .u32 (b0 : Int)) := hI1.bl.cell 1
    have r2 : W1.cell? ⟨w.heap.size + 1, 2, none⟩ = some (.int .u32 (c0 : Int)) := hI1.bl.cell 2
    have r3 : W1.cell? ⟨w.heap.size + 1, 3, none⟩ = some (.int .u32 (d0 : Int)) := hI1.bl.cell 3
    have r4 : W1.cell? ⟨w.heap.size + 1 + 1, 0, none⟩ = some (.int .i64 0) := hI1.be.cell 0
    have f0 := hI1.bl.frozen 0
    have f1 := hI1.bl.frozen 1
    have f2 := hI1.bl.frozen 2
    have f3 := hI1.bl.frozen 3
    have f4 : W1.frozen? ⟨w.heap.size + 1 + 1, 0, none⟩ = false := hI1.be.frozen 0
    have n1 : w.heap.size + 1 ≠ W.heap.size := by omega
    have n2 : w.heap.size + 1 + 1 ≠ W.heap.size := by omega
    have KW := Lib.hid hW1
    have KI := Lib.hid (And.intro hI1 (And.intro x1 (And.intro z1 h8)))
    have KY := Lib.hid y1
    clear hW1 hI1 x1 z1 h8 hI hx hy y1 hm1 hba
    gi_wp2_with fail
    refine ⟨KY.out, ?_⟩
    rw [KW.out]
    by_cases hlt : a0 < a
    · have hq : qn = (a, b, c, d) := by rw [← HQ.out, if_pos hlt]
      have HQ2 := Lib.hid hq
      clear hq
      gi_wp2_with fail
      rw [HQ2.out]
      refine ⟨⟨(KI.out.1.err hSb).last hSb (a, b, c, d), KI.out.2.2.2⟩, ?_, ?_⟩
      · rw [heap_setCell_other _ _ _ _ (by simp), heap_setCell_other _ _ _ _ (by simp), heap_setCell_other _ _ _ _ (by simp), heap_setCell_other _ _ _ _ (by simp), heap_setCell_other _ _ _ _ (by simp)]
        exact KI.out.2.1
      · rw [heap_setCell_other _ _ _ _ (by simp), heap_setCell_other _ _ _ _ (by simp), heap_setCell_other _ _ _ _ (by simp), heap_setCell_other _ _ _ _ (by simp), heap_setCell_other _ _ _ _ (by simp)]
        exact KI.out.2.2.1
    · have hq : qn = (a0, b0, c0, d0) := by rw [← HQ.out, if_neg hlt]
      have HQ2 := Lib.hid hq
      clear hq
      gi_wp2_with fail
      rw [HQ2.out]
      refine ⟨⟨KI.out.1.err hSb, KI.out.2.2.2⟩, ?_, ?_⟩
      · rw [heap_setCell_other _ _ _ _ (by simp)]
        exact KI.out.2.1
      · rw [heap_setCell_other _ _ _ _ (by simp)]
        exact KI.out.2.2.1
  case round1 =>
    rintro W x y z ⟨hI, _⟩ hx hy hlW
    obtain ⟨⟨a0, b0, c0, d0⟩, hl0⟩ : ∃ q, D.hl 1 = q := ⟨_, rfl⟩
    rw [hl0] at hI
    clear hl0
    unfold m4V metaV
    dsimp only
    rw [show ((0 : Nat) : Int) = 0 from rfl]
    obtain ⟨W1, hW1⟩ : ∃ W1, (W.alloc (.cells #[.int .u64 0, .int .u32 0, .int .u32 0, .int .u32 0] 25)).putObj (w.heap.size + 4 + 1) z = W1 := ⟨_, rfl⟩
    have hba := bl_al (bl_re W) (.cells #[.int .u64 0, .int .u32 0, .int .u32 0, .int .u32 0] 25)
    have hI1 : LdI w g D S' (a0, b0, c0, d0) W1 := by rw [← hW1]; exact (hI.below hba).put hSb _ (by omega) z
    have x1 : W1.heap[w.heap.size + 4]? = some x := by rw [← hW1]; exact (World.putObj_heap_other (by omega)).trans ((hba.block _ (by omega)).trans hx)
    have z1 : W1.heap[w.heap.size + 4 + 1]? = some z := by rw [← hW1]; exact World.putObj_heap_same (by simp; omega)
    have y1 : (W.alloc (.cells #[.int .u64 0, .int .u32 0, .int .u32 0, .int .u32 0] 25)).heap[w.heap.size + 4 + 1]? = some y := (hba.block _ (by omega)).trans hy
    have h8 : w.heap.size + 6 ≤ W1.heap.size := by rw [← hW1]; simp; omega
    have r4 : W1.cell? ⟨w.heap.size + 1 + 1, 0, none⟩ = some (.int .i64 0) := hI1.be.cell 0
    have f4 : W1.frozen? ⟨w.heap.size + 1 + 1, 0, none⟩ = false := hI1.be.frozen 0
    have KW := Lib.hid hW1
    have KI := Lib.hid (And.intro hI1 (And.intro x1 (And.intro z1 h8)))
    have KY := Lib.hid y1
    clear hW1 hI1 x1 z1 h8 hI hx hy y1 hba
    gi_wp2_with fail
    refine ⟨KY.out, ?_⟩
    rw [KW.out]
    gi_wp2_with fail
    refine ⟨⟨⟨KI.out.1.br.far (by dsimp only; omega) _, ?_, KI.out.1.bel.setCell (by dsimp only; omega) _⟩, by simpa using KI.out.2.2.2⟩, ?_, ?_⟩
    · have := KI.out.1.be.set_ 0 (.int .i64 10)
      simpa using this
    · rw [heap_setCell_other _ _ _ _ (by simp)]
      exact KI.out.2.1
    · rw [heap_setCell_other _ _ _ _ (by simp)]
      exact KI.out.2.2.1
  case fin =>
    rintro W ⟨h, h6⟩ hd
    have a4 : W.cell? ⟨w.heap.size + 1 + 1, 0, none⟩ = some (.int .i64 10) := h.be.cell 0
    have f4 : W.frozen? ⟨w.heap.size + 1 + 1, 0, none⟩ = false := h.be.frozen 0
    have l2 : w.heap.size + 1 + 1 < W.heap.size := h.be.lt
    have KH := Lib.hid (And.intro h hd)
    clear h hd H0
    gi_wp2_with fail
    refine (wpIn_wide (n := 9)).2 ?_
    have b40 : Blk (W.alloc (.cells #[.int .u64 0, .int .u32 0, .int .u32 0, .int .u32 0] 25)) (w.heap.size + 1 + 1) 27 #[.int .i64 10] := KH.out.1.be.alloc _
    have br3 : Blk (W.alloc (.cells #[.int .u64 0, .int .u32 0, .int .u32 0, .int .u32 0] 25)) w.heap.size 25 #[.int .u64 0, .int .u32 0, .int .u32 0, .int .u32 0] := KH.out.1.br.alloc _
    have bl3 : Below w.heap.size w (W.alloc (.cells #[.int .u64 0, .int .u32 0, .int .u32 0, .int .u32 0] 25)) := bl_al KH.out.1.bel _
    have hd3 : (W.alloc (.cells #[.int .u64 0, .int .u32 0, .int .u32 0, .int .u32 0] 25)).heap[w.heap.size + 4]? = some (.deferred (some [])) := by
      rw [Below.heap_alloc _ _ _ (Array.getElem?_eq_some_iff.1 KH.out.2).1]
      exact KH.out.2
    obtain ⟨W3, hW3⟩ : ∃ W3, (W.alloc (.cells #[.int .u64 0, .int .u32 0, .int .u32 0, .int .u32 0] 25)) = W3 := ⟨_, rfl⟩
    rw [hW3] at b40 br3 bl3 hd3 ⊢
    clear hW3 a4 f4 l2
    have g40 : W3.cell? ⟨w.heap.size + 1 + 1, 0, none⟩ = some (.int .i64 10) := b40.cell 0
    have c0 : W3.cell? ⟨w.heap.size, 0, none⟩ = some (.int .u64 0) := br3.cell 0
    have c1 : W3.cell? ⟨w.heap.size, 1, none⟩ = some (.int .u32 0) := br3.cell 1
    have c2 : W3.cell? ⟨w.heap.size, 2, none⟩ = some (.int .u32 0) := br3.cell 2
    have c3 : W3.cell? ⟨w.heap.size, 3, none⟩ = some (.int .u32 0) := br3.cell 3
    have f0 := br3.frozen 0
    have f1 := br3.frozen 1
    have f2 := br3.frozen 2
    have f3 := br3.frozen 3
    have l0 := br3.lt
    have K3 := Lib.hid (And.intro br3 (And.intro bl3 hd3))
    clear b40 br3 bl3 hd3
    go_region_held3 (fun w' => w'.cell? ⟨w.heap.size + 1 + 1, 0, none⟩ = some (.int .i64 10)) (first | assumption | exact ld_keep (by assumption)) (fail)
    gi_wp2_with fail
    rw [Exit.noGoto_ret]
    have s1 : (mset4 W3 w.heap.size (.int .u64 0) (.int .u32 0) (.int .u32 0) (.int .u32 0)).drew.heap[w.heap.size + 4]? = some (.deferred (some [])) := (mset4_block W3 w.heap.size (w.heap.size + 4) _ _ _ _ (by omega)).trans K3.out.2.2
    refine ⟨by simp, .inl ⟨_, _, rfl, run_takeDeferred s1, ?_⟩⟩
    refine ⟨_, results_load (v := .int .i64 10) rfl _ _ _ ((K3.out.1.mset4 (.int .u64 0) (.int .u32 0) (.int .u32 0) (.int .u32 0)).drew.putObj (by omega) _) rfl rfl, ?_, ?_⟩
    · rfl
    · exact below_putObj (below_mset4 K3.out.2.1 (Nat.le_refl _) _ _ _ _).drew (by omega) _

theorem mload_any (S : Nat → Prop) (g : Nat) (D : Dk) (w : World) (h : Held S w g D) :
    Calls Try.prog 23 #[.pointer (some ⟨g, 0, none⟩)] w fun e w' => e = .returned (loadV D) ∧ Below w.heap.size w w' := by
  unfold loadV
  by_cases hl : 4 < D.S.length
  · rw [if_pos hl]
    exact mload_ok S g D w h hl
  · rw [if_neg hl]
    exact mload_few S g D w h (by omega)
end Go.Proofs.Ytdaoiimjflplhaa
