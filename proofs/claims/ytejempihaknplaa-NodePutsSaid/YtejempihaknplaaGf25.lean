-- Written by this session's program genprint.py (the kit's print.py with contracts of this seat's own among the callees). Not trusted: Lean checks it.
import Derived.Test.YtejempihaknplaaGX
import Derived.Test.YtejempihaknplaaNdW
import Derived.Test.YtejempihaknplaaGB
namespace Go.Proofs.Ytejempihaknplaa.G
open Go.RowKit Go.Proofs.YtejempihaknplaaW.PrintWords Go.Proofs.YtejempihaknplaaW.PrintLast Go.Proofs.YtejempihaknplaaW.PrintMore
attribute [local go_sem] max2_int min2_int max_two min_two max_three min_three max_four min_four   -- for this text's walks alone
set_option linter.unusedVariables false
set_option linter.unusedSimpArgs false

/-! ### bazaarref06_Delete: function 25 -/
def bazaarref06_Delete.l0 : Nat → ByteArray → Int → List (S39) → List ByteArray → List Int → List (S39) → Option ((List (S39)) × List ByteArray × List Int × Bool × Int)
  | 0, _, _, _, _, _, _ => none
  | k + 1, x1, x9, x397000, x397001, x397002, x400000 => if x9 < (x397000.length : Int) then (if 0 ≤ x9 then (if ((rd_T39 x397000 x9).f0).toList = x1.toList then (bazaarref06_Delete.l0 k x1 (wrap64 (x9 + 1)) x397000 x397001 x397002 x400000) else (if x400000.length < 4398046511104 then (bazaarref06_Delete.l0 k x1 (wrap64 (x9 + 1)) x397000 x397001 x397002 (x400000 ++ [(⟨(rd_T39 x397000 x9).f0, (rd_T39 x397000 x9).f1⟩ : S39)])) else (none))) else (none)) else (some (x400000, ([] : List ByteArray), ([] : List Int), decide ((x400000.length : Int) < (x397000.length : Int)), 0))
def bazaarref06_Delete.f (k : Nat) (l0_0 : List (S39)) (l0_1 : List ByteArray) (l0_2 : List Int) (a1 : ByteArray) : Option ((List (S39)) × List ByteArray × List Int × Bool × Int) := (bazaarref06_leaf.f k l0_0 l0_1 l0_2).bind fun t398 => (if t398 = true then (bazaarref06_Delete.l0 k a1 0 l0_0 l0_1 l0_2 ([] : List (S39))) else (some (([] : List (S39)), ([] : List ByteArray), ([] : List Int), false, 60)))
theorem bazaarref06_Delete.mono_l : ∀ k, (∀ y0 y1 y2 y3 y4 y5, LeO (bazaarref06_Delete.l0 k y0 y1 y2 y3 y4 y5) (bazaarref06_Delete.l0 (k + 1) y0 y1 y2 y3 y4 y5))
  | 0 => fun _ _ _ _ _ _ r h => by simp [bazaarref06_Delete.l0] at h
  | k + 1 => by
    have ih0 := bazaarref06_Delete.mono_l k
    · intro y0 y1 y2 y3 y4 y5
      unfold bazaarref06_Delete.l0
      repeat' first
      | (with_reducible exact ih0 _ _ _ _ _ _)
      | (with_reducible exact bazaarref06_leaf.mono _ _ _ _)
      | (with_reducible exact LeO.refl _)
      | (with_reducible exact LeO.none _)
      | (with_reducible refine LeO.ite ?_ ?_)
      | (with_reducible refine LeO.bind ?_ (fun _ => ?_))
      | exact ih0 _ _ _ _ _ _
      | exact bazaarref06_leaf.mono _ _ _ _
      | exact LeO.none _
      | refine LeO.ite ?_ ?_
      | refine LeO.bind ?_ (fun _ => ?_)
theorem bazaarref06_Delete.mono : ∀ a0 a1 a2 a3 k, LeO (bazaarref06_Delete.f k a0 a1 a2 a3) (bazaarref06_Delete.f (k + 1) a0 a1 a2 a3) := by
  intro a0 a1 a2 a3 k
  have ih0 := bazaarref06_Delete.mono_l k
  unfold bazaarref06_Delete.f
  repeat' first
      | (with_reducible exact ih0 _ _ _ _ _ _)
      | (with_reducible exact bazaarref06_leaf.mono _ _ _ _)
      | (with_reducible exact LeO.refl _)
      | (with_reducible exact LeO.none _)
      | (with_reducible refine LeO.ite ?_ ?_)
      | (with_reducible refine LeO.bind ?_ (fun _ => ?_))
      | exact ih0 _ _ _ _ _ _
      | exact bazaarref06_leaf.mono _ _ _ _
      | exact LeO.none _
      | refine LeO.ite ?_ ?_
      | refine LeO.bind ?_ (fun _ => ?_)
def bazaarref06_Delete.T9 : Bool × List (List Nat × List Nat) := (true, [([], []), ([0], [0]), ([], []), ([2], [2]), ([], []), ([3, 4], [3, 4]), ([5], [5]), ([6], [6]), ([1, 7], [1, 7]), ([0, 1, 2, 3, 4, 5, 6, 7, 8], []), ([9, 8, 8, 0, 1, 2, 3, 4, 5, 6, 7, 8], [8, 9])])
def bazaarref06_Delete.B9 : List Nat := [0, 1, 0, 4, 0, 28, 60, 124, 255, 511, 1023]
theorem bazaarref06_Delete.tab9 : rtab .any (opsOf Try.f25 9) = bazaarref06_Delete.T9 := by kernel_rfl
theorem bazaarref06_Delete.bits9 : waitsOk bazaarref06_Delete.T9.2 bazaarref06_Delete.B9 = true := by kernel_rfl
def bazaarref06_Delete.T10 : Bool × List (List Nat × List Nat) := (true, [([], []), ([], []), ([1], [1]), ([2], [2]), ([], []), ([4], [4]), ([5], [5]), ([3, 6], [3, 6]), ([0, 0], [0]), ([7, 8, 0, 1, 2, 3, 4, 5, 6, 7, 8], [7]), ([9, 0, 1, 2, 3, 4, 5, 6, 7, 8, 9], [])])
def bazaarref06_Delete.B10 : List Nat := [0, 0, 2, 6, 0, 16, 48, 126, 1, 511, 1023]
theorem bazaarref06_Delete.tab10 : rtab .any (opsOf Try.f25 10) = bazaarref06_Delete.T10 := by kernel_rfl
theorem bazaarref06_Delete.bits10 : waitsOk bazaarref06_Delete.T10.2 bazaarref06_Delete.B10 = true := by kernel_rfl
set_option maxHeartbeats 8000000 in
set_option maxRecDepth 100000 in
theorem bazaarref06_Delete.calls (k : Nat) (A0_0 : Option Addr) (c0_0 : Nat) (l0_0 : List (S39)) (A0_1 : Option Addr) (c0_1 : Nat) (l0_1 : List ByteArray) (A0_2 : Option Addr) (c0_2 : Nat) (l0_2 : List Int) (a1 : ByteArray) (r1 : List (S39)) (r2 : List ByteArray) (r3 : List Int) (r4 : Bool) (r5 : Int) (w : World) (hr0_0 : Kd.C k39 w A0_0 l0_0.length l0_0) (hc0_0 : l0_0.length ≤ c0_0) (hr0_1 : Kd.C Kd.string w A0_1 l0_1.length l0_1) (hc0_1 : l0_1.length ≤ c0_1) (hr0_2 : Kd.C (Kd.int .u32) w A0_2 l0_2.length l0_2) (hc0_2 : l0_2.length ≤ c0_2) (h : bazaarref06_Delete.f k l0_0 l0_1 l0_2 a1 = some (r1, r2, r3, r4, r5)) :
    Calls Try.prog 25 #[.agg #[.slice A0_0 l0_0.length c0_0, .slice A0_1 l0_1.length c0_1, .slice A0_2 l0_2.length c0_2], .string a1] w fun e w' => ∃ v0_ v1_ v2_ : Value, e = .returned (.tuple #[.agg #[v0_, v1_, v2_], .bool r4, .int .i64 r5]) ∧ Kd.R k39 39 w' w.heap.size (fun _ => True) v0_ r1 ∧ Kd.R Kd.string 9 w' w.heap.size (fun _ => True) v1_ r2 ∧ Kd.R (Kd.int .u32) 65 w' w.heap.size (fun _ => True) v2_ r3 ∧ Below w.heap.size w w' := by
  have hu26 := Try.underlying26
  have hu39 := Try.underlying39
  have HR0_0 := Aside0.mk hr0_0
  have HC0_0 := Aside0.mk hc0_0
  clear hr0_0 hc0_0
  have HR0_1 := Aside0.mk hr0_1
  have HC0_1 := Aside0.mk hc0_1
  clear hr0_1 hc0_1
  have HR0_2 := Aside0.mk hr0_2
  have HC0_2 := Aside0.mk hc0_2
  clear hr0_2 hc0_2
  have HB := Aside0.mk (Below.refl w.heap.size w)
  have H : ((bazaarref06_leaf.f k l0_0 l0_1 l0_2).bind fun t398 => (if t398 = true then (bazaarref06_Delete.l0 k a1 0 l0_0 l0_1 l0_2 ([] : List (S39))) else (some (([] : List (S39)), ([] : List ByteArray), ([] : List Int), false, 60)))) = some (r1, r2, r3, r4, r5) := h
  clear h
  replace H := Option.bind_eq_some_iff.mp H
  obtain ⟨t398, A30, H⟩ := H
  replace H : (if t398 = true then (bazaarref06_Delete.l0 k a1 0 l0_0 l0_1 l0_2 ([] : List (S39))) else (some (([] : List (S39)), ([] : List ByteArray), ([] : List Int), false, 60))) = some (r1, r2, r3, r4, r5) := H
  have A3 := Aside0.mk A30
  clear A30
  by_cases c4 : t398 = true
  · subst c4
    have H1 : (bazaarref06_Delete.l0 k a1 0 l0_0 l0_1 l0_2 ([] : List (S39))) = some (r1, r2, r3, r4, r5) := by rw [if_pos rfl] at H; exact H
    clear H
    have H := H1
    clear H1
    have H' := Aside0.mk H
    clear H
    go_enter Try.func25, Try.ntmps25
    go_wp2_with (first | ((with_reducible refine gate_dst (N := 2) rfl ?_); refine box_event ?hg (N := 2) ?hd (cs := #[.slice A0_0 l0_0.length c0_0, .slice A0_1 l0_1.length c0_1, .slice A0_2 l0_2.length c0_2]) (t := 26) ?hr ?_; (case hd => rfl); (case hg => rfl); (case hr => first | (go_simp; done) | (go_simp; rfl)); intro gb396 hg w5 hbox hb; have BK396 := Aside0.mk (hbox); have GW396 := Aside0.mk ((by rw [hg]; exact (below_size (L_ HB.out)) : w.heap.size ≤ gb396)); have GE396 := Aside0.mk ((by rw [hg]; exact (below_size (L_ HB.out)) : w.heap.size ≤ gb396)); replace HB := Aside0.mk (below_step (L_ HB.out) hb); clear hb hbox hg) | ((with_reducible refine gate_dst (N := 4) rfl ?_); refine box_event ?hg (N := 4) ?hd (cs := #[.slice none 0 0, .slice none 0 0, .slice none 0 0]) (t := 26) ?hr ?_; (case hd => rfl); (case hg => rfl); (case hr => first | (go_simp; done) | (go_simp; rfl)); intro gb397 hg w6 hbox hb; have BK397 := Aside0.mk (hbox); have GW397 := Aside0.mk ((by rw [hg]; exact (below_size (L_ HB.out)) : w.heap.size ≤ gb397)); have GE397 := Aside0.mk ((by rw [hg]; exact (below_size (L_ HB.out)) : w.heap.size ≤ gb397)); have NB396_397 := Aside0.mk ((by rw [hg]; exact Nat.ne_of_lt (blk_lt (g := gb396) (o := .cells #[.slice A0_0 l0_0.length c0_0, .slice A0_1 l0_1.length c0_1, .slice A0_2 l0_2.length c0_2] 26 (0, 0)) (B_ BK396.out)) : gb396 ≠ gb397)); have NB397_396 := Aside0.mk ((by rw [hg]; exact Nat.ne_of_gt (blk_lt (g := gb396) (o := .cells #[.slice A0_0 l0_0.length c0_0, .slice A0_1 l0_1.length c0_1, .slice A0_2 l0_2.length c0_2] 26 (0, 0)) (B_ BK396.out)) : gb397 ≠ gb396)); replace BK396 := Aside0.mk (blk_below (g := gb396) (o := .cells #[.slice A0_0 l0_0.length c0_0, .slice A0_1 l0_1.length c0_1, .slice A0_2 l0_2.length c0_2] 26 (0, 0)) (B_ BK396.out) hb); replace HB := Aside0.mk (below_step (L_ HB.out) hb); clear hb hbox hg; have hnb7 := NB396_397.out; have hnc7 := NB397_396.out; have hcz8_0 : w6.cell? ⟨gb396, 0, none⟩ = some (.slice A0_0 l0_0.length c0_0) := (blk_cell BK396.out 0).trans rfl; have hcz8_1 : w6.cell? ⟨gb396, 1, none⟩ = some (.slice A0_1 l0_1.length c0_1) := (blk_cell BK396.out 1).trans rfl; have hcz8_2 : w6.cell? ⟨gb396, 2, none⟩ = some (.slice A0_2 l0_2.length c0_2) := (blk_cell BK396.out 2).trans rfl; have hfz8_0 := blk_frozen BK396.out 0; have hfz8_1 := blk_frozen BK396.out 1; have hfz8_2 := blk_frozen BK396.out 2) | ((with_reducible refine gate_callee (f := 40) rfl ?_); refine goesL_ (some 11) rfl rfl Try.func40 (by kernel_rfl) rfl #[.agg #[.slice A0_0 l0_0.length c0_0, .slice A0_1 l0_1.length c0_1, .slice A0_2 l0_2.length c0_2]] rfl (by (try simp only [List.map_toArray, List.map_cons, List.map_nil]); first | done | rfl | (simp only [List.length_drop, List.length_take]; rfl)) ?_; (with_reducible refine (bazaarref06_leaf.calls k _ _ l0_0 _ _ l0_1 _ _ l0_2 true _ ?side1 ?side2 ?side3 ?side4 ?side5 ?side6 A3.out).mono ?_); (case side1 => repeat (first | exact (Kd.C_below HR0_0.out HB.out) | (with_reducible refine Kd.C_alloc ?_ _) | (with_reducible refine Kd.C_drewN ?_ _) | (with_reducible refine Kd.C_drew ?_))); (case side2 => exact HC0_0.out); (case side3 => repeat (first | exact (Kd.C_below HR0_1.out HB.out) | (with_reducible refine Kd.C_alloc ?_ _) | (with_reducible refine Kd.C_drewN ?_ _) | (with_reducible refine Kd.C_drew ?_))); (case side4 => exact HC0_1.out); (case side5 => repeat (first | exact (Kd.C_below HR0_2.out HB.out) | (with_reducible refine Kd.C_alloc ?_ _) | (with_reducible refine Kd.C_drewN ?_ _) | (with_reducible refine Kd.C_drew ?_))); (case side6 => exact HC0_2.out); rintro e w9 ⟨rfl, hb⟩; refine ⟨_, rfl, ?_⟩; replace BK396 := Aside0.mk (blk_below (g := gb396) (o := .cells #[.slice A0_0 l0_0.length c0_0, .slice A0_1 l0_1.length c0_1, .slice A0_2 l0_2.length c0_2] 26 (0, 0)) (B_ BK396.out) hb); replace BK397 := Aside0.mk (blk_below (g := gb397) (o := .cells #[.slice none 0 0, .slice none 0 0, .slice none 0 0] 26 (0, 0)) (B_ BK397.out) hb); replace HB := Aside0.mk (below_step (L_ HB.out) hb); (try clear hb); (try clear hb2); (try clear hk); (try clear hi)) | ((with_reducible refine gate_dst (N := 8) rfl ?_); refine box_event ?hg (N := 8) ?hd (cs := #[.slice none 0 0, .slice none 0 0, .slice none 0 0]) (t := 26) ?hr ?_; (case hd => rfl); (case hg => rfl); (case hr => first | (go_simp; done) | (go_simp; rfl)); intro gb399 hg w10 hbox hb; have BK399 := Aside0.mk (hbox); have GW399 := Aside0.mk ((by rw [hg]; exact (below_size (L_ HB.out)) : w.heap.size ≤ gb399)); have GE399 := Aside0.mk ((by rw [hg]; exact (below_size (L_ HB.out)) : w.heap.size ≤ gb399)); have NB396_399 := Aside0.mk ((by rw [hg]; exact Nat.ne_of_lt (blk_lt (g := gb396) (o := .cells #[.slice A0_0 l0_0.length c0_0, .slice A0_1 l0_1.length c0_1, .slice A0_2 l0_2.length c0_2] 26 (0, 0)) (B_ BK396.out)) : gb396 ≠ gb399)); have NB399_396 := Aside0.mk ((by rw [hg]; exact Nat.ne_of_gt (blk_lt (g := gb396) (o := .cells #[.slice A0_0 l0_0.length c0_0, .slice A0_1 l0_1.length c0_1, .slice A0_2 l0_2.length c0_2] 26 (0, 0)) (B_ BK396.out)) : gb399 ≠ gb396)); have NB397_399 := Aside0.mk ((by rw [hg]; exact Nat.ne_of_lt (blk_lt (g := gb397) (o := .cells #[.slice none 0 0, .slice none 0 0, .slice none 0 0] 26 (0, 0)) (B_ BK397.out)) : gb397 ≠ gb399)); have NB399_397 := Aside0.mk ((by rw [hg]; exact Nat.ne_of_gt (blk_lt (g := gb397) (o := .cells #[.slice none 0 0, .slice none 0 0, .slice none 0 0] 26 (0, 0)) (B_ BK397.out)) : gb399 ≠ gb397)); replace BK396 := Aside0.mk (blk_below (g := gb396) (o := .cells #[.slice A0_0 l0_0.length c0_0, .slice A0_1 l0_1.length c0_1, .slice A0_2 l0_2.length c0_2] 26 (0, 0)) (B_ BK396.out) hb); replace BK397 := Aside0.mk (blk_below (g := gb397) (o := .cells #[.slice none 0 0, .slice none 0 0, .slice none 0 0] 26 (0, 0)) (B_ BK397.out) hb); replace HB := Aside0.mk (below_step (L_ HB.out) hb); clear hb hbox hg))
    go_loopg [9] k (fun kq v9 w' => ∃ (x9_1 : Int) (x400000_1 : List (S39)) (u400000 : Value), v9 = .int .i64 x9_1 ∧ Aside0 (bazaarref06_Delete.l0 kq a1 x9_1 l0_0 l0_1 l0_2 x400000_1 = some (r1, r2, r3, r4, r5)) ∧ Aside0 (kq ≤ k) ∧ Aside0 (Kd.R k39 39 w' w.heap.size (fun _ => True) u400000 x400000_1) ∧ Aside0 (w'.heap[gb396]? = some (.cells #[(.slice A0_0 l0_0.length c0_0), (.slice A0_1 l0_1.length c0_1), (.slice A0_2 l0_2.length c0_2)] 26 (0, 0))) ∧ Aside0 (w'.heap[gb397]? = some (.cells #[(.slice none 0 0), (.slice none 0 0), (.slice none 0 0)] 26 (0, 0))) ∧ Aside0 (w'.heap[gb399]? = some (.cells #[u400000, (.slice none 0 0), (.slice none 0 0)] 26 (0, 0))) ∧ Aside0 (Below w.heap.size w w'))
    case atStart => exact ⟨(0), (([] : List (S39))), (.slice none 0 0), (by first | rfl | (simp; done) | (simp [*]; done)), H', ⟨Nat.le_refl _⟩, ⟨by first | exact Kd.R_nil _ _ _ _ _ | exact Kd.N_nil _ _ _ _ _ | exact Kd.V_nil _ _ _ _ _ | exact Kd.Q_nil _ _ _ _ _ | exact Kd.S_nil _ _ _ _ _⟩, ⟨by (with_reducible repeat (first | refine blk_drewN ?_ _ | refine blk_drew ?_ | refine blk_alloc ?_ _)); exact BK396.out⟩, ⟨by (with_reducible repeat (first | refine blk_drewN ?_ _ | refine blk_drew ?_ | refine blk_alloc ?_ _)); exact BK397.out⟩, ⟨by (with_reducible repeat (first | refine blk_drewN ?_ _ | refine blk_drew ?_ | refine blk_alloc ?_ _)); exact BK399.out⟩, ⟨by repeat (first | (with_reducible first | exact HB.out | apply below_alloc | apply pw_below_drewN | apply below_drew1 | refine below_set ?_ GE396.out | refine below_set ?_ GE397.out | refine below_set ?_ GE399.out) | exact HB.out)⟩⟩
    case round =>
      clear H'
      try clear c2
      try clear p2
      try clear c4
      try clear c7
      try clear hcz8_0
      try clear hcz8_1
      try clear hcz8_2
      try clear hfz8_0
      try clear hfz8_1
      try clear hfz8_2
      obtain ⟨x9_1, x400000_1, u400000, rfl, HA, HK1, HO_400000, BK396, BK397, BK399, HB⟩ := hrel
      cases gk with
      | zero => exact absurd HA.out (by simp [bazaarref06_Delete.l0])
      | succ k1 =>
        have H := HA.out
        clear HA
        simp only [bazaarref06_Delete.l0] at H
        by_cases c11 : x9_1 < (l0_0.length : Int)
        · rw [if_pos c11] at H
          have c11b0 : decide (x9_1 < (l0_0.length : Int)) = true := decide_eq_true c11
          clear c11
          by_cases c12 : 0 ≤ x9_1
          · rw [if_pos c12] at H
            have c12b0 : decide (0 ≤ x9_1) = true := decide_eq_true c12
            clear c12
            by_cases c13 : ((rd_T39 l0_0 x9_1).f0).toList = a1.toList
            · rw [if_pos c13] at H
              have c13b0 : (((rd_T39 l0_0 x9_1).f0).toList == a1.toList) = true := beq_iff_eq.mpr c13
              have c13b1 : (((rd_T39 l0_0 x9_1).f0).toList != a1.toList) = false := bne_eq_false_iff_eq.mpr c13
              clear c13
              have H' := Aside0.mk H
              clear H
              have hnb14 := NB396_397.out
              have hnc14 := NB397_396.out
              have hnb15 := NB396_399.out
              have hnc15 := NB399_396.out
              have hcz16_0 : wr.cell? ⟨gb396, 0, none⟩ = some (.slice A0_0 l0_0.length c0_0) := (blk_cell BK396.out 0).trans rfl
              have hcz16_1 : wr.cell? ⟨gb396, 1, none⟩ = some (.slice A0_1 l0_1.length c0_1) := (blk_cell BK396.out 1).trans rfl
              have hcz16_2 : wr.cell? ⟨gb396, 2, none⟩ = some (.slice A0_2 l0_2.length c0_2) := (blk_cell BK396.out 2).trans rfl
              have hfz16_0 := blk_frozen BK396.out 0
              have hfz16_1 := blk_frozen BK396.out 1
              have hfz16_2 := blk_frozen BK396.out 2
              have p400 : 0 ≤ (x9_1 : Int) := of_decide_eq_true (by first | (with_reducible assumption) | assumption)
              have q400 : x9_1 < (l0_0.length : Int) := of_decide_eq_true (by first | (with_reducible assumption) | assumption)
              obtain ⟨ad400, e400, hx400_0, hx400_1⟩ := at_T39 HR0_0.out x9_1 p400 q400
              cases e400
              replace hx400_0 := (HB.out.cell (World.block_lt_of_cell? w _ hx400_0)).trans hx400_0
              replace hx400_1 := (HB.out.cell (World.block_lt_of_cell? w _ hx400_1)).trans hx400_1
              replace p400 := eq_true p400
              replace q400 := eq_true q400
              go_wp2
              go_roundg k1
              case measure => have := HK1.out; omega
              case rel => exact ⟨(wrap64 (x9_1 + 1)), (x400000_1), (u400000), (by first | rfl | (simp; done) | (simp [*]; done)), H', ⟨by have := HK1.out; omega⟩, ⟨by (with_reducible repeat (first | apply Kd.R_alloc | apply Kd.R_drewN | apply Kd.R_drew)); exact HO_400000.out⟩, ⟨by (with_reducible repeat (first | refine blk_drewN ?_ _ | refine blk_drew ?_ | refine blk_alloc ?_ _)); exact BK396.out⟩, ⟨by (with_reducible repeat (first | refine blk_drewN ?_ _ | refine blk_drew ?_ | refine blk_alloc ?_ _)); exact BK397.out⟩, ⟨by (with_reducible repeat (first | refine blk_drewN ?_ _ | refine blk_drew ?_ | refine blk_alloc ?_ _)); exact BK399.out⟩, ⟨by repeat (first | (with_reducible first | exact HB.out | apply below_alloc | apply pw_below_drewN | apply below_drew1 | refine below_set ?_ GE396.out | refine below_set ?_ GE397.out | refine below_set ?_ GE399.out) | exact HB.out)⟩⟩
            · rw [if_neg c13] at H
              have c13b0 : (((rd_T39 l0_0 x9_1).f0).toList == a1.toList) = false := beq_eq_false_iff_ne.mpr c13
              have c13b1 : (((rd_T39 l0_0 x9_1).f0).toList != a1.toList) = true := bne_iff_ne.mpr c13
              by_cases c17 : x400000_1.length < 4398046511104
              · rw [if_pos c17] at H
                have LMc17 := Aside0.mk c17
                clear c17
                obtain ⟨y402, hy402⟩ : ∃ y_ : List (S39), y_ = (x400000_1 ++ [(⟨(rd_T39 l0_0 x9_1).f0, (rd_T39 l0_0 x9_1).f1⟩ : S39)]) := ⟨_, rfl⟩
                replace H : (bazaarref06_Delete.l0 k1 a1 (wrap64 (x9_1 + 1)) l0_0 l0_1 l0_2 y402) = some (r1, r2, r3, r4, r5) := by first | (rw [hy402]; with_reducible exact H) | (have H2_ := (Option.bind_some _ _).symm.trans H; rw [hy402]; with_reducible exact H2_) | (have H2_ := (Option.bind_some _ _).symm.trans H; with_reducible exact H2_) | with_reducible exact H | (rw [hy402]; exact H) | exact H
                have Ny402 := Aside0.mk hy402
                clear hy402
                have H' := Aside0.mk H
                clear H
                have hnb18 := NB396_397.out
                have hnc18 := NB397_396.out
                have hnb19 := NB396_399.out
                have hnc19 := NB399_396.out
                have hcz20_0 : wr.cell? ⟨gb396, 0, none⟩ = some (.slice A0_0 l0_0.length c0_0) := (blk_cell BK396.out 0).trans rfl
                have hcz20_1 : wr.cell? ⟨gb396, 1, none⟩ = some (.slice A0_1 l0_1.length c0_1) := (blk_cell BK396.out 1).trans rfl
                have hcz20_2 : wr.cell? ⟨gb396, 2, none⟩ = some (.slice A0_2 l0_2.length c0_2) := (blk_cell BK396.out 2).trans rfl
                have hfz20_0 := blk_frozen BK396.out 0
                have hfz20_1 := blk_frozen BK396.out 1
                have hfz20_2 := blk_frozen BK396.out 2
                have p400 : 0 ≤ (x9_1 : Int) := of_decide_eq_true (by first | (with_reducible assumption) | assumption)
                have q400 : x9_1 < (l0_0.length : Int) := of_decide_eq_true (by first | (with_reducible assumption) | assumption)
                obtain ⟨ad400, e400, hx400_0, hx400_1⟩ := at_T39 HR0_0.out x9_1 p400 q400
                cases e400
                replace hx400_0 := (HB.out.cell (World.block_lt_of_cell? w _ hx400_0)).trans hx400_0
                replace hx400_1 := (HB.out.cell (World.block_lt_of_cell? w _ hx400_1)).trans hx400_1
                replace p400 := eq_true p400
                replace q400 := eq_true q400
                try go_wp2
                replace HO_400000 := Aside0.mk (Kd.R_drew HO_400000.out)
                replace BK396 := Aside0.mk (blk_drew BK396.out)
                replace BK397 := Aside0.mk (blk_drew BK397.out)
                replace BK399 := Aside0.mk (blk_drew BK399.out)
                replace HB := Aside0.mk (below_drew1 HB.out)
                have p401 : 0 ≤ (x9_1 : Int) := of_decide_eq_true (by first | (with_reducible assumption) | assumption)
                have q401 : x9_1 < (l0_0.length : Int) := of_decide_eq_true (by first | (with_reducible assumption) | assumption)
                obtain ⟨ad401, e401, hx401_0, hx401_1⟩ := at_T39 HR0_0.out x9_1 p401 q401
                have hw401_1 := hx401_1
                have hw401_0 := hx401_0
                obtain rfl : ad400 = ad401 := (by injection e401)
                replace hx401_0 := (HB.out.cell (World.block_lt_of_cell? w _ hx401_0)).trans hx401_0
                replace hx401_1 := (HB.out.cell (World.block_lt_of_cell? w _ hx401_1)).trans hx401_1
                replace p401 := eq_true p401
                replace q401 := eq_true q401
                refine start_ (n := 11) (S := fun w' => w'.cell? ⟨gb399, 0, none⟩ = some (u400000) ∧ w'.cell? ⟨gb399, 1, none⟩ = some (.slice none 0 0) ∧ w'.cell? ⟨gb399, 2, none⟩ = some (.slice none 0 0) ∧ w'.cell? ⟨gb396, 0, none⟩ = some (.slice (some ad400) l0_0.length c0_0) ∧ w'.cell? ⟨gb396, 1, none⟩ = some (.slice A0_1 l0_1.length c0_1) ∧ w'.cell? ⟨gb396, 2, none⟩ = some (.slice A0_2 l0_2.length c0_2) ∧ w'.cell? (ad400.add ((x9_1).toNat * 2)) = some (.string ((rd_T39 l0_0 x9_1).f0)) ∧ w'.cell? ⟨(ad400.add ((x9_1).toNat * 2)).block, (ad400.add ((x9_1).toNat * 2)).off + 1, none⟩ = some (.string ((rd_T39 l0_0 x9_1).f1))) (ds := [10]) #[false, false, false, false, false, false, false, false, false, false, false] (by kernel_rfl) rfl rfl ⟨(blk_cell BK399.out 0).trans rfl, (blk_cell BK399.out 1).trans rfl, (blk_cell BK399.out 2).trans rfl, (blk_cell BK396.out 0).trans rfl, (blk_cell BK396.out 1).trans rfl, (blk_cell BK396.out 2).trans rfl, ((HB.out.cell (World.block_lt_of_cell? w _ hw401_0)).trans hw401_0), ((HB.out.cell (World.block_lt_of_cell? w _ hw401_1)).trans hw401_1)⟩ (fun hHeld => ?_); refine with_tabW bazaarref06_Delete.tab9 bazaarref06_Delete.bits9 (fun HT_ HW_ => ?_)
                generalize wr.drew = w21 at HO_400000 BK396 BK397 BK399 HB hx401_0 hx401_1 hHeld ⊢
                refine pure_ (i := 0) (N := some 30) (v := ?_) (a' := ?_) #[true, false, false, false, false, false, false, false, false, false, false] rfl rfl (any_of HT_.out (by kernel_rfl)) (fun _ _ _ h => h) (Or.inl ⟨by rfl, ?_⟩) ?_ ?_
                rotate_left
                · intro w'
                  go_simp
                  with_reducible rfl
                rotate_left
                · simp only [Act.put, List.setIfInBounds_toArray, List.set_cons_zero, List.set_cons_succ, i64_w, i32_w]
                  rfl
                refine pure_ (i := 2) (N := some 32) (v := ?_) (a' := ?_) #[true, false, true, false, false, false, false, false, false, false, false] rfl rfl (any_of HT_.out (by kernel_rfl)) (fun _ _ _ h => h) (Or.inl ⟨by rfl, ?_⟩) ?_ ?_
                rotate_left
                · intro w'
                  go_simp
                  with_reducible rfl
                rotate_left
                · simp only [Act.put, List.setIfInBounds_toArray, List.set_cons_zero, List.set_cons_succ, i64_w, i32_w]
                  rfl
                refine pure_ (i := 4) (N := some 34) (v := ?_) (a' := ?_) #[true, false, true, false, true, false, false, false, false, false, false] rfl rfl (any_of HT_.out (by kernel_rfl)) (fun _ _ _ h => h) (Or.inl ⟨by rfl, ?_⟩) ?_ ?_
                rotate_left
                · intro w'
                  go_simp
                  with_reducible rfl
                rotate_left
                · simp only [Act.put, List.setIfInBounds_toArray, List.set_cons_zero, List.set_cons_succ, i64_w, i32_w]
                  rfl
                refine take_ (i := 1) (N := some 31) (v := ?_) (a' := ?_) #[true, true, true, false, true, false, false, false, false, false, false] rfl rfl (take_ofW HT_.out HW_.out (by kernel_rfl)) (fun _ _ _ h => h) (Or.inl ⟨by rfl, ?_⟩) hHeld ?_ ?_
                rotate_left
                · rintro w' ⟨s0, s1, s2, s3, s4, s5, s6, s7⟩
                  go_simp
                  with_reducible rfl
                rotate_left
                · simp only [Act.put, List.setIfInBounds_toArray, List.set_cons_zero, List.set_cons_succ, i64_w, i32_w]
                  rfl
                refine take_ (i := 3) (N := some 33) (v := ?_) (a' := ?_) #[true, true, true, true, true, false, false, false, false, false, false] rfl rfl (take_ofW HT_.out HW_.out (by kernel_rfl)) (fun _ _ _ h => h) (Or.inl ⟨by rfl, ?_⟩) hHeld ?_ ?_
                rotate_left
                · rintro w' ⟨s0, s1, s2, s3, s4, s5, s6, s7⟩
                  go_simp
                  with_reducible rfl
                rotate_left
                · simp only [Act.put, List.setIfInBounds_toArray, List.set_cons_zero, List.set_cons_succ, i64_w, i32_w]
                  rfl
                refine pure_ (i := 5) (N := some 35) (v := ?_) (a' := ?_) #[true, true, true, true, true, true, false, false, false, false, false] rfl rfl (any_of HT_.out (by kernel_rfl)) (fun _ _ _ h => h) (Or.inl ⟨by rfl, ?_⟩) ?_ ?_
                rotate_left
                · intro w'
                  go_simp
                  with_reducible rfl
                rotate_left
                · simp only [Act.put, List.setIfInBounds_toArray, List.set_cons_zero, List.set_cons_succ, i64_w, i32_w]
                  rfl
                refine take_ (i := 6) (N := some 36) (v := ?_) (a' := ?_) #[true, true, true, true, true, true, true, false, false, false, false] rfl rfl (take_ofW HT_.out HW_.out (by kernel_rfl)) (fun _ _ _ h => h) (Or.inl ⟨by rfl, ?_⟩) hHeld ?_ ?_
                rotate_left
                · rintro w' ⟨s0, s1, s2, s3, s4, s5, s6, s7⟩
                  go_simp
                  with_reducible rfl
                rotate_left
                · simp only [Act.put, List.setIfInBounds_toArray, List.set_cons_zero, List.set_cons_succ, i64_w, i32_w]
                  rfl
                refine one_ (i := 7) (N := some 37) #[true, true, true, true, true, true, true, true, false, false, false] rfl rfl (one_of HT_.out (by kernel_rfl)) (by decide) (fun K hK => ?_)
                refine value_ (w1 := ?_) (v := ?_) (by rfl) rfl ?_ ?_
                rotate_left 2
                · go_simp
                  constructor
                  · rfl
                  · rfl
                refine hK.out _ _ ⟨(blk_cell (blk_alloc BK399.out _) 0).trans rfl, (blk_cell (blk_alloc BK399.out _) 1).trans rfl, (blk_cell (blk_alloc BK399.out _) 2).trans rfl, (blk_cell (blk_alloc BK396.out _) 0).trans rfl, (blk_cell (blk_alloc BK396.out _) 1).trans rfl, (blk_cell (blk_alloc BK396.out _) 2).trans rfl, (World.cell?_alloc_lt _ _ _ (World.block_lt_of_cell? _ _ (((HB.out.cell (World.block_lt_of_cell? w _ hw401_0)).trans hw401_0)))).trans (((HB.out.cell (World.block_lt_of_cell? w _ hw401_0)).trans hw401_0)), (World.cell?_alloc_lt _ _ _ (World.block_lt_of_cell? _ _ (((HB.out.cell (World.block_lt_of_cell? w _ hw401_1)).trans hw401_1)))).trans (((HB.out.cell (World.block_lt_of_cell? w _ hw401_1)).trans hw401_1))⟩ (fun hHeld => ?_)
                clear hK K
                refine norm_ (a' := ?_) ?_ ?_
                rotate_left
                · show Act.put _ (some 37) _ = _
                  simp only [Act.put, List.setIfInBounds_toArray, List.set_cons_zero, List.set_cons_succ, i64_w, i32_w]
                  rfl
                refine one_ (i := 8) (N := some 38) #[true, true, true, true, true, true, true, true, true, false, false] rfl rfl (one_of HT_.out (by kernel_rfl)) (by decide) (fun K hK => ?_)
                refine Kd.R_append_step k39 (w0 := w) w.heap.size (by rfl) (.tmp 31) (.tmp 37) 22 39 (.agg #[(.string ⟨#[]⟩), (.string ⟨#[]⟩)]) 32 rfl Try.underlying22 info39 rfl (by decide) (by omega) u400000 x400000_1 (⟨(rd_T39 l0_0 x9_1).f0, (rd_T39 l0_0 x9_1).f1⟩ : S39) [.string ((rd_T39 l0_0 x9_1).f0), .string ((rd_T39 l0_0 x9_1).f1)] (fun _ => True) (fun _ => False) rfl rfl ?aP (fun _ hk => hk.elim) ?aF ?aO ?aB ?aS ?aL ?_
                (case aP => exact k39_mkM _ _ _ (⟨(rd_T39 l0_0 x9_1).f0, (rd_T39 l0_0 x9_1).f1⟩ : S39))
                (case aB => exact (L_ HB.out))
                (case aF => exact (fun _ _ => trivial))
                (case aO => exact (R_ HO_400000.out))
                (case aS => exact (below_size (L_ HB.out)))
                (case aL => have := LMc17.out; omega)
                intro v403 w22 ho hb hg hat
                rw [← Ny402.out] at ho
                have HO404 := Aside0.mk (ho)
                replace BK396 := Aside0.mk (blk_grown (g := gb396) (o := .cells #[.slice (some ad400) l0_0.length c0_0, .slice A0_1 l0_1.length c0_1, .slice A0_2 l0_2.length c0_2] 26 (0, 0)) (B_ BK396.out) hg (Kd.R_ne HO_400000.out BK396.out (by decide)))
                replace BK397 := Aside0.mk (blk_grown (g := gb397) (o := .cells #[.slice none 0 0, .slice none 0 0, .slice none 0 0] 26 (0, 0)) (B_ BK397.out) hg (Kd.R_ne HO_400000.out BK397.out (by decide)))
                replace BK399 := Aside0.mk (blk_grown (g := gb399) (o := .cells #[u400000, .slice none 0 0, .slice none 0 0] 26 (0, 0)) (B_ BK399.out) hg (Kd.R_ne HO_400000.out BK399.out (by decide)))
                replace HB := Aside0.mk (hb)
                clear HO_400000
                clear ho hb hg hat
                obtain ⟨Ao23, co23, eo23⟩ := Kd.R_slice HO404.out
                (first | subst eo23 | (injection eo23 with f1_ f2_ f3_; have f4_ := f1_.symm; have f5_ := f3_.symm; clear f1_ f2_ f3_; subst f4_; subst f5_))
                refine hK.out _ _ ⟨(blk_cell BK399.out 0).trans rfl, (blk_cell BK399.out 1).trans rfl, (blk_cell BK399.out 2).trans rfl, (blk_cell BK396.out 0).trans rfl, (blk_cell BK396.out 1).trans rfl, (blk_cell BK396.out 2).trans rfl, ((HB.out.cell (World.block_lt_of_cell? w _ hw401_0)).trans hw401_0), ((HB.out.cell (World.block_lt_of_cell? w _ hw401_1)).trans hw401_1)⟩ (fun hHeld => ?_)
                clear hK K
                refine norm_ (a' := ?_) ?_ ?_
                rotate_left
                · show Act.put _ (some 38) _ = _
                  simp only [Act.put, List.setIfInBounds_toArray, List.set_cons_zero, List.set_cons_succ, i64_w, i32_w]
                  rfl
                refine pure_ (i := 9) (N := some 39) (v := ?_) (a' := ?_) #[true, true, true, true, true, true, true, true, true, true, false] rfl rfl (any_of HT_.out (by kernel_rfl)) (fun _ _ _ h => h) (Or.inl ⟨by rfl, ?_⟩) ?_ ?_
                rotate_left
                · intro w'
                  go_simp
                  with_reducible rfl
                rotate_left
                · simp only [Act.put, List.setIfInBounds_toArray, List.set_cons_zero, List.set_cons_succ, i64_w, i32_w]
                  rfl
                refine last_ (i := 10) (N := none) #[true, true, true, true, true, true, true, true, true, true, true] rfl rfl (one_of HT_.out (by kernel_rfl)) (by decide) (fun K hK => ?_)
                have hs24 : w22.cell? ⟨gb399, 0, none⟩ = some (u400000) := (blk_cell BK399.out 0).trans rfl
                have hfs24 := blk_frozen BK399.out 0
                have hns24_0 := NB396_399.out
                have hns24_1 := NB397_399.out
                have hms24_0 := NB399_396.out
                have hms24_1 := NB399_397.out
                refine skip_ (w1 := ?_) (by rfl) rfl ?_ ?_
                rotate_left
                · go_simp
                  rfl
                refine hK.out _ _ ?_
                clear hK K
                refine done_ (done_of HT_.out (by kernel_rfl)) ?_
                try go_wp2
                go_roundg k1
                case measure => have := HK1.out; omega
                case rel => exact ⟨(wrap64 (x9_1 + 1)), (y402), (.slice Ao23 y402.length co23), (by first | rfl | (simp; done) | (simp [*]; done)), H', ⟨by have := HK1.out; omega⟩, ⟨by (with_reducible repeat (first | apply Kd.R_alloc | apply Kd.R_drewN | apply Kd.R_drew)); exact Kd.R_mono (Kd.R_far (p := ⟨gb399, 0, none⟩) (Kd.R_types HO404.out BK399.out (by decide)) (fun _ hk => hk.2) (.slice Ao23 y402.length co23)) (fun _ hk => trivial)⟩, ⟨by (with_reducible repeat (first | refine blk_drewN ?_ _ | refine blk_drew ?_ | refine blk_alloc ?_ _)); refine blk_far ?_ NB396_399.out _; (with_reducible repeat (first | refine blk_drewN ?_ _ | refine blk_drew ?_ | refine blk_alloc ?_ _)); exact BK396.out⟩, ⟨by (with_reducible repeat (first | refine blk_drewN ?_ _ | refine blk_drew ?_ | refine blk_alloc ?_ _)); refine blk_far ?_ NB397_399.out _; (with_reducible repeat (first | refine blk_drewN ?_ _ | refine blk_drew ?_ | refine blk_alloc ?_ _)); exact BK397.out⟩, ⟨by (with_reducible repeat (first | refine blk_drewN ?_ _ | refine blk_drew ?_ | refine blk_alloc ?_ _)); refine blk_put (cs := #[u400000, .slice none 0 0, .slice none 0 0]) ?_ 0 _ rfl; (with_reducible repeat (first | refine blk_drewN ?_ _ | refine blk_drew ?_ | refine blk_alloc ?_ _)); exact BK399.out⟩, ⟨by repeat (first | (with_reducible first | exact HB.out | apply below_alloc | apply pw_below_drewN | apply below_drew1 | refine below_set ?_ GE396.out | refine below_set ?_ GE397.out | refine below_set ?_ GE399.out) | exact HB.out)⟩⟩
              · rw [if_neg c17] at H
                exact absurd H (by simp)
          · rw [if_neg c12] at H
            exact absurd H (by simp)
        · rw [if_neg c11] at H
          have c11b0 : decide (x9_1 < (l0_0.length : Int)) = false := decide_eq_false c11
          clear c11
          simp only [Option.some.injEq, Prod.mk.injEq] at H
          obtain ⟨rfl, rfl, rfl, rfl, rfl⟩ := H
          have hnb25 := NB396_397.out
          have hnc25 := NB397_396.out
          have hnb26 := NB396_399.out
          have hnc26 := NB399_396.out
          have hcz27_0 : wr.cell? ⟨gb396, 0, none⟩ = some (.slice A0_0 l0_0.length c0_0) := (blk_cell BK396.out 0).trans rfl
          have hcz27_1 : wr.cell? ⟨gb396, 1, none⟩ = some (.slice A0_1 l0_1.length c0_1) := (blk_cell BK396.out 1).trans rfl
          have hcz27_2 : wr.cell? ⟨gb396, 2, none⟩ = some (.slice A0_2 l0_2.length c0_2) := (blk_cell BK396.out 2).trans rfl
          have hfz27_0 := blk_frozen BK396.out 0
          have hfz27_1 := blk_frozen BK396.out 1
          have hfz27_2 := blk_frozen BK396.out 2
          try go_wp2
          replace HO_400000 := Aside0.mk (Kd.R_drew HO_400000.out)
          replace BK396 := Aside0.mk (blk_drew BK396.out)
          replace BK397 := Aside0.mk (blk_drew BK397.out)
          replace BK399 := Aside0.mk (blk_drew BK399.out)
          replace HB := Aside0.mk (below_drew1 HB.out)
          obtain ⟨Ao29, co29, eo29⟩ := Kd.R_slice HO_400000.out
          (first | subst eo29 | (injection eo29 with f1_ f2_ f3_; have f4_ := f1_.symm; have f5_ := f3_.symm; clear f1_ f2_ f3_; subst f4_; subst f5_))
          refine start_ (n := 11) (S := fun w' => w'.cell? ⟨gb399, 0, none⟩ = some (.slice Ao29 x400000_1.length co29) ∧ w'.cell? ⟨gb399, 1, none⟩ = some (.slice none 0 0) ∧ w'.cell? ⟨gb399, 2, none⟩ = some (.slice none 0 0) ∧ w'.cell? ⟨gb396, 0, none⟩ = some (.slice A0_0 l0_0.length c0_0) ∧ w'.cell? ⟨gb396, 1, none⟩ = some (.slice A0_1 l0_1.length c0_1) ∧ w'.cell? ⟨gb396, 2, none⟩ = some (.slice A0_2 l0_2.length c0_2)) (ds := []) #[false, false, false, false, false, false, false, false, false, false, false] (by kernel_rfl) rfl rfl ⟨(blk_cell BK399.out 0).trans rfl, (blk_cell BK399.out 1).trans rfl, (blk_cell BK399.out 2).trans rfl, (blk_cell BK396.out 0).trans rfl, (blk_cell BK396.out 1).trans rfl, (blk_cell BK396.out 2).trans rfl⟩ (fun hHeld => ?_); refine with_tabW bazaarref06_Delete.tab10 bazaarref06_Delete.bits10 (fun HT_ HW_ => ?_)
          generalize wr.drew = w28 at HO_400000 BK396 BK397 BK399 HB hHeld ⊢
          refine pure_ (i := 1) (N := some 41) (v := ?_) (a' := ?_) #[false, true, false, false, false, false, false, false, false, false, false] rfl rfl (any_of HT_.out (by kernel_rfl)) (fun _ _ _ h => h) (Or.inl ⟨by rfl, ?_⟩) ?_ ?_
          rotate_left
          · intro w'
            go_simp
            with_reducible rfl
          rotate_left
          · simp only [Act.put, List.setIfInBounds_toArray, List.set_cons_zero, List.set_cons_succ, i64_w, i32_w]
            rfl
          refine pure_ (i := 4) (N := some 44) (v := ?_) (a' := ?_) #[false, true, false, false, true, false, false, false, false, false, false] rfl rfl (any_of HT_.out (by kernel_rfl)) (fun _ _ _ h => h) (Or.inl ⟨by rfl, ?_⟩) ?_ ?_
          rotate_left
          · intro w'
            go_simp
            with_reducible rfl
          rotate_left
          · simp only [Act.put, List.setIfInBounds_toArray, List.set_cons_zero, List.set_cons_succ, i64_w, i32_w]
            rfl
          refine take_ (i := 0) (N := some 40) (v := ?_) (a' := ?_) #[true, true, false, false, true, false, false, false, false, false, false] rfl rfl (take_ofW HT_.out HW_.out (by kernel_rfl)) (fun _ _ _ h => h) (Or.inl ⟨by rfl, ?_⟩) hHeld ?_ ?_
          rotate_left
          · rintro w' ⟨s0, s1, s2, s3, s4, s5⟩
            go_simp
            with_reducible rfl
          rotate_left
          · simp only [Act.put, List.setIfInBounds_toArray, List.set_cons_zero, List.set_cons_succ, i64_w, i32_w]
            rfl
          refine take_ (i := 2) (N := some 42) (v := ?_) (a' := ?_) #[true, true, true, false, true, false, false, false, false, false, false] rfl rfl (take_ofW HT_.out HW_.out (by kernel_rfl)) (fun _ _ _ h => h) (Or.inl ⟨by rfl, ?_⟩) hHeld ?_ ?_
          rotate_left
          · rintro w' ⟨s0, s1, s2, s3, s4, s5⟩
            go_simp
            with_reducible rfl
          rotate_left
          · simp only [Act.put, List.setIfInBounds_toArray, List.set_cons_zero, List.set_cons_succ, i64_w, i32_w]
            rfl
          refine pure_ (i := 3) (N := some 43) (v := ?_) (a' := ?_) #[true, true, true, true, true, false, false, false, false, false, false] rfl rfl (any_of HT_.out (by kernel_rfl)) (fun _ _ _ h => h) (Or.inl ⟨by rfl, ?_⟩) ?_ ?_
          rotate_left
          · intro w'
            go_simp
            with_reducible rfl
          rotate_left
          · simp only [Act.put, List.setIfInBounds_toArray, List.set_cons_zero, List.set_cons_succ, i64_w, i32_w]
            rfl
          refine take_ (i := 5) (N := some 45) (v := ?_) (a' := ?_) #[true, true, true, true, true, true, false, false, false, false, false] rfl rfl (take_ofW HT_.out HW_.out (by kernel_rfl)) (fun _ _ _ h => h) (Or.inl ⟨by rfl, ?_⟩) hHeld ?_ ?_
          rotate_left
          · rintro w' ⟨s0, s1, s2, s3, s4, s5⟩
            go_simp
            with_reducible rfl
          rotate_left
          · simp only [Act.put, List.setIfInBounds_toArray, List.set_cons_zero, List.set_cons_succ, i64_w, i32_w]
            rfl
          refine pure_ (i := 6) (N := some 46) (v := ?_) (a' := ?_) #[true, true, true, true, true, true, true, false, false, false, false] rfl rfl (any_of HT_.out (by kernel_rfl)) (fun _ _ _ h => h) (Or.inl ⟨by rfl, ?_⟩) ?_ ?_
          rotate_left
          · intro w'
            go_simp
            with_reducible rfl
          rotate_left
          · simp only [Act.put, List.setIfInBounds_toArray, List.set_cons_zero, List.set_cons_succ, i64_w, i32_w]
            rfl
          refine pure_ (i := 7) (N := some 47) (v := ?_) (a' := ?_) #[true, true, true, true, true, true, true, true, false, false, false] rfl rfl (any_of HT_.out (by kernel_rfl)) (fun _ _ _ h => h) (Or.inl ⟨by rfl, ?_⟩) ?_ ?_
          rotate_left
          · intro w'
            go_simp
            with_reducible rfl
          rotate_left
          · simp only [Act.put, List.setIfInBounds_toArray, List.set_cons_zero, List.set_cons_succ, i64_w, i32_w]
            rfl
          refine one_ (i := 8) (N := none) #[true, true, true, true, true, true, true, true, true, false, false] rfl rfl (one_of HT_.out (by kernel_rfl)) (by decide) (fun K hK => ?_)
          have hs30 : w28.cell? ⟨gb397, 0, none⟩ = some (.slice none 0 0) := (blk_cell BK397.out 0).trans rfl
          have hfs30 := blk_frozen BK397.out 0
          have hns30_0 := NB396_397.out
          have hns30_2 := NB399_397.out
          have hms30_0 := NB397_396.out
          have hms30_2 := NB397_399.out
          have hs31 : w28.cell? ⟨gb397, 1, none⟩ = some (.slice none 0 0) := (blk_cell BK397.out 1).trans rfl
          have hfs31 := blk_frozen BK397.out 1
          have hns31_0 := NB396_397.out
          have hns31_2 := NB399_397.out
          have hms31_0 := NB397_396.out
          have hms31_2 := NB397_399.out
          have hs32 : w28.cell? ⟨gb397, 2, none⟩ = some (.slice none 0 0) := (blk_cell BK397.out 2).trans rfl
          have hfs32 := blk_frozen BK397.out 2
          have hns32_0 := NB396_397.out
          have hns32_2 := NB399_397.out
          have hms32_0 := NB397_396.out
          have hms32_2 := NB397_399.out
          refine skip_ (w1 := ?_) (by rfl) rfl ?_ ?_
          rotate_left
          · go_simp
            rfl
          refine hK.out _ _ ⟨((cell_far (p := ⟨gb397, _, none⟩) NB399_397.out _).trans (((cell_far (p := ⟨gb397, _, none⟩) NB399_397.out _).trans (((cell_far (p := ⟨gb397, _, none⟩) NB399_397.out _).trans (hHeld.1)))))), ((cell_far (p := ⟨gb397, _, none⟩) NB399_397.out _).trans (((cell_far (p := ⟨gb397, _, none⟩) NB399_397.out _).trans (((cell_far (p := ⟨gb397, _, none⟩) NB399_397.out _).trans (hHeld.2.1)))))), ((cell_far (p := ⟨gb397, _, none⟩) NB399_397.out _).trans (((cell_far (p := ⟨gb397, _, none⟩) NB399_397.out _).trans (((cell_far (p := ⟨gb397, _, none⟩) NB399_397.out _).trans (hHeld.2.2.1)))))), ((cell_far (p := ⟨gb397, _, none⟩) NB396_397.out _).trans (((cell_far (p := ⟨gb397, _, none⟩) NB396_397.out _).trans (((cell_far (p := ⟨gb397, _, none⟩) NB396_397.out _).trans (hHeld.2.2.2.1)))))), ((cell_far (p := ⟨gb397, _, none⟩) NB396_397.out _).trans (((cell_far (p := ⟨gb397, _, none⟩) NB396_397.out _).trans (((cell_far (p := ⟨gb397, _, none⟩) NB396_397.out _).trans (hHeld.2.2.2.2.1)))))), ((cell_far (p := ⟨gb397, _, none⟩) NB396_397.out _).trans (((cell_far (p := ⟨gb397, _, none⟩) NB396_397.out _).trans (((cell_far (p := ⟨gb397, _, none⟩) NB396_397.out _).trans (hHeld.2.2.2.2.2))))))⟩ (fun hHeld => ?_)
          clear hK K
          refine pure_ (i := 9) (N := some 5) (v := ?_) (a' := ?_) #[true, true, true, true, true, true, true, true, true, true, false] rfl rfl (any_of HT_.out (by kernel_rfl)) (fun _ _ _ h => h) (Or.inl ⟨by rfl, ?_⟩) ?_ ?_
          rotate_left
          · intro w'
            go_simp
            with_reducible rfl
          rotate_left
          · simp only [Act.put, List.setIfInBounds_toArray, List.set_cons_zero, List.set_cons_succ, i64_w, i32_w]
            rfl
          refine pure_ (i := 10) (N := some 6) (v := ?_) (a' := ?_) #[true, true, true, true, true, true, true, true, true, true, true] rfl rfl (any_of HT_.out (by kernel_rfl)) (fun _ _ _ h => h) (Or.inl ⟨by rfl, ?_⟩) ?_ ?_
          rotate_left
          · intro w'
            go_simp
            with_reducible rfl
          rotate_left
          · simp only [Act.put, List.setIfInBounds_toArray, List.set_cons_zero, List.set_cons_succ, i64_w, i32_w]
            rfl
          refine done_ (done_of HT_.out (by kernel_rfl)) ?_
          try go_wp2
          refine bodyPost_ret (results_ctt rfl _ _ gb397 26 #[.slice Ao29 x400000_1.length co29, .slice none 0 0, .slice none 0 0] (0, 0) _ rfl (by (with_reducible repeat (first | refine blk_drewN ?_ _ | refine blk_drew ?_ | refine blk_alloc ?_ _)); refine blk_put (cs := #[.slice Ao29 x400000_1.length co29, .slice none 0 0, .slice none 0 0]) ?_ 2 _ rfl; (with_reducible repeat (first | refine blk_drewN ?_ _ | refine blk_drew ?_ | refine blk_alloc ?_ _)); refine blk_put (cs := #[.slice Ao29 x400000_1.length co29, .slice none 0 0, .slice none 0 0]) ?_ 1 _ rfl; (with_reducible repeat (first | refine blk_drewN ?_ _ | refine blk_drew ?_ | refine blk_alloc ?_ _)); refine blk_put (cs := #[.slice none 0 0, .slice none 0 0, .slice none 0 0]) ?_ 0 _ rfl; (with_reducible repeat (first | refine blk_drewN ?_ _ | refine blk_drew ?_ | refine blk_alloc ?_ _)); exact BK397.out) Try.underlying26 rfl (by kernel_rfl)) rfl ?_
          exact ⟨_, _, _, by first | rfl | (simp [errW_none, errW_some] <;> rfl) | (simp [errW_none, errW_some]; exact ⟨rfl, rfl, rfl⟩) | (simp [*, errW_none, errW_some] <;> rfl), by (with_reducible repeat (first | apply Kd.R_alloc | apply Kd.R_drewN | apply Kd.R_drew)); exact Kd.R_mono (Kd.R_far (p := ⟨gb397, 2, none⟩) (Kd.R_far (p := ⟨gb397, 1, none⟩) (Kd.R_far (p := ⟨gb397, 0, none⟩) (Kd.R_types HO_400000.out BK397.out (by decide)) (fun _ hk => hk.2) (.slice Ao29 x400000_1.length co29)) (fun _ hk => hk.2) (.slice none 0 0)) (fun _ hk => hk.2) (.slice none 0 0)) (fun _ hk => trivial), by first | exact Kd.R_nil _ _ _ _ _ | exact Kd.N_nil _ _ _ _ _ | exact Kd.V_nil _ _ _ _ _ | exact Kd.Q_nil _ _ _ _ _ | exact Kd.S_nil _ _ _ _ _, by first | exact Kd.R_nil _ _ _ _ _ | exact Kd.N_nil _ _ _ _ _ | exact Kd.V_nil _ _ _ _ _ | exact Kd.Q_nil _ _ _ _ _ | exact Kd.S_nil _ _ _ _ _, by repeat (first | (with_reducible first | exact HB.out | apply below_alloc | apply pw_below_drewN | apply below_drew1 | refine below_set ?_ GE396.out | refine below_set ?_ GE397.out | refine below_set ?_ GE399.out) | exact HB.out)⟩
  · replace c4 := Bool.eq_false_iff.mpr c4
    subst c4
    have H1 : (some (([] : List (S39)), ([] : List ByteArray), ([] : List Int), false, 60)) = some (r1, r2, r3, r4, r5) := by rw [if_neg (show ¬ (false = true) by decide)] at H; exact H
    clear H
    have H := H1
    clear H1
    simp only [Option.some.injEq, Prod.mk.injEq] at H
    obtain ⟨rfl, rfl, rfl, rfl, rfl⟩ := H
    go_enter Try.func25, Try.ntmps25
    go_wp2_with (first | ((with_reducible refine gate_dst (N := 2) rfl ?_); refine box_event ?hg (N := 2) ?hd (cs := #[.slice A0_0 l0_0.length c0_0, .slice A0_1 l0_1.length c0_1, .slice A0_2 l0_2.length c0_2]) (t := 26) ?hr ?_; (case hd => rfl); (case hg => rfl); (case hr => first | (go_simp; done) | (go_simp; rfl)); intro gb396 hg w33 hbox hb; have BK396 := Aside0.mk (hbox); have GW396 := Aside0.mk ((by rw [hg]; exact (below_size (L_ HB.out)) : w.heap.size ≤ gb396)); have GE396 := Aside0.mk ((by rw [hg]; exact (below_size (L_ HB.out)) : w.heap.size ≤ gb396)); replace HB := Aside0.mk (below_step (L_ HB.out) hb); clear hb hbox hg) | ((with_reducible refine gate_dst (N := 4) rfl ?_); refine box_event ?hg (N := 4) ?hd (cs := #[.slice none 0 0, .slice none 0 0, .slice none 0 0]) (t := 26) ?hr ?_; (case hd => rfl); (case hg => rfl); (case hr => first | (go_simp; done) | (go_simp; rfl)); intro gb397 hg w34 hbox hb; have BK397 := Aside0.mk (hbox); have GW397 := Aside0.mk ((by rw [hg]; exact (below_size (L_ HB.out)) : w.heap.size ≤ gb397)); have GE397 := Aside0.mk ((by rw [hg]; exact (below_size (L_ HB.out)) : w.heap.size ≤ gb397)); have NB396_397 := Aside0.mk ((by rw [hg]; exact Nat.ne_of_lt (blk_lt (g := gb396) (o := .cells #[.slice A0_0 l0_0.length c0_0, .slice A0_1 l0_1.length c0_1, .slice A0_2 l0_2.length c0_2] 26 (0, 0)) (B_ BK396.out)) : gb396 ≠ gb397)); have NB397_396 := Aside0.mk ((by rw [hg]; exact Nat.ne_of_gt (blk_lt (g := gb396) (o := .cells #[.slice A0_0 l0_0.length c0_0, .slice A0_1 l0_1.length c0_1, .slice A0_2 l0_2.length c0_2] 26 (0, 0)) (B_ BK396.out)) : gb397 ≠ gb396)); replace BK396 := Aside0.mk (blk_below (g := gb396) (o := .cells #[.slice A0_0 l0_0.length c0_0, .slice A0_1 l0_1.length c0_1, .slice A0_2 l0_2.length c0_2] 26 (0, 0)) (B_ BK396.out) hb); replace HB := Aside0.mk (below_step (L_ HB.out) hb); clear hb hbox hg; have hnb35 := NB396_397.out; have hnc35 := NB397_396.out; have hcz36_0 : w34.cell? ⟨gb396, 0, none⟩ = some (.slice A0_0 l0_0.length c0_0) := (blk_cell BK396.out 0).trans rfl; have hcz36_1 : w34.cell? ⟨gb396, 1, none⟩ = some (.slice A0_1 l0_1.length c0_1) := (blk_cell BK396.out 1).trans rfl; have hcz36_2 : w34.cell? ⟨gb396, 2, none⟩ = some (.slice A0_2 l0_2.length c0_2) := (blk_cell BK396.out 2).trans rfl; have hfz36_0 := blk_frozen BK396.out 0; have hfz36_1 := blk_frozen BK396.out 1; have hfz36_2 := blk_frozen BK396.out 2) | ((with_reducible refine gate_callee (f := 40) rfl ?_); refine goesL_ (some 11) rfl rfl Try.func40 (by kernel_rfl) rfl #[.agg #[.slice A0_0 l0_0.length c0_0, .slice A0_1 l0_1.length c0_1, .slice A0_2 l0_2.length c0_2]] rfl (by (try simp only [List.map_toArray, List.map_cons, List.map_nil]); first | done | rfl | (simp only [List.length_drop, List.length_take]; rfl)) ?_; (with_reducible refine (bazaarref06_leaf.calls k _ _ l0_0 _ _ l0_1 _ _ l0_2 false _ ?side1 ?side2 ?side3 ?side4 ?side5 ?side6 A3.out).mono ?_); (case side1 => repeat (first | exact (Kd.C_below HR0_0.out HB.out) | (with_reducible refine Kd.C_alloc ?_ _) | (with_reducible refine Kd.C_drewN ?_ _) | (with_reducible refine Kd.C_drew ?_))); (case side2 => exact HC0_0.out); (case side3 => repeat (first | exact (Kd.C_below HR0_1.out HB.out) | (with_reducible refine Kd.C_alloc ?_ _) | (with_reducible refine Kd.C_drewN ?_ _) | (with_reducible refine Kd.C_drew ?_))); (case side4 => exact HC0_1.out); (case side5 => repeat (first | exact (Kd.C_below HR0_2.out HB.out) | (with_reducible refine Kd.C_alloc ?_ _) | (with_reducible refine Kd.C_drewN ?_ _) | (with_reducible refine Kd.C_drew ?_))); (case side6 => exact HC0_2.out); rintro e w37 ⟨rfl, hb⟩; refine ⟨_, rfl, ?_⟩; replace BK396 := Aside0.mk (blk_below (g := gb396) (o := .cells #[.slice A0_0 l0_0.length c0_0, .slice A0_1 l0_1.length c0_1, .slice A0_2 l0_2.length c0_2] 26 (0, 0)) (B_ BK396.out) hb); replace BK397 := Aside0.mk (blk_below (g := gb397) (o := .cells #[.slice none 0 0, .slice none 0 0, .slice none 0 0] 26 (0, 0)) (B_ BK397.out) hb); replace HB := Aside0.mk (below_step (L_ HB.out) hb); (try clear hb); (try clear hb2); (try clear hk); (try clear hi); have hcz38_0 : w37.cell? ⟨gb397, 0, none⟩ = some (.slice none 0 0) := (blk_cell BK397.out 0).trans rfl; have hcz38_1 : w37.cell? ⟨gb397, 1, none⟩ = some (.slice none 0 0) := (blk_cell BK397.out 1).trans rfl; have hcz38_2 : w37.cell? ⟨gb397, 2, none⟩ = some (.slice none 0 0) := (blk_cell BK397.out 2).trans rfl; have hfz38_0 := blk_frozen BK397.out 0; have hfz38_1 := blk_frozen BK397.out 1; have hfz38_2 := blk_frozen BK397.out 2))
    refine bodyPost_ret (results_ctt rfl _ _ gb397 26 #[.slice none 0 0, .slice none 0 0, .slice none 0 0] (0, 0) _ rfl (by (with_reducible repeat (first | refine blk_drewN ?_ _ | refine blk_drew ?_ | refine blk_alloc ?_ _)); refine blk_put (cs := #[.slice none 0 0, .slice none 0 0, .slice none 0 0]) ?_ 2 _ rfl; (with_reducible repeat (first | refine blk_drewN ?_ _ | refine blk_drew ?_ | refine blk_alloc ?_ _)); refine blk_put (cs := #[.slice none 0 0, .slice none 0 0, .slice none 0 0]) ?_ 1 _ rfl; (with_reducible repeat (first | refine blk_drewN ?_ _ | refine blk_drew ?_ | refine blk_alloc ?_ _)); refine blk_put (cs := #[.slice none 0 0, .slice none 0 0, .slice none 0 0]) ?_ 0 _ rfl; (with_reducible repeat (first | refine blk_drewN ?_ _ | refine blk_drew ?_ | refine blk_alloc ?_ _)); exact BK397.out) Try.underlying26 rfl (by kernel_rfl)) rfl ?_
    exact ⟨_, _, _, by first | rfl | (simp [errW_none, errW_some] <;> rfl) | (simp [errW_none, errW_some]; exact ⟨rfl, rfl, rfl⟩) | (simp [*, errW_none, errW_some] <;> rfl), by first | exact Kd.R_nil _ _ _ _ _ | exact Kd.N_nil _ _ _ _ _ | exact Kd.V_nil _ _ _ _ _ | exact Kd.Q_nil _ _ _ _ _ | exact Kd.S_nil _ _ _ _ _, by first | exact Kd.R_nil _ _ _ _ _ | exact Kd.N_nil _ _ _ _ _ | exact Kd.V_nil _ _ _ _ _ | exact Kd.Q_nil _ _ _ _ _ | exact Kd.S_nil _ _ _ _ _, by first | exact Kd.R_nil _ _ _ _ _ | exact Kd.N_nil _ _ _ _ _ | exact Kd.V_nil _ _ _ _ _ | exact Kd.Q_nil _ _ _ _ _ | exact Kd.S_nil _ _ _ _ _, by repeat (first | (with_reducible first | exact HB.out | apply below_alloc | apply pw_below_drewN | apply below_drew1 | refine below_set ?_ GE396.out | refine below_set ?_ GE397.out) | exact HB.out)⟩

end Go.Proofs.Ytejempihaknplaa.G
