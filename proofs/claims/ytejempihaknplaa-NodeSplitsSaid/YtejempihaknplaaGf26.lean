-- Written by this session's program genprint.py (the kit's print.py with contracts of this seat's own among the callees). Not trusted: Lean checks it.
import Derived.Test.YtejempihaknplaaGX
import Derived.Test.YtejempihaknplaaNdW
import Derived.Test.YtejempihaknplaaGEq
namespace Go.Proofs.Ytejempihaknplaa.G
open Go.RowKit Go.Proofs.YtejempihaknplaaW.PrintWords Go.Proofs.YtejempihaknplaaW.PrintLast Go.Proofs.YtejempihaknplaaW.PrintMore
attribute [local go_sem] max2_int min2_int max_two min_two max_three min_three max_four min_four   -- for this text's walks alone
set_option linter.unusedVariables false
set_option linter.unusedSimpArgs false

attribute [local go_sem high] eqA39
/-! ### bazaarref06_Same: function 26 -/
mutual
def bazaarref06_Same.j0 : Nat → Bool → List (S39) → List ByteArray → List Int → List (S39) → List ByteArray → List Int → Option (Bool)
  | 0, _, _, _, _, _, _, _ => none
  | k + 1, x32, x302000, x302001, x302002, x303000, x303001, x303002 => if x32 = true then (some false) else (bazaarref06_Same.l0 k 0 x302000 x302001 x302002 x303000 x303001 x303002)
def bazaarref06_Same.l0 : Nat → Int → List (S39) → List ByteArray → List Int → List (S39) → List ByteArray → List Int → Option (Bool)
  | 0, _, _, _, _, _, _, _ => none
  | k + 1, x5, x302000, x302001, x302002, x303000, x303001, x303002 => if x5 < (x302000.length : Int) then (if 0 ≤ x5 then (if x5 < (x303000.length : Int) then (if (!((((rd_T39 x302000 x5).f0).toList) == (((rd_T39 x303000 x5).f0).toList)) || (!((((rd_T39 x302000 x5).f1).toList) == (((rd_T39 x303000 x5).f1).toList)))) = true then (some false) else (bazaarref06_Same.l0 k (wrap64 (x5 + 1)) x302000 x302001 x302002 x303000 x303001 x303002)) else (none)) else (none)) else (bazaarref06_Same.l1 k 0 x302000 x302001 x302002 x303000 x303001 x303002)
def bazaarref06_Same.l1 : Nat → Int → List (S39) → List ByteArray → List Int → List (S39) → List ByteArray → List Int → Option (Bool)
  | 0, _, _, _, _, _, _, _ => none
  | k + 1, x6, x302000, x302001, x302002, x303000, x303001, x303002 => if x6 < (x302001.length : Int) then (if 0 ≤ x6 then (if x6 < (x303001.length : Int) then (if (rdOf ByteArray.empty x302001 x6).toList = (rdOf ByteArray.empty x303001 x6).toList then (bazaarref06_Same.l1 k (wrap64 (x6 + 1)) x302000 x302001 x302002 x303000 x303001 x303002) else (some false)) else (none)) else (none)) else (bazaarref06_Same.l2 k 0 x302000 x302001 x302002 x303000 x303001 x303002)
def bazaarref06_Same.l2 : Nat → Int → List (S39) → List ByteArray → List Int → List (S39) → List ByteArray → List Int → Option (Bool)
  | 0, _, _, _, _, _, _, _ => none
  | k + 1, x7, x302000, x302001, x302002, x303000, x303001, x303002 => if x7 < (x302002.length : Int) then (if 0 ≤ x7 then (if x7 < (x303002.length : Int) then (if (rd x302002 x7) = (rd x303002 x7) then (bazaarref06_Same.l2 k (wrap64 (x7 + 1)) x302000 x302001 x302002 x303000 x303001 x303002) else (some false)) else (none)) else (none)) else (some true)
end
def bazaarref06_Same.f (k : Nat) (l0_0 : List (S39)) (l0_1 : List ByteArray) (l0_2 : List Int) (l1_0 : List (S39)) (l1_1 : List ByteArray) (l1_2 : List Int) : Option (Bool) := if (l0_0.length : Int) = (l1_0.length : Int) then (if (l0_1.length : Int) = (l1_1.length : Int) then (bazaarref06_Same.j0 k ((l0_2.length : Int) != (l1_2.length : Int)) l0_0 l0_1 l0_2 l1_0 l1_1 l1_2) else (bazaarref06_Same.j0 k true l0_0 l0_1 l0_2 l1_0 l1_1 l1_2)) else (bazaarref06_Same.j0 k true l0_0 l0_1 l0_2 l1_0 l1_1 l1_2)
set_option maxHeartbeats 8000000 in
set_option maxRecDepth 100000 in
theorem bazaarref06_Same.calls (k : Nat) (A0_0 : Option Addr) (c0_0 : Nat) (l0_0 : List (S39)) (A0_1 : Option Addr) (c0_1 : Nat) (l0_1 : List ByteArray) (A0_2 : Option Addr) (c0_2 : Nat) (l0_2 : List Int) (A1_0 : Option Addr) (c1_0 : Nat) (l1_0 : List (S39)) (A1_1 : Option Addr) (c1_1 : Nat) (l1_1 : List ByteArray) (A1_2 : Option Addr) (c1_2 : Nat) (l1_2 : List Int) (r : Bool) (w : World) (hr0_0 : Kd.C k39 w A0_0 l0_0.length l0_0) (hc0_0 : l0_0.length ≤ c0_0) (hr0_1 : Kd.C Kd.string w A0_1 l0_1.length l0_1) (hc0_1 : l0_1.length ≤ c0_1) (hr0_2 : Kd.C (Kd.int .u32) w A0_2 l0_2.length l0_2) (hc0_2 : l0_2.length ≤ c0_2) (hr1_0 : Kd.C k39 w A1_0 l1_0.length l1_0) (hc1_0 : l1_0.length ≤ c1_0) (hr1_1 : Kd.C Kd.string w A1_1 l1_1.length l1_1) (hc1_1 : l1_1.length ≤ c1_1) (hr1_2 : Kd.C (Kd.int .u32) w A1_2 l1_2.length l1_2) (hc1_2 : l1_2.length ≤ c1_2) (h : bazaarref06_Same.f k l0_0 l0_1 l0_2 l1_0 l1_1 l1_2 = some r) :
    Calls Try.prog 26 #[.agg #[.slice A0_0 l0_0.length c0_0, .slice A0_1 l0_1.length c0_1, .slice A0_2 l0_2.length c0_2], .agg #[.slice A1_0 l1_0.length c1_0, .slice A1_1 l1_1.length c1_1, .slice A1_2 l1_2.length c1_2]] w fun e w' => e = .returned (.bool r) ∧ Below w.heap.size w w' := by
  have hu26 := Try.underlying26
  have hu39 := Try.underlying39
  have HR0_0 := Aside0.mk hr0_0
  have HC0_0 := Aside0.mk hc0_0
  clear hr0_0 hc0_0
  have HR0_1 := Aside0.mk hr0_1
  have HC0_1 := Aside0.mk hc0_1
  clear hr0_1 hc0_1
  have HR0_2 := Aside0.mk hr0_2
  have HC0_2 := Aside0.mk hc0_2
  clear hr0_2 hc0_2
  have HR1_0 := Aside0.mk hr1_0
  have HC1_0 := Aside0.mk hc1_0
  clear hr1_0 hc1_0
  have HR1_1 := Aside0.mk hr1_1
  have HC1_1 := Aside0.mk hc1_1
  clear hr1_1 hc1_1
  have HR1_2 := Aside0.mk hr1_2
  have HC1_2 := Aside0.mk hc1_2
  clear hr1_2 hc1_2
  have HB := Aside0.mk (Below.refl w.heap.size w)
  have H : (if (l0_0.length : Int) = (l1_0.length : Int) then (if (l0_1.length : Int) = (l1_1.length : Int) then (bazaarref06_Same.j0 k ((l0_2.length : Int) != (l1_2.length : Int)) l0_0 l0_1 l0_2 l1_0 l1_1 l1_2) else (bazaarref06_Same.j0 k true l0_0 l0_1 l0_2 l1_0 l1_1 l1_2)) else (bazaarref06_Same.j0 k true l0_0 l0_1 l0_2 l1_0 l1_1 l1_2)) = some r := h
  clear h
  have HC3 := Aside0.mk H
  clear H
  go_enter Try.func26, Try.ntmps26
  go_upto_region 1 with (first | ((with_reducible refine gate_dst (N := 2) rfl ?_); (try (refine gate_guard (by rfl) ?_; dsimp only)); refine box_event ?hg (N := 2) ?hd (cs := #[.slice A0_0 l0_0.length c0_0, .slice A0_1 l0_1.length c0_1, .slice A0_2 l0_2.length c0_2]) (t := 26) ?hr ?_; (case hd => rfl); (case hg => rfl); (case hr => first | (go_simp; done) | (go_simp; rfl)); intro gb301 hg w4 hbox hb; have BK301 := Aside0.mk (hbox); have GW301 := Aside0.mk ((by rw [hg]; exact (below_size (L_ HB.out)) : w.heap.size ≤ gb301)); have GE301 := Aside0.mk ((by rw [hg]; exact (below_size (L_ HB.out)) : w.heap.size ≤ gb301)); replace HB := Aside0.mk (below_step (L_ HB.out) hb); clear hb hbox hg) | ((with_reducible refine gate_dst (N := 3) rfl ?_); (try (refine gate_guard (by rfl) ?_; dsimp only)); refine box_event ?hg (N := 3) ?hd (cs := #[.slice A1_0 l1_0.length c1_0, .slice A1_1 l1_1.length c1_1, .slice A1_2 l1_2.length c1_2]) (t := 26) ?hr ?_; (case hd => rfl); (case hg => rfl); (case hr => first | (go_simp; done) | (go_simp; rfl)); intro gb302 hg w5 hbox hb; have BK302 := Aside0.mk (hbox); have GW302 := Aside0.mk ((by rw [hg]; exact (below_size (L_ HB.out)) : w.heap.size ≤ gb302)); have GE302 := Aside0.mk ((by rw [hg]; exact (below_size (L_ HB.out)) : w.heap.size ≤ gb302)); have NB301_302 := Aside0.mk ((by rw [hg]; exact Nat.ne_of_lt (blk_lt (g := gb301) (o := .cells #[.slice A0_0 l0_0.length c0_0, .slice A0_1 l0_1.length c0_1, .slice A0_2 l0_2.length c0_2] 26 (0, 0)) (B_ BK301.out)) : gb301 ≠ gb302)); have NB302_301 := Aside0.mk ((by rw [hg]; exact Nat.ne_of_gt (blk_lt (g := gb301) (o := .cells #[.slice A0_0 l0_0.length c0_0, .slice A0_1 l0_1.length c0_1, .slice A0_2 l0_2.length c0_2] 26 (0, 0)) (B_ BK301.out)) : gb302 ≠ gb301)); replace BK301 := Aside0.mk (blk_below (g := gb301) (o := .cells #[.slice A0_0 l0_0.length c0_0, .slice A0_1 l0_1.length c0_1, .slice A0_2 l0_2.length c0_2] 26 (0, 0)) (B_ BK301.out) hb); replace HB := Aside0.mk (below_step (L_ HB.out) hb); clear hb hbox hg))
  repeat (go_quiet (first | ((with_reducible refine gate_dst (N := 2) rfl ?_); (try (refine gate_guard (by rfl) ?_; dsimp only)); refine box_event ?hg (N := 2) ?hd (cs := #[.slice A0_0 l0_0.length c0_0, .slice A0_1 l0_1.length c0_1, .slice A0_2 l0_2.length c0_2]) (t := 26) ?hr ?_; (case hd => rfl); (case hg => rfl); (case hr => first | (go_simp; done) | (go_simp; rfl)); intro gb301 hg w4 hbox hb; have BK301 := Aside0.mk (hbox); have GW301 := Aside0.mk ((by rw [hg]; exact (below_size (L_ HB.out)) : w.heap.size ≤ gb301)); have GE301 := Aside0.mk ((by rw [hg]; exact (below_size (L_ HB.out)) : w.heap.size ≤ gb301)); replace HB := Aside0.mk (below_step (L_ HB.out) hb); clear hb hbox hg) | ((with_reducible refine gate_dst (N := 3) rfl ?_); (try (refine gate_guard (by rfl) ?_; dsimp only)); refine box_event ?hg (N := 3) ?hd (cs := #[.slice A1_0 l1_0.length c1_0, .slice A1_1 l1_1.length c1_1, .slice A1_2 l1_2.length c1_2]) (t := 26) ?hr ?_; (case hd => rfl); (case hg => rfl); (case hr => first | (go_simp; done) | (go_simp; rfl)); intro gb302 hg w5 hbox hb; have BK302 := Aside0.mk (hbox); have GW302 := Aside0.mk ((by rw [hg]; exact (below_size (L_ HB.out)) : w.heap.size ≤ gb302)); have GE302 := Aside0.mk ((by rw [hg]; exact (below_size (L_ HB.out)) : w.heap.size ≤ gb302)); have NB301_302 := Aside0.mk ((by rw [hg]; exact Nat.ne_of_lt (blk_lt (g := gb301) (o := .cells #[.slice A0_0 l0_0.length c0_0, .slice A0_1 l0_1.length c0_1, .slice A0_2 l0_2.length c0_2] 26 (0, 0)) (B_ BK301.out)) : gb301 ≠ gb302)); have NB302_301 := Aside0.mk ((by rw [hg]; exact Nat.ne_of_gt (blk_lt (g := gb301) (o := .cells #[.slice A0_0 l0_0.length c0_0, .slice A0_1 l0_1.length c0_1, .slice A0_2 l0_2.length c0_2] 26 (0, 0)) (B_ BK301.out)) : gb302 ≠ gb301)); replace BK301 := Aside0.mk (blk_below (g := gb301) (o := .cells #[.slice A0_0 l0_0.length c0_0, .slice A0_1 l0_1.length c0_1, .slice A0_2 l0_2.length c0_2] 26 (0, 0)) (B_ BK301.out) hb); replace HB := Aside0.mk (below_step (L_ HB.out) hb); clear hb hbox hg)); go_upto_region 1 with (first | ((with_reducible refine gate_dst (N := 2) rfl ?_); (try (refine gate_guard (by rfl) ?_; dsimp only)); refine box_event ?hg (N := 2) ?hd (cs := #[.slice A0_0 l0_0.length c0_0, .slice A0_1 l0_1.length c0_1, .slice A0_2 l0_2.length c0_2]) (t := 26) ?hr ?_; (case hd => rfl); (case hg => rfl); (case hr => first | (go_simp; done) | (go_simp; rfl)); intro gb301 hg w4 hbox hb; have BK301 := Aside0.mk (hbox); have GW301 := Aside0.mk ((by rw [hg]; exact (below_size (L_ HB.out)) : w.heap.size ≤ gb301)); have GE301 := Aside0.mk ((by rw [hg]; exact (below_size (L_ HB.out)) : w.heap.size ≤ gb301)); replace HB := Aside0.mk (below_step (L_ HB.out) hb); clear hb hbox hg) | ((with_reducible refine gate_dst (N := 3) rfl ?_); (try (refine gate_guard (by rfl) ?_; dsimp only)); refine box_event ?hg (N := 3) ?hd (cs := #[.slice A1_0 l1_0.length c1_0, .slice A1_1 l1_1.length c1_1, .slice A1_2 l1_2.length c1_2]) (t := 26) ?hr ?_; (case hd => rfl); (case hg => rfl); (case hr => first | (go_simp; done) | (go_simp; rfl)); intro gb302 hg w5 hbox hb; have BK302 := Aside0.mk (hbox); have GW302 := Aside0.mk ((by rw [hg]; exact (below_size (L_ HB.out)) : w.heap.size ≤ gb302)); have GE302 := Aside0.mk ((by rw [hg]; exact (below_size (L_ HB.out)) : w.heap.size ≤ gb302)); have NB301_302 := Aside0.mk ((by rw [hg]; exact Nat.ne_of_lt (blk_lt (g := gb301) (o := .cells #[.slice A0_0 l0_0.length c0_0, .slice A0_1 l0_1.length c0_1, .slice A0_2 l0_2.length c0_2] 26 (0, 0)) (B_ BK301.out)) : gb301 ≠ gb302)); have NB302_301 := Aside0.mk ((by rw [hg]; exact Nat.ne_of_gt (blk_lt (g := gb301) (o := .cells #[.slice A0_0 l0_0.length c0_0, .slice A0_1 l0_1.length c0_1, .slice A0_2 l0_2.length c0_2] 26 (0, 0)) (B_ BK301.out)) : gb302 ≠ gb301)); replace BK301 := Aside0.mk (blk_below (g := gb301) (o := .cells #[.slice A0_0 l0_0.length c0_0, .slice A0_1 l0_1.length c0_1, .slice A0_2 l0_2.length c0_2] 26 (0, 0)) (B_ BK301.out) hb); replace HB := Aside0.mk (below_step (L_ HB.out) hb); clear hb hbox hg)))
  (try simp only [Act.put, List.setIfInBounds_toArray, List.set_cons_zero, List.set_cons_succ])
  go_cut [32] (fun v32 wc => ∃ (kq : Nat) (x32_2 : Bool), v32 = .bool x32_2 ∧ Aside0 (bazaarref06_Same.j0 kq x32_2 l0_0 l0_1 l0_2 l1_0 l1_1 l1_2 = some r) ∧ Aside0 (kq ≤ k) ∧ Aside0 (wc.heap[gb301]? = some (.cells #[(.slice A0_0 l0_0.length c0_0), (.slice A0_1 l0_1.length c0_1), (.slice A0_2 l0_2.length c0_2)] 26 (0, 0))) ∧ Aside0 (wc.heap[gb302]? = some (.cells #[(.slice A1_0 l1_0.length c1_0), (.slice A1_1 l1_1.length c1_1), (.slice A1_2 l1_2.length c1_2)] 26 (0, 0))) ∧ Aside0 (Below w.heap.size w wc))
  case first =>
    have H := HC3.out
    clear HC3
    by_cases c6 : (l0_0.length : Int) = (l1_0.length : Int)
    · rw [if_pos c6] at H
      have c6b0 : ((l0_0.length : Int) == (l1_0.length : Int)) = true := beq_iff_eq.mpr c6
      have c6b1 : ((l0_0.length : Int) != (l1_0.length : Int)) = false := bne_eq_false_iff_eq.mpr c6
      have c6b2 : (l0_0.length == l1_0.length) = true := by first | simpa using c6 | (simp at c6 ⊢; omega)
      clear c6
      (first | rw [c6b0] | (simp only [i64_w, i32_w]; rw [c6b0]) | skip)
      by_cases c7 : (l0_1.length : Int) = (l1_1.length : Int)
      · rw [if_pos c7] at H
        have c7b0 : ((l0_1.length : Int) == (l1_1.length : Int)) = true := beq_iff_eq.mpr c7
        have c7b1 : ((l0_1.length : Int) != (l1_1.length : Int)) = false := bne_eq_false_iff_eq.mpr c7
        have c7b2 : (l0_1.length == l1_1.length) = true := by first | simpa using c7 | (simp at c7 ⊢; omega)
        clear c7
        have H' := Aside0.mk H
        clear H
        have hnb8 := NB301_302.out
        have hnc8 := NB302_301.out
        have hcz9_0 : w5.cell? ⟨gb301, 0, none⟩ = some (.slice A0_0 l0_0.length c0_0) := (blk_cell BK301.out 0).trans rfl
        have hcz9_1 : w5.cell? ⟨gb301, 1, none⟩ = some (.slice A0_1 l0_1.length c0_1) := (blk_cell BK301.out 1).trans rfl
        have hcz9_2 : w5.cell? ⟨gb301, 2, none⟩ = some (.slice A0_2 l0_2.length c0_2) := (blk_cell BK301.out 2).trans rfl
        have hfz9_0 := blk_frozen BK301.out 0
        have hfz9_1 := blk_frozen BK301.out 1
        have hfz9_2 := blk_frozen BK301.out 2
        have hcz10_0 : w5.cell? ⟨gb302, 0, none⟩ = some (.slice A1_0 l1_0.length c1_0) := (blk_cell BK302.out 0).trans rfl
        have hcz10_1 : w5.cell? ⟨gb302, 1, none⟩ = some (.slice A1_1 l1_1.length c1_1) := (blk_cell BK302.out 1).trans rfl
        have hcz10_2 : w5.cell? ⟨gb302, 2, none⟩ = some (.slice A1_2 l1_2.length c1_2) := (blk_cell BK302.out 2).trans rfl
        have hfz10_0 := blk_frozen BK302.out 0
        have hfz10_1 := blk_frozen BK302.out 1
        have hfz10_2 := blk_frozen BK302.out 2
        go_wp2
        repeat (go_quiet (fail); try go_wp2)
        go_meet
        case rel => exact ⟨_, (((l0_2.length : Int) != (l1_2.length : Int))), (by first | rfl | (simp; done) | (simp [*]; done)), H', ⟨by first | omega | exact Nat.le_refl _⟩, ⟨by (with_reducible repeat (first | refine blk_drewN ?_ _ | refine blk_drew ?_ | refine blk_alloc ?_ _)); exact BK301.out⟩, ⟨by (with_reducible repeat (first | refine blk_drewN ?_ _ | refine blk_drew ?_ | refine blk_alloc ?_ _)); exact BK302.out⟩, ⟨by repeat (first | (with_reducible first | exact HB.out | apply below_alloc | apply pw_below_drewN | apply below_drew1 | refine below_set ?_ GE301.out | refine below_set ?_ GE302.out) | exact HB.out)⟩⟩
      · rw [if_neg c7] at H
        have c7b0 : ((l0_1.length : Int) == (l1_1.length : Int)) = false := beq_eq_false_iff_ne.mpr c7
        have c7b1 : ((l0_1.length : Int) != (l1_1.length : Int)) = true := bne_iff_ne.mpr c7
        have c7b2 : (l0_1.length == l1_1.length) = false := by first | simpa using c7 | (simp at c7 ⊢; omega)
        have H' := Aside0.mk H
        clear H
        have hnb11 := NB301_302.out
        have hnc11 := NB302_301.out
        have hcz12_0 : w5.cell? ⟨gb301, 0, none⟩ = some (.slice A0_0 l0_0.length c0_0) := (blk_cell BK301.out 0).trans rfl
        have hcz12_1 : w5.cell? ⟨gb301, 1, none⟩ = some (.slice A0_1 l0_1.length c0_1) := (blk_cell BK301.out 1).trans rfl
        have hcz12_2 : w5.cell? ⟨gb301, 2, none⟩ = some (.slice A0_2 l0_2.length c0_2) := (blk_cell BK301.out 2).trans rfl
        have hfz12_0 := blk_frozen BK301.out 0
        have hfz12_1 := blk_frozen BK301.out 1
        have hfz12_2 := blk_frozen BK301.out 2
        have hcz13_0 : w5.cell? ⟨gb302, 0, none⟩ = some (.slice A1_0 l1_0.length c1_0) := (blk_cell BK302.out 0).trans rfl
        have hcz13_1 : w5.cell? ⟨gb302, 1, none⟩ = some (.slice A1_1 l1_1.length c1_1) := (blk_cell BK302.out 1).trans rfl
        have hcz13_2 : w5.cell? ⟨gb302, 2, none⟩ = some (.slice A1_2 l1_2.length c1_2) := (blk_cell BK302.out 2).trans rfl
        have hfz13_0 := blk_frozen BK302.out 0
        have hfz13_1 := blk_frozen BK302.out 1
        have hfz13_2 := blk_frozen BK302.out 2
        go_wp2
        repeat (go_quiet (fail); try go_wp2)
        go_meet
        case rel => exact ⟨_, (true), (by first | rfl | (simp; done) | (simp [*]; done)), H', ⟨by first | omega | exact Nat.le_refl _⟩, ⟨by (with_reducible repeat (first | refine blk_drewN ?_ _ | refine blk_drew ?_ | refine blk_alloc ?_ _)); exact BK301.out⟩, ⟨by (with_reducible repeat (first | refine blk_drewN ?_ _ | refine blk_drew ?_ | refine blk_alloc ?_ _)); exact BK302.out⟩, ⟨by repeat (first | (with_reducible first | exact HB.out | apply below_alloc | apply pw_below_drewN | apply below_drew1 | refine below_set ?_ GE301.out | refine below_set ?_ GE302.out) | exact HB.out)⟩⟩
    · rw [if_neg c6] at H
      have c6b0 : ((l0_0.length : Int) == (l1_0.length : Int)) = false := beq_eq_false_iff_ne.mpr c6
      have c6b1 : ((l0_0.length : Int) != (l1_0.length : Int)) = true := bne_iff_ne.mpr c6
      have c6b2 : (l0_0.length == l1_0.length) = false := by first | simpa using c6 | (simp at c6 ⊢; omega)
      (first | rw [c6b0] | (simp only [i64_w, i32_w]; rw [c6b0]) | skip)
      have H' := Aside0.mk H
      clear H
      have hnb14 := NB301_302.out
      have hnc14 := NB302_301.out
      have hcz15_0 : w5.cell? ⟨gb301, 0, none⟩ = some (.slice A0_0 l0_0.length c0_0) := (blk_cell BK301.out 0).trans rfl
      have hcz15_1 : w5.cell? ⟨gb301, 1, none⟩ = some (.slice A0_1 l0_1.length c0_1) := (blk_cell BK301.out 1).trans rfl
      have hcz15_2 : w5.cell? ⟨gb301, 2, none⟩ = some (.slice A0_2 l0_2.length c0_2) := (blk_cell BK301.out 2).trans rfl
      have hfz15_0 := blk_frozen BK301.out 0
      have hfz15_1 := blk_frozen BK301.out 1
      have hfz15_2 := blk_frozen BK301.out 2
      have hcz16_0 : w5.cell? ⟨gb302, 0, none⟩ = some (.slice A1_0 l1_0.length c1_0) := (blk_cell BK302.out 0).trans rfl
      have hcz16_1 : w5.cell? ⟨gb302, 1, none⟩ = some (.slice A1_1 l1_1.length c1_1) := (blk_cell BK302.out 1).trans rfl
      have hcz16_2 : w5.cell? ⟨gb302, 2, none⟩ = some (.slice A1_2 l1_2.length c1_2) := (blk_cell BK302.out 2).trans rfl
      have hfz16_0 := blk_frozen BK302.out 0
      have hfz16_1 := blk_frozen BK302.out 1
      have hfz16_2 := blk_frozen BK302.out 2
      go_wp2
      repeat (go_quiet (fail); try go_wp2)
      go_meet
      case rel => exact ⟨_, (true), (by first | rfl | (simp; done) | (simp [*]; done)), H', ⟨by first | omega | exact Nat.le_refl _⟩, ⟨by (with_reducible repeat (first | refine blk_drewN ?_ _ | refine blk_drew ?_ | refine blk_alloc ?_ _)); exact BK301.out⟩, ⟨by (with_reducible repeat (first | refine blk_drewN ?_ _ | refine blk_drew ?_ | refine blk_alloc ?_ _)); exact BK302.out⟩, ⟨by repeat (first | (with_reducible first | exact HB.out | apply below_alloc | apply pw_below_drewN | apply below_drew1 | refine below_set ?_ GE301.out | refine below_set ?_ GE302.out) | exact HB.out)⟩⟩
  case rest =>
    clear HC3
    try clear c1
    try clear c2
    try clear p2
    try clear c6
    try clear c6b0
    try clear c6b1
    try clear c6b2
    try clear c7
    try clear c7b0
    try clear c7b1
    try clear c7b2
    try clear c8
    try clear c11
    try clear c14
    try clear hcz10_0
    try clear hcz10_1
    try clear hcz10_2
    try clear hcz12_0
    try clear hcz12_1
    try clear hcz12_2
    try clear hcz13_0
    try clear hcz13_1
    try clear hcz13_2
    try clear hcz15_0
    try clear hcz15_1
    try clear hcz15_2
    try clear hcz16_0
    try clear hcz16_1
    try clear hcz16_2
    try clear hcz9_0
    try clear hcz9_1
    try clear hcz9_2
    try clear hfz10_0
    try clear hfz10_1
    try clear hfz10_2
    try clear hfz12_0
    try clear hfz12_1
    try clear hfz12_2
    try clear hfz13_0
    try clear hfz13_1
    try clear hfz13_2
    try clear hfz15_0
    try clear hfz15_1
    try clear hfz15_2
    try clear hfz16_0
    try clear hfz16_1
    try clear hfz16_2
    try clear hfz9_0
    try clear hfz9_1
    try clear hfz9_2
    obtain ⟨kq, x32_2, rfl, HA, HJ2, BK301, BK302, HB⟩ := hcut
    cases kq with
    | zero => exact absurd HA.out (by simp [bazaarref06_Same.j0])
    | succ kj2 =>
      have H := HA.out
      clear HA
      simp only [bazaarref06_Same.j0] at H
      by_cases c17 : x32_2 = true
      · subst c17
        have H1 : (some false) = some r := by rw [if_pos rfl] at H; exact H
        clear H
        have H := H1
        clear H1
        obtain rfl := Option.some.inj H
        go_wp2
        repeat (go_quiet (fail); try go_wp2)
        go_ret
        exact ⟨by first | rfl | (simp [errW_none, errW_some] <;> rfl) | (simp [errW_none, errW_some]; exact ⟨rfl, rfl, rfl⟩) | (simp [*, errW_none, errW_some] <;> rfl), by repeat (first | (with_reducible first | exact HB.out | apply below_alloc | apply pw_below_drewN | apply below_drew1 | refine below_set ?_ GE301.out | refine below_set ?_ GE302.out) | exact HB.out)⟩
      · replace c17 := Bool.eq_false_iff.mpr c17
        subst c17
        have H1 : (bazaarref06_Same.l0 kj2 0 l0_0 l0_1 l0_2 l1_0 l1_1 l1_2) = some r := by rw [if_neg (show ¬ (false = true) by decide)] at H; exact H
        clear H
        have H := H1
        clear H1
        have H' := Aside0.mk H
        clear H
        go_wp2
        repeat (go_quiet (fail); try go_wp2)
        go_loopg [5] kj2 (fun kq v5 w' => ∃ (x5_2 : Int), v5 = .int .i64 x5_2 ∧ Aside0 (bazaarref06_Same.l0 kq x5_2 l0_0 l0_1 l0_2 l1_0 l1_1 l1_2 = some r) ∧ Aside0 (kq ≤ kj2) ∧ Aside0 (w'.heap[gb301]? = some (.cells #[(.slice A0_0 l0_0.length c0_0), (.slice A0_1 l0_1.length c0_1), (.slice A0_2 l0_2.length c0_2)] 26 (0, 0))) ∧ Aside0 (w'.heap[gb302]? = some (.cells #[(.slice A1_0 l1_0.length c1_0), (.slice A1_1 l1_1.length c1_1), (.slice A1_2 l1_2.length c1_2)] 26 (0, 0))) ∧ Aside0 (Below w.heap.size w w'))
        case atStart => exact ⟨(0), (by first | rfl | (simp; done) | (simp [*]; done)), H', ⟨Nat.le_refl _⟩, ⟨by (with_reducible repeat (first | refine blk_drewN ?_ _ | refine blk_drew ?_ | refine blk_alloc ?_ _)); exact BK301.out⟩, ⟨by (with_reducible repeat (first | refine blk_drewN ?_ _ | refine blk_drew ?_ | refine blk_alloc ?_ _)); exact BK302.out⟩, ⟨by repeat (first | (with_reducible first | exact HB.out | apply below_alloc | apply pw_below_drewN | apply below_drew1 | refine below_set ?_ GE301.out | refine below_set ?_ GE302.out) | exact HB.out)⟩⟩
        case round =>
          clear H'
          try clear c1
          try clear c2
          try clear p2
          try clear c6
          try clear c6b0
          try clear c6b1
          try clear c6b2
          try clear c7
          try clear c7b0
          try clear c7b1
          try clear c7b2
          try clear c8
          try clear c11
          try clear c14
          try clear c17
          try clear hcz10_0
          try clear hcz10_1
          try clear hcz10_2
          try clear hcz12_0
          try clear hcz12_1
          try clear hcz12_2
          try clear hcz13_0
          try clear hcz13_1
          try clear hcz13_2
          try clear hcz15_0
          try clear hcz15_1
          try clear hcz15_2
          try clear hcz16_0
          try clear hcz16_1
          try clear hcz16_2
          try clear hcz9_0
          try clear hcz9_1
          try clear hcz9_2
          try clear hfz10_0
          try clear hfz10_1
          try clear hfz10_2
          try clear hfz12_0
          try clear hfz12_1
          try clear hfz12_2
          try clear hfz13_0
          try clear hfz13_1
          try clear hfz13_2
          try clear hfz15_0
          try clear hfz15_1
          try clear hfz15_2
          try clear hfz16_0
          try clear hfz16_1
          try clear hfz16_2
          try clear hfz9_0
          try clear hfz9_1
          try clear hfz9_2
          try clear p2
          obtain ⟨x5_2, rfl, HA, HK2, BK301, BK302, HB⟩ := hrel
          cases gk with
          | zero => exact absurd HA.out (by simp [bazaarref06_Same.l0])
          | succ k2 =>
            have H := HA.out
            clear HA
            simp only [bazaarref06_Same.l0] at H
            by_cases c18 : x5_2 < (l0_0.length : Int)
            · rw [if_pos c18] at H
              have c18b0 : decide (x5_2 < (l0_0.length : Int)) = true := decide_eq_true c18
              clear c18
              by_cases c19 : 0 ≤ x5_2
              · rw [if_pos c19] at H
                have c19b0 : decide (0 ≤ x5_2) = true := decide_eq_true c19
                clear c19
                by_cases c20 : x5_2 < (l1_0.length : Int)
                · rw [if_pos c20] at H
                  have c20b0 : decide (x5_2 < (l1_0.length : Int)) = true := decide_eq_true c20
                  clear c20
                  by_cases c21 : (!((((rd_T39 l0_0 x5_2).f0).toList) == (((rd_T39 l1_0 x5_2).f0).toList)) || (!((((rd_T39 l0_0 x5_2).f1).toList) == (((rd_T39 l1_0 x5_2).f1).toList)))) = true
                  · rw [if_pos c21] at H
                    have c21b0 : (!((((rd_T39 l0_0 x5_2).f0).toList) == (((rd_T39 l1_0 x5_2).f0).toList)) || (!((((rd_T39 l0_0 x5_2).f1).toList) == (((rd_T39 l1_0 x5_2).f1).toList)))) = true := c21
                    clear c21
                    obtain rfl := Option.some.inj H
                    have hnb22 := NB301_302.out
                    have hnc22 := NB302_301.out
                    have hcz23_0 : wr.cell? ⟨gb301, 0, none⟩ = some (.slice A0_0 l0_0.length c0_0) := (blk_cell BK301.out 0).trans rfl
                    have hcz23_1 : wr.cell? ⟨gb301, 1, none⟩ = some (.slice A0_1 l0_1.length c0_1) := (blk_cell BK301.out 1).trans rfl
                    have hcz23_2 : wr.cell? ⟨gb301, 2, none⟩ = some (.slice A0_2 l0_2.length c0_2) := (blk_cell BK301.out 2).trans rfl
                    have hfz23_0 := blk_frozen BK301.out 0
                    have hfz23_1 := blk_frozen BK301.out 1
                    have hfz23_2 := blk_frozen BK301.out 2
                    have p303 : 0 ≤ (x5_2 : Int) := of_decide_eq_true (by first | (with_reducible assumption) | assumption)
                    have q303 : x5_2 < (l0_0.length : Int) := of_decide_eq_true (by first | (with_reducible assumption) | assumption)
                    obtain ⟨ad303, e303, hx303_0, hx303_1⟩ := at_T39 HR0_0.out x5_2 p303 q303
                    cases e303
                    replace hx303_0 := (HB.out.cell (World.block_lt_of_cell? w _ hx303_0)).trans hx303_0
                    replace hx303_1 := (HB.out.cell (World.block_lt_of_cell? w _ hx303_1)).trans hx303_1
                    replace p303 := eq_true p303
                    replace q303 := eq_true q303
                    have hcz24_0 : wr.cell? ⟨gb302, 0, none⟩ = some (.slice A1_0 l1_0.length c1_0) := (blk_cell BK302.out 0).trans rfl
                    have hcz24_1 : wr.cell? ⟨gb302, 1, none⟩ = some (.slice A1_1 l1_1.length c1_1) := (blk_cell BK302.out 1).trans rfl
                    have hcz24_2 : wr.cell? ⟨gb302, 2, none⟩ = some (.slice A1_2 l1_2.length c1_2) := (blk_cell BK302.out 2).trans rfl
                    have hfz24_0 := blk_frozen BK302.out 0
                    have hfz24_1 := blk_frozen BK302.out 1
                    have hfz24_2 := blk_frozen BK302.out 2
                    have p304 : 0 ≤ (x5_2 : Int) := of_decide_eq_true (by first | (with_reducible assumption) | assumption)
                    have q304 : x5_2 < (l1_0.length : Int) := of_decide_eq_true (by first | (with_reducible assumption) | assumption)
                    obtain ⟨ad304, e304, hx304_0, hx304_1⟩ := at_T39 HR1_0.out x5_2 p304 q304
                    cases e304
                    replace hx304_0 := (HB.out.cell (World.block_lt_of_cell? w _ hx304_0)).trans hx304_0
                    replace hx304_1 := (HB.out.cell (World.block_lt_of_cell? w _ hx304_1)).trans hx304_1
                    replace p304 := eq_true p304
                    replace q304 := eq_true q304
                    go_wp2
                    repeat (go_quiet (fail); try go_wp2)
                    go_ret
                    exact ⟨by first | rfl | (simp [errW_none, errW_some] <;> rfl) | (simp [errW_none, errW_some]; exact ⟨rfl, rfl, rfl⟩) | (simp [*, errW_none, errW_some] <;> rfl), by repeat (first | (with_reducible first | exact HB.out | apply below_alloc | apply pw_below_drewN | apply below_drew1 | refine below_set ?_ GE301.out | refine below_set ?_ GE302.out) | exact HB.out)⟩
                  · rw [if_neg c21] at H
                    have c21b0 : (!((((rd_T39 l0_0 x5_2).f0).toList) == (((rd_T39 l1_0 x5_2).f0).toList)) || (!((((rd_T39 l0_0 x5_2).f1).toList) == (((rd_T39 l1_0 x5_2).f1).toList)))) = false := by simpa using c21
                    clear c21
                    have H' := Aside0.mk H
                    clear H
                    have hnb25 := NB301_302.out
                    have hnc25 := NB302_301.out
                    have hcz26_0 : wr.cell? ⟨gb301, 0, none⟩ = some (.slice A0_0 l0_0.length c0_0) := (blk_cell BK301.out 0).trans rfl
                    have hcz26_1 : wr.cell? ⟨gb301, 1, none⟩ = some (.slice A0_1 l0_1.length c0_1) := (blk_cell BK301.out 1).trans rfl
                    have hcz26_2 : wr.cell? ⟨gb301, 2, none⟩ = some (.slice A0_2 l0_2.length c0_2) := (blk_cell BK301.out 2).trans rfl
                    have hfz26_0 := blk_frozen BK301.out 0
                    have hfz26_1 := blk_frozen BK301.out 1
                    have hfz26_2 := blk_frozen BK301.out 2
                    have p303 : 0 ≤ (x5_2 : Int) := of_decide_eq_true (by first | (with_reducible assumption) | assumption)
                    have q303 : x5_2 < (l0_0.length : Int) := of_decide_eq_true (by first | (with_reducible assumption) | assumption)
                    obtain ⟨ad303, e303, hx303_0, hx303_1⟩ := at_T39 HR0_0.out x5_2 p303 q303
                    cases e303
                    replace hx303_0 := (HB.out.cell (World.block_lt_of_cell? w _ hx303_0)).trans hx303_0
                    replace hx303_1 := (HB.out.cell (World.block_lt_of_cell? w _ hx303_1)).trans hx303_1
                    replace p303 := eq_true p303
                    replace q303 := eq_true q303
                    have hcz27_0 : wr.cell? ⟨gb302, 0, none⟩ = some (.slice A1_0 l1_0.length c1_0) := (blk_cell BK302.out 0).trans rfl
                    have hcz27_1 : wr.cell? ⟨gb302, 1, none⟩ = some (.slice A1_1 l1_1.length c1_1) := (blk_cell BK302.out 1).trans rfl
                    have hcz27_2 : wr.cell? ⟨gb302, 2, none⟩ = some (.slice A1_2 l1_2.length c1_2) := (blk_cell BK302.out 2).trans rfl
                    have hfz27_0 := blk_frozen BK302.out 0
                    have hfz27_1 := blk_frozen BK302.out 1
                    have hfz27_2 := blk_frozen BK302.out 2
                    have p304 : 0 ≤ (x5_2 : Int) := of_decide_eq_true (by first | (with_reducible assumption) | assumption)
                    have q304 : x5_2 < (l1_0.length : Int) := of_decide_eq_true (by first | (with_reducible assumption) | assumption)
                    obtain ⟨ad304, e304, hx304_0, hx304_1⟩ := at_T39 HR1_0.out x5_2 p304 q304
                    cases e304
                    replace hx304_0 := (HB.out.cell (World.block_lt_of_cell? w _ hx304_0)).trans hx304_0
                    replace hx304_1 := (HB.out.cell (World.block_lt_of_cell? w _ hx304_1)).trans hx304_1
                    replace p304 := eq_true p304
                    replace q304 := eq_true q304
                    go_wp2
                    repeat (go_quiet (fail); try go_wp2)
                    go_roundg k2
                    case measure => have := HJ2.out; have := HK2.out; omega
                    case rel => exact ⟨(wrap64 (x5_2 + 1)), (by first | rfl | (simp; done) | (simp [*]; done)), H', ⟨by have := HJ2.out; have := HK2.out; omega⟩, ⟨by (with_reducible repeat (first | refine blk_drewN ?_ _ | refine blk_drew ?_ | refine blk_alloc ?_ _)); exact BK301.out⟩, ⟨by (with_reducible repeat (first | refine blk_drewN ?_ _ | refine blk_drew ?_ | refine blk_alloc ?_ _)); exact BK302.out⟩, ⟨by repeat (first | (with_reducible first | exact HB.out | apply below_alloc | apply pw_below_drewN | apply below_drew1 | refine below_set ?_ GE301.out | refine below_set ?_ GE302.out) | exact HB.out)⟩⟩
                · rw [if_neg c20] at H
                  exact absurd H (by simp)
              · rw [if_neg c19] at H
                exact absurd H (by simp)
            · rw [if_neg c18] at H
              have c18b0 : decide (x5_2 < (l0_0.length : Int)) = false := decide_eq_false c18
              clear c18
              have H' := Aside0.mk H
              clear H
              have hnb28 := NB301_302.out
              have hnc28 := NB302_301.out
              have hcz29_0 : wr.cell? ⟨gb301, 0, none⟩ = some (.slice A0_0 l0_0.length c0_0) := (blk_cell BK301.out 0).trans rfl
              have hcz29_1 : wr.cell? ⟨gb301, 1, none⟩ = some (.slice A0_1 l0_1.length c0_1) := (blk_cell BK301.out 1).trans rfl
              have hcz29_2 : wr.cell? ⟨gb301, 2, none⟩ = some (.slice A0_2 l0_2.length c0_2) := (blk_cell BK301.out 2).trans rfl
              have hfz29_0 := blk_frozen BK301.out 0
              have hfz29_1 := blk_frozen BK301.out 1
              have hfz29_2 := blk_frozen BK301.out 2
              go_wp2
              repeat (go_quiet (fail); try go_wp2)
              go_loopg [6] k2 (fun kq v6 w' => ∃ (x6_3 : Int), v6 = .int .i64 x6_3 ∧ Aside0 (bazaarref06_Same.l1 kq x6_3 l0_0 l0_1 l0_2 l1_0 l1_1 l1_2 = some r) ∧ Aside0 (kq ≤ k2) ∧ Aside0 (w'.heap[gb301]? = some (.cells #[(.slice A0_0 l0_0.length c0_0), (.slice A0_1 l0_1.length c0_1), (.slice A0_2 l0_2.length c0_2)] 26 (0, 0))) ∧ Aside0 (w'.heap[gb302]? = some (.cells #[(.slice A1_0 l1_0.length c1_0), (.slice A1_1 l1_1.length c1_1), (.slice A1_2 l1_2.length c1_2)] 26 (0, 0))) ∧ Aside0 (Below w.heap.size w w'))
              case atStart => exact ⟨(0), (by first | rfl | (simp; done) | (simp [*]; done)), H', ⟨Nat.le_refl _⟩, ⟨by (with_reducible repeat (first | refine blk_drewN ?_ _ | refine blk_drew ?_ | refine blk_alloc ?_ _)); exact BK301.out⟩, ⟨by (with_reducible repeat (first | refine blk_drewN ?_ _ | refine blk_drew ?_ | refine blk_alloc ?_ _)); exact BK302.out⟩, ⟨by repeat (first | (with_reducible first | exact HB.out | apply below_alloc | apply pw_below_drewN | apply below_drew1 | refine below_set ?_ GE301.out | refine below_set ?_ GE302.out) | exact HB.out)⟩⟩
              case round =>
                clear H'
                try clear c1
                try clear c2
                try clear p2
                try clear p3
                try clear q3
                try clear hx3
                try clear c6
                try clear c6b0
                try clear c6b1
                try clear c6b2
                try clear p6
                try clear c7
                try clear c7b0
                try clear c7b1
                try clear c7b2
                try clear c8
                try clear c11
                try clear c14
                try clear c17
                try clear c18
                try clear c18b0
                try clear c19
                try clear c19b0
                try clear c20
                try clear c20b0
                try clear c21
                try clear c21b0
                try clear c22
                try clear c25
                try clear c26
                try clear c28
                try clear hcz10_0
                try clear hcz10_1
                try clear hcz10_2
                try clear hcz12_0
                try clear hcz12_1
                try clear hcz12_2
                try clear hcz13_0
                try clear hcz13_1
                try clear hcz13_2
                try clear hcz15_0
                try clear hcz15_1
                try clear hcz15_2
                try clear hcz16_0
                try clear hcz16_1
                try clear hcz16_2
                try clear hcz23_0
                try clear hcz23_1
                try clear hcz23_2
                try clear hcz24_0
                try clear hcz24_1
                try clear hcz24_2
                try clear hcz26_0
                try clear hcz26_1
                try clear hcz26_2
                try clear hcz27_0
                try clear hcz27_1
                try clear hcz27_2
                try clear hcz29_0
                try clear hcz29_1
                try clear hcz29_2
                try clear hcz9_0
                try clear hcz9_1
                try clear hcz9_2
                try clear hfz10_0
                try clear hfz10_1
                try clear hfz10_2
                try clear hfz12_0
                try clear hfz12_1
                try clear hfz12_2
                try clear hfz13_0
                try clear hfz13_1
                try clear hfz13_2
                try clear hfz15_0
                try clear hfz15_1
                try clear hfz15_2
                try clear hfz16_0
                try clear hfz16_1
                try clear hfz16_2
                try clear hfz23_0
                try clear hfz23_1
                try clear hfz23_2
                try clear hfz24_0
                try clear hfz24_1
                try clear hfz24_2
                try clear hfz26_0
                try clear hfz26_1
                try clear hfz26_2
                try clear hfz27_0
                try clear hfz27_1
                try clear hfz27_2
                try clear hfz29_0
                try clear hfz29_1
                try clear hfz29_2
                try clear hfz9_0
                try clear hfz9_1
                try clear hfz9_2
                try clear hx303_0
                try clear hx303_1
                try clear hx304_0
                try clear hx304_1
                try clear p2
                try clear p303
                try clear p304
                try clear q303
                try clear q304
                obtain ⟨x6_3, rfl, HA, HK3, BK301, BK302, HB⟩ := hrel
                cases gk with
                | zero => exact absurd HA.out (by simp [bazaarref06_Same.l1])
                | succ k3 =>
                  have H := HA.out
                  clear HA
                  simp only [bazaarref06_Same.l1] at H
                  by_cases c30 : x6_3 < (l0_1.length : Int)
                  · rw [if_pos c30] at H
                    have c30b0 : decide (x6_3 < (l0_1.length : Int)) = true := decide_eq_true c30
                    clear c30
                    by_cases c31 : 0 ≤ x6_3
                    · rw [if_pos c31] at H
                      have c31b0 : decide (0 ≤ x6_3) = true := decide_eq_true c31
                      clear c31
                      by_cases c32 : x6_3 < (l1_1.length : Int)
                      · rw [if_pos c32] at H
                        have c32b0 : decide (x6_3 < (l1_1.length : Int)) = true := decide_eq_true c32
                        clear c32
                        by_cases c33 : (rdOf ByteArray.empty l0_1 x6_3).toList = (rdOf ByteArray.empty l1_1 x6_3).toList
                        · rw [if_pos c33] at H
                          have c33b0 : ((rdOf ByteArray.empty l0_1 x6_3).toList == (rdOf ByteArray.empty l1_1 x6_3).toList) = true := beq_iff_eq.mpr c33
                          have c33b1 : ((rdOf ByteArray.empty l0_1 x6_3).toList != (rdOf ByteArray.empty l1_1 x6_3).toList) = false := bne_eq_false_iff_eq.mpr c33
                          clear c33
                          have H' := Aside0.mk H
                          clear H
                          have hnb34 := NB301_302.out
                          have hnc34 := NB302_301.out
                          have hcz35_0 : wr.cell? ⟨gb301, 0, none⟩ = some (.slice A0_0 l0_0.length c0_0) := (blk_cell BK301.out 0).trans rfl
                          have hcz35_1 : wr.cell? ⟨gb301, 1, none⟩ = some (.slice A0_1 l0_1.length c0_1) := (blk_cell BK301.out 1).trans rfl
                          have hcz35_2 : wr.cell? ⟨gb301, 2, none⟩ = some (.slice A0_2 l0_2.length c0_2) := (blk_cell BK301.out 2).trans rfl
                          have hfz35_0 := blk_frozen BK301.out 0
                          have hfz35_1 := blk_frozen BK301.out 1
                          have hfz35_2 := blk_frozen BK301.out 2
                          have p305 : 0 ≤ (x6_3 : Int) := of_decide_eq_true (by first | (with_reducible assumption) | assumption)
                          have q305 : x6_3 < (l0_1.length : Int) := of_decide_eq_true (by first | (with_reducible assumption) | assumption)
                          obtain ⟨ad305, e305, hx305_0⟩ := Kd.at_string HR0_1.out x6_3 p305 q305
                          cases e305
                          replace hx305_0 := (HB.out.cell (World.block_lt_of_cell? w _ hx305_0)).trans hx305_0
                          replace p305 := eq_true p305
                          replace q305 := eq_true q305
                          have hcz36_0 : wr.cell? ⟨gb302, 0, none⟩ = some (.slice A1_0 l1_0.length c1_0) := (blk_cell BK302.out 0).trans rfl
                          have hcz36_1 : wr.cell? ⟨gb302, 1, none⟩ = some (.slice A1_1 l1_1.length c1_1) := (blk_cell BK302.out 1).trans rfl
                          have hcz36_2 : wr.cell? ⟨gb302, 2, none⟩ = some (.slice A1_2 l1_2.length c1_2) := (blk_cell BK302.out 2).trans rfl
                          have hfz36_0 := blk_frozen BK302.out 0
                          have hfz36_1 := blk_frozen BK302.out 1
                          have hfz36_2 := blk_frozen BK302.out 2
                          have p306 : 0 ≤ (x6_3 : Int) := of_decide_eq_true (by first | (with_reducible assumption) | assumption)
                          have q306 : x6_3 < (l1_1.length : Int) := of_decide_eq_true (by first | (with_reducible assumption) | assumption)
                          obtain ⟨ad306, e306, hx306_0⟩ := Kd.at_string HR1_1.out x6_3 p306 q306
                          cases e306
                          replace hx306_0 := (HB.out.cell (World.block_lt_of_cell? w _ hx306_0)).trans hx306_0
                          replace p306 := eq_true p306
                          replace q306 := eq_true q306
                          go_wp2
                          repeat (go_quiet (fail); try go_wp2)
                          go_roundg k3
                          case measure => have := HJ2.out; have := HK2.out; have := HK3.out; omega
                          case rel => exact ⟨(wrap64 (x6_3 + 1)), (by first | rfl | (simp; done) | (simp [*]; done)), H', ⟨by have := HJ2.out; have := HK2.out; have := HK3.out; omega⟩, ⟨by (with_reducible repeat (first | refine blk_drewN ?_ _ | refine blk_drew ?_ | refine blk_alloc ?_ _)); exact BK301.out⟩, ⟨by (with_reducible repeat (first | refine blk_drewN ?_ _ | refine blk_drew ?_ | refine blk_alloc ?_ _)); exact BK302.out⟩, ⟨by repeat (first | (with_reducible first | exact HB.out | apply below_alloc | apply pw_below_drewN | apply below_drew1 | refine below_set ?_ GE301.out | refine below_set ?_ GE302.out) | exact HB.out)⟩⟩
                        · rw [if_neg c33] at H
                          have c33b0 : ((rdOf ByteArray.empty l0_1 x6_3).toList == (rdOf ByteArray.empty l1_1 x6_3).toList) = false := beq_eq_false_iff_ne.mpr c33
                          have c33b1 : ((rdOf ByteArray.empty l0_1 x6_3).toList != (rdOf ByteArray.empty l1_1 x6_3).toList) = true := bne_iff_ne.mpr c33
                          obtain rfl := Option.some.inj H
                          have hnb37 := NB301_302.out
                          have hnc37 := NB302_301.out
                          have hcz38_0 : wr.cell? ⟨gb301, 0, none⟩ = some (.slice A0_0 l0_0.length c0_0) := (blk_cell BK301.out 0).trans rfl
                          have hcz38_1 : wr.cell? ⟨gb301, 1, none⟩ = some (.slice A0_1 l0_1.length c0_1) := (blk_cell BK301.out 1).trans rfl
                          have hcz38_2 : wr.cell? ⟨gb301, 2, none⟩ = some (.slice A0_2 l0_2.length c0_2) := (blk_cell BK301.out 2).trans rfl
                          have hfz38_0 := blk_frozen BK301.out 0
                          have hfz38_1 := blk_frozen BK301.out 1
                          have hfz38_2 := blk_frozen BK301.out 2
                          have p305 : 0 ≤ (x6_3 : Int) := of_decide_eq_true (by first | (with_reducible assumption) | assumption)
                          have q305 : x6_3 < (l0_1.length : Int) := of_decide_eq_true (by first | (with_reducible assumption) | assumption)
                          obtain ⟨ad305, e305, hx305_0⟩ := Kd.at_string HR0_1.out x6_3 p305 q305
                          cases e305
                          replace hx305_0 := (HB.out.cell (World.block_lt_of_cell? w _ hx305_0)).trans hx305_0
                          replace p305 := eq_true p305
                          replace q305 := eq_true q305
                          have hcz39_0 : wr.cell? ⟨gb302, 0, none⟩ = some (.slice A1_0 l1_0.length c1_0) := (blk_cell BK302.out 0).trans rfl
                          have hcz39_1 : wr.cell? ⟨gb302, 1, none⟩ = some (.slice A1_1 l1_1.length c1_1) := (blk_cell BK302.out 1).trans rfl
                          have hcz39_2 : wr.cell? ⟨gb302, 2, none⟩ = some (.slice A1_2 l1_2.length c1_2) := (blk_cell BK302.out 2).trans rfl
                          have hfz39_0 := blk_frozen BK302.out 0
                          have hfz39_1 := blk_frozen BK302.out 1
                          have hfz39_2 := blk_frozen BK302.out 2
                          have p306 : 0 ≤ (x6_3 : Int) := of_decide_eq_true (by first | (with_reducible assumption) | assumption)
                          have q306 : x6_3 < (l1_1.length : Int) := of_decide_eq_true (by first | (with_reducible assumption) | assumption)
                          obtain ⟨ad306, e306, hx306_0⟩ := Kd.at_string HR1_1.out x6_3 p306 q306
                          cases e306
                          replace hx306_0 := (HB.out.cell (World.block_lt_of_cell? w _ hx306_0)).trans hx306_0
                          replace p306 := eq_true p306
                          replace q306 := eq_true q306
                          go_wp2
                          repeat (go_quiet (fail); try go_wp2)
                          go_ret
                          exact ⟨by first | rfl | (simp [errW_none, errW_some] <;> rfl) | (simp [errW_none, errW_some]; exact ⟨rfl, rfl, rfl⟩) | (simp [*, errW_none, errW_some] <;> rfl), by repeat (first | (with_reducible first | exact HB.out | apply below_alloc | apply pw_below_drewN | apply below_drew1 | refine below_set ?_ GE301.out | refine below_set ?_ GE302.out) | exact HB.out)⟩
                      · rw [if_neg c32] at H
                        exact absurd H (by simp)
                    · rw [if_neg c31] at H
                      exact absurd H (by simp)
                  · rw [if_neg c30] at H
                    have c30b0 : decide (x6_3 < (l0_1.length : Int)) = false := decide_eq_false c30
                    clear c30
                    have H' := Aside0.mk H
                    clear H
                    have hnb40 := NB301_302.out
                    have hnc40 := NB302_301.out
                    have hcz41_0 : wr.cell? ⟨gb301, 0, none⟩ = some (.slice A0_0 l0_0.length c0_0) := (blk_cell BK301.out 0).trans rfl
                    have hcz41_1 : wr.cell? ⟨gb301, 1, none⟩ = some (.slice A0_1 l0_1.length c0_1) := (blk_cell BK301.out 1).trans rfl
                    have hcz41_2 : wr.cell? ⟨gb301, 2, none⟩ = some (.slice A0_2 l0_2.length c0_2) := (blk_cell BK301.out 2).trans rfl
                    have hfz41_0 := blk_frozen BK301.out 0
                    have hfz41_1 := blk_frozen BK301.out 1
                    have hfz41_2 := blk_frozen BK301.out 2
                    go_wp2
                    repeat (go_quiet (fail); try go_wp2)
                    go_loopg [7] k3 (fun kq v7 w' => ∃ (x7_4 : Int), v7 = .int .i64 x7_4 ∧ Aside0 (bazaarref06_Same.l2 kq x7_4 l0_0 l0_1 l0_2 l1_0 l1_1 l1_2 = some r) ∧ Aside0 (kq ≤ k3) ∧ Aside0 (w'.heap[gb301]? = some (.cells #[(.slice A0_0 l0_0.length c0_0), (.slice A0_1 l0_1.length c0_1), (.slice A0_2 l0_2.length c0_2)] 26 (0, 0))) ∧ Aside0 (w'.heap[gb302]? = some (.cells #[(.slice A1_0 l1_0.length c1_0), (.slice A1_1 l1_1.length c1_1), (.slice A1_2 l1_2.length c1_2)] 26 (0, 0))) ∧ Aside0 (Below w.heap.size w w'))
                    case atStart => exact ⟨(0), (by first | rfl | (simp; done) | (simp [*]; done)), H', ⟨Nat.le_refl _⟩, ⟨by (with_reducible repeat (first | refine blk_drewN ?_ _ | refine blk_drew ?_ | refine blk_alloc ?_ _)); exact BK301.out⟩, ⟨by (with_reducible repeat (first | refine blk_drewN ?_ _ | refine blk_drew ?_ | refine blk_alloc ?_ _)); exact BK302.out⟩, ⟨by repeat (first | (with_reducible first | exact HB.out | apply below_alloc | apply pw_below_drewN | apply below_drew1 | refine below_set ?_ GE301.out | refine below_set ?_ GE302.out) | exact HB.out)⟩⟩
                    case round =>
                      clear H'
                      try clear c1
                      try clear c2
                      try clear p2
                      try clear c3
                      try clear p3
                      try clear q3
                      try clear hx3
                      try clear c4
                      try clear c6
                      try clear c6b0
                      try clear c6b1
                      try clear c6b2
                      try clear p6
                      try clear c7
                      try clear c7b0
                      try clear c7b1
                      try clear c7b2
                      try clear c8
                      try clear c11
                      try clear c14
                      try clear c17
                      try clear c18
                      try clear c18b0
                      try clear c19
                      try clear c19b0
                      try clear c20
                      try clear c20b0
                      try clear c21
                      try clear c21b0
                      try clear c22
                      try clear c25
                      try clear c26
                      try clear c28
                      try clear c30
                      try clear c30b0
                      try clear p30
                      try clear q30
                      try clear hx30
                      try clear c31
                      try clear c31b0
                      try clear c32
                      try clear c32b0
                      try clear c33
                      try clear c33b0
                      try clear c33b1
                      try clear c34
                      try clear c37
                      try clear c40
                      try clear hcz10_0
                      try clear hcz10_1
                      try clear hcz10_2
                      try clear hcz12_0
                      try clear hcz12_1
                      try clear hcz12_2
                      try clear hcz13_0
                      try clear hcz13_1
                      try clear hcz13_2
                      try clear hcz15_0
                      try clear hcz15_1
                      try clear hcz15_2
                      try clear hcz16_0
                      try clear hcz16_1
                      try clear hcz16_2
                      try clear hcz23_0
                      try clear hcz23_1
                      try clear hcz23_2
                      try clear hcz24_0
                      try clear hcz24_1
                      try clear hcz24_2
                      try clear hcz26_0
                      try clear hcz26_1
                      try clear hcz26_2
                      try clear hcz27_0
                      try clear hcz27_1
                      try clear hcz27_2
                      try clear hcz29_0
                      try clear hcz29_1
                      try clear hcz29_2
                      try clear hcz35_0
                      try clear hcz35_1
                      try clear hcz35_2
                      try clear hcz36_0
                      try clear hcz36_1
                      try clear hcz36_2
                      try clear hcz38_0
                      try clear hcz38_1
                      try clear hcz38_2
                      try clear hcz39_0
                      try clear hcz39_1
                      try clear hcz39_2
                      try clear hcz41_0
                      try clear hcz41_1
                      try clear hcz41_2
                      try clear hcz9_0
                      try clear hcz9_1
                      try clear hcz9_2
                      try clear hfz10_0
                      try clear hfz10_1
                      try clear hfz10_2
                      try clear hfz12_0
                      try clear hfz12_1
                      try clear hfz12_2
                      try clear hfz13_0
                      try clear hfz13_1
                      try clear hfz13_2
                      try clear hfz15_0
                      try clear hfz15_1
                      try clear hfz15_2
                      try clear hfz16_0
                      try clear hfz16_1
                      try clear hfz16_2
                      try clear hfz23_0
                      try clear hfz23_1
                      try clear hfz23_2
                      try clear hfz24_0
                      try clear hfz24_1
                      try clear hfz24_2
                      try clear hfz26_0
                      try clear hfz26_1
                      try clear hfz26_2
                      try clear hfz27_0
                      try clear hfz27_1
                      try clear hfz27_2
                      try clear hfz29_0
                      try clear hfz29_1
                      try clear hfz29_2
                      try clear hfz35_0
                      try clear hfz35_1
                      try clear hfz35_2
                      try clear hfz36_0
                      try clear hfz36_1
                      try clear hfz36_2
                      try clear hfz38_0
                      try clear hfz38_1
                      try clear hfz38_2
                      try clear hfz39_0
                      try clear hfz39_1
                      try clear hfz39_2
                      try clear hfz41_0
                      try clear hfz41_1
                      try clear hfz41_2
                      try clear hfz9_0
                      try clear hfz9_1
                      try clear hfz9_2
                      try clear hx303_0
                      try clear hx303_1
                      try clear hx304_0
                      try clear hx304_1
                      try clear hx305_0
                      try clear hx306_0
                      try clear p2
                      try clear p3
                      try clear p303
                      try clear p304
                      try clear p305
                      try clear p306
                      try clear p6
                      try clear q3
                      try clear q303
                      try clear q304
                      try clear q305
                      try clear q306
                      obtain ⟨x7_4, rfl, HA, HK4, BK301, BK302, HB⟩ := hrel
                      cases gk with
                      | zero => exact absurd HA.out (by simp [bazaarref06_Same.l2])
                      | succ k4 =>
                        have H := HA.out
                        clear HA
                        simp only [bazaarref06_Same.l2] at H
                        by_cases c42 : x7_4 < (l0_2.length : Int)
                        · rw [if_pos c42] at H
                          have c42b0 : decide (x7_4 < (l0_2.length : Int)) = true := decide_eq_true c42
                          clear c42
                          by_cases c43 : 0 ≤ x7_4
                          · rw [if_pos c43] at H
                            have c43b0 : decide (0 ≤ x7_4) = true := decide_eq_true c43
                            clear c43
                            by_cases c44 : x7_4 < (l1_2.length : Int)
                            · rw [if_pos c44] at H
                              have c44b0 : decide (x7_4 < (l1_2.length : Int)) = true := decide_eq_true c44
                              clear c44
                              by_cases c45 : (rd l0_2 x7_4) = (rd l1_2 x7_4)
                              · rw [if_pos c45] at H
                                have c45b0 : ((rd l0_2 x7_4) == (rd l1_2 x7_4)) = true := beq_iff_eq.mpr c45
                                have c45b1 : ((rd l0_2 x7_4) != (rd l1_2 x7_4)) = false := bne_eq_false_iff_eq.mpr c45
                                clear c45
                                have H' := Aside0.mk H
                                clear H
                                have hnb46 := NB301_302.out
                                have hnc46 := NB302_301.out
                                have hcz47_0 : wr.cell? ⟨gb301, 0, none⟩ = some (.slice A0_0 l0_0.length c0_0) := (blk_cell BK301.out 0).trans rfl
                                have hcz47_1 : wr.cell? ⟨gb301, 1, none⟩ = some (.slice A0_1 l0_1.length c0_1) := (blk_cell BK301.out 1).trans rfl
                                have hcz47_2 : wr.cell? ⟨gb301, 2, none⟩ = some (.slice A0_2 l0_2.length c0_2) := (blk_cell BK301.out 2).trans rfl
                                have hfz47_0 := blk_frozen BK301.out 0
                                have hfz47_1 := blk_frozen BK301.out 1
                                have hfz47_2 := blk_frozen BK301.out 2
                                have p307 : 0 ≤ (x7_4 : Int) := of_decide_eq_true (by first | (with_reducible assumption) | assumption)
                                have q307 : x7_4 < (l0_2.length : Int) := of_decide_eq_true (by first | (with_reducible assumption) | assumption)
                                obtain ⟨ad307, e307, hx307_0⟩ := Kd.at_int HR0_2.out x7_4 p307 q307
                                cases e307
                                replace hx307_0 := (HB.out.cell (World.block_lt_of_cell? w _ hx307_0)).trans hx307_0
                                replace p307 := eq_true p307
                                replace q307 := eq_true q307
                                have hcz48_0 : wr.cell? ⟨gb302, 0, none⟩ = some (.slice A1_0 l1_0.length c1_0) := (blk_cell BK302.out 0).trans rfl
                                have hcz48_1 : wr.cell? ⟨gb302, 1, none⟩ = some (.slice A1_1 l1_1.length c1_1) := (blk_cell BK302.out 1).trans rfl
                                have hcz48_2 : wr.cell? ⟨gb302, 2, none⟩ = some (.slice A1_2 l1_2.length c1_2) := (blk_cell BK302.out 2).trans rfl
                                have hfz48_0 := blk_frozen BK302.out 0
                                have hfz48_1 := blk_frozen BK302.out 1
                                have hfz48_2 := blk_frozen BK302.out 2
                                have p308 : 0 ≤ (x7_4 : Int) := of_decide_eq_true (by first | (with_reducible assumption) | assumption)
                                have q308 : x7_4 < (l1_2.length : Int) := of_decide_eq_true (by first | (with_reducible assumption) | assumption)
                                obtain ⟨ad308, e308, hx308_0⟩ := Kd.at_int HR1_2.out x7_4 p308 q308
                                cases e308
                                replace hx308_0 := (HB.out.cell (World.block_lt_of_cell? w _ hx308_0)).trans hx308_0
                                replace p308 := eq_true p308
                                replace q308 := eq_true q308
                                go_wp2
                                repeat (go_quiet (fail); try go_wp2)
                                go_roundg k4
                                case measure => have := HJ2.out; have := HK2.out; have := HK3.out; have := HK4.out; omega
                                case rel => exact ⟨(wrap64 (x7_4 + 1)), (by first | rfl | (simp; done) | (simp [*]; done)), H', ⟨by have := HJ2.out; have := HK2.out; have := HK3.out; have := HK4.out; omega⟩, ⟨by (with_reducible repeat (first | refine blk_drewN ?_ _ | refine blk_drew ?_ | refine blk_alloc ?_ _)); exact BK301.out⟩, ⟨by (with_reducible repeat (first | refine blk_drewN ?_ _ | refine blk_drew ?_ | refine blk_alloc ?_ _)); exact BK302.out⟩, ⟨by repeat (first | (with_reducible first | exact HB.out | apply below_alloc | apply pw_below_drewN | apply below_drew1 | refine below_set ?_ GE301.out | refine below_set ?_ GE302.out) | exact HB.out)⟩⟩
                              · rw [if_neg c45] at H
                                have c45b0 : ((rd l0_2 x7_4) == (rd l1_2 x7_4)) = false := beq_eq_false_iff_ne.mpr c45
                                have c45b1 : ((rd l0_2 x7_4) != (rd l1_2 x7_4)) = true := bne_iff_ne.mpr c45
                                obtain rfl := Option.some.inj H
                                have hnb49 := NB301_302.out
                                have hnc49 := NB302_301.out
                                have hcz50_0 : wr.cell? ⟨gb301, 0, none⟩ = some (.slice A0_0 l0_0.length c0_0) := (blk_cell BK301.out 0).trans rfl
                                have hcz50_1 : wr.cell? ⟨gb301, 1, none⟩ = some (.slice A0_1 l0_1.length c0_1) := (blk_cell BK301.out 1).trans rfl
                                have hcz50_2 : wr.cell? ⟨gb301, 2, none⟩ = some (.slice A0_2 l0_2.length c0_2) := (blk_cell BK301.out 2).trans rfl
                                have hfz50_0 := blk_frozen BK301.out 0
                                have hfz50_1 := blk_frozen BK301.out 1
                                have hfz50_2 := blk_frozen BK301.out 2
                                have p307 : 0 ≤ (x7_4 : Int) := of_decide_eq_true (by first | (with_reducible assumption) | assumption)
                                have q307 : x7_4 < (l0_2.length : Int) := of_decide_eq_true (by first | (with_reducible assumption) | assumption)
                                obtain ⟨ad307, e307, hx307_0⟩ := Kd.at_int HR0_2.out x7_4 p307 q307
                                cases e307
                                replace hx307_0 := (HB.out.cell (World.block_lt_of_cell? w _ hx307_0)).trans hx307_0
                                replace p307 := eq_true p307
                                replace q307 := eq_true q307
                                have hcz51_0 : wr.cell? ⟨gb302, 0, none⟩ = some (.slice A1_0 l1_0.length c1_0) := (blk_cell BK302.out 0).trans rfl
                                have hcz51_1 : wr.cell? ⟨gb302, 1, none⟩ = some (.slice A1_1 l1_1.length c1_1) := (blk_cell BK302.out 1).trans rfl
                                have hcz51_2 : wr.cell? ⟨gb302, 2, none⟩ = some (.slice A1_2 l1_2.length c1_2) := (blk_cell BK302.out 2).trans rfl
                                have hfz51_0 := blk_frozen BK302.out 0
                                have hfz51_1 := blk_frozen BK302.out 1
                                have hfz51_2 := blk_frozen BK302.out 2
                                have p308 : 0 ≤ (x7_4 : Int) := of_decide_eq_true (by first | (with_reducible assumption) | assumption)
                                have q308 : x7_4 < (l1_2.length : Int) := of_decide_eq_true (by first | (with_reducible assumption) | assumption)
                                obtain ⟨ad308, e308, hx308_0⟩ := Kd.at_int HR1_2.out x7_4 p308 q308
                                cases e308
                                replace hx308_0 := (HB.out.cell (World.block_lt_of_cell? w _ hx308_0)).trans hx308_0
                                replace p308 := eq_true p308
                                replace q308 := eq_true q308
                                go_wp2
                                repeat (go_quiet (fail); try go_wp2)
                                go_ret
                                exact ⟨by first | rfl | (simp [errW_none, errW_some] <;> rfl) | (simp [errW_none, errW_some]; exact ⟨rfl, rfl, rfl⟩) | (simp [*, errW_none, errW_some] <;> rfl), by repeat (first | (with_reducible first | exact HB.out | apply below_alloc | apply pw_below_drewN | apply below_drew1 | refine below_set ?_ GE301.out | refine below_set ?_ GE302.out) | exact HB.out)⟩
                            · rw [if_neg c44] at H
                              exact absurd H (by simp)
                          · rw [if_neg c43] at H
                            exact absurd H (by simp)
                        · rw [if_neg c42] at H
                          have c42b0 : decide (x7_4 < (l0_2.length : Int)) = false := decide_eq_false c42
                          clear c42
                          obtain rfl := Option.some.inj H
                          have hnb52 := NB301_302.out
                          have hnc52 := NB302_301.out
                          have hcz53_0 : wr.cell? ⟨gb301, 0, none⟩ = some (.slice A0_0 l0_0.length c0_0) := (blk_cell BK301.out 0).trans rfl
                          have hcz53_1 : wr.cell? ⟨gb301, 1, none⟩ = some (.slice A0_1 l0_1.length c0_1) := (blk_cell BK301.out 1).trans rfl
                          have hcz53_2 : wr.cell? ⟨gb301, 2, none⟩ = some (.slice A0_2 l0_2.length c0_2) := (blk_cell BK301.out 2).trans rfl
                          have hfz53_0 := blk_frozen BK301.out 0
                          have hfz53_1 := blk_frozen BK301.out 1
                          have hfz53_2 := blk_frozen BK301.out 2
                          go_wp2
                          repeat (go_quiet (fail); try go_wp2)
                          go_ret
                          exact ⟨by first | rfl | (simp [errW_none, errW_some] <;> rfl) | (simp [errW_none, errW_some]; exact ⟨rfl, rfl, rfl⟩) | (simp [*, errW_none, errW_some] <;> rfl), by repeat (first | (with_reducible first | exact HB.out | apply below_alloc | apply pw_below_drewN | apply below_drew1 | refine below_set ?_ GE301.out | refine below_set ?_ GE302.out) | exact HB.out)⟩

end Go.Proofs.Ytejempihaknplaa.G
