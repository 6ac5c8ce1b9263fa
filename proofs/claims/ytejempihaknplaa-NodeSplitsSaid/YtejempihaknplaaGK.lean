-- Written by this session's program genprint.py (the kit's print.py with contracts of this seat's own among the callees). Not trusted: Lean checks it.
import Derived.Test.YtejempihaknplaaGX
import Derived.Test.YtejempihaknplaaNdW
import Derived.Test.YtejempihaknplaaGA
import Derived.Test.YtejempihaknplaaNdM
import Derived.Test.YtejempihaknplaaNdS
namespace Go.Proofs.Ytejempihaknplaa.G
open Go.RowKit Go.Proofs.YtejempihaknplaaW.PrintWords Go.Proofs.YtejempihaknplaaW.PrintLast Go.Proofs.YtejempihaknplaaW.PrintMore
attribute [local go_sem] max2_int min2_int max_two min_two max_three min_three max_four min_four   -- for this text's walks alone
set_option linter.unusedVariables false
set_option linter.unusedSimpArgs false

/-! ### node_keys: function 44 -/
def node_keys.l0 : Nat → List ByteArray → List (S39) → Int → Int → Option (List ByteArray)
  | 0, _, _, _, _ => none
  | k + 1, x3, x10, x11, x12 => if x12 < x11 then (if 0 ≤ x12 then (if x12 < (x10.length : Int) then (if x3.length < 8796093022208 then (node_keys.l0 k (x3 ++ [(rd_T39 x10 x12).f0]) x10 x11 (wrap64 (x12 + 1))) else (none)) else (none)) else (none)) else (some x3)
def node_keys.f (k : Nat) (l0_0 : List (S39)) (l0_1 : List ByteArray) (l0_2 : List Int) : Option (List ByteArray) := (slices_Clone_string_string.f l0_1).bind fun t102 => (node_keys.l0 k t102 l0_0 (l0_0.length : Int) 0)
set_option maxHeartbeats 8000000 in
set_option maxRecDepth 100000 in
theorem node_keys.calls (k : Nat) (A0_0 : Option Addr) (c0_0 : Nat) (l0_0 : List (S39)) (A0_1 : Option Addr) (c0_1 : Nat) (l0_1 : List ByteArray) (A0_2 : Option Addr) (c0_2 : Nat) (l0_2 : List Int) (r : List ByteArray) (w : World) (hr0_0 : Kd.C k39 w A0_0 l0_0.length l0_0) (hc0_0 : l0_0.length ≤ c0_0) (hr0_1 : Kd.C Kd.string w A0_1 l0_1.length l0_1) (hc0_1 : l0_1.length ≤ c0_1) (hr0_2 : Kd.C (Kd.int .u32) w A0_2 l0_2.length l0_2) (hc0_2 : l0_2.length ≤ c0_2) (h : node_keys.f k l0_0 l0_1 l0_2 = some r) :
    Calls Try.prog 44 #[.agg #[.slice A0_0 l0_0.length c0_0, .slice A0_1 l0_1.length c0_1, .slice A0_2 l0_2.length c0_2]] w fun e w' => ∃ v0_ : Value, e = .returned (v0_) ∧ Kd.R Kd.string 9 w' w.heap.size (fun _ => True) v0_ r ∧ Below w.heap.size w w' := by
  have hu26 := Try.underlying26
  have hu39 := Try.underlying39
  have HR0_0 := Aside0.mk hr0_0
  have HC0_0 := Aside0.mk hc0_0
  clear hr0_0 hc0_0
  have HR0_1 := Aside0.mk hr0_1
  have HC0_1 := Aside0.mk hc0_1
  clear hr0_1 hc0_1
  have HR0_2 := Aside0.mk hr0_2
  have HC0_2 := Aside0.mk hc0_2
  clear hr0_2 hc0_2
  have HB := Aside0.mk (Below.refl w.heap.size w)
  have H : ((slices_Clone_string_string.f l0_1).bind fun t102 => (node_keys.l0 k t102 l0_0 (l0_0.length : Int) 0)) = some r := h
  clear h
  replace H := Option.bind_eq_some_iff.mp H
  obtain ⟨t102, A20, H⟩ := H
  replace H : (node_keys.l0 k t102 l0_0 (l0_0.length : Int) 0) = some r := H
  have A2 := Aside0.mk A20
  clear A20
  have H' := Aside0.mk H
  clear H
  go_enter Try.func44, Try.ntmps44
  go_wp2_with (first | ((with_reducible refine gate_dst (N := 1) rfl ?_); refine box_event ?hg (N := 1) ?hd (cs := #[.slice A0_0 l0_0.length c0_0, .slice A0_1 l0_1.length c0_1, .slice A0_2 l0_2.length c0_2]) (t := 26) ?hr ?_; (case hd => rfl); (case hg => rfl); (case hr => first | (go_simp; done) | (go_simp; rfl)); intro gb101 hg w3 hbox hb; have BK101 := Aside0.mk (hbox); have GW101 := Aside0.mk ((by rw [hg]; exact (below_size (L_ HB.out)) : w.heap.size ≤ gb101)); have GE101 := Aside0.mk ((by rw [hg]; exact (below_size (L_ HB.out)) : w.heap.size ≤ gb101)); replace HB := Aside0.mk (below_step (L_ HB.out) hb); clear hb hbox hg; have hcz4_0 : w3.cell? ⟨gb101, 0, none⟩ = some (.slice A0_0 l0_0.length c0_0) := (blk_cell BK101.out 0).trans rfl; have hcz4_1 : w3.cell? ⟨gb101, 1, none⟩ = some (.slice A0_1 l0_1.length c0_1) := (blk_cell BK101.out 1).trans rfl; have hcz4_2 : w3.cell? ⟨gb101, 2, none⟩ = some (.slice A0_2 l0_2.length c0_2) := (blk_cell BK101.out 2).trans rfl; have hfz4_0 := blk_frozen BK101.out 0; have hfz4_1 := blk_frozen BK101.out 1; have hfz4_2 := blk_frozen BK101.out 2) | ((with_reducible refine gate_callee (f := 69) rfl ?_); refine goesL_ (some 8) rfl rfl Try.func69 (by kernel_rfl) rfl #[.slice A0_1 l0_1.length c0_1] rfl (by (try simp only [List.map_toArray, List.map_cons, List.map_nil]); first | done | rfl | (simp only [List.length_drop, List.length_take]; rfl)) ?_; (with_reducible refine (slices_Clone_string_string.calls _ _ l0_1 t102 _ ?side1 ?side2 A2.out).mono ?_); (case side1 => repeat (first | exact (Kd.C_below HR0_1.out HB.out) | (with_reducible refine Kd.C_alloc ?_ _) | (with_reducible refine Kd.C_drewN ?_ _) | (with_reducible refine Kd.C_drew ?_))); (case side2 => exact HC0_1.out); rintro e w5 ⟨v103, rfl, ho0, hb⟩; refine ⟨_, rfl, ?_⟩; have HO104 := Aside0.mk (Kd.R_lower ho0 (below_size (L_ HB.out))); replace BK101 := Aside0.mk (blk_below (g := gb101) (o := .cells #[.slice A0_0 l0_0.length c0_0, .slice A0_1 l0_1.length c0_1, .slice A0_2 l0_2.length c0_2] 26 (0, 0)) (B_ BK101.out) hb); replace HB := Aside0.mk (below_step (L_ HB.out) hb); (try clear hb); (try clear hb2); (try clear hk); (try clear hi); (try clear ho0); have hcz6_0 : w5.cell? ⟨gb101, 0, none⟩ = some (.slice A0_0 l0_0.length c0_0) := (blk_cell BK101.out 0).trans rfl; have hcz6_1 : w5.cell? ⟨gb101, 1, none⟩ = some (.slice A0_1 l0_1.length c0_1) := (blk_cell BK101.out 1).trans rfl; have hcz6_2 : w5.cell? ⟨gb101, 2, none⟩ = some (.slice A0_2 l0_2.length c0_2) := (blk_cell BK101.out 2).trans rfl; have hfz6_0 := blk_frozen BK101.out 0; have hfz6_1 := blk_frozen BK101.out 1; have hfz6_2 := blk_frozen BK101.out 2))
  go_loopg [3, 12] k (fun kq v3 v12 w' => ∃ (x3_1 : List ByteArray) (x12_1 : Int), v12 = .int .i64 x12_1 ∧ Aside0 (node_keys.l0 kq x3_1 l0_0 (l0_0.length : Int) x12_1 = some r) ∧ Aside0 (kq ≤ k) ∧ Aside0 (Kd.R Kd.string 9 w' w.heap.size (fun _ => True) v3 x3_1) ∧ Aside0 (w'.heap[gb101]? = some (.cells #[(.slice A0_0 l0_0.length c0_0), (.slice A0_1 l0_1.length c0_1), (.slice A0_2 l0_2.length c0_2)] 26 (0, 0))) ∧ Aside0 (Below w.heap.size w w'))
  case atStart => exact ⟨(t102), (0), (by first | rfl | (simp; done) | (simp [*]; done)), H', ⟨Nat.le_refl _⟩, ⟨by (with_reducible repeat (first | apply Kd.R_alloc | apply Kd.R_drewN | apply Kd.R_drew)); exact HO104.out⟩, ⟨by (with_reducible repeat (first | refine blk_drewN ?_ _ | refine blk_drew ?_ | refine blk_alloc ?_ _)); exact BK101.out⟩, ⟨by repeat (first | (with_reducible first | exact HB.out | apply below_alloc | apply pw_below_drewN | apply below_drew1 | refine below_set ?_ GE101.out) | exact HB.out)⟩⟩
  case round =>
    clear H'
    try clear p2
    try clear c4
    try clear c6
    try clear hcz4_0
    try clear hcz4_1
    try clear hcz4_2
    try clear hcz6_0
    try clear hcz6_1
    try clear hcz6_2
    try clear hfz4_0
    try clear hfz4_1
    try clear hfz4_2
    try clear hfz6_0
    try clear hfz6_1
    try clear hfz6_2
    obtain ⟨x3_1, x12_1, rfl, HA, HK1, HO_3, BK101, HB⟩ := hrel
    cases gk with
    | zero => exact absurd HA.out (by simp [node_keys.l0])
    | succ k1 =>
      have H := HA.out
      clear HA
      simp only [node_keys.l0] at H
      by_cases c7 : x12_1 < (l0_0.length : Int)
      · rw [if_pos c7] at H
        have c7b0 : decide (x12_1 < (l0_0.length : Int)) = true := decide_eq_true c7
        clear c7
        by_cases c8 : 0 ≤ x12_1
        · rw [if_pos c8] at H
          have c8b0 : decide (0 ≤ x12_1) = true := decide_eq_true c8
          clear c8
          by_cases c9 : x12_1 < (l0_0.length : Int)
          · rw [if_pos c9] at H
            have c9b0 : decide (x12_1 < (l0_0.length : Int)) = true := decide_eq_true c9
            clear c9
            by_cases c10 : x3_1.length < 8796093022208
            · rw [if_pos c10] at H
              have LMc10 := Aside0.mk c10
              clear c10
              obtain ⟨y107, hy107⟩ : ∃ y_ : List ByteArray, y_ = (x3_1 ++ [(rd_T39 l0_0 x12_1).f0]) := ⟨_, rfl⟩
              replace H : (node_keys.l0 k1 y107 l0_0 (l0_0.length : Int) (wrap64 (x12_1 + 1))) = some r := by first | (rw [hy107]; with_reducible exact H) | (have H2_ := (Option.bind_some _ _).symm.trans H; rw [hy107]; with_reducible exact H2_) | (have H2_ := (Option.bind_some _ _).symm.trans H; with_reducible exact H2_) | with_reducible exact H | (rw [hy107]; exact H) | exact H
              have Ny107 := Aside0.mk hy107
              clear hy107
              have H' := Aside0.mk H
              clear H
              have p105 : 0 ≤ (x12_1 : Int) := of_decide_eq_true (by first | (with_reducible assumption) | assumption)
              have q105 : x12_1 < (l0_0.length : Int) := of_decide_eq_true (by first | (with_reducible assumption) | assumption)
              obtain ⟨ad105, e105, hx105_0, hx105_1⟩ := at_T39 HR0_0.out x12_1 p105 q105
              cases e105
              replace hx105_0 := (HB.out.cell (World.block_lt_of_cell? w _ hx105_0)).trans hx105_0
              replace hx105_1 := (HB.out.cell (World.block_lt_of_cell? w _ hx105_1)).trans hx105_1
              replace p105 := eq_true p105
              replace q105 := eq_true q105
              go_wp2_with (first | ((with_reducible refine gate_dst (N := 5) rfl ?_); refine box_event ?hg (N := 5) ?hd (cs := #[.string (⟨#[]⟩ : ByteArray), .string (⟨#[]⟩ : ByteArray)]) (t := 39) ?hr ?_; (case hd => rfl); (case hg => rfl); (case hr => first | (go_simp; done) | (go_simp; rfl)); intro gb106 hg w11 hbox hb; have BK106 := Aside0.mk (hbox); have GW106 := Aside0.mk ((by rw [hg]; exact (below_size (by repeat (first | (with_reducible first | exact HB.out | apply below_alloc | apply pw_below_drewN | apply below_drew1 | refine below_set ?_ GE101.out) | exact HB.out))) : w.heap.size ≤ gb106)); have GE106 := Aside0.mk ((by rw [hg]; exact (below_size (by repeat (first | (with_reducible first | exact HB.out | apply below_alloc | apply pw_below_drewN | apply below_drew1 | refine below_set ?_ GE101.out) | exact HB.out))) : w.heap.size ≤ gb106)); have NB101_106 := Aside0.mk ((by rw [hg]; exact Nat.ne_of_lt (blk_lt (g := gb101) (o := .cells #[.slice (some ad105) l0_0.length c0_0, .slice A0_1 l0_1.length c0_1, .slice A0_2 l0_2.length c0_2] 26 (0, 0)) (by (with_reducible repeat (first | refine blk_drewN ?_ _ | refine blk_drew ?_ | refine blk_alloc ?_ _)); exact BK101.out)) : gb101 ≠ gb106)); have NB106_101 := Aside0.mk ((by rw [hg]; exact Nat.ne_of_gt (blk_lt (g := gb101) (o := .cells #[.slice (some ad105) l0_0.length c0_0, .slice A0_1 l0_1.length c0_1, .slice A0_2 l0_2.length c0_2] 26 (0, 0)) (by (with_reducible repeat (first | refine blk_drewN ?_ _ | refine blk_drew ?_ | refine blk_alloc ?_ _)); exact BK101.out)) : gb106 ≠ gb101)); replace HO_3 := Aside0.mk (Kd.R_below (by (with_reducible repeat (first | apply Kd.R_alloc | apply Kd.R_drewN | apply Kd.R_drew)); exact HO_3.out) hb); replace BK101 := Aside0.mk (blk_below (g := gb101) (o := .cells #[.slice (some ad105) l0_0.length c0_0, .slice A0_1 l0_1.length c0_1, .slice A0_2 l0_2.length c0_2] 26 (0, 0)) (by (with_reducible repeat (first | refine blk_drewN ?_ _ | refine blk_drew ?_ | refine blk_alloc ?_ _)); exact BK101.out) hb); replace HB := Aside0.mk (below_step (by repeat (first | (with_reducible first | exact HB.out | apply below_alloc | apply pw_below_drewN | apply below_drew1 | refine below_set ?_ GE101.out) | exact HB.out)) hb); clear hb hbox hg; have hnb12 := NB106_101.out; have hnc12 := NB101_106.out; have hcz13_0 : w11.cell? ⟨gb106, 0, none⟩ = some (.string (⟨#[]⟩ : ByteArray)) := (blk_cell BK106.out 0).trans rfl; have hcz13_1 : w11.cell? ⟨gb106, 1, none⟩ = some (.string (⟨#[]⟩ : ByteArray)) := (blk_cell BK106.out 1).trans rfl; have hfz13_0 := blk_frozen BK106.out 0; have hfz13_1 := blk_frozen BK106.out 1) | ((with_reducible refine gate_builtin (b := .append) (xs := #[.tmp 16, .tmp 19]) rfl ?_); at_builtin; refine Kd.R_append Kd.string (w0 := w) w.heap.size rfl (.tmp 16) (.tmp 19) 23 9 (.string ⟨#[]⟩) 16 rfl Try.underlying23 info9 rfl (by decide) (by omega) u3 x3_1 ((rd_T39 l0_0 x12_1).f0) [.string ((rd_T39 l0_0 x12_1).f0)] (fun _ => True) (fun _ => False) rfl (by first | (go_simp; done) | (go_simp; rfl)) ?aP (fun _ hk => hk.elim) ?aF ?aO ?aB ?aS ?aL ?_; (case aP => exact rfl); (case aB => exact (by repeat (first | (with_reducible first | exact HB.out | apply below_alloc | apply pw_below_drewN | apply below_drew1 | refine below_set ?_ GE101.out | refine below_set ?_ GE106.out) | exact HB.out))); (case aF => exact (fun _ _ => trivial)); (case aO => exact (by (with_reducible repeat (first | apply Kd.R_alloc | apply Kd.R_drewN | apply Kd.R_drew)); exact Kd.R_mono (Kd.R_far (p := ⟨gb106, 1, none⟩) (Kd.R_far (p := ⟨gb106, 0, none⟩) (Kd.R_types HO_3.out BK106.out (by decide)) (fun _ hk => hk.2) (.string ((rd_T39 l0_0 x12_1).f0))) (fun _ hk => hk.2) (.string ((rd_T39 l0_0 x12_1).f1))) (fun _ hk => trivial))); (case aS => exact (below_size (by repeat (first | (with_reducible first | exact HB.out | apply below_alloc | apply pw_below_drewN | apply below_drew1 | refine below_set ?_ GE101.out | refine below_set ?_ GE106.out) | exact HB.out)))); (case aL => have := LMc10.out; omega); intro v108 w14 ho hb hg hat; rw [← Ny107.out] at ho; have HO109 := Aside0.mk (ho); replace BK101 := Aside0.mk (blk_grown (g := gb101) (o := .cells #[.slice (some ad105) l0_0.length c0_0, .slice A0_1 l0_1.length c0_1, .slice A0_2 l0_2.length c0_2] 26 (0, 0)) (by (with_reducible repeat (first | refine blk_drewN ?_ _ | refine blk_drew ?_ | refine blk_alloc ?_ _)); refine blk_far ?_ NB101_106.out _; (with_reducible repeat (first | refine blk_drewN ?_ _ | refine blk_drew ?_ | refine blk_alloc ?_ _)); refine blk_far ?_ NB101_106.out _; (with_reducible repeat (first | refine blk_drewN ?_ _ | refine blk_drew ?_ | refine blk_alloc ?_ _)); exact BK101.out) hg (Kd.R_ne HO_3.out BK101.out (by decide))); replace BK106 := Aside0.mk (blk_grown (g := gb106) (o := .cells #[.string ((rd_T39 l0_0 x12_1).f0), .string ((rd_T39 l0_0 x12_1).f1)] 39 (0, 0)) (by (with_reducible repeat (first | refine blk_drewN ?_ _ | refine blk_drew ?_ | refine blk_alloc ?_ _)); refine blk_put (cs := #[.string ((rd_T39 l0_0 x12_1).f0), .string (⟨#[]⟩ : ByteArray)]) ?_ 1 _ rfl; (with_reducible repeat (first | refine blk_drewN ?_ _ | refine blk_drew ?_ | refine blk_alloc ?_ _)); refine blk_put (cs := #[.string (⟨#[]⟩ : ByteArray), .string (⟨#[]⟩ : ByteArray)]) ?_ 0 _ rfl; (with_reducible repeat (first | refine blk_drewN ?_ _ | refine blk_drew ?_ | refine blk_alloc ?_ _)); exact BK106.out) hg (Kd.R_ne HO_3.out BK106.out (by decide))); replace HB := Aside0.mk (hb); clear HO_3; clear ho hb hg hat))
              go_roundg k1
              case measure => have := HK1.out; omega
              case rel => exact ⟨(y107), (wrap64 (x12_1 + 1)), (by first | rfl | (simp; done) | (simp [*]; done)), H', ⟨by have := HK1.out; omega⟩, ⟨by (with_reducible repeat (first | apply Kd.R_alloc | apply Kd.R_drewN | apply Kd.R_drew)); exact HO109.out⟩, ⟨by (with_reducible repeat (first | refine blk_drewN ?_ _ | refine blk_drew ?_ | refine blk_alloc ?_ _)); exact BK101.out⟩, ⟨by repeat (first | (with_reducible first | exact HB.out | apply below_alloc | apply pw_below_drewN | apply below_drew1 | refine below_set ?_ GE101.out | refine below_set ?_ GE106.out) | exact HB.out)⟩⟩
            · rw [if_neg c10] at H
              exact absurd H (by simp)
          · rw [if_neg c9] at H
            exact absurd H (by simp)
        · rw [if_neg c8] at H
          exact absurd H (by simp)
      · rw [if_neg c7] at H
        have c7b0 : decide (x12_1 < (l0_0.length : Int)) = false := decide_eq_false c7
        clear c7
        obtain rfl := Option.some.inj H
        go_wp2
        go_ret
        exact ⟨_, by first | rfl | (simp [errW_none, errW_some] <;> rfl) | (simp [errW_none, errW_some]; exact ⟨rfl, rfl, rfl⟩) | (simp [*, errW_none, errW_some] <;> rfl), by (with_reducible repeat (first | apply Kd.R_alloc | apply Kd.R_drewN | apply Kd.R_drew)); exact HO_3.out, by repeat (first | (with_reducible first | exact HB.out | apply below_alloc | apply pw_below_drewN | apply below_drew1 | refine below_set ?_ GE101.out) | exact HB.out)⟩

/-! ### node_isLeaf: function 38 -/
mutual
def node_isLeaf.j0 : Nat → Bool → List (S39) → List ByteArray → List Int → Option (Bool)
  | 0, _, _, _, _ => none
  | k + 1, x19, x114000, x114001, x114002 => if x19 = true then (some false) else (node_isLeaf.l0 k x114000 (x114000.length : Int) 0 x114000 x114001 x114002)
def node_isLeaf.l0 : Nat → List (S39) → Int → Int → List (S39) → List ByteArray → List Int → Option (Bool)
  | 0, _, _, _, _, _, _ => none
  | k + 1, x21, x22, x23, x114000, x114001, x114002 => if x23 < x22 then (if 0 ≤ x23 then (if x23 < (x21.length : Int) then ((node_isSize.f k 0 60 (([(rd_T39 x21 x23).f1] : List ByteArray))).bind fun t119 => (if t119 = true then (node_isLeaf.l0 k x21 x22 (wrap64 (x23 + 1)) x114000 x114001 x114002) else (some false))) else (none)) else (none)) else ((node_keys.f k x114000 x114001 x114002).bind fun t120 => ((node_isSize.f k 1 24 t120).bind fun t123 => (if t123 = true then ((node_rise.f k t120).bind fun t124 => (some t124)) else (some false))))
end
def node_isLeaf.f (k : Nat) (l0_0 : List (S39)) (l0_1 : List ByteArray) (l0_2 : List Int) : Option (Bool) := if (wrap64 ((l0_1.length : Int) + (l0_2.length : Int))) > 0 then (node_isLeaf.j0 k true l0_0 l0_1 l0_2) else (node_isLeaf.j0 k (decide ((l0_0.length : Int) > 255)) l0_0 l0_1 l0_2)
set_option maxHeartbeats 8000000 in
set_option maxRecDepth 100000 in
theorem node_isLeaf.calls (k : Nat) (A0_0 : Option Addr) (c0_0 : Nat) (l0_0 : List (S39)) (A0_1 : Option Addr) (c0_1 : Nat) (l0_1 : List ByteArray) (A0_2 : Option Addr) (c0_2 : Nat) (l0_2 : List Int) (r : Bool) (w : World) (hr0_0 : Kd.C k39 w A0_0 l0_0.length l0_0) (hc0_0 : l0_0.length ≤ c0_0) (hr0_1 : Kd.C Kd.string w A0_1 l0_1.length l0_1) (hc0_1 : l0_1.length ≤ c0_1) (hr0_2 : Kd.C (Kd.int .u32) w A0_2 l0_2.length l0_2) (hc0_2 : l0_2.length ≤ c0_2) (h : node_isLeaf.f k l0_0 l0_1 l0_2 = some r) :
    Calls Try.prog 38 #[.agg #[.slice A0_0 l0_0.length c0_0, .slice A0_1 l0_1.length c0_1, .slice A0_2 l0_2.length c0_2]] w fun e w' => e = .returned (.bool r) ∧ Below w.heap.size w w' := by
  have hu26 := Try.underlying26
  have hu39 := Try.underlying39
  have HR0_0 := Aside0.mk hr0_0
  have HC0_0 := Aside0.mk hc0_0
  clear hr0_0 hc0_0
  have HR0_1 := Aside0.mk hr0_1
  have HC0_1 := Aside0.mk hc0_1
  clear hr0_1 hc0_1
  have HR0_2 := Aside0.mk hr0_2
  have HC0_2 := Aside0.mk hc0_2
  clear hr0_2 hc0_2
  have HB := Aside0.mk (Below.refl w.heap.size w)
  have H : (if (wrap64 ((l0_1.length : Int) + (l0_2.length : Int))) > 0 then (node_isLeaf.j0 k true l0_0 l0_1 l0_2) else (node_isLeaf.j0 k (decide ((l0_0.length : Int) > 255)) l0_0 l0_1 l0_2)) = some r := h
  clear h
  have HC2 := Aside0.mk H
  clear H
  go_enter Try.func38, Try.ntmps38
  go_upto_region 1 with (first | ((with_reducible refine gate_dst (N := 1) rfl ?_); (try (refine gate_guard (by rfl) ?_; dsimp only)); refine box_event ?hg (N := 1) ?hd (cs := #[.slice A0_0 l0_0.length c0_0, .slice A0_1 l0_1.length c0_1, .slice A0_2 l0_2.length c0_2]) (t := 26) ?hr ?_; (case hd => rfl); (case hg => rfl); (case hr => first | (go_simp; done) | (go_simp; rfl)); intro gb113 hg w3 hbox hb; have BK113 := Aside0.mk (hbox); have GW113 := Aside0.mk ((by rw [hg]; exact (below_size (L_ HB.out)) : w.heap.size ≤ gb113)); have GE113 := Aside0.mk ((by rw [hg]; exact (below_size (L_ HB.out)) : w.heap.size ≤ gb113)); replace HB := Aside0.mk (below_step (L_ HB.out) hb); clear hb hbox hg))
  (try simp only [Act.put, List.setIfInBounds_toArray, List.set_cons_zero, List.set_cons_succ])
  go_cut [19] (fun v19 wc => ∃ (kq : Nat) (x19_1 : Bool), v19 = .bool x19_1 ∧ Aside0 (node_isLeaf.j0 kq x19_1 l0_0 l0_1 l0_2 = some r) ∧ Aside0 (kq ≤ k) ∧ Aside0 (wc.heap[gb113]? = some (.cells #[(.slice A0_0 l0_0.length c0_0), (.slice A0_1 l0_1.length c0_1), (.slice A0_2 l0_2.length c0_2)] 26 (0, 0))) ∧ Aside0 (Below w.heap.size w wc))
  case first =>
    have H := HC2.out
    clear HC2
    by_cases c4 : (wrap64 ((l0_1.length : Int) + (l0_2.length : Int))) > 0
    · rw [if_pos c4] at H
      have c4b0 : decide (0 < (wrap64 ((l0_1.length : Int) + (l0_2.length : Int)))) = true := decide_eq_true c4
      clear c4
      (first | rw [c4b0] | (simp only [i64_w, i32_w]; rw [c4b0]) | skip)
      have H' := Aside0.mk H
      clear H
      have hcz5_0 : w3.cell? ⟨gb113, 0, none⟩ = some (.slice A0_0 l0_0.length c0_0) := (blk_cell BK113.out 0).trans rfl
      have hcz5_1 : w3.cell? ⟨gb113, 1, none⟩ = some (.slice A0_1 l0_1.length c0_1) := (blk_cell BK113.out 1).trans rfl
      have hcz5_2 : w3.cell? ⟨gb113, 2, none⟩ = some (.slice A0_2 l0_2.length c0_2) := (blk_cell BK113.out 2).trans rfl
      have hfz5_0 := blk_frozen BK113.out 0
      have hfz5_1 := blk_frozen BK113.out 1
      have hfz5_2 := blk_frozen BK113.out 2
      go_wp2
      go_meet
      case rel => exact ⟨_, (true), (by first | rfl | (simp; done) | (simp [*]; done)), H', ⟨by first | omega | exact Nat.le_refl _⟩, ⟨by (with_reducible repeat (first | refine blk_drewN ?_ _ | refine blk_drew ?_ | refine blk_alloc ?_ _)); exact BK113.out⟩, ⟨by repeat (first | (with_reducible first | exact HB.out | apply below_alloc | apply pw_below_drewN | apply below_drew1 | refine below_set ?_ GE113.out) | exact HB.out)⟩⟩
    · rw [if_neg c4] at H
      have c4b0 : decide (0 < (wrap64 ((l0_1.length : Int) + (l0_2.length : Int)))) = false := decide_eq_false c4
      clear c4
      (first | rw [c4b0] | (simp only [i64_w, i32_w]; rw [c4b0]) | skip)
      have H' := Aside0.mk H
      clear H
      have hcz6_0 : w3.cell? ⟨gb113, 0, none⟩ = some (.slice A0_0 l0_0.length c0_0) := (blk_cell BK113.out 0).trans rfl
      have hcz6_1 : w3.cell? ⟨gb113, 1, none⟩ = some (.slice A0_1 l0_1.length c0_1) := (blk_cell BK113.out 1).trans rfl
      have hcz6_2 : w3.cell? ⟨gb113, 2, none⟩ = some (.slice A0_2 l0_2.length c0_2) := (blk_cell BK113.out 2).trans rfl
      have hfz6_0 := blk_frozen BK113.out 0
      have hfz6_1 := blk_frozen BK113.out 1
      have hfz6_2 := blk_frozen BK113.out 2
      go_wp2
      go_meet
      case rel => exact ⟨_, (decide ((l0_0.length : Int) > 255)), (by first | rfl | (simp; done) | (simp [*]; done)), H', ⟨by first | omega | exact Nat.le_refl _⟩, ⟨by (with_reducible repeat (first | refine blk_drewN ?_ _ | refine blk_drew ?_ | refine blk_alloc ?_ _)); exact BK113.out⟩, ⟨by repeat (first | (with_reducible first | exact HB.out | apply below_alloc | apply pw_below_drewN | apply below_drew1 | refine below_set ?_ GE113.out) | exact HB.out)⟩⟩
  case rest =>
    clear HC2
    try clear p2
    try clear c3
    try clear c4
    try clear c4b0
    try clear p6
    try clear hcz5_0
    try clear hcz5_1
    try clear hcz5_2
    try clear hcz6_0
    try clear hcz6_1
    try clear hcz6_2
    try clear hfz5_0
    try clear hfz5_1
    try clear hfz5_2
    try clear hfz6_0
    try clear hfz6_1
    try clear hfz6_2
    obtain ⟨kq, x19_1, rfl, HA, HJ1, BK113, HB⟩ := hcut
    cases kq with
    | zero => exact absurd HA.out (by simp [node_isLeaf.j0])
    | succ kj1 =>
      have H := HA.out
      clear HA
      simp only [node_isLeaf.j0] at H
      by_cases c7 : x19_1 = true
      · subst c7
        have H1 : (some false) = some r := by rw [if_pos rfl] at H; exact H
        clear H
        have H := H1
        clear H1
        obtain rfl := Option.some.inj H
        go_wp2
        go_ret
        exact ⟨by first | rfl | (simp [errW_none, errW_some] <;> rfl) | (simp [errW_none, errW_some]; exact ⟨rfl, rfl, rfl⟩) | (simp [*, errW_none, errW_some] <;> rfl), by repeat (first | (with_reducible first | exact HB.out | apply below_alloc | apply pw_below_drewN | apply below_drew1 | refine below_set ?_ GE113.out) | exact HB.out)⟩
      · replace c7 := Bool.eq_false_iff.mpr c7
        subst c7
        have H1 : (node_isLeaf.l0 kj1 l0_0 (l0_0.length : Int) 0 l0_0 l0_1 l0_2) = some r := by rw [if_neg (show ¬ (false = true) by decide)] at H; exact H
        clear H
        have H := H1
        clear H1
        have H' := Aside0.mk H
        clear H
        have hcz8_0 : wc.cell? ⟨gb113, 0, none⟩ = some (.slice A0_0 l0_0.length c0_0) := (blk_cell BK113.out 0).trans rfl
        have hcz8_1 : wc.cell? ⟨gb113, 1, none⟩ = some (.slice A0_1 l0_1.length c0_1) := (blk_cell BK113.out 1).trans rfl
        have hcz8_2 : wc.cell? ⟨gb113, 2, none⟩ = some (.slice A0_2 l0_2.length c0_2) := (blk_cell BK113.out 2).trans rfl
        have hfz8_0 := blk_frozen BK113.out 0
        have hfz8_1 := blk_frozen BK113.out 1
        have hfz8_2 := blk_frozen BK113.out 2
        go_wp2
        go_loopg [23] kj1 (fun kq v23 w' => ∃ (x23_2 : Int), v23 = .int .i64 x23_2 ∧ Aside0 (node_isLeaf.l0 kq l0_0 (l0_0.length : Int) x23_2 l0_0 l0_1 l0_2 = some r) ∧ Aside0 (kq ≤ kj1) ∧ Aside0 (w'.heap[gb113]? = some (.cells #[(.slice A0_0 l0_0.length c0_0), (.slice A0_1 l0_1.length c0_1), (.slice A0_2 l0_2.length c0_2)] 26 (0, 0))) ∧ Aside0 (Below w.heap.size w w'))
        case atStart => exact ⟨(0), (by first | rfl | (simp; done) | (simp [*]; done)), H', ⟨Nat.le_refl _⟩, ⟨by (with_reducible repeat (first | refine blk_drewN ?_ _ | refine blk_drew ?_ | refine blk_alloc ?_ _)); exact BK113.out⟩, ⟨by repeat (first | (with_reducible first | exact HB.out | apply below_alloc | apply pw_below_drewN | apply below_drew1 | refine below_set ?_ GE113.out) | exact HB.out)⟩⟩
        case round =>
          clear H'
          try clear p2
          try clear c3
          try clear c4
          try clear c4b0
          try clear p6
          try clear c7
          try clear hcz5_0
          try clear hcz5_1
          try clear hcz5_2
          try clear hcz6_0
          try clear hcz6_1
          try clear hcz6_2
          try clear hcz8_0
          try clear hcz8_1
          try clear hcz8_2
          try clear hfz5_0
          try clear hfz5_1
          try clear hfz5_2
          try clear hfz6_0
          try clear hfz6_1
          try clear hfz6_2
          try clear hfz8_0
          try clear hfz8_1
          try clear hfz8_2
          try clear p2
          try clear p6
          obtain ⟨x23_2, rfl, HA, HK2, BK113, HB⟩ := hrel
          cases gk with
          | zero => exact absurd HA.out (by simp [node_isLeaf.l0])
          | succ k2 =>
            have H := HA.out
            clear HA
            simp only [node_isLeaf.l0] at H
            by_cases c9 : x23_2 < (l0_0.length : Int)
            · rw [if_pos c9] at H
              have c9b0 : decide (x23_2 < (l0_0.length : Int)) = true := decide_eq_true c9
              clear c9
              by_cases c10 : 0 ≤ x23_2
              · rw [if_pos c10] at H
                have c10b0 : decide (0 ≤ x23_2) = true := decide_eq_true c10
                clear c10
                by_cases c11 : x23_2 < (l0_0.length : Int)
                · rw [if_pos c11] at H
                  have c11b0 : decide (x23_2 < (l0_0.length : Int)) = true := decide_eq_true c11
                  clear c11
                  obtain ⟨y116, hy116⟩ : ∃ y_ : List ByteArray, y_ = (([(rd_T39 l0_0 x23_2).f1] : List ByteArray)) := ⟨_, rfl⟩
                  replace H : ((node_isSize.f k2 0 60 y116).bind fun t119 => (if t119 = true then (node_isLeaf.l0 k2 l0_0 (l0_0.length : Int) (wrap64 (x23_2 + 1)) l0_0 l0_1 l0_2) else (some false))) = some r := by first | (rw [hy116]; with_reducible exact H) | (have H2_ := (Option.bind_some _ _).symm.trans H; rw [hy116]; with_reducible exact H2_) | (have H2_ := (Option.bind_some _ _).symm.trans H; with_reducible exact H2_) | with_reducible exact H | (rw [hy116]; exact H) | exact H
                  have Ny116 := Aside0.mk hy116
                  clear hy116
                  replace H := Option.bind_eq_some_iff.mp H
                  obtain ⟨t119, A120, H⟩ := H
                  replace H : (if t119 = true then (node_isLeaf.l0 k2 l0_0 (l0_0.length : Int) (wrap64 (x23_2 + 1)) l0_0 l0_1 l0_2) else (some false)) = some r := H
                  have A12 := Aside0.mk A120
                  clear A120
                  by_cases c13 : t119 = true
                  · subst c13
                    have H1 : (node_isLeaf.l0 k2 l0_0 (l0_0.length : Int) (wrap64 (x23_2 + 1)) l0_0 l0_1 l0_2) = some r := by rw [if_pos rfl] at H; exact H
                    clear H
                    have H := H1
                    clear H1
                    have H' := Aside0.mk H
                    clear H
                    have p114 : 0 ≤ (x23_2 : Int) := of_decide_eq_true (by first | (with_reducible assumption) | assumption)
                    have q114 : x23_2 < (l0_0.length : Int) := of_decide_eq_true (by first | (with_reducible assumption) | assumption)
                    obtain ⟨ad114, e114, hx114_0, hx114_1⟩ := at_T39 HR0_0.out x23_2 p114 q114
                    cases e114
                    replace hx114_0 := (HB.out.cell (World.block_lt_of_cell? w _ hx114_0)).trans hx114_0
                    replace hx114_1 := (HB.out.cell (World.block_lt_of_cell? w _ hx114_1)).trans hx114_1
                    replace p114 := eq_true p114
                    replace q114 := eq_true q114
                    go_wp2_with (first | ((with_reducible refine gate_dst (N := 4) rfl ?_); (try (refine gate_guard (by rfl) ?_; dsimp only)); refine box_event ?hg (N := 4) ?hd (cs := #[.string (⟨#[]⟩ : ByteArray), .string (⟨#[]⟩ : ByteArray)]) (t := 39) ?hr ?_; (case hd => rfl); (case hg => rfl); (case hr => first | (go_simp; done) | (go_simp; rfl)); intro gb115 hg w14 hbox hb; have BK115 := Aside0.mk (hbox); have GW115 := Aside0.mk ((by rw [hg]; exact (below_size (by repeat (first | (with_reducible first | exact HB.out | apply below_alloc | apply pw_below_drewN | apply below_drew1 | refine below_set ?_ GE113.out) | exact HB.out))) : w.heap.size ≤ gb115)); have GE115 := Aside0.mk ((by rw [hg]; exact (below_size (by repeat (first | (with_reducible first | exact HB.out | apply below_alloc | apply pw_below_drewN | apply below_drew1 | refine below_set ?_ GE113.out) | exact HB.out))) : w.heap.size ≤ gb115)); have NB113_115 := Aside0.mk ((by rw [hg]; exact Nat.ne_of_lt (blk_lt (g := gb113) (o := .cells #[.slice (some ad114) l0_0.length c0_0, .slice A0_1 l0_1.length c0_1, .slice A0_2 l0_2.length c0_2] 26 (0, 0)) (by (with_reducible repeat (first | refine blk_drewN ?_ _ | refine blk_drew ?_ | refine blk_alloc ?_ _)); exact BK113.out)) : gb113 ≠ gb115)); have NB115_113 := Aside0.mk ((by rw [hg]; exact Nat.ne_of_gt (blk_lt (g := gb113) (o := .cells #[.slice (some ad114) l0_0.length c0_0, .slice A0_1 l0_1.length c0_1, .slice A0_2 l0_2.length c0_2] 26 (0, 0)) (by (with_reducible repeat (first | refine blk_drewN ?_ _ | refine blk_drew ?_ | refine blk_alloc ?_ _)); exact BK113.out)) : gb115 ≠ gb113)); replace BK113 := Aside0.mk (blk_below (g := gb113) (o := .cells #[.slice (some ad114) l0_0.length c0_0, .slice A0_1 l0_1.length c0_1, .slice A0_2 l0_2.length c0_2] 26 (0, 0)) (by (with_reducible repeat (first | refine blk_drewN ?_ _ | refine blk_drew ?_ | refine blk_alloc ?_ _)); exact BK113.out) hb); replace HB := Aside0.mk (below_step (by repeat (first | (with_reducible first | exact HB.out | apply below_alloc | apply pw_below_drewN | apply below_drew1 | refine below_set ?_ GE113.out) | exact HB.out)) hb); clear hb hbox hg; have hnb15 := NB115_113.out; have hnc15 := NB113_115.out; have hcz16_0 : w14.cell? ⟨gb115, 0, none⟩ = some (.string (⟨#[]⟩ : ByteArray)) := (blk_cell BK115.out 0).trans rfl; have hcz16_1 : w14.cell? ⟨gb115, 1, none⟩ = some (.string (⟨#[]⟩ : ByteArray)) := (blk_cell BK115.out 1).trans rfl; have hfz16_0 := blk_frozen BK115.out 0; have hfz16_1 := blk_frozen BK115.out 1) | ((with_reducible refine gate_dst (N := 29) rfl ?_); (try (refine gate_guard (by rfl) ?_; dsimp only)); refine Kd.R_lit Kd.string _ 9 ?hg (N := 29) ?hd (xs := ([(rd_T39 l0_0 x23_2).f1] : List ByteArray)) (inner := [.string ((rd_T39 l0_0 x23_2).f1)]) (ok := fun _ => True) (okp := fun _ => True) ?hr ?hp (fun _ hk => hk) trivial (Below.refl _ _) (Nat.le_refl _) (by simp) ?_; (case hd => rfl); (case hg => rfl); (case hr => first | (go_simp; done) | (go_simp; rfl)); (case hp => exact (Reps.one (show Kd.M Kd.string _ _ _ ((rd_T39 l0_0 x23_2).f1) [.string ((rd_T39 l0_0 x23_2).f1)] from rfl) (Reps.none _ _))); intro v117 w17 ho18 hb hg_ hnew_; clear hg_ hnew_; (first | rw [← Ny116.out] at ho18 | (simp only [Int.reduceToNat] at ho18; rw [← Ny116.out] at ho18)); have HO118 := Aside0.mk (Kd.R_lower ho18 (below_size (by repeat (first | (with_reducible first | exact HB.out | apply below_alloc | apply pw_below_drewN | apply below_drew1 | refine below_set ?_ GE113.out | refine below_set ?_ GE115.out) | exact HB.out)))); replace BK113 := Aside0.mk (blk_below (g := gb113) (o := .cells #[.slice (some ad114) l0_0.length c0_0, .slice A0_1 l0_1.length c0_1, .slice A0_2 l0_2.length c0_2] 26 (0, 0)) (by (with_reducible repeat (first | refine blk_drewN ?_ _ | refine blk_drew ?_ | refine blk_alloc ?_ _)); refine blk_far ?_ NB113_115.out _; (with_reducible repeat (first | refine blk_drewN ?_ _ | refine blk_drew ?_ | refine blk_alloc ?_ _)); refine blk_far ?_ NB113_115.out _; (with_reducible repeat (first | refine blk_drewN ?_ _ | refine blk_drew ?_ | refine blk_alloc ?_ _)); exact BK113.out) hb); replace BK115 := Aside0.mk (blk_below (g := gb115) (o := .cells #[.string ((rd_T39 l0_0 x23_2).f0), .string ((rd_T39 l0_0 x23_2).f1)] 39 (0, 0)) (by (with_reducible repeat (first | refine blk_drewN ?_ _ | refine blk_drew ?_ | refine blk_alloc ?_ _)); refine blk_put (cs := #[.string ((rd_T39 l0_0 x23_2).f0), .string (⟨#[]⟩ : ByteArray)]) ?_ 1 _ rfl; (with_reducible repeat (first | refine blk_drewN ?_ _ | refine blk_drew ?_ | refine blk_alloc ?_ _)); refine blk_put (cs := #[.string (⟨#[]⟩ : ByteArray), .string (⟨#[]⟩ : ByteArray)]) ?_ 0 _ rfl; (with_reducible repeat (first | refine blk_drewN ?_ _ | refine blk_drew ?_ | refine blk_alloc ?_ _)); exact BK115.out) hb); replace HB := Aside0.mk (below_step (by repeat (first | (with_reducible first | exact HB.out | apply below_alloc | apply pw_below_drewN | apply below_drew1 | refine below_set ?_ GE113.out | refine below_set ?_ GE115.out) | exact HB.out)) hb); clear hb ho18; obtain ⟨Ao19, co19, eo19⟩ := Kd.R_slice HO118.out; subst eo19) | ((with_reducible refine gate_callee (f := 45) rfl ?_); refine goesL_ (some 30) rfl rfl Try.func45 (by kernel_rfl) rfl #[.int .i64 0, .int .i64 60, .slice Ao19 y116.length co19] rfl (by (try simp only [List.map_toArray, List.map_cons, List.map_nil]); first | done | rfl | (simp only [List.length_drop, List.length_take]; rfl)) ?_; (with_reducible refine (node_isSize.calls k2 0 60 _ _ y116 true _ ?side1 ?side2 A12.out).mono ?_); (case side1 => repeat (first | exact (Kd.R_reads' HO118.out).2.2 | (with_reducible refine Kd.C_alloc ?_ _) | (with_reducible refine Kd.C_drewN ?_ _) | (with_reducible refine Kd.C_drew ?_))); (case side2 => exact (Kd.R_reads' HO118.out).2.1); rintro e w' ⟨rfl, ⟨nd, rfl⟩⟩; refine ⟨_, rfl, ?_⟩))
                    go_roundg k2
                    case measure => have := HJ1.out; have := HK2.out; omega
                    case rel => exact ⟨(wrap64 (x23_2 + 1)), (by first | rfl | (simp; done) | (simp [*]; done)), H', ⟨by have := HJ1.out; have := HK2.out; omega⟩, ⟨by (with_reducible repeat (first | refine blk_drewN ?_ _ | refine blk_drew ?_ | refine blk_alloc ?_ _)); exact BK113.out⟩, ⟨by repeat (first | (with_reducible first | exact HB.out | apply below_alloc | apply pw_below_drewN | apply below_drew1 | refine below_set ?_ GE113.out | refine below_set ?_ GE115.out) | exact HB.out)⟩⟩
                  · replace c13 := Bool.eq_false_iff.mpr c13
                    subst c13
                    have H1 : (some false) = some r := by rw [if_neg (show ¬ (false = true) by decide)] at H; exact H
                    clear H
                    have H := H1
                    clear H1
                    obtain rfl := Option.some.inj H
                    have p114 : 0 ≤ (x23_2 : Int) := of_decide_eq_true (by first | (with_reducible assumption) | assumption)
                    have q114 : x23_2 < (l0_0.length : Int) := of_decide_eq_true (by first | (with_reducible assumption) | assumption)
                    obtain ⟨ad114, e114, hx114_0, hx114_1⟩ := at_T39 HR0_0.out x23_2 p114 q114
                    cases e114
                    replace hx114_0 := (HB.out.cell (World.block_lt_of_cell? w _ hx114_0)).trans hx114_0
                    replace hx114_1 := (HB.out.cell (World.block_lt_of_cell? w _ hx114_1)).trans hx114_1
                    replace p114 := eq_true p114
                    replace q114 := eq_true q114
                    go_wp2_with (first | ((with_reducible refine gate_dst (N := 4) rfl ?_); (try (refine gate_guard (by rfl) ?_; dsimp only)); refine box_event ?hg (N := 4) ?hd (cs := #[.string (⟨#[]⟩ : ByteArray), .string (⟨#[]⟩ : ByteArray)]) (t := 39) ?hr ?_; (case hd => rfl); (case hg => rfl); (case hr => first | (go_simp; done) | (go_simp; rfl)); intro gb115 hg w20 hbox hb; have BK115 := Aside0.mk (hbox); have GW115 := Aside0.mk ((by rw [hg]; exact (below_size (by repeat (first | (with_reducible first | exact HB.out | apply below_alloc | apply pw_below_drewN | apply below_drew1 | refine below_set ?_ GE113.out) | exact HB.out))) : w.heap.size ≤ gb115)); have GE115 := Aside0.mk ((by rw [hg]; exact (below_size (by repeat (first | (with_reducible first | exact HB.out | apply below_alloc | apply pw_below_drewN | apply below_drew1 | refine below_set ?_ GE113.out) | exact HB.out))) : w.heap.size ≤ gb115)); have NB113_115 := Aside0.mk ((by rw [hg]; exact Nat.ne_of_lt (blk_lt (g := gb113) (o := .cells #[.slice (some ad114) l0_0.length c0_0, .slice A0_1 l0_1.length c0_1, .slice A0_2 l0_2.length c0_2] 26 (0, 0)) (by (with_reducible repeat (first | refine blk_drewN ?_ _ | refine blk_drew ?_ | refine blk_alloc ?_ _)); exact BK113.out)) : gb113 ≠ gb115)); have NB115_113 := Aside0.mk ((by rw [hg]; exact Nat.ne_of_gt (blk_lt (g := gb113) (o := .cells #[.slice (some ad114) l0_0.length c0_0, .slice A0_1 l0_1.length c0_1, .slice A0_2 l0_2.length c0_2] 26 (0, 0)) (by (with_reducible repeat (first | refine blk_drewN ?_ _ | refine blk_drew ?_ | refine blk_alloc ?_ _)); exact BK113.out)) : gb115 ≠ gb113)); replace BK113 := Aside0.mk (blk_below (g := gb113) (o := .cells #[.slice (some ad114) l0_0.length c0_0, .slice A0_1 l0_1.length c0_1, .slice A0_2 l0_2.length c0_2] 26 (0, 0)) (by (with_reducible repeat (first | refine blk_drewN ?_ _ | refine blk_drew ?_ | refine blk_alloc ?_ _)); exact BK113.out) hb); replace HB := Aside0.mk (below_step (by repeat (first | (with_reducible first | exact HB.out | apply below_alloc | apply pw_below_drewN | apply below_drew1 | refine below_set ?_ GE113.out) | exact HB.out)) hb); clear hb hbox hg; have hnb21 := NB115_113.out; have hnc21 := NB113_115.out; have hcz22_0 : w20.cell? ⟨gb115, 0, none⟩ = some (.string (⟨#[]⟩ : ByteArray)) := (blk_cell BK115.out 0).trans rfl; have hcz22_1 : w20.cell? ⟨gb115, 1, none⟩ = some (.string (⟨#[]⟩ : ByteArray)) := (blk_cell BK115.out 1).trans rfl; have hfz22_0 := blk_frozen BK115.out 0; have hfz22_1 := blk_frozen BK115.out 1) | ((with_reducible refine gate_dst (N := 29) rfl ?_); (try (refine gate_guard (by rfl) ?_; dsimp only)); refine Kd.R_lit Kd.string _ 9 ?hg (N := 29) ?hd (xs := ([(rd_T39 l0_0 x23_2).f1] : List ByteArray)) (inner := [.string ((rd_T39 l0_0 x23_2).f1)]) (ok := fun _ => True) (okp := fun _ => True) ?hr ?hp (fun _ hk => hk) trivial (Below.refl _ _) (Nat.le_refl _) (by simp) ?_; (case hd => rfl); (case hg => rfl); (case hr => first | (go_simp; done) | (go_simp; rfl)); (case hp => exact (Reps.one (show Kd.M Kd.string _ _ _ ((rd_T39 l0_0 x23_2).f1) [.string ((rd_T39 l0_0 x23_2).f1)] from rfl) (Reps.none _ _))); intro v117 w23 ho24 hb hg_ hnew_; clear hg_ hnew_; (first | rw [← Ny116.out] at ho24 | (simp only [Int.reduceToNat] at ho24; rw [← Ny116.out] at ho24)); have HO118 := Aside0.mk (Kd.R_lower ho24 (below_size (by repeat (first | (with_reducible first | exact HB.out | apply below_alloc | apply pw_below_drewN | apply below_drew1 | refine below_set ?_ GE113.out | refine below_set ?_ GE115.out) | exact HB.out)))); replace BK113 := Aside0.mk (blk_below (g := gb113) (o := .cells #[.slice (some ad114) l0_0.length c0_0, .slice A0_1 l0_1.length c0_1, .slice A0_2 l0_2.length c0_2] 26 (0, 0)) (by (with_reducible repeat (first | refine blk_drewN ?_ _ | refine blk_drew ?_ | refine blk_alloc ?_ _)); refine blk_far ?_ NB113_115.out _; (with_reducible repeat (first | refine blk_drewN ?_ _ | refine blk_drew ?_ | refine blk_alloc ?_ _)); refine blk_far ?_ NB113_115.out _; (with_reducible repeat (first | refine blk_drewN ?_ _ | refine blk_drew ?_ | refine blk_alloc ?_ _)); exact BK113.out) hb); replace BK115 := Aside0.mk (blk_below (g := gb115) (o := .cells #[.string ((rd_T39 l0_0 x23_2).f0), .string ((rd_T39 l0_0 x23_2).f1)] 39 (0, 0)) (by (with_reducible repeat (first | refine blk_drewN ?_ _ | refine blk_drew ?_ | refine blk_alloc ?_ _)); refine blk_put (cs := #[.string ((rd_T39 l0_0 x23_2).f0), .string (⟨#[]⟩ : ByteArray)]) ?_ 1 _ rfl; (with_reducible repeat (first | refine blk_drewN ?_ _ | refine blk_drew ?_ | refine blk_alloc ?_ _)); refine blk_put (cs := #[.string (⟨#[]⟩ : ByteArray), .string (⟨#[]⟩ : ByteArray)]) ?_ 0 _ rfl; (with_reducible repeat (first | refine blk_drewN ?_ _ | refine blk_drew ?_ | refine blk_alloc ?_ _)); exact BK115.out) hb); replace HB := Aside0.mk (below_step (by repeat (first | (with_reducible first | exact HB.out | apply below_alloc | apply pw_below_drewN | apply below_drew1 | refine below_set ?_ GE113.out | refine below_set ?_ GE115.out) | exact HB.out)) hb); clear hb ho24; obtain ⟨Ao25, co25, eo25⟩ := Kd.R_slice HO118.out; subst eo25) | ((with_reducible refine gate_callee (f := 45) rfl ?_); refine goesL_ (some 30) rfl rfl Try.func45 (by kernel_rfl) rfl #[.int .i64 0, .int .i64 60, .slice Ao25 y116.length co25] rfl (by (try simp only [List.map_toArray, List.map_cons, List.map_nil]); first | done | rfl | (simp only [List.length_drop, List.length_take]; rfl)) ?_; (with_reducible refine (node_isSize.calls k2 0 60 _ _ y116 false _ ?side1 ?side2 A12.out).mono ?_); (case side1 => repeat (first | exact (Kd.R_reads' HO118.out).2.2 | (with_reducible refine Kd.C_alloc ?_ _) | (with_reducible refine Kd.C_drewN ?_ _) | (with_reducible refine Kd.C_drew ?_))); (case side2 => exact (Kd.R_reads' HO118.out).2.1); rintro e w' ⟨rfl, ⟨nd, rfl⟩⟩; refine ⟨_, rfl, ?_⟩))
                    go_ret
                    exact ⟨by first | rfl | (simp [errW_none, errW_some] <;> rfl) | (simp [errW_none, errW_some]; exact ⟨rfl, rfl, rfl⟩) | (simp [*, errW_none, errW_some] <;> rfl), by repeat (first | (with_reducible first | exact HB.out | apply below_alloc | apply pw_below_drewN | apply below_drew1 | refine below_set ?_ GE113.out | refine below_set ?_ GE115.out) | exact HB.out)⟩
                · rw [if_neg c11] at H
                  exact absurd H (by simp)
              · rw [if_neg c10] at H
                exact absurd H (by simp)
            · rw [if_neg c9] at H
              have c9b0 : decide (x23_2 < (l0_0.length : Int)) = false := decide_eq_false c9
              clear c9
              replace H := Option.bind_eq_some_iff.mp H
              obtain ⟨t120, A260, H⟩ := H
              replace H : ((node_isSize.f k2 1 24 t120).bind fun t123 => (if t123 = true then ((node_rise.f k2 t120).bind fun t124 => (some t124)) else (some false))) = some r := H
              have A26 := Aside0.mk A260
              clear A260
              replace H := Option.bind_eq_some_iff.mp H
              obtain ⟨t123, A270, H⟩ := H
              replace H : (if t123 = true then ((node_rise.f k2 t120).bind fun t124 => (some t124)) else (some false)) = some r := H
              have A27 := Aside0.mk A270
              clear A270
              by_cases c28 : t123 = true
              · subst c28
                have H1 : ((node_rise.f k2 t120).bind fun t124 => (some t124)) = some r := by rw [if_pos rfl] at H; exact H
                clear H
                have H := H1
                clear H1
                replace H := Option.bind_eq_some_iff.mp H
                obtain ⟨t124, A290, H⟩ := H
                replace H : (some t124) = some r := H
                have A29 := Aside0.mk A290
                clear A290
                obtain rfl := Option.some.inj H
                have hcz30_0 : wr.cell? ⟨gb113, 0, none⟩ = some (.slice A0_0 l0_0.length c0_0) := (blk_cell BK113.out 0).trans rfl
                have hcz30_1 : wr.cell? ⟨gb113, 1, none⟩ = some (.slice A0_1 l0_1.length c0_1) := (blk_cell BK113.out 1).trans rfl
                have hcz30_2 : wr.cell? ⟨gb113, 2, none⟩ = some (.slice A0_2 l0_2.length c0_2) := (blk_cell BK113.out 2).trans rfl
                have hfz30_0 := blk_frozen BK113.out 0
                have hfz30_1 := blk_frozen BK113.out 1
                have hfz30_2 := blk_frozen BK113.out 2
                go_wp2_with (first | ((with_reducible refine gate_callee (f := 44) rfl ?_); refine goesL_ (some 34) rfl rfl Try.func44 (by kernel_rfl) rfl #[.agg #[.slice A0_0 l0_0.length c0_0, .slice A0_1 l0_1.length c0_1, .slice A0_2 l0_2.length c0_2]] rfl (by (try simp only [List.map_toArray, List.map_cons, List.map_nil]); first | done | rfl | (simp only [List.length_drop, List.length_take]; rfl)) ?_; (with_reducible refine (node_keys.calls k2 _ _ l0_0 _ _ l0_1 _ _ l0_2 t120 _ ?side1 ?side2 ?side3 ?side4 ?side5 ?side6 A26.out).mono ?_); (case side1 => repeat (first | exact (Kd.C_below HR0_0.out HB.out) | (with_reducible refine Kd.C_alloc ?_ _) | (with_reducible refine Kd.C_drewN ?_ _) | (with_reducible refine Kd.C_drew ?_))); (case side2 => exact HC0_0.out); (case side3 => repeat (first | exact (Kd.C_below HR0_1.out HB.out) | (with_reducible refine Kd.C_alloc ?_ _) | (with_reducible refine Kd.C_drewN ?_ _) | (with_reducible refine Kd.C_drew ?_))); (case side4 => exact HC0_1.out); (case side5 => repeat (first | exact (Kd.C_below HR0_2.out HB.out) | (with_reducible refine Kd.C_alloc ?_ _) | (with_reducible refine Kd.C_drewN ?_ _) | (with_reducible refine Kd.C_drew ?_))); (case side6 => exact HC0_2.out); rintro e w31 ⟨v121, rfl, ho0, hb⟩; refine ⟨_, rfl, ?_⟩; have HO122 := Aside0.mk (Kd.R_lower ho0 (below_size (L_ HB.out))); replace BK113 := Aside0.mk (blk_below (g := gb113) (o := .cells #[.slice A0_0 l0_0.length c0_0, .slice A0_1 l0_1.length c0_1, .slice A0_2 l0_2.length c0_2] 26 (0, 0)) (B_ BK113.out) hb); replace HB := Aside0.mk (below_step (L_ HB.out) hb); (try clear hb); (try clear hb2); (try clear hk); (try clear hi); (try clear ho0); obtain ⟨Ao32, co32, eo32⟩ := Kd.R_slice HO122.out; subst eo32) | ((with_reducible refine gate_callee (f := 45) rfl ?_); refine goesL_ (some 36) rfl rfl Try.func45 (by kernel_rfl) rfl #[.int .i64 1, .int .i64 24, .slice Ao32 t120.length co32] rfl (by (try simp only [List.map_toArray, List.map_cons, List.map_nil]); first | done | rfl | (simp only [List.length_drop, List.length_take]; rfl)) ?_; (with_reducible refine (node_isSize.calls k2 1 24 _ _ t120 true _ ?side1 ?side2 A27.out).mono ?_); (case side1 => repeat (first | exact (Kd.R_reads' HO122.out).2.2 | (with_reducible refine Kd.C_alloc ?_ _) | (with_reducible refine Kd.C_drewN ?_ _) | (with_reducible refine Kd.C_drew ?_))); (case side2 => exact (Kd.R_reads' HO122.out).2.1); rintro e w' ⟨rfl, ⟨nd, rfl⟩⟩; refine ⟨_, rfl, ?_⟩) | (go_at_call 63; (with_reducible refine (node_rise.calls k2 _ _ t120 t124 _ ?side1 ?side2 A29.out).mono ?_); (case side1 => repeat (first | exact (Kd.R_reads' HO122.out).2.2 | (with_reducible refine Kd.C_alloc ?_ _) | (with_reducible refine Kd.C_drewN ?_ _) | (with_reducible refine Kd.C_drew ?_))); (case side2 => exact (Kd.R_reads' HO122.out).2.1); rintro e w' ⟨rfl, ⟨nd, rfl⟩⟩))
                go_ret
                exact ⟨by first | rfl | (simp [errW_none, errW_some] <;> rfl) | (simp [errW_none, errW_some]; exact ⟨rfl, rfl, rfl⟩) | (simp [*, errW_none, errW_some] <;> rfl), by repeat (first | (with_reducible first | exact HB.out | apply below_alloc | apply pw_below_drewN | apply below_drew1 | refine below_set ?_ GE113.out) | exact HB.out)⟩
              · replace c28 := Bool.eq_false_iff.mpr c28
                subst c28
                have H1 : (some false) = some r := by rw [if_neg (show ¬ (false = true) by decide)] at H; exact H
                clear H
                have H := H1
                clear H1
                obtain rfl := Option.some.inj H
                have hcz33_0 : wr.cell? ⟨gb113, 0, none⟩ = some (.slice A0_0 l0_0.length c0_0) := (blk_cell BK113.out 0).trans rfl
                have hcz33_1 : wr.cell? ⟨gb113, 1, none⟩ = some (.slice A0_1 l0_1.length c0_1) := (blk_cell BK113.out 1).trans rfl
                have hcz33_2 : wr.cell? ⟨gb113, 2, none⟩ = some (.slice A0_2 l0_2.length c0_2) := (blk_cell BK113.out 2).trans rfl
                have hfz33_0 := blk_frozen BK113.out 0
                have hfz33_1 := blk_frozen BK113.out 1
                have hfz33_2 := blk_frozen BK113.out 2
                go_wp2_with (first | ((with_reducible refine gate_callee (f := 44) rfl ?_); refine goesL_ (some 34) rfl rfl Try.func44 (by kernel_rfl) rfl #[.agg #[.slice A0_0 l0_0.length c0_0, .slice A0_1 l0_1.length c0_1, .slice A0_2 l0_2.length c0_2]] rfl (by (try simp only [List.map_toArray, List.map_cons, List.map_nil]); first | done | rfl | (simp only [List.length_drop, List.length_take]; rfl)) ?_; (with_reducible refine (node_keys.calls k2 _ _ l0_0 _ _ l0_1 _ _ l0_2 t120 _ ?side1 ?side2 ?side3 ?side4 ?side5 ?side6 A26.out).mono ?_); (case side1 => repeat (first | exact (Kd.C_below HR0_0.out HB.out) | (with_reducible refine Kd.C_alloc ?_ _) | (with_reducible refine Kd.C_drewN ?_ _) | (with_reducible refine Kd.C_drew ?_))); (case side2 => exact HC0_0.out); (case side3 => repeat (first | exact (Kd.C_below HR0_1.out HB.out) | (with_reducible refine Kd.C_alloc ?_ _) | (with_reducible refine Kd.C_drewN ?_ _) | (with_reducible refine Kd.C_drew ?_))); (case side4 => exact HC0_1.out); (case side5 => repeat (first | exact (Kd.C_below HR0_2.out HB.out) | (with_reducible refine Kd.C_alloc ?_ _) | (with_reducible refine Kd.C_drewN ?_ _) | (with_reducible refine Kd.C_drew ?_))); (case side6 => exact HC0_2.out); rintro e w34 ⟨v121, rfl, ho0, hb⟩; refine ⟨_, rfl, ?_⟩; have HO122 := Aside0.mk (Kd.R_lower ho0 (below_size (L_ HB.out))); replace BK113 := Aside0.mk (blk_below (g := gb113) (o := .cells #[.slice A0_0 l0_0.length c0_0, .slice A0_1 l0_1.length c0_1, .slice A0_2 l0_2.length c0_2] 26 (0, 0)) (B_ BK113.out) hb); replace HB := Aside0.mk (below_step (L_ HB.out) hb); (try clear hb); (try clear hb2); (try clear hk); (try clear hi); (try clear ho0); obtain ⟨Ao35, co35, eo35⟩ := Kd.R_slice HO122.out; subst eo35) | ((with_reducible refine gate_callee (f := 45) rfl ?_); refine goesL_ (some 36) rfl rfl Try.func45 (by kernel_rfl) rfl #[.int .i64 1, .int .i64 24, .slice Ao35 t120.length co35] rfl (by (try simp only [List.map_toArray, List.map_cons, List.map_nil]); first | done | rfl | (simp only [List.length_drop, List.length_take]; rfl)) ?_; (with_reducible refine (node_isSize.calls k2 1 24 _ _ t120 false _ ?side1 ?side2 A27.out).mono ?_); (case side1 => repeat (first | exact (Kd.R_reads' HO122.out).2.2 | (with_reducible refine Kd.C_alloc ?_ _) | (with_reducible refine Kd.C_drewN ?_ _) | (with_reducible refine Kd.C_drew ?_))); (case side2 => exact (Kd.R_reads' HO122.out).2.1); rintro e w' ⟨rfl, ⟨nd, rfl⟩⟩; refine ⟨_, rfl, ?_⟩))
                go_ret
                exact ⟨by first | rfl | (simp [errW_none, errW_some] <;> rfl) | (simp [errW_none, errW_some]; exact ⟨rfl, rfl, rfl⟩) | (simp [*, errW_none, errW_some] <;> rfl), by repeat (first | (with_reducible first | exact HB.out | apply below_alloc | apply pw_below_drewN | apply below_drew1 | refine below_set ?_ GE113.out) | exact HB.out)⟩

/-! ### node_Right: function 14 -/
def node_Right.f (k : Nat) (l0_0 : List (S39)) (l0_1 : List ByteArray) (l0_2 : List Int) : Option (Bool) := (node_isLeaf.f k l0_0 l0_1 l0_2).bind fun t126 => (if t126 = true then (some true) else ((node_isBranch.f l0_0 l0_1 l0_2).bind fun t127 => (some t127)))
set_option maxHeartbeats 8000000 in
set_option maxRecDepth 100000 in
theorem node_Right.calls (k : Nat) (A0_0 : Option Addr) (c0_0 : Nat) (l0_0 : List (S39)) (A0_1 : Option Addr) (c0_1 : Nat) (l0_1 : List ByteArray) (A0_2 : Option Addr) (c0_2 : Nat) (l0_2 : List Int) (r : Bool) (w : World) (hr0_0 : Kd.C k39 w A0_0 l0_0.length l0_0) (hc0_0 : l0_0.length ≤ c0_0) (hr0_1 : Kd.C Kd.string w A0_1 l0_1.length l0_1) (hc0_1 : l0_1.length ≤ c0_1) (hr0_2 : Kd.C (Kd.int .u32) w A0_2 l0_2.length l0_2) (hc0_2 : l0_2.length ≤ c0_2) (h : node_Right.f k l0_0 l0_1 l0_2 = some r) :
    Calls Try.prog 14 #[.agg #[.slice A0_0 l0_0.length c0_0, .slice A0_1 l0_1.length c0_1, .slice A0_2 l0_2.length c0_2]] w fun e w' => e = .returned (.bool r) ∧ Below w.heap.size w w' := by
  have hu26 := Try.underlying26
  have HR0_0 := Aside0.mk hr0_0
  have HC0_0 := Aside0.mk hc0_0
  clear hr0_0 hc0_0
  have HR0_1 := Aside0.mk hr0_1
  have HC0_1 := Aside0.mk hc0_1
  clear hr0_1 hc0_1
  have HR0_2 := Aside0.mk hr0_2
  have HC0_2 := Aside0.mk hc0_2
  clear hr0_2 hc0_2
  have HB := Aside0.mk (Below.refl w.heap.size w)
  have H : ((node_isLeaf.f k l0_0 l0_1 l0_2).bind fun t126 => (if t126 = true then (some true) else ((node_isBranch.f l0_0 l0_1 l0_2).bind fun t127 => (some t127)))) = some r := h
  clear h
  replace H := Option.bind_eq_some_iff.mp H
  obtain ⟨t126, A20, H⟩ := H
  replace H : (if t126 = true then (some true) else ((node_isBranch.f l0_0 l0_1 l0_2).bind fun t127 => (some t127))) = some r := H
  have A2 := Aside0.mk A20
  clear A20
  by_cases c3 : t126 = true
  · subst c3
    have H1 : (some true) = some r := by rw [if_pos rfl] at H; exact H
    clear H
    have H := H1
    clear H1
    obtain rfl := Option.some.inj H
    go_enter Try.func14, Try.ntmps14
    go_wp2_with (first | ((with_reducible refine gate_dst (N := 1) rfl ?_); refine box_event ?hg (N := 1) ?hd (cs := #[.slice A0_0 l0_0.length c0_0, .slice A0_1 l0_1.length c0_1, .slice A0_2 l0_2.length c0_2]) (t := 26) ?hr ?_; (case hd => rfl); (case hg => rfl); (case hr => first | (go_simp; done) | (go_simp; rfl)); intro gb125 hg w4 hbox hb; have BK125 := Aside0.mk (hbox); have GW125 := Aside0.mk ((by rw [hg]; exact (below_size (L_ HB.out)) : w.heap.size ≤ gb125)); have GE125 := Aside0.mk ((by rw [hg]; exact (below_size (L_ HB.out)) : w.heap.size ≤ gb125)); replace HB := Aside0.mk (below_step (L_ HB.out) hb); clear hb hbox hg; have hcz5_0 : w4.cell? ⟨gb125, 0, none⟩ = some (.slice A0_0 l0_0.length c0_0) := (blk_cell BK125.out 0).trans rfl; have hcz5_1 : w4.cell? ⟨gb125, 1, none⟩ = some (.slice A0_1 l0_1.length c0_1) := (blk_cell BK125.out 1).trans rfl; have hcz5_2 : w4.cell? ⟨gb125, 2, none⟩ = some (.slice A0_2 l0_2.length c0_2) := (blk_cell BK125.out 2).trans rfl; have hfz5_0 := blk_frozen BK125.out 0; have hfz5_1 := blk_frozen BK125.out 1; have hfz5_2 := blk_frozen BK125.out 2) | ((with_reducible refine gate_callee (f := 38) rfl ?_); refine goesL_ (some 4) rfl rfl Try.func38 (by kernel_rfl) rfl #[.agg #[.slice A0_0 l0_0.length c0_0, .slice A0_1 l0_1.length c0_1, .slice A0_2 l0_2.length c0_2]] rfl (by (try simp only [List.map_toArray, List.map_cons, List.map_nil]); first | done | rfl | (simp only [List.length_drop, List.length_take]; rfl)) ?_; (with_reducible refine (node_isLeaf.calls k _ _ l0_0 _ _ l0_1 _ _ l0_2 true _ ?side1 ?side2 ?side3 ?side4 ?side5 ?side6 A2.out).mono ?_); (case side1 => repeat (first | exact (Kd.C_below HR0_0.out HB.out) | (with_reducible refine Kd.C_alloc ?_ _) | (with_reducible refine Kd.C_drewN ?_ _) | (with_reducible refine Kd.C_drew ?_))); (case side2 => exact HC0_0.out); (case side3 => repeat (first | exact (Kd.C_below HR0_1.out HB.out) | (with_reducible refine Kd.C_alloc ?_ _) | (with_reducible refine Kd.C_drewN ?_ _) | (with_reducible refine Kd.C_drew ?_))); (case side4 => exact HC0_1.out); (case side5 => repeat (first | exact (Kd.C_below HR0_2.out HB.out) | (with_reducible refine Kd.C_alloc ?_ _) | (with_reducible refine Kd.C_drewN ?_ _) | (with_reducible refine Kd.C_drew ?_))); (case side6 => exact HC0_2.out); rintro e w6 ⟨rfl, hb⟩; refine ⟨_, rfl, ?_⟩; replace BK125 := Aside0.mk (blk_below (g := gb125) (o := .cells #[.slice A0_0 l0_0.length c0_0, .slice A0_1 l0_1.length c0_1, .slice A0_2 l0_2.length c0_2] 26 (0, 0)) (B_ BK125.out) hb); replace HB := Aside0.mk (below_step (L_ HB.out) hb); (try clear hb); (try clear hb2); (try clear hk); (try clear hi)))
    go_ret
    exact ⟨by first | rfl | (simp [errW_none, errW_some] <;> rfl) | (simp [errW_none, errW_some]; exact ⟨rfl, rfl, rfl⟩) | (simp [*, errW_none, errW_some] <;> rfl), by repeat (first | (with_reducible first | exact HB.out | apply below_alloc | apply pw_below_drewN | apply below_drew1 | refine below_set ?_ GE125.out) | exact HB.out)⟩
  · replace c3 := Bool.eq_false_iff.mpr c3
    subst c3
    have H1 : ((node_isBranch.f l0_0 l0_1 l0_2).bind fun t127 => (some t127)) = some r := by rw [if_neg (show ¬ (false = true) by decide)] at H; exact H
    clear H
    have H := H1
    clear H1
    replace H := Option.bind_eq_some_iff.mp H
    obtain ⟨t127, A70, H⟩ := H
    replace H : (some t127) = some r := H
    have A7 := Aside0.mk A70
    clear A70
    obtain rfl := Option.some.inj H
    go_enter Try.func14, Try.ntmps14
    go_wp2_with (first | ((with_reducible refine gate_dst (N := 1) rfl ?_); refine box_event ?hg (N := 1) ?hd (cs := #[.slice A0_0 l0_0.length c0_0, .slice A0_1 l0_1.length c0_1, .slice A0_2 l0_2.length c0_2]) (t := 26) ?hr ?_; (case hd => rfl); (case hg => rfl); (case hr => first | (go_simp; done) | (go_simp; rfl)); intro gb125 hg w8 hbox hb; have BK125 := Aside0.mk (hbox); have GW125 := Aside0.mk ((by rw [hg]; exact (below_size (L_ HB.out)) : w.heap.size ≤ gb125)); have GE125 := Aside0.mk ((by rw [hg]; exact (below_size (L_ HB.out)) : w.heap.size ≤ gb125)); replace HB := Aside0.mk (below_step (L_ HB.out) hb); clear hb hbox hg; have hcz9_0 : w8.cell? ⟨gb125, 0, none⟩ = some (.slice A0_0 l0_0.length c0_0) := (blk_cell BK125.out 0).trans rfl; have hcz9_1 : w8.cell? ⟨gb125, 1, none⟩ = some (.slice A0_1 l0_1.length c0_1) := (blk_cell BK125.out 1).trans rfl; have hcz9_2 : w8.cell? ⟨gb125, 2, none⟩ = some (.slice A0_2 l0_2.length c0_2) := (blk_cell BK125.out 2).trans rfl; have hfz9_0 := blk_frozen BK125.out 0; have hfz9_1 := blk_frozen BK125.out 1; have hfz9_2 := blk_frozen BK125.out 2) | ((with_reducible refine gate_callee (f := 38) rfl ?_); refine goesL_ (some 4) rfl rfl Try.func38 (by kernel_rfl) rfl #[.agg #[.slice A0_0 l0_0.length c0_0, .slice A0_1 l0_1.length c0_1, .slice A0_2 l0_2.length c0_2]] rfl (by (try simp only [List.map_toArray, List.map_cons, List.map_nil]); first | done | rfl | (simp only [List.length_drop, List.length_take]; rfl)) ?_; (with_reducible refine (node_isLeaf.calls k _ _ l0_0 _ _ l0_1 _ _ l0_2 false _ ?side1 ?side2 ?side3 ?side4 ?side5 ?side6 A2.out).mono ?_); (case side1 => repeat (first | exact (Kd.C_below HR0_0.out HB.out) | (with_reducible refine Kd.C_alloc ?_ _) | (with_reducible refine Kd.C_drewN ?_ _) | (with_reducible refine Kd.C_drew ?_))); (case side2 => exact HC0_0.out); (case side3 => repeat (first | exact (Kd.C_below HR0_1.out HB.out) | (with_reducible refine Kd.C_alloc ?_ _) | (with_reducible refine Kd.C_drewN ?_ _) | (with_reducible refine Kd.C_drew ?_))); (case side4 => exact HC0_1.out); (case side5 => repeat (first | exact (Kd.C_below HR0_2.out HB.out) | (with_reducible refine Kd.C_alloc ?_ _) | (with_reducible refine Kd.C_drewN ?_ _) | (with_reducible refine Kd.C_drew ?_))); (case side6 => exact HC0_2.out); rintro e w10 ⟨rfl, hb⟩; refine ⟨_, rfl, ?_⟩; replace BK125 := Aside0.mk (blk_below (g := gb125) (o := .cells #[.slice A0_0 l0_0.length c0_0, .slice A0_1 l0_1.length c0_1, .slice A0_2 l0_2.length c0_2] 26 (0, 0)) (B_ BK125.out) hb); replace HB := Aside0.mk (below_step (L_ HB.out) hb); (try clear hb); (try clear hb2); (try clear hk); (try clear hi); have hcz11_0 : w10.cell? ⟨gb125, 0, none⟩ = some (.slice A0_0 l0_0.length c0_0) := (blk_cell BK125.out 0).trans rfl; have hcz11_1 : w10.cell? ⟨gb125, 1, none⟩ = some (.slice A0_1 l0_1.length c0_1) := (blk_cell BK125.out 1).trans rfl; have hcz11_2 : w10.cell? ⟨gb125, 2, none⟩ = some (.slice A0_2 l0_2.length c0_2) := (blk_cell BK125.out 2).trans rfl; have hfz11_0 := blk_frozen BK125.out 0; have hfz11_1 := blk_frozen BK125.out 1; have hfz11_2 := blk_frozen BK125.out 2) | (go_at_call 39; (with_reducible refine (node_isBranch.calls _ _ l0_0 _ _ l0_1 _ _ l0_2 t127 _ ?side1 ?side2 ?side3 ?side4 ?side5 ?side6 A7.out).mono ?_); (case side1 => repeat (first | exact (Kd.C_below HR0_0.out HB.out) | (with_reducible refine Kd.C_alloc ?_ _) | (with_reducible refine Kd.C_drewN ?_ _) | (with_reducible refine Kd.C_drew ?_))); (case side2 => exact HC0_0.out); (case side3 => repeat (first | exact (Kd.C_below HR0_1.out HB.out) | (with_reducible refine Kd.C_alloc ?_ _) | (with_reducible refine Kd.C_drewN ?_ _) | (with_reducible refine Kd.C_drew ?_))); (case side4 => exact HC0_1.out); (case side5 => repeat (first | exact (Kd.C_below HR0_2.out HB.out) | (with_reducible refine Kd.C_alloc ?_ _) | (with_reducible refine Kd.C_drewN ?_ _) | (with_reducible refine Kd.C_drew ?_))); (case side6 => exact HC0_2.out); rintro e w12 ⟨rfl, hb⟩; replace BK125 := Aside0.mk (blk_below (g := gb125) (o := .cells #[.slice A0_0 l0_0.length c0_0, .slice A0_1 l0_1.length c0_1, .slice A0_2 l0_2.length c0_2] 26 (0, 0)) (B_ BK125.out) hb); replace HB := Aside0.mk (below_step (L_ HB.out) hb); (try clear hb); (try clear hb2); (try clear hk); (try clear hi)))
    go_ret
    exact ⟨by first | rfl | (simp [errW_none, errW_some] <;> rfl) | (simp [errW_none, errW_some]; exact ⟨rfl, rfl, rfl⟩) | (simp [*, errW_none, errW_some] <;> rfl), by repeat (first | (with_reducible first | exact HB.out | apply below_alloc | apply pw_below_drewN | apply below_drew1 | refine below_set ?_ GE125.out) | exact HB.out)⟩

/-! ### node_Place: function 18 -/
def node_Place.f (k : Nat) (l0_0 : List (S39)) (l0_1 : List ByteArray) (l0_2 : List Int) (a1 : ByteArray) : Option (Int) := (node_Right.f k l0_0 l0_1 l0_2).bind fun t138 => (if t138 = true then ((node_keys.f k l0_0 l0_1 l0_2).bind fun t139 => ((slices_BinarySearch_string_string.f k t139 a1).bind fun bt142 => (if bt142.2 = true then (if (l0_2.length : Int) > 0 then (some (wrap64 (bt142.1 + 1))) else (some bt142.1)) else (some bt142.1)))) else (some 0))
set_option maxHeartbeats 8000000 in
set_option maxRecDepth 100000 in
theorem node_Place.calls (k : Nat) (A0_0 : Option Addr) (c0_0 : Nat) (l0_0 : List (S39)) (A0_1 : Option Addr) (c0_1 : Nat) (l0_1 : List ByteArray) (A0_2 : Option Addr) (c0_2 : Nat) (l0_2 : List Int) (a1 : ByteArray) (r : Int) (w : World) (hr0_0 : Kd.C k39 w A0_0 l0_0.length l0_0) (hc0_0 : l0_0.length ≤ c0_0) (hr0_1 : Kd.C Kd.string w A0_1 l0_1.length l0_1) (hc0_1 : l0_1.length ≤ c0_1) (hr0_2 : Kd.C (Kd.int .u32) w A0_2 l0_2.length l0_2) (hc0_2 : l0_2.length ≤ c0_2) (h : node_Place.f k l0_0 l0_1 l0_2 a1 = some r) :
    Calls Try.prog 18 #[.agg #[.slice A0_0 l0_0.length c0_0, .slice A0_1 l0_1.length c0_1, .slice A0_2 l0_2.length c0_2], .string a1] w fun e w' => e = .returned (.int .i64 r) ∧ Below w.heap.size w w' := by
  have hu26 := Try.underlying26
  have HR0_0 := Aside0.mk hr0_0
  have HC0_0 := Aside0.mk hc0_0
  clear hr0_0 hc0_0
  have HR0_1 := Aside0.mk hr0_1
  have HC0_1 := Aside0.mk hc0_1
  clear hr0_1 hc0_1
  have HR0_2 := Aside0.mk hr0_2
  have HC0_2 := Aside0.mk hc0_2
  clear hr0_2 hc0_2
  have HB := Aside0.mk (Below.refl w.heap.size w)
  have H : ((node_Right.f k l0_0 l0_1 l0_2).bind fun t138 => (if t138 = true then ((node_keys.f k l0_0 l0_1 l0_2).bind fun t139 => ((slices_BinarySearch_string_string.f k t139 a1).bind fun bt142 => (if bt142.2 = true then (if (l0_2.length : Int) > 0 then (some (wrap64 (bt142.1 + 1))) else (some bt142.1)) else (some bt142.1)))) else (some 0))) = some r := h
  clear h
  replace H := Option.bind_eq_some_iff.mp H
  obtain ⟨t138, A30, H⟩ := H
  replace H : (if t138 = true then ((node_keys.f k l0_0 l0_1 l0_2).bind fun t139 => ((slices_BinarySearch_string_string.f k t139 a1).bind fun bt142 => (if bt142.2 = true then (if (l0_2.length : Int) > 0 then (some (wrap64 (bt142.1 + 1))) else (some bt142.1)) else (some bt142.1)))) else (some 0)) = some r := H
  have A3 := Aside0.mk A30
  clear A30
  by_cases c4 : t138 = true
  · subst c4
    have H1 : ((node_keys.f k l0_0 l0_1 l0_2).bind fun t139 => ((slices_BinarySearch_string_string.f k t139 a1).bind fun bt142 => (if bt142.2 = true then (if (l0_2.length : Int) > 0 then (some (wrap64 (bt142.1 + 1))) else (some bt142.1)) else (some bt142.1)))) = some r := by rw [if_pos rfl] at H; exact H
    clear H
    have H := H1
    clear H1
    replace H := Option.bind_eq_some_iff.mp H
    obtain ⟨t139, A50, H⟩ := H
    replace H : ((slices_BinarySearch_string_string.f k t139 a1).bind fun bt142 => (if bt142.2 = true then (if (l0_2.length : Int) > 0 then (some (wrap64 (bt142.1 + 1))) else (some bt142.1)) else (some bt142.1))) = some r := H
    have A5 := Aside0.mk A50
    clear A50
    replace H := Option.bind_eq_some_iff.mp H
    obtain ⟨⟨t142, t143⟩, A60, H⟩ := H
    replace H : (if t143 = true then (if (l0_2.length : Int) > 0 then (some (wrap64 (t142 + 1))) else (some t142)) else (some t142)) = some r := H
    have A6 := Aside0.mk A60
    clear A60
    by_cases c7 : t143 = true
    · subst c7
      have H1 : (if (l0_2.length : Int) > 0 then (some (wrap64 (t142 + 1))) else (some t142)) = some r := by rw [if_pos rfl] at H; exact H
      clear H
      have H := H1
      clear H1
      by_cases c8 : (l0_2.length : Int) > 0
      · rw [if_pos c8] at H
        have c8b0 : decide (0 < (l0_2.length : Int)) = true := decide_eq_true c8
        have c8b1 : decide (0 < l0_2.length) = true := decide_eq_true (by omega)
        clear c8
        obtain rfl := Option.some.inj H
        go_enter Try.func18, Try.ntmps18
        go_wp2_with (first | ((with_reducible refine gate_dst (N := 2) rfl ?_); (try (refine gate_guard (by rfl) ?_; dsimp only)); refine box_event ?hg (N := 2) ?hd (cs := #[.slice A0_0 l0_0.length c0_0, .slice A0_1 l0_1.length c0_1, .slice A0_2 l0_2.length c0_2]) (t := 26) ?hr ?_; (case hd => rfl); (case hg => rfl); (case hr => first | (go_simp; done) | (go_simp; rfl)); intro gb137 hg w9 hbox hb; have BK137 := Aside0.mk (hbox); have GW137 := Aside0.mk ((by rw [hg]; exact (below_size (L_ HB.out)) : w.heap.size ≤ gb137)); have GE137 := Aside0.mk ((by rw [hg]; exact (below_size (L_ HB.out)) : w.heap.size ≤ gb137)); replace HB := Aside0.mk (below_step (L_ HB.out) hb); clear hb hbox hg; have hcz10_0 : w9.cell? ⟨gb137, 0, none⟩ = some (.slice A0_0 l0_0.length c0_0) := (blk_cell BK137.out 0).trans rfl; have hcz10_1 : w9.cell? ⟨gb137, 1, none⟩ = some (.slice A0_1 l0_1.length c0_1) := (blk_cell BK137.out 1).trans rfl; have hcz10_2 : w9.cell? ⟨gb137, 2, none⟩ = some (.slice A0_2 l0_2.length c0_2) := (blk_cell BK137.out 2).trans rfl; have hfz10_0 := blk_frozen BK137.out 0; have hfz10_1 := blk_frozen BK137.out 1; have hfz10_2 := blk_frozen BK137.out 2) | ((with_reducible refine gate_callee (f := 14) rfl ?_); refine goesL_ (some 8) rfl rfl Try.func14 (by kernel_rfl) rfl #[.agg #[.slice A0_0 l0_0.length c0_0, .slice A0_1 l0_1.length c0_1, .slice A0_2 l0_2.length c0_2]] rfl (by (try simp only [List.map_toArray, List.map_cons, List.map_nil]); first | done | rfl | (simp only [List.length_drop, List.length_take]; rfl)) ?_; (with_reducible refine (node_Right.calls k _ _ l0_0 _ _ l0_1 _ _ l0_2 true _ ?side1 ?side2 ?side3 ?side4 ?side5 ?side6 A3.out).mono ?_); (case side1 => repeat (first | exact (Kd.C_below HR0_0.out HB.out) | (with_reducible refine Kd.C_alloc ?_ _) | (with_reducible refine Kd.C_drewN ?_ _) | (with_reducible refine Kd.C_drew ?_))); (case side2 => exact HC0_0.out); (case side3 => repeat (first | exact (Kd.C_below HR0_1.out HB.out) | (with_reducible refine Kd.C_alloc ?_ _) | (with_reducible refine Kd.C_drewN ?_ _) | (with_reducible refine Kd.C_drew ?_))); (case side4 => exact HC0_1.out); (case side5 => repeat (first | exact (Kd.C_below HR0_2.out HB.out) | (with_reducible refine Kd.C_alloc ?_ _) | (with_reducible refine Kd.C_drewN ?_ _) | (with_reducible refine Kd.C_drew ?_))); (case side6 => exact HC0_2.out); rintro e w11 ⟨rfl, hb⟩; refine ⟨_, rfl, ?_⟩; replace BK137 := Aside0.mk (blk_below (g := gb137) (o := .cells #[.slice A0_0 l0_0.length c0_0, .slice A0_1 l0_1.length c0_1, .slice A0_2 l0_2.length c0_2] 26 (0, 0)) (B_ BK137.out) hb); replace HB := Aside0.mk (below_step (L_ HB.out) hb); (try clear hb); (try clear hb2); (try clear hk); (try clear hi); have hcz12_0 : w11.cell? ⟨gb137, 0, none⟩ = some (.slice A0_0 l0_0.length c0_0) := (blk_cell BK137.out 0).trans rfl; have hcz12_1 : w11.cell? ⟨gb137, 1, none⟩ = some (.slice A0_1 l0_1.length c0_1) := (blk_cell BK137.out 1).trans rfl; have hcz12_2 : w11.cell? ⟨gb137, 2, none⟩ = some (.slice A0_2 l0_2.length c0_2) := (blk_cell BK137.out 2).trans rfl; have hfz12_0 := blk_frozen BK137.out 0; have hfz12_1 := blk_frozen BK137.out 1; have hfz12_2 := blk_frozen BK137.out 2) | ((with_reducible refine gate_callee (f := 44) rfl ?_); refine goesL_ (some 12) rfl rfl Try.func44 (by kernel_rfl) rfl #[.agg #[.slice A0_0 l0_0.length c0_0, .slice A0_1 l0_1.length c0_1, .slice A0_2 l0_2.length c0_2]] rfl (by (try simp only [List.map_toArray, List.map_cons, List.map_nil]); first | done | rfl | (simp only [List.length_drop, List.length_take]; rfl)) ?_; (with_reducible refine (node_keys.calls k _ _ l0_0 _ _ l0_1 _ _ l0_2 t139 _ ?side1 ?side2 ?side3 ?side4 ?side5 ?side6 A5.out).mono ?_); (case side1 => repeat (first | exact (Kd.C_below HR0_0.out HB.out) | (with_reducible refine Kd.C_alloc ?_ _) | (with_reducible refine Kd.C_drewN ?_ _) | (with_reducible refine Kd.C_drew ?_))); (case side2 => exact HC0_0.out); (case side3 => repeat (first | exact (Kd.C_below HR0_1.out HB.out) | (with_reducible refine Kd.C_alloc ?_ _) | (with_reducible refine Kd.C_drewN ?_ _) | (with_reducible refine Kd.C_drew ?_))); (case side4 => exact HC0_1.out); (case side5 => repeat (first | exact (Kd.C_below HR0_2.out HB.out) | (with_reducible refine Kd.C_alloc ?_ _) | (with_reducible refine Kd.C_drewN ?_ _) | (with_reducible refine Kd.C_drew ?_))); (case side6 => exact HC0_2.out); rintro e w13 ⟨v140, rfl, ho0, hb⟩; refine ⟨_, rfl, ?_⟩; have HO141 := Aside0.mk (Kd.R_lower ho0 (below_size (L_ HB.out))); replace BK137 := Aside0.mk (blk_below (g := gb137) (o := .cells #[.slice A0_0 l0_0.length c0_0, .slice A0_1 l0_1.length c0_1, .slice A0_2 l0_2.length c0_2] 26 (0, 0)) (B_ BK137.out) hb); replace HB := Aside0.mk (below_step (L_ HB.out) hb); (try clear hb); (try clear hb2); (try clear hk); (try clear hi); (try clear ho0); obtain ⟨Ao14, co14, eo14⟩ := Kd.R_slice HO141.out; subst eo14) | ((with_reducible refine gate_callee (f := 43) rfl ?_); refine goesL_ (some 14) rfl rfl Try.func43 (by kernel_rfl) rfl #[.slice Ao14 t139.length co14, .string a1] rfl (by (try simp only [List.map_toArray, List.map_cons, List.map_nil]); first | done | rfl | (simp only [List.length_drop, List.length_take]; rfl)) ?_; (with_reducible refine (slices_BinarySearch_string_string.calls k _ _ t139 a1 t142 true _ ?side1 ?side2 A6.out).mono ?_); (case side1 => repeat (first | exact (Kd.R_reads' HO141.out).2.2 | (with_reducible refine Kd.C_alloc ?_ _) | (with_reducible refine Kd.C_drewN ?_ _) | (with_reducible refine Kd.C_drew ?_))); (case side2 => exact (Kd.R_reads' HO141.out).2.1); rintro e w' ⟨rfl, ⟨nd, rfl⟩⟩; refine ⟨_, rfl, ?_⟩; have hcz15_0 : w13.cell? ⟨gb137, 0, none⟩ = some (.slice A0_0 l0_0.length c0_0) := (blk_cell BK137.out 0).trans rfl; have hcz15_1 : w13.cell? ⟨gb137, 1, none⟩ = some (.slice A0_1 l0_1.length c0_1) := (blk_cell BK137.out 1).trans rfl; have hcz15_2 : w13.cell? ⟨gb137, 2, none⟩ = some (.slice A0_2 l0_2.length c0_2) := (blk_cell BK137.out 2).trans rfl; have hfz15_0 := blk_frozen BK137.out 0; have hfz15_1 := blk_frozen BK137.out 1; have hfz15_2 := blk_frozen BK137.out 2))
        go_ret
        exact ⟨by first | rfl | (simp [errW_none, errW_some] <;> rfl) | (simp [errW_none, errW_some]; exact ⟨rfl, rfl, rfl⟩) | (simp [*, errW_none, errW_some] <;> rfl), by repeat (first | (with_reducible first | exact HB.out | apply below_alloc | apply pw_below_drewN | apply below_drew1 | refine below_set ?_ GE137.out) | exact HB.out)⟩
      · rw [if_neg c8] at H
        have c8b0 : decide (0 < (l0_2.length : Int)) = false := decide_eq_false c8
        have c8b1 : decide (0 < l0_2.length) = false := decide_eq_false (by omega)
        clear c8
        obtain rfl := Option.some.inj H
        go_enter Try.func18, Try.ntmps18
        go_wp2_with (first | ((with_reducible refine gate_dst (N := 2) rfl ?_); (try (refine gate_guard (by rfl) ?_; dsimp only)); refine box_event ?hg (N := 2) ?hd (cs := #[.slice A0_0 l0_0.length c0_0, .slice A0_1 l0_1.length c0_1, .slice A0_2 l0_2.length c0_2]) (t := 26) ?hr ?_; (case hd => rfl); (case hg => rfl); (case hr => first | (go_simp; done) | (go_simp; rfl)); intro gb137 hg w16 hbox hb; have BK137 := Aside0.mk (hbox); have GW137 := Aside0.mk ((by rw [hg]; exact (below_size (L_ HB.out)) : w.heap.size ≤ gb137)); have GE137 := Aside0.mk ((by rw [hg]; exact (below_size (L_ HB.out)) : w.heap.size ≤ gb137)); replace HB := Aside0.mk (below_step (L_ HB.out) hb); clear hb hbox hg; have hcz17_0 : w16.cell? ⟨gb137, 0, none⟩ = some (.slice A0_0 l0_0.length c0_0) := (blk_cell BK137.out 0).trans rfl; have hcz17_1 : w16.cell? ⟨gb137, 1, none⟩ = some (.slice A0_1 l0_1.length c0_1) := (blk_cell BK137.out 1).trans rfl; have hcz17_2 : w16.cell? ⟨gb137, 2, none⟩ = some (.slice A0_2 l0_2.length c0_2) := (blk_cell BK137.out 2).trans rfl; have hfz17_0 := blk_frozen BK137.out 0; have hfz17_1 := blk_frozen BK137.out 1; have hfz17_2 := blk_frozen BK137.out 2) | ((with_reducible refine gate_callee (f := 14) rfl ?_); refine goesL_ (some 8) rfl rfl Try.func14 (by kernel_rfl) rfl #[.agg #[.slice A0_0 l0_0.length c0_0, .slice A0_1 l0_1.length c0_1, .slice A0_2 l0_2.length c0_2]] rfl (by (try simp only [List.map_toArray, List.map_cons, List.map_nil]); first | done | rfl | (simp only [List.length_drop, List.length_take]; rfl)) ?_; (with_reducible refine (node_Right.calls k _ _ l0_0 _ _ l0_1 _ _ l0_2 true _ ?side1 ?side2 ?side3 ?side4 ?side5 ?side6 A3.out).mono ?_); (case side1 => repeat (first | exact (Kd.C_below HR0_0.out HB.out) | (with_reducible refine Kd.C_alloc ?_ _) | (with_reducible refine Kd.C_drewN ?_ _) | (with_reducible refine Kd.C_drew ?_))); (case side2 => exact HC0_0.out); (case side3 => repeat (first | exact (Kd.C_below HR0_1.out HB.out) | (with_reducible refine Kd.C_alloc ?_ _) | (with_reducible refine Kd.C_drewN ?_ _) | (with_reducible refine Kd.C_drew ?_))); (case side4 => exact HC0_1.out); (case side5 => repeat (first | exact (Kd.C_below HR0_2.out HB.out) | (with_reducible refine Kd.C_alloc ?_ _) | (with_reducible refine Kd.C_drewN ?_ _) | (with_reducible refine Kd.C_drew ?_))); (case side6 => exact HC0_2.out); rintro e w18 ⟨rfl, hb⟩; refine ⟨_, rfl, ?_⟩; replace BK137 := Aside0.mk (blk_below (g := gb137) (o := .cells #[.slice A0_0 l0_0.length c0_0, .slice A0_1 l0_1.length c0_1, .slice A0_2 l0_2.length c0_2] 26 (0, 0)) (B_ BK137.out) hb); replace HB := Aside0.mk (below_step (L_ HB.out) hb); (try clear hb); (try clear hb2); (try clear hk); (try clear hi); have hcz19_0 : w18.cell? ⟨gb137, 0, none⟩ = some (.slice A0_0 l0_0.length c0_0) := (blk_cell BK137.out 0).trans rfl; have hcz19_1 : w18.cell? ⟨gb137, 1, none⟩ = some (.slice A0_1 l0_1.length c0_1) := (blk_cell BK137.out 1).trans rfl; have hcz19_2 : w18.cell? ⟨gb137, 2, none⟩ = some (.slice A0_2 l0_2.length c0_2) := (blk_cell BK137.out 2).trans rfl; have hfz19_0 := blk_frozen BK137.out 0; have hfz19_1 := blk_frozen BK137.out 1; have hfz19_2 := blk_frozen BK137.out 2) | ((with_reducible refine gate_callee (f := 44) rfl ?_); refine goesL_ (some 12) rfl rfl Try.func44 (by kernel_rfl) rfl #[.agg #[.slice A0_0 l0_0.length c0_0, .slice A0_1 l0_1.length c0_1, .slice A0_2 l0_2.length c0_2]] rfl (by (try simp only [List.map_toArray, List.map_cons, List.map_nil]); first | done | rfl | (simp only [List.length_drop, List.length_take]; rfl)) ?_; (with_reducible refine (node_keys.calls k _ _ l0_0 _ _ l0_1 _ _ l0_2 t139 _ ?side1 ?side2 ?side3 ?side4 ?side5 ?side6 A5.out).mono ?_); (case side1 => repeat (first | exact (Kd.C_below HR0_0.out HB.out) | (with_reducible refine Kd.C_alloc ?_ _) | (with_reducible refine Kd.C_drewN ?_ _) | (with_reducible refine Kd.C_drew ?_))); (case side2 => exact HC0_0.out); (case side3 => repeat (first | exact (Kd.C_below HR0_1.out HB.out) | (with_reducible refine Kd.C_alloc ?_ _) | (with_reducible refine Kd.C_drewN ?_ _) | (with_reducible refine Kd.C_drew ?_))); (case side4 => exact HC0_1.out); (case side5 => repeat (first | exact (Kd.C_below HR0_2.out HB.out) | (with_reducible refine Kd.C_alloc ?_ _) | (with_reducible refine Kd.C_drewN ?_ _) | (with_reducible refine Kd.C_drew ?_))); (case side6 => exact HC0_2.out); rintro e w20 ⟨v140, rfl, ho0, hb⟩; refine ⟨_, rfl, ?_⟩; have HO141 := Aside0.mk (Kd.R_lower ho0 (below_size (L_ HB.out))); replace BK137 := Aside0.mk (blk_below (g := gb137) (o := .cells #[.slice A0_0 l0_0.length c0_0, .slice A0_1 l0_1.length c0_1, .slice A0_2 l0_2.length c0_2] 26 (0, 0)) (B_ BK137.out) hb); replace HB := Aside0.mk (below_step (L_ HB.out) hb); (try clear hb); (try clear hb2); (try clear hk); (try clear hi); (try clear ho0); obtain ⟨Ao21, co21, eo21⟩ := Kd.R_slice HO141.out; subst eo21) | ((with_reducible refine gate_callee (f := 43) rfl ?_); refine goesL_ (some 14) rfl rfl Try.func43 (by kernel_rfl) rfl #[.slice Ao21 t139.length co21, .string a1] rfl (by (try simp only [List.map_toArray, List.map_cons, List.map_nil]); first | done | rfl | (simp only [List.length_drop, List.length_take]; rfl)) ?_; (with_reducible refine (slices_BinarySearch_string_string.calls k _ _ t139 a1 t142 true _ ?side1 ?side2 A6.out).mono ?_); (case side1 => repeat (first | exact (Kd.R_reads' HO141.out).2.2 | (with_reducible refine Kd.C_alloc ?_ _) | (with_reducible refine Kd.C_drewN ?_ _) | (with_reducible refine Kd.C_drew ?_))); (case side2 => exact (Kd.R_reads' HO141.out).2.1); rintro e w' ⟨rfl, ⟨nd, rfl⟩⟩; refine ⟨_, rfl, ?_⟩; have hcz22_0 : w20.cell? ⟨gb137, 0, none⟩ = some (.slice A0_0 l0_0.length c0_0) := (blk_cell BK137.out 0).trans rfl; have hcz22_1 : w20.cell? ⟨gb137, 1, none⟩ = some (.slice A0_1 l0_1.length c0_1) := (blk_cell BK137.out 1).trans rfl; have hcz22_2 : w20.cell? ⟨gb137, 2, none⟩ = some (.slice A0_2 l0_2.length c0_2) := (blk_cell BK137.out 2).trans rfl; have hfz22_0 := blk_frozen BK137.out 0; have hfz22_1 := blk_frozen BK137.out 1; have hfz22_2 := blk_frozen BK137.out 2))
        go_ret
        exact ⟨by first | rfl | (simp [errW_none, errW_some] <;> rfl) | (simp [errW_none, errW_some]; exact ⟨rfl, rfl, rfl⟩) | (simp [*, errW_none, errW_some] <;> rfl), by repeat (first | (with_reducible first | exact HB.out | apply below_alloc | apply pw_below_drewN | apply below_drew1 | refine below_set ?_ GE137.out) | exact HB.out)⟩
    · replace c7 := Bool.eq_false_iff.mpr c7
      subst c7
      have H1 : (some t142) = some r := by rw [if_neg (show ¬ (false = true) by decide)] at H; exact H
      clear H
      have H := H1
      clear H1
      obtain rfl := Option.some.inj H
      go_enter Try.func18, Try.ntmps18
      go_wp2_with (first | ((with_reducible refine gate_dst (N := 2) rfl ?_); (try (refine gate_guard (by rfl) ?_; dsimp only)); refine box_event ?hg (N := 2) ?hd (cs := #[.slice A0_0 l0_0.length c0_0, .slice A0_1 l0_1.length c0_1, .slice A0_2 l0_2.length c0_2]) (t := 26) ?hr ?_; (case hd => rfl); (case hg => rfl); (case hr => first | (go_simp; done) | (go_simp; rfl)); intro gb137 hg w23 hbox hb; have BK137 := Aside0.mk (hbox); have GW137 := Aside0.mk ((by rw [hg]; exact (below_size (L_ HB.out)) : w.heap.size ≤ gb137)); have GE137 := Aside0.mk ((by rw [hg]; exact (below_size (L_ HB.out)) : w.heap.size ≤ gb137)); replace HB := Aside0.mk (below_step (L_ HB.out) hb); clear hb hbox hg; have hcz24_0 : w23.cell? ⟨gb137, 0, none⟩ = some (.slice A0_0 l0_0.length c0_0) := (blk_cell BK137.out 0).trans rfl; have hcz24_1 : w23.cell? ⟨gb137, 1, none⟩ = some (.slice A0_1 l0_1.length c0_1) := (blk_cell BK137.out 1).trans rfl; have hcz24_2 : w23.cell? ⟨gb137, 2, none⟩ = some (.slice A0_2 l0_2.length c0_2) := (blk_cell BK137.out 2).trans rfl; have hfz24_0 := blk_frozen BK137.out 0; have hfz24_1 := blk_frozen BK137.out 1; have hfz24_2 := blk_frozen BK137.out 2) | ((with_reducible refine gate_callee (f := 14) rfl ?_); refine goesL_ (some 8) rfl rfl Try.func14 (by kernel_rfl) rfl #[.agg #[.slice A0_0 l0_0.length c0_0, .slice A0_1 l0_1.length c0_1, .slice A0_2 l0_2.length c0_2]] rfl (by (try simp only [List.map_toArray, List.map_cons, List.map_nil]); first | done | rfl | (simp only [List.length_drop, List.length_take]; rfl)) ?_; (with_reducible refine (node_Right.calls k _ _ l0_0 _ _ l0_1 _ _ l0_2 true _ ?side1 ?side2 ?side3 ?side4 ?side5 ?side6 A3.out).mono ?_); (case side1 => repeat (first | exact (Kd.C_below HR0_0.out HB.out) | (with_reducible refine Kd.C_alloc ?_ _) | (with_reducible refine Kd.C_drewN ?_ _) | (with_reducible refine Kd.C_drew ?_))); (case side2 => exact HC0_0.out); (case side3 => repeat (first | exact (Kd.C_below HR0_1.out HB.out) | (with_reducible refine Kd.C_alloc ?_ _) | (with_reducible refine Kd.C_drewN ?_ _) | (with_reducible refine Kd.C_drew ?_))); (case side4 => exact HC0_1.out); (case side5 => repeat (first | exact (Kd.C_below HR0_2.out HB.out) | (with_reducible refine Kd.C_alloc ?_ _) | (with_reducible refine Kd.C_drewN ?_ _) | (with_reducible refine Kd.C_drew ?_))); (case side6 => exact HC0_2.out); rintro e w25 ⟨rfl, hb⟩; refine ⟨_, rfl, ?_⟩; replace BK137 := Aside0.mk (blk_below (g := gb137) (o := .cells #[.slice A0_0 l0_0.length c0_0, .slice A0_1 l0_1.length c0_1, .slice A0_2 l0_2.length c0_2] 26 (0, 0)) (B_ BK137.out) hb); replace HB := Aside0.mk (below_step (L_ HB.out) hb); (try clear hb); (try clear hb2); (try clear hk); (try clear hi); have hcz26_0 : w25.cell? ⟨gb137, 0, none⟩ = some (.slice A0_0 l0_0.length c0_0) := (blk_cell BK137.out 0).trans rfl; have hcz26_1 : w25.cell? ⟨gb137, 1, none⟩ = some (.slice A0_1 l0_1.length c0_1) := (blk_cell BK137.out 1).trans rfl; have hcz26_2 : w25.cell? ⟨gb137, 2, none⟩ = some (.slice A0_2 l0_2.length c0_2) := (blk_cell BK137.out 2).trans rfl; have hfz26_0 := blk_frozen BK137.out 0; have hfz26_1 := blk_frozen BK137.out 1; have hfz26_2 := blk_frozen BK137.out 2) | ((with_reducible refine gate_callee (f := 44) rfl ?_); refine goesL_ (some 12) rfl rfl Try.func44 (by kernel_rfl) rfl #[.agg #[.slice A0_0 l0_0.length c0_0, .slice A0_1 l0_1.length c0_1, .slice A0_2 l0_2.length c0_2]] rfl (by (try simp only [List.map_toArray, List.map_cons, List.map_nil]); first | done | rfl | (simp only [List.length_drop, List.length_take]; rfl)) ?_; (with_reducible refine (node_keys.calls k _ _ l0_0 _ _ l0_1 _ _ l0_2 t139 _ ?side1 ?side2 ?side3 ?side4 ?side5 ?side6 A5.out).mono ?_); (case side1 => repeat (first | exact (Kd.C_below HR0_0.out HB.out) | (with_reducible refine Kd.C_alloc ?_ _) | (with_reducible refine Kd.C_drewN ?_ _) | (with_reducible refine Kd.C_drew ?_))); (case side2 => exact HC0_0.out); (case side3 => repeat (first | exact (Kd.C_below HR0_1.out HB.out) | (with_reducible refine Kd.C_alloc ?_ _) | (with_reducible refine Kd.C_drewN ?_ _) | (with_reducible refine Kd.C_drew ?_))); (case side4 => exact HC0_1.out); (case side5 => repeat (first | exact (Kd.C_below HR0_2.out HB.out) | (with_reducible refine Kd.C_alloc ?_ _) | (with_reducible refine Kd.C_drewN ?_ _) | (with_reducible refine Kd.C_drew ?_))); (case side6 => exact HC0_2.out); rintro e w27 ⟨v140, rfl, ho0, hb⟩; refine ⟨_, rfl, ?_⟩; have HO141 := Aside0.mk (Kd.R_lower ho0 (below_size (L_ HB.out))); replace BK137 := Aside0.mk (blk_below (g := gb137) (o := .cells #[.slice A0_0 l0_0.length c0_0, .slice A0_1 l0_1.length c0_1, .slice A0_2 l0_2.length c0_2] 26 (0, 0)) (B_ BK137.out) hb); replace HB := Aside0.mk (below_step (L_ HB.out) hb); (try clear hb); (try clear hb2); (try clear hk); (try clear hi); (try clear ho0); obtain ⟨Ao28, co28, eo28⟩ := Kd.R_slice HO141.out; subst eo28) | ((with_reducible refine gate_callee (f := 43) rfl ?_); refine goesL_ (some 14) rfl rfl Try.func43 (by kernel_rfl) rfl #[.slice Ao28 t139.length co28, .string a1] rfl (by (try simp only [List.map_toArray, List.map_cons, List.map_nil]); first | done | rfl | (simp only [List.length_drop, List.length_take]; rfl)) ?_; (with_reducible refine (slices_BinarySearch_string_string.calls k _ _ t139 a1 t142 false _ ?side1 ?side2 A6.out).mono ?_); (case side1 => repeat (first | exact (Kd.R_reads' HO141.out).2.2 | (with_reducible refine Kd.C_alloc ?_ _) | (with_reducible refine Kd.C_drewN ?_ _) | (with_reducible refine Kd.C_drew ?_))); (case side2 => exact (Kd.R_reads' HO141.out).2.1); rintro e w' ⟨rfl, ⟨nd, rfl⟩⟩; refine ⟨_, rfl, ?_⟩))
      go_ret
      exact ⟨by first | rfl | (simp [errW_none, errW_some] <;> rfl) | (simp [errW_none, errW_some]; exact ⟨rfl, rfl, rfl⟩) | (simp [*, errW_none, errW_some] <;> rfl), by repeat (first | (with_reducible first | exact HB.out | apply below_alloc | apply pw_below_drewN | apply below_drew1 | refine below_set ?_ GE137.out) | exact HB.out)⟩
  · replace c4 := Bool.eq_false_iff.mpr c4
    subst c4
    have H1 : (some 0) = some r := by rw [if_neg (show ¬ (false = true) by decide)] at H; exact H
    clear H
    have H := H1
    clear H1
    obtain rfl := Option.some.inj H
    go_enter Try.func18, Try.ntmps18
    go_wp2_with (first | ((with_reducible refine gate_dst (N := 2) rfl ?_); (try (refine gate_guard (by rfl) ?_; dsimp only)); refine box_event ?hg (N := 2) ?hd (cs := #[.slice A0_0 l0_0.length c0_0, .slice A0_1 l0_1.length c0_1, .slice A0_2 l0_2.length c0_2]) (t := 26) ?hr ?_; (case hd => rfl); (case hg => rfl); (case hr => first | (go_simp; done) | (go_simp; rfl)); intro gb137 hg w29 hbox hb; have BK137 := Aside0.mk (hbox); have GW137 := Aside0.mk ((by rw [hg]; exact (below_size (L_ HB.out)) : w.heap.size ≤ gb137)); have GE137 := Aside0.mk ((by rw [hg]; exact (below_size (L_ HB.out)) : w.heap.size ≤ gb137)); replace HB := Aside0.mk (below_step (L_ HB.out) hb); clear hb hbox hg; have hcz30_0 : w29.cell? ⟨gb137, 0, none⟩ = some (.slice A0_0 l0_0.length c0_0) := (blk_cell BK137.out 0).trans rfl; have hcz30_1 : w29.cell? ⟨gb137, 1, none⟩ = some (.slice A0_1 l0_1.length c0_1) := (blk_cell BK137.out 1).trans rfl; have hcz30_2 : w29.cell? ⟨gb137, 2, none⟩ = some (.slice A0_2 l0_2.length c0_2) := (blk_cell BK137.out 2).trans rfl; have hfz30_0 := blk_frozen BK137.out 0; have hfz30_1 := blk_frozen BK137.out 1; have hfz30_2 := blk_frozen BK137.out 2) | ((with_reducible refine gate_callee (f := 14) rfl ?_); refine goesL_ (some 8) rfl rfl Try.func14 (by kernel_rfl) rfl #[.agg #[.slice A0_0 l0_0.length c0_0, .slice A0_1 l0_1.length c0_1, .slice A0_2 l0_2.length c0_2]] rfl (by (try simp only [List.map_toArray, List.map_cons, List.map_nil]); first | done | rfl | (simp only [List.length_drop, List.length_take]; rfl)) ?_; (with_reducible refine (node_Right.calls k _ _ l0_0 _ _ l0_1 _ _ l0_2 false _ ?side1 ?side2 ?side3 ?side4 ?side5 ?side6 A3.out).mono ?_); (case side1 => repeat (first | exact (Kd.C_below HR0_0.out HB.out) | (with_reducible refine Kd.C_alloc ?_ _) | (with_reducible refine Kd.C_drewN ?_ _) | (with_reducible refine Kd.C_drew ?_))); (case side2 => exact HC0_0.out); (case side3 => repeat (first | exact (Kd.C_below HR0_1.out HB.out) | (with_reducible refine Kd.C_alloc ?_ _) | (with_reducible refine Kd.C_drewN ?_ _) | (with_reducible refine Kd.C_drew ?_))); (case side4 => exact HC0_1.out); (case side5 => repeat (first | exact (Kd.C_below HR0_2.out HB.out) | (with_reducible refine Kd.C_alloc ?_ _) | (with_reducible refine Kd.C_drewN ?_ _) | (with_reducible refine Kd.C_drew ?_))); (case side6 => exact HC0_2.out); rintro e w31 ⟨rfl, hb⟩; refine ⟨_, rfl, ?_⟩; replace BK137 := Aside0.mk (blk_below (g := gb137) (o := .cells #[.slice A0_0 l0_0.length c0_0, .slice A0_1 l0_1.length c0_1, .slice A0_2 l0_2.length c0_2] 26 (0, 0)) (B_ BK137.out) hb); replace HB := Aside0.mk (below_step (L_ HB.out) hb); (try clear hb); (try clear hb2); (try clear hk); (try clear hi)))
    go_ret
    exact ⟨by first | rfl | (simp [errW_none, errW_some] <;> rfl) | (simp [errW_none, errW_some]; exact ⟨rfl, rfl, rfl⟩) | (simp [*, errW_none, errW_some] <;> rfl), by repeat (first | (with_reducible first | exact HB.out | apply below_alloc | apply pw_below_drewN | apply below_drew1 | refine below_set ?_ GE137.out) | exact HB.out)⟩

end Go.Proofs.Ytejempihaknplaa.G
