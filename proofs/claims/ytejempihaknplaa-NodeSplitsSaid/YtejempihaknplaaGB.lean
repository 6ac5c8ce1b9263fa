-- Written by this session's program genprint.py (the kit's print.py with contracts of this seat's own among the callees). Not trusted: Lean checks it.
import Derived.Test.YtejempihaknplaaGX
import Derived.Test.YtejempihaknplaaNdW
namespace Go.Proofs.Ytejempihaknplaa.G
open Go.RowKit Go.Proofs.YtejempihaknplaaW.PrintWords Go.Proofs.YtejempihaknplaaW.PrintLast Go.Proofs.YtejempihaknplaaW.PrintMore
attribute [local go_sem] max2_int min2_int max_two min_two max_three min_three max_four min_four   -- for this text's walks alone
set_option linter.unusedVariables false
set_option linter.unusedSimpArgs false

/-! ### bazaarref06_Less: function 21 -/
mutual
def bazaarref06_Less.l0 : Nat → ByteArray → ByteArray → Int → Option (Bool)
  | 0, _, _, _ => none
  | k + 1, x0, x1, x5 => if x5 < (x0.size : Int) then (bazaarref06_Less.j1 k x0 x1 x5 (decide (x5 < (x1.size : Int)))) else (bazaarref06_Less.j1 k x0 x1 x5 false)
def bazaarref06_Less.j1 : Nat → ByteArray → ByteArray → Int → Bool → Option (Bool)
  | 0, _, _, _, _ => none
  | k + 1, x0, x1, x5, x15 => if x15 = true then (if 0 ≤ x5 then (if x5 < (x0.size : Int) then (if x5 < (x1.size : Int) then (if (bt x0 x5) = (bt x1 x5) then (bazaarref06_Less.l0 k x0 x1 (wrap64 (x5 + 1))) else (some (decide ((bt x0 x5) < (bt x1 x5))))) else (none)) else (none)) else (none)) else (some (decide ((x0.size : Int) < (x1.size : Int))))
end
def bazaarref06_Less.f (k : Nat) (a0 : ByteArray) (a1 : ByteArray) : Option (Bool) := bazaarref06_Less.l0 k a0 a1 0
set_option maxHeartbeats 8000000 in
set_option maxRecDepth 100000 in
theorem bazaarref06_Less.calls (k : Nat) (a0 : ByteArray) (a1 : ByteArray) (r : Bool) (w : World) (h : bazaarref06_Less.f k a0 a1 = some r) :
    Calls Try.prog 21 #[.string a0, .string a1] w fun e w' => e = .returned (.bool r) ∧ Drawn0 w w' := by
  have H : (bazaarref06_Less.l0 k a0 a1 0) = some r := h
  clear h
  have H' := Aside0.mk H
  clear H
  go_enter Try.func21, Try.ntmps21
  go_wp2
  repeat (go_quiet (fail); try go_wp2)
  go_loopg [5] k (fun kq v5 w' => ∃ (x5_1 : Int), v5 = .int .i64 x5_1 ∧ Aside0 (bazaarref06_Less.l0 kq a0 a1 x5_1 = some r) ∧ Aside0 (kq ≤ k) ∧ Drawn0 w w')
  case atStart => exact ⟨(0), (by first | rfl | (simp; done) | (simp [*]; done)), H', ⟨Nat.le_refl _⟩, by repeat (first | exact Drawn0.refl _ | apply Drawn0.step)⟩
  case round =>
    clear H'
    try clear c2
    try clear p2
    obtain ⟨x5_1, rfl, HA, HK1, ⟨m1, rfl⟩⟩ := hrel
    cases gk with
    | zero => exact absurd HA.out (by simp [bazaarref06_Less.l0])
    | succ k1 =>
      have H := HA.out
      clear HA
      simp only [bazaarref06_Less.l0] at H
      have HC3 := Aside0.mk H
      clear H
      go_upto_region 2 with (fail)
      repeat (go_quiet (fail); go_upto_region 2 with (fail))
      go_cut [15] (fun v15 wc => ∃ (kq : Nat) (x15_2 : Bool), v15 = .bool x15_2 ∧ Aside0 (bazaarref06_Less.j1 kq a0 a1 x5_1 x15_2 = some r) ∧ Aside0 (kq ≤ k1) ∧ Drawn0 w wc)
      case first =>
        have H := HC3.out
        clear HC3
        by_cases c4 : x5_1 < (a0.size : Int)
        · rw [if_pos c4] at H
          have c4b0 : decide (x5_1 < (a0.size : Int)) = true := decide_eq_true c4
          clear c4
          (first | rw [c4b0] | (simp only [i64_w, i32_w]; rw [c4b0]) | skip)
          have H' := Aside0.mk H
          clear H
          go_wp2
          repeat (go_quiet (fail); try go_wp2)
          go_meet
          case rel => exact ⟨_, (decide (x5_1 < (a1.size : Int))), (by first | rfl | (simp; done) | (simp [*]; done)), H', ⟨by have := HK1.out; first | omega | exact Nat.le_refl _⟩, by repeat (first | exact Drawn0.refl _ | apply Drawn0.step)⟩
        · rw [if_neg c4] at H
          have c4b0 : decide (x5_1 < (a0.size : Int)) = false := decide_eq_false c4
          clear c4
          (first | rw [c4b0] | (simp only [i64_w, i32_w]; rw [c4b0]) | skip)
          have H' := Aside0.mk H
          clear H
          go_wp2
          repeat (go_quiet (fail); try go_wp2)
          go_meet
          case rel => exact ⟨_, (false), (by first | rfl | (simp; done) | (simp [*]; done)), H', ⟨by have := HK1.out; first | omega | exact Nat.le_refl _⟩, by repeat (first | exact Drawn0.refl _ | apply Drawn0.step)⟩
      case rest =>
        clear HC3
        try clear c2
        try clear p2
        try clear c4
        try clear c4b0
        try clear p2
        obtain ⟨kq, x15_2, rfl, HA, HJ2, ⟨mc2, rfl⟩⟩ := hcut
        cases kq with
        | zero => exact absurd HA.out (by simp [bazaarref06_Less.j1])
        | succ kj2 =>
          have H := HA.out
          clear HA
          simp only [bazaarref06_Less.j1] at H
          by_cases c5 : x15_2 = true
          · subst c5
            have H1 : (if 0 ≤ x5_1 then (if x5_1 < (a0.size : Int) then (if x5_1 < (a1.size : Int) then (if (bt a0 x5_1) = (bt a1 x5_1) then (bazaarref06_Less.l0 kj2 a0 a1 (wrap64 (x5_1 + 1))) else (some (decide ((bt a0 x5_1) < (bt a1 x5_1))))) else (none)) else (none)) else (none)) = some r := by rw [if_pos rfl] at H; exact H
            clear H
            have H := H1
            clear H1
            by_cases c6 : 0 ≤ x5_1
            · rw [if_pos c6] at H
              have c6b0 : decide (0 ≤ x5_1) = true := decide_eq_true c6
              clear c6
              by_cases c7 : x5_1 < (a0.size : Int)
              · rw [if_pos c7] at H
                have c7b0 : decide (x5_1 < (a0.size : Int)) = true := decide_eq_true c7
                clear c7
                by_cases c9 : x5_1 < (a1.size : Int)
                · rw [if_pos c9] at H
                  have c9b0 : decide (x5_1 < (a1.size : Int)) = true := decide_eq_true c9
                  clear c9
                  by_cases c11 : (bt a0 x5_1) = (bt a1 x5_1)
                  · rw [if_pos c11] at H
                    have c11b0 : ((bt a0 x5_1) == (bt a1 x5_1)) = true := beq_iff_eq.mpr c11
                    have c11b1 : ((bt a0 x5_1) != (bt a1 x5_1)) = false := bne_eq_false_iff_eq.mpr c11
                    clear c11
                    have H' := Aside0.mk H
                    clear H
                    have p8 : 0 ≤ (x5_1 : Int) := of_decide_eq_true (by first | (with_reducible assumption) | assumption)
                    have q8 : x5_1 < (a0.size : Int) := of_decide_eq_true (by first | (with_reducible assumption) | assumption)
                    have hx8 := bt_at a0 x5_1
                    replace p8 := eq_true p8
                    replace q8 := eq_true q8
                    have p10 : 0 ≤ (x5_1 : Int) := of_decide_eq_true (by first | (with_reducible assumption) | assumption)
                    have q10 : x5_1 < (a1.size : Int) := of_decide_eq_true (by first | (with_reducible assumption) | assumption)
                    have hx10 := bt_at a1 x5_1
                    replace p10 := eq_true p10
                    replace q10 := eq_true q10
                    go_wp2
                    repeat (go_quiet (fail); try go_wp2)
                    go_roundg kj2
                    case measure => have := HK1.out; have := HJ2.out; omega
                    case rel => exact ⟨(wrap64 (x5_1 + 1)), (by first | rfl | (simp; done) | (simp [*]; done)), H', ⟨by have := HK1.out; have := HJ2.out; omega⟩, by repeat (first | exact Drawn0.refl _ | apply Drawn0.step)⟩
                  · rw [if_neg c11] at H
                    have c11b0 : ((bt a0 x5_1) == (bt a1 x5_1)) = false := beq_eq_false_iff_ne.mpr c11
                    have c11b1 : ((bt a0 x5_1) != (bt a1 x5_1)) = true := bne_iff_ne.mpr c11
                    obtain rfl := Option.some.inj H
                    have p8 : 0 ≤ (x5_1 : Int) := of_decide_eq_true (by first | (with_reducible assumption) | assumption)
                    have q8 : x5_1 < (a0.size : Int) := of_decide_eq_true (by first | (with_reducible assumption) | assumption)
                    have hx8 := bt_at a0 x5_1
                    replace p8 := eq_true p8
                    replace q8 := eq_true q8
                    have p10 : 0 ≤ (x5_1 : Int) := of_decide_eq_true (by first | (with_reducible assumption) | assumption)
                    have q10 : x5_1 < (a1.size : Int) := of_decide_eq_true (by first | (with_reducible assumption) | assumption)
                    have hx10 := bt_at a1 x5_1
                    replace p10 := eq_true p10
                    replace q10 := eq_true q10
                    have p12 : 0 ≤ (x5_1 : Int) := of_decide_eq_true (by first | (with_reducible assumption) | assumption)
                    have q12 : x5_1 < (a0.size : Int) := of_decide_eq_true (by first | (with_reducible assumption) | assumption)
                    have hx12 := bt_at a0 x5_1
                    replace p12 := eq_true p12
                    replace q12 := eq_true q12
                    have p13 : 0 ≤ (x5_1 : Int) := of_decide_eq_true (by first | (with_reducible assumption) | assumption)
                    have q13 : x5_1 < (a1.size : Int) := of_decide_eq_true (by first | (with_reducible assumption) | assumption)
                    have hx13 := bt_at a1 x5_1
                    replace p13 := eq_true p13
                    replace q13 := eq_true q13
                    go_wp2
                    repeat (go_quiet (fail); try go_wp2)
                    go_ret
                    exact ⟨by first | rfl | (simp; done) | (simp [*]; done), by repeat (first | exact Drawn0.refl _ | apply Drawn0.step)⟩
                · rw [if_neg c9] at H
                  exact absurd H (by simp)
              · rw [if_neg c7] at H
                exact absurd H (by simp)
            · rw [if_neg c6] at H
              exact absurd H (by simp)
          · replace c5 := Bool.eq_false_iff.mpr c5
            subst c5
            have H1 : (some (decide ((a0.size : Int) < (a1.size : Int)))) = some r := by rw [if_neg (show ¬ (false = true) by decide)] at H; exact H
            clear H
            have H := H1
            clear H1
            obtain rfl := Option.some.inj H
            go_wp2
            repeat (go_quiet (fail); try go_wp2)
            go_ret
            exact ⟨by first | rfl | (simp; done) | (simp [*]; done), by repeat (first | exact Drawn0.refl _ | apply Drawn0.step)⟩

/-! ### bazaarref06_RightPair: function 46 -/
def bazaarref06_RightPair.f (a0_0 : ByteArray) (a0_1 : ByteArray) : Option (Bool) := if (a0_0.size : Int) ≥ 1 then (if (a0_0.size : Int) ≤ 24 then (some (decide ((a0_1.size : Int) ≤ 60))) else (some false)) else (some false)
set_option maxHeartbeats 8000000 in
set_option maxRecDepth 100000 in
theorem bazaarref06_RightPair.calls (a0_0 : ByteArray) (a0_1 : ByteArray) (r : Bool) (w : World) (h : bazaarref06_RightPair.f a0_0 a0_1 = some r) :
    Calls Try.prog 46 #[.agg #[.string a0_0, .string a0_1]] w fun e w' => e = .returned (.bool r) ∧ Below w.heap.size w w' := by
  have hu39 := Try.underlying39
  have HB := Aside0.mk (Below.refl w.heap.size w)
  have H : (if (a0_0.size : Int) ≥ 1 then (if (a0_0.size : Int) ≤ 24 then (some (decide ((a0_1.size : Int) ≤ 60))) else (some false)) else (some false)) = some r := h
  clear h
  by_cases c2 : (a0_0.size : Int) ≥ 1
  · rw [if_pos c2] at H
    have c2b0 : decide (1 ≤ (a0_0.size : Int)) = true := decide_eq_true c2
    have c2b1 : decide (1 ≤ a0_0.size) = true := decide_eq_true (by omega)
    clear c2
    by_cases c3 : (a0_0.size : Int) ≤ 24
    · rw [if_pos c3] at H
      have c3b0 : decide ((a0_0.size : Int) ≤ 24) = true := decide_eq_true c3
      have c3b1 : decide (a0_0.size ≤ 24) = true := decide_eq_true (by omega)
      clear c3
      obtain rfl := Option.some.inj H
      go_enter Try.func46, Try.ntmps46
      go_wp2_with (first | ((with_reducible refine gate_dst (N := 1) rfl ?_); (try (refine gate_guard (by rfl) ?_; dsimp only)); refine box_event ?hg (N := 1) ?hd (cs := #[.string a0_0, .string a0_1]) (t := 39) ?hr ?_; (case hd => rfl); (case hg => rfl); (case hr => first | (go_simp; done) | (go_simp; rfl)); intro gb228 hg w4 hbox hb; have BK228 := Aside0.mk (hbox); have GW228 := Aside0.mk ((by rw [hg]; exact (below_size (L_ HB.out)) : w.heap.size ≤ gb228)); have GE228 := Aside0.mk ((by rw [hg]; exact (below_size (L_ HB.out)) : w.heap.size ≤ gb228)); replace HB := Aside0.mk (below_step (L_ HB.out) hb); clear hb hbox hg; have hcz5_0 : w4.cell? ⟨gb228, 0, none⟩ = some (.string a0_0) := (blk_cell BK228.out 0).trans rfl; have hcz5_1 : w4.cell? ⟨gb228, 1, none⟩ = some (.string a0_1) := (blk_cell BK228.out 1).trans rfl; have hfz5_0 := blk_frozen BK228.out 0; have hfz5_1 := blk_frozen BK228.out 1))
      go_ret
      exact ⟨by first | rfl | (simp [errW_none, errW_some] <;> rfl) | (simp [errW_none, errW_some]; exact ⟨rfl, rfl, rfl⟩) | (simp [*, errW_none, errW_some] <;> rfl), by repeat (first | (with_reducible first | exact HB.out | apply below_alloc | apply pw_below_drewN | apply below_drew1 | refine below_set ?_ GE228.out) | exact HB.out)⟩
    · rw [if_neg c3] at H
      have c3b0 : decide ((a0_0.size : Int) ≤ 24) = false := decide_eq_false c3
      have c3b1 : decide (a0_0.size ≤ 24) = false := decide_eq_false (by omega)
      clear c3
      obtain rfl := Option.some.inj H
      go_enter Try.func46, Try.ntmps46
      go_wp2_with (first | ((with_reducible refine gate_dst (N := 1) rfl ?_); (try (refine gate_guard (by rfl) ?_; dsimp only)); refine box_event ?hg (N := 1) ?hd (cs := #[.string a0_0, .string a0_1]) (t := 39) ?hr ?_; (case hd => rfl); (case hg => rfl); (case hr => first | (go_simp; done) | (go_simp; rfl)); intro gb228 hg w6 hbox hb; have BK228 := Aside0.mk (hbox); have GW228 := Aside0.mk ((by rw [hg]; exact (below_size (L_ HB.out)) : w.heap.size ≤ gb228)); have GE228 := Aside0.mk ((by rw [hg]; exact (below_size (L_ HB.out)) : w.heap.size ≤ gb228)); replace HB := Aside0.mk (below_step (L_ HB.out) hb); clear hb hbox hg; have hcz7_0 : w6.cell? ⟨gb228, 0, none⟩ = some (.string a0_0) := (blk_cell BK228.out 0).trans rfl; have hcz7_1 : w6.cell? ⟨gb228, 1, none⟩ = some (.string a0_1) := (blk_cell BK228.out 1).trans rfl; have hfz7_0 := blk_frozen BK228.out 0; have hfz7_1 := blk_frozen BK228.out 1))
      go_ret
      exact ⟨by first | rfl | (simp [errW_none, errW_some] <;> rfl) | (simp [errW_none, errW_some]; exact ⟨rfl, rfl, rfl⟩) | (simp [*, errW_none, errW_some] <;> rfl), by repeat (first | (with_reducible first | exact HB.out | apply below_alloc | apply pw_below_drewN | apply below_drew1 | refine below_set ?_ GE228.out) | exact HB.out)⟩
  · rw [if_neg c2] at H
    have c2b0 : decide (1 ≤ (a0_0.size : Int)) = false := decide_eq_false c2
    have c2b1 : decide (1 ≤ a0_0.size) = false := decide_eq_false (by omega)
    clear c2
    obtain rfl := Option.some.inj H
    go_enter Try.func46, Try.ntmps46
    go_wp2_with (first | ((with_reducible refine gate_dst (N := 1) rfl ?_); (try (refine gate_guard (by rfl) ?_; dsimp only)); refine box_event ?hg (N := 1) ?hd (cs := #[.string a0_0, .string a0_1]) (t := 39) ?hr ?_; (case hd => rfl); (case hg => rfl); (case hr => first | (go_simp; done) | (go_simp; rfl)); intro gb228 hg w8 hbox hb; have BK228 := Aside0.mk (hbox); have GW228 := Aside0.mk ((by rw [hg]; exact (below_size (L_ HB.out)) : w.heap.size ≤ gb228)); have GE228 := Aside0.mk ((by rw [hg]; exact (below_size (L_ HB.out)) : w.heap.size ≤ gb228)); replace HB := Aside0.mk (below_step (L_ HB.out) hb); clear hb hbox hg; have hcz9_0 : w8.cell? ⟨gb228, 0, none⟩ = some (.string a0_0) := (blk_cell BK228.out 0).trans rfl; have hcz9_1 : w8.cell? ⟨gb228, 1, none⟩ = some (.string a0_1) := (blk_cell BK228.out 1).trans rfl; have hfz9_0 := blk_frozen BK228.out 0; have hfz9_1 := blk_frozen BK228.out 1))
    go_ret
    exact ⟨by first | rfl | (simp [errW_none, errW_some] <;> rfl) | (simp [errW_none, errW_some]; exact ⟨rfl, rfl, rfl⟩) | (simp [*, errW_none, errW_some] <;> rfl), by repeat (first | (with_reducible first | exact HB.out | apply below_alloc | apply pw_below_drewN | apply below_drew1 | refine below_set ?_ GE228.out) | exact HB.out)⟩

/-! ### bazaarref06_leaf: function 40 -/
mutual
def bazaarref06_leaf.j0 : Nat → Bool → List (S39) → List ByteArray → List Int → Option (Bool)
  | 0, _, _, _, _ => none
  | k + 1, x20, x230000, x230001, x230002 => if x20 = true then (some false) else (bazaarref06_leaf.l0 k 0 x230000 x230001 x230002)
def bazaarref06_leaf.l0 : Nat → Int → List (S39) → List ByteArray → List Int → Option (Bool)
  | 0, _, _, _, _ => none
  | k + 1, x3, x230000, x230001, x230002 => if x3 < (x230000.length : Int) then (if 0 ≤ x3 then ((bazaarref06_RightPair.f ((rd_T39 x230000 x3).f0) ((rd_T39 x230000 x3).f1)).bind fun t231 => (if t231 = true then (if x3 > 0 then (if 0 ≤ (wrap64 (x3 - 1)) then (if (wrap64 (x3 - 1)) < (x230000.length : Int) then ((bazaarref06_Less.f k ((rd_T39 x230000 (wrap64 (x3 - 1))).f0) ((rd_T39 x230000 x3).f0)).bind fun t234 => (if t234 = true then (bazaarref06_leaf.l0 k (wrap64 (x3 + 1)) x230000 x230001 x230002) else (some false))) else (none)) else (none)) else (bazaarref06_leaf.l0 k (wrap64 (x3 + 1)) x230000 x230001 x230002)) else (some false))) else (none)) else (some true)
end
def bazaarref06_leaf.f (k : Nat) (l0_0 : List (S39)) (l0_1 : List ByteArray) (l0_2 : List Int) : Option (Bool) := if (l0_1.length : Int) > 0 then (bazaarref06_leaf.j0 k true l0_0 l0_1 l0_2) else (if (l0_2.length : Int) > 0 then (bazaarref06_leaf.j0 k true l0_0 l0_1 l0_2) else (bazaarref06_leaf.j0 k (decide ((l0_0.length : Int) > 255)) l0_0 l0_1 l0_2))
set_option maxHeartbeats 8000000 in
set_option maxRecDepth 100000 in
theorem bazaarref06_leaf.calls (k : Nat) (A0_0 : Option Addr) (c0_0 : Nat) (l0_0 : List (S39)) (A0_1 : Option Addr) (c0_1 : Nat) (l0_1 : List ByteArray) (A0_2 : Option Addr) (c0_2 : Nat) (l0_2 : List Int) (r : Bool) (w : World) (hr0_0 : Kd.C k39 w A0_0 l0_0.length l0_0) (hc0_0 : l0_0.length ≤ c0_0) (hr0_1 : Kd.C Kd.string w A0_1 l0_1.length l0_1) (hc0_1 : l0_1.length ≤ c0_1) (hr0_2 : Kd.C (Kd.int .u32) w A0_2 l0_2.length l0_2) (hc0_2 : l0_2.length ≤ c0_2) (h : bazaarref06_leaf.f k l0_0 l0_1 l0_2 = some r) :
    Calls Try.prog 40 #[.agg #[.slice A0_0 l0_0.length c0_0, .slice A0_1 l0_1.length c0_1, .slice A0_2 l0_2.length c0_2]] w fun e w' => e = .returned (.bool r) ∧ Below w.heap.size w w' := by
  have hu26 := Try.underlying26
  have hu39 := Try.underlying39
  have HR0_0 := Aside0.mk hr0_0
  have HC0_0 := Aside0.mk hc0_0
  clear hr0_0 hc0_0
  have HR0_1 := Aside0.mk hr0_1
  have HC0_1 := Aside0.mk hc0_1
  clear hr0_1 hc0_1
  have HR0_2 := Aside0.mk hr0_2
  have HC0_2 := Aside0.mk hc0_2
  clear hr0_2 hc0_2
  have HB := Aside0.mk (Below.refl w.heap.size w)
  have H : (if (l0_1.length : Int) > 0 then (bazaarref06_leaf.j0 k true l0_0 l0_1 l0_2) else (if (l0_2.length : Int) > 0 then (bazaarref06_leaf.j0 k true l0_0 l0_1 l0_2) else (bazaarref06_leaf.j0 k (decide ((l0_0.length : Int) > 255)) l0_0 l0_1 l0_2))) = some r := h
  clear h
  have HC2 := Aside0.mk H
  clear H
  go_enter Try.func40, Try.ntmps40
  go_upto_region 1 with (first | ((with_reducible refine gate_dst (N := 1) rfl ?_); (try (refine gate_guard (by rfl) ?_; dsimp only)); refine box_event ?hg (N := 1) ?hd (cs := #[.slice A0_0 l0_0.length c0_0, .slice A0_1 l0_1.length c0_1, .slice A0_2 l0_2.length c0_2]) (t := 26) ?hr ?_; (case hd => rfl); (case hg => rfl); (case hr => first | (go_simp; done) | (go_simp; rfl)); intro gb229 hg w3 hbox hb; have BK229 := Aside0.mk (hbox); have GW229 := Aside0.mk ((by rw [hg]; exact (below_size (L_ HB.out)) : w.heap.size ≤ gb229)); have GE229 := Aside0.mk ((by rw [hg]; exact (below_size (L_ HB.out)) : w.heap.size ≤ gb229)); replace HB := Aside0.mk (below_step (L_ HB.out) hb); clear hb hbox hg))
  repeat (go_quiet (first | ((with_reducible refine gate_dst (N := 1) rfl ?_); (try (refine gate_guard (by rfl) ?_; dsimp only)); refine box_event ?hg (N := 1) ?hd (cs := #[.slice A0_0 l0_0.length c0_0, .slice A0_1 l0_1.length c0_1, .slice A0_2 l0_2.length c0_2]) (t := 26) ?hr ?_; (case hd => rfl); (case hg => rfl); (case hr => first | (go_simp; done) | (go_simp; rfl)); intro gb229 hg w3 hbox hb; have BK229 := Aside0.mk (hbox); have GW229 := Aside0.mk ((by rw [hg]; exact (below_size (L_ HB.out)) : w.heap.size ≤ gb229)); have GE229 := Aside0.mk ((by rw [hg]; exact (below_size (L_ HB.out)) : w.heap.size ≤ gb229)); replace HB := Aside0.mk (below_step (L_ HB.out) hb); clear hb hbox hg)); go_upto_region 1 with (first | ((with_reducible refine gate_dst (N := 1) rfl ?_); (try (refine gate_guard (by rfl) ?_; dsimp only)); refine box_event ?hg (N := 1) ?hd (cs := #[.slice A0_0 l0_0.length c0_0, .slice A0_1 l0_1.length c0_1, .slice A0_2 l0_2.length c0_2]) (t := 26) ?hr ?_; (case hd => rfl); (case hg => rfl); (case hr => first | (go_simp; done) | (go_simp; rfl)); intro gb229 hg w3 hbox hb; have BK229 := Aside0.mk (hbox); have GW229 := Aside0.mk ((by rw [hg]; exact (below_size (L_ HB.out)) : w.heap.size ≤ gb229)); have GE229 := Aside0.mk ((by rw [hg]; exact (below_size (L_ HB.out)) : w.heap.size ≤ gb229)); replace HB := Aside0.mk (below_step (L_ HB.out) hb); clear hb hbox hg)))
  (try simp only [Act.put, List.setIfInBounds_toArray, List.set_cons_zero, List.set_cons_succ])
  go_cut [20] (fun v20 wc => ∃ (kq : Nat) (x20_1 : Bool), v20 = .bool x20_1 ∧ Aside0 (bazaarref06_leaf.j0 kq x20_1 l0_0 l0_1 l0_2 = some r) ∧ Aside0 (kq ≤ k) ∧ Aside0 (wc.heap[gb229]? = some (.cells #[(.slice A0_0 l0_0.length c0_0), (.slice A0_1 l0_1.length c0_1), (.slice A0_2 l0_2.length c0_2)] 26 (0, 0))) ∧ Aside0 (Below w.heap.size w wc))
  case first =>
    have H := HC2.out
    clear HC2
    by_cases c4 : (l0_1.length : Int) > 0
    · rw [if_pos c4] at H
      have c4b0 : decide (0 < (l0_1.length : Int)) = true := decide_eq_true c4
      have c4b1 : decide (0 < l0_1.length) = true := decide_eq_true (by omega)
      clear c4
      (first | rw [c4b0] | (simp only [i64_w, i32_w]; rw [c4b0]) | skip)
      have H' := Aside0.mk H
      clear H
      have hcz5_0 : w3.cell? ⟨gb229, 0, none⟩ = some (.slice A0_0 l0_0.length c0_0) := (blk_cell BK229.out 0).trans rfl
      have hcz5_1 : w3.cell? ⟨gb229, 1, none⟩ = some (.slice A0_1 l0_1.length c0_1) := (blk_cell BK229.out 1).trans rfl
      have hcz5_2 : w3.cell? ⟨gb229, 2, none⟩ = some (.slice A0_2 l0_2.length c0_2) := (blk_cell BK229.out 2).trans rfl
      have hfz5_0 := blk_frozen BK229.out 0
      have hfz5_1 := blk_frozen BK229.out 1
      have hfz5_2 := blk_frozen BK229.out 2
      go_wp2
      repeat (go_quiet (fail); try go_wp2)
      go_meet
      case rel => exact ⟨_, (true), (by first | rfl | (simp; done) | (simp [*]; done)), H', ⟨by first | omega | exact Nat.le_refl _⟩, ⟨by (with_reducible repeat (first | refine blk_drewN ?_ _ | refine blk_drew ?_ | refine blk_alloc ?_ _)); exact BK229.out⟩, ⟨by repeat (first | (with_reducible first | exact HB.out | apply below_alloc | apply pw_below_drewN | apply below_drew1 | refine below_set ?_ GE229.out) | exact HB.out)⟩⟩
    · rw [if_neg c4] at H
      have c4b0 : decide (0 < (l0_1.length : Int)) = false := decide_eq_false c4
      have c4b1 : decide (0 < l0_1.length) = false := decide_eq_false (by omega)
      clear c4
      (first | rw [c4b0] | (simp only [i64_w, i32_w]; rw [c4b0]) | skip)
      by_cases c6 : (l0_2.length : Int) > 0
      · rw [if_pos c6] at H
        have c6b0 : decide (0 < (l0_2.length : Int)) = true := decide_eq_true c6
        have c6b1 : decide (0 < l0_2.length) = true := decide_eq_true (by omega)
        clear c6
        have H' := Aside0.mk H
        clear H
        have hcz7_0 : w3.cell? ⟨gb229, 0, none⟩ = some (.slice A0_0 l0_0.length c0_0) := (blk_cell BK229.out 0).trans rfl
        have hcz7_1 : w3.cell? ⟨gb229, 1, none⟩ = some (.slice A0_1 l0_1.length c0_1) := (blk_cell BK229.out 1).trans rfl
        have hcz7_2 : w3.cell? ⟨gb229, 2, none⟩ = some (.slice A0_2 l0_2.length c0_2) := (blk_cell BK229.out 2).trans rfl
        have hfz7_0 := blk_frozen BK229.out 0
        have hfz7_1 := blk_frozen BK229.out 1
        have hfz7_2 := blk_frozen BK229.out 2
        go_wp2
        repeat (go_quiet (fail); try go_wp2)
        go_meet
        case rel => exact ⟨_, (true), (by first | rfl | (simp; done) | (simp [*]; done)), H', ⟨by first | omega | exact Nat.le_refl _⟩, ⟨by (with_reducible repeat (first | refine blk_drewN ?_ _ | refine blk_drew ?_ | refine blk_alloc ?_ _)); exact BK229.out⟩, ⟨by repeat (first | (with_reducible first | exact HB.out | apply below_alloc | apply pw_below_drewN | apply below_drew1 | refine below_set ?_ GE229.out) | exact HB.out)⟩⟩
      · rw [if_neg c6] at H
        have c6b0 : decide (0 < (l0_2.length : Int)) = false := decide_eq_false c6
        have c6b1 : decide (0 < l0_2.length) = false := decide_eq_false (by omega)
        clear c6
        have H' := Aside0.mk H
        clear H
        have hcz8_0 : w3.cell? ⟨gb229, 0, none⟩ = some (.slice A0_0 l0_0.length c0_0) := (blk_cell BK229.out 0).trans rfl
        have hcz8_1 : w3.cell? ⟨gb229, 1, none⟩ = some (.slice A0_1 l0_1.length c0_1) := (blk_cell BK229.out 1).trans rfl
        have hcz8_2 : w3.cell? ⟨gb229, 2, none⟩ = some (.slice A0_2 l0_2.length c0_2) := (blk_cell BK229.out 2).trans rfl
        have hfz8_0 := blk_frozen BK229.out 0
        have hfz8_1 := blk_frozen BK229.out 1
        have hfz8_2 := blk_frozen BK229.out 2
        go_wp2
        repeat (go_quiet (fail); try go_wp2)
        go_meet
        case rel => exact ⟨_, (decide ((l0_0.length : Int) > 255)), (by first | rfl | (simp; done) | (simp [*]; done)), H', ⟨by first | omega | exact Nat.le_refl _⟩, ⟨by (with_reducible repeat (first | refine blk_drewN ?_ _ | refine blk_drew ?_ | refine blk_alloc ?_ _)); exact BK229.out⟩, ⟨by repeat (first | (with_reducible first | exact HB.out | apply below_alloc | apply pw_below_drewN | apply below_drew1 | refine below_set ?_ GE229.out) | exact HB.out)⟩⟩
  case rest =>
    clear HC2
    try clear p2
    try clear c4
    try clear c4b0
    try clear c4b1
    try clear c6
    try clear c6b0
    try clear c6b1
    try clear hcz5_0
    try clear hcz5_1
    try clear hcz5_2
    try clear hcz7_0
    try clear hcz7_1
    try clear hcz7_2
    try clear hcz8_0
    try clear hcz8_1
    try clear hcz8_2
    try clear hfz5_0
    try clear hfz5_1
    try clear hfz5_2
    try clear hfz7_0
    try clear hfz7_1
    try clear hfz7_2
    try clear hfz8_0
    try clear hfz8_1
    try clear hfz8_2
    obtain ⟨kq, x20_1, rfl, HA, HJ1, BK229, HB⟩ := hcut
    cases kq with
    | zero => exact absurd HA.out (by simp [bazaarref06_leaf.j0])
    | succ kj1 =>
      have H := HA.out
      clear HA
      simp only [bazaarref06_leaf.j0] at H
      by_cases c9 : x20_1 = true
      · subst c9
        have H1 : (some false) = some r := by rw [if_pos rfl] at H; exact H
        clear H
        have H := H1
        clear H1
        obtain rfl := Option.some.inj H
        go_wp2
        repeat (go_quiet (fail); try go_wp2)
        go_ret
        exact ⟨by first | rfl | (simp [errW_none, errW_some] <;> rfl) | (simp [errW_none, errW_some]; exact ⟨rfl, rfl, rfl⟩) | (simp [*, errW_none, errW_some] <;> rfl), by repeat (first | (with_reducible first | exact HB.out | apply below_alloc | apply pw_below_drewN | apply below_drew1 | refine below_set ?_ GE229.out) | exact HB.out)⟩
      · replace c9 := Bool.eq_false_iff.mpr c9
        subst c9
        have H1 : (bazaarref06_leaf.l0 kj1 0 l0_0 l0_1 l0_2) = some r := by rw [if_neg (show ¬ (false = true) by decide)] at H; exact H
        clear H
        have H := H1
        clear H1
        have H' := Aside0.mk H
        clear H
        go_wp2
        repeat (go_quiet (fail); try go_wp2)
        go_loopg [3] kj1 (fun kq v3 w' => ∃ (x3_2 : Int), v3 = .int .i64 x3_2 ∧ Aside0 (bazaarref06_leaf.l0 kq x3_2 l0_0 l0_1 l0_2 = some r) ∧ Aside0 (kq ≤ kj1) ∧ Aside0 (w'.heap[gb229]? = some (.cells #[(.slice A0_0 l0_0.length c0_0), (.slice A0_1 l0_1.length c0_1), (.slice A0_2 l0_2.length c0_2)] 26 (0, 0))) ∧ Aside0 (Below w.heap.size w w'))
        case atStart => exact ⟨(0), (by first | rfl | (simp; done) | (simp [*]; done)), H', ⟨Nat.le_refl _⟩, ⟨by (with_reducible repeat (first | refine blk_drewN ?_ _ | refine blk_drew ?_ | refine blk_alloc ?_ _)); exact BK229.out⟩, ⟨by repeat (first | (with_reducible first | exact HB.out | apply below_alloc | apply pw_below_drewN | apply below_drew1 | refine below_set ?_ GE229.out) | exact HB.out)⟩⟩
        case round =>
          clear H'
          try clear p2
          try clear c4
          try clear c4b0
          try clear c4b1
          try clear c6
          try clear c6b0
          try clear c6b1
          try clear c9
          try clear hcz5_0
          try clear hcz5_1
          try clear hcz5_2
          try clear hcz7_0
          try clear hcz7_1
          try clear hcz7_2
          try clear hcz8_0
          try clear hcz8_1
          try clear hcz8_2
          try clear hfz5_0
          try clear hfz5_1
          try clear hfz5_2
          try clear hfz7_0
          try clear hfz7_1
          try clear hfz7_2
          try clear hfz8_0
          try clear hfz8_1
          try clear hfz8_2
          try clear p2
          obtain ⟨x3_2, rfl, HA, HK2, BK229, HB⟩ := hrel
          cases gk with
          | zero => exact absurd HA.out (by simp [bazaarref06_leaf.l0])
          | succ k2 =>
            have H := HA.out
            clear HA
            simp only [bazaarref06_leaf.l0] at H
            by_cases c10 : x3_2 < (l0_0.length : Int)
            · rw [if_pos c10] at H
              have c10b0 : decide (x3_2 < (l0_0.length : Int)) = true := decide_eq_true c10
              clear c10
              by_cases c11 : 0 ≤ x3_2
              · rw [if_pos c11] at H
                have c11b0 : decide (0 ≤ x3_2) = true := decide_eq_true c11
                clear c11
                replace H := Option.bind_eq_some_iff.mp H
                obtain ⟨t231, A120, H⟩ := H
                replace H : (if t231 = true then (if x3_2 > 0 then (if 0 ≤ (wrap64 (x3_2 - 1)) then (if (wrap64 (x3_2 - 1)) < (l0_0.length : Int) then ((bazaarref06_Less.f k2 ((rd_T39 l0_0 (wrap64 (x3_2 - 1))).f0) ((rd_T39 l0_0 x3_2).f0)).bind fun t234 => (if t234 = true then (bazaarref06_leaf.l0 k2 (wrap64 (x3_2 + 1)) l0_0 l0_1 l0_2) else (some false))) else (none)) else (none)) else (bazaarref06_leaf.l0 k2 (wrap64 (x3_2 + 1)) l0_0 l0_1 l0_2)) else (some false)) = some r := H
                have A12 := Aside0.mk A120
                clear A120
                by_cases c13 : t231 = true
                · subst c13
                  have H1 : (if x3_2 > 0 then (if 0 ≤ (wrap64 (x3_2 - 1)) then (if (wrap64 (x3_2 - 1)) < (l0_0.length : Int) then ((bazaarref06_Less.f k2 ((rd_T39 l0_0 (wrap64 (x3_2 - 1))).f0) ((rd_T39 l0_0 x3_2).f0)).bind fun t234 => (if t234 = true then (bazaarref06_leaf.l0 k2 (wrap64 (x3_2 + 1)) l0_0 l0_1 l0_2) else (some false))) else (none)) else (none)) else (bazaarref06_leaf.l0 k2 (wrap64 (x3_2 + 1)) l0_0 l0_1 l0_2)) = some r := by rw [if_pos rfl] at H; exact H
                  clear H
                  have H := H1
                  clear H1
                  by_cases c14 : x3_2 > 0
                  · rw [if_pos c14] at H
                    have c14b0 : decide (0 < x3_2) = true := decide_eq_true c14
                    clear c14
                    obtain ⟨ji15, hji15⟩ : ∃ j_ : Int, (wrap64 (x3_2 - 1)) = j_ := ⟨_, rfl⟩
                    replace H : (if 0 ≤ (ji15) then (if (ji15) < (l0_0.length : Int) then ((bazaarref06_Less.f k2 ((rd_T39 l0_0 (ji15)).f0) ((rd_T39 l0_0 x3_2).f0)).bind fun t234 => (if t234 = true then (bazaarref06_leaf.l0 k2 (wrap64 (x3_2 + 1)) l0_0 l0_1 l0_2) else (some false))) else (none)) else (none)) = some r := by first | (rw [hji15] at H; exact H) | (simp only [hji15] at H ⊢; exact H)
                    (try rw [hji15] at A12)
                    have hji15w : (IntKind.i64.wrap (x3_2 - 1)) = ji15 := (i64_w _).trans hji15
                    by_cases c16 : 0 ≤ (ji15)
                    · rw [if_pos c16] at H
                      have c16b0 : decide (0 ≤ (ji15)) = true := decide_eq_true c16
                      clear c16
                      by_cases c17 : (ji15) < (l0_0.length : Int)
                      · rw [if_pos c17] at H
                        have c17b0 : decide ((ji15) < (l0_0.length : Int)) = true := decide_eq_true c17
                        clear c17
                        replace H := Option.bind_eq_some_iff.mp H
                        obtain ⟨t234, A180, H⟩ := H
                        replace H : (if t234 = true then (bazaarref06_leaf.l0 k2 (wrap64 (x3_2 + 1)) l0_0 l0_1 l0_2) else (some false)) = some r := H
                        have A18 := Aside0.mk A180
                        clear A180
                        by_cases c19 : t234 = true
                        · subst c19
                          have H1 : (bazaarref06_leaf.l0 k2 (wrap64 (x3_2 + 1)) l0_0 l0_1 l0_2) = some r := by rw [if_pos rfl] at H; exact H
                          clear H
                          have H := H1
                          clear H1
                          have H' := Aside0.mk H
                          clear H
                          have hcz20_0 : wr.cell? ⟨gb229, 0, none⟩ = some (.slice A0_0 l0_0.length c0_0) := (blk_cell BK229.out 0).trans rfl
                          have hcz20_1 : wr.cell? ⟨gb229, 1, none⟩ = some (.slice A0_1 l0_1.length c0_1) := (blk_cell BK229.out 1).trans rfl
                          have hcz20_2 : wr.cell? ⟨gb229, 2, none⟩ = some (.slice A0_2 l0_2.length c0_2) := (blk_cell BK229.out 2).trans rfl
                          have hfz20_0 := blk_frozen BK229.out 0
                          have hfz20_1 := blk_frozen BK229.out 1
                          have hfz20_2 := blk_frozen BK229.out 2
                          have p230 : 0 ≤ (x3_2 : Int) := of_decide_eq_true (by first | (with_reducible assumption) | assumption)
                          have q230 : x3_2 < (l0_0.length : Int) := of_decide_eq_true (by first | (with_reducible assumption) | assumption)
                          obtain ⟨ad230, e230, hx230_0, hx230_1⟩ := at_T39 HR0_0.out x3_2 p230 q230
                          cases e230
                          replace hx230_0 := (HB.out.cell (World.block_lt_of_cell? w _ hx230_0)).trans hx230_0
                          replace hx230_1 := (HB.out.cell (World.block_lt_of_cell? w _ hx230_1)).trans hx230_1
                          replace p230 := eq_true p230
                          replace q230 := eq_true q230
                          go_wp2_with (first | (go_at_call 46; (with_reducible refine (bazaarref06_RightPair.calls ((rd_T39 l0_0 x3_2).f0) ((rd_T39 l0_0 x3_2).f1) true _ A12.out).mono ?_); rintro e w21 ⟨rfl, hb⟩; replace BK229 := Aside0.mk (blk_below (g := gb229) (o := .cells #[.slice (some ad230) l0_0.length c0_0, .slice A0_1 l0_1.length c0_1, .slice A0_2 l0_2.length c0_2] 26 (0, 0)) (B_ BK229.out) hb); replace HB := Aside0.mk (below_step (L_ HB.out) hb); (try clear hb); (try clear hb2); (try clear hk); (try clear hi); have hcz22_0 : w21.cell? ⟨gb229, 0, none⟩ = some (.slice (some ad230) l0_0.length c0_0) := (blk_cell BK229.out 0).trans rfl; have hcz22_1 : w21.cell? ⟨gb229, 1, none⟩ = some (.slice A0_1 l0_1.length c0_1) := (blk_cell BK229.out 1).trans rfl; have hcz22_2 : w21.cell? ⟨gb229, 2, none⟩ = some (.slice A0_2 l0_2.length c0_2) := (blk_cell BK229.out 2).trans rfl; have hfz22_0 := blk_frozen BK229.out 0; have hfz22_1 := blk_frozen BK229.out 1; have hfz22_2 := blk_frozen BK229.out 2; have p232 : 0 ≤ ((ji15) : Int) := of_decide_eq_true (by first | (with_reducible assumption) | assumption); have q232 : (ji15) < (l0_0.length : Int) := of_decide_eq_true (by first | (with_reducible assumption) | assumption); obtain ⟨ad232, e232, hx232_0, hx232_1⟩ := at_T39 HR0_0.out (ji15) p232 q232; obtain rfl : ad230 = ad232 := (by injection e232); replace hx232_0 := (HB.out.cell (World.block_lt_of_cell? w _ hx232_0)).trans hx232_0; replace hx232_1 := (HB.out.cell (World.block_lt_of_cell? w _ hx232_1)).trans hx232_1; replace p232 := eq_true p232; replace q232 := eq_true q232; have p233 : 0 ≤ (x3_2 : Int) := of_decide_eq_true (by first | (with_reducible assumption) | assumption); have q233 : x3_2 < (l0_0.length : Int) := of_decide_eq_true (by first | (with_reducible assumption) | assumption); obtain ⟨ad233, e233, hx233_0, hx233_1⟩ := at_T39 HR0_0.out x3_2 p233 q233; obtain rfl : ad230 = ad233 := (by injection e233); replace hx233_0 := (HB.out.cell (World.block_lt_of_cell? w _ hx233_0)).trans hx233_0; replace hx233_1 := (HB.out.cell (World.block_lt_of_cell? w _ hx233_1)).trans hx233_1; replace p233 := eq_true p233; replace q233 := eq_true q233) | (go_at_call 21; (with_reducible refine (bazaarref06_Less.calls k2 ((rd_T39 l0_0 (ji15)).f0) ((rd_T39 l0_0 x3_2).f0) true _ A18.out).mono ?_); rintro e w' ⟨rfl, ⟨nd, rfl⟩⟩; (try first | exact ⟨rfl, _, World.drewN_drewN _ _ _⟩ | exact ⟨rfl, _, Eq.trans (World.drewN_drewN _ _ _) (congrArg (World.drewN _) (Nat.add_assoc _ _ _))⟩)))
                          repeat (go_quiet (first | (go_at_call 46; (with_reducible refine (bazaarref06_RightPair.calls ((rd_T39 l0_0 x3_2).f0) ((rd_T39 l0_0 x3_2).f1) true _ A12.out).mono ?_); rintro e w21 ⟨rfl, hb⟩; replace BK229 := Aside0.mk (blk_below (g := gb229) (o := .cells #[.slice (some ad230) l0_0.length c0_0, .slice A0_1 l0_1.length c0_1, .slice A0_2 l0_2.length c0_2] 26 (0, 0)) (B_ BK229.out) hb); replace HB := Aside0.mk (below_step (L_ HB.out) hb); (try clear hb); (try clear hb2); (try clear hk); (try clear hi); have hcz22_0 : w21.cell? ⟨gb229, 0, none⟩ = some (.slice (some ad230) l0_0.length c0_0) := (blk_cell BK229.out 0).trans rfl; have hcz22_1 : w21.cell? ⟨gb229, 1, none⟩ = some (.slice A0_1 l0_1.length c0_1) := (blk_cell BK229.out 1).trans rfl; have hcz22_2 : w21.cell? ⟨gb229, 2, none⟩ = some (.slice A0_2 l0_2.length c0_2) := (blk_cell BK229.out 2).trans rfl; have hfz22_0 := blk_frozen BK229.out 0; have hfz22_1 := blk_frozen BK229.out 1; have hfz22_2 := blk_frozen BK229.out 2; have p232 : 0 ≤ ((ji15) : Int) := of_decide_eq_true (by first | (with_reducible assumption) | assumption); have q232 : (ji15) < (l0_0.length : Int) := of_decide_eq_true (by first | (with_reducible assumption) | assumption); obtain ⟨ad232, e232, hx232_0, hx232_1⟩ := at_T39 HR0_0.out (ji15) p232 q232; obtain rfl : ad230 = ad232 := (by injection e232); replace hx232_0 := (HB.out.cell (World.block_lt_of_cell? w _ hx232_0)).trans hx232_0; replace hx232_1 := (HB.out.cell (World.block_lt_of_cell? w _ hx232_1)).trans hx232_1; replace p232 := eq_true p232; replace q232 := eq_true q232; have p233 : 0 ≤ (x3_2 : Int) := of_decide_eq_true (by first | (with_reducible assumption) | assumption); have q233 : x3_2 < (l0_0.length : Int) := of_decide_eq_true (by first | (with_reducible assumption) | assumption); obtain ⟨ad233, e233, hx233_0, hx233_1⟩ := at_T39 HR0_0.out x3_2 p233 q233; obtain rfl : ad230 = ad233 := (by injection e233); replace hx233_0 := (HB.out.cell (World.block_lt_of_cell? w _ hx233_0)).trans hx233_0; replace hx233_1 := (HB.out.cell (World.block_lt_of_cell? w _ hx233_1)).trans hx233_1; replace p233 := eq_true p233; replace q233 := eq_true q233) | (go_at_call 21; (with_reducible refine (bazaarref06_Less.calls k2 ((rd_T39 l0_0 (ji15)).f0) ((rd_T39 l0_0 x3_2).f0) true _ A18.out).mono ?_); rintro e w' ⟨rfl, ⟨nd, rfl⟩⟩; (try first | exact ⟨rfl, _, World.drewN_drewN _ _ _⟩ | exact ⟨rfl, _, Eq.trans (World.drewN_drewN _ _ _) (congrArg (World.drewN _) (Nat.add_assoc _ _ _))⟩))); try go_wp2_with (first | (go_at_call 46; (with_reducible refine (bazaarref06_RightPair.calls ((rd_T39 l0_0 x3_2).f0) ((rd_T39 l0_0 x3_2).f1) true _ A12.out).mono ?_); rintro e w21 ⟨rfl, hb⟩; replace BK229 := Aside0.mk (blk_below (g := gb229) (o := .cells #[.slice (some ad230) l0_0.length c0_0, .slice A0_1 l0_1.length c0_1, .slice A0_2 l0_2.length c0_2] 26 (0, 0)) (B_ BK229.out) hb); replace HB := Aside0.mk (below_step (L_ HB.out) hb); (try clear hb); (try clear hb2); (try clear hk); (try clear hi); have hcz22_0 : w21.cell? ⟨gb229, 0, none⟩ = some (.slice (some ad230) l0_0.length c0_0) := (blk_cell BK229.out 0).trans rfl; have hcz22_1 : w21.cell? ⟨gb229, 1, none⟩ = some (.slice A0_1 l0_1.length c0_1) := (blk_cell BK229.out 1).trans rfl; have hcz22_2 : w21.cell? ⟨gb229, 2, none⟩ = some (.slice A0_2 l0_2.length c0_2) := (blk_cell BK229.out 2).trans rfl; have hfz22_0 := blk_frozen BK229.out 0; have hfz22_1 := blk_frozen BK229.out 1; have hfz22_2 := blk_frozen BK229.out 2; have p232 : 0 ≤ ((ji15) : Int) := of_decide_eq_true (by first | (with_reducible assumption) | assumption); have q232 : (ji15) < (l0_0.length : Int) := of_decide_eq_true (by first | (with_reducible assumption) | assumption); obtain ⟨ad232, e232, hx232_0, hx232_1⟩ := at_T39 HR0_0.out (ji15) p232 q232; obtain rfl : ad230 = ad232 := (by injection e232); replace hx232_0 := (HB.out.cell (World.block_lt_of_cell? w _ hx232_0)).trans hx232_0; replace hx232_1 := (HB.out.cell (World.block_lt_of_cell? w _ hx232_1)).trans hx232_1; replace p232 := eq_true p232; replace q232 := eq_true q232; have p233 : 0 ≤ (x3_2 : Int) := of_decide_eq_true (by first | (with_reducible assumption) | assumption); have q233 : x3_2 < (l0_0.length : Int) := of_decide_eq_true (by first | (with_reducible assumption) | assumption); obtain ⟨ad233, e233, hx233_0, hx233_1⟩ := at_T39 HR0_0.out x3_2 p233 q233; obtain rfl : ad230 = ad233 := (by injection e233); replace hx233_0 := (HB.out.cell (World.block_lt_of_cell? w _ hx233_0)).trans hx233_0; replace hx233_1 := (HB.out.cell (World.block_lt_of_cell? w _ hx233_1)).trans hx233_1; replace p233 := eq_true p233; replace q233 := eq_true q233) | (go_at_call 21; (with_reducible refine (bazaarref06_Less.calls k2 ((rd_T39 l0_0 (ji15)).f0) ((rd_T39 l0_0 x3_2).f0) true _ A18.out).mono ?_); rintro e w' ⟨rfl, ⟨nd, rfl⟩⟩; (try first | exact ⟨rfl, _, World.drewN_drewN _ _ _⟩ | exact ⟨rfl, _, Eq.trans (World.drewN_drewN _ _ _) (congrArg (World.drewN _) (Nat.add_assoc _ _ _))⟩))))
                          go_roundg k2
                          case measure => have := HJ1.out; have := HK2.out; omega
                          case rel => exact ⟨(wrap64 (x3_2 + 1)), (by first | rfl | (simp; done) | (simp [*]; done)), H', ⟨by have := HJ1.out; have := HK2.out; omega⟩, ⟨by (with_reducible repeat (first | refine blk_drewN ?_ _ | refine blk_drew ?_ | refine blk_alloc ?_ _)); exact BK229.out⟩, ⟨by repeat (first | (with_reducible first | exact HB.out | apply below_alloc | apply pw_below_drewN | apply below_drew1 | refine below_set ?_ GE229.out) | exact HB.out)⟩⟩
                        · replace c19 := Bool.eq_false_iff.mpr c19
                          subst c19
                          have H1 : (some false) = some r := by rw [if_neg (show ¬ (false = true) by decide)] at H; exact H
                          clear H
                          have H := H1
                          clear H1
                          obtain rfl := Option.some.inj H
                          have hcz23_0 : wr.cell? ⟨gb229, 0, none⟩ = some (.slice A0_0 l0_0.length c0_0) := (blk_cell BK229.out 0).trans rfl
                          have hcz23_1 : wr.cell? ⟨gb229, 1, none⟩ = some (.slice A0_1 l0_1.length c0_1) := (blk_cell BK229.out 1).trans rfl
                          have hcz23_2 : wr.cell? ⟨gb229, 2, none⟩ = some (.slice A0_2 l0_2.length c0_2) := (blk_cell BK229.out 2).trans rfl
                          have hfz23_0 := blk_frozen BK229.out 0
                          have hfz23_1 := blk_frozen BK229.out 1
                          have hfz23_2 := blk_frozen BK229.out 2
                          have p230 : 0 ≤ (x3_2 : Int) := of_decide_eq_true (by first | (with_reducible assumption) | assumption)
                          have q230 : x3_2 < (l0_0.length : Int) := of_decide_eq_true (by first | (with_reducible assumption) | assumption)
                          obtain ⟨ad230, e230, hx230_0, hx230_1⟩ := at_T39 HR0_0.out x3_2 p230 q230
                          cases e230
                          replace hx230_0 := (HB.out.cell (World.block_lt_of_cell? w _ hx230_0)).trans hx230_0
                          replace hx230_1 := (HB.out.cell (World.block_lt_of_cell? w _ hx230_1)).trans hx230_1
                          replace p230 := eq_true p230
                          replace q230 := eq_true q230
                          go_wp2_with (first | (go_at_call 46; (with_reducible refine (bazaarref06_RightPair.calls ((rd_T39 l0_0 x3_2).f0) ((rd_T39 l0_0 x3_2).f1) true _ A12.out).mono ?_); rintro e w24 ⟨rfl, hb⟩; replace BK229 := Aside0.mk (blk_below (g := gb229) (o := .cells #[.slice (some ad230) l0_0.length c0_0, .slice A0_1 l0_1.length c0_1, .slice A0_2 l0_2.length c0_2] 26 (0, 0)) (B_ BK229.out) hb); replace HB := Aside0.mk (below_step (L_ HB.out) hb); (try clear hb); (try clear hb2); (try clear hk); (try clear hi); have hcz25_0 : w24.cell? ⟨gb229, 0, none⟩ = some (.slice (some ad230) l0_0.length c0_0) := (blk_cell BK229.out 0).trans rfl; have hcz25_1 : w24.cell? ⟨gb229, 1, none⟩ = some (.slice A0_1 l0_1.length c0_1) := (blk_cell BK229.out 1).trans rfl; have hcz25_2 : w24.cell? ⟨gb229, 2, none⟩ = some (.slice A0_2 l0_2.length c0_2) := (blk_cell BK229.out 2).trans rfl; have hfz25_0 := blk_frozen BK229.out 0; have hfz25_1 := blk_frozen BK229.out 1; have hfz25_2 := blk_frozen BK229.out 2; have p232 : 0 ≤ ((ji15) : Int) := of_decide_eq_true (by first | (with_reducible assumption) | assumption); have q232 : (ji15) < (l0_0.length : Int) := of_decide_eq_true (by first | (with_reducible assumption) | assumption); obtain ⟨ad232, e232, hx232_0, hx232_1⟩ := at_T39 HR0_0.out (ji15) p232 q232; obtain rfl : ad230 = ad232 := (by injection e232); replace hx232_0 := (HB.out.cell (World.block_lt_of_cell? w _ hx232_0)).trans hx232_0; replace hx232_1 := (HB.out.cell (World.block_lt_of_cell? w _ hx232_1)).trans hx232_1; replace p232 := eq_true p232; replace q232 := eq_true q232; have p233 : 0 ≤ (x3_2 : Int) := of_decide_eq_true (by first | (with_reducible assumption) | assumption); have q233 : x3_2 < (l0_0.length : Int) := of_decide_eq_true (by first | (with_reducible assumption) | assumption); obtain ⟨ad233, e233, hx233_0, hx233_1⟩ := at_T39 HR0_0.out x3_2 p233 q233; obtain rfl : ad230 = ad233 := (by injection e233); replace hx233_0 := (HB.out.cell (World.block_lt_of_cell? w _ hx233_0)).trans hx233_0; replace hx233_1 := (HB.out.cell (World.block_lt_of_cell? w _ hx233_1)).trans hx233_1; replace p233 := eq_true p233; replace q233 := eq_true q233) | (go_at_call 21; (with_reducible refine (bazaarref06_Less.calls k2 ((rd_T39 l0_0 (ji15)).f0) ((rd_T39 l0_0 x3_2).f0) false _ A18.out).mono ?_); rintro e w' ⟨rfl, ⟨nd, rfl⟩⟩; (try first | exact ⟨rfl, _, World.drewN_drewN _ _ _⟩ | exact ⟨rfl, _, Eq.trans (World.drewN_drewN _ _ _) (congrArg (World.drewN _) (Nat.add_assoc _ _ _))⟩)))
                          repeat (go_quiet (first | (go_at_call 46; (with_reducible refine (bazaarref06_RightPair.calls ((rd_T39 l0_0 x3_2).f0) ((rd_T39 l0_0 x3_2).f1) true _ A12.out).mono ?_); rintro e w24 ⟨rfl, hb⟩; replace BK229 := Aside0.mk (blk_below (g := gb229) (o := .cells #[.slice (some ad230) l0_0.length c0_0, .slice A0_1 l0_1.length c0_1, .slice A0_2 l0_2.length c0_2] 26 (0, 0)) (B_ BK229.out) hb); replace HB := Aside0.mk (below_step (L_ HB.out) hb); (try clear hb); (try clear hb2); (try clear hk); (try clear hi); have hcz25_0 : w24.cell? ⟨gb229, 0, none⟩ = some (.slice (some ad230) l0_0.length c0_0) := (blk_cell BK229.out 0).trans rfl; have hcz25_1 : w24.cell? ⟨gb229, 1, none⟩ = some (.slice A0_1 l0_1.length c0_1) := (blk_cell BK229.out 1).trans rfl; have hcz25_2 : w24.cell? ⟨gb229, 2, none⟩ = some (.slice A0_2 l0_2.length c0_2) := (blk_cell BK229.out 2).trans rfl; have hfz25_0 := blk_frozen BK229.out 0; have hfz25_1 := blk_frozen BK229.out 1; have hfz25_2 := blk_frozen BK229.out 2; have p232 : 0 ≤ ((ji15) : Int) := of_decide_eq_true (by first | (with_reducible assumption) | assumption); have q232 : (ji15) < (l0_0.length : Int) := of_decide_eq_true (by first | (with_reducible assumption) | assumption); obtain ⟨ad232, e232, hx232_0, hx232_1⟩ := at_T39 HR0_0.out (ji15) p232 q232; obtain rfl : ad230 = ad232 := (by injection e232); replace hx232_0 := (HB.out.cell (World.block_lt_of_cell? w _ hx232_0)).trans hx232_0; replace hx232_1 := (HB.out.cell (World.block_lt_of_cell? w _ hx232_1)).trans hx232_1; replace p232 := eq_true p232; replace q232 := eq_true q232; have p233 : 0 ≤ (x3_2 : Int) := of_decide_eq_true (by first | (with_reducible assumption) | assumption); have q233 : x3_2 < (l0_0.length : Int) := of_decide_eq_true (by first | (with_reducible assumption) | assumption); obtain ⟨ad233, e233, hx233_0, hx233_1⟩ := at_T39 HR0_0.out x3_2 p233 q233; obtain rfl : ad230 = ad233 := (by injection e233); replace hx233_0 := (HB.out.cell (World.block_lt_of_cell? w _ hx233_0)).trans hx233_0; replace hx233_1 := (HB.out.cell (World.block_lt_of_cell? w _ hx233_1)).trans hx233_1; replace p233 := eq_true p233; replace q233 := eq_true q233) | (go_at_call 21; (with_reducible refine (bazaarref06_Less.calls k2 ((rd_T39 l0_0 (ji15)).f0) ((rd_T39 l0_0 x3_2).f0) false _ A18.out).mono ?_); rintro e w' ⟨rfl, ⟨nd, rfl⟩⟩; (try first | exact ⟨rfl, _, World.drewN_drewN _ _ _⟩ | exact ⟨rfl, _, Eq.trans (World.drewN_drewN _ _ _) (congrArg (World.drewN _) (Nat.add_assoc _ _ _))⟩))); try go_wp2_with (first | (go_at_call 46; (with_reducible refine (bazaarref06_RightPair.calls ((rd_T39 l0_0 x3_2).f0) ((rd_T39 l0_0 x3_2).f1) true _ A12.out).mono ?_); rintro e w24 ⟨rfl, hb⟩; replace BK229 := Aside0.mk (blk_below (g := gb229) (o := .cells #[.slice (some ad230) l0_0.length c0_0, .slice A0_1 l0_1.length c0_1, .slice A0_2 l0_2.length c0_2] 26 (0, 0)) (B_ BK229.out) hb); replace HB := Aside0.mk (below_step (L_ HB.out) hb); (try clear hb); (try clear hb2); (try clear hk); (try clear hi); have hcz25_0 : w24.cell? ⟨gb229, 0, none⟩ = some (.slice (some ad230) l0_0.length c0_0) := (blk_cell BK229.out 0).trans rfl; have hcz25_1 : w24.cell? ⟨gb229, 1, none⟩ = some (.slice A0_1 l0_1.length c0_1) := (blk_cell BK229.out 1).trans rfl; have hcz25_2 : w24.cell? ⟨gb229, 2, none⟩ = some (.slice A0_2 l0_2.length c0_2) := (blk_cell BK229.out 2).trans rfl; have hfz25_0 := blk_frozen BK229.out 0; have hfz25_1 := blk_frozen BK229.out 1; have hfz25_2 := blk_frozen BK229.out 2; have p232 : 0 ≤ ((ji15) : Int) := of_decide_eq_true (by first | (with_reducible assumption) | assumption); have q232 : (ji15) < (l0_0.length : Int) := of_decide_eq_true (by first | (with_reducible assumption) | assumption); obtain ⟨ad232, e232, hx232_0, hx232_1⟩ := at_T39 HR0_0.out (ji15) p232 q232; obtain rfl : ad230 = ad232 := (by injection e232); replace hx232_0 := (HB.out.cell (World.block_lt_of_cell? w _ hx232_0)).trans hx232_0; replace hx232_1 := (HB.out.cell (World.block_lt_of_cell? w _ hx232_1)).trans hx232_1; replace p232 := eq_true p232; replace q232 := eq_true q232; have p233 : 0 ≤ (x3_2 : Int) := of_decide_eq_true (by first | (with_reducible assumption) | assumption); have q233 : x3_2 < (l0_0.length : Int) := of_decide_eq_true (by first | (with_reducible assumption) | assumption); obtain ⟨ad233, e233, hx233_0, hx233_1⟩ := at_T39 HR0_0.out x3_2 p233 q233; obtain rfl : ad230 = ad233 := (by injection e233); replace hx233_0 := (HB.out.cell (World.block_lt_of_cell? w _ hx233_0)).trans hx233_0; replace hx233_1 := (HB.out.cell (World.block_lt_of_cell? w _ hx233_1)).trans hx233_1; replace p233 := eq_true p233; replace q233 := eq_true q233) | (go_at_call 21; (with_reducible refine (bazaarref06_Less.calls k2 ((rd_T39 l0_0 (ji15)).f0) ((rd_T39 l0_0 x3_2).f0) false _ A18.out).mono ?_); rintro e w' ⟨rfl, ⟨nd, rfl⟩⟩; (try first | exact ⟨rfl, _, World.drewN_drewN _ _ _⟩ | exact ⟨rfl, _, Eq.trans (World.drewN_drewN _ _ _) (congrArg (World.drewN _) (Nat.add_assoc _ _ _))⟩))))
                          go_ret
                          exact ⟨by first | rfl | (simp [errW_none, errW_some] <;> rfl) | (simp only [← hji15]; first | rfl | (simp [errW_none, errW_some] <;> rfl)) | (simp [*, errW_none, errW_some] <;> rfl), by repeat (first | (with_reducible first | exact HB.out | apply below_alloc | apply pw_below_drewN | apply below_drew1 | refine below_set ?_ GE229.out) | exact HB.out)⟩
                      · rw [if_neg c17] at H
                        exact absurd H (by simp)
                    · rw [if_neg c16] at H
                      exact absurd H (by simp)
                  · rw [if_neg c14] at H
                    have c14b0 : decide (0 < x3_2) = false := decide_eq_false c14
                    clear c14
                    have H' := Aside0.mk H
                    clear H
                    have hcz26_0 : wr.cell? ⟨gb229, 0, none⟩ = some (.slice A0_0 l0_0.length c0_0) := (blk_cell BK229.out 0).trans rfl
                    have hcz26_1 : wr.cell? ⟨gb229, 1, none⟩ = some (.slice A0_1 l0_1.length c0_1) := (blk_cell BK229.out 1).trans rfl
                    have hcz26_2 : wr.cell? ⟨gb229, 2, none⟩ = some (.slice A0_2 l0_2.length c0_2) := (blk_cell BK229.out 2).trans rfl
                    have hfz26_0 := blk_frozen BK229.out 0
                    have hfz26_1 := blk_frozen BK229.out 1
                    have hfz26_2 := blk_frozen BK229.out 2
                    have p230 : 0 ≤ (x3_2 : Int) := of_decide_eq_true (by first | (with_reducible assumption) | assumption)
                    have q230 : x3_2 < (l0_0.length : Int) := of_decide_eq_true (by first | (with_reducible assumption) | assumption)
                    obtain ⟨ad230, e230, hx230_0, hx230_1⟩ := at_T39 HR0_0.out x3_2 p230 q230
                    cases e230
                    replace hx230_0 := (HB.out.cell (World.block_lt_of_cell? w _ hx230_0)).trans hx230_0
                    replace hx230_1 := (HB.out.cell (World.block_lt_of_cell? w _ hx230_1)).trans hx230_1
                    replace p230 := eq_true p230
                    replace q230 := eq_true q230
                    go_wp2_with (first | (go_at_call 46; (with_reducible refine (bazaarref06_RightPair.calls ((rd_T39 l0_0 x3_2).f0) ((rd_T39 l0_0 x3_2).f1) true _ A12.out).mono ?_); rintro e w27 ⟨rfl, hb⟩; replace BK229 := Aside0.mk (blk_below (g := gb229) (o := .cells #[.slice (some ad230) l0_0.length c0_0, .slice A0_1 l0_1.length c0_1, .slice A0_2 l0_2.length c0_2] 26 (0, 0)) (B_ BK229.out) hb); replace HB := Aside0.mk (below_step (L_ HB.out) hb); (try clear hb); (try clear hb2); (try clear hk); (try clear hi)))
                    repeat (go_quiet (first | (go_at_call 46; (with_reducible refine (bazaarref06_RightPair.calls ((rd_T39 l0_0 x3_2).f0) ((rd_T39 l0_0 x3_2).f1) true _ A12.out).mono ?_); rintro e w27 ⟨rfl, hb⟩; replace BK229 := Aside0.mk (blk_below (g := gb229) (o := .cells #[.slice (some ad230) l0_0.length c0_0, .slice A0_1 l0_1.length c0_1, .slice A0_2 l0_2.length c0_2] 26 (0, 0)) (B_ BK229.out) hb); replace HB := Aside0.mk (below_step (L_ HB.out) hb); (try clear hb); (try clear hb2); (try clear hk); (try clear hi))); try go_wp2_with (first | (go_at_call 46; (with_reducible refine (bazaarref06_RightPair.calls ((rd_T39 l0_0 x3_2).f0) ((rd_T39 l0_0 x3_2).f1) true _ A12.out).mono ?_); rintro e w27 ⟨rfl, hb⟩; replace BK229 := Aside0.mk (blk_below (g := gb229) (o := .cells #[.slice (some ad230) l0_0.length c0_0, .slice A0_1 l0_1.length c0_1, .slice A0_2 l0_2.length c0_2] 26 (0, 0)) (B_ BK229.out) hb); replace HB := Aside0.mk (below_step (L_ HB.out) hb); (try clear hb); (try clear hb2); (try clear hk); (try clear hi))))
                    go_roundg k2
                    case measure => have := HJ1.out; have := HK2.out; omega
                    case rel => exact ⟨(wrap64 (x3_2 + 1)), (by first | rfl | (simp; done) | (simp [*]; done)), H', ⟨by have := HJ1.out; have := HK2.out; omega⟩, ⟨by (with_reducible repeat (first | refine blk_drewN ?_ _ | refine blk_drew ?_ | refine blk_alloc ?_ _)); exact BK229.out⟩, ⟨by repeat (first | (with_reducible first | exact HB.out | apply below_alloc | apply pw_below_drewN | apply below_drew1 | refine below_set ?_ GE229.out) | exact HB.out)⟩⟩
                · replace c13 := Bool.eq_false_iff.mpr c13
                  subst c13
                  have H1 : (some false) = some r := by rw [if_neg (show ¬ (false = true) by decide)] at H; exact H
                  clear H
                  have H := H1
                  clear H1
                  obtain rfl := Option.some.inj H
                  have hcz28_0 : wr.cell? ⟨gb229, 0, none⟩ = some (.slice A0_0 l0_0.length c0_0) := (blk_cell BK229.out 0).trans rfl
                  have hcz28_1 : wr.cell? ⟨gb229, 1, none⟩ = some (.slice A0_1 l0_1.length c0_1) := (blk_cell BK229.out 1).trans rfl
                  have hcz28_2 : wr.cell? ⟨gb229, 2, none⟩ = some (.slice A0_2 l0_2.length c0_2) := (blk_cell BK229.out 2).trans rfl
                  have hfz28_0 := blk_frozen BK229.out 0
                  have hfz28_1 := blk_frozen BK229.out 1
                  have hfz28_2 := blk_frozen BK229.out 2
                  have p230 : 0 ≤ (x3_2 : Int) := of_decide_eq_true (by first | (with_reducible assumption) | assumption)
                  have q230 : x3_2 < (l0_0.length : Int) := of_decide_eq_true (by first | (with_reducible assumption) | assumption)
                  obtain ⟨ad230, e230, hx230_0, hx230_1⟩ := at_T39 HR0_0.out x3_2 p230 q230
                  cases e230
                  replace hx230_0 := (HB.out.cell (World.block_lt_of_cell? w _ hx230_0)).trans hx230_0
                  replace hx230_1 := (HB.out.cell (World.block_lt_of_cell? w _ hx230_1)).trans hx230_1
                  replace p230 := eq_true p230
                  replace q230 := eq_true q230
                  go_wp2_with (first | (go_at_call 46; (with_reducible refine (bazaarref06_RightPair.calls ((rd_T39 l0_0 x3_2).f0) ((rd_T39 l0_0 x3_2).f1) false _ A12.out).mono ?_); rintro e w29 ⟨rfl, hb⟩; replace BK229 := Aside0.mk (blk_below (g := gb229) (o := .cells #[.slice (some ad230) l0_0.length c0_0, .slice A0_1 l0_1.length c0_1, .slice A0_2 l0_2.length c0_2] 26 (0, 0)) (B_ BK229.out) hb); replace HB := Aside0.mk (below_step (L_ HB.out) hb); (try clear hb); (try clear hb2); (try clear hk); (try clear hi)))
                  repeat (go_quiet (first | (go_at_call 46; (with_reducible refine (bazaarref06_RightPair.calls ((rd_T39 l0_0 x3_2).f0) ((rd_T39 l0_0 x3_2).f1) false _ A12.out).mono ?_); rintro e w29 ⟨rfl, hb⟩; replace BK229 := Aside0.mk (blk_below (g := gb229) (o := .cells #[.slice (some ad230) l0_0.length c0_0, .slice A0_1 l0_1.length c0_1, .slice A0_2 l0_2.length c0_2] 26 (0, 0)) (B_ BK229.out) hb); replace HB := Aside0.mk (below_step (L_ HB.out) hb); (try clear hb); (try clear hb2); (try clear hk); (try clear hi))); try go_wp2_with (first | (go_at_call 46; (with_reducible refine (bazaarref06_RightPair.calls ((rd_T39 l0_0 x3_2).f0) ((rd_T39 l0_0 x3_2).f1) false _ A12.out).mono ?_); rintro e w29 ⟨rfl, hb⟩; replace BK229 := Aside0.mk (blk_below (g := gb229) (o := .cells #[.slice (some ad230) l0_0.length c0_0, .slice A0_1 l0_1.length c0_1, .slice A0_2 l0_2.length c0_2] 26 (0, 0)) (B_ BK229.out) hb); replace HB := Aside0.mk (below_step (L_ HB.out) hb); (try clear hb); (try clear hb2); (try clear hk); (try clear hi))))
                  go_ret
                  exact ⟨by first | rfl | (simp [errW_none, errW_some] <;> rfl) | (simp [errW_none, errW_some]; exact ⟨rfl, rfl, rfl⟩) | (simp [*, errW_none, errW_some] <;> rfl), by repeat (first | (with_reducible first | exact HB.out | apply below_alloc | apply pw_below_drewN | apply below_drew1 | refine below_set ?_ GE229.out) | exact HB.out)⟩
              · rw [if_neg c11] at H
                exact absurd H (by simp)
            · rw [if_neg c10] at H
              have c10b0 : decide (x3_2 < (l0_0.length : Int)) = false := decide_eq_false c10
              clear c10
              obtain rfl := Option.some.inj H
              have hcz30_0 : wr.cell? ⟨gb229, 0, none⟩ = some (.slice A0_0 l0_0.length c0_0) := (blk_cell BK229.out 0).trans rfl
              have hcz30_1 : wr.cell? ⟨gb229, 1, none⟩ = some (.slice A0_1 l0_1.length c0_1) := (blk_cell BK229.out 1).trans rfl
              have hcz30_2 : wr.cell? ⟨gb229, 2, none⟩ = some (.slice A0_2 l0_2.length c0_2) := (blk_cell BK229.out 2).trans rfl
              have hfz30_0 := blk_frozen BK229.out 0
              have hfz30_1 := blk_frozen BK229.out 1
              have hfz30_2 := blk_frozen BK229.out 2
              go_wp2
              repeat (go_quiet (fail); try go_wp2)
              go_ret
              exact ⟨by first | rfl | (simp [errW_none, errW_some] <;> rfl) | (simp [errW_none, errW_some]; exact ⟨rfl, rfl, rfl⟩) | (simp [*, errW_none, errW_some] <;> rfl), by repeat (first | (with_reducible first | exact HB.out | apply below_alloc | apply pw_below_drewN | apply below_drew1 | refine below_set ?_ GE229.out) | exact HB.out)⟩

end Go.Proofs.Ytejempihaknplaa.G
