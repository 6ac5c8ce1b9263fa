-- Written by this session's program genprint.py (the kit's print.py with contracts of this seat's own among the callees). Not trusted: Lean checks it.
import Derived.Test.YtejempihaknplaaGX
import Derived.Test.YtejempihaknplaaGC
namespace Go.Proofs.Ytejempihaknplaa.G
open Go.RowKit Go.Proofs.YtejempihaknplaaW.PrintWords Go.Proofs.YtejempihaknplaaW.PrintLast Go.Proofs.YtejempihaknplaaW.PrintMore
attribute [local go_sem] max2_int min2_int max_two min_two max_three min_three max_four min_four   -- for this text's walks alone
set_option linter.unusedVariables false
set_option linter.unusedSimpArgs false

/-! ### bazaarref03_Put: function 62 -/
def bazaarref03_Put.l0 : Nat → Int → List Int → Int → Option (ByteArray)
  | 0, _, _, _ => none
  | k + 1, x0, x5, x6 => if x6 ≥ 0 then (if 0 ≤ (IntKind.u64.wrap (wrap64 (8 * x6))) then (if x5.length < 140737488355328 then (bazaarref03_Put.l0 k x0 (x5 ++ [(shr .u64 x0 (IntKind.u64.wrap (wrap64 (8 * x6)))) % 256]) (wrap64 (x6 - 1))) else (none)) else (none)) else (some (strOfNums x5))
def bazaarref03_Put.f (k : Nat) (a0 : Int) (a1 : Int) : Option (ByteArray) := bazaarref03_Put.l0 k a0 ([] : List Int) (wrap64 (a1 - 1))
theorem bazaarref03_Put.mono_l : ∀ k, (∀ y0 y1 y2, LeO (bazaarref03_Put.l0 k y0 y1 y2) (bazaarref03_Put.l0 (k + 1) y0 y1 y2))
  | 0 => fun _ _ _ r h => by simp [bazaarref03_Put.l0] at h
  | k + 1 => by
    have ih0 := bazaarref03_Put.mono_l k
    · intro y0 y1 y2
      unfold bazaarref03_Put.l0
      repeat' first
      | (with_reducible exact ih0 _ _ _)
      | (with_reducible exact LeO.refl _)
      | (with_reducible exact LeO.none _)
      | (with_reducible refine LeO.ite ?_ ?_)
      | (with_reducible refine LeO.bind ?_ (fun _ => ?_))
      | exact ih0 _ _ _
      | exact LeO.none _
      | refine LeO.ite ?_ ?_
      | refine LeO.bind ?_ (fun _ => ?_)
theorem bazaarref03_Put.mono : ∀ a0 a1 k, LeO (bazaarref03_Put.f k a0 a1) (bazaarref03_Put.f (k + 1) a0 a1) := by
  intro a0 a1 k
  have ih0 := bazaarref03_Put.mono_l k
  unfold bazaarref03_Put.f
  repeat' first
      | (with_reducible exact ih0 _ _ _)
      | (with_reducible exact LeO.refl _)
      | (with_reducible exact LeO.none _)
      | (with_reducible refine LeO.ite ?_ ?_)
      | (with_reducible refine LeO.bind ?_ (fun _ => ?_))
      | exact ih0 _ _ _
      | exact LeO.none _
      | refine LeO.ite ?_ ?_
      | refine LeO.bind ?_ (fun _ => ?_)
set_option maxHeartbeats 8000000 in
set_option maxRecDepth 100000 in
theorem bazaarref03_Put.calls (k : Nat) (a0 : Int) (a1 : Int) (r : ByteArray) (w : World) (h : bazaarref03_Put.f k a0 a1 = some r) :
    Calls Try.prog 62 #[.int .u64 a0, .int .i64 a1] w fun e w' => e = .returned (.string r) ∧ Below w.heap.size w w' := by
  have HB := Aside0.mk (Below.refl w.heap.size w)
  have H : (bazaarref03_Put.l0 k a0 ([] : List Int) (wrap64 (a1 - 1))) = some r := h
  clear h
  have H' := Aside0.mk H
  clear H
  go_enter Try.func62, Try.ntmps62
  go_wp2
  go_loopg [5, 6] k (fun kq v5 v6 w' => ∃ (x5_1 : List Int) (x6_1 : Int), v6 = .int .i64 x6_1 ∧ Aside0 (bazaarref03_Put.l0 kq a0 x5_1 x6_1 = some r) ∧ Aside0 (kq ≤ k) ∧ Aside0 (Kd.R (Kd.int .u8) 5 w' w.heap.size (fun _ => True) v5 x5_1) ∧ Aside0 (Below w.heap.size w w'))
  case atStart => exact ⟨(([] : List Int)), (wrap64 (a1 - 1)), (by first | rfl | (simp; done) | (simp [*]; done)), H', ⟨Nat.le_refl _⟩, ⟨by first | exact Kd.R_nil _ _ _ _ _ | exact Kd.N_nil _ _ _ _ _ | exact Kd.V_nil _ _ _ _ _ | exact Kd.Q_nil _ _ _ _ _ | exact Kd.S_nil _ _ _ _ _⟩, ⟨by repeat (first | (with_reducible first | exact HB.out | apply below_alloc | apply pw_below_drewN | apply below_drew1) | exact HB.out)⟩⟩
  case round =>
    clear H'
    try clear p2
    obtain ⟨x5_1, x6_1, rfl, HA, HK1, HO_5, HB⟩ := hrel
    cases gk with
    | zero => exact absurd HA.out (by simp [bazaarref03_Put.l0])
    | succ k1 =>
      have H := HA.out
      clear HA
      simp only [bazaarref03_Put.l0] at H
      by_cases c3 : x6_1 ≥ 0
      · rw [if_pos c3] at H
        have c3b0 : decide (0 ≤ x6_1) = true := decide_eq_true c3
        clear c3
        obtain ⟨ji4, hji4⟩ : ∃ j_ : Int, (IntKind.u64.wrap (wrap64 (8 * x6_1))) = j_ := ⟨_, rfl⟩
        replace H : (if 0 ≤ (ji4) then (if x5_1.length < 140737488355328 then (bazaarref03_Put.l0 k1 a0 (x5_1 ++ [(shr .u64 a0 (ji4)) % 256]) (wrap64 (x6_1 - 1))) else (none)) else (none)) = some r := by first | (rw [hji4] at H; exact H) | (simp only [hji4] at H ⊢; exact H)
        by_cases c5 : 0 ≤ (ji4)
        · rw [if_pos c5] at H
          have c5b0 := eq_true c5
          have c5b1 : decide (0 ≤ (ji4)) = true := decide_eq_true c5
          clear c5
          obtain ⟨ji6, hji6⟩ : ∃ j_ : Int, (shr .u64 a0 (ji4)) = j_ := ⟨_, rfl⟩
          replace H : (if x5_1.length < 140737488355328 then (bazaarref03_Put.l0 k1 a0 (x5_1 ++ [(ji6) % 256]) (wrap64 (x6_1 - 1))) else (none)) = some r := by first | (rw [hji6] at H; exact H) | (simp only [hji6] at H ⊢; exact H)
          have hji6_ : (a0 / 2 ^ min (ji4).toNat 64) = ji6 := hji6
          have hji6z : (ji4) ≤ 64 → (a0 / 2 ^ (ji4).toNat) = ji6 := shr_small hji6
          by_cases c7 : x5_1.length < 140737488355328
          · rw [if_pos c7] at H
            have LMc7 := Aside0.mk c7
            clear c7
            obtain ⟨y246, hy246⟩ : ∃ y_ : List Int, y_ = (x5_1 ++ [(ji6) % 256]) := ⟨_, rfl⟩
            replace H : (bazaarref03_Put.l0 k1 a0 y246 (wrap64 (x6_1 - 1))) = some r := by first | (rw [hy246]; with_reducible exact H) | (have H2_ := (Option.bind_some _ _).symm.trans H; rw [hy246]; with_reducible exact H2_) | (have H2_ := (Option.bind_some _ _).symm.trans H; with_reducible exact H2_) | with_reducible exact H | (rw [hy246]; exact H) | exact H
            have Ny246 := Aside0.mk hy246
            clear hy246
            have H' := Aside0.mk H
            clear H
            go_wp2_with (first | ((with_reducible refine gate_builtin (b := .append) (xs := #[.tmp 13, .tmp 20]) rfl ?_); at_builtin; refine Kd.R_append (Kd.int .u8) (w0 := w) w.heap.size rfl (.tmp 13) (.tmp 20) 54 5 (.int .u8 0) 1 rfl Try.underlying54 info5 rfl (by decide) (by omega) u5 x5_1 ((ji6) % 256) [.int .u8 ((ji6) % 256)] (fun _ => True) (fun _ => False) rfl rfl ?aP (fun _ hk => hk.elim) ?aF ?aO ?aB ?aS ?aL ?_; (case aP => exact rfl); (case aB => exact (by repeat (first | (with_reducible first | exact HB.out | apply below_alloc | apply pw_below_drewN | apply below_drew1) | exact HB.out))); (case aF => exact (fun _ _ => trivial)); (case aO => exact (by (with_reducible repeat (first | apply Kd.R_alloc | apply Kd.R_drewN | apply Kd.R_drew)); exact HO_5.out)); (case aS => exact (below_size (by repeat (first | (with_reducible first | exact HB.out | apply below_alloc | apply pw_below_drewN | apply below_drew1) | exact HB.out)))); (case aL => have := LMc7.out; omega); intro v247 w8 ho hb hg hat; rw [← Ny246.out] at ho; have n0_ := Aside0.mk (hb); have n1_ := Aside0.mk (ho); clear HB; clear HO_5; have HB := n0_; have HO248 := n1_; clear n0_ n1_; clear ho hb hg hat))
            go_roundg k1
            case measure => have := HK1.out; omega
            case rel => exact ⟨(y246), (wrap64 (x6_1 - 1)), (by first | rfl | (simp; done) | (simp [*]; done)), H', ⟨by have := HK1.out; omega⟩, ⟨by (with_reducible repeat (first | apply Kd.R_alloc | apply Kd.R_drewN | apply Kd.R_drew)); exact HO248.out⟩, ⟨by repeat (first | (with_reducible first | exact HB.out | apply below_alloc | apply pw_below_drewN | apply below_drew1) | exact HB.out)⟩⟩
          · rw [if_neg c7] at H
            exact absurd H (by simp)
        · rw [if_neg c5] at H
          exact absurd H (by simp)
      · rw [if_neg c3] at H
        have c3b0 : decide (0 ≤ x6_1) = false := decide_eq_false c3
        clear c3
        obtain rfl := Option.some.inj H
        have hcv9 := own_string (P := Try.prog) Try.underlying54 Try.underlying5 Try.underlying9 (Kd.own_of_R HO_5.out)
        go_wp2
        go_ret
        exact ⟨by first | rfl | (simp [errW_none, errW_some] <;> rfl) | (simp [errW_none, errW_some]; exact ⟨rfl, rfl, rfl⟩) | (simp [*, errW_none, errW_some] <;> rfl), by repeat (first | (with_reducible first | exact HB.out | apply below_alloc | apply pw_below_drewN | apply below_drew1) | exact HB.out)⟩

/-! ### bazaarref06_bytes: function 37 -/
mutual
def bazaarref06_bytes.l0 : Nat → ByteArray → Int → List (S39) → List ByteArray → List Int → Option (ByteArray)
  | 0, _, _, _, _, _ => none
  | k + 1, x3, x4, x250000, x250001, x250002 => if x4 < (x250000.length : Int) then (if 0 ≤ x4 then ((bazaarref03_Put.f k (IntKind.u64.wrap ((((rd_T39 x250000 x4).f0).size : Int))) 1).bind fun t253 => (if x3.size + t253.size ≤ 9223372036854775807 then (if (x3 ++ t253).size + ((rd_T39 x250000 x4).f0).size ≤ 9223372036854775807 then ((bazaarref03_Put.f k (IntKind.u64.wrap ((((rd_T39 x250000 x4).f1).size : Int))) 1).bind fun t254 => (if ((x3 ++ t253) ++ ((rd_T39 x250000 x4).f0)).size + t254.size ≤ 9223372036854775807 then (if (((x3 ++ t253) ++ ((rd_T39 x250000 x4).f0)) ++ t254).size + ((rd_T39 x250000 x4).f1).size ≤ 9223372036854775807 then (bazaarref06_bytes.l0 k ((((x3 ++ t253) ++ ((rd_T39 x250000 x4).f0)) ++ t254) ++ ((rd_T39 x250000 x4).f1)) (wrap64 (x4 + 1)) x250000 x250001 x250002) else (none)) else (none))) else (none)) else (none))) else (none)) else (some x3)
def bazaarref06_bytes.l1 : Nat → ByteArray → Int → List (S39) → List ByteArray → List Int → Option (ByteArray)
  | 0, _, _, _, _, _ => none
  | k + 1, x6, x7, x250000, x250001, x250002 => if x7 < (x250001.length : Int) then (if 0 ≤ x7 then ((bazaarref03_Put.f k (IntKind.u64.wrap (((rdOf ByteArray.empty x250001 x7).size : Int))) 1).bind fun t259 => (if x6.size + t259.size ≤ 9223372036854775807 then (if (x6 ++ t259).size + (rdOf ByteArray.empty x250001 x7).size ≤ 9223372036854775807 then (if 0 ≤ (wrap64 (x7 + 1)) then (if (wrap64 (x7 + 1)) < (x250002.length : Int) then ((bazaarref03_Put.f k (IntKind.u64.wrap (rd x250002 (wrap64 (x7 + 1)))) 4).bind fun t262 => (if ((x6 ++ t259) ++ (rdOf ByteArray.empty x250001 x7)).size + t262.size ≤ 9223372036854775807 then (bazaarref06_bytes.l1 k (((x6 ++ t259) ++ (rdOf ByteArray.empty x250001 x7)) ++ t262) (wrap64 (x7 + 1)) x250000 x250001 x250002) else (none))) else (none)) else (none)) else (none)) else (none))) else (none)) else (some x6)
end
def bazaarref06_bytes.f (k : Nat) (l0_0 : List (S39)) (l0_1 : List ByteArray) (l0_2 : List Int) : Option (ByteArray) := if (l0_2.length : Int) = 0 then ((bazaarref03_Put.f k (IntKind.u64.wrap ((l0_0.length : Int))) 1).bind fun t250 => (bazaarref06_bytes.l0 k t250 0 l0_0 l0_1 l0_2)) else ((bazaarref03_Put.f k (IntKind.u64.wrap ((l0_2.length : Int))) 1).bind fun t255 => (if 0 < (l0_2.length : Int) then ((bazaarref03_Put.f k (IntKind.u64.wrap (rd l0_2 0)) 4).bind fun t257 => (if t255.size + t257.size ≤ 9223372036854775807 then (bazaarref06_bytes.l1 k (t255 ++ t257) 0 l0_0 l0_1 l0_2) else (none))) else (none)))
def bazaarref06_bytes.T7 : Bool × List (List Nat × List Nat) := (true, [([], []), ([], []), ([1], [1]), ([2], [2]), ([3], [3]), ([4], [4]), ([0, 5], [0, 5]), ([], []), ([7], [7]), ([6, 8], [6, 8]), ([], []), ([10], [10]), ([11], [11]), ([12], [12]), ([13, 5], [13]), ([9, 14], [9, 14]), ([], []), ([16], [16]), ([15, 17], [15, 17]), ([18, 14, 0, 1, 2, 3, 4, 5, 6, 7, 8, 9, 10, 11, 12, 13, 14, 15, 16, 17, 18], [0, 18])])
def bazaarref06_bytes.B7 : List Nat := [0, 0, 2, 6, 14, 30, 63, 0, 128, 511, 0, 1024, 3072, 7168, 15422, 32767, 0, 65536, 262143, 524287]
theorem bazaarref06_bytes.tab7 : rtab .any (opsOf Try.f37 7) = bazaarref06_bytes.T7 := by kernel_rfl
theorem bazaarref06_bytes.bits7 : waitsOk bazaarref06_bytes.T7.2 bazaarref06_bytes.B7 = true := by kernel_rfl
def bazaarref06_bytes.T9 : Bool × List (List Nat × List Nat) := (true, [([], []), ([0], [0]), ([1], [1]), ([2], [2]), ([3], [3]), ([], []), ([5], [5]), ([6], [6]), ([7], [7]), ([8], [8]), ([9, 4], [9]), ([4, 10], [4, 10]), ([11, 10, 0, 1, 2, 3, 4, 5, 6, 7, 8, 9, 10, 11], [11])])
def bazaarref06_bytes.B9 : List Nat := [0, 1, 3, 7, 15, 0, 32, 96, 224, 480, 1023, 2047, 4095]
theorem bazaarref06_bytes.tab9 : rtab .any (opsOf Try.f37 9) = bazaarref06_bytes.T9 := by kernel_rfl
theorem bazaarref06_bytes.bits9 : waitsOk bazaarref06_bytes.T9.2 bazaarref06_bytes.B9 = true := by kernel_rfl
def bazaarref06_bytes.T13 : Bool × List (List Nat × List Nat) := (true, [([], []), ([], []), ([1], [1]), ([], []), ([2, 3], [2, 3]), ([4], [4]), ([5], [5]), ([6], [6]), ([7], [7]), ([0, 8], [0, 8]), ([], []), ([10], [10]), ([], []), ([11, 12], [11, 12]), ([13], [13]), ([9, 14], [9, 14]), ([], []), ([16], [16]), ([], []), ([18], [18]), ([17, 19], [17, 19]), ([20], [20]), ([21], [21]), ([22, 8], [22]), ([15, 23], [15, 23]), ([24, 23, 0, 1, 2, 3, 4, 5, 6, 7, 8, 9, 10, 11, 12, 13, 14, 15, 16, 17, 18, 19, 20, 21, 22, 23, 24], [0, 24])])
def bazaarref06_bytes.B13 : List Nat := [0, 0, 2, 0, 14, 30, 62, 126, 254, 511, 0, 1024, 0, 7168, 15360, 32767, 0, 65536, 0, 262144, 983040, 2031616, 4128768, 8323582, 16777215, 33554431]
theorem bazaarref06_bytes.tab13 : rtab .any (opsOf Try.f37 13) = bazaarref06_bytes.T13 := by kernel_rfl
theorem bazaarref06_bytes.bits13 : waitsOk bazaarref06_bytes.T13.2 bazaarref06_bytes.B13 = true := by kernel_rfl
set_option maxHeartbeats 8000000 in
set_option maxRecDepth 100000 in
theorem bazaarref06_bytes.calls (k : Nat) (A0_0 : Option Addr) (c0_0 : Nat) (l0_0 : List (S39)) (A0_1 : Option Addr) (c0_1 : Nat) (l0_1 : List ByteArray) (A0_2 : Option Addr) (c0_2 : Nat) (l0_2 : List Int) (r : ByteArray) (w : World) (hr0_0 : Kd.C k39 w A0_0 l0_0.length l0_0) (hc0_0 : l0_0.length ≤ c0_0) (hr0_1 : Kd.C Kd.string w A0_1 l0_1.length l0_1) (hc0_1 : l0_1.length ≤ c0_1) (hr0_2 : Kd.C (Kd.int .u32) w A0_2 l0_2.length l0_2) (hc0_2 : l0_2.length ≤ c0_2) (h : bazaarref06_bytes.f k l0_0 l0_1 l0_2 = some r) :
    Calls Try.prog 37 #[.agg #[.slice A0_0 l0_0.length c0_0, .slice A0_1 l0_1.length c0_1, .slice A0_2 l0_2.length c0_2]] w fun e w' => e = .returned (.string r) ∧ Below w.heap.size w w' := by
  have hu26 := Try.underlying26
  have hu39 := Try.underlying39
  have HR0_0 := Aside0.mk hr0_0
  have HC0_0 := Aside0.mk hc0_0
  clear hr0_0 hc0_0
  have HR0_1 := Aside0.mk hr0_1
  have HC0_1 := Aside0.mk hc0_1
  clear hr0_1 hc0_1
  have HR0_2 := Aside0.mk hr0_2
  have HC0_2 := Aside0.mk hc0_2
  clear hr0_2 hc0_2
  have HB := Aside0.mk (Below.refl w.heap.size w)
  have H : (if (l0_2.length : Int) = 0 then ((bazaarref03_Put.f k (IntKind.u64.wrap ((l0_0.length : Int))) 1).bind fun t250 => (bazaarref06_bytes.l0 k t250 0 l0_0 l0_1 l0_2)) else ((bazaarref03_Put.f k (IntKind.u64.wrap ((l0_2.length : Int))) 1).bind fun t255 => (if 0 < (l0_2.length : Int) then ((bazaarref03_Put.f k (IntKind.u64.wrap (rd l0_2 0)) 4).bind fun t257 => (if t255.size + t257.size ≤ 9223372036854775807 then (bazaarref06_bytes.l1 k (t255 ++ t257) 0 l0_0 l0_1 l0_2) else (none))) else (none)))) = some r := h
  clear h
  by_cases c2 : (l0_2.length : Int) = 0
  · rw [if_pos c2] at H
    have c2b0 : ((l0_2.length : Int) == 0) = true := beq_iff_eq.mpr c2
    have c2b1 : ((l0_2.length : Int) != 0) = false := bne_eq_false_iff_eq.mpr c2
    clear c2
    replace H := Option.bind_eq_some_iff.mp H
    obtain ⟨t250, A30, H⟩ := H
    replace H : (bazaarref06_bytes.l0 k t250 0 l0_0 l0_1 l0_2) = some r := H
    have A3 := Aside0.mk A30
    clear A30
    have H' := Aside0.mk H
    clear H
    go_enter Try.func37, Try.ntmps37
    go_wp2_with (first | ((with_reducible refine gate_dst (N := 1) rfl ?_); refine box_event ?hg (N := 1) ?hd (cs := #[.slice A0_0 l0_0.length c0_0, .slice A0_1 l0_1.length c0_1, .slice A0_2 l0_2.length c0_2]) (t := 26) ?hr ?_; (case hd => rfl); (case hg => rfl); (case hr => first | (go_simp; done) | (go_simp; rfl)); intro gb249 hg w4 hbox hb; have n0_ := Aside0.mk (below_step (by repeat (first | (with_reducible first | exact HB.out | apply below_alloc | apply pw_below_drewN | apply below_drew1) | exact HB.out)) hb); have n1_ := Aside0.mk (hbox); have n2_ := Aside0.mk ((by rw [hg]; exact (below_size (by repeat (first | (with_reducible first | exact HB.out | apply below_alloc | apply pw_below_drewN | apply below_drew1) | exact HB.out))) : w.heap.size ≤ gb249)); have n3_ := Aside0.mk ((by rw [hg]; exact (below_size (by repeat (first | (with_reducible first | exact HB.out | apply below_alloc | apply pw_below_drewN | apply below_drew1) | exact HB.out))) : w.heap.size ≤ gb249)); clear HB; have HB := n0_; have BK249 := n1_; have GW249 := n2_; have GE249 := n3_; clear n0_ n1_ n2_ n3_; clear hb hbox hg; have hcz5_0 : w4.cell? ⟨gb249, 0, none⟩ = some (.slice A0_0 l0_0.length c0_0) := (blk_cell BK249.out 0).trans rfl; have hcz5_1 : w4.cell? ⟨gb249, 1, none⟩ = some (.slice A0_1 l0_1.length c0_1) := (blk_cell BK249.out 1).trans rfl; have hcz5_2 : w4.cell? ⟨gb249, 2, none⟩ = some (.slice A0_2 l0_2.length c0_2) := (blk_cell BK249.out 2).trans rfl; have hfz5_0 := blk_frozen BK249.out 0; have hfz5_1 := blk_frozen BK249.out 1; have hfz5_2 := blk_frozen BK249.out 2) | ((with_reducible refine gate_callee (f := 62) rfl ?_); refine goesL_ (some 16) rfl rfl Try.func62 (by kernel_rfl) rfl #[.int .u64 (IntKind.u64.wrap ((l0_0.length : Int))), .int .i64 1] rfl (by (try simp only [List.map_toArray, List.map_cons, List.map_nil]); first | done | rfl | (simp only [List.length_drop, List.length_take]; rfl)) ?_; (with_reducible refine (bazaarref03_Put.calls k (IntKind.u64.wrap ((l0_0.length : Int))) 1 t250 _ A3.out).mono ?_); rintro e w6 ⟨rfl, hb⟩; refine ⟨_, rfl, ?_⟩; have n0_ := Aside0.mk (blk_below (g := gb249) (o := .cells #[.slice A0_0 l0_0.length c0_0, .slice A0_1 l0_1.length c0_1, .slice A0_2 l0_2.length c0_2] 26 (0, 0)) (by (with_reducible repeat (first | refine blk_drewN ?_ _ | refine blk_drew ?_ | refine blk_alloc ?_ _)); exact BK249.out) hb); have n1_ := Aside0.mk (below_step (by repeat (first | (with_reducible first | exact HB.out | apply below_alloc | apply pw_below_drewN | apply below_drew1 | refine below_set ?_ GE249.out) | exact HB.out)) hb); clear BK249; clear HB; have BK249 := n0_; have HB := n1_; clear n0_ n1_; (try clear hb); (try clear hb2); (try clear hk); (try clear hi)))
    go_loopg [3, 4] k (fun kq v3 v4 w' => ∃ (x3_1 : ByteArray) (x4_1 : Int), v3 = .string x3_1 ∧ v4 = .int .i64 x4_1 ∧ Aside0 (bazaarref06_bytes.l0 kq x3_1 x4_1 l0_0 l0_1 l0_2 = some r) ∧ Aside0 (kq ≤ k) ∧ Aside0 (w'.heap[gb249]? = some (.cells #[(.slice A0_0 l0_0.length c0_0), (.slice A0_1 l0_1.length c0_1), (.slice A0_2 l0_2.length c0_2)] 26 (0, 0))) ∧ Aside0 (Below w.heap.size w w'))
    case atStart => exact ⟨(t250), (0), (by first | rfl | (simp; done) | (simp [*]; done)), (by first | rfl | (simp; done) | (simp [*]; done)), H', ⟨Nat.le_refl _⟩, ⟨by (with_reducible repeat (first | refine blk_drewN ?_ _ | refine blk_drew ?_ | refine blk_alloc ?_ _)); exact BK249.out⟩, ⟨by repeat (first | (with_reducible first | exact HB.out | apply below_alloc | apply pw_below_drewN | apply below_drew1 | refine below_set ?_ GE249.out) | exact HB.out)⟩⟩
    case round =>
      clear H'
      try clear c2
      try clear c2b0
      try clear c2b1
      try clear p2
      try clear c3
      try clear c6
      try clear hcz5_0
      try clear hcz5_1
      try clear hcz5_2
      try clear hfz5_0
      try clear hfz5_1
      try clear hfz5_2
      obtain ⟨x3_1, x4_1, rfl, rfl, HA, HK1, BK249, HB⟩ := hrel
      cases gk with
      | zero => exact absurd HA.out (by simp [bazaarref06_bytes.l0])
      | succ k1 =>
        have H := HA.out
        clear HA
        simp only [bazaarref06_bytes.l0] at H
        by_cases c7 : x4_1 < (l0_0.length : Int)
        · rw [if_pos c7] at H
          have c7b0 : decide (x4_1 < (l0_0.length : Int)) = true := decide_eq_true c7
          clear c7
          by_cases c8 : 0 ≤ x4_1
          · rw [if_pos c8] at H
            have c8b0 : decide (0 ≤ x4_1) = true := decide_eq_true c8
            clear c8
            replace H := Option.bind_eq_some_iff.mp H
            obtain ⟨t253, A90, H⟩ := H
            replace H : (if x3_1.size + t253.size ≤ 9223372036854775807 then (if (x3_1 ++ t253).size + ((rd_T39 l0_0 x4_1).f0).size ≤ 9223372036854775807 then ((bazaarref03_Put.f k1 (IntKind.u64.wrap ((((rd_T39 l0_0 x4_1).f1).size : Int))) 1).bind fun t254 => (if ((x3_1 ++ t253) ++ ((rd_T39 l0_0 x4_1).f0)).size + t254.size ≤ 9223372036854775807 then (if (((x3_1 ++ t253) ++ ((rd_T39 l0_0 x4_1).f0)) ++ t254).size + ((rd_T39 l0_0 x4_1).f1).size ≤ 9223372036854775807 then (bazaarref06_bytes.l0 k1 ((((x3_1 ++ t253) ++ ((rd_T39 l0_0 x4_1).f0)) ++ t254) ++ ((rd_T39 l0_0 x4_1).f1)) (wrap64 (x4_1 + 1)) l0_0 l0_1 l0_2) else (none)) else (none))) else (none)) else (none)) = some r := H
            have A9 := Aside0.mk A90
            clear A90
            by_cases c10 : x3_1.size + t253.size ≤ 9223372036854775807
            · rw [if_pos c10] at H
              have c10b0 := eq_true c10
              have c10b1 : decide (x3_1.size + t253.size ≤ 9223372036854775807) = true := decide_eq_true c10
              try have c10b2 : (9223372036854775807 < x3_1.size + t253.size) = False := eq_false (Nat.not_lt.2 c10)
              by_cases c11 : (x3_1 ++ t253).size + ((rd_T39 l0_0 x4_1).f0).size ≤ 9223372036854775807
              · rw [if_pos c11] at H
                have c11b0 := eq_true c11
                have c11b1 : decide ((x3_1 ++ t253).size + ((rd_T39 l0_0 x4_1).f0).size ≤ 9223372036854775807) = true := decide_eq_true c11
                try have c11b2 : (9223372036854775807 < (x3_1 ++ t253).size + ((rd_T39 l0_0 x4_1).f0).size) = False := eq_false (Nat.not_lt.2 c11)
                have c11b3 := c11b2
                simp only [ByteArray.size_append] at c11b3
                replace H := Option.bind_eq_some_iff.mp H
                obtain ⟨t254, A120, H⟩ := H
                replace H : (if ((x3_1 ++ t253) ++ ((rd_T39 l0_0 x4_1).f0)).size + t254.size ≤ 9223372036854775807 then (if (((x3_1 ++ t253) ++ ((rd_T39 l0_0 x4_1).f0)) ++ t254).size + ((rd_T39 l0_0 x4_1).f1).size ≤ 9223372036854775807 then (bazaarref06_bytes.l0 k1 ((((x3_1 ++ t253) ++ ((rd_T39 l0_0 x4_1).f0)) ++ t254) ++ ((rd_T39 l0_0 x4_1).f1)) (wrap64 (x4_1 + 1)) l0_0 l0_1 l0_2) else (none)) else (none)) = some r := H
                have A12 := Aside0.mk A120
                clear A120
                by_cases c13 : ((x3_1 ++ t253) ++ ((rd_T39 l0_0 x4_1).f0)).size + t254.size ≤ 9223372036854775807
                · rw [if_pos c13] at H
                  have c13b0 := eq_true c13
                  have c13b1 : decide (((x3_1 ++ t253) ++ ((rd_T39 l0_0 x4_1).f0)).size + t254.size ≤ 9223372036854775807) = true := decide_eq_true c13
                  try have c13b2 : (9223372036854775807 < ((x3_1 ++ t253) ++ ((rd_T39 l0_0 x4_1).f0)).size + t254.size) = False := eq_false (Nat.not_lt.2 c13)
                  have c13b3 := c13b2
                  simp only [ByteArray.size_append] at c13b3
                  by_cases c14 : (((x3_1 ++ t253) ++ ((rd_T39 l0_0 x4_1).f0)) ++ t254).size + ((rd_T39 l0_0 x4_1).f1).size ≤ 9223372036854775807
                  · rw [if_pos c14] at H
                    have c14b0 := eq_true c14
                    have c14b1 : decide ((((x3_1 ++ t253) ++ ((rd_T39 l0_0 x4_1).f0)) ++ t254).size + ((rd_T39 l0_0 x4_1).f1).size ≤ 9223372036854775807) = true := decide_eq_true c14
                    try have c14b2 : (9223372036854775807 < (((x3_1 ++ t253) ++ ((rd_T39 l0_0 x4_1).f0)) ++ t254).size + ((rd_T39 l0_0 x4_1).f1).size) = False := eq_false (Nat.not_lt.2 c14)
                    have c14b3 := c14b2
                    simp only [ByteArray.size_append] at c14b3
                    have H' := Aside0.mk H
                    clear H
                    have hcz15_0 : wr.cell? ⟨gb249, 0, none⟩ = some (.slice A0_0 l0_0.length c0_0) := (blk_cell BK249.out 0).trans rfl
                    have hcz15_1 : wr.cell? ⟨gb249, 1, none⟩ = some (.slice A0_1 l0_1.length c0_1) := (blk_cell BK249.out 1).trans rfl
                    have hcz15_2 : wr.cell? ⟨gb249, 2, none⟩ = some (.slice A0_2 l0_2.length c0_2) := (blk_cell BK249.out 2).trans rfl
                    have hfz15_0 := blk_frozen BK249.out 0
                    have hfz15_1 := blk_frozen BK249.out 1
                    have hfz15_2 := blk_frozen BK249.out 2
                    have p251 : 0 ≤ (x4_1 : Int) := of_decide_eq_true (by first | (with_reducible assumption) | assumption)
                    have q251 : x4_1 < (l0_0.length : Int) := of_decide_eq_true (by first | (with_reducible assumption) | assumption)
                    obtain ⟨ad251, e251, hx251_0, hx251_1⟩ := at_T39 HR0_0.out x4_1 p251 q251
                    cases e251
                    replace hx251_0 := (HB.out.cell (World.block_lt_of_cell? w _ hx251_0)).trans hx251_0
                    replace hx251_1 := (HB.out.cell (World.block_lt_of_cell? w _ hx251_1)).trans hx251_1
                    replace p251 := eq_true p251
                    replace q251 := eq_true q251
                    try go_wp2_with (first | ((with_reducible refine gate_dst (N := 5) rfl ?_); refine box_event ?hg (N := 5) ?hd (cs := #[.string (⟨#[]⟩ : ByteArray), .string (⟨#[]⟩ : ByteArray)]) (t := 39) ?hr ?_; (case hd => rfl); (case hg => rfl); (case hr => first | (go_simp; done) | (go_simp; rfl)); intro gb252 hg w16 hbox hb; have n0_ := Aside0.mk (blk_below (g := gb249) (o := .cells #[.slice (some ad251) l0_0.length c0_0, .slice A0_1 l0_1.length c0_1, .slice A0_2 l0_2.length c0_2] 26 (0, 0)) (by (with_reducible repeat (first | refine blk_drewN ?_ _ | refine blk_drew ?_ | refine blk_alloc ?_ _)); exact BK249.out) hb); have n1_ := Aside0.mk (below_step (by repeat (first | (with_reducible first | exact HB.out | apply below_alloc | apply pw_below_drewN | apply below_drew1 | refine below_set ?_ GE249.out) | exact HB.out)) hb); have n2_ := Aside0.mk (hbox); have n3_ := Aside0.mk ((by rw [hg]; exact (below_size (by repeat (first | (with_reducible first | exact HB.out | apply below_alloc | apply pw_below_drewN | apply below_drew1 | refine below_set ?_ GE249.out) | exact HB.out))) : w.heap.size ≤ gb252)); have n4_ := Aside0.mk ((by rw [hg]; exact (below_size (by repeat (first | (with_reducible first | exact HB.out | apply below_alloc | apply pw_below_drewN | apply below_drew1 | refine below_set ?_ GE249.out) | exact HB.out))) : w.heap.size ≤ gb252)); have n5_ := Aside0.mk ((by rw [hg]; exact Nat.ne_of_lt (blk_lt (g := gb249) (o := .cells #[.slice (some ad251) l0_0.length c0_0, .slice A0_1 l0_1.length c0_1, .slice A0_2 l0_2.length c0_2] 26 (0, 0)) (by (with_reducible repeat (first | refine blk_drewN ?_ _ | refine blk_drew ?_ | refine blk_alloc ?_ _)); exact BK249.out)) : gb249 ≠ gb252)); have n6_ := Aside0.mk ((by rw [hg]; exact Nat.ne_of_gt (blk_lt (g := gb249) (o := .cells #[.slice (some ad251) l0_0.length c0_0, .slice A0_1 l0_1.length c0_1, .slice A0_2 l0_2.length c0_2] 26 (0, 0)) (by (with_reducible repeat (first | refine blk_drewN ?_ _ | refine blk_drew ?_ | refine blk_alloc ?_ _)); exact BK249.out)) : gb252 ≠ gb249)); clear BK249; clear HB; have BK249 := n0_; have HB := n1_; have BK252 := n2_; have GW252 := n3_; have GE252 := n4_; have NB249_252 := n5_; have NB252_249 := n6_; clear n0_ n1_ n2_ n3_ n4_ n5_ n6_; clear hb hbox hg; have hnb17 := NB252_249.out; have hnc17 := NB249_252.out; have hcz18_0 : w16.cell? ⟨gb252, 0, none⟩ = some (.string (⟨#[]⟩ : ByteArray)) := (blk_cell BK252.out 0).trans rfl; have hcz18_1 : w16.cell? ⟨gb252, 1, none⟩ = some (.string (⟨#[]⟩ : ByteArray)) := (blk_cell BK252.out 1).trans rfl; have hfz18_0 := blk_frozen BK252.out 0; have hfz18_1 := blk_frozen BK252.out 1))
                    have n0_ : Aside0 (((w16.setCell ⟨gb252, 0, none⟩ (.string ((rd_T39 l0_0 x4_1).f0))).setCell ⟨gb252, 1, none⟩ (.string ((rd_T39 l0_0 x4_1).f1))).heap[gb249]? = some (.cells #[.slice (some ad251) l0_0.length c0_0, .slice A0_1 l0_1.length c0_1, .slice A0_2 l0_2.length c0_2] 26 (0, 0))) := ⟨by (with_reducible repeat (first | refine blk_drewN ?_ _ | refine blk_drew ?_ | refine blk_alloc ?_ _)); refine blk_far ?_ NB249_252.out _; (with_reducible repeat (first | refine blk_drewN ?_ _ | refine blk_drew ?_ | refine blk_alloc ?_ _)); refine blk_far ?_ NB249_252.out _; (with_reducible repeat (first | refine blk_drewN ?_ _ | refine blk_drew ?_ | refine blk_alloc ?_ _)); exact BK249.out⟩
                    have n1_ : Aside0 (((w16.setCell ⟨gb252, 0, none⟩ (.string ((rd_T39 l0_0 x4_1).f0))).setCell ⟨gb252, 1, none⟩ (.string ((rd_T39 l0_0 x4_1).f1))).heap[gb252]? = some (.cells #[.string ((rd_T39 l0_0 x4_1).f0), .string ((rd_T39 l0_0 x4_1).f1)] 39 (0, 0))) := ⟨by (with_reducible repeat (first | refine blk_drewN ?_ _ | refine blk_drew ?_ | refine blk_alloc ?_ _)); refine blk_put (cs := #[.string ((rd_T39 l0_0 x4_1).f0), .string (⟨#[]⟩ : ByteArray)]) ?_ 1 _ rfl; (with_reducible repeat (first | refine blk_drewN ?_ _ | refine blk_drew ?_ | refine blk_alloc ?_ _)); refine blk_put (cs := #[.string (⟨#[]⟩ : ByteArray), .string (⟨#[]⟩ : ByteArray)]) ?_ 0 _ rfl; (with_reducible repeat (first | refine blk_drewN ?_ _ | refine blk_drew ?_ | refine blk_alloc ?_ _)); exact BK252.out⟩
                    have n2_ : Aside0 (Below w.heap.size w ((w16.setCell ⟨gb252, 0, none⟩ (.string ((rd_T39 l0_0 x4_1).f0))).setCell ⟨gb252, 1, none⟩ (.string ((rd_T39 l0_0 x4_1).f1)))) := ⟨by repeat (first | (with_reducible first | exact HB.out | apply below_alloc | apply pw_below_drewN | apply below_drew1 | refine below_set ?_ GE249.out | refine below_set ?_ GE252.out) | exact HB.out)⟩
                    (try clear BK249)
                    (try clear BK252)
                    (try clear HB)
                    generalize ((w16.setCell ⟨gb252, 0, none⟩ (.string ((rd_T39 l0_0 x4_1).f0))).setCell ⟨gb252, 1, none⟩ (.string ((rd_T39 l0_0 x4_1).f1))) = w19 at n0_ n1_ n2_ ⊢
                    have BK249 := n0_
                    have BK252 := n1_
                    have HB := n2_
                    clear n0_ n1_ n2_
                    have n0_ := Aside0.mk (blk_drew BK249.out)
                    have n1_ := Aside0.mk (blk_drew BK252.out)
                    have n2_ := Aside0.mk (below_drew1 HB.out)
                    clear BK249
                    clear BK252
                    clear HB
                    have BK249 := n0_
                    have BK252 := n1_
                    have HB := n2_
                    clear n0_ n1_ n2_
                    refine start_ (n := 20) (S := fun w' => w'.cell? ⟨gb252, 0, none⟩ = some (.string ((rd_T39 l0_0 x4_1).f0)) ∧ w'.cell? ⟨gb252, 1, none⟩ = some (.string ((rd_T39 l0_0 x4_1).f1))) (ds := []) #[false, false, false, false, false, false, false, false, false, false, false, false, false, false, false, false, false, false, false, false] (by kernel_rfl) rfl rfl ⟨(blk_cell BK252.out 0).trans rfl, (blk_cell BK252.out 1).trans rfl⟩ (fun hHeld => ?_); refine with_tabW bazaarref06_bytes.tab7 bazaarref06_bytes.bits7 (fun HT_ HW_ => ?_)
                    generalize w19.drew = w20 at BK249 BK252 HB hHeld ⊢
                    refine pure_ (i := 0) (N := some 29) (v := ?_) (a' := ?_) #[true, false, false, false, false, false, false, false, false, false, false, false, false, false, false, false, false, false, false, false] rfl rfl (any_of HT_.out (by kernel_rfl)) (fun _ _ _ h => h) (Or.inl ⟨by rfl, ?_⟩) ?_ ?_; rotate_left; (intro w'; go_simp; with_reducible rfl); rotate_left; (simp only [Act.put, List.setIfInBounds_toArray, List.set_cons_zero, List.set_cons_succ, i64_w, i32_w]; rfl)
                    refine pure_ (i := 1) (N := some 30) (v := ?_) (a' := ?_) #[true, true, false, false, false, false, false, false, false, false, false, false, false, false, false, false, false, false, false, false] rfl rfl (any_of HT_.out (by kernel_rfl)) (fun _ _ _ h => h) (Or.inl ⟨by rfl, ?_⟩) ?_ ?_; rotate_left; (intro w'; go_simp; with_reducible rfl); rotate_left; (simp only [Act.put, List.setIfInBounds_toArray, List.set_cons_zero, List.set_cons_succ, i64_w, i32_w]; rfl)
                    refine pure_ (i := 7) (N := some 36) (v := ?_) (a' := ?_) #[true, true, false, false, false, false, false, true, false, false, false, false, false, false, false, false, false, false, false, false] rfl rfl (any_of HT_.out (by kernel_rfl)) (fun _ _ _ h => h) (Or.inl ⟨by rfl, ?_⟩) ?_ ?_; rotate_left; (intro w'; go_simp; with_reducible rfl); rotate_left; (simp only [Act.put, List.setIfInBounds_toArray, List.set_cons_zero, List.set_cons_succ, i64_w, i32_w]; rfl)
                    refine pure_ (i := 10) (N := some 39) (v := ?_) (a' := ?_) #[true, true, false, false, false, false, false, true, false, false, true, false, false, false, false, false, false, false, false, false] rfl rfl (any_of HT_.out (by kernel_rfl)) (fun _ _ _ h => h) (Or.inl ⟨by rfl, ?_⟩) ?_ ?_; rotate_left; (intro w'; go_simp; with_reducible rfl); rotate_left; (simp only [Act.put, List.setIfInBounds_toArray, List.set_cons_zero, List.set_cons_succ, i64_w, i32_w]; rfl)
                    refine pure_ (i := 16) (N := some 45) (v := ?_) (a' := ?_) #[true, true, false, false, false, false, false, true, false, false, true, false, false, false, false, false, true, false, false, false] rfl rfl (any_of HT_.out (by kernel_rfl)) (fun _ _ _ h => h) (Or.inl ⟨by rfl, ?_⟩) ?_ ?_; rotate_left; (intro w'; go_simp; with_reducible rfl); rotate_left; (simp only [Act.put, List.setIfInBounds_toArray, List.set_cons_zero, List.set_cons_succ, i64_w, i32_w]; rfl)
                    refine take_ (i := 2) (N := some 31) (v := ?_) (a' := ?_) #[true, true, true, false, false, false, false, true, false, false, true, false, false, false, false, false, true, false, false, false] rfl rfl (take_ofW HT_.out HW_.out (by kernel_rfl)) (fun _ _ _ h => h) (Or.inl ⟨by rfl, ?_⟩) hHeld ?_ ?_
                    rotate_left
                    · rintro w' ⟨s0, s1⟩
                      go_simp
                      with_reducible rfl
                    rotate_left
                    · simp only [Act.put, List.setIfInBounds_toArray, List.set_cons_zero, List.set_cons_succ, i64_w, i32_w]
                      rfl
                    refine pure_ (i := 3) (N := some 32) (v := ?_) (a' := ?_) #[true, true, true, true, false, false, false, true, false, false, true, false, false, false, false, false, true, false, false, false] rfl rfl (any_of HT_.out (by kernel_rfl)) (fun _ _ _ h => h) (Or.inl ⟨by rfl, ?_⟩) ?_ ?_; rotate_left; (intro w'; go_simp; with_reducible rfl); rotate_left; (simp only [Act.put, List.setIfInBounds_toArray, List.set_cons_zero, List.set_cons_succ, i64_w, i32_w]; rfl)
                    refine pure_ (i := 4) (N := some 33) (v := ?_) (a' := ?_) #[true, true, true, true, true, false, false, true, false, false, true, false, false, false, false, false, true, false, false, false] rfl rfl (any_of HT_.out (by kernel_rfl)) (fun _ _ _ h => h) (Or.inl ⟨by rfl, ?_⟩) ?_ ?_; rotate_left; (intro w'; go_simp; with_reducible rfl); rotate_left; (simp only [Act.put, List.setIfInBounds_toArray, List.set_cons_zero, List.set_cons_succ, i64_w, i32_w]; rfl)
                    refine take_ (i := 8) (N := some 37) (v := ?_) (a' := ?_) #[true, true, true, true, true, false, false, true, true, false, true, false, false, false, false, false, true, false, false, false] rfl rfl (take_ofW HT_.out HW_.out (by kernel_rfl)) (fun _ _ _ h => h) (Or.inl ⟨by rfl, ?_⟩) hHeld ?_ ?_
                    rotate_left
                    · rintro w' ⟨s0, s1⟩
                      go_simp
                      with_reducible rfl
                    rotate_left
                    · simp only [Act.put, List.setIfInBounds_toArray, List.set_cons_zero, List.set_cons_succ, i64_w, i32_w]
                      rfl
                    refine take_ (i := 11) (N := some 40) (v := ?_) (a' := ?_) #[true, true, true, true, true, false, false, true, true, false, true, true, false, false, false, false, true, false, false, false] rfl rfl (take_ofW HT_.out HW_.out (by kernel_rfl)) (fun _ _ _ h => h) (Or.inl ⟨by rfl, ?_⟩) hHeld ?_ ?_
                    rotate_left
                    · rintro w' ⟨s0, s1⟩
                      go_simp
                      with_reducible rfl
                    rotate_left
                    · simp only [Act.put, List.setIfInBounds_toArray, List.set_cons_zero, List.set_cons_succ, i64_w, i32_w]
                      rfl
                    refine pure_ (i := 12) (N := some 41) (v := ?_) (a' := ?_) #[true, true, true, true, true, false, false, true, true, false, true, true, true, false, false, false, true, false, false, false] rfl rfl (any_of HT_.out (by kernel_rfl)) (fun _ _ _ h => h) (Or.inl ⟨by rfl, ?_⟩) ?_ ?_; rotate_left; (intro w'; go_simp; with_reducible rfl); rotate_left; (simp only [Act.put, List.setIfInBounds_toArray, List.set_cons_zero, List.set_cons_succ, i64_w, i32_w]; rfl)
                    refine pure_ (i := 13) (N := some 42) (v := ?_) (a' := ?_) #[true, true, true, true, true, false, false, true, true, false, true, true, true, true, false, false, true, false, false, false] rfl rfl (any_of HT_.out (by kernel_rfl)) (fun _ _ _ h => h) (Or.inl ⟨by rfl, ?_⟩) ?_ ?_; rotate_left; (intro w'; go_simp; with_reducible rfl); rotate_left; (simp only [Act.put, List.setIfInBounds_toArray, List.set_cons_zero, List.set_cons_succ, i64_w, i32_w]; rfl)
                    refine take_ (i := 17) (N := some 46) (v := ?_) (a' := ?_) #[true, true, true, true, true, false, false, true, true, false, true, true, true, true, false, false, true, true, false, false] rfl rfl (take_ofW HT_.out HW_.out (by kernel_rfl)) (fun _ _ _ h => h) (Or.inl ⟨by rfl, ?_⟩) hHeld ?_ ?_
                    rotate_left
                    · rintro w' ⟨s0, s1⟩
                      go_simp
                      with_reducible rfl
                    rotate_left
                    · simp only [Act.put, List.setIfInBounds_toArray, List.set_cons_zero, List.set_cons_succ, i64_w, i32_w]
                      rfl
                    refine one_ (i := 5) (N := some 34) #[true, true, true, true, true, true, false, true, true, false, true, true, true, true, false, false, true, true, false, false] rfl rfl (one_of HT_.out (by kernel_rfl)) (by decide) (fun K hK => ?_)
                    refine goes_ Try.func62 (by kernel_rfl) rfl #[.int .u64 (IntKind.u64.wrap ((((rd_T39 l0_0 x4_1).f0).size : Int))), .int .i64 1] (by rfl) rfl rfl (by (try simp only [List.map_toArray, List.map_cons, List.map_nil]); first | done | rfl | (simp only [List.length_drop, List.length_take]; rfl)) ?_
                    with_reducible refine (bazaarref03_Put.calls k1 (IntKind.u64.wrap ((((rd_T39 l0_0 x4_1).f0).size : Int))) 1 t253 _ A9.out).mono ?_
                    rintro e w21 ⟨rfl, hb⟩
                    refine ⟨_, rfl, ?_⟩
                    have n0_ := Aside0.mk (blk_below (g := gb249) (o := .cells #[.slice (some ad251) l0_0.length c0_0, .slice A0_1 l0_1.length c0_1, .slice A0_2 l0_2.length c0_2] 26 (0, 0)) (by (with_reducible repeat (first | refine blk_drewN ?_ _ | refine blk_drew ?_ | refine blk_alloc ?_ _)); exact BK249.out) hb)
                    have n1_ := Aside0.mk (blk_below (g := gb252) (o := .cells #[.string ((rd_T39 l0_0 x4_1).f0), .string ((rd_T39 l0_0 x4_1).f1)] 39 (0, 0)) (by (with_reducible repeat (first | refine blk_drewN ?_ _ | refine blk_drew ?_ | refine blk_alloc ?_ _)); exact BK252.out) hb)
                    have n2_ := Aside0.mk (below_step (by repeat (first | (with_reducible first | exact HB.out | apply below_alloc | apply pw_below_drewN | apply below_drew1 | refine below_set ?_ GE249.out | refine below_set ?_ GE252.out) | exact HB.out)) hb)
                    clear BK249
                    clear BK252
                    clear HB
                    have BK249 := n0_
                    have BK252 := n1_
                    have HB := n2_
                    clear n0_ n1_ n2_
                    (try clear hb)
                    (try clear hb2)
                    (try clear hk)
                    (try clear hi)
                    refine hK.out _ _ ⟨(blk_cell BK252.out 0).trans rfl, (blk_cell BK252.out 1).trans rfl⟩ (fun hHeld => ?_)
                    clear hK K
                    refine norm_ (a' := ?_) ?_ ?_; rotate_left; (show Act.put _ (some 34) _ = _; simp only [Act.put, List.setIfInBounds_toArray, List.set_cons_zero, List.set_cons_succ, i64_w, i32_w]; rfl)
                    refine pure_ (i := 6) (N := some 35) (v := ?_) (a' := ?_) #[true, true, true, true, true, true, true, true, true, false, true, true, true, true, false, false, true, true, false, false] rfl rfl (any_of HT_.out (by kernel_rfl)) (fun _ _ _ h => h) (Or.inl ⟨by rfl, ?_⟩) ?_ ?_; rotate_left; (intro w'; go_simp; with_reducible rfl); rotate_left; (simp only [Act.put, List.setIfInBounds_toArray, List.set_cons_zero, List.set_cons_succ, i64_w, i32_w]; rfl)
                    refine pure_ (i := 9) (N := some 38) (v := ?_) (a' := ?_) #[true, true, true, true, true, true, true, true, true, true, true, true, true, true, false, false, true, true, false, false] rfl rfl (any_of HT_.out (by kernel_rfl)) (fun _ _ _ h => h) (Or.inl ⟨by rfl, ?_⟩) ?_ ?_; rotate_left; (intro w'; go_simp; with_reducible rfl); rotate_left; (simp only [Act.put, List.setIfInBounds_toArray, List.set_cons_zero, List.set_cons_succ, i64_w, i32_w]; rfl)
                    refine one_ (i := 14) (N := some 43) #[true, true, true, true, true, true, true, true, true, true, true, true, true, true, true, false, true, true, false, false] rfl rfl (one_of HT_.out (by kernel_rfl)) (by decide) (fun K hK => ?_)
                    refine goes_ Try.func62 (by kernel_rfl) rfl #[.int .u64 (IntKind.u64.wrap ((((rd_T39 l0_0 x4_1).f1).size : Int))), .int .i64 1] (by rfl) rfl rfl (by (try simp only [List.map_toArray, List.map_cons, List.map_nil]); first | done | rfl | (simp only [List.length_drop, List.length_take]; rfl)) ?_
                    with_reducible refine (bazaarref03_Put.calls k1 (IntKind.u64.wrap ((((rd_T39 l0_0 x4_1).f1).size : Int))) 1 t254 _ A12.out).mono ?_
                    rintro e w22 ⟨rfl, hb⟩
                    refine ⟨_, rfl, ?_⟩
                    have n0_ := Aside0.mk (blk_below (g := gb249) (o := .cells #[.slice (some ad251) l0_0.length c0_0, .slice A0_1 l0_1.length c0_1, .slice A0_2 l0_2.length c0_2] 26 (0, 0)) (by (with_reducible repeat (first | refine blk_drewN ?_ _ | refine blk_drew ?_ | refine blk_alloc ?_ _)); exact BK249.out) hb)
                    have n1_ := Aside0.mk (blk_below (g := gb252) (o := .cells #[.string ((rd_T39 l0_0 x4_1).f0), .string ((rd_T39 l0_0 x4_1).f1)] 39 (0, 0)) (by (with_reducible repeat (first | refine blk_drewN ?_ _ | refine blk_drew ?_ | refine blk_alloc ?_ _)); exact BK252.out) hb)
                    have n2_ := Aside0.mk (below_step (by repeat (first | (with_reducible first | exact HB.out | apply below_alloc | apply pw_below_drewN | apply below_drew1 | refine below_set ?_ GE249.out | refine below_set ?_ GE252.out) | exact HB.out)) hb)
                    clear BK249
                    clear BK252
                    clear HB
                    have BK249 := n0_
                    have BK252 := n1_
                    have HB := n2_
                    clear n0_ n1_ n2_
                    (try clear hb)
                    (try clear hb2)
                    (try clear hk)
                    (try clear hi)
                    refine hK.out _ _ ⟨(blk_cell BK252.out 0).trans rfl, (blk_cell BK252.out 1).trans rfl⟩ (fun hHeld => ?_)
                    clear hK K
                    refine norm_ (a' := ?_) ?_ ?_; rotate_left; (show Act.put _ (some 43) _ = _; simp only [Act.put, List.setIfInBounds_toArray, List.set_cons_zero, List.set_cons_succ, i64_w, i32_w]; rfl)
                    refine pure_ (i := 15) (N := some 44) (v := ?_) (a' := ?_) #[true, true, true, true, true, true, true, true, true, true, true, true, true, true, true, true, true, true, false, false] rfl rfl (any_of HT_.out (by kernel_rfl)) (fun _ _ _ h => h) (Or.inl ⟨by rfl, ?_⟩) ?_ ?_; rotate_left; (intro w'; go_simp; with_reducible rfl); rotate_left; (simp only [Act.put, List.setIfInBounds_toArray, List.set_cons_zero, List.set_cons_succ, i64_w, i32_w]; rfl)
                    refine pure_ (i := 18) (N := some 47) (v := ?_) (a' := ?_) #[true, true, true, true, true, true, true, true, true, true, true, true, true, true, true, true, true, true, true, false] rfl rfl (any_of HT_.out (by kernel_rfl)) (fun _ _ _ h => h) (Or.inl ⟨by rfl, ?_⟩) ?_ ?_; rotate_left; (intro w'; go_simp; with_reducible rfl); rotate_left; (simp only [Act.put, List.setIfInBounds_toArray, List.set_cons_zero, List.set_cons_succ, i64_w, i32_w]; rfl)
                    refine pure_ (i := 19) (N := some 3) (v := ?_) (a' := ?_) #[true, true, true, true, true, true, true, true, true, true, true, true, true, true, true, true, true, true, true, true] rfl rfl (any_of HT_.out (by kernel_rfl)) (fun _ _ _ h => h) (Or.inl ⟨by rfl, ?_⟩) ?_ ?_; rotate_left; (intro w'; go_simp; with_reducible rfl); rotate_left; (simp only [Act.put, List.setIfInBounds_toArray, List.set_cons_zero, List.set_cons_succ, i64_w, i32_w]; rfl)
                    refine done_ (done_of HT_.out (by kernel_rfl)) ?_
                    try go_wp2
                    go_roundg k1
                    case measure => have := HK1.out; omega
                    case rel => exact ⟨((((x3_1 ++ t253) ++ ((rd_T39 l0_0 x4_1).f0)) ++ t254) ++ ((rd_T39 l0_0 x4_1).f1)), (wrap64 (x4_1 + 1)), (by first | rfl | (simp; done) | (simp [*]; done)), (by first | rfl | (simp; done) | (simp [*]; done)), H', ⟨by have := HK1.out; omega⟩, ⟨by (with_reducible repeat (first | refine blk_drewN ?_ _ | refine blk_drew ?_ | refine blk_alloc ?_ _)); exact BK249.out⟩, ⟨by repeat (first | (with_reducible first | exact HB.out | apply below_alloc | apply pw_below_drewN | apply below_drew1 | refine below_set ?_ GE249.out | refine below_set ?_ GE252.out) | exact HB.out)⟩⟩
                  · rw [if_neg c14] at H
                    exact absurd H (by simp)
                · rw [if_neg c13] at H
                  exact absurd H (by simp)
              · rw [if_neg c11] at H
                exact absurd H (by simp)
            · rw [if_neg c10] at H
              exact absurd H (by simp)
          · rw [if_neg c8] at H
            exact absurd H (by simp)
        · rw [if_neg c7] at H
          have c7b0 : decide (x4_1 < (l0_0.length : Int)) = false := decide_eq_false c7
          clear c7
          obtain rfl := Option.some.inj H
          have hcz23_0 : wr.cell? ⟨gb249, 0, none⟩ = some (.slice A0_0 l0_0.length c0_0) := (blk_cell BK249.out 0).trans rfl
          have hcz23_1 : wr.cell? ⟨gb249, 1, none⟩ = some (.slice A0_1 l0_1.length c0_1) := (blk_cell BK249.out 1).trans rfl
          have hcz23_2 : wr.cell? ⟨gb249, 2, none⟩ = some (.slice A0_2 l0_2.length c0_2) := (blk_cell BK249.out 2).trans rfl
          have hfz23_0 := blk_frozen BK249.out 0
          have hfz23_1 := blk_frozen BK249.out 1
          have hfz23_2 := blk_frozen BK249.out 2
          go_wp2
          go_ret
          exact ⟨by first | rfl | (simp [errW_none, errW_some] <;> rfl) | (simp [errW_none, errW_some]; exact ⟨rfl, rfl, rfl⟩) | (simp [*, errW_none, errW_some] <;> rfl), by repeat (first | (with_reducible first | exact HB.out | apply below_alloc | apply pw_below_drewN | apply below_drew1 | refine below_set ?_ GE249.out) | exact HB.out)⟩
  · rw [if_neg c2] at H
    have c2b0 : ((l0_2.length : Int) == 0) = false := beq_eq_false_iff_ne.mpr c2
    have c2b1 : ((l0_2.length : Int) != 0) = true := bne_iff_ne.mpr c2
    have c2b2 : ¬ (l0_2 = []) := fun h_ => c2 (by rw [h_]; rfl)
    replace H := Option.bind_eq_some_iff.mp H
    obtain ⟨t255, A240, H⟩ := H
    replace H : (if 0 < (l0_2.length : Int) then ((bazaarref03_Put.f k (IntKind.u64.wrap (rd l0_2 0)) 4).bind fun t257 => (if t255.size + t257.size ≤ 9223372036854775807 then (bazaarref06_bytes.l1 k (t255 ++ t257) 0 l0_0 l0_1 l0_2) else (none))) else (none)) = some r := H
    have A24 := Aside0.mk A240
    clear A240
    by_cases c25 : 0 < (l0_2.length : Int)
    · rw [if_pos c25] at H
      have c25b0 : decide (0 < (l0_2.length : Int)) = true := decide_eq_true c25
      have c25b1 : decide (0 < l0_2.length) = true := decide_eq_true (by omega)
      clear c25
      replace H := Option.bind_eq_some_iff.mp H
      obtain ⟨t257, A260, H⟩ := H
      replace H : (if t255.size + t257.size ≤ 9223372036854775807 then (bazaarref06_bytes.l1 k (t255 ++ t257) 0 l0_0 l0_1 l0_2) else (none)) = some r := H
      have A26 := Aside0.mk A260
      clear A260
      by_cases c27 : t255.size + t257.size ≤ 9223372036854775807
      · rw [if_pos c27] at H
        have c27b0 := eq_true c27
        have c27b1 : decide (t255.size + t257.size ≤ 9223372036854775807) = true := decide_eq_true c27
        try have c27b2 : (9223372036854775807 < t255.size + t257.size) = False := eq_false (Nat.not_lt.2 c27)
        have H' := Aside0.mk H
        clear H
        go_enter Try.func37, Try.ntmps37
        try go_wp2_with (first | ((with_reducible refine gate_dst (N := 1) rfl ?_); refine box_event ?hg (N := 1) ?hd (cs := #[.slice A0_0 l0_0.length c0_0, .slice A0_1 l0_1.length c0_1, .slice A0_2 l0_2.length c0_2]) (t := 26) ?hr ?_; (case hd => rfl); (case hg => rfl); (case hr => first | (go_simp; done) | (go_simp; rfl)); intro gb249 hg w28 hbox hb; have n0_ := Aside0.mk (below_step (by repeat (first | (with_reducible first | exact HB.out | apply below_alloc | apply pw_below_drewN | apply below_drew1) | exact HB.out)) hb); have n1_ := Aside0.mk (hbox); have n2_ := Aside0.mk ((by rw [hg]; exact (below_size (by repeat (first | (with_reducible first | exact HB.out | apply below_alloc | apply pw_below_drewN | apply below_drew1) | exact HB.out))) : w.heap.size ≤ gb249)); have n3_ := Aside0.mk ((by rw [hg]; exact (below_size (by repeat (first | (with_reducible first | exact HB.out | apply below_alloc | apply pw_below_drewN | apply below_drew1) | exact HB.out))) : w.heap.size ≤ gb249)); clear HB; have HB := n0_; have BK249 := n1_; have GW249 := n2_; have GE249 := n3_; clear n0_ n1_ n2_ n3_; clear hb hbox hg; have hcz29_0 : w28.cell? ⟨gb249, 0, none⟩ = some (.slice A0_0 l0_0.length c0_0) := (blk_cell BK249.out 0).trans rfl; have hcz29_1 : w28.cell? ⟨gb249, 1, none⟩ = some (.slice A0_1 l0_1.length c0_1) := (blk_cell BK249.out 1).trans rfl; have hcz29_2 : w28.cell? ⟨gb249, 2, none⟩ = some (.slice A0_2 l0_2.length c0_2) := (blk_cell BK249.out 2).trans rfl; have hfz29_0 := blk_frozen BK249.out 0; have hfz29_1 := blk_frozen BK249.out 1; have hfz29_2 := blk_frozen BK249.out 2))
        have n0_ := Aside0.mk (blk_drew BK249.out)
        have n1_ := Aside0.mk (below_drew1 HB.out)
        clear BK249
        clear HB
        have BK249 := n0_
        have HB := n1_
        clear n0_ n1_
        have p256 : 0 ≤ (0 : Int) := (by omega)
        have q256 : 0 < (l0_2.length : Int) := of_decide_eq_true (by first | (with_reducible assumption) | assumption)
        obtain ⟨ad256, e256, hx256_0⟩ := Kd.at_int HR0_2.out 0 p256 q256
        have hw256_0 := hx256_0
        (try rw [show ((0 : Int)).toNat = 0 from rfl] at hw256_0)
        (try rw [show 0 * 1 = 0 from rfl] at hw256_0)
        (try rw [Addr.add_zero'] at hw256_0)
        cases e256
        have qi256 : (0 < l0_2.length) = True := eq_true (by omega)
        (try rw [show ((0 : Int)).toNat = 0 from rfl] at hx256_0)
        (try rw [Addr.add_zero'] at hx256_0)
        replace hx256_0 := (HB.out.cell (World.block_lt_of_cell? w _ hx256_0)).trans hx256_0
        replace p256 := eq_true p256
        replace q256 := eq_true q256
        refine start_ (n := 13) (S := fun w' => w'.cell? ⟨gb249, 0, none⟩ = some (.slice A0_0 l0_0.length c0_0) ∧ w'.cell? ⟨gb249, 1, none⟩ = some (.slice A0_1 l0_1.length c0_1) ∧ w'.cell? ⟨gb249, 2, none⟩ = some (.slice (some ad256) l0_2.length c0_2) ∧ w'.cell? ad256 = some (.int .u32 (rd l0_2 0))) (ds := []) #[false, false, false, false, false, false, false, false, false, false, false, false, false] (by kernel_rfl) rfl rfl ⟨(blk_cell BK249.out 0).trans rfl, (blk_cell BK249.out 1).trans rfl, (blk_cell BK249.out 2).trans rfl, ((HB.out.cell (World.block_lt_of_cell? w _ hw256_0)).trans hw256_0)⟩ (fun hHeld => ?_); refine with_tabW bazaarref06_bytes.tab9 bazaarref06_bytes.bits9 (fun HT_ HW_ => ?_)
        generalize w28.drew = w30 at BK249 HB hx256_0 hHeld ⊢
        refine pure_ (i := 0) (N := some 49) (v := ?_) (a' := ?_) #[true, false, false, false, false, false, false, false, false, false, false, false, false] rfl rfl (any_of HT_.out (by kernel_rfl)) (fun _ _ _ h => h) (Or.inl ⟨by rfl, ?_⟩) ?_ ?_; rotate_left; (intro w'; go_simp; with_reducible rfl); rotate_left; (simp only [Act.put, List.setIfInBounds_toArray, List.set_cons_zero, List.set_cons_succ, i64_w, i32_w]; rfl)
        refine pure_ (i := 5) (N := some 54) (v := ?_) (a' := ?_) #[true, false, false, false, false, true, false, false, false, false, false, false, false] rfl rfl (any_of HT_.out (by kernel_rfl)) (fun _ _ _ h => h) (Or.inl ⟨by rfl, ?_⟩) ?_ ?_; rotate_left; (intro w'; go_simp; with_reducible rfl); rotate_left; (simp only [Act.put, List.setIfInBounds_toArray, List.set_cons_zero, List.set_cons_succ, i64_w, i32_w]; rfl)
        refine take_ (i := 1) (N := some 50) (v := ?_) (a' := ?_) #[true, true, false, false, false, true, false, false, false, false, false, false, false] rfl rfl (take_ofW HT_.out HW_.out (by kernel_rfl)) (fun _ _ _ h => h) (Or.inl ⟨by rfl, ?_⟩) hHeld ?_ ?_
        rotate_left
        · rintro w' ⟨s0, s1, s2, s3⟩
          go_simp
          with_reducible rfl
        rotate_left
        · simp only [Act.put, List.setIfInBounds_toArray, List.set_cons_zero, List.set_cons_succ, i64_w, i32_w]
          rfl
        refine pure_ (i := 2) (N := some 51) (v := ?_) (a' := ?_) #[true, true, true, false, false, true, false, false, false, false, false, false, false] rfl rfl (any_of HT_.out (by kernel_rfl)) (fun _ _ _ h => h) (Or.inl ⟨by rfl, ?_⟩) ?_ ?_; rotate_left; (intro w'; go_simp; with_reducible rfl); rotate_left; (simp only [Act.put, List.setIfInBounds_toArray, List.set_cons_zero, List.set_cons_succ, i64_w, i32_w]; rfl)
        refine pure_ (i := 3) (N := some 52) (v := ?_) (a' := ?_) #[true, true, true, true, false, true, false, false, false, false, false, false, false] rfl rfl (any_of HT_.out (by kernel_rfl)) (fun _ _ _ h => h) (Or.inl ⟨by rfl, ?_⟩) ?_ ?_; rotate_left; (intro w'; go_simp; with_reducible rfl); rotate_left; (simp only [Act.put, List.setIfInBounds_toArray, List.set_cons_zero, List.set_cons_succ, i64_w, i32_w]; rfl)
        refine take_ (i := 6) (N := some 55) (v := ?_) (a' := ?_) #[true, true, true, true, false, true, true, false, false, false, false, false, false] rfl rfl (take_ofW HT_.out HW_.out (by kernel_rfl)) (fun _ _ _ h => h) (Or.inl ⟨by rfl, ?_⟩) hHeld ?_ ?_
        rotate_left
        · rintro w' ⟨s0, s1, s2, s3⟩
          go_simp
          with_reducible rfl
        rotate_left
        · simp only [Act.put, List.setIfInBounds_toArray, List.set_cons_zero, List.set_cons_succ, i64_w, i32_w]
          rfl
        refine pure_ (i := 7) (N := some 56) (v := ?_) (a' := ?_) #[true, true, true, true, false, true, true, true, false, false, false, false, false] rfl rfl (any_of HT_.out (by kernel_rfl)) (fun _ _ _ h => h) (Or.inl ⟨by rfl, ?_⟩) ?_ ?_; rotate_left; (intro w'; go_simp; with_reducible rfl); rotate_left; (simp only [Act.put, List.setIfInBounds_toArray, List.set_cons_zero, List.set_cons_succ, i64_w, i32_w]; rfl)
        refine take_ (i := 8) (N := some 57) (v := ?_) (a' := ?_) #[true, true, true, true, false, true, true, true, true, false, false, false, false] rfl rfl (take_ofW HT_.out HW_.out (by kernel_rfl)) (fun _ _ _ h => h) (Or.inl ⟨by rfl, ?_⟩) hHeld ?_ ?_
        rotate_left
        · rintro w' ⟨s0, s1, s2, s3⟩
          go_simp
          with_reducible rfl
        rotate_left
        · simp only [Act.put, List.setIfInBounds_toArray, List.set_cons_zero, List.set_cons_succ, i64_w, i32_w]
          rfl
        refine pure_ (i := 9) (N := some 58) (v := ?_) (a' := ?_) #[true, true, true, true, false, true, true, true, true, true, false, false, false] rfl rfl (any_of HT_.out (by kernel_rfl)) (fun _ _ _ h => h) (Or.inl ⟨by rfl, ?_⟩) ?_ ?_; rotate_left; (intro w'; go_simp; with_reducible rfl); rotate_left; (simp only [Act.put, List.setIfInBounds_toArray, List.set_cons_zero, List.set_cons_succ, i64_w, i32_w]; rfl)
        refine one_ (i := 4) (N := some 53) #[true, true, true, true, true, true, true, true, true, true, false, false, false] rfl rfl (one_of HT_.out (by kernel_rfl)) (by decide) (fun K hK => ?_)
        refine goes_ Try.func62 (by kernel_rfl) rfl #[.int .u64 (IntKind.u64.wrap ((l0_2.length : Int))), .int .i64 1] (by rfl) rfl rfl (by (try simp only [List.map_toArray, List.map_cons, List.map_nil]); first | done | rfl | (simp only [List.length_drop, List.length_take]; rfl)) ?_
        with_reducible refine (bazaarref03_Put.calls k (IntKind.u64.wrap ((l0_2.length : Int))) 1 t255 _ A24.out).mono ?_
        rintro e w31 ⟨rfl, hb⟩
        refine ⟨_, rfl, ?_⟩
        have n0_ := Aside0.mk (blk_below (g := gb249) (o := .cells #[.slice A0_0 l0_0.length c0_0, .slice A0_1 l0_1.length c0_1, .slice (some ad256) l0_2.length c0_2] 26 (0, 0)) (by (with_reducible repeat (first | refine blk_drewN ?_ _ | refine blk_drew ?_ | refine blk_alloc ?_ _)); exact BK249.out) hb)
        have n1_ := Aside0.mk (below_step (by repeat (first | (with_reducible first | exact HB.out | apply below_alloc | apply pw_below_drewN | apply below_drew1 | refine below_set ?_ GE249.out) | exact HB.out)) hb)
        clear BK249
        clear HB
        have BK249 := n0_
        have HB := n1_
        clear n0_ n1_
        (try clear hb)
        (try clear hb2)
        (try clear hk)
        (try clear hi)
        refine hK.out _ _ ⟨(blk_cell BK249.out 0).trans rfl, (blk_cell BK249.out 1).trans rfl, (blk_cell BK249.out 2).trans rfl, ((HB.out.cell (World.block_lt_of_cell? w _ hw256_0)).trans hw256_0)⟩ (fun hHeld => ?_)
        clear hK K
        refine norm_ (a' := ?_) ?_ ?_; rotate_left; (show Act.put _ (some 53) _ = _; simp only [Act.put, List.setIfInBounds_toArray, List.set_cons_zero, List.set_cons_succ, i64_w, i32_w]; rfl)
        refine one_ (i := 10) (N := some 59) #[true, true, true, true, true, true, true, true, true, true, true, false, false] rfl rfl (one_of HT_.out (by kernel_rfl)) (by decide) (fun K hK => ?_)
        refine goes_ Try.func62 (by kernel_rfl) rfl #[.int .u64 (IntKind.u64.wrap (rd l0_2 0)), .int .i64 4] (by rfl) rfl rfl (by (try simp only [List.map_toArray, List.map_cons, List.map_nil]); first | done | rfl | (simp only [List.length_drop, List.length_take]; rfl)) ?_
        with_reducible refine (bazaarref03_Put.calls k (IntKind.u64.wrap (rd l0_2 0)) 4 t257 _ A26.out).mono ?_
        rintro e w32 ⟨rfl, hb⟩
        refine ⟨_, rfl, ?_⟩
        have n0_ := Aside0.mk (blk_below (g := gb249) (o := .cells #[.slice A0_0 l0_0.length c0_0, .slice A0_1 l0_1.length c0_1, .slice (some ad256) l0_2.length c0_2] 26 (0, 0)) (by (with_reducible repeat (first | refine blk_drewN ?_ _ | refine blk_drew ?_ | refine blk_alloc ?_ _)); exact BK249.out) hb)
        have n1_ := Aside0.mk (below_step (by repeat (first | (with_reducible first | exact HB.out | apply below_alloc | apply pw_below_drewN | apply below_drew1 | refine below_set ?_ GE249.out) | exact HB.out)) hb)
        clear BK249
        clear HB
        have BK249 := n0_
        have HB := n1_
        clear n0_ n1_
        (try clear hb)
        (try clear hb2)
        (try clear hk)
        (try clear hi)
        refine hK.out _ _ ⟨(blk_cell BK249.out 0).trans rfl, (blk_cell BK249.out 1).trans rfl, (blk_cell BK249.out 2).trans rfl, ((HB.out.cell (World.block_lt_of_cell? w _ hw256_0)).trans hw256_0)⟩ (fun hHeld => ?_)
        clear hK K
        refine norm_ (a' := ?_) ?_ ?_; rotate_left; (show Act.put _ (some 59) _ = _; simp only [Act.put, List.setIfInBounds_toArray, List.set_cons_zero, List.set_cons_succ, i64_w, i32_w]; rfl)
        refine pure_ (i := 11) (N := some 60) (v := ?_) (a' := ?_) #[true, true, true, true, true, true, true, true, true, true, true, true, false] rfl rfl (any_of HT_.out (by kernel_rfl)) (fun _ _ _ h => h) (Or.inl ⟨by rfl, ?_⟩) ?_ ?_; rotate_left; (intro w'; go_simp; with_reducible rfl); rotate_left; (simp only [Act.put, List.setIfInBounds_toArray, List.set_cons_zero, List.set_cons_succ, i64_w, i32_w]; rfl)
        refine pure_ (i := 12) (N := some 6) (v := ?_) (a' := ?_) #[true, true, true, true, true, true, true, true, true, true, true, true, true] rfl rfl (any_of HT_.out (by kernel_rfl)) (fun _ _ _ h => h) (Or.inl ⟨by rfl, ?_⟩) ?_ ?_; rotate_left; (intro w'; go_simp; with_reducible rfl); rotate_left; (simp only [Act.put, List.setIfInBounds_toArray, List.set_cons_zero, List.set_cons_succ, i64_w, i32_w]; rfl)
        refine done_ (done_of HT_.out (by kernel_rfl)) ?_
        try go_wp2
        go_loopg [6, 7] k (fun kq v6 v7 w' => ∃ (x6_1 : ByteArray) (x7_1 : Int), v6 = .string x6_1 ∧ v7 = .int .i64 x7_1 ∧ Aside0 (bazaarref06_bytes.l1 kq x6_1 x7_1 l0_0 l0_1 l0_2 = some r) ∧ Aside0 (kq ≤ k) ∧ Aside0 (w'.heap[gb249]? = some (.cells #[(.slice A0_0 l0_0.length c0_0), (.slice A0_1 l0_1.length c0_1), (.slice (some ad256) l0_2.length c0_2)] 26 (0, 0))) ∧ Aside0 (Below w.heap.size w w'))
        case atStart => exact ⟨(t255 ++ t257), (0), (by first | rfl | (simp; done) | (simp [*]; done)), (by first | rfl | (simp; done) | (simp [*]; done)), H', ⟨Nat.le_refl _⟩, ⟨by (with_reducible repeat (first | refine blk_drewN ?_ _ | refine blk_drew ?_ | refine blk_alloc ?_ _)); exact BK249.out⟩, ⟨by repeat (first | (with_reducible first | exact HB.out | apply below_alloc | apply pw_below_drewN | apply below_drew1 | refine below_set ?_ GE249.out) | exact HB.out)⟩⟩
        case round =>
          clear H'
          try clear c1
          try clear c2
          try clear c2b0
          try clear c2b1
          try clear c2b2
          try clear p2
          try clear q2
          try clear hx2
          try clear qi2
          try clear c3
          try clear c6
          try clear p6
          try clear c7
          try clear c7b0
          try clear c8
          try clear c8b0
          try clear c10
          try clear c10b0
          try clear c10b1
          try clear c10b2
          try clear c11
          try clear c11b0
          try clear c11b1
          try clear c11b2
          try clear c13
          try clear c13b0
          try clear c13b1
          try clear c13b2
          try clear c14
          try clear c14b0
          try clear c14b1
          try clear c14b2
          try clear c17
          try clear c25
          try clear c25b0
          try clear c25b1
          try clear p25
          try clear q25
          try clear hx25
          try clear qi25
          try clear c27
          try clear c27b0
          try clear c27b1
          try clear c27b2
          try clear hcz15_0
          try clear hcz15_1
          try clear hcz15_2
          try clear hcz18_0
          try clear hcz18_1
          try clear hcz23_0
          try clear hcz23_1
          try clear hcz23_2
          try clear hcz29_0
          try clear hcz29_1
          try clear hcz29_2
          try clear hcz5_0
          try clear hcz5_1
          try clear hcz5_2
          try clear hfz15_0
          try clear hfz15_1
          try clear hfz15_2
          try clear hfz18_0
          try clear hfz18_1
          try clear hfz23_0
          try clear hfz23_1
          try clear hfz23_2
          try clear hfz29_0
          try clear hfz29_1
          try clear hfz29_2
          try clear hfz5_0
          try clear hfz5_1
          try clear hfz5_2
          try clear hx251_0
          try clear hx251_1
          try clear hx256_0
          try clear p2
          try clear p251
          try clear p256
          try clear q251
          try clear q256
          obtain ⟨x6_1, x7_1, rfl, rfl, HA, HK1, BK249, HB⟩ := hrel
          cases gk with
          | zero => exact absurd HA.out (by simp [bazaarref06_bytes.l1])
          | succ k1 =>
            have H := HA.out
            clear HA
            simp only [bazaarref06_bytes.l1] at H
            by_cases c33 : x7_1 < (l0_1.length : Int)
            · rw [if_pos c33] at H
              have c33b0 : decide (x7_1 < (l0_1.length : Int)) = true := decide_eq_true c33
              clear c33
              by_cases c34 : 0 ≤ x7_1
              · rw [if_pos c34] at H
                have c34b0 : decide (0 ≤ x7_1) = true := decide_eq_true c34
                clear c34
                replace H := Option.bind_eq_some_iff.mp H
                obtain ⟨t259, A350, H⟩ := H
                replace H : (if x6_1.size + t259.size ≤ 9223372036854775807 then (if (x6_1 ++ t259).size + (rdOf ByteArray.empty l0_1 x7_1).size ≤ 9223372036854775807 then (if 0 ≤ (wrap64 (x7_1 + 1)) then (if (wrap64 (x7_1 + 1)) < (l0_2.length : Int) then ((bazaarref03_Put.f k1 (IntKind.u64.wrap (rd l0_2 (wrap64 (x7_1 + 1)))) 4).bind fun t262 => (if ((x6_1 ++ t259) ++ (rdOf ByteArray.empty l0_1 x7_1)).size + t262.size ≤ 9223372036854775807 then (bazaarref06_bytes.l1 k1 (((x6_1 ++ t259) ++ (rdOf ByteArray.empty l0_1 x7_1)) ++ t262) (wrap64 (x7_1 + 1)) l0_0 l0_1 l0_2) else (none))) else (none)) else (none)) else (none)) else (none)) = some r := H
                have A35 := Aside0.mk A350
                clear A350
                by_cases c36 : x6_1.size + t259.size ≤ 9223372036854775807
                · rw [if_pos c36] at H
                  have c36b0 := eq_true c36
                  have c36b1 : decide (x6_1.size + t259.size ≤ 9223372036854775807) = true := decide_eq_true c36
                  try have c36b2 : (9223372036854775807 < x6_1.size + t259.size) = False := eq_false (Nat.not_lt.2 c36)
                  by_cases c37 : (x6_1 ++ t259).size + (rdOf ByteArray.empty l0_1 x7_1).size ≤ 9223372036854775807
                  · rw [if_pos c37] at H
                    have c37b0 := eq_true c37
                    have c37b1 : decide ((x6_1 ++ t259).size + (rdOf ByteArray.empty l0_1 x7_1).size ≤ 9223372036854775807) = true := decide_eq_true c37
                    try have c37b2 : (9223372036854775807 < (x6_1 ++ t259).size + (rdOf ByteArray.empty l0_1 x7_1).size) = False := eq_false (Nat.not_lt.2 c37)
                    have c37b3 := c37b2
                    simp only [ByteArray.size_append] at c37b3
                    obtain ⟨ji38, hji38⟩ : ∃ j_ : Int, (wrap64 (x7_1 + 1)) = j_ := ⟨_, rfl⟩
                    replace H : (if 0 ≤ (ji38) then (if (ji38) < (l0_2.length : Int) then ((bazaarref03_Put.f k1 (IntKind.u64.wrap (rd l0_2 (ji38))) 4).bind fun t262 => (if ((x6_1 ++ t259) ++ (rdOf ByteArray.empty l0_1 x7_1)).size + t262.size ≤ 9223372036854775807 then (bazaarref06_bytes.l1 k1 (((x6_1 ++ t259) ++ (rdOf ByteArray.empty l0_1 x7_1)) ++ t262) ji38 l0_0 l0_1 l0_2) else (none))) else (none)) else (none)) = some r := by first | (rw [hji38] at H; exact H) | (simp only [hji38] at H ⊢; exact H)
                    (try rw [hji38] at A35)
                    have hji38w : (IntKind.i64.wrap (x7_1 + 1)) = ji38 := (i64_w _).trans hji38
                    by_cases c39 : 0 ≤ (ji38)
                    · rw [if_pos c39] at H
                      have c39b0 : decide (0 ≤ (ji38)) = true := decide_eq_true c39
                      clear c39
                      by_cases c40 : (ji38) < (l0_2.length : Int)
                      · rw [if_pos c40] at H
                        have c40b0 : decide ((ji38) < (l0_2.length : Int)) = true := decide_eq_true c40
                        clear c40
                        replace H := Option.bind_eq_some_iff.mp H
                        obtain ⟨t262, A410, H⟩ := H
                        replace H : (if ((x6_1 ++ t259) ++ (rdOf ByteArray.empty l0_1 x7_1)).size + t262.size ≤ 9223372036854775807 then (bazaarref06_bytes.l1 k1 (((x6_1 ++ t259) ++ (rdOf ByteArray.empty l0_1 x7_1)) ++ t262) ji38 l0_0 l0_1 l0_2) else (none)) = some r := H
                        have A41 := Aside0.mk A410
                        clear A410
                        by_cases c42 : ((x6_1 ++ t259) ++ (rdOf ByteArray.empty l0_1 x7_1)).size + t262.size ≤ 9223372036854775807
                        · rw [if_pos c42] at H
                          have c42b0 := eq_true c42
                          have c42b1 : decide (((x6_1 ++ t259) ++ (rdOf ByteArray.empty l0_1 x7_1)).size + t262.size ≤ 9223372036854775807) = true := decide_eq_true c42
                          try have c42b2 : (9223372036854775807 < ((x6_1 ++ t259) ++ (rdOf ByteArray.empty l0_1 x7_1)).size + t262.size) = False := eq_false (Nat.not_lt.2 c42)
                          have c42b3 := c42b2
                          simp only [ByteArray.size_append] at c42b3
                          have H' := Aside0.mk H
                          clear H
                          have hcz43_0 : wr.cell? ⟨gb249, 0, none⟩ = some (.slice A0_0 l0_0.length c0_0) := (blk_cell BK249.out 0).trans rfl
                          have hcz43_1 : wr.cell? ⟨gb249, 1, none⟩ = some (.slice A0_1 l0_1.length c0_1) := (blk_cell BK249.out 1).trans rfl
                          have hcz43_2 : wr.cell? ⟨gb249, 2, none⟩ = some (.slice (some ad256) l0_2.length c0_2) := (blk_cell BK249.out 2).trans rfl
                          have hfz43_0 := blk_frozen BK249.out 0
                          have hfz43_1 := blk_frozen BK249.out 1
                          have hfz43_2 := blk_frozen BK249.out 2
                          try go_wp2
                          have n0_ := Aside0.mk (blk_drew BK249.out)
                          have n1_ := Aside0.mk (below_drew1 HB.out)
                          clear BK249
                          clear HB
                          have BK249 := n0_
                          have HB := n1_
                          clear n0_ n1_
                          have p258 : 0 ≤ (x7_1 : Int) := of_decide_eq_true (by first | (with_reducible assumption) | assumption)
                          have q258 : x7_1 < (l0_1.length : Int) := of_decide_eq_true (by first | (with_reducible assumption) | assumption)
                          obtain ⟨ad258, e258, hx258_0⟩ := Kd.at_string HR0_1.out x7_1 p258 q258
                          have hw258_0 := hx258_0
                          cases e258
                          replace hx258_0 := (HB.out.cell (World.block_lt_of_cell? w _ hx258_0)).trans hx258_0
                          replace p258 := eq_true p258
                          replace q258 := eq_true q258
                          have p260 : 0 ≤ (x7_1 : Int) := of_decide_eq_true (by first | (with_reducible assumption) | assumption)
                          have q260 : x7_1 < (l0_1.length : Int) := of_decide_eq_true (by first | (with_reducible assumption) | assumption)
                          obtain ⟨ad260, e260, hx260_0⟩ := Kd.at_string HR0_1.out x7_1 p260 q260
                          have hw260_0 := hx260_0
                          obtain rfl : ad258 = ad260 := (by injection e260)
                          replace hx260_0 := (HB.out.cell (World.block_lt_of_cell? w _ hx260_0)).trans hx260_0
                          replace p260 := eq_true p260
                          replace q260 := eq_true q260
                          have p261 : 0 ≤ ((ji38) : Int) := of_decide_eq_true (by first | (with_reducible assumption) | assumption)
                          have q261 : (ji38) < (l0_2.length : Int) := of_decide_eq_true (by first | (with_reducible assumption) | assumption)
                          obtain ⟨ad261, e261, hx261_0⟩ := Kd.at_int HR0_2.out (ji38) p261 q261
                          have hw261_0 := hx261_0
                          obtain rfl : ad256 = ad261 := (by injection e261)
                          replace hx261_0 := (HB.out.cell (World.block_lt_of_cell? w _ hx261_0)).trans hx261_0
                          replace p261 := eq_true p261
                          replace q261 := eq_true q261
                          refine start_ (n := 26) (S := fun w' => w'.cell? ⟨gb249, 0, none⟩ = some (.slice A0_0 l0_0.length c0_0) ∧ w'.cell? ⟨gb249, 1, none⟩ = some (.slice (some ad258) l0_1.length c0_1) ∧ w'.cell? ⟨gb249, 2, none⟩ = some (.slice (some ad256) l0_2.length c0_2) ∧ w'.cell? (ad258.add (x7_1).toNat) = some (.string (rdOf ByteArray.empty l0_1 x7_1)) ∧ w'.cell? (ad258.add (x7_1).toNat) = some (.string (rdOf ByteArray.empty l0_1 x7_1)) ∧ w'.cell? (ad256.add ((ji38)).toNat) = some (.int .u32 (rd l0_2 (ji38)))) (ds := []) #[false, false, false, false, false, false, false, false, false, false, false, false, false, false, false, false, false, false, false, false, false, false, false, false, false, false] (by kernel_rfl) rfl rfl ⟨(blk_cell BK249.out 0).trans rfl, (blk_cell BK249.out 1).trans rfl, (blk_cell BK249.out 2).trans rfl, ((HB.out.cell (World.block_lt_of_cell? w _ hw258_0)).trans hw258_0), ((HB.out.cell (World.block_lt_of_cell? w _ hw260_0)).trans hw260_0), ((HB.out.cell (World.block_lt_of_cell? w _ hw261_0)).trans hw261_0)⟩ (fun hHeld => ?_); refine with_tabW bazaarref06_bytes.tab13 bazaarref06_bytes.bits13 (fun HT_ HW_ => ?_)
                          generalize wr.drew = w44 at BK249 HB hx258_0 hx260_0 hx261_0 hHeld ⊢
                          refine pure_ (i := 0) (N := some 68) (v := ?_) (a' := ?_) #[true, false, false, false, false, false, false, false, false, false, false, false, false, false, false, false, false, false, false, false, false, false, false, false, false, false] rfl rfl (any_of HT_.out (by kernel_rfl)) (fun _ _ _ h => h) (Or.inl ⟨by rfl, ?_⟩) ?_ ?_; rotate_left; (intro w'; go_simp; with_reducible rfl); rotate_left; (simp only [Act.put, List.setIfInBounds_toArray, List.set_cons_zero, List.set_cons_succ, i64_w, i32_w]; rfl)
                          refine pure_ (i := 1) (N := some 69) (v := ?_) (a' := ?_) #[true, true, false, false, false, false, false, false, false, false, false, false, false, false, false, false, false, false, false, false, false, false, false, false, false, false] rfl rfl (any_of HT_.out (by kernel_rfl)) (fun _ _ _ h => h) (Or.inl ⟨by rfl, ?_⟩) ?_ ?_; rotate_left; (intro w'; go_simp; with_reducible rfl); rotate_left; (simp only [Act.put, List.setIfInBounds_toArray, List.set_cons_zero, List.set_cons_succ, i64_w, i32_w]; rfl)
                          refine pure_ (i := 3) (N := some 71) (v := ?_) (a' := ?_) #[true, true, false, true, false, false, false, false, false, false, false, false, false, false, false, false, false, false, false, false, false, false, false, false, false, false] rfl rfl (any_of HT_.out (by kernel_rfl)) (fun _ _ _ h => h) (Or.inl ⟨by rfl, ?_⟩) ?_ ?_; rotate_left; (intro w'; go_simp; with_reducible rfl); rotate_left; (simp only [Act.put, List.setIfInBounds_toArray, List.set_cons_zero, List.set_cons_succ, i64_w, i32_w]; rfl)
                          refine pure_ (i := 10) (N := some 78) (v := ?_) (a' := ?_) #[true, true, false, true, false, false, false, false, false, false, true, false, false, false, false, false, false, false, false, false, false, false, false, false, false, false] rfl rfl (any_of HT_.out (by kernel_rfl)) (fun _ _ _ h => h) (Or.inl ⟨by rfl, ?_⟩) ?_ ?_; rotate_left; (intro w'; go_simp; with_reducible rfl); rotate_left; (simp only [Act.put, List.setIfInBounds_toArray, List.set_cons_zero, List.set_cons_succ, i64_w, i32_w]; rfl)
                          refine pure_ (i := 12) (N := some 80) (v := ?_) (a' := ?_) #[true, true, false, true, false, false, false, false, false, false, true, false, true, false, false, false, false, false, false, false, false, false, false, false, false, false] rfl rfl (any_of HT_.out (by kernel_rfl)) (fun _ _ _ h => h) (Or.inl ⟨by rfl, ?_⟩) ?_ ?_; rotate_left; (intro w'; go_simp; with_reducible rfl); rotate_left; (simp only [Act.put, List.setIfInBounds_toArray, List.set_cons_zero, List.set_cons_succ, i64_w, i32_w]; rfl)
                          refine pure_ (i := 16) (N := some 84) (v := ?_) (a' := ?_) #[true, true, false, true, false, false, false, false, false, false, true, false, true, false, false, false, true, false, false, false, false, false, false, false, false, false] rfl rfl (any_of HT_.out (by kernel_rfl)) (fun _ _ _ h => h) (Or.inl ⟨by rfl, ?_⟩) ?_ ?_; rotate_left; (intro w'; go_simp; with_reducible rfl); rotate_left; (simp only [Act.put, List.setIfInBounds_toArray, List.set_cons_zero, List.set_cons_succ, i64_w, i32_w]; rfl)
                          refine pure_ (i := 18) (N := some 86) (v := ?_) (a' := ?_) #[true, true, false, true, false, false, false, false, false, false, true, false, true, false, false, false, true, false, true, false, false, false, false, false, false, false] rfl rfl (any_of HT_.out (by kernel_rfl)) (fun _ _ _ h => h) (Or.inl ⟨by rfl, ?_⟩) ?_ ?_; rotate_left; (intro w'; go_simp; with_reducible rfl); rotate_left; (simp only [Act.put, List.setIfInBounds_toArray, List.set_cons_zero, List.set_cons_succ, i64_w, i32_w]; rfl)
                          refine pure_ (i := 19) (N := some 87) (v := ?_) (a' := ?_) #[true, true, false, true, false, false, false, false, false, false, true, false, true, false, false, false, true, false, true, true, false, false, false, false, false, false] rfl rfl (any_of HT_.out (by kernel_rfl)) (fun _ _ _ h => h) (Or.inl ⟨by rfl, ?_⟩) ?_ ?_; rotate_left; (intro w'; go_simp; with_reducible rfl); rotate_left; (simp only [Act.put, List.setIfInBounds_toArray, List.set_cons_zero, List.set_cons_succ, i64_w, i32_w]; rfl)
                          refine take_ (i := 2) (N := some 70) (v := ?_) (a' := ?_) #[true, true, true, true, false, false, false, false, false, false, true, false, true, false, false, false, true, false, true, true, false, false, false, false, false, false] rfl rfl (take_ofW HT_.out HW_.out (by kernel_rfl)) (fun _ _ _ h => h) (Or.inl ⟨by rfl, ?_⟩) hHeld ?_ ?_
                          rotate_left
                          · rintro w' ⟨s0, s1, s2, s3, s4, s5⟩
                            go_simp
                            with_reducible rfl
                          rotate_left
                          · simp only [Act.put, List.setIfInBounds_toArray, List.set_cons_zero, List.set_cons_succ, i64_w, i32_w]
                            rfl
                          refine pure_ (i := 4) (N := some 72) (v := ?_) (a' := ?_) #[true, true, true, true, true, false, false, false, false, false, true, false, true, false, false, false, true, false, true, true, false, false, false, false, false, false] rfl rfl (any_of HT_.out (by kernel_rfl)) (fun _ _ _ h => h) (Or.inl ⟨by rfl, ?_⟩) ?_ ?_; rotate_left; (intro w'; go_simp; with_reducible rfl); rotate_left; (simp only [Act.put, List.setIfInBounds_toArray, List.set_cons_zero, List.set_cons_succ, i64_w, i32_w]; rfl)
                          refine take_ (i := 5) (N := some 73) (v := ?_) (a' := ?_) #[true, true, true, true, true, true, false, false, false, false, true, false, true, false, false, false, true, false, true, true, false, false, false, false, false, false] rfl rfl (take_ofW HT_.out HW_.out (by kernel_rfl)) (fun _ _ _ h => h) (Or.inl ⟨by rfl, ?_⟩) hHeld ?_ ?_
                          rotate_left
                          · rintro w' ⟨s0, s1, s2, s3, s4, s5⟩
                            go_simp
                            with_reducible rfl
                          rotate_left
                          · simp only [Act.put, List.setIfInBounds_toArray, List.set_cons_zero, List.set_cons_succ, i64_w, i32_w]
                            rfl
                          refine pure_ (i := 6) (N := some 74) (v := ?_) (a' := ?_) #[true, true, true, true, true, true, true, false, false, false, true, false, true, false, false, false, true, false, true, true, false, false, false, false, false, false] rfl rfl (any_of HT_.out (by kernel_rfl)) (fun _ _ _ h => h) (Or.inl ⟨by rfl, ?_⟩) ?_ ?_; rotate_left; (intro w'; go_simp; with_reducible rfl); rotate_left; (simp only [Act.put, List.setIfInBounds_toArray, List.set_cons_zero, List.set_cons_succ, i64_w, i32_w]; rfl)
                          refine pure_ (i := 7) (N := some 75) (v := ?_) (a' := ?_) #[true, true, true, true, true, true, true, true, false, false, true, false, true, false, false, false, true, false, true, true, false, false, false, false, false, false] rfl rfl (any_of HT_.out (by kernel_rfl)) (fun _ _ _ h => h) (Or.inl ⟨by rfl, ?_⟩) ?_ ?_; rotate_left; (intro w'; go_simp; with_reducible rfl); rotate_left; (simp only [Act.put, List.setIfInBounds_toArray, List.set_cons_zero, List.set_cons_succ, i64_w, i32_w]; rfl)
                          refine take_ (i := 11) (N := some 79) (v := ?_) (a' := ?_) #[true, true, true, true, true, true, true, true, false, false, true, true, true, false, false, false, true, false, true, true, false, false, false, false, false, false] rfl rfl (take_ofW HT_.out HW_.out (by kernel_rfl)) (fun _ _ _ h => h) (Or.inl ⟨by rfl, ?_⟩) hHeld ?_ ?_
                          rotate_left
                          · rintro w' ⟨s0, s1, s2, s3, s4, s5⟩
                            go_simp
                            with_reducible rfl
                          rotate_left
                          · simp only [Act.put, List.setIfInBounds_toArray, List.set_cons_zero, List.set_cons_succ, i64_w, i32_w]
                            rfl
                          refine pure_ (i := 13) (N := some 81) (v := ?_) (a' := ?_) #[true, true, true, true, true, true, true, true, false, false, true, true, true, true, false, false, true, false, true, true, false, false, false, false, false, false] rfl rfl (any_of HT_.out (by kernel_rfl)) (fun _ _ _ h => h) (Or.inl ⟨by rfl, ?_⟩) ?_ ?_; rotate_left; (intro w'; go_simp; with_reducible rfl); rotate_left; (simp only [Act.put, List.setIfInBounds_toArray, List.set_cons_zero, List.set_cons_succ, i64_w, i32_w]; rfl)
                          refine take_ (i := 14) (N := some 82) (v := ?_) (a' := ?_) #[true, true, true, true, true, true, true, true, false, false, true, true, true, true, true, false, true, false, true, true, false, false, false, false, false, false] rfl rfl (take_ofW HT_.out HW_.out (by kernel_rfl)) (fun _ _ _ h => h) (Or.inl ⟨by rfl, ?_⟩) hHeld ?_ ?_
                          rotate_left
                          · rintro w' ⟨s0, s1, s2, s3, s4, s5⟩
                            go_simp
                            with_reducible rfl
                          rotate_left
                          · simp only [Act.put, List.setIfInBounds_toArray, List.set_cons_zero, List.set_cons_succ, i64_w, i32_w]
                            rfl
                          refine take_ (i := 17) (N := some 85) (v := ?_) (a' := ?_) #[true, true, true, true, true, true, true, true, false, false, true, true, true, true, true, false, true, true, true, true, false, false, false, false, false, false] rfl rfl (take_ofW HT_.out HW_.out (by kernel_rfl)) (fun _ _ _ h => h) (Or.inl ⟨by rfl, ?_⟩) hHeld ?_ ?_
                          rotate_left
                          · rintro w' ⟨s0, s1, s2, s3, s4, s5⟩
                            go_simp
                            with_reducible rfl
                          rotate_left
                          · simp only [Act.put, List.setIfInBounds_toArray, List.set_cons_zero, List.set_cons_succ, i64_w, i32_w]
                            rfl
                          refine pure_ (i := 20) (N := some 88) (v := ?_) (a' := ?_) #[true, true, true, true, true, true, true, true, false, false, true, true, true, true, true, false, true, true, true, true, true, false, false, false, false, false] rfl rfl (any_of HT_.out (by kernel_rfl)) (fun _ _ _ h => h) (Or.inl ⟨by rfl, ?_⟩) ?_ ?_; rotate_left; (intro w'; go_simp; with_reducible rfl); rotate_left; (simp only [Act.put, List.setIfInBounds_toArray, List.set_cons_zero, List.set_cons_succ, i64_w, i32_w]; rfl)
                          refine take_ (i := 21) (N := some 89) (v := ?_) (a' := ?_) #[true, true, true, true, true, true, true, true, false, false, true, true, true, true, true, false, true, true, true, true, true, true, false, false, false, false] rfl rfl (take_ofW HT_.out HW_.out (by kernel_rfl)) (fun _ _ _ h => h) (Or.inl ⟨by rfl, ?_⟩) hHeld ?_ ?_
                          rotate_left
                          · rintro w' ⟨s0, s1, s2, s3, s4, s5⟩
                            go_simp
                            with_reducible rfl
                          rotate_left
                          · simp only [Act.put, List.setIfInBounds_toArray, List.set_cons_zero, List.set_cons_succ, i64_w, i32_w]
                            rfl
                          refine pure_ (i := 22) (N := some 90) (v := ?_) (a' := ?_) #[true, true, true, true, true, true, true, true, false, false, true, true, true, true, true, false, true, true, true, true, true, true, true, false, false, false] rfl rfl (any_of HT_.out (by kernel_rfl)) (fun _ _ _ h => h) (Or.inl ⟨by rfl, ?_⟩) ?_ ?_; rotate_left; (intro w'; go_simp; with_reducible rfl); rotate_left; (simp only [Act.put, List.setIfInBounds_toArray, List.set_cons_zero, List.set_cons_succ, i64_w, i32_w]; rfl)
                          refine one_ (i := 8) (N := some 76) #[true, true, true, true, true, true, true, true, true, false, true, true, true, true, true, false, true, true, true, true, true, true, true, false, false, false] rfl rfl (one_of HT_.out (by kernel_rfl)) (by decide) (fun K hK => ?_)
                          refine goes_ Try.func62 (by kernel_rfl) rfl #[.int .u64 (IntKind.u64.wrap (((rdOf ByteArray.empty l0_1 x7_1).size : Int))), .int .i64 1] (by rfl) rfl rfl (by (try simp only [List.map_toArray, List.map_cons, List.map_nil]); first | done | rfl | (simp only [List.length_drop, List.length_take]; rfl)) ?_
                          with_reducible refine (bazaarref03_Put.calls k1 (IntKind.u64.wrap (((rdOf ByteArray.empty l0_1 x7_1).size : Int))) 1 t259 _ A35.out).mono ?_
                          rintro e w45 ⟨rfl, hb⟩
                          refine ⟨_, rfl, ?_⟩
                          have n0_ := Aside0.mk (blk_below (g := gb249) (o := .cells #[.slice A0_0 l0_0.length c0_0, .slice (some ad258) l0_1.length c0_1, .slice (some ad256) l0_2.length c0_2] 26 (0, 0)) (by (with_reducible repeat (first | refine blk_drewN ?_ _ | refine blk_drew ?_ | refine blk_alloc ?_ _)); exact BK249.out) hb)
                          have n1_ := Aside0.mk (below_step (by repeat (first | (with_reducible first | exact HB.out | apply below_alloc | apply pw_below_drewN | apply below_drew1 | refine below_set ?_ GE249.out) | exact HB.out)) hb)
                          clear BK249
                          clear HB
                          have BK249 := n0_
                          have HB := n1_
                          clear n0_ n1_
                          (try clear hb)
                          (try clear hb2)
                          (try clear hk)
                          (try clear hi)
                          refine hK.out _ _ ⟨(blk_cell BK249.out 0).trans rfl, (blk_cell BK249.out 1).trans rfl, (blk_cell BK249.out 2).trans rfl, ((HB.out.cell (World.block_lt_of_cell? w _ hw258_0)).trans hw258_0), ((HB.out.cell (World.block_lt_of_cell? w _ hw260_0)).trans hw260_0), ((HB.out.cell (World.block_lt_of_cell? w _ hw261_0)).trans hw261_0)⟩ (fun hHeld => ?_)
                          clear hK K
                          refine norm_ (a' := ?_) ?_ ?_; rotate_left; (show Act.put _ (some 76) _ = _; simp only [Act.put, List.setIfInBounds_toArray, List.set_cons_zero, List.set_cons_succ, i64_w, i32_w]; rfl)
                          refine pure_ (i := 9) (N := some 77) (v := ?_) (a' := ?_) #[true, true, true, true, true, true, true, true, true, true, true, true, true, true, true, false, true, true, true, true, true, true, true, false, false, false] rfl rfl (any_of HT_.out (by kernel_rfl)) (fun _ _ _ h => h) (Or.inl ⟨by rfl, ?_⟩) ?_ ?_; rotate_left; (intro w'; go_simp; with_reducible rfl); rotate_left; (simp only [Act.put, List.setIfInBounds_toArray, List.set_cons_zero, List.set_cons_succ, i64_w, i32_w]; rfl)
                          refine pure_ (i := 15) (N := some 83) (v := ?_) (a' := ?_) #[true, true, true, true, true, true, true, true, true, true, true, true, true, true, true, true, true, true, true, true, true, true, true, false, false, false] rfl rfl (any_of HT_.out (by kernel_rfl)) (fun _ _ _ h => h) (Or.inl ⟨by rfl, ?_⟩) ?_ ?_; rotate_left; (intro w'; go_simp; with_reducible rfl); rotate_left; (simp only [Act.put, List.setIfInBounds_toArray, List.set_cons_zero, List.set_cons_succ, i64_w, i32_w]; rfl)
                          refine one_ (i := 23) (N := some 91) #[true, true, true, true, true, true, true, true, true, true, true, true, true, true, true, true, true, true, true, true, true, true, true, true, false, false] rfl rfl (one_of HT_.out (by kernel_rfl)) (by decide) (fun K hK => ?_)
                          refine goes_ Try.func62 (by kernel_rfl) rfl #[.int .u64 (IntKind.u64.wrap (rd l0_2 (ji38))), .int .i64 4] (by rfl) rfl rfl (by (try simp only [List.map_toArray, List.map_cons, List.map_nil]); first | done | (simp only [hji38]; rfl) | rfl | (simp only [List.length_drop, List.length_take]; rfl)) ?_
                          with_reducible refine (bazaarref03_Put.calls k1 (IntKind.u64.wrap (rd l0_2 (ji38))) 4 t262 _ A41.out).mono ?_
                          rintro e w46 ⟨rfl, hb⟩
                          refine ⟨_, rfl, ?_⟩
                          have n0_ := Aside0.mk (blk_below (g := gb249) (o := .cells #[.slice A0_0 l0_0.length c0_0, .slice (some ad258) l0_1.length c0_1, .slice (some ad256) l0_2.length c0_2] 26 (0, 0)) (by (with_reducible repeat (first | refine blk_drewN ?_ _ | refine blk_drew ?_ | refine blk_alloc ?_ _)); exact BK249.out) hb)
                          have n1_ := Aside0.mk (below_step (by repeat (first | (with_reducible first | exact HB.out | apply below_alloc | apply pw_below_drewN | apply below_drew1 | refine below_set ?_ GE249.out) | exact HB.out)) hb)
                          clear BK249
                          clear HB
                          have BK249 := n0_
                          have HB := n1_
                          clear n0_ n1_
                          (try clear hb)
                          (try clear hb2)
                          (try clear hk)
                          (try clear hi)
                          refine hK.out _ _ ⟨(blk_cell BK249.out 0).trans rfl, (blk_cell BK249.out 1).trans rfl, (blk_cell BK249.out 2).trans rfl, ((HB.out.cell (World.block_lt_of_cell? w _ hw258_0)).trans hw258_0), ((HB.out.cell (World.block_lt_of_cell? w _ hw260_0)).trans hw260_0), ((HB.out.cell (World.block_lt_of_cell? w _ hw261_0)).trans hw261_0)⟩ (fun hHeld => ?_)
                          clear hK K
                          refine norm_ (a' := ?_) ?_ ?_; rotate_left; (show Act.put _ (some 91) _ = _; simp only [Act.put, List.setIfInBounds_toArray, List.set_cons_zero, List.set_cons_succ, i64_w, i32_w]; rfl)
                          refine pure_ (i := 24) (N := some 92) (v := ?_) (a' := ?_) #[true, true, true, true, true, true, true, true, true, true, true, true, true, true, true, true, true, true, true, true, true, true, true, true, true, false] rfl rfl (any_of HT_.out (by kernel_rfl)) (fun _ _ _ h => h) (Or.inl ⟨by rfl, ?_⟩) ?_ ?_; rotate_left; (intro w'; go_simp; with_reducible rfl); rotate_left; (simp only [Act.put, List.setIfInBounds_toArray, List.set_cons_zero, List.set_cons_succ, i64_w, i32_w]; rfl)
                          refine pure_ (i := 25) (N := some 6) (v := ?_) (a' := ?_) #[true, true, true, true, true, true, true, true, true, true, true, true, true, true, true, true, true, true, true, true, true, true, true, true, true, true] rfl rfl (any_of HT_.out (by kernel_rfl)) (fun _ _ _ h => h) (Or.inl ⟨by rfl, ?_⟩) ?_ ?_; rotate_left; (intro w'; go_simp; with_reducible rfl); rotate_left; (simp only [Act.put, List.setIfInBounds_toArray, List.set_cons_zero, List.set_cons_succ, i64_w, i32_w]; rfl)
                          refine done_ (done_of HT_.out (by kernel_rfl)) ?_
                          try go_wp2
                          go_roundg k1
                          case measure => have := HK1.out; omega
                          case rel => exact ⟨(((x6_1 ++ t259) ++ (rdOf ByteArray.empty l0_1 x7_1)) ++ t262), (ji38), (by first | rfl | (simp; done) | (simp [*]; done)), (by first | rfl | (simp; done) | (simp only [← hji38] <;> (first | rfl | simp)) | (simp [*]; done)), H', ⟨by have := HK1.out; omega⟩, ⟨by (with_reducible repeat (first | refine blk_drewN ?_ _ | refine blk_drew ?_ | refine blk_alloc ?_ _)); exact BK249.out⟩, ⟨by repeat (first | (with_reducible first | exact HB.out | apply below_alloc | apply pw_below_drewN | apply below_drew1 | refine below_set ?_ GE249.out) | exact HB.out)⟩⟩
                        · rw [if_neg c42] at H
                          exact absurd H (by simp)
                      · rw [if_neg c40] at H
                        exact absurd H (by simp)
                    · rw [if_neg c39] at H
                      exact absurd H (by simp)
                  · rw [if_neg c37] at H
                    exact absurd H (by simp)
                · rw [if_neg c36] at H
                  exact absurd H (by simp)
              · rw [if_neg c34] at H
                exact absurd H (by simp)
            · rw [if_neg c33] at H
              have c33b0 : decide (x7_1 < (l0_1.length : Int)) = false := decide_eq_false c33
              clear c33
              obtain rfl := Option.some.inj H
              have hcz47_0 : wr.cell? ⟨gb249, 0, none⟩ = some (.slice A0_0 l0_0.length c0_0) := (blk_cell BK249.out 0).trans rfl
              have hcz47_1 : wr.cell? ⟨gb249, 1, none⟩ = some (.slice A0_1 l0_1.length c0_1) := (blk_cell BK249.out 1).trans rfl
              have hcz47_2 : wr.cell? ⟨gb249, 2, none⟩ = some (.slice (some ad256) l0_2.length c0_2) := (blk_cell BK249.out 2).trans rfl
              have hfz47_0 := blk_frozen BK249.out 0
              have hfz47_1 := blk_frozen BK249.out 1
              have hfz47_2 := blk_frozen BK249.out 2
              go_wp2
              go_ret
              exact ⟨by first | rfl | (simp [errW_none, errW_some] <;> rfl) | (simp [errW_none, errW_some]; exact ⟨rfl, rfl, rfl⟩) | (simp [*, errW_none, errW_some] <;> rfl), by repeat (first | (with_reducible first | exact HB.out | apply below_alloc | apply pw_below_drewN | apply below_drew1 | refine below_set ?_ GE249.out) | exact HB.out)⟩
      · rw [if_neg c27] at H
        exact absurd H (by simp)
    · rw [if_neg c25] at H
      exact absurd H (by simp)

/-! ### bazaarref06_Size: function 17 -/
def bazaarref06_Size.f (k : Nat) (l0_0 : List (S39)) (l0_1 : List ByteArray) (l0_2 : List Int) : Option (Int) := (bazaarref06_Right.f k l0_0 l0_1 l0_2).bind fun t264 => (if t264 = true then ((bazaarref06_bytes.f k l0_0 l0_1 l0_2).bind fun t265 => (some (t265.size : Int))) else (some 0))
/-! ### bazaarref06_Encode: function 13 -/
def bazaarref06_Encode.j0 : Nat → Bool → List (S39) → List ByteArray → List Int → Option (Int × ByteArray × Int)
  | 0, _, _, _, _ => none
  | k + 1, x13, x267000, x267001, x267002 => if x13 = true then (some (0, (⟨#[]⟩ : ByteArray), 60)) else (if (x267002.length : Int) = 0 then ((bazaarref06_bytes.f k x267000 x267001 x267002).bind fun t268 => (some (1, t268, 0))) else ((bazaarref06_bytes.f k x267000 x267001 x267002).bind fun t269 => (some (2, t269, 0))))
def bazaarref06_Encode.f (k : Nat) (l0_0 : List (S39)) (l0_1 : List ByteArray) (l0_2 : List Int) : Option (Int × ByteArray × Int) := (bazaarref06_Size.f k l0_0 l0_1 l0_2).bind fun t267 => (if t267 = 0 then (bazaarref06_Encode.j0 k true l0_0 l0_1 l0_2) else (bazaarref06_Encode.j0 k (decide (t267 > 237)) l0_0 l0_1 l0_2))
end Go.Proofs.Ytejempihaknplaa.G
