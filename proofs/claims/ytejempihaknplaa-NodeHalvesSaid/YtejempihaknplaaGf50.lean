-- Written by this session's program genprint.py (the kit's print.py with contracts of this seat's own among the callees). Not trusted: Lean checks it.
import Derived.Test.YtejempihaknplaaGX
import Derived.Test.YtejempihaknplaaNdW
import Derived.Test.YtejempihaknplaaNdM
namespace Go.Proofs.Ytejempihaknplaa.G
open Go.RowKit Go.Proofs.YtejempihaknplaaW.PrintWords Go.Proofs.YtejempihaknplaaW.PrintLast Go.Proofs.YtejempihaknplaaW.PrintMore
attribute [local go_sem] max2_int min2_int max_two min_two max_three min_three max_four min_four   -- for this text's walks alone
set_option linter.unusedVariables false
set_option linter.unusedSimpArgs false

/-! ### node_cut: function 50 -/
def node_cut.f (l0_0 : List (S39)) (l0_1 : List ByteArray) (l0_2 : List Int) (a1 : Int) : Option ((List (S39)) × List ByteArray × List Int × (List (S39)) × List ByteArray × List Int × ByteArray) := if (l0_2.length : Int) = 0 then (if 0 ≤ a1 then (if a1 ≤ (l0_0.length : Int) then ((slices_Clone_Pair.f (l0_0.take (a1 : Int).toNat)).bind fun t475 => ((slices_Clone_Pair.f (l0_0.drop (a1 : Int).toNat)).bind fun t482 => (if a1 < (l0_0.length : Int) then (some (t475, ([] : List ByteArray), ([] : List Int), t482, ([] : List ByteArray), ([] : List Int), (rd_T39 l0_0 a1).f0)) else (none)))) else (none)) else (none)) else (if 0 ≤ (wrap64 (a1 - 1)) then (if (wrap64 (a1 - 1)) ≤ (l0_1.length : Int) then ((slices_Clone_string_string.f (l0_1.take ((wrap64 (a1 - 1)) : Int).toNat)).bind fun t487 => (if 0 ≤ a1 then (if a1 ≤ (l0_2.length : Int) then ((slices_Clone_uint32_uint32.f (l0_2.take (a1 : Int).toNat)).bind fun t491 => (if a1 ≤ (l0_1.length : Int) then ((slices_Clone_string_string.f (l0_1.drop (a1 : Int).toNat)).bind fun t496 => ((slices_Clone_uint32_uint32.f (l0_2.drop (a1 : Int).toNat)).bind fun t500 => (if (wrap64 (a1 - 1)) < (l0_1.length : Int) then (some (([] : List (S39)), t487, t491, ([] : List (S39)), t496, t500, rdOf ByteArray.empty l0_1 (wrap64 (a1 - 1)))) else (none)))) else (none))) else (none)) else (none))) else (none)) else (none))
def node_cut.T2 : Bool × List (List Nat × List Nat) := (true, [([], []), ([0], [0]), ([], []), ([1, 2], [1, 2]), ([3], [3]), ([4], [4]), ([], []), ([6], [6]), ([], []), ([7, 8], [7, 8]), ([9, 4], [9]), ([10], [10]), ([], []), ([12], [12]), ([], []), ([13, 14], [13, 14]), ([15], [15]), ([16], [16]), ([5, 11, 17], [5, 11, 17]), ([18, 10, 0, 1, 2, 3, 4, 5, 6, 7, 8, 9, 10, 11, 12, 13, 14, 15, 16, 17, 18], [18])])
def node_cut.B2 : List Nat := [0, 1, 0, 7, 15, 31, 0, 64, 0, 448, 991, 2015, 0, 4096, 0, 28672, 61440, 126976, 262143, 524287]
theorem node_cut.tab2 : rtab .any (opsOf Try.f50 2) = node_cut.T2 := by kernel_rfl
theorem node_cut.bits2 : waitsOk node_cut.T2.2 node_cut.B2 = true := by kernel_rfl
def node_cut.T3 : Bool × List (List Nat × List Nat) := (true, [([], []), ([0], [0]), ([], []), ([2], [2]), ([1, 3], [1, 3]), ([4], [4]), ([], []), ([6], [6]), ([], []), ([7, 8], [7, 8]), ([9, 5], [9]), ([5, 10], [5, 10]), ([], []), ([12, 11, 10, 0, 1, 2, 3, 4, 5, 6, 7, 8, 9, 10, 11, 12], [11, 12])])
def node_cut.B3 : List Nat := [0, 1, 0, 4, 15, 31, 0, 64, 0, 448, 1023, 2047, 0, 8191]
theorem node_cut.tab3 : rtab .any (opsOf Try.f50 3) = node_cut.T3 := by kernel_rfl
theorem node_cut.bits3 : waitsOk node_cut.T3.2 node_cut.B3 = true := by kernel_rfl
def node_cut.T4 : Bool × List (List Nat × List Nat) := (true, [([], []), ([], []), ([1], [1]), ([], []), ([2, 3], [2, 3]), ([4], [4]), ([], []), ([6], [6]), ([], []), ([7, 8], [7, 8]), ([9, 5], [9]), ([5, 10], [5, 10]), ([], []), ([12], [12]), ([], []), ([14], [14]), ([13, 15], [13, 15]), ([16], [16]), ([0, 11, 17], [0, 11, 17]), ([18, 10, 0, 1, 2, 3, 4, 5, 6, 7, 8, 9, 10, 11, 12, 13, 14, 15, 16, 17, 18], [18])])
def node_cut.B4 : List Nat := [0, 0, 2, 0, 14, 30, 0, 64, 0, 448, 1022, 2046, 0, 4096, 0, 16384, 61440, 126976, 262143, 524287]
theorem node_cut.tab4 : rtab .any (opsOf Try.f50 4) = node_cut.T4 := by kernel_rfl
theorem node_cut.bits4 : waitsOk node_cut.T4.2 node_cut.B4 = true := by kernel_rfl
set_option maxHeartbeats 8000000 in
set_option maxRecDepth 100000 in
theorem node_cut.calls (A0_0 : Option Addr) (c0_0 : Nat) (l0_0 : List (S39)) (A0_1 : Option Addr) (c0_1 : Nat) (l0_1 : List ByteArray) (A0_2 : Option Addr) (c0_2 : Nat) (l0_2 : List Int) (a1 : Int) (r1 : List (S39)) (r2 : List ByteArray) (r3 : List Int) (r4 : List (S39)) (r5 : List ByteArray) (r6 : List Int) (r7 : ByteArray) (w : World) (hr0_0 : Kd.C k39 w A0_0 l0_0.length l0_0) (hc0_0 : l0_0.length ≤ c0_0) (hr0_1 : Kd.C Kd.string w A0_1 l0_1.length l0_1) (hc0_1 : l0_1.length ≤ c0_1) (hr0_2 : Kd.C (Kd.int .u32) w A0_2 l0_2.length l0_2) (hc0_2 : l0_2.length ≤ c0_2) (h : node_cut.f l0_0 l0_1 l0_2 a1 = some (r1, r2, r3, r4, r5, r6, r7)) :
    Calls Try.prog 50 #[.agg #[.slice A0_0 l0_0.length c0_0, .slice A0_1 l0_1.length c0_1, .slice A0_2 l0_2.length c0_2], .int .i64 a1] w fun e w' => ∃ v0_ v1_ v2_ v3_ v4_ v5_ : Value, e = .returned (.agg #[v0_, v1_, v2_, v3_, v4_, v5_, .string r7]) ∧ Kd.R k39 39 w' w.heap.size (fun k_ => some k_ ≠ (v3_ : Value).ownBlock) v0_ r1 ∧ Kd.R Kd.string 9 w' w.heap.size (fun k_ => some k_ ≠ (v4_ : Value).ownBlock) v1_ r2 ∧ Kd.R (Kd.int .u32) 65 w' w.heap.size (fun k_ => some k_ ≠ (v5_ : Value).ownBlock) v2_ r3 ∧ Kd.R k39 39 w' w.heap.size (fun k_ => some k_ ≠ (v0_ : Value).ownBlock) v3_ r4 ∧ Kd.R Kd.string 9 w' w.heap.size (fun k_ => some k_ ≠ (v1_ : Value).ownBlock) v4_ r5 ∧ Kd.R (Kd.int .u32) 65 w' w.heap.size (fun k_ => some k_ ≠ (v2_ : Value).ownBlock) v5_ r6 ∧ Below w.heap.size w w' := by
  have hu26 := Try.underlying26
  have hu81 := Try.underlying81
  have HR0_0 := Aside0.mk hr0_0
  have HC0_0 := Aside0.mk hc0_0
  clear hr0_0 hc0_0
  have HR0_1 := Aside0.mk hr0_1
  have HC0_1 := Aside0.mk hc0_1
  clear hr0_1 hc0_1
  have HR0_2 := Aside0.mk hr0_2
  have HC0_2 := Aside0.mk hc0_2
  clear hr0_2 hc0_2
  have HB := Aside0.mk (Below.refl w.heap.size w)
  have H : (if (l0_2.length : Int) = 0 then (if 0 ≤ a1 then (if a1 ≤ (l0_0.length : Int) then ((slices_Clone_Pair.f (l0_0.take (a1 : Int).toNat)).bind fun t475 => ((slices_Clone_Pair.f (l0_0.drop (a1 : Int).toNat)).bind fun t482 => (if a1 < (l0_0.length : Int) then (some (t475, ([] : List ByteArray), ([] : List Int), t482, ([] : List ByteArray), ([] : List Int), (rd_T39 l0_0 a1).f0)) else (none)))) else (none)) else (none)) else (if 0 ≤ (wrap64 (a1 - 1)) then (if (wrap64 (a1 - 1)) ≤ (l0_1.length : Int) then ((slices_Clone_string_string.f (l0_1.take ((wrap64 (a1 - 1)) : Int).toNat)).bind fun t487 => (if 0 ≤ a1 then (if a1 ≤ (l0_2.length : Int) then ((slices_Clone_uint32_uint32.f (l0_2.take (a1 : Int).toNat)).bind fun t491 => (if a1 ≤ (l0_1.length : Int) then ((slices_Clone_string_string.f (l0_1.drop (a1 : Int).toNat)).bind fun t496 => ((slices_Clone_uint32_uint32.f (l0_2.drop (a1 : Int).toNat)).bind fun t500 => (if (wrap64 (a1 - 1)) < (l0_1.length : Int) then (some (([] : List (S39)), t487, t491, ([] : List (S39)), t496, t500, rdOf ByteArray.empty l0_1 (wrap64 (a1 - 1)))) else (none)))) else (none))) else (none)) else (none))) else (none)) else (none))) = some (r1, r2, r3, r4, r5, r6, r7) := h
  clear h
  by_cases c3 : (l0_2.length : Int) = 0
  · rw [if_pos c3] at H
    have c3b0 : ((l0_2.length : Int) == 0) = true := beq_iff_eq.mpr c3
    have c3b1 : ((l0_2.length : Int) != 0) = false := bne_eq_false_iff_eq.mpr c3
    clear c3
    by_cases c4 : 0 ≤ a1
    · rw [if_pos c4] at H
      have c4b0 := eq_true c4
      have c4b1 : decide (0 ≤ a1) = true := decide_eq_true c4
      clear c4
      by_cases c5 : a1 ≤ (l0_0.length : Int)
      · rw [if_pos c5] at H
        have c5b0 := eq_true c5
        have c5b1 : decide (a1 ≤ (l0_0.length : Int)) = true := decide_eq_true c5
        clear c5
        obtain ⟨y471, hy471⟩ : ∃ y_ : List (S39), y_ = (l0_0.take (a1 : Int).toNat) := ⟨_, rfl⟩
        replace H : ((slices_Clone_Pair.f y471).bind fun t475 => ((slices_Clone_Pair.f (l0_0.drop (a1 : Int).toNat)).bind fun t482 => (if a1 < (l0_0.length : Int) then (some (t475, ([] : List ByteArray), ([] : List Int), t482, ([] : List ByteArray), ([] : List Int), (rd_T39 l0_0 a1).f0)) else (none)))) = some (r1, r2, r3, r4, r5, r6, r7) := by first | (rw [hy471]; with_reducible exact H) | (have H2_ := (Option.bind_some _ _).symm.trans H; rw [hy471]; with_reducible exact H2_) | (have H2_ := (Option.bind_some _ _).symm.trans H; with_reducible exact H2_) | with_reducible exact H | (rw [hy471]; exact H) | exact H
        have Ny471 := Aside0.mk hy471
        clear hy471
        replace H := Option.bind_eq_some_iff.mp H
        obtain ⟨t475, A60, H⟩ := H
        replace H : ((slices_Clone_Pair.f (l0_0.drop (a1 : Int).toNat)).bind fun t482 => (if a1 < (l0_0.length : Int) then (some (t475, ([] : List ByteArray), ([] : List Int), t482, ([] : List ByteArray), ([] : List Int), (rd_T39 l0_0 a1).f0)) else (none))) = some (r1, r2, r3, r4, r5, r6, r7) := H
        have A6 := Aside0.mk A60
        clear A60
        have c7b0 := eq_true (of_decide_eq_true (by first | (with_reducible assumption) | assumption) : 0 ≤ a1)
        have c8b0 := eq_true (of_decide_eq_true (by first | (with_reducible assumption) | assumption) : a1 ≤ (l0_0.length : Int))
        obtain ⟨y478, hy478⟩ : ∃ y_ : List (S39), y_ = (l0_0.drop (a1 : Int).toNat) := ⟨_, rfl⟩
        replace H : ((slices_Clone_Pair.f y478).bind fun t482 => (if a1 < (l0_0.length : Int) then (some (t475, ([] : List ByteArray), ([] : List Int), t482, ([] : List ByteArray), ([] : List Int), (rd_T39 l0_0 a1).f0)) else (none))) = some (r1, r2, r3, r4, r5, r6, r7) := by first | (rw [hy478]; with_reducible exact H) | (have H2_ := (Option.bind_some _ _).symm.trans H; rw [hy478]; with_reducible exact H2_) | (have H2_ := (Option.bind_some _ _).symm.trans H; with_reducible exact H2_) | with_reducible exact H | (rw [hy478]; exact H) | exact H
        have Ny478 := Aside0.mk hy478
        clear hy478
        replace H := Option.bind_eq_some_iff.mp H
        obtain ⟨t482, A90, H⟩ := H
        replace H : (if a1 < (l0_0.length : Int) then (some (t475, ([] : List ByteArray), ([] : List Int), t482, ([] : List ByteArray), ([] : List Int), (rd_T39 l0_0 a1).f0)) else (none)) = some (r1, r2, r3, r4, r5, r6, r7) := H
        have A9 := Aside0.mk A90
        clear A90
        by_cases c10 : a1 < (l0_0.length : Int)
        · rw [if_pos c10] at H
          have c10b0 : decide (a1 < (l0_0.length : Int)) = true := decide_eq_true c10
          clear c10
          simp only [Option.some.injEq, Prod.mk.injEq] at H
          obtain ⟨rfl, rfl, rfl, rfl, rfl, rfl, rfl⟩ := H
          go_enter Try.func50, Try.ntmps50
          try go_wp2_with (first | ((with_reducible refine gate_dst (N := 2) rfl ?_); refine box_event ?hg (N := 2) ?hd (cs := #[.slice A0_0 l0_0.length c0_0, .slice A0_1 l0_1.length c0_1, .slice A0_2 l0_2.length c0_2]) (t := 26) ?hr ?_; (case hd => rfl); (case hg => rfl); (case hr => first | (go_simp; done) | (go_simp; rfl)); intro gb469 hg w11 hbox hb; have BK469 := Aside0.mk (hbox); have GW469 := Aside0.mk ((by rw [hg]; exact (below_size (L_ HB.out)) : w.heap.size ≤ gb469)); have GE469 := Aside0.mk ((by rw [hg]; exact (below_size (L_ HB.out)) : w.heap.size ≤ gb469)); replace HB := Aside0.mk (below_step (L_ HB.out) hb); clear hb hbox hg) | ((with_reducible refine gate_dst (N := 4) rfl ?_); refine box_event ?hg (N := 4) ?hd (cs := #[.slice none 0 0, .slice none 0 0, .slice none 0 0, .slice none 0 0, .slice none 0 0, .slice none 0 0, .string (⟨#[]⟩ : ByteArray)]) (t := 81) ?hr ?_; (case hd => rfl); (case hg => rfl); (case hr => first | (go_simp; done) | (go_simp; rfl)); intro gb470 hg w12 hbox hb; have BK470 := Aside0.mk (hbox); have GW470 := Aside0.mk ((by rw [hg]; exact (below_size (L_ HB.out)) : w.heap.size ≤ gb470)); have GE470 := Aside0.mk ((by rw [hg]; exact (below_size (L_ HB.out)) : w.heap.size ≤ gb470)); have NB469_470 := Aside0.mk ((by rw [hg]; exact Nat.ne_of_lt (blk_lt (g := gb469) (o := .cells #[.slice A0_0 l0_0.length c0_0, .slice A0_1 l0_1.length c0_1, .slice A0_2 l0_2.length c0_2] 26 (0, 0)) (B_ BK469.out)) : gb469 ≠ gb470)); have NB470_469 := Aside0.mk ((by rw [hg]; exact Nat.ne_of_gt (blk_lt (g := gb469) (o := .cells #[.slice A0_0 l0_0.length c0_0, .slice A0_1 l0_1.length c0_1, .slice A0_2 l0_2.length c0_2] 26 (0, 0)) (B_ BK469.out)) : gb470 ≠ gb469)); replace BK469 := Aside0.mk (blk_below (g := gb469) (o := .cells #[.slice A0_0 l0_0.length c0_0, .slice A0_1 l0_1.length c0_1, .slice A0_2 l0_2.length c0_2] 26 (0, 0)) (B_ BK469.out) hb); replace HB := Aside0.mk (below_step (L_ HB.out) hb); clear hb hbox hg; have hnb13 := NB469_470.out; have hnc13 := NB470_469.out; have hcz14_0 : w12.cell? ⟨gb469, 0, none⟩ = some (.slice A0_0 l0_0.length c0_0) := (blk_cell BK469.out 0).trans rfl; have hcz14_1 : w12.cell? ⟨gb469, 1, none⟩ = some (.slice A0_1 l0_1.length c0_1) := (blk_cell BK469.out 1).trans rfl; have hcz14_2 : w12.cell? ⟨gb469, 2, none⟩ = some (.slice A0_2 l0_2.length c0_2) := (blk_cell BK469.out 2).trans rfl; have hfz14_0 := blk_frozen BK469.out 0; have hfz14_1 := blk_frozen BK469.out 1; have hfz14_2 := blk_frozen BK469.out 2))
          replace BK469 := Aside0.mk (blk_drew BK469.out)
          replace BK470 := Aside0.mk (blk_drew BK470.out)
          replace HB := Aside0.mk (below_drew1 HB.out)
          have q16 : (a1 : Int) ≤ ((l0_0.length : Int) : Int) := of_decide_eq_true (by first | (with_reducible assumption) | assumption)
          obtain ⟨i016, hi016, _, hsz16, _⟩ := info_parts info39
          have hroom16 : l0_0.length ≤ c0_0 := HC0_0.out
          have hC16 : Kd.C k39 _ A0_0 l0_0.length l0_0 := HR0_0.out
          have hcut16 := cut_to (P := Try.prog) 22 39 .i64 Try.underlying22 hi016 A0_0 l0_0.length c0_0 a1 (of_decide_eq_true (by first | (with_reducible assumption) | assumption)) q16 hroom16
          have hr16 := Kd.C_take (m := (a1 : Int).toNat) hC16 (by omega)
          have hy16 : y471.length = (a1 : Int).toNat := (by rw [Ny471.out, List.length_take]; omega)
          rw [← Ny471.out] at hr16
          rw [← hy16] at hcut16
          have HR474 := Aside0.mk hr16
          have HC474 := Aside0.mk (show y471.length ≤ c0_0 from by omega)
          clear hr16 hC16 hroom16 hi016 hsz16
          have KY16 := Aside0.mk hy16
          clear hy16
          replace q16 := eq_true q16
          have q17 : (a1 : Int) ≤ ((l0_0.length : Int) : Int) := of_decide_eq_true (by first | (with_reducible assumption) | assumption)
          obtain ⟨i017, hi017, _, hsz17, _⟩ := info_parts info39
          have hroom17 : l0_0.length ≤ c0_0 := HC0_0.out
          have hC17 : Kd.C k39 _ A0_0 l0_0.length l0_0 := HR0_0.out
          have q017 : (0 : Int) ≤ (a1 : Int) := of_decide_eq_true (by first | (with_reducible assumption) | assumption)
          have hcut17 := cut_from (P := Try.prog) 22 39 .i64 Try.underlying22 hi017 2 hsz17 A0_0 l0_0.length c0_0 a1 q017 q17
          have hr17 := Kd.C_drop (m := (a1 : Int).toNat) (c := c0_0) hC17 (by omega) hroom17
          obtain ⟨A17, hA17⟩ : ∃ A1, A1 = (if c0_0 = (a1 : Int).toNat then A0_0 else (A0_0 : Option Addr).map (·.add ((a1 : Int).toNat * 2))) := ⟨_, rfl⟩
          obtain ⟨c17, hc17⟩ : ∃ c1, c1 = c0_0 - (a1 : Int).toNat := ⟨_, rfl⟩
          have hy17 : y478.length = l0_0.length - (a1 : Int).toNat := (by rw [Ny478.out, List.length_drop] <;> omega)
          rw [show (l0_0).drop (a1 : Int).toNat = y478 from Ny478.out.symm] at hr17
          replace hr17 : Kd.C k39 _ A17 y478.length y478 := (by rw [hA17]; exact hr17)
          rw [← hy17, ← hA17, ← hc17] at hcut17
          have HR481 := Aside0.mk hr17
          have HC481 := Aside0.mk (show y478.length ≤ c17 from by rw [hy17, hc17]; exact Nat.sub_le_sub_right hroom17 _)
          clear hr17 hC17 hroom17 hi017 hsz17 hc17
          have KY17 := Aside0.mk hy17
          have KA17 := Aside0.mk hA17
          clear hy17 hA17
          replace q17 := eq_true q17
          have p485 : 0 ≤ (a1 : Int) := of_decide_eq_true (by first | (with_reducible assumption) | assumption)
          have q485 : a1 < (l0_0.length : Int) := of_decide_eq_true (by first | (with_reducible assumption) | assumption)
          obtain ⟨ad485, e485, hx485_0, hx485_1⟩ := at_T39 HR0_0.out a1 p485 q485
          have hw485_1 := hx485_1
          have hw485_0 := hx485_0
          cases e485
          replace hx485_0 := (HB.out.cell (World.block_lt_of_cell? w _ hx485_0)).trans hx485_0
          replace hx485_1 := (HB.out.cell (World.block_lt_of_cell? w _ hx485_1)).trans hx485_1
          replace p485 := eq_true p485
          replace q485 := eq_true q485
          refine start_ (n := 20) (S := fun w' => w'.cell? ⟨gb469, 0, none⟩ = some (.slice (some ad485) l0_0.length c0_0) ∧ w'.cell? ⟨gb469, 1, none⟩ = some (.slice A0_1 l0_1.length c0_1) ∧ w'.cell? ⟨gb469, 2, none⟩ = some (.slice A0_2 l0_2.length c0_2) ∧ w'.cell? (ad485.add ((a1).toNat * 2)) = some (.string ((rd_T39 l0_0 a1).f0)) ∧ w'.cell? ⟨(ad485.add ((a1).toNat * 2)).block, (ad485.add ((a1).toNat * 2)).off + 1, none⟩ = some (.string ((rd_T39 l0_0 a1).f1))) (ds := []) #[false, false, false, false, false, false, false, false, false, false, false, false, false, false, false, false, false, false, false, false] (by kernel_rfl) rfl rfl ⟨(blk_cell BK469.out 0).trans rfl, (blk_cell BK469.out 1).trans rfl, (blk_cell BK469.out 2).trans rfl, ((HB.out.cell (World.block_lt_of_cell? w _ hw485_0)).trans hw485_0), ((HB.out.cell (World.block_lt_of_cell? w _ hw485_1)).trans hw485_1)⟩ (fun hHeld => ?_); refine with_tabW node_cut.tab2 node_cut.bits2 (fun HT_ HW_ => ?_)
          generalize w12.drew = w15 at BK469 BK470 HB HR474 HR481 hx485_0 hx485_1 hHeld ⊢
          refine pure_ (i := 0) (N := some 10) (v := ?_) (a' := ?_) #[true, false, false, false, false, false, false, false, false, false, false, false, false, false, false, false, false, false, false, false] rfl rfl (any_of HT_.out (by kernel_rfl)) (fun _ _ _ h => h) (Or.inl ⟨by rfl, ?_⟩) ?_ ?_
          rotate_left
          · intro w'
            go_simp
            with_reducible rfl
          rotate_left
          · simp only [Act.put, List.setIfInBounds_toArray, List.set_cons_zero, List.set_cons_succ, i64_w, i32_w]
            rfl
          refine pure_ (i := 2) (N := some 12) (v := ?_) (a' := ?_) #[true, false, true, false, false, false, false, false, false, false, false, false, false, false, false, false, false, false, false, false] rfl rfl (any_of HT_.out (by kernel_rfl)) (fun _ _ _ h => h) (Or.inl ⟨by rfl, ?_⟩) ?_ ?_
          rotate_left
          · intro w'
            go_simp
            with_reducible rfl
          rotate_left
          · simp only [Act.put, List.setIfInBounds_toArray, List.set_cons_zero, List.set_cons_succ, i64_w, i32_w]
            rfl
          refine pure_ (i := 6) (N := some 16) (v := ?_) (a' := ?_) #[true, false, true, false, false, false, true, false, false, false, false, false, false, false, false, false, false, false, false, false] rfl rfl (any_of HT_.out (by kernel_rfl)) (fun _ _ _ h => h) (Or.inl ⟨by rfl, ?_⟩) ?_ ?_
          rotate_left
          · intro w'
            go_simp
            with_reducible rfl
          rotate_left
          · simp only [Act.put, List.setIfInBounds_toArray, List.set_cons_zero, List.set_cons_succ, i64_w, i32_w]
            rfl
          refine pure_ (i := 8) (N := some 18) (v := ?_) (a' := ?_) #[true, false, true, false, false, false, true, false, true, false, false, false, false, false, false, false, false, false, false, false] rfl rfl (any_of HT_.out (by kernel_rfl)) (fun _ _ _ h => h) (Or.inl ⟨by rfl, ?_⟩) ?_ ?_
          rotate_left
          · intro w'
            go_simp
            with_reducible rfl
          rotate_left
          · simp only [Act.put, List.setIfInBounds_toArray, List.set_cons_zero, List.set_cons_succ, i64_w, i32_w]
            rfl
          refine pure_ (i := 12) (N := some 22) (v := ?_) (a' := ?_) #[true, false, true, false, false, false, true, false, true, false, false, false, true, false, false, false, false, false, false, false] rfl rfl (any_of HT_.out (by kernel_rfl)) (fun _ _ _ h => h) (Or.inl ⟨by rfl, ?_⟩) ?_ ?_
          rotate_left
          · intro w'
            go_simp
            with_reducible rfl
          rotate_left
          · simp only [Act.put, List.setIfInBounds_toArray, List.set_cons_zero, List.set_cons_succ, i64_w, i32_w]
            rfl
          refine pure_ (i := 14) (N := some 24) (v := ?_) (a' := ?_) #[true, false, true, false, false, false, true, false, true, false, false, false, true, false, true, false, false, false, false, false] rfl rfl (any_of HT_.out (by kernel_rfl)) (fun _ _ _ h => h) (Or.inl ⟨by rfl, ?_⟩) ?_ ?_
          rotate_left
          · intro w'
            go_simp
            with_reducible rfl
          rotate_left
          · simp only [Act.put, List.setIfInBounds_toArray, List.set_cons_zero, List.set_cons_succ, i64_w, i32_w]
            rfl
          refine take_ (i := 1) (N := some 11) (v := ?_) (a' := ?_) #[true, true, true, false, false, false, true, false, true, false, false, false, true, false, true, false, false, false, false, false] rfl rfl (take_ofW HT_.out HW_.out (by kernel_rfl)) (fun _ _ _ h => h) (Or.inl ⟨by rfl, ?_⟩) hHeld ?_ ?_
          rotate_left
          · rintro w' ⟨s0, s1, s2, s3, s4⟩
            go_simp
            with_reducible rfl
          rotate_left
          · simp only [Act.put, List.setIfInBounds_toArray, List.set_cons_zero, List.set_cons_succ, i64_w, i32_w]
            rfl
          refine pure_ (i := 3) (N := some 13) (v := ?_) (a' := ?_) #[true, true, true, true, false, false, true, false, true, false, false, false, true, false, true, false, false, false, false, false] rfl rfl (any_of HT_.out (by kernel_rfl)) (fun _ _ _ h => h) (Or.inl ⟨by rfl, ?_⟩) ?_ ?_
          rotate_left
          · intro w'
            go_simp
            with_reducible rfl
          rotate_left
          · simp only [Act.put, List.setIfInBounds_toArray, List.set_cons_zero, List.set_cons_succ, i64_w, i32_w]
            rfl
          refine take_ (i := 7) (N := some 17) (v := ?_) (a' := ?_) #[true, true, true, true, false, false, true, true, true, false, false, false, true, false, true, false, false, false, false, false] rfl rfl (take_ofW HT_.out HW_.out (by kernel_rfl)) (fun _ _ _ h => h) (Or.inl ⟨by rfl, ?_⟩) hHeld ?_ ?_
          rotate_left
          · rintro w' ⟨s0, s1, s2, s3, s4⟩
            go_simp
            with_reducible rfl
          rotate_left
          · simp only [Act.put, List.setIfInBounds_toArray, List.set_cons_zero, List.set_cons_succ, i64_w, i32_w]
            rfl
          refine pure_ (i := 9) (N := some 19) (v := ?_) (a' := ?_) #[true, true, true, true, false, false, true, true, true, true, false, false, true, false, true, false, false, false, false, false] rfl rfl (any_of HT_.out (by kernel_rfl)) (fun _ _ _ h => h) (Or.inl ⟨by rfl, ?_⟩) ?_ ?_
          rotate_left
          · intro w'
            go_simp
            with_reducible rfl
          rotate_left
          · simp only [Act.put, List.setIfInBounds_toArray, List.set_cons_zero, List.set_cons_succ, i64_w, i32_w]
            rfl
          refine take_ (i := 13) (N := some 23) (v := ?_) (a' := ?_) #[true, true, true, true, false, false, true, true, true, true, false, false, true, true, true, false, false, false, false, false] rfl rfl (take_ofW HT_.out HW_.out (by kernel_rfl)) (fun _ _ _ h => h) (Or.inl ⟨by rfl, ?_⟩) hHeld ?_ ?_
          rotate_left
          · rintro w' ⟨s0, s1, s2, s3, s4⟩
            go_simp
            with_reducible rfl
          rotate_left
          · simp only [Act.put, List.setIfInBounds_toArray, List.set_cons_zero, List.set_cons_succ, i64_w, i32_w]
            rfl
          refine pure_ (i := 15) (N := some 25) (v := ?_) (a' := ?_) #[true, true, true, true, false, false, true, true, true, true, false, false, true, true, true, true, false, false, false, false] rfl rfl (any_of HT_.out (by kernel_rfl)) (fun _ _ _ h => h) (Or.inl ⟨by rfl, ?_⟩) ?_ ?_
          rotate_left
          · intro w'
            go_simp
            with_reducible rfl
          rotate_left
          · simp only [Act.put, List.setIfInBounds_toArray, List.set_cons_zero, List.set_cons_succ, i64_w, i32_w]
            rfl
          refine pure_ (i := 16) (N := some 26) (v := ?_) (a' := ?_) #[true, true, true, true, false, false, true, true, true, true, false, false, true, true, true, true, true, false, false, false] rfl rfl (any_of HT_.out (by kernel_rfl)) (fun _ _ _ h => h) (Or.inl ⟨by rfl, ?_⟩) ?_ ?_
          rotate_left
          · intro w'
            go_simp
            with_reducible rfl
          rotate_left
          · simp only [Act.put, List.setIfInBounds_toArray, List.set_cons_zero, List.set_cons_succ, i64_w, i32_w]
            rfl
          refine take_ (i := 17) (N := some 27) (v := ?_) (a' := ?_) #[true, true, true, true, false, false, true, true, true, true, false, false, true, true, true, true, true, true, false, false] rfl rfl (take_ofW HT_.out HW_.out (by kernel_rfl)) (fun _ _ _ h => h) (Or.inl ⟨by rfl, ?_⟩) hHeld ?_ ?_
          rotate_left
          · rintro w' ⟨s0, s1, s2, s3, s4⟩
            go_simp
            with_reducible rfl
          rotate_left
          · simp only [Act.put, List.setIfInBounds_toArray, List.set_cons_zero, List.set_cons_succ, i64_w, i32_w]
            rfl
          refine one_ (i := 4) (N := some 14) #[true, true, true, true, true, false, true, true, true, true, false, false, true, true, true, true, true, true, false, false] rfl rfl (one_of HT_.out (by kernel_rfl)) (by decide) (fun K hK => ?_)
          refine goes_ Try.func48 (by kernel_rfl) rfl #[.slice (some ad485) y471.length c0_0] (by rfl) rfl rfl (by (try simp only [List.map_toArray, List.map_cons, List.map_nil]); first | done | rfl | (simp only [List.length_drop, List.length_take]; rfl)) ?_
          with_reducible refine (slices_Clone_Pair.calls _ _ y471 t475 _ ?side1 ?side2 A6.out).mono ?_
          (case side1 => repeat (first | exact (Kd.C_below HR474.out HB.out) | (with_reducible refine Kd.C_alloc ?_ _) | (with_reducible refine Kd.C_drewN ?_ _) | (with_reducible refine Kd.C_drew ?_)))
          (case side2 => exact HC474.out)
          rintro e w18 ⟨v476, rfl, ho0, hb⟩
          refine ⟨_, rfl, ?_⟩
          have HO477 := Aside0.mk (Kd.R_lower ho0 (below_size (L_ HB.out)))
          replace BK469 := Aside0.mk (blk_below (g := gb469) (o := .cells #[.slice (some ad485) l0_0.length c0_0, .slice A0_1 l0_1.length c0_1, .slice A0_2 l0_2.length c0_2] 26 (0, 0)) (B_ BK469.out) hb)
          replace BK470 := Aside0.mk (blk_below (g := gb470) (o := .cells #[.slice none 0 0, .slice none 0 0, .slice none 0 0, .slice none 0 0, .slice none 0 0, .slice none 0 0, .string (⟨#[]⟩ : ByteArray)] 81 (0, 0)) (B_ BK470.out) hb)
          replace HB := Aside0.mk (below_step (L_ HB.out) hb)
          (try clear hb)
          (try clear hb2)
          (try clear hk)
          (try clear hi)
          (try clear ho0)
          obtain ⟨Ao19, co19, eo19⟩ := Kd.R_slice HO477.out
          (first | subst eo19 | (injection eo19 with f1_ f2_ f3_; have f4_ := f1_.symm; have f5_ := f3_.symm; clear f1_ f2_ f3_; subst f4_; subst f5_))
          refine hK.out _ _ ⟨(blk_cell BK469.out 0).trans rfl, (blk_cell BK469.out 1).trans rfl, (blk_cell BK469.out 2).trans rfl, ((HB.out.cell (World.block_lt_of_cell? w _ hw485_0)).trans hw485_0), ((HB.out.cell (World.block_lt_of_cell? w _ hw485_1)).trans hw485_1)⟩ (fun hHeld => ?_)
          clear hK K
          refine norm_ (a' := ?_) ?_ ?_
          rotate_left
          · show Act.put _ (some 14) _ = _
            simp only [Act.put, List.setIfInBounds_toArray, List.set_cons_zero, List.set_cons_succ, i64_w, i32_w]
            rfl
          refine pure_ (i := 5) (N := some 15) (v := ?_) (a' := ?_) #[true, true, true, true, true, true, true, true, true, true, false, false, true, true, true, true, true, true, false, false] rfl rfl (any_of HT_.out (by kernel_rfl)) (fun _ _ _ h => h) (Or.inl ⟨by rfl, ?_⟩) ?_ ?_
          rotate_left
          · intro w'
            go_simp
            with_reducible rfl
          rotate_left
          · simp only [Act.put, List.setIfInBounds_toArray, List.set_cons_zero, List.set_cons_succ, i64_w, i32_w]
            rfl
          refine one_ (i := 10) (N := some 20) #[true, true, true, true, true, true, true, true, true, true, true, false, true, true, true, true, true, true, false, false] rfl rfl (one_of HT_.out (by kernel_rfl)) (by decide) (fun K hK => ?_)
          refine goes_ Try.func48 (by kernel_rfl) rfl #[.slice A17 y478.length c17] (by rfl) rfl rfl (by (try simp only [List.map_toArray, List.map_cons, List.map_nil]); first | done | rfl | (simp only [List.length_drop, List.length_take]; rfl)) ?_
          with_reducible refine (slices_Clone_Pair.calls _ _ y478 t482 _ ?side1 ?side2 A9.out).mono ?_
          (case side1 => repeat (first | exact (Kd.C_below HR481.out HB.out) | (with_reducible refine Kd.C_alloc ?_ _) | (with_reducible refine Kd.C_drewN ?_ _) | (with_reducible refine Kd.C_drew ?_)))
          (case side2 => exact HC481.out)
          rintro e w20 ⟨v483, rfl, ho0, hb⟩
          refine ⟨_, rfl, ?_⟩
          have HO484 := Aside0.mk (Kd.R_lower (Kd.R_new' ho0 (Kd.R_lt (R_ HO477.out))) (below_size (L_ HB.out)))
          replace HO477 := Aside0.mk (Kd.R_elder' (R_ HO477.out) (Kd.R_base ho0) hb)
          replace BK469 := Aside0.mk (blk_below (g := gb469) (o := .cells #[.slice (some ad485) l0_0.length c0_0, .slice A0_1 l0_1.length c0_1, .slice A0_2 l0_2.length c0_2] 26 (0, 0)) (B_ BK469.out) hb)
          replace BK470 := Aside0.mk (blk_below (g := gb470) (o := .cells #[.slice none 0 0, .slice none 0 0, .slice none 0 0, .slice none 0 0, .slice none 0 0, .slice none 0 0, .string (⟨#[]⟩ : ByteArray)] 81 (0, 0)) (B_ BK470.out) hb)
          replace HB := Aside0.mk (below_step (L_ HB.out) hb)
          (try clear hb)
          (try clear hb2)
          (try clear hk)
          (try clear hi)
          (try clear ho0)
          obtain ⟨Ao21, co21, eo21⟩ := Kd.R_slice HO484.out
          (first | subst eo21 | (injection eo21 with f1_ f2_ f3_; have f4_ := f1_.symm; have f5_ := f3_.symm; clear f1_ f2_ f3_; subst f4_; subst f5_))
          refine hK.out _ _ ⟨(blk_cell BK469.out 0).trans rfl, (blk_cell BK469.out 1).trans rfl, (blk_cell BK469.out 2).trans rfl, ((HB.out.cell (World.block_lt_of_cell? w _ hw485_0)).trans hw485_0), ((HB.out.cell (World.block_lt_of_cell? w _ hw485_1)).trans hw485_1)⟩ (fun hHeld => ?_)
          clear hK K
          refine norm_ (a' := ?_) ?_ ?_
          rotate_left
          · show Act.put _ (some 20) _ = _
            simp only [Act.put, List.setIfInBounds_toArray, List.set_cons_zero, List.set_cons_succ, i64_w, i32_w]
            rfl
          refine pure_ (i := 11) (N := some 21) (v := ?_) (a' := ?_) #[true, true, true, true, true, true, true, true, true, true, true, true, true, true, true, true, true, true, false, false] rfl rfl (any_of HT_.out (by kernel_rfl)) (fun _ _ _ h => h) (Or.inl ⟨by rfl, ?_⟩) ?_ ?_
          rotate_left
          · intro w'
            go_simp
            with_reducible rfl
          rotate_left
          · simp only [Act.put, List.setIfInBounds_toArray, List.set_cons_zero, List.set_cons_succ, i64_w, i32_w]
            rfl
          refine pure_ (i := 18) (N := some 28) (v := ?_) (a' := ?_) #[true, true, true, true, true, true, true, true, true, true, true, true, true, true, true, true, true, true, true, false] rfl rfl (any_of HT_.out (by kernel_rfl)) (fun _ _ _ h => h) (Or.inl ⟨by rfl, ?_⟩) ?_ ?_
          rotate_left
          · intro w'
            go_simp
            with_reducible rfl
          rotate_left
          · simp only [Act.put, List.setIfInBounds_toArray, List.set_cons_zero, List.set_cons_succ, i64_w, i32_w]
            rfl
          refine one_ (i := 19) (N := none) #[true, true, true, true, true, true, true, true, true, true, true, true, true, true, true, true, true, true, true, true] rfl rfl (one_of HT_.out (by kernel_rfl)) (by decide) (fun K hK => ?_)
          have hs22 : w20.cell? ⟨gb470, 0, none⟩ = some (.slice none 0 0) := (blk_cell BK470.out 0).trans rfl
          have hfs22 := blk_frozen BK470.out 0
          have hns22_0 := NB469_470.out
          have hms22_0 := NB470_469.out
          have hs23 : w20.cell? ⟨gb470, 1, none⟩ = some (.slice none 0 0) := (blk_cell BK470.out 1).trans rfl
          have hfs23 := blk_frozen BK470.out 1
          have hns23_0 := NB469_470.out
          have hms23_0 := NB470_469.out
          have hs24 : w20.cell? ⟨gb470, 2, none⟩ = some (.slice none 0 0) := (blk_cell BK470.out 2).trans rfl
          have hfs24 := blk_frozen BK470.out 2
          have hns24_0 := NB469_470.out
          have hms24_0 := NB470_469.out
          have hs25 : w20.cell? ⟨gb470, 3, none⟩ = some (.slice none 0 0) := (blk_cell BK470.out 3).trans rfl
          have hfs25 := blk_frozen BK470.out 3
          have hns25_0 := NB469_470.out
          have hms25_0 := NB470_469.out
          have hs26 : w20.cell? ⟨gb470, 4, none⟩ = some (.slice none 0 0) := (blk_cell BK470.out 4).trans rfl
          have hfs26 := blk_frozen BK470.out 4
          have hns26_0 := NB469_470.out
          have hms26_0 := NB470_469.out
          have hs27 : w20.cell? ⟨gb470, 5, none⟩ = some (.slice none 0 0) := (blk_cell BK470.out 5).trans rfl
          have hfs27 := blk_frozen BK470.out 5
          have hns27_0 := NB469_470.out
          have hms27_0 := NB470_469.out
          have hs28 : w20.cell? ⟨gb470, 6, none⟩ = some (.string (⟨#[]⟩ : ByteArray)) := (blk_cell BK470.out 6).trans rfl
          have hfs28 := blk_frozen BK470.out 6
          have hns28_0 := NB469_470.out
          have hms28_0 := NB470_469.out
          refine skip_ (w1 := ?_) (by rfl) rfl ?_ ?_
          rotate_left
          · go_simp
            rfl
          refine hK.out _ _ ⟨((cell_far (p := ⟨gb470, _, none⟩) NB469_470.out _).trans (((cell_far (p := ⟨gb470, _, none⟩) NB469_470.out _).trans (((cell_far (p := ⟨gb470, _, none⟩) NB469_470.out _).trans (((cell_far (p := ⟨gb470, _, none⟩) NB469_470.out _).trans (((cell_far (p := ⟨gb470, _, none⟩) NB469_470.out _).trans (((cell_far (p := ⟨gb470, _, none⟩) NB469_470.out _).trans (((cell_far (p := ⟨gb470, _, none⟩) NB469_470.out _).trans (hHeld.1)))))))))))))), ((cell_far (p := ⟨gb470, _, none⟩) NB469_470.out _).trans (((cell_far (p := ⟨gb470, _, none⟩) NB469_470.out _).trans (((cell_far (p := ⟨gb470, _, none⟩) NB469_470.out _).trans (((cell_far (p := ⟨gb470, _, none⟩) NB469_470.out _).trans (((cell_far (p := ⟨gb470, _, none⟩) NB469_470.out _).trans (((cell_far (p := ⟨gb470, _, none⟩) NB469_470.out _).trans (((cell_far (p := ⟨gb470, _, none⟩) NB469_470.out _).trans (hHeld.2.1)))))))))))))), ((cell_far (p := ⟨gb470, _, none⟩) NB469_470.out _).trans (((cell_far (p := ⟨gb470, _, none⟩) NB469_470.out _).trans (((cell_far (p := ⟨gb470, _, none⟩) NB469_470.out _).trans (((cell_far (p := ⟨gb470, _, none⟩) NB469_470.out _).trans (((cell_far (p := ⟨gb470, _, none⟩) NB469_470.out _).trans (((cell_far (p := ⟨gb470, _, none⟩) NB469_470.out _).trans (((cell_far (p := ⟨gb470, _, none⟩) NB469_470.out _).trans (hHeld.2.2.1)))))))))))))), ((cell_far (p := ⟨gb470, _, none⟩) (by first | exact Nat.ne_of_lt (Nat.lt_of_lt_of_le (by have := World.block_lt_of_cell? _ _ hw485_0; first | rwa [add_block] at this | exact this) GW470.out) | (rw [add_block]; exact Nat.ne_of_lt (Nat.lt_of_lt_of_le (by have := World.block_lt_of_cell? _ _ hw485_0; first | rwa [add_block] at this | exact this) GW470.out)) | (show (Addr.add _ _).block ≠ _; rw [add_block]; exact Nat.ne_of_lt (Nat.lt_of_lt_of_le (by have := World.block_lt_of_cell? _ _ hw485_0; first | rwa [add_block] at this | exact this) GW470.out)) | (dsimp only; exact Nat.ne_of_lt (Nat.lt_of_lt_of_le (by have := World.block_lt_of_cell? _ _ hw485_0; first | rwa [add_block] at this | exact this) GW470.out))) _).trans (((cell_far (p := ⟨gb470, _, none⟩) (by first | exact Nat.ne_of_lt (Nat.lt_of_lt_of_le (by have := World.block_lt_of_cell? _ _ hw485_0; first | rwa [add_block] at this | exact this) GW470.out) | (rw [add_block]; exact Nat.ne_of_lt (Nat.lt_of_lt_of_le (by have := World.block_lt_of_cell? _ _ hw485_0; first | rwa [add_block] at this | exact this) GW470.out)) | (show (Addr.add _ _).block ≠ _; rw [add_block]; exact Nat.ne_of_lt (Nat.lt_of_lt_of_le (by have := World.block_lt_of_cell? _ _ hw485_0; first | rwa [add_block] at this | exact this) GW470.out)) | (dsimp only; exact Nat.ne_of_lt (Nat.lt_of_lt_of_le (by have := World.block_lt_of_cell? _ _ hw485_0; first | rwa [add_block] at this | exact this) GW470.out))) _).trans (((cell_far (p := ⟨gb470, _, none⟩) (by first | exact Nat.ne_of_lt (Nat.lt_of_lt_of_le (by have := World.block_lt_of_cell? _ _ hw485_0; first | rwa [add_block] at this | exact this) GW470.out) | (rw [add_block]; exact Nat.ne_of_lt (Nat.lt_of_lt_of_le (by have := World.block_lt_of_cell? _ _ hw485_0; first | rwa [add_block] at this | exact this) GW470.out)) | (show (Addr.add _ _).block ≠ _; rw [add_block]; exact Nat.ne_of_lt (Nat.lt_of_lt_of_le (by have := World.block_lt_of_cell? _ _ hw485_0; first | rwa [add_block] at this | exact this) GW470.out)) | (dsimp only; exact Nat.ne_of_lt (Nat.lt_of_lt_of_le (by have := World.block_lt_of_cell? _ _ hw485_0; first | rwa [add_block] at this | exact this) GW470.out))) _).trans (((cell_far (p := ⟨gb470, _, none⟩) (by first | exact Nat.ne_of_lt (Nat.lt_of_lt_of_le (by have := World.block_lt_of_cell? _ _ hw485_0; first | rwa [add_block] at this | exact this) GW470.out) | (rw [add_block]; exact Nat.ne_of_lt (Nat.lt_of_lt_of_le (by have := World.block_lt_of_cell? _ _ hw485_0; first | rwa [add_block] at this | exact this) GW470.out)) | (show (Addr.add _ _).block ≠ _; rw [add_block]; exact Nat.ne_of_lt (Nat.lt_of_lt_of_le (by have := World.block_lt_of_cell? _ _ hw485_0; first | rwa [add_block] at this | exact this) GW470.out)) | (dsimp only; exact Nat.ne_of_lt (Nat.lt_of_lt_of_le (by have := World.block_lt_of_cell? _ _ hw485_0; first | rwa [add_block] at this | exact this) GW470.out))) _).trans (((cell_far (p := ⟨gb470, _, none⟩) (by first | exact Nat.ne_of_lt (Nat.lt_of_lt_of_le (by have := World.block_lt_of_cell? _ _ hw485_0; first | rwa [add_block] at this | exact this) GW470.out) | (rw [add_block]; exact Nat.ne_of_lt (Nat.lt_of_lt_of_le (by have := World.block_lt_of_cell? _ _ hw485_0; first | rwa [add_block] at this | exact this) GW470.out)) | (show (Addr.add _ _).block ≠ _; rw [add_block]; exact Nat.ne_of_lt (Nat.lt_of_lt_of_le (by have := World.block_lt_of_cell? _ _ hw485_0; first | rwa [add_block] at this | exact this) GW470.out)) | (dsimp only; exact Nat.ne_of_lt (Nat.lt_of_lt_of_le (by have := World.block_lt_of_cell? _ _ hw485_0; first | rwa [add_block] at this | exact this) GW470.out))) _).trans (((cell_far (p := ⟨gb470, _, none⟩) (by first | exact Nat.ne_of_lt (Nat.lt_of_lt_of_le (by have := World.block_lt_of_cell? _ _ hw485_0; first | rwa [add_block] at this | exact this) GW470.out) | (rw [add_block]; exact Nat.ne_of_lt (Nat.lt_of_lt_of_le (by have := World.block_lt_of_cell? _ _ hw485_0; first | rwa [add_block] at this | exact this) GW470.out)) | (show (Addr.add _ _).block ≠ _; rw [add_block]; exact Nat.ne_of_lt (Nat.lt_of_lt_of_le (by have := World.block_lt_of_cell? _ _ hw485_0; first | rwa [add_block] at this | exact this) GW470.out)) | (dsimp only; exact Nat.ne_of_lt (Nat.lt_of_lt_of_le (by have := World.block_lt_of_cell? _ _ hw485_0; first | rwa [add_block] at this | exact this) GW470.out))) _).trans (((cell_far (p := ⟨gb470, _, none⟩) (by first | exact Nat.ne_of_lt (Nat.lt_of_lt_of_le (by have := World.block_lt_of_cell? _ _ hw485_0; first | rwa [add_block] at this | exact this) GW470.out) | (rw [add_block]; exact Nat.ne_of_lt (Nat.lt_of_lt_of_le (by have := World.block_lt_of_cell? _ _ hw485_0; first | rwa [add_block] at this | exact this) GW470.out)) | (show (Addr.add _ _).block ≠ _; rw [add_block]; exact Nat.ne_of_lt (Nat.lt_of_lt_of_le (by have := World.block_lt_of_cell? _ _ hw485_0; first | rwa [add_block] at this | exact this) GW470.out)) | (dsimp only; exact Nat.ne_of_lt (Nat.lt_of_lt_of_le (by have := World.block_lt_of_cell? _ _ hw485_0; first | rwa [add_block] at this | exact this) GW470.out))) _).trans (hHeld.2.2.2.1)))))))))))))), ((cell_far (p := ⟨gb470, _, none⟩) (by first | exact Nat.ne_of_lt (Nat.lt_of_lt_of_le (by have := World.block_lt_of_cell? _ _ hw485_1; first | rwa [add_block] at this | exact this) GW470.out) | (rw [add_block]; exact Nat.ne_of_lt (Nat.lt_of_lt_of_le (by have := World.block_lt_of_cell? _ _ hw485_1; first | rwa [add_block] at this | exact this) GW470.out)) | (show (Addr.add _ _).block ≠ _; rw [add_block]; exact Nat.ne_of_lt (Nat.lt_of_lt_of_le (by have := World.block_lt_of_cell? _ _ hw485_1; first | rwa [add_block] at this | exact this) GW470.out)) | (dsimp only; exact Nat.ne_of_lt (Nat.lt_of_lt_of_le (by have := World.block_lt_of_cell? _ _ hw485_1; first | rwa [add_block] at this | exact this) GW470.out))) _).trans (((cell_far (p := ⟨gb470, _, none⟩) (by first | exact Nat.ne_of_lt (Nat.lt_of_lt_of_le (by have := World.block_lt_of_cell? _ _ hw485_1; first | rwa [add_block] at this | exact this) GW470.out) | (rw [add_block]; exact Nat.ne_of_lt (Nat.lt_of_lt_of_le (by have := World.block_lt_of_cell? _ _ hw485_1; first | rwa [add_block] at this | exact this) GW470.out)) | (show (Addr.add _ _).block ≠ _; rw [add_block]; exact Nat.ne_of_lt (Nat.lt_of_lt_of_le (by have := World.block_lt_of_cell? _ _ hw485_1; first | rwa [add_block] at this | exact this) GW470.out)) | (dsimp only; exact Nat.ne_of_lt (Nat.lt_of_lt_of_le (by have := World.block_lt_of_cell? _ _ hw485_1; first | rwa [add_block] at this | exact this) GW470.out))) _).trans (((cell_far (p := ⟨gb470, _, none⟩) (by first | exact Nat.ne_of_lt (Nat.lt_of_lt_of_le (by have := World.block_lt_of_cell? _ _ hw485_1; first | rwa [add_block] at this | exact this) GW470.out) | (rw [add_block]; exact Nat.ne_of_lt (Nat.lt_of_lt_of_le (by have := World.block_lt_of_cell? _ _ hw485_1; first | rwa [add_block] at this | exact this) GW470.out)) | (show (Addr.add _ _).block ≠ _; rw [add_block]; exact Nat.ne_of_lt (Nat.lt_of_lt_of_le (by have := World.block_lt_of_cell? _ _ hw485_1; first | rwa [add_block] at this | exact this) GW470.out)) | (dsimp only; exact Nat.ne_of_lt (Nat.lt_of_lt_of_le (by have := World.block_lt_of_cell? _ _ hw485_1; first | rwa [add_block] at this | exact this) GW470.out))) _).trans (((cell_far (p := ⟨gb470, _, none⟩) (by first | exact Nat.ne_of_lt (Nat.lt_of_lt_of_le (by have := World.block_lt_of_cell? _ _ hw485_1; first | rwa [add_block] at this | exact this) GW470.out) | (rw [add_block]; exact Nat.ne_of_lt (Nat.lt_of_lt_of_le (by have := World.block_lt_of_cell? _ _ hw485_1; first | rwa [add_block] at this | exact this) GW470.out)) | (show (Addr.add _ _).block ≠ _; rw [add_block]; exact Nat.ne_of_lt (Nat.lt_of_lt_of_le (by have := World.block_lt_of_cell? _ _ hw485_1; first | rwa [add_block] at this | exact this) GW470.out)) | (dsimp only; exact Nat.ne_of_lt (Nat.lt_of_lt_of_le (by have := World.block_lt_of_cell? _ _ hw485_1; first | rwa [add_block] at this | exact this) GW470.out))) _).trans (((cell_far (p := ⟨gb470, _, none⟩) (by first | exact Nat.ne_of_lt (Nat.lt_of_lt_of_le (by have := World.block_lt_of_cell? _ _ hw485_1; first | rwa [add_block] at this | exact this) GW470.out) | (rw [add_block]; exact Nat.ne_of_lt (Nat.lt_of_lt_of_le (by have := World.block_lt_of_cell? _ _ hw485_1; first | rwa [add_block] at this | exact this) GW470.out)) | (show (Addr.add _ _).block ≠ _; rw [add_block]; exact Nat.ne_of_lt (Nat.lt_of_lt_of_le (by have := World.block_lt_of_cell? _ _ hw485_1; first | rwa [add_block] at this | exact this) GW470.out)) | (dsimp only; exact Nat.ne_of_lt (Nat.lt_of_lt_of_le (by have := World.block_lt_of_cell? _ _ hw485_1; first | rwa [add_block] at this | exact this) GW470.out))) _).trans (((cell_far (p := ⟨gb470, _, none⟩) (by first | exact Nat.ne_of_lt (Nat.lt_of_lt_of_le (by have := World.block_lt_of_cell? _ _ hw485_1; first | rwa [add_block] at this | exact this) GW470.out) | (rw [add_block]; exact Nat.ne_of_lt (Nat.lt_of_lt_of_le (by have := World.block_lt_of_cell? _ _ hw485_1; first | rwa [add_block] at this | exact this) GW470.out)) | (show (Addr.add _ _).block ≠ _; rw [add_block]; exact Nat.ne_of_lt (Nat.lt_of_lt_of_le (by have := World.block_lt_of_cell? _ _ hw485_1; first | rwa [add_block] at this | exact this) GW470.out)) | (dsimp only; exact Nat.ne_of_lt (Nat.lt_of_lt_of_le (by have := World.block_lt_of_cell? _ _ hw485_1; first | rwa [add_block] at this | exact this) GW470.out))) _).trans (((cell_far (p := ⟨gb470, _, none⟩) (by first | exact Nat.ne_of_lt (Nat.lt_of_lt_of_le (by have := World.block_lt_of_cell? _ _ hw485_1; first | rwa [add_block] at this | exact this) GW470.out) | (rw [add_block]; exact Nat.ne_of_lt (Nat.lt_of_lt_of_le (by have := World.block_lt_of_cell? _ _ hw485_1; first | rwa [add_block] at this | exact this) GW470.out)) | (show (Addr.add _ _).block ≠ _; rw [add_block]; exact Nat.ne_of_lt (Nat.lt_of_lt_of_le (by have := World.block_lt_of_cell? _ _ hw485_1; first | rwa [add_block] at this | exact this) GW470.out)) | (dsimp only; exact Nat.ne_of_lt (Nat.lt_of_lt_of_le (by have := World.block_lt_of_cell? _ _ hw485_1; first | rwa [add_block] at this | exact this) GW470.out))) _).trans (hHeld.2.2.2.2))))))))))))))⟩ (fun hHeld => ?_)
          clear hK K
          refine done_ (done_of HT_.out (by kernel_rfl)) ?_
          try go_wp2
          refine bodyPost_ret (results_cell_row rfl _ _ gb470 81 #[.slice Ao19 t475.length co19, .slice none 0 0, .slice none 0 0, .slice Ao21 t482.length co21, .slice none 0 0, .slice none 0 0, .string ((rd_T39 l0_0 a1).f0)] (0, 0) _ rfl (by (with_reducible repeat (first | refine blk_drewN ?_ _ | refine blk_drew ?_ | refine blk_alloc ?_ _)); refine blk_put (cs := #[.slice Ao19 t475.length co19, .slice none 0 0, .slice none 0 0, .slice Ao21 t482.length co21, .slice none 0 0, .slice none 0 0, .string (⟨#[]⟩ : ByteArray)]) ?_ 6 _ rfl; (with_reducible repeat (first | refine blk_drewN ?_ _ | refine blk_drew ?_ | refine blk_alloc ?_ _)); refine blk_put (cs := #[.slice Ao19 t475.length co19, .slice none 0 0, .slice none 0 0, .slice Ao21 t482.length co21, .slice none 0 0, .slice none 0 0, .string (⟨#[]⟩ : ByteArray)]) ?_ 5 _ rfl; (with_reducible repeat (first | refine blk_drewN ?_ _ | refine blk_drew ?_ | refine blk_alloc ?_ _)); refine blk_put (cs := #[.slice Ao19 t475.length co19, .slice none 0 0, .slice none 0 0, .slice Ao21 t482.length co21, .slice none 0 0, .slice none 0 0, .string (⟨#[]⟩ : ByteArray)]) ?_ 4 _ rfl; (with_reducible repeat (first | refine blk_drewN ?_ _ | refine blk_drew ?_ | refine blk_alloc ?_ _)); refine blk_put (cs := #[.slice Ao19 t475.length co19, .slice none 0 0, .slice none 0 0, .slice none 0 0, .slice none 0 0, .slice none 0 0, .string (⟨#[]⟩ : ByteArray)]) ?_ 3 _ rfl; (with_reducible repeat (first | refine blk_drewN ?_ _ | refine blk_drew ?_ | refine blk_alloc ?_ _)); refine blk_put (cs := #[.slice Ao19 t475.length co19, .slice none 0 0, .slice none 0 0, .slice none 0 0, .slice none 0 0, .slice none 0 0, .string (⟨#[]⟩ : ByteArray)]) ?_ 2 _ rfl; (with_reducible repeat (first | refine blk_drewN ?_ _ | refine blk_drew ?_ | refine blk_alloc ?_ _)); refine blk_put (cs := #[.slice Ao19 t475.length co19, .slice none 0 0, .slice none 0 0, .slice none 0 0, .slice none 0 0, .slice none 0 0, .string (⟨#[]⟩ : ByteArray)]) ?_ 1 _ rfl; (with_reducible repeat (first | refine blk_drewN ?_ _ | refine blk_drew ?_ | refine blk_alloc ?_ _)); refine blk_put (cs := #[.slice none 0 0, .slice none 0 0, .slice none 0 0, .slice none 0 0, .slice none 0 0, .slice none 0 0, .string (⟨#[]⟩ : ByteArray)]) ?_ 0 _ rfl; (with_reducible repeat (first | refine blk_drewN ?_ _ | refine blk_drew ?_ | refine blk_alloc ?_ _)); exact BK470.out) Try.underlying81 rfl (by kernel_rfl)) rfl ?_
          exact ⟨_, _, _, _, _, _, by first | rfl | (simp [errW_none, errW_some] <;> rfl) | (simp [errW_none, errW_some]; exact ⟨rfl, rfl, rfl⟩) | (simp [*, errW_none, errW_some] <;> rfl), by (with_reducible repeat (first | apply Kd.R_alloc | apply Kd.R_drewN | apply Kd.R_drew)); exact Kd.R_mono (Kd.R_far (p := ⟨gb470, 6, none⟩) (Kd.R_far (p := ⟨gb470, 5, none⟩) (Kd.R_far (p := ⟨gb470, 4, none⟩) (Kd.R_far (p := ⟨gb470, 3, none⟩) (Kd.R_far (p := ⟨gb470, 2, none⟩) (Kd.R_far (p := ⟨gb470, 1, none⟩) (Kd.R_far (p := ⟨gb470, 0, none⟩) (Kd.R_types HO477.out BK470.out (by decide)) (fun _ hk => hk.2) (.slice Ao19 t475.length co19)) (fun _ hk => hk.2) (.slice none 0 0)) (fun _ hk => hk.2) (.slice none 0 0)) (fun _ hk => hk.2) (.slice Ao21 t482.length co21)) (fun _ hk => hk.2) (.slice none 0 0)) (fun _ hk => hk.2) (.slice none 0 0)) (fun _ hk => hk.2) (.string ((rd_T39 l0_0 a1).f0))) (fun _ hk => hk.1.2), by first | exact Kd.R_nil _ _ _ _ _ | exact Kd.N_nil _ _ _ _ _ | exact Kd.V_nil _ _ _ _ _ | exact Kd.Q_nil _ _ _ _ _ | exact Kd.S_nil _ _ _ _ _, by first | exact Kd.R_nil _ _ _ _ _ | exact Kd.N_nil _ _ _ _ _ | exact Kd.V_nil _ _ _ _ _ | exact Kd.Q_nil _ _ _ _ _ | exact Kd.S_nil _ _ _ _ _, by (with_reducible repeat (first | apply Kd.R_alloc | apply Kd.R_drewN | apply Kd.R_drew)); exact Kd.R_mono (Kd.R_far (p := ⟨gb470, 6, none⟩) (Kd.R_far (p := ⟨gb470, 5, none⟩) (Kd.R_far (p := ⟨gb470, 4, none⟩) (Kd.R_far (p := ⟨gb470, 3, none⟩) (Kd.R_far (p := ⟨gb470, 2, none⟩) (Kd.R_far (p := ⟨gb470, 1, none⟩) (Kd.R_far (p := ⟨gb470, 0, none⟩) (Kd.R_types HO484.out BK470.out (by decide)) (fun _ hk => hk.2) (.slice Ao19 t475.length co19)) (fun _ hk => hk.2) (.slice none 0 0)) (fun _ hk => hk.2) (.slice none 0 0)) (fun _ hk => hk.2) (.slice Ao21 t482.length co21)) (fun _ hk => hk.2) (.slice none 0 0)) (fun _ hk => hk.2) (.slice none 0 0)) (fun _ hk => hk.2) (.string ((rd_T39 l0_0 a1).f0))) (fun _ hk => hk.1.2), by first | exact Kd.R_nil _ _ _ _ _ | exact Kd.N_nil _ _ _ _ _ | exact Kd.V_nil _ _ _ _ _ | exact Kd.Q_nil _ _ _ _ _ | exact Kd.S_nil _ _ _ _ _, by first | exact Kd.R_nil _ _ _ _ _ | exact Kd.N_nil _ _ _ _ _ | exact Kd.V_nil _ _ _ _ _ | exact Kd.Q_nil _ _ _ _ _ | exact Kd.S_nil _ _ _ _ _, by repeat (first | (with_reducible first | exact HB.out | apply below_alloc | apply pw_below_drewN | apply below_drew1 | refine below_set ?_ GE469.out | refine below_set ?_ GE470.out) | exact HB.out)⟩
        · rw [if_neg c10] at H
          exact absurd H (by simp)
      · rw [if_neg c5] at H
        exact absurd H (by simp)
    · rw [if_neg c4] at H
      exact absurd H (by simp)
  · rw [if_neg c3] at H
    have c3b0 : ((l0_2.length : Int) == 0) = false := beq_eq_false_iff_ne.mpr c3
    have c3b1 : ((l0_2.length : Int) != 0) = true := bne_iff_ne.mpr c3
    have c3b2 : ¬ (l0_2 = []) := fun h_ => c3 (by rw [h_]; rfl)
    obtain ⟨ji29, hji29⟩ : ∃ j_ : Int, (wrap64 (a1 - 1)) = j_ := ⟨_, rfl⟩
    replace H : (if 0 ≤ (ji29) then (if (ji29) ≤ (l0_1.length : Int) then ((slices_Clone_string_string.f (l0_1.take ((ji29) : Int).toNat)).bind fun t487 => (if 0 ≤ a1 then (if a1 ≤ (l0_2.length : Int) then ((slices_Clone_uint32_uint32.f (l0_2.take (a1 : Int).toNat)).bind fun t491 => (if a1 ≤ (l0_1.length : Int) then ((slices_Clone_string_string.f (l0_1.drop (a1 : Int).toNat)).bind fun t496 => ((slices_Clone_uint32_uint32.f (l0_2.drop (a1 : Int).toNat)).bind fun t500 => (if (ji29) < (l0_1.length : Int) then (some (([] : List (S39)), t487, t491, ([] : List (S39)), t496, t500, rdOf ByteArray.empty l0_1 (ji29))) else (none)))) else (none))) else (none)) else (none))) else (none)) else (none)) = some (r1, r2, r3, r4, r5, r6, r7) := by first | (rw [hji29] at H; exact H) | (simp only [hji29] at H ⊢; exact H)
    have hji29w : (IntKind.i64.wrap (a1 - 1)) = ji29 := (i64_w _).trans hji29
    by_cases c30 : 0 ≤ (ji29)
    · rw [if_pos c30] at H
      have c30b0 := eq_true c30
      have c30b1 : decide (0 ≤ (ji29)) = true := decide_eq_true c30
      clear c30
      by_cases c31 : (ji29) ≤ (l0_1.length : Int)
      · rw [if_pos c31] at H
        have c31b0 := eq_true c31
        have c31b1 : decide ((ji29) ≤ (l0_1.length : Int)) = true := decide_eq_true c31
        clear c31
        replace H := Option.bind_eq_some_iff.mp H
        obtain ⟨t487, A320, H⟩ := H
        replace H : (if 0 ≤ a1 then (if a1 ≤ (l0_2.length : Int) then ((slices_Clone_uint32_uint32.f (l0_2.take (a1 : Int).toNat)).bind fun t491 => (if a1 ≤ (l0_1.length : Int) then ((slices_Clone_string_string.f (l0_1.drop (a1 : Int).toNat)).bind fun t496 => ((slices_Clone_uint32_uint32.f (l0_2.drop (a1 : Int).toNat)).bind fun t500 => (if (ji29) < (l0_1.length : Int) then (some (([] : List (S39)), t487, t491, ([] : List (S39)), t496, t500, rdOf ByteArray.empty l0_1 (ji29))) else (none)))) else (none))) else (none)) else (none)) = some (r1, r2, r3, r4, r5, r6, r7) := H
        have A32 := Aside0.mk A320
        clear A320
        by_cases c33 : 0 ≤ a1
        · rw [if_pos c33] at H
          have c33b0 := eq_true c33
          have c33b1 : decide (0 ≤ a1) = true := decide_eq_true c33
          clear c33
          by_cases c34 : a1 ≤ (l0_2.length : Int)
          · rw [if_pos c34] at H
            have c34b0 := eq_true c34
            have c34b1 : decide (a1 ≤ (l0_2.length : Int)) = true := decide_eq_true c34
            clear c34
            replace H := Option.bind_eq_some_iff.mp H
            obtain ⟨t491, A350, H⟩ := H
            replace H : (if a1 ≤ (l0_1.length : Int) then ((slices_Clone_string_string.f (l0_1.drop (a1 : Int).toNat)).bind fun t496 => ((slices_Clone_uint32_uint32.f (l0_2.drop (a1 : Int).toNat)).bind fun t500 => (if (ji29) < (l0_1.length : Int) then (some (([] : List (S39)), t487, t491, ([] : List (S39)), t496, t500, rdOf ByteArray.empty l0_1 (ji29))) else (none)))) else (none)) = some (r1, r2, r3, r4, r5, r6, r7) := H
            have A35 := Aside0.mk A350
            clear A350
            have c36b0 := eq_true (of_decide_eq_true (by first | (with_reducible assumption) | assumption) : 0 ≤ a1)
            by_cases c37 : a1 ≤ (l0_1.length : Int)
            · rw [if_pos c37] at H
              have c37b0 := eq_true c37
              have c37b1 : decide (a1 ≤ (l0_1.length : Int)) = true := decide_eq_true c37
              clear c37
              replace H := Option.bind_eq_some_iff.mp H
              obtain ⟨t496, A380, H⟩ := H
              replace H : ((slices_Clone_uint32_uint32.f (l0_2.drop (a1 : Int).toNat)).bind fun t500 => (if (ji29) < (l0_1.length : Int) then (some (([] : List (S39)), t487, t491, ([] : List (S39)), t496, t500, rdOf ByteArray.empty l0_1 (ji29))) else (none))) = some (r1, r2, r3, r4, r5, r6, r7) := H
              have A38 := Aside0.mk A380
              clear A380
              have c39b0 := eq_true (of_decide_eq_true (by first | (with_reducible assumption) | assumption) : 0 ≤ a1)
              have c40b0 := eq_true (of_decide_eq_true (by first | (with_reducible assumption) | assumption) : a1 ≤ (l0_2.length : Int))
              replace H := Option.bind_eq_some_iff.mp H
              obtain ⟨t500, A410, H⟩ := H
              replace H : (if (ji29) < (l0_1.length : Int) then (some (([] : List (S39)), t487, t491, ([] : List (S39)), t496, t500, rdOf ByteArray.empty l0_1 (ji29))) else (none)) = some (r1, r2, r3, r4, r5, r6, r7) := H
              have A41 := Aside0.mk A410
              clear A410
              by_cases c42 : (ji29) < (l0_1.length : Int)
              · rw [if_pos c42] at H
                have c42b0 : decide ((ji29) < (l0_1.length : Int)) = true := decide_eq_true c42
                clear c42
                simp only [Option.some.injEq, Prod.mk.injEq] at H
                obtain ⟨rfl, rfl, rfl, rfl, rfl, rfl, rfl⟩ := H
                go_enter Try.func50, Try.ntmps50
                try go_wp2_with (first | ((with_reducible refine gate_dst (N := 2) rfl ?_); refine box_event ?hg (N := 2) ?hd (cs := #[.slice A0_0 l0_0.length c0_0, .slice A0_1 l0_1.length c0_1, .slice A0_2 l0_2.length c0_2]) (t := 26) ?hr ?_; (case hd => rfl); (case hg => rfl); (case hr => first | (go_simp; done) | (go_simp; rfl)); intro gb469 hg w43 hbox hb; have BK469 := Aside0.mk (hbox); have GW469 := Aside0.mk ((by rw [hg]; exact (below_size (L_ HB.out)) : w.heap.size ≤ gb469)); have GE469 := Aside0.mk ((by rw [hg]; exact (below_size (L_ HB.out)) : w.heap.size ≤ gb469)); replace HB := Aside0.mk (below_step (L_ HB.out) hb); clear hb hbox hg) | ((with_reducible refine gate_dst (N := 4) rfl ?_); refine box_event ?hg (N := 4) ?hd (cs := #[.slice none 0 0, .slice none 0 0, .slice none 0 0, .slice none 0 0, .slice none 0 0, .slice none 0 0, .string (⟨#[]⟩ : ByteArray)]) (t := 81) ?hr ?_; (case hd => rfl); (case hg => rfl); (case hr => first | (go_simp; done) | (go_simp; rfl)); intro gb470 hg w44 hbox hb; have BK470 := Aside0.mk (hbox); have GW470 := Aside0.mk ((by rw [hg]; exact (below_size (L_ HB.out)) : w.heap.size ≤ gb470)); have GE470 := Aside0.mk ((by rw [hg]; exact (below_size (L_ HB.out)) : w.heap.size ≤ gb470)); have NB469_470 := Aside0.mk ((by rw [hg]; exact Nat.ne_of_lt (blk_lt (g := gb469) (o := .cells #[.slice A0_0 l0_0.length c0_0, .slice A0_1 l0_1.length c0_1, .slice A0_2 l0_2.length c0_2] 26 (0, 0)) (B_ BK469.out)) : gb469 ≠ gb470)); have NB470_469 := Aside0.mk ((by rw [hg]; exact Nat.ne_of_gt (blk_lt (g := gb469) (o := .cells #[.slice A0_0 l0_0.length c0_0, .slice A0_1 l0_1.length c0_1, .slice A0_2 l0_2.length c0_2] 26 (0, 0)) (B_ BK469.out)) : gb470 ≠ gb469)); replace BK469 := Aside0.mk (blk_below (g := gb469) (o := .cells #[.slice A0_0 l0_0.length c0_0, .slice A0_1 l0_1.length c0_1, .slice A0_2 l0_2.length c0_2] 26 (0, 0)) (B_ BK469.out) hb); replace HB := Aside0.mk (below_step (L_ HB.out) hb); clear hb hbox hg; have hnb45 := NB469_470.out; have hnc45 := NB470_469.out; have hcz46_0 : w44.cell? ⟨gb469, 0, none⟩ = some (.slice A0_0 l0_0.length c0_0) := (blk_cell BK469.out 0).trans rfl; have hcz46_1 : w44.cell? ⟨gb469, 1, none⟩ = some (.slice A0_1 l0_1.length c0_1) := (blk_cell BK469.out 1).trans rfl; have hcz46_2 : w44.cell? ⟨gb469, 2, none⟩ = some (.slice A0_2 l0_2.length c0_2) := (blk_cell BK469.out 2).trans rfl; have hfz46_0 := blk_frozen BK469.out 0; have hfz46_1 := blk_frozen BK469.out 1; have hfz46_2 := blk_frozen BK469.out 2))
                replace BK469 := Aside0.mk (blk_drew BK469.out)
                replace BK470 := Aside0.mk (blk_drew BK470.out)
                replace HB := Aside0.mk (below_drew1 HB.out)
                obtain ⟨i048, hi048, _, hsz48, _⟩ := info_parts info9
                obtain ⟨hcut48, hA48, hC48⟩ := print_take_of (P := Try.prog) Value.string (⟨#[]⟩ : ByteArray) 23 9 .i64 Try.underlying23 hi048 hsz48 A0_1 c0_1 l0_1 (ji29) (of_decide_eq_true (by first | (with_reducible assumption) | assumption)) (of_decide_eq_true (by first | (with_reducible assumption) | assumption)) HC0_1.out
                have HR486 := Aside0.mk (Kd.C_of_reads (h1 := fun _ => rfl) (hA48 _ (Kd.reads_of_C HR0_1.out)))
                have HC486 := Aside0.mk hC48
                clear hA48 hC48 hi048 hsz48
                obtain ⟨i049, hi049, _, hsz49, _⟩ := info_parts info65
                obtain ⟨hcut49, hA49, hC49⟩ := print_take_of (P := Try.prog) (Value.int .u32) 0 24 65 .i64 Try.underlying24 hi049 hsz49 A0_2 c0_2 l0_2 a1 (of_decide_eq_true (by first | (with_reducible assumption) | assumption)) (of_decide_eq_true (by first | (with_reducible assumption) | assumption)) HC0_2.out
                have HR490 := Aside0.mk (Kd.C_of_reads (h1 := fun _ => rfl) (hA49 _ (Kd.reads_of_C HR0_2.out)))
                have HC490 := Aside0.mk hC49
                clear hA49 hC49 hi049 hsz49
                refine start_ (n := 14) (S := fun w' => w'.cell? ⟨gb469, 0, none⟩ = some (.slice A0_0 l0_0.length c0_0) ∧ w'.cell? ⟨gb469, 1, none⟩ = some (.slice A0_1 l0_1.length c0_1) ∧ w'.cell? ⟨gb469, 2, none⟩ = some (.slice A0_2 l0_2.length c0_2)) (ds := []) #[false, false, false, false, false, false, false, false, false, false, false, false, false, false] (by kernel_rfl) rfl rfl ⟨(blk_cell BK469.out 0).trans rfl, (blk_cell BK469.out 1).trans rfl, (blk_cell BK469.out 2).trans rfl⟩ (fun hHeld => ?_); refine with_tabW node_cut.tab3 node_cut.bits3 (fun HT_ HW_ => ?_)
                generalize w44.drew = w47 at BK469 BK470 HB HR486 HR490 hHeld ⊢
                refine pure_ (i := 0) (N := some 29) (v := ?_) (a' := ?_) #[true, false, false, false, false, false, false, false, false, false, false, false, false, false] rfl rfl (any_of HT_.out (by kernel_rfl)) (fun _ _ _ h => h) (Or.inl ⟨by rfl, ?_⟩) ?_ ?_
                rotate_left
                · intro w'
                  go_simp
                  with_reducible rfl
                rotate_left
                · simp only [Act.put, List.setIfInBounds_toArray, List.set_cons_zero, List.set_cons_succ, i64_w, i32_w]
                  rfl
                refine pure_ (i := 2) (N := some 31) (v := ?_) (a' := ?_) #[true, false, true, false, false, false, false, false, false, false, false, false, false, false] rfl rfl (any_of HT_.out (by kernel_rfl)) (fun _ _ _ h => h) (Or.inl ⟨by rfl, ?_⟩) ?_ ?_
                rotate_left
                · intro w'
                  go_simp
                  with_reducible rfl
                rotate_left
                · simp only [Act.put, List.setIfInBounds_toArray, List.set_cons_zero, List.set_cons_succ, i64_w, i32_w]
                  rfl
                refine pure_ (i := 3) (N := some 32) (v := ?_) (a' := ?_) #[true, false, true, true, false, false, false, false, false, false, false, false, false, false] rfl rfl (any_of HT_.out (by kernel_rfl)) (fun _ _ _ h => h) (Or.inl ⟨by rfl, ?_⟩) ?_ ?_
                rotate_left
                · intro w'
                  go_simp
                  with_reducible rfl
                rotate_left
                · simp only [Act.put, List.setIfInBounds_toArray, List.set_cons_zero, List.set_cons_succ, i64_w, i32_w]
                  rfl
                refine pure_ (i := 6) (N := some 35) (v := ?_) (a' := ?_) #[true, false, true, true, false, false, true, false, false, false, false, false, false, false] rfl rfl (any_of HT_.out (by kernel_rfl)) (fun _ _ _ h => h) (Or.inl ⟨by rfl, ?_⟩) ?_ ?_
                rotate_left
                · intro w'
                  go_simp
                  with_reducible rfl
                rotate_left
                · simp only [Act.put, List.setIfInBounds_toArray, List.set_cons_zero, List.set_cons_succ, i64_w, i32_w]
                  rfl
                refine pure_ (i := 8) (N := some 37) (v := ?_) (a' := ?_) #[true, false, true, true, false, false, true, false, true, false, false, false, false, false] rfl rfl (any_of HT_.out (by kernel_rfl)) (fun _ _ _ h => h) (Or.inl ⟨by rfl, ?_⟩) ?_ ?_
                rotate_left
                · intro w'
                  go_simp
                  with_reducible rfl
                rotate_left
                · simp only [Act.put, List.setIfInBounds_toArray, List.set_cons_zero, List.set_cons_succ, i64_w, i32_w]
                  rfl
                refine take_ (i := 1) (N := some 30) (v := ?_) (a' := ?_) #[true, true, true, true, false, false, true, false, true, false, false, false, false, false] rfl rfl (take_ofW HT_.out HW_.out (by kernel_rfl)) (fun _ _ _ h => h) (Or.inl ⟨by rfl, ?_⟩) hHeld ?_ ?_
                rotate_left
                · rintro w' ⟨s0, s1, s2⟩
                  go_simp
                  with_reducible rfl
                rotate_left
                · simp only [Act.put, List.setIfInBounds_toArray, List.set_cons_zero, List.set_cons_succ, i64_w, i32_w]
                  rfl
                refine pure_ (i := 4) (N := some 33) (v := ?_) (a' := ?_) #[true, true, true, true, true, false, true, false, true, false, false, false, false, false] rfl rfl (any_of HT_.out (by kernel_rfl)) (fun _ _ _ h => h) (Or.inl ⟨by rfl, ?_⟩) ?_ ?_
                rotate_left
                · intro w'
                  go_simp
                  with_reducible rfl
                rotate_left
                · simp only [Act.put, List.setIfInBounds_toArray, List.set_cons_zero, List.set_cons_succ, i64_w, i32_w]
                  rfl
                refine take_ (i := 7) (N := some 36) (v := ?_) (a' := ?_) #[true, true, true, true, true, false, true, true, true, false, false, false, false, false] rfl rfl (take_ofW HT_.out HW_.out (by kernel_rfl)) (fun _ _ _ h => h) (Or.inl ⟨by rfl, ?_⟩) hHeld ?_ ?_
                rotate_left
                · rintro w' ⟨s0, s1, s2⟩
                  go_simp
                  with_reducible rfl
                rotate_left
                · simp only [Act.put, List.setIfInBounds_toArray, List.set_cons_zero, List.set_cons_succ, i64_w, i32_w]
                  rfl
                refine pure_ (i := 9) (N := some 38) (v := ?_) (a' := ?_) #[true, true, true, true, true, false, true, true, true, true, false, false, false, false] rfl rfl (any_of HT_.out (by kernel_rfl)) (fun _ _ _ h => h) (Or.inl ⟨by rfl, ?_⟩) ?_ ?_
                rotate_left
                · intro w'
                  go_simp
                  with_reducible rfl
                rotate_left
                · simp only [Act.put, List.setIfInBounds_toArray, List.set_cons_zero, List.set_cons_succ, i64_w, i32_w]
                  rfl
                refine join_ (σ := Value × Value × Nat) 1 #[true, true, true, true, true, true, true, true, true, true, true, true, true, false] (fun s_ => [(34, s_.1), (39, s_.2.1), (5, .pointer (some ⟨s_.2.2, 0, none⟩)), (40, .agg #[.slice none 0 0, s_.1, s_.2.1])]) (fun s_ w' => (w'.cell? ⟨gb469, 0, none⟩ = some (.slice A0_0 l0_0.length c0_0) ∧ w'.cell? ⟨gb469, 1, none⟩ = some (.slice A0_1 l0_1.length c0_1) ∧ w'.cell? ⟨gb469, 2, none⟩ = some (.slice A0_2 l0_2.length c0_2)) ∧ (Kd.R Kd.string 9 w' w.heap.size (fun _ => True) s_.1 t487) ∧ (Kd.R (Kd.int .u32) 65 w' w.heap.size (fun _ => True) s_.2.1 t491) ∧ (w'.heap[gb469]? = some (.cells #[.slice A0_0 l0_0.length c0_0, .slice A0_1 l0_1.length c0_1, .slice A0_2 l0_2.length c0_2] 26 (0, 0))) ∧ (w'.heap[gb470]? = some (.cells #[.slice none 0 0, .slice none 0 0, .slice none 0 0, .slice none 0 0, .slice none 0 0, .slice none 0 0, .string (⟨#[]⟩ : ByteArray)] 81 (0, 0))) ∧ (w'.heap[s_.2.2]? = some (.cells #[.slice none 0 0, .slice none 0 0, .slice none 0 0] 26 (0, 0))) ∧ (w.heap.size ≤ s_.2.2) ∧ (w.heap.size ≤ s_.2.2) ∧ (gb469 ≠ s_.2.2) ∧ (s_.2.2 ≠ gb469) ∧ (gb470 ≠ s_.2.2) ∧ (s_.2.2 ≠ gb470) ∧ (Below w.heap.size w w')) ?_ ?_
                rotate_left
                · intro hCont
                  refine two_ (i := 5) (j := 12) (Ni := some 34) (Nj := some 5) #[true, true, true, true, true, true, true, true, true, true, false, false, false, false] #[true, true, true, true, true, false, true, true, true, true, false, false, true, false] rfl rfl rfl rfl (two_of HT_.out (by kernel_rfl)) (by decide) (by decide) (fun K hK => ?_) (fun K hK => ?_)
                  · skip
                    refine goes_ Try.func69 (by kernel_rfl) rfl #[.slice A0_1 (l0_1.take ((ji29) : Int).toNat).length c0_1] (by rfl) rfl rfl (by (try simp only [List.map_toArray, List.map_cons, List.map_nil]); first | done | (rw [show (l0_1.take ((ji29) : Int).toNat).length = (ji29).toNat from (by rw [List.length_take]; have h_ : ((ji29) : Int) ≤ (l0_1.length : Int) := of_decide_eq_true (by first | (with_reducible assumption) | assumption); omega)] <;> rfl) | (simp only [hji29]; rfl) | rfl | (simp only [List.length_drop, List.length_take]; rfl)) ?_
                    with_reducible refine (slices_Clone_string_string.calls _ _ (l0_1.take ((ji29) : Int).toNat) t487 _ ?side1 ?side2 A32.out).mono ?_
                    (case side1 => repeat (first | exact (Kd.C_below HR486.out HB.out) | (with_reducible refine Kd.C_alloc ?_ _) | (with_reducible refine Kd.C_drewN ?_ _) | (with_reducible refine Kd.C_drew ?_)))
                    (case side2 => exact HC486.out)
                    rintro e w50 ⟨v488, rfl, ho0, hb⟩
                    refine ⟨_, rfl, ?_⟩
                    have HO489 := Aside0.mk (Kd.R_lower ho0 (below_size (L_ HB.out)))
                    replace BK469 := Aside0.mk (blk_below (g := gb469) (o := .cells #[.slice A0_0 l0_0.length c0_0, .slice A0_1 l0_1.length c0_1, .slice A0_2 l0_2.length c0_2] 26 (0, 0)) (B_ BK469.out) hb)
                    replace BK470 := Aside0.mk (blk_below (g := gb470) (o := .cells #[.slice none 0 0, .slice none 0 0, .slice none 0 0, .slice none 0 0, .slice none 0 0, .slice none 0 0, .string (⟨#[]⟩ : ByteArray)] 81 (0, 0)) (B_ BK470.out) hb)
                    replace HB := Aside0.mk (below_step (L_ HB.out) hb)
                    (try clear hb)
                    (try clear hb2)
                    (try clear hk)
                    (try clear hi)
                    (try clear ho0)
                    refine hK.out _ _ ⟨(blk_cell BK469.out 0).trans rfl, (blk_cell BK469.out 1).trans rfl, (blk_cell BK469.out 2).trans rfl⟩ (fun hHeld => ?_)
                    clear hK K
                    refine norm_ (a' := ?_) ?_ ?_
                    rotate_left
                    · show Act.put _ (some 34) _ = _
                      simp only [Act.put, List.setIfInBounds_toArray, List.set_cons_zero, List.set_cons_succ, i64_w, i32_w]
                      rfl
                    refine two_ (i := 10) (j := 12) (Ni := some 39) (Nj := some 5) #[true, true, true, true, true, true, true, true, true, true, true, false, false, false] #[true, true, true, true, true, true, true, true, true, true, false, false, true, false] rfl rfl rfl rfl (two_of HT_.out (by kernel_rfl)) (by decide) (by decide) (fun K hK => ?_) (fun K hK => ?_)
                    · skip
                      refine goes_ Try.func71 (by kernel_rfl) rfl #[.slice A0_2 (l0_2.take (a1 : Int).toNat).length c0_2] (by rfl) rfl rfl (by (try simp only [List.map_toArray, List.map_cons, List.map_nil]); first | done | (rw [show (l0_2.take (a1 : Int).toNat).length = a1.toNat from (by rw [List.length_take]; have h_ : (a1 : Int) ≤ (l0_2.length : Int) := of_decide_eq_true (by first | (with_reducible assumption) | assumption); omega)] <;> rfl) | rfl | (simp only [List.length_drop, List.length_take]; rfl)) ?_
                      with_reducible refine (slices_Clone_uint32_uint32.calls _ _ (l0_2.take (a1 : Int).toNat) t491 _ ?side1 ?side2 A35.out).mono ?_
                      (case side1 => repeat (first | exact (Kd.C_below HR490.out HB.out) | (with_reducible refine Kd.C_alloc ?_ _) | (with_reducible refine Kd.C_drewN ?_ _) | (with_reducible refine Kd.C_drew ?_)))
                      (case side2 => exact HC490.out)
                      rintro e w51 ⟨v492, rfl, ho0, hb⟩
                      refine ⟨_, rfl, ?_⟩
                      have HO493 := Aside0.mk (Kd.R_lower ho0 (below_size (L_ HB.out)))
                      replace HO489 := Aside0.mk (Kd.R_below (R_ HO489.out) hb)
                      replace BK469 := Aside0.mk (blk_below (g := gb469) (o := .cells #[.slice A0_0 l0_0.length c0_0, .slice A0_1 l0_1.length c0_1, .slice A0_2 l0_2.length c0_2] 26 (0, 0)) (B_ BK469.out) hb)
                      replace BK470 := Aside0.mk (blk_below (g := gb470) (o := .cells #[.slice none 0 0, .slice none 0 0, .slice none 0 0, .slice none 0 0, .slice none 0 0, .slice none 0 0, .string (⟨#[]⟩ : ByteArray)] 81 (0, 0)) (B_ BK470.out) hb)
                      replace HB := Aside0.mk (below_step (L_ HB.out) hb)
                      (try clear hb)
                      (try clear hb2)
                      (try clear hk)
                      (try clear hi)
                      (try clear ho0)
                      obtain ⟨Ao52, co52, eo52⟩ := Kd.R_slice HO493.out
                      (first | subst eo52 | (injection eo52 with f1_ f2_ f3_; have f4_ := f1_.symm; have f5_ := f3_.symm; clear f1_ f2_ f3_; subst f4_; subst f5_))
                      obtain ⟨Ao53, co53, eo53⟩ := Kd.R_slice HO489.out
                      (first | subst eo53 | (injection eo53 with f1_ f2_ f3_; have f4_ := f1_.symm; have f5_ := f3_.symm; clear f1_ f2_ f3_; subst f4_; subst f5_))
                      refine hK.out _ _ ⟨(blk_cell BK469.out 0).trans rfl, (blk_cell BK469.out 1).trans rfl, (blk_cell BK469.out 2).trans rfl⟩ (fun hHeld => ?_)
                      clear hK K
                      refine norm_ (a' := ?_) ?_ ?_
                      rotate_left
                      · show Act.put _ (some 39) _ = _
                        simp only [Act.put, List.setIfInBounds_toArray, List.set_cons_zero, List.set_cons_succ, i64_w, i32_w]
                        rfl
                      refine pure_ (i := 11) (N := some 40) (v := ?_) (a' := ?_) #[true, true, true, true, true, true, true, true, true, true, true, true, false, false] rfl rfl (any_of HT_.out (by kernel_rfl)) (fun _ _ _ h => h) (Or.inl ⟨by rfl, ?_⟩) ?_ ?_
                      rotate_left
                      · intro w'
                        go_simp
                        with_reducible rfl
                      rotate_left
                      · simp only [Act.put, List.setIfInBounds_toArray, List.set_cons_zero, List.set_cons_succ, i64_w, i32_w]
                        rfl
                      refine one_ (i := 12) (N := some 5) #[true, true, true, true, true, true, true, true, true, true, true, true, true, false] rfl rfl (one_of HT_.out (by kernel_rfl)) (by decide) (fun K hK => ?_)
                      refine box_step ?hg (N := 5) ?hd (cs := #[.slice none 0 0, .slice none 0 0, .slice none 0 0]) (t := 26) ?hr ?_; (case hd => rfl); (case hg => rfl); (case hr => first | (go_simp; done) | (go_simp; rfl))
                      intro gb494 hg w54 hbox hb
                      have BK494 := Aside0.mk (hbox)
                      have GW494 := Aside0.mk ((by rw [hg]; exact (below_size (L_ HB.out)) : w.heap.size ≤ gb494))
                      have GE494 := Aside0.mk ((by rw [hg]; exact (below_size (L_ HB.out)) : w.heap.size ≤ gb494))
                      have NB469_494 := Aside0.mk ((by rw [hg]; exact Nat.ne_of_lt (blk_lt (g := gb469) (o := .cells #[.slice A0_0 l0_0.length c0_0, .slice A0_1 l0_1.length c0_1, .slice A0_2 l0_2.length c0_2] 26 (0, 0)) (B_ BK469.out)) : gb469 ≠ gb494))
                      have NB494_469 := Aside0.mk ((by rw [hg]; exact Nat.ne_of_gt (blk_lt (g := gb469) (o := .cells #[.slice A0_0 l0_0.length c0_0, .slice A0_1 l0_1.length c0_1, .slice A0_2 l0_2.length c0_2] 26 (0, 0)) (B_ BK469.out)) : gb494 ≠ gb469))
                      have NB470_494 := Aside0.mk ((by rw [hg]; exact Nat.ne_of_lt (blk_lt (g := gb470) (o := .cells #[.slice none 0 0, .slice none 0 0, .slice none 0 0, .slice none 0 0, .slice none 0 0, .slice none 0 0, .string (⟨#[]⟩ : ByteArray)] 81 (0, 0)) (B_ BK470.out)) : gb470 ≠ gb494))
                      have NB494_470 := Aside0.mk ((by rw [hg]; exact Nat.ne_of_gt (blk_lt (g := gb470) (o := .cells #[.slice none 0 0, .slice none 0 0, .slice none 0 0, .slice none 0 0, .slice none 0 0, .slice none 0 0, .string (⟨#[]⟩ : ByteArray)] 81 (0, 0)) (B_ BK470.out)) : gb494 ≠ gb470))
                      replace HO489 := Aside0.mk (Kd.R_below (R_ HO489.out) hb)
                      replace HO493 := Aside0.mk (Kd.R_below (R_ HO493.out) hb)
                      replace BK469 := Aside0.mk (blk_below (g := gb469) (o := .cells #[.slice A0_0 l0_0.length c0_0, .slice A0_1 l0_1.length c0_1, .slice A0_2 l0_2.length c0_2] 26 (0, 0)) (B_ BK469.out) hb)
                      replace BK470 := Aside0.mk (blk_below (g := gb470) (o := .cells #[.slice none 0 0, .slice none 0 0, .slice none 0 0, .slice none 0 0, .slice none 0 0, .slice none 0 0, .string (⟨#[]⟩ : ByteArray)] 81 (0, 0)) (B_ BK470.out) hb)
                      replace HB := Aside0.mk (below_step (L_ HB.out) hb)
                      clear hb hbox hg
                      refine hK.out _ _ ⟨(blk_cell BK469.out 0).trans rfl, (blk_cell BK469.out 1).trans rfl, (blk_cell BK469.out 2).trans rfl⟩ (fun hHeld => ?_)
                      clear hK K
                      refine norm_ (a' := ?_) ?_ ?_
                      rotate_left
                      · show Act.put _ (some 5) _ = _
                        simp only [Act.put, List.setIfInBounds_toArray, List.set_cons_zero, List.set_cons_succ, i64_w, i32_w]
                        rfl
                      exact norm_ (by simp only [putAll, Act.put, List.setIfInBounds_toArray, List.set_cons_zero, List.set_cons_succ]) (hCont (.slice Ao53 t487.length co53, .slice Ao52 t491.length co52, gb494) _ ⟨hHeld, (R_ HO489.out), (R_ HO493.out), (B_ BK469.out), (B_ BK470.out), (B_ BK494.out), GW494.out, GE494.out, NB469_494.out, NB494_469.out, NB470_494.out, NB494_470.out, (L_ HB.out)⟩)
                    · skip
                      refine box_step ?hg (N := 5) ?hd (cs := #[.slice none 0 0, .slice none 0 0, .slice none 0 0]) (t := 26) ?hr ?_; (case hd => rfl); (case hg => rfl); (case hr => first | (go_simp; done) | (go_simp; rfl))
                      intro gb494 hg w51 hbox hb
                      have BK494 := Aside0.mk (hbox)
                      have GW494 := Aside0.mk ((by rw [hg]; exact (below_size (L_ HB.out)) : w.heap.size ≤ gb494))
                      have GE494 := Aside0.mk ((by rw [hg]; exact (below_size (L_ HB.out)) : w.heap.size ≤ gb494))
                      have NB469_494 := Aside0.mk ((by rw [hg]; exact Nat.ne_of_lt (blk_lt (g := gb469) (o := .cells #[.slice A0_0 l0_0.length c0_0, .slice A0_1 l0_1.length c0_1, .slice A0_2 l0_2.length c0_2] 26 (0, 0)) (B_ BK469.out)) : gb469 ≠ gb494))
                      have NB494_469 := Aside0.mk ((by rw [hg]; exact Nat.ne_of_gt (blk_lt (g := gb469) (o := .cells #[.slice A0_0 l0_0.length c0_0, .slice A0_1 l0_1.length c0_1, .slice A0_2 l0_2.length c0_2] 26 (0, 0)) (B_ BK469.out)) : gb494 ≠ gb469))
                      have NB470_494 := Aside0.mk ((by rw [hg]; exact Nat.ne_of_lt (blk_lt (g := gb470) (o := .cells #[.slice none 0 0, .slice none 0 0, .slice none 0 0, .slice none 0 0, .slice none 0 0, .slice none 0 0, .string (⟨#[]⟩ : ByteArray)] 81 (0, 0)) (B_ BK470.out)) : gb470 ≠ gb494))
                      have NB494_470 := Aside0.mk ((by rw [hg]; exact Nat.ne_of_gt (blk_lt (g := gb470) (o := .cells #[.slice none 0 0, .slice none 0 0, .slice none 0 0, .slice none 0 0, .slice none 0 0, .slice none 0 0, .string (⟨#[]⟩ : ByteArray)] 81 (0, 0)) (B_ BK470.out)) : gb494 ≠ gb470))
                      replace HO489 := Aside0.mk (Kd.R_below (R_ HO489.out) hb)
                      replace BK469 := Aside0.mk (blk_below (g := gb469) (o := .cells #[.slice A0_0 l0_0.length c0_0, .slice A0_1 l0_1.length c0_1, .slice A0_2 l0_2.length c0_2] 26 (0, 0)) (B_ BK469.out) hb)
                      replace BK470 := Aside0.mk (blk_below (g := gb470) (o := .cells #[.slice none 0 0, .slice none 0 0, .slice none 0 0, .slice none 0 0, .slice none 0 0, .slice none 0 0, .string (⟨#[]⟩ : ByteArray)] 81 (0, 0)) (B_ BK470.out) hb)
                      replace HB := Aside0.mk (below_step (L_ HB.out) hb)
                      clear hb hbox hg
                      refine hK.out _ _ ⟨(blk_cell BK469.out 0).trans rfl, (blk_cell BK469.out 1).trans rfl, (blk_cell BK469.out 2).trans rfl⟩ (fun hHeld => ?_)
                      clear hK K
                      refine norm_ (a' := ?_) ?_ ?_
                      rotate_left
                      · show Act.put _ (some 5) _ = _
                        simp only [Act.put, List.setIfInBounds_toArray, List.set_cons_zero, List.set_cons_succ, i64_w, i32_w]
                        rfl
                      refine one_ (i := 10) (N := some 39) #[true, true, true, true, true, true, true, true, true, true, true, false, true, false] rfl rfl (one_of HT_.out (by kernel_rfl)) (by decide) (fun K hK => ?_)
                      refine goes_ Try.func71 (by kernel_rfl) rfl #[.slice A0_2 (l0_2.take (a1 : Int).toNat).length c0_2] (by rfl) rfl rfl (by (try simp only [List.map_toArray, List.map_cons, List.map_nil]); first | done | (rw [show (l0_2.take (a1 : Int).toNat).length = a1.toNat from (by rw [List.length_take]; have h_ : (a1 : Int) ≤ (l0_2.length : Int) := of_decide_eq_true (by first | (with_reducible assumption) | assumption); omega)] <;> rfl) | rfl | (simp only [List.length_drop, List.length_take]; rfl)) ?_
                      with_reducible refine (slices_Clone_uint32_uint32.calls _ _ (l0_2.take (a1 : Int).toNat) t491 _ ?side1 ?side2 A35.out).mono ?_
                      (case side1 => repeat (first | exact (Kd.C_below HR490.out HB.out) | (with_reducible refine Kd.C_alloc ?_ _) | (with_reducible refine Kd.C_drewN ?_ _) | (with_reducible refine Kd.C_drew ?_)))
                      (case side2 => exact HC490.out)
                      rintro e w52 ⟨v492, rfl, ho0, hb⟩
                      refine ⟨_, rfl, ?_⟩
                      have HO493 := Aside0.mk (Kd.R_lower ho0 (below_size (L_ HB.out)))
                      replace HO489 := Aside0.mk (Kd.R_below (R_ HO489.out) hb)
                      replace BK469 := Aside0.mk (blk_below (g := gb469) (o := .cells #[.slice A0_0 l0_0.length c0_0, .slice A0_1 l0_1.length c0_1, .slice A0_2 l0_2.length c0_2] 26 (0, 0)) (B_ BK469.out) hb)
                      replace BK470 := Aside0.mk (blk_below (g := gb470) (o := .cells #[.slice none 0 0, .slice none 0 0, .slice none 0 0, .slice none 0 0, .slice none 0 0, .slice none 0 0, .string (⟨#[]⟩ : ByteArray)] 81 (0, 0)) (B_ BK470.out) hb)
                      replace BK494 := Aside0.mk (blk_below (g := gb494) (o := .cells #[.slice none 0 0, .slice none 0 0, .slice none 0 0] 26 (0, 0)) (B_ BK494.out) hb)
                      replace HB := Aside0.mk (below_step (L_ HB.out) hb)
                      (try clear hb)
                      (try clear hb2)
                      (try clear hk)
                      (try clear hi)
                      (try clear ho0)
                      obtain ⟨Ao53, co53, eo53⟩ := Kd.R_slice HO493.out
                      (first | subst eo53 | (injection eo53 with f1_ f2_ f3_; have f4_ := f1_.symm; have f5_ := f3_.symm; clear f1_ f2_ f3_; subst f4_; subst f5_))
                      obtain ⟨Ao54, co54, eo54⟩ := Kd.R_slice HO489.out
                      (first | subst eo54 | (injection eo54 with f1_ f2_ f3_; have f4_ := f1_.symm; have f5_ := f3_.symm; clear f1_ f2_ f3_; subst f4_; subst f5_))
                      refine hK.out _ _ ⟨(blk_cell BK469.out 0).trans rfl, (blk_cell BK469.out 1).trans rfl, (blk_cell BK469.out 2).trans rfl⟩ (fun hHeld => ?_)
                      clear hK K
                      refine norm_ (a' := ?_) ?_ ?_
                      rotate_left
                      · show Act.put _ (some 39) _ = _
                        simp only [Act.put, List.setIfInBounds_toArray, List.set_cons_zero, List.set_cons_succ, i64_w, i32_w]
                        rfl
                      refine pure_ (i := 11) (N := some 40) (v := ?_) (a' := ?_) #[true, true, true, true, true, true, true, true, true, true, true, true, true, false] rfl rfl (any_of HT_.out (by kernel_rfl)) (fun _ _ _ h => h) (Or.inl ⟨by rfl, ?_⟩) ?_ ?_
                      rotate_left
                      · intro w'
                        go_simp
                        with_reducible rfl
                      rotate_left
                      · simp only [Act.put, List.setIfInBounds_toArray, List.set_cons_zero, List.set_cons_succ, i64_w, i32_w]
                        rfl
                      exact norm_ (by simp only [putAll, Act.put, List.setIfInBounds_toArray, List.set_cons_zero, List.set_cons_succ]) (hCont (.slice Ao54 t487.length co54, .slice Ao53 t491.length co53, gb494) _ ⟨hHeld, (R_ HO489.out), (R_ HO493.out), (B_ BK469.out), (B_ BK470.out), (B_ BK494.out), GW494.out, GE494.out, NB469_494.out, NB494_469.out, NB470_494.out, NB494_470.out, (L_ HB.out)⟩)
                  · skip
                    refine box_step ?hg (N := 5) ?hd (cs := #[.slice none 0 0, .slice none 0 0, .slice none 0 0]) (t := 26) ?hr ?_; (case hd => rfl); (case hg => rfl); (case hr => first | (go_simp; done) | (go_simp; rfl))
                    intro gb494 hg w50 hbox hb
                    have BK494 := Aside0.mk (hbox)
                    have GW494 := Aside0.mk ((by rw [hg]; exact (below_size (L_ HB.out)) : w.heap.size ≤ gb494))
                    have GE494 := Aside0.mk ((by rw [hg]; exact (below_size (L_ HB.out)) : w.heap.size ≤ gb494))
                    have NB469_494 := Aside0.mk ((by rw [hg]; exact Nat.ne_of_lt (blk_lt (g := gb469) (o := .cells #[.slice A0_0 l0_0.length c0_0, .slice A0_1 l0_1.length c0_1, .slice A0_2 l0_2.length c0_2] 26 (0, 0)) (B_ BK469.out)) : gb469 ≠ gb494))
                    have NB494_469 := Aside0.mk ((by rw [hg]; exact Nat.ne_of_gt (blk_lt (g := gb469) (o := .cells #[.slice A0_0 l0_0.length c0_0, .slice A0_1 l0_1.length c0_1, .slice A0_2 l0_2.length c0_2] 26 (0, 0)) (B_ BK469.out)) : gb494 ≠ gb469))
                    have NB470_494 := Aside0.mk ((by rw [hg]; exact Nat.ne_of_lt (blk_lt (g := gb470) (o := .cells #[.slice none 0 0, .slice none 0 0, .slice none 0 0, .slice none 0 0, .slice none 0 0, .slice none 0 0, .string (⟨#[]⟩ : ByteArray)] 81 (0, 0)) (B_ BK470.out)) : gb470 ≠ gb494))
                    have NB494_470 := Aside0.mk ((by rw [hg]; exact Nat.ne_of_gt (blk_lt (g := gb470) (o := .cells #[.slice none 0 0, .slice none 0 0, .slice none 0 0, .slice none 0 0, .slice none 0 0, .slice none 0 0, .string (⟨#[]⟩ : ByteArray)] 81 (0, 0)) (B_ BK470.out)) : gb494 ≠ gb470))
                    replace BK469 := Aside0.mk (blk_below (g := gb469) (o := .cells #[.slice A0_0 l0_0.length c0_0, .slice A0_1 l0_1.length c0_1, .slice A0_2 l0_2.length c0_2] 26 (0, 0)) (B_ BK469.out) hb)
                    replace BK470 := Aside0.mk (blk_below (g := gb470) (o := .cells #[.slice none 0 0, .slice none 0 0, .slice none 0 0, .slice none 0 0, .slice none 0 0, .slice none 0 0, .string (⟨#[]⟩ : ByteArray)] 81 (0, 0)) (B_ BK470.out) hb)
                    replace HB := Aside0.mk (below_step (L_ HB.out) hb)
                    clear hb hbox hg
                    refine hK.out _ _ ⟨(blk_cell BK469.out 0).trans rfl, (blk_cell BK469.out 1).trans rfl, (blk_cell BK469.out 2).trans rfl⟩ (fun hHeld => ?_)
                    clear hK K
                    refine norm_ (a' := ?_) ?_ ?_
                    rotate_left
                    · show Act.put _ (some 5) _ = _
                      simp only [Act.put, List.setIfInBounds_toArray, List.set_cons_zero, List.set_cons_succ, i64_w, i32_w]
                      rfl
                    refine one_ (i := 5) (N := some 34) #[true, true, true, true, true, true, true, true, true, true, false, false, true, false] rfl rfl (one_of HT_.out (by kernel_rfl)) (by decide) (fun K hK => ?_)
                    refine goes_ Try.func69 (by kernel_rfl) rfl #[.slice A0_1 (l0_1.take ((ji29) : Int).toNat).length c0_1] (by rfl) rfl rfl (by (try simp only [List.map_toArray, List.map_cons, List.map_nil]); first | done | (rw [show (l0_1.take ((ji29) : Int).toNat).length = (ji29).toNat from (by rw [List.length_take]; have h_ : ((ji29) : Int) ≤ (l0_1.length : Int) := of_decide_eq_true (by first | (with_reducible assumption) | assumption); omega)] <;> rfl) | (simp only [hji29]; rfl) | rfl | (simp only [List.length_drop, List.length_take]; rfl)) ?_
                    with_reducible refine (slices_Clone_string_string.calls _ _ (l0_1.take ((ji29) : Int).toNat) t487 _ ?side1 ?side2 A32.out).mono ?_
                    (case side1 => repeat (first | exact (Kd.C_below HR486.out HB.out) | (with_reducible refine Kd.C_alloc ?_ _) | (with_reducible refine Kd.C_drewN ?_ _) | (with_reducible refine Kd.C_drew ?_)))
                    (case side2 => exact HC486.out)
                    rintro e w51 ⟨v488, rfl, ho0, hb⟩
                    refine ⟨_, rfl, ?_⟩
                    have HO489 := Aside0.mk (Kd.R_lower ho0 (below_size (L_ HB.out)))
                    replace BK469 := Aside0.mk (blk_below (g := gb469) (o := .cells #[.slice A0_0 l0_0.length c0_0, .slice A0_1 l0_1.length c0_1, .slice A0_2 l0_2.length c0_2] 26 (0, 0)) (B_ BK469.out) hb)
                    replace BK470 := Aside0.mk (blk_below (g := gb470) (o := .cells #[.slice none 0 0, .slice none 0 0, .slice none 0 0, .slice none 0 0, .slice none 0 0, .slice none 0 0, .string (⟨#[]⟩ : ByteArray)] 81 (0, 0)) (B_ BK470.out) hb)
                    replace BK494 := Aside0.mk (blk_below (g := gb494) (o := .cells #[.slice none 0 0, .slice none 0 0, .slice none 0 0] 26 (0, 0)) (B_ BK494.out) hb)
                    replace HB := Aside0.mk (below_step (L_ HB.out) hb)
                    (try clear hb)
                    (try clear hb2)
                    (try clear hk)
                    (try clear hi)
                    (try clear ho0)
                    refine hK.out _ _ ⟨(blk_cell BK469.out 0).trans rfl, (blk_cell BK469.out 1).trans rfl, (blk_cell BK469.out 2).trans rfl⟩ (fun hHeld => ?_)
                    clear hK K
                    refine norm_ (a' := ?_) ?_ ?_
                    rotate_left
                    · show Act.put _ (some 34) _ = _
                      simp only [Act.put, List.setIfInBounds_toArray, List.set_cons_zero, List.set_cons_succ, i64_w, i32_w]
                      rfl
                    refine one_ (i := 10) (N := some 39) #[true, true, true, true, true, true, true, true, true, true, true, false, true, false] rfl rfl (one_of HT_.out (by kernel_rfl)) (by decide) (fun K hK => ?_)
                    refine goes_ Try.func71 (by kernel_rfl) rfl #[.slice A0_2 (l0_2.take (a1 : Int).toNat).length c0_2] (by rfl) rfl rfl (by (try simp only [List.map_toArray, List.map_cons, List.map_nil]); first | done | (rw [show (l0_2.take (a1 : Int).toNat).length = a1.toNat from (by rw [List.length_take]; have h_ : (a1 : Int) ≤ (l0_2.length : Int) := of_decide_eq_true (by first | (with_reducible assumption) | assumption); omega)] <;> rfl) | rfl | (simp only [List.length_drop, List.length_take]; rfl)) ?_
                    with_reducible refine (slices_Clone_uint32_uint32.calls _ _ (l0_2.take (a1 : Int).toNat) t491 _ ?side1 ?side2 A35.out).mono ?_
                    (case side1 => repeat (first | exact (Kd.C_below HR490.out HB.out) | (with_reducible refine Kd.C_alloc ?_ _) | (with_reducible refine Kd.C_drewN ?_ _) | (with_reducible refine Kd.C_drew ?_)))
                    (case side2 => exact HC490.out)
                    rintro e w52 ⟨v492, rfl, ho0, hb⟩
                    refine ⟨_, rfl, ?_⟩
                    have HO493 := Aside0.mk (Kd.R_lower ho0 (below_size (L_ HB.out)))
                    replace HO489 := Aside0.mk (Kd.R_below (R_ HO489.out) hb)
                    replace BK469 := Aside0.mk (blk_below (g := gb469) (o := .cells #[.slice A0_0 l0_0.length c0_0, .slice A0_1 l0_1.length c0_1, .slice A0_2 l0_2.length c0_2] 26 (0, 0)) (B_ BK469.out) hb)
                    replace BK470 := Aside0.mk (blk_below (g := gb470) (o := .cells #[.slice none 0 0, .slice none 0 0, .slice none 0 0, .slice none 0 0, .slice none 0 0, .slice none 0 0, .string (⟨#[]⟩ : ByteArray)] 81 (0, 0)) (B_ BK470.out) hb)
                    replace BK494 := Aside0.mk (blk_below (g := gb494) (o := .cells #[.slice none 0 0, .slice none 0 0, .slice none 0 0] 26 (0, 0)) (B_ BK494.out) hb)
                    replace HB := Aside0.mk (below_step (L_ HB.out) hb)
                    (try clear hb)
                    (try clear hb2)
                    (try clear hk)
                    (try clear hi)
                    (try clear ho0)
                    obtain ⟨Ao53, co53, eo53⟩ := Kd.R_slice HO493.out
                    (first | subst eo53 | (injection eo53 with f1_ f2_ f3_; have f4_ := f1_.symm; have f5_ := f3_.symm; clear f1_ f2_ f3_; subst f4_; subst f5_))
                    obtain ⟨Ao54, co54, eo54⟩ := Kd.R_slice HO489.out
                    (first | subst eo54 | (injection eo54 with f1_ f2_ f3_; have f4_ := f1_.symm; have f5_ := f3_.symm; clear f1_ f2_ f3_; subst f4_; subst f5_))
                    refine hK.out _ _ ⟨(blk_cell BK469.out 0).trans rfl, (blk_cell BK469.out 1).trans rfl, (blk_cell BK469.out 2).trans rfl⟩ (fun hHeld => ?_)
                    clear hK K
                    refine norm_ (a' := ?_) ?_ ?_
                    rotate_left
                    · show Act.put _ (some 39) _ = _
                      simp only [Act.put, List.setIfInBounds_toArray, List.set_cons_zero, List.set_cons_succ, i64_w, i32_w]
                      rfl
                    refine pure_ (i := 11) (N := some 40) (v := ?_) (a' := ?_) #[true, true, true, true, true, true, true, true, true, true, true, true, true, false] rfl rfl (any_of HT_.out (by kernel_rfl)) (fun _ _ _ h => h) (Or.inl ⟨by rfl, ?_⟩) ?_ ?_
                    rotate_left
                    · intro w'
                      go_simp
                      with_reducible rfl
                    rotate_left
                    · simp only [Act.put, List.setIfInBounds_toArray, List.set_cons_zero, List.set_cons_succ, i64_w, i32_w]
                      rfl
                    exact norm_ (by simp only [putAll, Act.put, List.setIfInBounds_toArray, List.set_cons_zero, List.set_cons_succ]) (hCont (.slice Ao54 t487.length co54, .slice Ao53 t491.length co53, gb494) _ ⟨hHeld, (R_ HO489.out), (R_ HO493.out), (B_ BK469.out), (B_ BK470.out), (B_ BK494.out), GW494.out, GE494.out, NB469_494.out, NB494_469.out, NB470_494.out, NB494_470.out, (L_ HB.out)⟩)
                rintro ⟨v488, v492, gb494⟩ w55 ⟨hS_, h0_, h1_, h2_, h3_, h4_, h5_, h6_, h7_, h8_, h9_, h10_, h11_⟩
                have n0_ : Aside0 (Kd.R Kd.string 9 w55 w.heap.size (fun _ => True) v488 t487) := ⟨h0_⟩
                have n1_ : Aside0 (Kd.R (Kd.int .u32) 65 w55 w.heap.size (fun _ => True) v492 t491) := ⟨h1_⟩
                have n2_ : Aside0 (w55.heap[gb469]? = some (.cells #[.slice A0_0 l0_0.length c0_0, .slice A0_1 l0_1.length c0_1, .slice A0_2 l0_2.length c0_2] 26 (0, 0))) := ⟨h2_⟩
                have n3_ : Aside0 (w55.heap[gb470]? = some (.cells #[.slice none 0 0, .slice none 0 0, .slice none 0 0, .slice none 0 0, .slice none 0 0, .slice none 0 0, .string (⟨#[]⟩ : ByteArray)] 81 (0, 0))) := ⟨h3_⟩
                have n4_ : Aside0 (w55.heap[gb494]? = some (.cells #[.slice none 0 0, .slice none 0 0, .slice none 0 0] 26 (0, 0))) := ⟨h4_⟩
                have n5_ : Aside0 (w.heap.size ≤ gb494) := ⟨h5_⟩
                have n6_ : Aside0 (w.heap.size ≤ gb494) := ⟨h6_⟩
                have n7_ : Aside0 (gb469 ≠ gb494) := ⟨h7_⟩
                have n8_ : Aside0 (gb494 ≠ gb469) := ⟨h8_⟩
                have n9_ : Aside0 (gb470 ≠ gb494) := ⟨h9_⟩
                have n10_ : Aside0 (gb494 ≠ gb470) := ⟨h10_⟩
                have n11_ : Aside0 (Below w.heap.size w w55) := ⟨h11_⟩
                clear BK469
                clear BK470
                clear HB
                clear h0_ h1_ h2_ h3_ h4_ h5_ h6_ h7_ h8_ h9_ h10_ h11_
                have HO489 := n0_
                have HO493 := n1_
                have BK469 := n2_
                have BK470 := n3_
                have BK494 := n4_
                have GW494 := n5_
                have GE494 := n6_
                have NB469_494 := n7_
                have NB494_469 := n8_
                have NB470_494 := n9_
                have NB494_470 := n10_
                have HB := n11_
                clear n0_ n1_ n2_ n3_ n4_ n5_ n6_ n7_ n8_ n9_ n10_ n11_
                have hHeld : w55.cell? ⟨gb469, 0, none⟩ = some (.slice A0_0 l0_0.length c0_0) ∧ w55.cell? ⟨gb469, 1, none⟩ = some (.slice A0_1 l0_1.length c0_1) ∧ w55.cell? ⟨gb469, 2, none⟩ = some (.slice A0_2 l0_2.length c0_2) := hS_
                obtain ⟨Ao56, co56, eo56⟩ := Kd.R_slice HO493.out
                (first | subst eo56 | (injection eo56 with f1_ f2_ f3_; have f4_ := f1_.symm; have f5_ := f3_.symm; clear f1_ f2_ f3_; subst f4_; subst f5_))
                obtain ⟨Ao57, co57, eo57⟩ := Kd.R_slice HO489.out
                (first | subst eo57 | (injection eo57 with f1_ f2_ f3_; have f4_ := f1_.symm; have f5_ := f3_.symm; clear f1_ f2_ f3_; subst f4_; subst f5_))
                refine norm_ (a' := ?_) ?_ ?_
                rotate_left
                · simp only [putAll, Act.put, List.setIfInBounds_toArray, List.set_cons_zero, List.set_cons_succ]
                  rfl
                refine one_ (i := 13) (N := none) #[true, true, true, true, true, true, true, true, true, true, true, true, true, true] rfl rfl (one_of HT_.out (by kernel_rfl)) (by decide) (fun K hK => ?_)
                have hs58 : w55.cell? ⟨gb494, 0, none⟩ = some (.slice none 0 0) := (blk_cell BK494.out 0).trans rfl
                have hfs58 := blk_frozen BK494.out 0
                have hns58_0 := NB469_494.out
                have hns58_1 := NB470_494.out
                have hms58_0 := NB494_469.out
                have hms58_1 := NB494_470.out
                have hs59 : w55.cell? ⟨gb494, 1, none⟩ = some (.slice none 0 0) := (blk_cell BK494.out 1).trans rfl
                have hfs59 := blk_frozen BK494.out 1
                have hns59_0 := NB469_494.out
                have hns59_1 := NB470_494.out
                have hms59_0 := NB494_469.out
                have hms59_1 := NB494_470.out
                have hs60 : w55.cell? ⟨gb494, 2, none⟩ = some (.slice none 0 0) := (blk_cell BK494.out 2).trans rfl
                have hfs60 := blk_frozen BK494.out 2
                have hns60_0 := NB469_494.out
                have hns60_1 := NB470_494.out
                have hms60_0 := NB494_469.out
                have hms60_1 := NB494_470.out
                refine skip_ (w1 := ?_) (by rfl) rfl ?_ ?_
                rotate_left
                · go_simp
                  rfl
                refine hK.out _ _ ⟨((cell_far (p := ⟨gb494, _, none⟩) NB469_494.out _).trans (((cell_far (p := ⟨gb494, _, none⟩) NB469_494.out _).trans (((cell_far (p := ⟨gb494, _, none⟩) NB469_494.out _).trans (hHeld.1)))))), ((cell_far (p := ⟨gb494, _, none⟩) NB469_494.out _).trans (((cell_far (p := ⟨gb494, _, none⟩) NB469_494.out _).trans (((cell_far (p := ⟨gb494, _, none⟩) NB469_494.out _).trans (hHeld.2.1)))))), ((cell_far (p := ⟨gb494, _, none⟩) NB469_494.out _).trans (((cell_far (p := ⟨gb494, _, none⟩) NB469_494.out _).trans (((cell_far (p := ⟨gb494, _, none⟩) NB469_494.out _).trans (hHeld.2.2))))))⟩ (fun hHeld => ?_)
                clear hK K
                refine done_ (done_of HT_.out (by kernel_rfl)) ?_
                try go_wp2
                have n0_ : Aside0 (Kd.R Kd.string 9 (((w55.setCell ⟨gb494, 0, none⟩ (.slice none 0 0)).setCell ⟨gb494, 1, none⟩ (.slice Ao57 t487.length co57)).setCell ⟨gb494, 2, none⟩ (.slice Ao56 t491.length co56)) w.heap.size (fun _ => True) (.slice Ao57 t487.length co57) t487) := ⟨by (with_reducible repeat (first | apply Kd.R_alloc | apply Kd.R_drewN | apply Kd.R_drew)); exact Kd.R_mono (Kd.R_far (p := ⟨gb494, 2, none⟩) (Kd.R_far (p := ⟨gb494, 1, none⟩) (Kd.R_far (p := ⟨gb494, 0, none⟩) (Kd.R_types HO489.out BK494.out (by decide)) (fun _ hk => hk.2) (.slice none 0 0)) (fun _ hk => hk.2) (.slice Ao57 t487.length co57)) (fun _ hk => hk.2) (.slice Ao56 t491.length co56)) (fun _ hk => trivial)⟩
                have n1_ : Aside0 (Kd.R (Kd.int .u32) 65 (((w55.setCell ⟨gb494, 0, none⟩ (.slice none 0 0)).setCell ⟨gb494, 1, none⟩ (.slice Ao57 t487.length co57)).setCell ⟨gb494, 2, none⟩ (.slice Ao56 t491.length co56)) w.heap.size (fun _ => True) (.slice Ao56 t491.length co56) t491) := ⟨by (with_reducible repeat (first | apply Kd.R_alloc | apply Kd.R_drewN | apply Kd.R_drew)); exact Kd.R_mono (Kd.R_far (p := ⟨gb494, 2, none⟩) (Kd.R_far (p := ⟨gb494, 1, none⟩) (Kd.R_far (p := ⟨gb494, 0, none⟩) (Kd.R_types HO493.out BK494.out (by decide)) (fun _ hk => hk.2) (.slice none 0 0)) (fun _ hk => hk.2) (.slice Ao57 t487.length co57)) (fun _ hk => hk.2) (.slice Ao56 t491.length co56)) (fun _ hk => trivial)⟩
                have n2_ : Aside0 ((((w55.setCell ⟨gb494, 0, none⟩ (.slice none 0 0)).setCell ⟨gb494, 1, none⟩ (.slice Ao57 t487.length co57)).setCell ⟨gb494, 2, none⟩ (.slice Ao56 t491.length co56)).heap[gb469]? = some (.cells #[.slice A0_0 l0_0.length c0_0, .slice A0_1 l0_1.length c0_1, .slice A0_2 l0_2.length c0_2] 26 (0, 0))) := ⟨by (with_reducible repeat (first | refine blk_drewN ?_ _ | refine blk_drew ?_ | refine blk_alloc ?_ _)); refine blk_far ?_ NB469_494.out _; (with_reducible repeat (first | refine blk_drewN ?_ _ | refine blk_drew ?_ | refine blk_alloc ?_ _)); refine blk_far ?_ NB469_494.out _; (with_reducible repeat (first | refine blk_drewN ?_ _ | refine blk_drew ?_ | refine blk_alloc ?_ _)); refine blk_far ?_ NB469_494.out _; (with_reducible repeat (first | refine blk_drewN ?_ _ | refine blk_drew ?_ | refine blk_alloc ?_ _)); exact BK469.out⟩
                have n3_ : Aside0 ((((w55.setCell ⟨gb494, 0, none⟩ (.slice none 0 0)).setCell ⟨gb494, 1, none⟩ (.slice Ao57 t487.length co57)).setCell ⟨gb494, 2, none⟩ (.slice Ao56 t491.length co56)).heap[gb470]? = some (.cells #[.slice none 0 0, .slice none 0 0, .slice none 0 0, .slice none 0 0, .slice none 0 0, .slice none 0 0, .string (⟨#[]⟩ : ByteArray)] 81 (0, 0))) := ⟨by (with_reducible repeat (first | refine blk_drewN ?_ _ | refine blk_drew ?_ | refine blk_alloc ?_ _)); refine blk_far ?_ NB470_494.out _; (with_reducible repeat (first | refine blk_drewN ?_ _ | refine blk_drew ?_ | refine blk_alloc ?_ _)); refine blk_far ?_ NB470_494.out _; (with_reducible repeat (first | refine blk_drewN ?_ _ | refine blk_drew ?_ | refine blk_alloc ?_ _)); refine blk_far ?_ NB470_494.out _; (with_reducible repeat (first | refine blk_drewN ?_ _ | refine blk_drew ?_ | refine blk_alloc ?_ _)); exact BK470.out⟩
                have n4_ : Aside0 ((((w55.setCell ⟨gb494, 0, none⟩ (.slice none 0 0)).setCell ⟨gb494, 1, none⟩ (.slice Ao57 t487.length co57)).setCell ⟨gb494, 2, none⟩ (.slice Ao56 t491.length co56)).heap[gb494]? = some (.cells #[.slice none 0 0, .slice Ao57 t487.length co57, .slice Ao56 t491.length co56] 26 (0, 0))) := ⟨by (with_reducible repeat (first | refine blk_drewN ?_ _ | refine blk_drew ?_ | refine blk_alloc ?_ _)); refine blk_put (cs := #[.slice none 0 0, .slice Ao57 t487.length co57, .slice none 0 0]) ?_ 2 _ rfl; (with_reducible repeat (first | refine blk_drewN ?_ _ | refine blk_drew ?_ | refine blk_alloc ?_ _)); refine blk_put (cs := #[.slice none 0 0, .slice none 0 0, .slice none 0 0]) ?_ 1 _ rfl; (with_reducible repeat (first | refine blk_drewN ?_ _ | refine blk_drew ?_ | refine blk_alloc ?_ _)); refine blk_put (cs := #[.slice none 0 0, .slice none 0 0, .slice none 0 0]) ?_ 0 _ rfl; (with_reducible repeat (first | refine blk_drewN ?_ _ | refine blk_drew ?_ | refine blk_alloc ?_ _)); exact BK494.out⟩
                have n5_ : Aside0 (Below w.heap.size w (((w55.setCell ⟨gb494, 0, none⟩ (.slice none 0 0)).setCell ⟨gb494, 1, none⟩ (.slice Ao57 t487.length co57)).setCell ⟨gb494, 2, none⟩ (.slice Ao56 t491.length co56))) := ⟨by repeat (first | (with_reducible first | exact HB.out | apply below_alloc | apply pw_below_drewN | apply below_drew1 | refine below_set ?_ GE469.out | refine below_set ?_ GE470.out | refine below_set ?_ GE494.out) | exact HB.out)⟩
                (try clear HO489)
                (try clear HO493)
                (try clear BK469)
                (try clear BK470)
                (try clear BK494)
                (try clear HB)
                generalize (((w55.setCell ⟨gb494, 0, none⟩ (.slice none 0 0)).setCell ⟨gb494, 1, none⟩ (.slice Ao57 t487.length co57)).setCell ⟨gb494, 2, none⟩ (.slice Ao56 t491.length co56)) = w61 at n0_ n1_ n2_ n3_ n4_ n5_ ⊢
                have HO489 := n0_
                have HO493 := n1_
                have BK469 := n2_
                have BK470 := n3_
                have BK494 := n4_
                have HB := n5_
                clear n0_ n1_ n2_ n3_ n4_ n5_
                replace HO489 := Aside0.mk (Kd.R_drew HO489.out)
                replace HO493 := Aside0.mk (Kd.R_drew HO493.out)
                replace BK469 := Aside0.mk (blk_drew BK469.out)
                replace BK470 := Aside0.mk (blk_drew BK470.out)
                replace BK494 := Aside0.mk (blk_drew BK494.out)
                replace HB := Aside0.mk (below_drew1 HB.out)
                obtain ⟨i063, hi063, _, hsz63, _⟩ := info_parts info9
                obtain ⟨A63, hcut63, hA63, hC63⟩ := print_drop_of (P := Try.prog) Value.string (⟨#[]⟩ : ByteArray) 23 9 .i64 Try.underlying23 hi063 hsz63 A0_1 c0_1 l0_1 a1 (of_decide_eq_true (by first | (with_reducible assumption) | assumption)) (of_decide_eq_true (by first | (with_reducible assumption) | assumption)) HC0_1.out
                have HR495 := Aside0.mk (Kd.C_of_reads (h1 := fun _ => rfl) (hA63 _ (Kd.reads_of_C HR0_1.out)))
                have HC495 := Aside0.mk hC63
                clear hA63 hC63 hi063 hsz63
                obtain ⟨i064, hi064, _, hsz64, _⟩ := info_parts info65
                obtain ⟨A64, hcut64, hA64, hC64⟩ := print_drop_of (P := Try.prog) (Value.int .u32) 0 24 65 .i64 Try.underlying24 hi064 hsz64 A0_2 c0_2 l0_2 a1 (of_decide_eq_true (by first | (with_reducible assumption) | assumption)) (of_decide_eq_true (by first | (with_reducible assumption) | assumption)) HC0_2.out
                have HR499 := Aside0.mk (Kd.C_of_reads (h1 := fun _ => rfl) (hA64 _ (Kd.reads_of_C HR0_2.out)))
                have HC499 := Aside0.mk hC64
                clear hA64 hC64 hi064 hsz64
                have p503 : 0 ≤ ((ji29) : Int) := of_decide_eq_true (by first | (with_reducible assumption) | assumption)
                have q503 : (ji29) < (l0_1.length : Int) := of_decide_eq_true (by first | (with_reducible assumption) | assumption)
                obtain ⟨ad503, e503, hx503_0⟩ := Kd.at_string HR0_1.out (ji29) p503 q503
                have hw503_0 := hx503_0
                cases e503
                replace hx503_0 := (HB.out.cell (World.block_lt_of_cell? w _ hx503_0)).trans hx503_0
                replace p503 := eq_true p503
                replace q503 := eq_true q503
                refine start_ (n := 20) (S := fun w' => w'.cell? ⟨gb494, 0, none⟩ = some (.slice none 0 0) ∧ w'.cell? ⟨gb494, 1, none⟩ = some (.slice Ao57 t487.length co57) ∧ w'.cell? ⟨gb494, 2, none⟩ = some (.slice Ao56 t491.length co56) ∧ w'.cell? ⟨gb469, 0, none⟩ = some (.slice A0_0 l0_0.length c0_0) ∧ w'.cell? ⟨gb469, 1, none⟩ = some (.slice (some ad503) l0_1.length c0_1) ∧ w'.cell? ⟨gb469, 2, none⟩ = some (.slice A0_2 l0_2.length c0_2) ∧ w'.cell? (ad503.add ((ji29)).toNat) = some (.string (rdOf ByteArray.empty l0_1 (ji29)))) (ds := []) #[false, false, false, false, false, false, false, false, false, false, false, false, false, false, false, false, false, false, false, false] (by kernel_rfl) rfl rfl ⟨(blk_cell BK494.out 0).trans rfl, (blk_cell BK494.out 1).trans rfl, (blk_cell BK494.out 2).trans rfl, (blk_cell BK469.out 0).trans rfl, (blk_cell BK469.out 1).trans rfl, (blk_cell BK469.out 2).trans rfl, ((HB.out.cell (World.block_lt_of_cell? w _ hw503_0)).trans hw503_0)⟩ (fun hHeld => ?_); refine with_tabW node_cut.tab4 node_cut.bits4 (fun HT_ HW_ => ?_)
                generalize w61.drew = w62 at HO489 HO493 BK469 BK470 BK494 HB HR495 HR499 hx503_0 hHeld ⊢
                refine pure_ (i := 1) (N := some 42) (v := ?_) (a' := ?_) #[false, true, false, false, false, false, false, false, false, false, false, false, false, false, false, false, false, false, false, false] rfl rfl (any_of HT_.out (by kernel_rfl)) (fun _ _ _ h => h) (Or.inl ⟨by rfl, ?_⟩) ?_ ?_
                rotate_left
                · intro w'
                  go_simp
                  with_reducible rfl
                rotate_left
                · simp only [Act.put, List.setIfInBounds_toArray, List.set_cons_zero, List.set_cons_succ, i64_w, i32_w]
                  rfl
                refine pure_ (i := 3) (N := some 44) (v := ?_) (a' := ?_) #[false, true, false, true, false, false, false, false, false, false, false, false, false, false, false, false, false, false, false, false] rfl rfl (any_of HT_.out (by kernel_rfl)) (fun _ _ _ h => h) (Or.inl ⟨by rfl, ?_⟩) ?_ ?_
                rotate_left
                · intro w'
                  go_simp
                  with_reducible rfl
                rotate_left
                · simp only [Act.put, List.setIfInBounds_toArray, List.set_cons_zero, List.set_cons_succ, i64_w, i32_w]
                  rfl
                refine pure_ (i := 6) (N := some 47) (v := ?_) (a' := ?_) #[false, true, false, true, false, false, true, false, false, false, false, false, false, false, false, false, false, false, false, false] rfl rfl (any_of HT_.out (by kernel_rfl)) (fun _ _ _ h => h) (Or.inl ⟨by rfl, ?_⟩) ?_ ?_
                rotate_left
                · intro w'
                  go_simp
                  with_reducible rfl
                rotate_left
                · simp only [Act.put, List.setIfInBounds_toArray, List.set_cons_zero, List.set_cons_succ, i64_w, i32_w]
                  rfl
                refine pure_ (i := 8) (N := some 49) (v := ?_) (a' := ?_) #[false, true, false, true, false, false, true, false, true, false, false, false, false, false, false, false, false, false, false, false] rfl rfl (any_of HT_.out (by kernel_rfl)) (fun _ _ _ h => h) (Or.inl ⟨by rfl, ?_⟩) ?_ ?_
                rotate_left
                · intro w'
                  go_simp
                  with_reducible rfl
                rotate_left
                · simp only [Act.put, List.setIfInBounds_toArray, List.set_cons_zero, List.set_cons_succ, i64_w, i32_w]
                  rfl
                refine pure_ (i := 12) (N := some 53) (v := ?_) (a' := ?_) #[false, true, false, true, false, false, true, false, true, false, false, false, true, false, false, false, false, false, false, false] rfl rfl (any_of HT_.out (by kernel_rfl)) (fun _ _ _ h => h) (Or.inl ⟨by rfl, ?_⟩) ?_ ?_
                rotate_left
                · intro w'
                  go_simp
                  with_reducible rfl
                rotate_left
                · simp only [Act.put, List.setIfInBounds_toArray, List.set_cons_zero, List.set_cons_succ, i64_w, i32_w]
                  rfl
                refine pure_ (i := 14) (N := some 55) (v := ?_) (a' := ?_) #[false, true, false, true, false, false, true, false, true, false, false, false, true, false, true, false, false, false, false, false] rfl rfl (any_of HT_.out (by kernel_rfl)) (fun _ _ _ h => h) (Or.inl ⟨by rfl, ?_⟩) ?_ ?_
                rotate_left
                · intro w'
                  go_simp
                  with_reducible rfl
                rotate_left
                · simp only [Act.put, List.setIfInBounds_toArray, List.set_cons_zero, List.set_cons_succ, i64_w, i32_w]
                  rfl
                refine pure_ (i := 15) (N := some 56) (v := ?_) (a' := ?_) #[false, true, false, true, false, false, true, false, true, false, false, false, true, false, true, true, false, false, false, false] rfl rfl (any_of HT_.out (by kernel_rfl)) (fun _ _ _ h => h) (Or.inl ⟨by rfl, ?_⟩) ?_ ?_
                rotate_left
                · intro w'
                  go_simp
                  with_reducible rfl
                rotate_left
                · simp only [Act.put, List.setIfInBounds_toArray, List.set_cons_zero, List.set_cons_succ, i64_w, i32_w]
                  rfl
                refine take_ (i := 0) (N := some 41) (v := ?_) (a' := ?_) #[true, true, false, true, false, false, true, false, true, false, false, false, true, false, true, true, false, false, false, false] rfl rfl (take_ofW HT_.out HW_.out (by kernel_rfl)) (fun _ _ _ h => h) (Or.inl ⟨by rfl, ?_⟩) hHeld ?_ ?_
                rotate_left
                · rintro w' ⟨s0, s1, s2, s3, s4, s5, s6⟩
                  go_simp
                  with_reducible rfl
                rotate_left
                · simp only [Act.put, List.setIfInBounds_toArray, List.set_cons_zero, List.set_cons_succ, i64_w, i32_w]
                  rfl
                refine take_ (i := 2) (N := some 43) (v := ?_) (a' := ?_) #[true, true, true, true, false, false, true, false, true, false, false, false, true, false, true, true, false, false, false, false] rfl rfl (take_ofW HT_.out HW_.out (by kernel_rfl)) (fun _ _ _ h => h) (Or.inl ⟨by rfl, ?_⟩) hHeld ?_ ?_
                rotate_left
                · rintro w' ⟨s0, s1, s2, s3, s4, s5, s6⟩
                  go_simp
                  with_reducible rfl
                rotate_left
                · simp only [Act.put, List.setIfInBounds_toArray, List.set_cons_zero, List.set_cons_succ, i64_w, i32_w]
                  rfl
                refine pure_ (i := 4) (N := some 45) (v := ?_) (a' := ?_) #[true, true, true, true, true, false, true, false, true, false, false, false, true, false, true, true, false, false, false, false] rfl rfl (any_of HT_.out (by kernel_rfl)) (fun _ _ _ h => h) (Or.inl ⟨by rfl, ?_⟩) ?_ ?_
                rotate_left
                · intro w'
                  go_simp
                  with_reducible rfl
                rotate_left
                · simp only [Act.put, List.setIfInBounds_toArray, List.set_cons_zero, List.set_cons_succ, i64_w, i32_w]
                  rfl
                refine take_ (i := 7) (N := some 48) (v := ?_) (a' := ?_) #[true, true, true, true, true, false, true, true, true, false, false, false, true, false, true, true, false, false, false, false] rfl rfl (take_ofW HT_.out HW_.out (by kernel_rfl)) (fun _ _ _ h => h) (Or.inl ⟨by rfl, ?_⟩) hHeld ?_ ?_
                rotate_left
                · rintro w' ⟨s0, s1, s2, s3, s4, s5, s6⟩
                  go_simp
                  with_reducible rfl
                rotate_left
                · simp only [Act.put, List.setIfInBounds_toArray, List.set_cons_zero, List.set_cons_succ, i64_w, i32_w]
                  rfl
                refine pure_ (i := 9) (N := some 50) (v := ?_) (a' := ?_) #[true, true, true, true, true, false, true, true, true, true, false, false, true, false, true, true, false, false, false, false] rfl rfl (any_of HT_.out (by kernel_rfl)) (fun _ _ _ h => h) (Or.inl ⟨by rfl, ?_⟩) ?_ ?_
                rotate_left
                · intro w'
                  go_simp
                  with_reducible rfl
                rotate_left
                · simp only [Act.put, List.setIfInBounds_toArray, List.set_cons_zero, List.set_cons_succ, i64_w, i32_w]
                  rfl
                refine take_ (i := 13) (N := some 54) (v := ?_) (a' := ?_) #[true, true, true, true, true, false, true, true, true, true, false, false, true, true, true, true, false, false, false, false] rfl rfl (take_ofW HT_.out HW_.out (by kernel_rfl)) (fun _ _ _ h => h) (Or.inl ⟨by rfl, ?_⟩) hHeld ?_ ?_
                rotate_left
                · rintro w' ⟨s0, s1, s2, s3, s4, s5, s6⟩
                  go_simp
                  with_reducible rfl
                rotate_left
                · simp only [Act.put, List.setIfInBounds_toArray, List.set_cons_zero, List.set_cons_succ, i64_w, i32_w]
                  rfl
                refine pure_ (i := 16) (N := some 57) (v := ?_) (a' := ?_) #[true, true, true, true, true, false, true, true, true, true, false, false, true, true, true, true, true, false, false, false] rfl rfl (any_of HT_.out (by kernel_rfl)) (fun _ _ _ h => h) (Or.inl ⟨by rfl, ?_⟩) ?_ ?_
                rotate_left
                · intro w'
                  go_simp
                  with_reducible rfl
                rotate_left
                · simp only [Act.put, List.setIfInBounds_toArray, List.set_cons_zero, List.set_cons_succ, i64_w, i32_w]
                  rfl
                refine take_ (i := 17) (N := some 58) (v := ?_) (a' := ?_) #[true, true, true, true, true, false, true, true, true, true, false, false, true, true, true, true, true, true, false, false] rfl rfl (take_ofW HT_.out HW_.out (by kernel_rfl)) (fun _ _ _ h => h) (Or.inl ⟨by rfl, ?_⟩) hHeld ?_ ?_
                rotate_left
                · rintro w' ⟨s0, s1, s2, s3, s4, s5, s6⟩
                  go_simp
                  with_reducible rfl
                rotate_left
                · simp only [Act.put, List.setIfInBounds_toArray, List.set_cons_zero, List.set_cons_succ, i64_w, i32_w]
                  rfl
                refine one_ (i := 5) (N := some 46) #[true, true, true, true, true, true, true, true, true, true, false, false, true, true, true, true, true, true, false, false] rfl rfl (one_of HT_.out (by kernel_rfl)) (by decide) (fun K hK => ?_)
                refine goes_ Try.func69 (by kernel_rfl) rfl #[.slice A63 (l0_1.drop (a1 : Int).toNat).length (c0_1 - a1.toNat)] (by rfl) rfl rfl (by (try simp only [List.map_toArray, List.map_cons, List.map_nil]); first | done | (rw [show (l0_1.drop (a1 : Int).toNat).length = (l0_1.length - a1.toNat) from List.length_drop] <;> rfl) | rfl | (simp only [List.length_drop, List.length_take]; rfl)) ?_
                with_reducible refine (slices_Clone_string_string.calls _ _ (l0_1.drop (a1 : Int).toNat) t496 _ ?side1 ?side2 A38.out).mono ?_
                (case side1 => repeat (first | exact (Kd.C_below HR495.out HB.out) | (with_reducible refine Kd.C_alloc ?_ _) | (with_reducible refine Kd.C_drewN ?_ _) | (with_reducible refine Kd.C_drew ?_)))
                (case side2 => exact HC495.out)
                rintro e w65 ⟨v497, rfl, ho0, hb⟩
                refine ⟨_, rfl, ?_⟩
                have HO498 := Aside0.mk (Kd.R_lower (Kd.R_new' ho0 (Kd.R_lt (R_ HO489.out))) (below_size (L_ HB.out)))
                replace HO489 := Aside0.mk (Kd.R_elder' (R_ HO489.out) (Kd.R_base ho0) hb)
                replace HO493 := Aside0.mk (Kd.R_below (R_ HO493.out) hb)
                replace BK469 := Aside0.mk (blk_below (g := gb469) (o := .cells #[.slice A0_0 l0_0.length c0_0, .slice (some ad503) l0_1.length c0_1, .slice A0_2 l0_2.length c0_2] 26 (0, 0)) (B_ BK469.out) hb)
                replace BK470 := Aside0.mk (blk_below (g := gb470) (o := .cells #[.slice none 0 0, .slice none 0 0, .slice none 0 0, .slice none 0 0, .slice none 0 0, .slice none 0 0, .string (⟨#[]⟩ : ByteArray)] 81 (0, 0)) (B_ BK470.out) hb)
                replace BK494 := Aside0.mk (blk_below (g := gb494) (o := .cells #[.slice none 0 0, .slice Ao57 t487.length co57, .slice Ao56 t491.length co56] 26 (0, 0)) (B_ BK494.out) hb)
                replace HB := Aside0.mk (below_step (L_ HB.out) hb)
                (try clear hb)
                (try clear hb2)
                (try clear hk)
                (try clear hi)
                (try clear ho0)
                refine hK.out _ _ ⟨(blk_cell BK494.out 0).trans rfl, (blk_cell BK494.out 1).trans rfl, (blk_cell BK494.out 2).trans rfl, (blk_cell BK469.out 0).trans rfl, (blk_cell BK469.out 1).trans rfl, (blk_cell BK469.out 2).trans rfl, ((HB.out.cell (World.block_lt_of_cell? w _ hw503_0)).trans hw503_0)⟩ (fun hHeld => ?_)
                clear hK K
                refine norm_ (a' := ?_) ?_ ?_
                rotate_left
                · show Act.put _ (some 46) _ = _
                  simp only [Act.put, List.setIfInBounds_toArray, List.set_cons_zero, List.set_cons_succ, i64_w, i32_w]
                  rfl
                refine one_ (i := 10) (N := some 51) #[true, true, true, true, true, true, true, true, true, true, true, false, true, true, true, true, true, true, false, false] rfl rfl (one_of HT_.out (by kernel_rfl)) (by decide) (fun K hK => ?_)
                refine goes_ Try.func71 (by kernel_rfl) rfl #[.slice A64 (l0_2.drop (a1 : Int).toNat).length (c0_2 - a1.toNat)] (by rfl) rfl rfl (by (try simp only [List.map_toArray, List.map_cons, List.map_nil]); first | done | (rw [show (l0_2.drop (a1 : Int).toNat).length = (l0_2.length - a1.toNat) from List.length_drop] <;> rfl) | rfl | (simp only [List.length_drop, List.length_take]; rfl)) ?_
                with_reducible refine (slices_Clone_uint32_uint32.calls _ _ (l0_2.drop (a1 : Int).toNat) t500 _ ?side1 ?side2 A41.out).mono ?_
                (case side1 => repeat (first | exact (Kd.C_below HR499.out HB.out) | (with_reducible refine Kd.C_alloc ?_ _) | (with_reducible refine Kd.C_drewN ?_ _) | (with_reducible refine Kd.C_drew ?_)))
                (case side2 => exact HC499.out)
                rintro e w66 ⟨v501, rfl, ho0, hb⟩
                refine ⟨_, rfl, ?_⟩
                have HO502 := Aside0.mk (Kd.R_lower (Kd.R_new' ho0 (Kd.R_lt (R_ HO493.out))) (below_size (L_ HB.out)))
                replace HO489 := Aside0.mk (Kd.R_below (R_ HO489.out) hb)
                replace HO493 := Aside0.mk (Kd.R_elder' (R_ HO493.out) (Kd.R_base ho0) hb)
                replace HO498 := Aside0.mk (Kd.R_below (R_ HO498.out) hb)
                replace BK469 := Aside0.mk (blk_below (g := gb469) (o := .cells #[.slice A0_0 l0_0.length c0_0, .slice (some ad503) l0_1.length c0_1, .slice A0_2 l0_2.length c0_2] 26 (0, 0)) (B_ BK469.out) hb)
                replace BK470 := Aside0.mk (blk_below (g := gb470) (o := .cells #[.slice none 0 0, .slice none 0 0, .slice none 0 0, .slice none 0 0, .slice none 0 0, .slice none 0 0, .string (⟨#[]⟩ : ByteArray)] 81 (0, 0)) (B_ BK470.out) hb)
                replace BK494 := Aside0.mk (blk_below (g := gb494) (o := .cells #[.slice none 0 0, .slice Ao57 t487.length co57, .slice Ao56 t491.length co56] 26 (0, 0)) (B_ BK494.out) hb)
                replace HB := Aside0.mk (below_step (L_ HB.out) hb)
                (try clear hb)
                (try clear hb2)
                (try clear hk)
                (try clear hi)
                (try clear ho0)
                obtain ⟨Ao67, co67, eo67⟩ := Kd.R_slice HO502.out
                (first | subst eo67 | (injection eo67 with f1_ f2_ f3_; have f4_ := f1_.symm; have f5_ := f3_.symm; clear f1_ f2_ f3_; subst f4_; subst f5_))
                obtain ⟨Ao68, co68, eo68⟩ := Kd.R_slice HO498.out
                (first | subst eo68 | (injection eo68 with f1_ f2_ f3_; have f4_ := f1_.symm; have f5_ := f3_.symm; clear f1_ f2_ f3_; subst f4_; subst f5_))
                refine hK.out _ _ ⟨(blk_cell BK494.out 0).trans rfl, (blk_cell BK494.out 1).trans rfl, (blk_cell BK494.out 2).trans rfl, (blk_cell BK469.out 0).trans rfl, (blk_cell BK469.out 1).trans rfl, (blk_cell BK469.out 2).trans rfl, ((HB.out.cell (World.block_lt_of_cell? w _ hw503_0)).trans hw503_0)⟩ (fun hHeld => ?_)
                clear hK K
                refine norm_ (a' := ?_) ?_ ?_
                rotate_left
                · show Act.put _ (some 51) _ = _
                  simp only [Act.put, List.setIfInBounds_toArray, List.set_cons_zero, List.set_cons_succ, i64_w, i32_w]
                  rfl
                refine pure_ (i := 11) (N := some 52) (v := ?_) (a' := ?_) #[true, true, true, true, true, true, true, true, true, true, true, true, true, true, true, true, true, true, false, false] rfl rfl (any_of HT_.out (by kernel_rfl)) (fun _ _ _ h => h) (Or.inl ⟨by rfl, ?_⟩) ?_ ?_
                rotate_left
                · intro w'
                  go_simp
                  with_reducible rfl
                rotate_left
                · simp only [Act.put, List.setIfInBounds_toArray, List.set_cons_zero, List.set_cons_succ, i64_w, i32_w]
                  rfl
                refine pure_ (i := 18) (N := some 59) (v := ?_) (a' := ?_) #[true, true, true, true, true, true, true, true, true, true, true, true, true, true, true, true, true, true, true, false] rfl rfl (any_of HT_.out (by kernel_rfl)) (fun _ _ _ h => h) (Or.inl ⟨by rfl, ?_⟩) ?_ ?_
                rotate_left
                · intro w'
                  go_simp
                  with_reducible rfl
                rotate_left
                · simp only [Act.put, List.setIfInBounds_toArray, List.set_cons_zero, List.set_cons_succ, i64_w, i32_w]
                  rfl
                refine one_ (i := 19) (N := none) #[true, true, true, true, true, true, true, true, true, true, true, true, true, true, true, true, true, true, true, true] rfl rfl (one_of HT_.out (by kernel_rfl)) (by decide) (fun K hK => ?_)
                have hs69 : w66.cell? ⟨gb470, 0, none⟩ = some (.slice none 0 0) := (blk_cell BK470.out 0).trans rfl
                have hfs69 := blk_frozen BK470.out 0
                have hns69_0 := NB469_470.out
                have hns69_2 := NB494_470.out
                have hms69_0 := NB470_469.out
                have hms69_2 := NB470_494.out
                have hs70 : w66.cell? ⟨gb470, 1, none⟩ = some (.slice none 0 0) := (blk_cell BK470.out 1).trans rfl
                have hfs70 := blk_frozen BK470.out 1
                have hns70_0 := NB469_470.out
                have hns70_2 := NB494_470.out
                have hms70_0 := NB470_469.out
                have hms70_2 := NB470_494.out
                have hs71 : w66.cell? ⟨gb470, 2, none⟩ = some (.slice none 0 0) := (blk_cell BK470.out 2).trans rfl
                have hfs71 := blk_frozen BK470.out 2
                have hns71_0 := NB469_470.out
                have hns71_2 := NB494_470.out
                have hms71_0 := NB470_469.out
                have hms71_2 := NB470_494.out
                have hs72 : w66.cell? ⟨gb470, 3, none⟩ = some (.slice none 0 0) := (blk_cell BK470.out 3).trans rfl
                have hfs72 := blk_frozen BK470.out 3
                have hns72_0 := NB469_470.out
                have hns72_2 := NB494_470.out
                have hms72_0 := NB470_469.out
                have hms72_2 := NB470_494.out
                have hs73 : w66.cell? ⟨gb470, 4, none⟩ = some (.slice none 0 0) := (blk_cell BK470.out 4).trans rfl
                have hfs73 := blk_frozen BK470.out 4
                have hns73_0 := NB469_470.out
                have hns73_2 := NB494_470.out
                have hms73_0 := NB470_469.out
                have hms73_2 := NB470_494.out
                have hs74 : w66.cell? ⟨gb470, 5, none⟩ = some (.slice none 0 0) := (blk_cell BK470.out 5).trans rfl
                have hfs74 := blk_frozen BK470.out 5
                have hns74_0 := NB469_470.out
                have hns74_2 := NB494_470.out
                have hms74_0 := NB470_469.out
                have hms74_2 := NB470_494.out
                have hs75 : w66.cell? ⟨gb470, 6, none⟩ = some (.string (⟨#[]⟩ : ByteArray)) := (blk_cell BK470.out 6).trans rfl
                have hfs75 := blk_frozen BK470.out 6
                have hns75_0 := NB469_470.out
                have hns75_2 := NB494_470.out
                have hms75_0 := NB470_469.out
                have hms75_2 := NB470_494.out
                refine skip_ (w1 := ?_) (by rfl) rfl ?_ ?_
                rotate_left
                · go_simp
                  rfl
                refine hK.out _ _ ⟨((cell_far (p := ⟨gb470, _, none⟩) NB494_470.out _).trans (((cell_far (p := ⟨gb470, _, none⟩) NB494_470.out _).trans (((cell_far (p := ⟨gb470, _, none⟩) NB494_470.out _).trans (((cell_far (p := ⟨gb470, _, none⟩) NB494_470.out _).trans (((cell_far (p := ⟨gb470, _, none⟩) NB494_470.out _).trans (((cell_far (p := ⟨gb470, _, none⟩) NB494_470.out _).trans (((cell_far (p := ⟨gb470, _, none⟩) NB494_470.out _).trans (hHeld.1)))))))))))))), ((cell_far (p := ⟨gb470, _, none⟩) NB494_470.out _).trans (((cell_far (p := ⟨gb470, _, none⟩) NB494_470.out _).trans (((cell_far (p := ⟨gb470, _, none⟩) NB494_470.out _).trans (((cell_far (p := ⟨gb470, _, none⟩) NB494_470.out _).trans (((cell_far (p := ⟨gb470, _, none⟩) NB494_470.out _).trans (((cell_far (p := ⟨gb470, _, none⟩) NB494_470.out _).trans (((cell_far (p := ⟨gb470, _, none⟩) NB494_470.out _).trans (hHeld.2.1)))))))))))))), ((cell_far (p := ⟨gb470, _, none⟩) NB494_470.out _).trans (((cell_far (p := ⟨gb470, _, none⟩) NB494_470.out _).trans (((cell_far (p := ⟨gb470, _, none⟩) NB494_470.out _).trans (((cell_far (p := ⟨gb470, _, none⟩) NB494_470.out _).trans (((cell_far (p := ⟨gb470, _, none⟩) NB494_470.out _).trans (((cell_far (p := ⟨gb470, _, none⟩) NB494_470.out _).trans (((cell_far (p := ⟨gb470, _, none⟩) NB494_470.out _).trans (hHeld.2.2.1)))))))))))))), ((cell_far (p := ⟨gb470, _, none⟩) NB469_470.out _).trans (((cell_far (p := ⟨gb470, _, none⟩) NB469_470.out _).trans (((cell_far (p := ⟨gb470, _, none⟩) NB469_470.out _).trans (((cell_far (p := ⟨gb470, _, none⟩) NB469_470.out _).trans (((cell_far (p := ⟨gb470, _, none⟩) NB469_470.out _).trans (((cell_far (p := ⟨gb470, _, none⟩) NB469_470.out _).trans (((cell_far (p := ⟨gb470, _, none⟩) NB469_470.out _).trans (hHeld.2.2.2.1)))))))))))))), ((cell_far (p := ⟨gb470, _, none⟩) NB469_470.out _).trans (((cell_far (p := ⟨gb470, _, none⟩) NB469_470.out _).trans (((cell_far (p := ⟨gb470, _, none⟩) NB469_470.out _).trans (((cell_far (p := ⟨gb470, _, none⟩) NB469_470.out _).trans (((cell_far (p := ⟨gb470, _, none⟩) NB469_470.out _).trans (((cell_far (p := ⟨gb470, _, none⟩) NB469_470.out _).trans (((cell_far (p := ⟨gb470, _, none⟩) NB469_470.out _).trans (hHeld.2.2.2.2.1)))))))))))))), ((cell_far (p := ⟨gb470, _, none⟩) NB469_470.out _).trans (((cell_far (p := ⟨gb470, _, none⟩) NB469_470.out _).trans (((cell_far (p := ⟨gb470, _, none⟩) NB469_470.out _).trans (((cell_far (p := ⟨gb470, _, none⟩) NB469_470.out _).trans (((cell_far (p := ⟨gb470, _, none⟩) NB469_470.out _).trans (((cell_far (p := ⟨gb470, _, none⟩) NB469_470.out _).trans (((cell_far (p := ⟨gb470, _, none⟩) NB469_470.out _).trans (hHeld.2.2.2.2.2.1)))))))))))))), ((cell_far (p := ⟨gb470, _, none⟩) (by first | exact Nat.ne_of_lt (Nat.lt_of_lt_of_le (by have := World.block_lt_of_cell? _ _ hw503_0; first | rwa [add_block] at this | exact this) GW470.out) | (rw [add_block]; exact Nat.ne_of_lt (Nat.lt_of_lt_of_le (by have := World.block_lt_of_cell? _ _ hw503_0; first | rwa [add_block] at this | exact this) GW470.out)) | (show (Addr.add _ _).block ≠ _; rw [add_block]; exact Nat.ne_of_lt (Nat.lt_of_lt_of_le (by have := World.block_lt_of_cell? _ _ hw503_0; first | rwa [add_block] at this | exact this) GW470.out)) | (dsimp only; exact Nat.ne_of_lt (Nat.lt_of_lt_of_le (by have := World.block_lt_of_cell? _ _ hw503_0; first | rwa [add_block] at this | exact this) GW470.out))) _).trans (((cell_far (p := ⟨gb470, _, none⟩) (by first | exact Nat.ne_of_lt (Nat.lt_of_lt_of_le (by have := World.block_lt_of_cell? _ _ hw503_0; first | rwa [add_block] at this | exact this) GW470.out) | (rw [add_block]; exact Nat.ne_of_lt (Nat.lt_of_lt_of_le (by have := World.block_lt_of_cell? _ _ hw503_0; first | rwa [add_block] at this | exact this) GW470.out)) | (show (Addr.add _ _).block ≠ _; rw [add_block]; exact Nat.ne_of_lt (Nat.lt_of_lt_of_le (by have := World.block_lt_of_cell? _ _ hw503_0; first | rwa [add_block] at this | exact this) GW470.out)) | (dsimp only; exact Nat.ne_of_lt (Nat.lt_of_lt_of_le (by have := World.block_lt_of_cell? _ _ hw503_0; first | rwa [add_block] at this | exact this) GW470.out))) _).trans (((cell_far (p := ⟨gb470, _, none⟩) (by first | exact Nat.ne_of_lt (Nat.lt_of_lt_of_le (by have := World.block_lt_of_cell? _ _ hw503_0; first | rwa [add_block] at this | exact this) GW470.out) | (rw [add_block]; exact Nat.ne_of_lt (Nat.lt_of_lt_of_le (by have := World.block_lt_of_cell? _ _ hw503_0; first | rwa [add_block] at this | exact this) GW470.out)) | (show (Addr.add _ _).block ≠ _; rw [add_block]; exact Nat.ne_of_lt (Nat.lt_of_lt_of_le (by have := World.block_lt_of_cell? _ _ hw503_0; first | rwa [add_block] at this | exact this) GW470.out)) | (dsimp only; exact Nat.ne_of_lt (Nat.lt_of_lt_of_le (by have := World.block_lt_of_cell? _ _ hw503_0; first | rwa [add_block] at this | exact this) GW470.out))) _).trans (((cell_far (p := ⟨gb470, _, none⟩) (by first | exact Nat.ne_of_lt (Nat.lt_of_lt_of_le (by have := World.block_lt_of_cell? _ _ hw503_0; first | rwa [add_block] at this | exact this) GW470.out) | (rw [add_block]; exact Nat.ne_of_lt (Nat.lt_of_lt_of_le (by have := World.block_lt_of_cell? _ _ hw503_0; first | rwa [add_block] at this | exact this) GW470.out)) | (show (Addr.add _ _).block ≠ _; rw [add_block]; exact Nat.ne_of_lt (Nat.lt_of_lt_of_le (by have := World.block_lt_of_cell? _ _ hw503_0; first | rwa [add_block] at this | exact this) GW470.out)) | (dsimp only; exact Nat.ne_of_lt (Nat.lt_of_lt_of_le (by have := World.block_lt_of_cell? _ _ hw503_0; first | rwa [add_block] at this | exact this) GW470.out))) _).trans (((cell_far (p := ⟨gb470, _, none⟩) (by first | exact Nat.ne_of_lt (Nat.lt_of_lt_of_le (by have := World.block_lt_of_cell? _ _ hw503_0; first | rwa [add_block] at this | exact this) GW470.out) | (rw [add_block]; exact Nat.ne_of_lt (Nat.lt_of_lt_of_le (by have := World.block_lt_of_cell? _ _ hw503_0; first | rwa [add_block] at this | exact this) GW470.out)) | (show (Addr.add _ _).block ≠ _; rw [add_block]; exact Nat.ne_of_lt (Nat.lt_of_lt_of_le (by have := World.block_lt_of_cell? _ _ hw503_0; first | rwa [add_block] at this | exact this) GW470.out)) | (dsimp only; exact Nat.ne_of_lt (Nat.lt_of_lt_of_le (by have := World.block_lt_of_cell? _ _ hw503_0; first | rwa [add_block] at this | exact this) GW470.out))) _).trans (((cell_far (p := ⟨gb470, _, none⟩) (by first | exact Nat.ne_of_lt (Nat.lt_of_lt_of_le (by have := World.block_lt_of_cell? _ _ hw503_0; first | rwa [add_block] at this | exact this) GW470.out) | (rw [add_block]; exact Nat.ne_of_lt (Nat.lt_of_lt_of_le (by have := World.block_lt_of_cell? _ _ hw503_0; first | rwa [add_block] at this | exact this) GW470.out)) | (show (Addr.add _ _).block ≠ _; rw [add_block]; exact Nat.ne_of_lt (Nat.lt_of_lt_of_le (by have := World.block_lt_of_cell? _ _ hw503_0; first | rwa [add_block] at this | exact this) GW470.out)) | (dsimp only; exact Nat.ne_of_lt (Nat.lt_of_lt_of_le (by have := World.block_lt_of_cell? _ _ hw503_0; first | rwa [add_block] at this | exact this) GW470.out))) _).trans (((cell_far (p := ⟨gb470, _, none⟩) (by first | exact Nat.ne_of_lt (Nat.lt_of_lt_of_le (by have := World.block_lt_of_cell? _ _ hw503_0; first | rwa [add_block] at this | exact this) GW470.out) | (rw [add_block]; exact Nat.ne_of_lt (Nat.lt_of_lt_of_le (by have := World.block_lt_of_cell? _ _ hw503_0; first | rwa [add_block] at this | exact this) GW470.out)) | (show (Addr.add _ _).block ≠ _; rw [add_block]; exact Nat.ne_of_lt (Nat.lt_of_lt_of_le (by have := World.block_lt_of_cell? _ _ hw503_0; first | rwa [add_block] at this | exact this) GW470.out)) | (dsimp only; exact Nat.ne_of_lt (Nat.lt_of_lt_of_le (by have := World.block_lt_of_cell? _ _ hw503_0; first | rwa [add_block] at this | exact this) GW470.out))) _).trans (hHeld.2.2.2.2.2.2))))))))))))))⟩ (fun hHeld => ?_)
                clear hK K
                refine done_ (done_of HT_.out (by kernel_rfl)) ?_
                try go_wp2
                refine bodyPost_ret (results_cell_row rfl _ _ gb470 81 #[.slice none 0 0, .slice Ao57 t487.length co57, .slice Ao56 t491.length co56, .slice none 0 0, .slice Ao68 t496.length co68, .slice Ao67 t500.length co67, .string (rdOf ByteArray.empty l0_1 (ji29))] (0, 0) _ rfl (by (with_reducible repeat (first | refine blk_drewN ?_ _ | refine blk_drew ?_ | refine blk_alloc ?_ _)); refine blk_put (cs := #[.slice none 0 0, .slice Ao57 t487.length co57, .slice Ao56 t491.length co56, .slice none 0 0, .slice Ao68 t496.length co68, .slice Ao67 t500.length co67, .string (⟨#[]⟩ : ByteArray)]) ?_ 6 _ rfl; (with_reducible repeat (first | refine blk_drewN ?_ _ | refine blk_drew ?_ | refine blk_alloc ?_ _)); refine blk_put (cs := #[.slice none 0 0, .slice Ao57 t487.length co57, .slice Ao56 t491.length co56, .slice none 0 0, .slice Ao68 t496.length co68, .slice none 0 0, .string (⟨#[]⟩ : ByteArray)]) ?_ 5 _ rfl; (with_reducible repeat (first | refine blk_drewN ?_ _ | refine blk_drew ?_ | refine blk_alloc ?_ _)); refine blk_put (cs := #[.slice none 0 0, .slice Ao57 t487.length co57, .slice Ao56 t491.length co56, .slice none 0 0, .slice none 0 0, .slice none 0 0, .string (⟨#[]⟩ : ByteArray)]) ?_ 4 _ rfl; (with_reducible repeat (first | refine blk_drewN ?_ _ | refine blk_drew ?_ | refine blk_alloc ?_ _)); refine blk_put (cs := #[.slice none 0 0, .slice Ao57 t487.length co57, .slice Ao56 t491.length co56, .slice none 0 0, .slice none 0 0, .slice none 0 0, .string (⟨#[]⟩ : ByteArray)]) ?_ 3 _ rfl; (with_reducible repeat (first | refine blk_drewN ?_ _ | refine blk_drew ?_ | refine blk_alloc ?_ _)); refine blk_put (cs := #[.slice none 0 0, .slice Ao57 t487.length co57, .slice none 0 0, .slice none 0 0, .slice none 0 0, .slice none 0 0, .string (⟨#[]⟩ : ByteArray)]) ?_ 2 _ rfl; (with_reducible repeat (first | refine blk_drewN ?_ _ | refine blk_drew ?_ | refine blk_alloc ?_ _)); refine blk_put (cs := #[.slice none 0 0, .slice none 0 0, .slice none 0 0, .slice none 0 0, .slice none 0 0, .slice none 0 0, .string (⟨#[]⟩ : ByteArray)]) ?_ 1 _ rfl; (with_reducible repeat (first | refine blk_drewN ?_ _ | refine blk_drew ?_ | refine blk_alloc ?_ _)); refine blk_put (cs := #[.slice none 0 0, .slice none 0 0, .slice none 0 0, .slice none 0 0, .slice none 0 0, .slice none 0 0, .string (⟨#[]⟩ : ByteArray)]) ?_ 0 _ rfl; (with_reducible repeat (first | refine blk_drewN ?_ _ | refine blk_drew ?_ | refine blk_alloc ?_ _)); exact BK470.out) Try.underlying81 rfl (by kernel_rfl)) rfl ?_
                exact ⟨_, _, _, _, _, _, by first | rfl | (simp [errW_none, errW_some] <;> rfl) | (simp only [← hji29]; first | rfl | (simp [errW_none, errW_some] <;> rfl)) | (simp [*, errW_none, errW_some] <;> rfl), by first | exact Kd.R_nil _ _ _ _ _ | exact Kd.N_nil _ _ _ _ _ | exact Kd.V_nil _ _ _ _ _ | exact Kd.Q_nil _ _ _ _ _ | exact Kd.S_nil _ _ _ _ _, by (with_reducible repeat (first | apply Kd.R_alloc | apply Kd.R_drewN | apply Kd.R_drew)); exact Kd.R_mono (Kd.R_far (p := ⟨gb470, 6, none⟩) (Kd.R_far (p := ⟨gb470, 5, none⟩) (Kd.R_far (p := ⟨gb470, 4, none⟩) (Kd.R_far (p := ⟨gb470, 3, none⟩) (Kd.R_far (p := ⟨gb470, 2, none⟩) (Kd.R_far (p := ⟨gb470, 1, none⟩) (Kd.R_far (p := ⟨gb470, 0, none⟩) (Kd.R_types HO489.out BK470.out (by decide)) (fun _ hk => hk.2) (.slice none 0 0)) (fun _ hk => hk.2) (.slice Ao57 t487.length co57)) (fun _ hk => hk.2) (.slice Ao56 t491.length co56)) (fun _ hk => hk.2) (.slice none 0 0)) (fun _ hk => hk.2) (.slice Ao68 t496.length co68)) (fun _ hk => hk.2) (.slice Ao67 t500.length co67)) (fun _ hk => hk.2) (.string (rdOf ByteArray.empty l0_1 (ji29)))) (fun _ hk => hk.1.2), by (with_reducible repeat (first | apply Kd.R_alloc | apply Kd.R_drewN | apply Kd.R_drew)); exact Kd.R_mono (Kd.R_far (p := ⟨gb470, 6, none⟩) (Kd.R_far (p := ⟨gb470, 5, none⟩) (Kd.R_far (p := ⟨gb470, 4, none⟩) (Kd.R_far (p := ⟨gb470, 3, none⟩) (Kd.R_far (p := ⟨gb470, 2, none⟩) (Kd.R_far (p := ⟨gb470, 1, none⟩) (Kd.R_far (p := ⟨gb470, 0, none⟩) (Kd.R_types HO493.out BK470.out (by decide)) (fun _ hk => hk.2) (.slice none 0 0)) (fun _ hk => hk.2) (.slice Ao57 t487.length co57)) (fun _ hk => hk.2) (.slice Ao56 t491.length co56)) (fun _ hk => hk.2) (.slice none 0 0)) (fun _ hk => hk.2) (.slice Ao68 t496.length co68)) (fun _ hk => hk.2) (.slice Ao67 t500.length co67)) (fun _ hk => hk.2) (.string (rdOf ByteArray.empty l0_1 (ji29)))) (fun _ hk => hk.1.2), by first | exact Kd.R_nil _ _ _ _ _ | exact Kd.N_nil _ _ _ _ _ | exact Kd.V_nil _ _ _ _ _ | exact Kd.Q_nil _ _ _ _ _ | exact Kd.S_nil _ _ _ _ _, by (with_reducible repeat (first | apply Kd.R_alloc | apply Kd.R_drewN | apply Kd.R_drew)); exact Kd.R_mono (Kd.R_far (p := ⟨gb470, 6, none⟩) (Kd.R_far (p := ⟨gb470, 5, none⟩) (Kd.R_far (p := ⟨gb470, 4, none⟩) (Kd.R_far (p := ⟨gb470, 3, none⟩) (Kd.R_far (p := ⟨gb470, 2, none⟩) (Kd.R_far (p := ⟨gb470, 1, none⟩) (Kd.R_far (p := ⟨gb470, 0, none⟩) (Kd.R_types HO498.out BK470.out (by decide)) (fun _ hk => hk.2) (.slice none 0 0)) (fun _ hk => hk.2) (.slice Ao57 t487.length co57)) (fun _ hk => hk.2) (.slice Ao56 t491.length co56)) (fun _ hk => hk.2) (.slice none 0 0)) (fun _ hk => hk.2) (.slice Ao68 t496.length co68)) (fun _ hk => hk.2) (.slice Ao67 t500.length co67)) (fun _ hk => hk.2) (.string (rdOf ByteArray.empty l0_1 (ji29)))) (fun _ hk => hk.1.2), by (with_reducible repeat (first | apply Kd.R_alloc | apply Kd.R_drewN | apply Kd.R_drew)); exact Kd.R_mono (Kd.R_far (p := ⟨gb470, 6, none⟩) (Kd.R_far (p := ⟨gb470, 5, none⟩) (Kd.R_far (p := ⟨gb470, 4, none⟩) (Kd.R_far (p := ⟨gb470, 3, none⟩) (Kd.R_far (p := ⟨gb470, 2, none⟩) (Kd.R_far (p := ⟨gb470, 1, none⟩) (Kd.R_far (p := ⟨gb470, 0, none⟩) (Kd.R_types HO502.out BK470.out (by decide)) (fun _ hk => hk.2) (.slice none 0 0)) (fun _ hk => hk.2) (.slice Ao57 t487.length co57)) (fun _ hk => hk.2) (.slice Ao56 t491.length co56)) (fun _ hk => hk.2) (.slice none 0 0)) (fun _ hk => hk.2) (.slice Ao68 t496.length co68)) (fun _ hk => hk.2) (.slice Ao67 t500.length co67)) (fun _ hk => hk.2) (.string (rdOf ByteArray.empty l0_1 (ji29)))) (fun _ hk => hk.1.2), by repeat (first | (with_reducible first | exact HB.out | apply below_alloc | apply pw_below_drewN | apply below_drew1 | refine below_set ?_ GE469.out | refine below_set ?_ GE470.out | refine below_set ?_ GE494.out) | exact HB.out)⟩
              · rw [if_neg c42] at H
                exact absurd H (by simp)
            · rw [if_neg c37] at H
              exact absurd H (by simp)
          · rw [if_neg c34] at H
            exact absurd H (by simp)
        · rw [if_neg c33] at H
          exact absurd H (by simp)
      · rw [if_neg c31] at H
        exact absurd H (by simp)
    · rw [if_neg c30] at H
      exact absurd H (by simp)

end Go.Proofs.Ytejempihaknplaa.G
