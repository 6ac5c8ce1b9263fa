-- Written by this session's program genprint.py (the kit's print.py with contracts of this seat's own among the callees). Not trusted: Lean checks it.
import Derived.Test.YtejempihaknplaaGX
import Derived.Test.YtejempihaknplaaNdW
import Derived.Test.YtejempihaknplaaGB
import Derived.Test.YtejempihaknplaaGCl
namespace Go.Proofs.Ytejempihaknplaa.G
open Go.RowKit Go.Proofs.YtejempihaknplaaW.PrintWords Go.Proofs.YtejempihaknplaaW.PrintLast Go.Proofs.YtejempihaknplaaW.PrintMore
attribute [local go_sem] max2_int min2_int max_two min_two max_three min_three max_four min_four   -- for this text's walks alone
set_option linter.unusedVariables false
set_option linter.unusedSimpArgs false

/-! ### bazaarref06_Put: function 23 -/
mutual
def bazaarref06_Put.j0 : Nat → Bool → List (S39) → List ByteArray → List Int → ByteArray → ByteArray → Option ((List (S39)) × List ByteArray × List Int × Int)
  | 0, _, _, _, _, _, _ => none
  | k + 1, x19, x365000, x365001, x365002, x366000, x366001 => if x19 = true then (some (([] : List (S39)), ([] : List ByteArray), ([] : List Int), 60)) else ((bazaarref06_Place.f k x365000 x365001 x365002 x366000).bind fun t370 => (if 0 ≤ t370 then (if t370 ≤ (x365000.length : Int) then ((some (x365000.take (t370 : Int).toNat : List (S39))).bind fun y371 => (if ([] : List (S39)).length + y371.length < 4398046511104 then ((some (([] : List (S39)) ++ y371 : List (S39))).bind fun y375 => (if y375.length < 4398046511104 then ((some (y375 ++ [(⟨x366000, x366001⟩ : S39)] : List (S39))).bind fun y378 => (if t370 < (x365000.length : Int) then (bazaarref06_Put.j1 k t370 (((rd_T39 x365000 t370).f0).toList == x366000.toList) x365000 x365001 x365002 y378) else (bazaarref06_Put.j1 k t370 false x365000 x365001 x365002 y378))) else (none))) else (none))) else (none)) else (none)))
def bazaarref06_Put.j1 : Nat → Int → Bool → List (S39) → List ByteArray → List Int → List (S39) → Option ((List (S39)) × List ByteArray × List Int × Int)
  | 0, _, _, _, _, _, _ => none
  | k + 1, x9, x54, x365000, x365001, x365002, x370000 => if x54 = true then (if 0 ≤ (wrap64 (x9 + 1)) then (if (wrap64 (x9 + 1)) ≤ (x365000.length : Int) then ((some (x365000.drop ((wrap64 (x9 + 1)) : Int).toNat : List (S39))).bind fun y382 => (if x370000.length + y382.length < 4398046511104 then ((some (x370000 ++ y382 : List (S39))).bind fun y386 => (if (y386.length : Int) > 255 then (some (([] : List (S39)), ([] : List ByteArray), ([] : List Int), 60)) else (some (y386, ([] : List ByteArray), ([] : List Int), 0)))) else (none))) else (none)) else (none)) else (if 0 ≤ x9 then (if x9 ≤ (x365000.length : Int) then ((some (x365000.drop (x9 : Int).toNat : List (S39))).bind fun y389 => (if x370000.length + y389.length < 4398046511104 then ((some (x370000 ++ y389 : List (S39))).bind fun y393 => (if (y393.length : Int) > 255 then (some (([] : List (S39)), ([] : List ByteArray), ([] : List Int), 60)) else (some (y393, ([] : List ByteArray), ([] : List Int), 0)))) else (none))) else (none)) else (none))
end
def bazaarref06_Put.f (k : Nat) (l0_0 : List (S39)) (l0_1 : List ByteArray) (l0_2 : List Int) (a1_0 : ByteArray) (a1_1 : ByteArray) : Option ((List (S39)) × List ByteArray × List Int × Int) := (bazaarref06_RightPair.f a1_0 a1_1).bind fun t367 => ((bazaarref06_leaf.f k l0_0 l0_1 l0_2).bind fun t368 => (if t367 = true then (bazaarref06_Put.j0 k (!t368) l0_0 l0_1 l0_2 a1_0 a1_1) else (bazaarref06_Put.j0 k true l0_0 l0_1 l0_2 a1_0 a1_1)))
theorem bazaarref06_Put.mono_l : ∀ k, (∀ y0 y1 y2 y3 y4 y5, LeO (bazaarref06_Put.j0 k y0 y1 y2 y3 y4 y5) (bazaarref06_Put.j0 (k + 1) y0 y1 y2 y3 y4 y5)) ∧ (∀ y0 y1 y2 y3 y4 y5, LeO (bazaarref06_Put.j1 k y0 y1 y2 y3 y4 y5) (bazaarref06_Put.j1 (k + 1) y0 y1 y2 y3 y4 y5))
  | 0 => ⟨fun _ _ _ _ _ _ r h => by simp [bazaarref06_Put.j0] at h, fun _ _ _ _ _ _ r h => by simp [bazaarref06_Put.j1] at h⟩
  | k + 1 => by
    obtain ⟨ih0, ih1⟩ := bazaarref06_Put.mono_l k
    refine ⟨?_, ?_⟩
    · intro y0 y1 y2 y3 y4 y5
      unfold bazaarref06_Put.j0
      repeat' first
      | (with_reducible exact ih0 _ _ _ _ _ _)
      | (with_reducible exact ih1 _ _ _ _ _ _)
      | (with_reducible exact bazaarref06_Place.mono _ _ _ _ _)
      | (with_reducible exact bazaarref06_leaf.mono _ _ _ _)
      | (with_reducible exact LeO.refl _)
      | (with_reducible exact LeO.none _)
      | (with_reducible refine LeO.ite ?_ ?_)
      | (with_reducible refine LeO.bind ?_ (fun _ => ?_))
      | exact ih0 _ _ _ _ _ _
      | exact ih1 _ _ _ _ _ _
      | exact bazaarref06_Place.mono _ _ _ _ _
      | exact bazaarref06_leaf.mono _ _ _ _
      | exact LeO.none _
      | refine LeO.ite ?_ ?_
      | refine LeO.bind ?_ (fun _ => ?_)
    · intro y0 y1 y2 y3 y4 y5
      unfold bazaarref06_Put.j1
      repeat' first
      | (with_reducible exact ih0 _ _ _ _ _ _)
      | (with_reducible exact ih1 _ _ _ _ _ _)
      | (with_reducible exact bazaarref06_Place.mono _ _ _ _ _)
      | (with_reducible exact bazaarref06_leaf.mono _ _ _ _)
      | (with_reducible exact LeO.refl _)
      | (with_reducible exact LeO.none _)
      | (with_reducible refine LeO.ite ?_ ?_)
      | (with_reducible refine LeO.bind ?_ (fun _ => ?_))
      | exact ih0 _ _ _ _ _ _
      | exact ih1 _ _ _ _ _ _
      | exact bazaarref06_Place.mono _ _ _ _ _
      | exact bazaarref06_leaf.mono _ _ _ _
      | exact LeO.none _
      | refine LeO.ite ?_ ?_
      | refine LeO.bind ?_ (fun _ => ?_)
theorem bazaarref06_Put.mono : ∀ a0 a1 a2 a3 a4 k, LeO (bazaarref06_Put.f k a0 a1 a2 a3 a4) (bazaarref06_Put.f (k + 1) a0 a1 a2 a3 a4) := by
  intro a0 a1 a2 a3 a4 k
  obtain ⟨ih0, ih1⟩ := bazaarref06_Put.mono_l k
  unfold bazaarref06_Put.f
  repeat' first
      | (with_reducible exact ih0 _ _ _ _ _ _)
      | (with_reducible exact ih1 _ _ _ _ _ _)
      | (with_reducible exact bazaarref06_Place.mono _ _ _ _ _)
      | (with_reducible exact bazaarref06_leaf.mono _ _ _ _)
      | (with_reducible exact LeO.refl _)
      | (with_reducible exact LeO.none _)
      | (with_reducible refine LeO.ite ?_ ?_)
      | (with_reducible refine LeO.bind ?_ (fun _ => ?_))
      | exact ih0 _ _ _ _ _ _
      | exact ih1 _ _ _ _ _ _
      | exact bazaarref06_Place.mono _ _ _ _ _
      | exact bazaarref06_leaf.mono _ _ _ _
      | exact LeO.none _
      | refine LeO.ite ?_ ?_
      | refine LeO.bind ?_ (fun _ => ?_)
def bazaarref06_Put.T7 : Bool × List (List Nat × List Nat) := (true, [([], []), ([0], [0]), ([], []), ([2], [2]), ([], []), ([3, 4], [3, 4]), ([1, 5], [1, 5]), ([0, 1, 2, 3, 4, 5, 6], []), ([7, 6, 6, 0, 1, 2, 3, 4, 5, 6], [6, 7])])
def bazaarref06_Put.B7 : List Nat := [0, 1, 0, 4, 0, 28, 63, 127, 255]
theorem bazaarref06_Put.tab7 : rtab .any (opsOf Try.f23 7) = bazaarref06_Put.T7 := by kernel_rfl
theorem bazaarref06_Put.bits7 : waitsOk bazaarref06_Put.T7.2 bazaarref06_Put.B7 = true := by kernel_rfl
def bazaarref06_Put.T9 : Bool × List (List Nat × List Nat) := (true, [([], []), ([], []), ([1], [1]), ([2], [2]), ([0, 3], [0, 3]), ([4], [4]), ([5], [5]), ([6, 5], [5, 6]), ([5], [5]), ([7, 8, 5], [5, 7, 8]), ([9, 5], [5, 9]), ([10, 5], [5, 10]), ([5], [5]), ([12, 5], [5, 12]), ([11, 13, 5], [5, 11, 13]), ([5, 14], [5, 14])])
def bazaarref06_Put.B9 : List Nat := [0, 0, 2, 6, 15, 31, 63, 127, 63, 511, 1023, 2047, 63, 4159, 16383, 32767]
theorem bazaarref06_Put.tab9 : rtab .any (opsOf Try.f23 9) = bazaarref06_Put.T9 := by kernel_rfl
theorem bazaarref06_Put.bits9 : waitsOk bazaarref06_Put.T9.2 bazaarref06_Put.B9 = true := by kernel_rfl
def bazaarref06_Put.T11 : Bool × List (List Nat × List Nat) := (true, [([], []), ([0], [0]), ([], []), ([2], [2]), ([], []), ([3, 4], [3, 4]), ([1, 5], [1, 5]), ([0, 1, 2, 3, 4, 5, 6], []), ([7, 6, 6, 0, 1, 2, 3, 4, 5, 6], [6, 7])])
def bazaarref06_Put.B11 : List Nat := [0, 1, 0, 4, 0, 28, 63, 127, 255]
theorem bazaarref06_Put.tab11 : rtab .any (opsOf Try.f23 11) = bazaarref06_Put.T11 := by kernel_rfl
theorem bazaarref06_Put.bits11 : waitsOk bazaarref06_Put.T11.2 bazaarref06_Put.B11 = true := by kernel_rfl
set_option maxHeartbeats 8000000 in
set_option maxRecDepth 100000 in
theorem bazaarref06_Put.calls (k : Nat) (A0_0 : Option Addr) (c0_0 : Nat) (l0_0 : List (S39)) (A0_1 : Option Addr) (c0_1 : Nat) (l0_1 : List ByteArray) (A0_2 : Option Addr) (c0_2 : Nat) (l0_2 : List Int) (a1_0 : ByteArray) (a1_1 : ByteArray) (r1 : List (S39)) (r2 : List ByteArray) (r3 : List Int) (r4 : Int) (w : World) (hr0_0 : Kd.C k39 w A0_0 l0_0.length l0_0) (hc0_0 : l0_0.length ≤ c0_0) (hr0_1 : Kd.C Kd.string w A0_1 l0_1.length l0_1) (hc0_1 : l0_1.length ≤ c0_1) (hr0_2 : Kd.C (Kd.int .u32) w A0_2 l0_2.length l0_2) (hc0_2 : l0_2.length ≤ c0_2) (h : bazaarref06_Put.f k l0_0 l0_1 l0_2 a1_0 a1_1 = some (r1, r2, r3, r4)) :
    Calls Try.prog 23 #[.agg #[.slice A0_0 l0_0.length c0_0, .slice A0_1 l0_1.length c0_1, .slice A0_2 l0_2.length c0_2], .agg #[.string a1_0, .string a1_1]] w fun e w' => ∃ v0_ v1_ v2_ : Value, e = .returned (.tuple #[.agg #[v0_, v1_, v2_], .int .i64 r4]) ∧ Kd.R k39 39 w' w.heap.size (fun _ => True) v0_ r1 ∧ Kd.R Kd.string 9 w' w.heap.size (fun _ => True) v1_ r2 ∧ Kd.R (Kd.int .u32) 65 w' w.heap.size (fun _ => True) v2_ r3 ∧ Below w.heap.size w w' := by
  have hu26 := Try.underlying26
  have hu39 := Try.underlying39
  have HR0_0 := Aside0.mk hr0_0
  have HC0_0 := Aside0.mk hc0_0
  clear hr0_0 hc0_0
  have HR0_1 := Aside0.mk hr0_1
  have HC0_1 := Aside0.mk hc0_1
  clear hr0_1 hc0_1
  have HR0_2 := Aside0.mk hr0_2
  have HC0_2 := Aside0.mk hc0_2
  clear hr0_2 hc0_2
  have HB := Aside0.mk (Below.refl w.heap.size w)
  have H : ((bazaarref06_RightPair.f a1_0 a1_1).bind fun t367 => ((bazaarref06_leaf.f k l0_0 l0_1 l0_2).bind fun t368 => (if t367 = true then (bazaarref06_Put.j0 k (!t368) l0_0 l0_1 l0_2 a1_0 a1_1) else (bazaarref06_Put.j0 k true l0_0 l0_1 l0_2 a1_0 a1_1)))) = some (r1, r2, r3, r4) := h
  clear h
  replace H := Option.bind_eq_some_iff.mp H
  obtain ⟨t367, A30, H⟩ := H
  replace H : ((bazaarref06_leaf.f k l0_0 l0_1 l0_2).bind fun t368 => (if t367 = true then (bazaarref06_Put.j0 k (!t368) l0_0 l0_1 l0_2 a1_0 a1_1) else (bazaarref06_Put.j0 k true l0_0 l0_1 l0_2 a1_0 a1_1))) = some (r1, r2, r3, r4) := H
  have A3 := Aside0.mk A30
  clear A30
  replace H := Option.bind_eq_some_iff.mp H
  obtain ⟨t368, A40, H⟩ := H
  replace H : (if t367 = true then (bazaarref06_Put.j0 k (!t368) l0_0 l0_1 l0_2 a1_0 a1_1) else (bazaarref06_Put.j0 k true l0_0 l0_1 l0_2 a1_0 a1_1)) = some (r1, r2, r3, r4) := H
  have A4 := Aside0.mk A40
  clear A40
  have HC5 := Aside0.mk H
  clear H
  go_enter Try.func23, Try.ntmps23
  go_upto_region 3 with (first | ((with_reducible refine gate_dst (N := 2) rfl ?_); refine box_event ?hg (N := 2) ?hd (cs := #[.slice A0_0 l0_0.length c0_0, .slice A0_1 l0_1.length c0_1, .slice A0_2 l0_2.length c0_2]) (t := 26) ?hr ?_; (case hd => rfl); (case hg => rfl); (case hr => first | (go_simp; done) | (go_simp; rfl)); intro gb364 hg w6 hbox hb; have BK364 := Aside0.mk (hbox); have GW364 := Aside0.mk ((by rw [hg]; exact (below_size (L_ HB.out)) : w.heap.size ≤ gb364)); have GE364 := Aside0.mk ((by rw [hg]; exact (below_size (L_ HB.out)) : w.heap.size ≤ gb364)); replace HB := Aside0.mk (below_step (L_ HB.out) hb); clear hb hbox hg) | ((with_reducible refine gate_dst (N := 3) rfl ?_); refine box_event ?hg (N := 3) ?hd (cs := #[.string a1_0, .string a1_1]) (t := 39) ?hr ?_; (case hd => rfl); (case hg => rfl); (case hr => first | (go_simp; done) | (go_simp; rfl)); intro gb365 hg w7 hbox hb; have BK365 := Aside0.mk (hbox); have GW365 := Aside0.mk ((by rw [hg]; exact (below_size (L_ HB.out)) : w.heap.size ≤ gb365)); have GE365 := Aside0.mk ((by rw [hg]; exact (below_size (L_ HB.out)) : w.heap.size ≤ gb365)); have NB364_365 := Aside0.mk ((by rw [hg]; exact Nat.ne_of_lt (blk_lt (g := gb364) (o := .cells #[.slice A0_0 l0_0.length c0_0, .slice A0_1 l0_1.length c0_1, .slice A0_2 l0_2.length c0_2] 26 (0, 0)) (B_ BK364.out)) : gb364 ≠ gb365)); have NB365_364 := Aside0.mk ((by rw [hg]; exact Nat.ne_of_gt (blk_lt (g := gb364) (o := .cells #[.slice A0_0 l0_0.length c0_0, .slice A0_1 l0_1.length c0_1, .slice A0_2 l0_2.length c0_2] 26 (0, 0)) (B_ BK364.out)) : gb365 ≠ gb364)); replace BK364 := Aside0.mk (blk_below (g := gb364) (o := .cells #[.slice A0_0 l0_0.length c0_0, .slice A0_1 l0_1.length c0_1, .slice A0_2 l0_2.length c0_2] 26 (0, 0)) (B_ BK364.out) hb); replace HB := Aside0.mk (below_step (L_ HB.out) hb); clear hb hbox hg) | ((with_reducible refine gate_dst (N := 4) rfl ?_); refine box_event ?hg (N := 4) ?hd (cs := #[.slice none 0 0, .slice none 0 0, .slice none 0 0]) (t := 26) ?hr ?_; (case hd => rfl); (case hg => rfl); (case hr => first | (go_simp; done) | (go_simp; rfl)); intro gb366 hg w8 hbox hb; have BK366 := Aside0.mk (hbox); have GW366 := Aside0.mk ((by rw [hg]; exact (below_size (L_ HB.out)) : w.heap.size ≤ gb366)); have GE366 := Aside0.mk ((by rw [hg]; exact (below_size (L_ HB.out)) : w.heap.size ≤ gb366)); have NB364_366 := Aside0.mk ((by rw [hg]; exact Nat.ne_of_lt (blk_lt (g := gb364) (o := .cells #[.slice A0_0 l0_0.length c0_0, .slice A0_1 l0_1.length c0_1, .slice A0_2 l0_2.length c0_2] 26 (0, 0)) (B_ BK364.out)) : gb364 ≠ gb366)); have NB366_364 := Aside0.mk ((by rw [hg]; exact Nat.ne_of_gt (blk_lt (g := gb364) (o := .cells #[.slice A0_0 l0_0.length c0_0, .slice A0_1 l0_1.length c0_1, .slice A0_2 l0_2.length c0_2] 26 (0, 0)) (B_ BK364.out)) : gb366 ≠ gb364)); have NB365_366 := Aside0.mk ((by rw [hg]; exact Nat.ne_of_lt (blk_lt (g := gb365) (o := .cells #[.string a1_0, .string a1_1] 39 (0, 0)) (B_ BK365.out)) : gb365 ≠ gb366)); have NB366_365 := Aside0.mk ((by rw [hg]; exact Nat.ne_of_gt (blk_lt (g := gb365) (o := .cells #[.string a1_0, .string a1_1] 39 (0, 0)) (B_ BK365.out)) : gb366 ≠ gb365)); replace BK364 := Aside0.mk (blk_below (g := gb364) (o := .cells #[.slice A0_0 l0_0.length c0_0, .slice A0_1 l0_1.length c0_1, .slice A0_2 l0_2.length c0_2] 26 (0, 0)) (B_ BK364.out) hb); replace BK365 := Aside0.mk (blk_below (g := gb365) (o := .cells #[.string a1_0, .string a1_1] 39 (0, 0)) (B_ BK365.out) hb); replace HB := Aside0.mk (below_step (L_ HB.out) hb); clear hb hbox hg; have hnb9 := NB365_364.out; have hnc9 := NB364_365.out; have hnb10 := NB365_366.out; have hnc10 := NB366_365.out; have hcz11_0 : w8.cell? ⟨gb365, 0, none⟩ = some (.string a1_0) := (blk_cell BK365.out 0).trans rfl; have hcz11_1 : w8.cell? ⟨gb365, 1, none⟩ = some (.string a1_1) := (blk_cell BK365.out 1).trans rfl; have hfz11_0 := blk_frozen BK365.out 0; have hfz11_1 := blk_frozen BK365.out 1) | ((with_reducible refine gate_callee (f := 46) rfl ?_); refine goesL_ (some 11) rfl rfl Try.func46 (by kernel_rfl) rfl #[.agg #[.string a1_0, .string a1_1]] rfl (by (try simp only [List.map_toArray, List.map_cons, List.map_nil]); first | done | rfl | (simp only [List.length_drop, List.length_take]; rfl)) ?_; (with_reducible refine (bazaarref06_RightPair.calls a1_0 a1_1 t367 _ A3.out).mono ?_); rintro e w12 ⟨rfl, hb⟩; refine ⟨_, rfl, ?_⟩; replace BK364 := Aside0.mk (blk_below (g := gb364) (o := .cells #[.slice A0_0 l0_0.length c0_0, .slice A0_1 l0_1.length c0_1, .slice A0_2 l0_2.length c0_2] 26 (0, 0)) (B_ BK364.out) hb); replace BK365 := Aside0.mk (blk_below (g := gb365) (o := .cells #[.string a1_0, .string a1_1] 39 (0, 0)) (B_ BK365.out) hb); replace BK366 := Aside0.mk (blk_below (g := gb366) (o := .cells #[.slice none 0 0, .slice none 0 0, .slice none 0 0] 26 (0, 0)) (B_ BK366.out) hb); replace HB := Aside0.mk (below_step (L_ HB.out) hb); (try clear hb); (try clear hb2); (try clear hk); (try clear hi); have hnb13 := NB364_366.out; have hnc13 := NB366_364.out; have hcz14_0 : w12.cell? ⟨gb364, 0, none⟩ = some (.slice A0_0 l0_0.length c0_0) := (blk_cell BK364.out 0).trans rfl; have hcz14_1 : w12.cell? ⟨gb364, 1, none⟩ = some (.slice A0_1 l0_1.length c0_1) := (blk_cell BK364.out 1).trans rfl; have hcz14_2 : w12.cell? ⟨gb364, 2, none⟩ = some (.slice A0_2 l0_2.length c0_2) := (blk_cell BK364.out 2).trans rfl; have hfz14_0 := blk_frozen BK364.out 0; have hfz14_1 := blk_frozen BK364.out 1; have hfz14_2 := blk_frozen BK364.out 2) | ((with_reducible refine gate_callee (f := 40) rfl ?_); refine goesL_ (some 13) rfl rfl Try.func40 (by kernel_rfl) rfl #[.agg #[.slice A0_0 l0_0.length c0_0, .slice A0_1 l0_1.length c0_1, .slice A0_2 l0_2.length c0_2]] rfl (by (try simp only [List.map_toArray, List.map_cons, List.map_nil]); first | done | rfl | (simp only [List.length_drop, List.length_take]; rfl)) ?_; (with_reducible refine (bazaarref06_leaf.calls k _ _ l0_0 _ _ l0_1 _ _ l0_2 t368 _ ?side1 ?side2 ?side3 ?side4 ?side5 ?side6 A4.out).mono ?_); (case side1 => repeat (first | exact (Kd.C_below HR0_0.out HB.out) | (with_reducible refine Kd.C_alloc ?_ _) | (with_reducible refine Kd.C_drewN ?_ _) | (with_reducible refine Kd.C_drew ?_))); (case side2 => exact HC0_0.out); (case side3 => repeat (first | exact (Kd.C_below HR0_1.out HB.out) | (with_reducible refine Kd.C_alloc ?_ _) | (with_reducible refine Kd.C_drewN ?_ _) | (with_reducible refine Kd.C_drew ?_))); (case side4 => exact HC0_1.out); (case side5 => repeat (first | exact (Kd.C_below HR0_2.out HB.out) | (with_reducible refine Kd.C_alloc ?_ _) | (with_reducible refine Kd.C_drewN ?_ _) | (with_reducible refine Kd.C_drew ?_))); (case side6 => exact HC0_2.out); rintro e w15 ⟨rfl, hb⟩; refine ⟨_, rfl, ?_⟩; replace BK364 := Aside0.mk (blk_below (g := gb364) (o := .cells #[.slice A0_0 l0_0.length c0_0, .slice A0_1 l0_1.length c0_1, .slice A0_2 l0_2.length c0_2] 26 (0, 0)) (B_ BK364.out) hb); replace BK365 := Aside0.mk (blk_below (g := gb365) (o := .cells #[.string a1_0, .string a1_1] 39 (0, 0)) (B_ BK365.out) hb); replace BK366 := Aside0.mk (blk_below (g := gb366) (o := .cells #[.slice none 0 0, .slice none 0 0, .slice none 0 0] 26 (0, 0)) (B_ BK366.out) hb); replace HB := Aside0.mk (below_step (L_ HB.out) hb); (try clear hb); (try clear hb2); (try clear hk); (try clear hi)))
  (try simp only [Act.put, List.setIfInBounds_toArray, List.set_cons_zero, List.set_cons_succ])
  go_cut [19] (fun v19 wc => ∃ (kq : Nat) (x19_4 : Bool), v19 = .bool x19_4 ∧ Aside0 (bazaarref06_Put.j0 kq x19_4 l0_0 l0_1 l0_2 a1_0 a1_1 = some (r1, r2, r3, r4)) ∧ Aside0 (kq ≤ k) ∧ Aside0 (wc.heap[gb364]? = some (.cells #[(.slice A0_0 l0_0.length c0_0), (.slice A0_1 l0_1.length c0_1), (.slice A0_2 l0_2.length c0_2)] 26 (0, 0))) ∧ Aside0 (wc.heap[gb365]? = some (.cells #[.string a1_0, .string a1_1] 39 (0, 0))) ∧ Aside0 (wc.heap[gb366]? = some (.cells #[(.slice none 0 0), (.slice none 0 0), (.slice none 0 0)] 26 (0, 0))) ∧ Aside0 (Below w.heap.size w wc))
  case first =>
    have H := HC5.out
    clear HC5
    by_cases c16 : t367 = true
    · subst c16
      have H1 : (bazaarref06_Put.j0 k (!t368) l0_0 l0_1 l0_2 a1_0 a1_1) = some (r1, r2, r3, r4) := by rw [if_pos rfl] at H; exact H
      clear H
      have H := H1
      clear H1
      have H' := Aside0.mk H
      clear H
      go_wp2
      go_meet
      case rel => exact ⟨_, (!t368), (by first | rfl | (simp; done) | (simp [*]; done)), H', ⟨by first | omega | exact Nat.le_refl _⟩, ⟨by (with_reducible repeat (first | refine blk_drewN ?_ _ | refine blk_drew ?_ | refine blk_alloc ?_ _)); exact BK364.out⟩, ⟨by (with_reducible repeat (first | refine blk_drewN ?_ _ | refine blk_drew ?_ | refine blk_alloc ?_ _)); exact BK365.out⟩, ⟨by (with_reducible repeat (first | refine blk_drewN ?_ _ | refine blk_drew ?_ | refine blk_alloc ?_ _)); exact BK366.out⟩, ⟨by repeat (first | (with_reducible first | exact HB.out | apply below_alloc | apply pw_below_drewN | apply below_drew1 | refine below_set ?_ GE364.out | refine below_set ?_ GE365.out | refine below_set ?_ GE366.out) | exact HB.out)⟩⟩
    · replace c16 := Bool.eq_false_iff.mpr c16
      subst c16
      have H1 : (bazaarref06_Put.j0 k true l0_0 l0_1 l0_2 a1_0 a1_1) = some (r1, r2, r3, r4) := by rw [if_neg (show ¬ (false = true) by decide)] at H; exact H
      clear H
      have H := H1
      clear H1
      have H' := Aside0.mk H
      clear H
      go_wp2
      go_meet
      case rel => exact ⟨_, (true), (by first | rfl | (simp; done) | (simp [*]; done)), H', ⟨by first | omega | exact Nat.le_refl _⟩, ⟨by (with_reducible repeat (first | refine blk_drewN ?_ _ | refine blk_drew ?_ | refine blk_alloc ?_ _)); exact BK364.out⟩, ⟨by (with_reducible repeat (first | refine blk_drewN ?_ _ | refine blk_drew ?_ | refine blk_alloc ?_ _)); exact BK365.out⟩, ⟨by (with_reducible repeat (first | refine blk_drewN ?_ _ | refine blk_drew ?_ | refine blk_alloc ?_ _)); exact BK366.out⟩, ⟨by repeat (first | (with_reducible first | exact HB.out | apply below_alloc | apply pw_below_drewN | apply below_drew1 | refine below_set ?_ GE364.out | refine below_set ?_ GE365.out | refine below_set ?_ GE366.out) | exact HB.out)⟩⟩
  case rest =>
    clear HC5
    try clear c1
    try clear c2
    try clear p2
    try clear c4
    try clear c9
    try clear c10
    try clear c13
    try clear c16
    try clear hcz11_0
    try clear hcz11_1
    try clear hcz14_0
    try clear hcz14_1
    try clear hcz14_2
    try clear hfz11_0
    try clear hfz11_1
    try clear hfz14_0
    try clear hfz14_1
    try clear hfz14_2
    obtain ⟨kq, x19_4, rfl, HA, HJ4, BK364, BK365, BK366, HB⟩ := hcut
    cases kq with
    | zero => exact absurd HA.out (by simp [bazaarref06_Put.j0])
    | succ kj4 =>
      have H := HA.out
      clear HA
      simp only [bazaarref06_Put.j0] at H
      by_cases c17 : x19_4 = true
      · subst c17
        have H1 : (some (([] : List (S39)), ([] : List ByteArray), ([] : List Int), 60)) = some (r1, r2, r3, r4) := by rw [if_pos rfl] at H; exact H
        clear H
        have H := H1
        clear H1
        simp only [Option.some.injEq, Prod.mk.injEq] at H
        obtain ⟨rfl, rfl, rfl, rfl⟩ := H
        have hnb18 := NB366_364.out
        have hnc18 := NB364_366.out
        have hnb19 := NB366_365.out
        have hnc19 := NB365_366.out
        have hcz20_0 : wc.cell? ⟨gb366, 0, none⟩ = some (.slice none 0 0) := (blk_cell BK366.out 0).trans rfl
        have hcz20_1 : wc.cell? ⟨gb366, 1, none⟩ = some (.slice none 0 0) := (blk_cell BK366.out 1).trans rfl
        have hcz20_2 : wc.cell? ⟨gb366, 2, none⟩ = some (.slice none 0 0) := (blk_cell BK366.out 2).trans rfl
        have hfz20_0 := blk_frozen BK366.out 0
        have hfz20_1 := blk_frozen BK366.out 1
        have hfz20_2 := blk_frozen BK366.out 2
        go_wp2
        refine bodyPost_ret (results_ct rfl _ _ gb366 26 #[.slice none 0 0, .slice none 0 0, .slice none 0 0] (0, 0) _ rfl (by (with_reducible repeat (first | refine blk_drewN ?_ _ | refine blk_drew ?_ | refine blk_alloc ?_ _)); refine blk_put (cs := #[.slice none 0 0, .slice none 0 0, .slice none 0 0]) ?_ 2 _ rfl; (with_reducible repeat (first | refine blk_drewN ?_ _ | refine blk_drew ?_ | refine blk_alloc ?_ _)); refine blk_put (cs := #[.slice none 0 0, .slice none 0 0, .slice none 0 0]) ?_ 1 _ rfl; (with_reducible repeat (first | refine blk_drewN ?_ _ | refine blk_drew ?_ | refine blk_alloc ?_ _)); refine blk_put (cs := #[.slice none 0 0, .slice none 0 0, .slice none 0 0]) ?_ 0 _ rfl; (with_reducible repeat (first | refine blk_drewN ?_ _ | refine blk_drew ?_ | refine blk_alloc ?_ _)); exact BK366.out) Try.underlying26 rfl (by kernel_rfl)) rfl ?_
        exact ⟨_, _, _, by first | rfl | (simp [errW_none, errW_some] <;> rfl) | (simp [errW_none, errW_some]; exact ⟨rfl, rfl, rfl⟩) | (simp [*, errW_none, errW_some] <;> rfl), by first | exact Kd.R_nil _ _ _ _ _ | exact Kd.N_nil _ _ _ _ _ | exact Kd.V_nil _ _ _ _ _ | exact Kd.Q_nil _ _ _ _ _ | exact Kd.S_nil _ _ _ _ _, by first | exact Kd.R_nil _ _ _ _ _ | exact Kd.N_nil _ _ _ _ _ | exact Kd.V_nil _ _ _ _ _ | exact Kd.Q_nil _ _ _ _ _ | exact Kd.S_nil _ _ _ _ _, by first | exact Kd.R_nil _ _ _ _ _ | exact Kd.N_nil _ _ _ _ _ | exact Kd.V_nil _ _ _ _ _ | exact Kd.Q_nil _ _ _ _ _ | exact Kd.S_nil _ _ _ _ _, by repeat (first | (with_reducible first | exact HB.out | apply below_alloc | apply pw_below_drewN | apply below_drew1 | refine below_set ?_ GE364.out | refine below_set ?_ GE365.out | refine below_set ?_ GE366.out) | exact HB.out)⟩
      · replace c17 := Bool.eq_false_iff.mpr c17
        subst c17
        have H1 : ((bazaarref06_Place.f kj4 l0_0 l0_1 l0_2 a1_0).bind fun t370 => (if 0 ≤ t370 then (if t370 ≤ (l0_0.length : Int) then ((some (l0_0.take (t370 : Int).toNat : List (S39))).bind fun y371 => (if ([] : List (S39)).length + y371.length < 4398046511104 then ((some (([] : List (S39)) ++ y371 : List (S39))).bind fun y375 => (if y375.length < 4398046511104 then ((some (y375 ++ [(⟨a1_0, a1_1⟩ : S39)] : List (S39))).bind fun y378 => (if t370 < (l0_0.length : Int) then (bazaarref06_Put.j1 kj4 t370 (((rd_T39 l0_0 t370).f0).toList == a1_0.toList) l0_0 l0_1 l0_2 y378) else (bazaarref06_Put.j1 kj4 t370 false l0_0 l0_1 l0_2 y378))) else (none))) else (none))) else (none)) else (none))) = some (r1, r2, r3, r4) := by rw [if_neg (show ¬ (false = true) by decide)] at H; exact H
        clear H
        have H := H1
        clear H1
        replace H := Option.bind_eq_some_iff.mp H
        obtain ⟨t370, A210, H⟩ := H
        replace H : (if 0 ≤ t370 then (if t370 ≤ (l0_0.length : Int) then ((some (l0_0.take (t370 : Int).toNat : List (S39))).bind fun y371 => (if ([] : List (S39)).length + y371.length < 4398046511104 then ((some (([] : List (S39)) ++ y371 : List (S39))).bind fun y375 => (if y375.length < 4398046511104 then ((some (y375 ++ [(⟨a1_0, a1_1⟩ : S39)] : List (S39))).bind fun y378 => (if t370 < (l0_0.length : Int) then (bazaarref06_Put.j1 kj4 t370 (((rd_T39 l0_0 t370).f0).toList == a1_0.toList) l0_0 l0_1 l0_2 y378) else (bazaarref06_Put.j1 kj4 t370 false l0_0 l0_1 l0_2 y378))) else (none))) else (none))) else (none)) else (none)) = some (r1, r2, r3, r4) := H
        have A21 := Aside0.mk A210
        clear A210
        by_cases c22 : 0 ≤ t370
        · rw [if_pos c22] at H
          have c22b0 := eq_true c22
          have c22b1 : decide (0 ≤ t370) = true := decide_eq_true c22
          clear c22
          by_cases c23 : t370 ≤ (l0_0.length : Int)
          · rw [if_pos c23] at H
            have c23b0 := eq_true c23
            have c23b1 : decide (t370 ≤ (l0_0.length : Int)) = true := decide_eq_true c23
            clear c23
            obtain ⟨y371, hy371⟩ : ∃ y_ : List (S39), y_ = (l0_0.take (t370 : Int).toNat) := ⟨_, rfl⟩
            replace H : (if ([] : List (S39)).length + y371.length < 4398046511104 then ((some (([] : List (S39)) ++ y371 : List (S39))).bind fun y375 => (if y375.length < 4398046511104 then ((some (y375 ++ [(⟨a1_0, a1_1⟩ : S39)] : List (S39))).bind fun y378 => (if t370 < (l0_0.length : Int) then (bazaarref06_Put.j1 kj4 t370 (((rd_T39 l0_0 t370).f0).toList == a1_0.toList) l0_0 l0_1 l0_2 y378) else (bazaarref06_Put.j1 kj4 t370 false l0_0 l0_1 l0_2 y378))) else (none))) else (none)) = some (r1, r2, r3, r4) := by first | (rw [hy371]; with_reducible exact H) | (have H2_ := (Option.bind_some _ _).symm.trans H; rw [hy371]; with_reducible exact H2_) | (have H2_ := (Option.bind_some _ _).symm.trans H; with_reducible exact H2_) | with_reducible exact H | (rw [hy371]; exact H) | exact H
            have Ny371 := Aside0.mk hy371
            clear hy371
            by_cases c24 : ([] : List (S39)).length + y371.length < 4398046511104
            · rw [if_pos c24] at H
              have LMc24 := Aside0.mk c24
              clear c24
              obtain ⟨y375, hy375⟩ : ∃ y_ : List (S39), y_ = (([] : List (S39)) ++ y371) := ⟨_, rfl⟩
              replace H : (if y375.length < 4398046511104 then ((some (y375 ++ [(⟨a1_0, a1_1⟩ : S39)] : List (S39))).bind fun y378 => (if t370 < (l0_0.length : Int) then (bazaarref06_Put.j1 kj4 t370 (((rd_T39 l0_0 t370).f0).toList == a1_0.toList) l0_0 l0_1 l0_2 y378) else (bazaarref06_Put.j1 kj4 t370 false l0_0 l0_1 l0_2 y378))) else (none)) = some (r1, r2, r3, r4) := by first | (rw [hy375]; with_reducible exact H) | (have H2_ := (Option.bind_some _ _).symm.trans H; rw [hy375]; with_reducible exact H2_) | (have H2_ := (Option.bind_some _ _).symm.trans H; with_reducible exact H2_) | with_reducible exact H | (rw [hy375]; exact H) | exact H
              have Ny375 := Aside0.mk hy375
              clear hy375
              by_cases c25 : y375.length < 4398046511104
              · rw [if_pos c25] at H
                have LMc25 := Aside0.mk c25
                clear c25
                obtain ⟨y378, hy378⟩ : ∃ y_ : List (S39), y_ = (y375 ++ [(⟨a1_0, a1_1⟩ : S39)]) := ⟨_, rfl⟩
                replace H : (if t370 < (l0_0.length : Int) then (bazaarref06_Put.j1 kj4 t370 (((rd_T39 l0_0 t370).f0).toList == a1_0.toList) l0_0 l0_1 l0_2 y378) else (bazaarref06_Put.j1 kj4 t370 false l0_0 l0_1 l0_2 y378)) = some (r1, r2, r3, r4) := by first | (rw [hy378]; with_reducible exact H) | (have H2_ := (Option.bind_some _ _).symm.trans H; rw [hy378]; with_reducible exact H2_) | (have H2_ := (Option.bind_some _ _).symm.trans H; with_reducible exact H2_) | with_reducible exact H | (rw [hy378]; exact H) | exact H
                have Ny378 := Aside0.mk hy378
                clear hy378
                have HC26 := Aside0.mk H
                clear H
                try go_wp2_with (first | ((with_reducible refine gate_dst (N := 8) rfl ?_); refine box_event ?hg (N := 8) ?hd (cs := #[.slice none 0 0, .slice none 0 0, .slice none 0 0]) (t := 26) ?hr ?_; (case hd => rfl); (case hg => rfl); (case hr => first | (go_simp; done) | (go_simp; rfl)); intro gb369 hg w27 hbox hb; have BK369 := Aside0.mk (hbox); have GW369 := Aside0.mk ((by rw [hg]; exact (below_size (L_ HB.out)) : w.heap.size ≤ gb369)); have GE369 := Aside0.mk ((by rw [hg]; exact (below_size (L_ HB.out)) : w.heap.size ≤ gb369)); have NB364_369 := Aside0.mk ((by rw [hg]; exact Nat.ne_of_lt (blk_lt (g := gb364) (o := .cells #[.slice A0_0 l0_0.length c0_0, .slice A0_1 l0_1.length c0_1, .slice A0_2 l0_2.length c0_2] 26 (0, 0)) (B_ BK364.out)) : gb364 ≠ gb369)); have NB369_364 := Aside0.mk ((by rw [hg]; exact Nat.ne_of_gt (blk_lt (g := gb364) (o := .cells #[.slice A0_0 l0_0.length c0_0, .slice A0_1 l0_1.length c0_1, .slice A0_2 l0_2.length c0_2] 26 (0, 0)) (B_ BK364.out)) : gb369 ≠ gb364)); have NB365_369 := Aside0.mk ((by rw [hg]; exact Nat.ne_of_lt (blk_lt (g := gb365) (o := .cells #[.string a1_0, .string a1_1] 39 (0, 0)) (B_ BK365.out)) : gb365 ≠ gb369)); have NB369_365 := Aside0.mk ((by rw [hg]; exact Nat.ne_of_gt (blk_lt (g := gb365) (o := .cells #[.string a1_0, .string a1_1] 39 (0, 0)) (B_ BK365.out)) : gb369 ≠ gb365)); have NB366_369 := Aside0.mk ((by rw [hg]; exact Nat.ne_of_lt (blk_lt (g := gb366) (o := .cells #[.slice none 0 0, .slice none 0 0, .slice none 0 0] 26 (0, 0)) (B_ BK366.out)) : gb366 ≠ gb369)); have NB369_366 := Aside0.mk ((by rw [hg]; exact Nat.ne_of_gt (blk_lt (g := gb366) (o := .cells #[.slice none 0 0, .slice none 0 0, .slice none 0 0] 26 (0, 0)) (B_ BK366.out)) : gb369 ≠ gb366)); replace BK364 := Aside0.mk (blk_below (g := gb364) (o := .cells #[.slice A0_0 l0_0.length c0_0, .slice A0_1 l0_1.length c0_1, .slice A0_2 l0_2.length c0_2] 26 (0, 0)) (B_ BK364.out) hb); replace BK365 := Aside0.mk (blk_below (g := gb365) (o := .cells #[.string a1_0, .string a1_1] 39 (0, 0)) (B_ BK365.out) hb); replace BK366 := Aside0.mk (blk_below (g := gb366) (o := .cells #[.slice none 0 0, .slice none 0 0, .slice none 0 0] 26 (0, 0)) (B_ BK366.out) hb); replace HB := Aside0.mk (below_step (L_ HB.out) hb); clear hb hbox hg; have hnb28 := NB364_365.out; have hnc28 := NB365_364.out; have hnb29 := NB364_366.out; have hnc29 := NB366_364.out; have hnb30 := NB364_369.out; have hnc30 := NB369_364.out; have hcz31_0 : w27.cell? ⟨gb364, 0, none⟩ = some (.slice A0_0 l0_0.length c0_0) := (blk_cell BK364.out 0).trans rfl; have hcz31_1 : w27.cell? ⟨gb364, 1, none⟩ = some (.slice A0_1 l0_1.length c0_1) := (blk_cell BK364.out 1).trans rfl; have hcz31_2 : w27.cell? ⟨gb364, 2, none⟩ = some (.slice A0_2 l0_2.length c0_2) := (blk_cell BK364.out 2).trans rfl; have hfz31_0 := blk_frozen BK364.out 0; have hfz31_1 := blk_frozen BK364.out 1; have hfz31_2 := blk_frozen BK364.out 2; have hnb32 := NB365_366.out; have hnc32 := NB366_365.out; have hnb33 := NB365_369.out; have hnc33 := NB369_365.out; have hcz34_0 : w27.cell? ⟨gb365, 0, none⟩ = some (.string a1_0) := (blk_cell BK365.out 0).trans rfl; have hcz34_1 : w27.cell? ⟨gb365, 1, none⟩ = some (.string a1_1) := (blk_cell BK365.out 1).trans rfl; have hfz34_0 := blk_frozen BK365.out 0; have hfz34_1 := blk_frozen BK365.out 1) | ((with_reducible refine gate_callee (f := 20) rfl ?_); refine goesL_ (some 24) rfl rfl Try.func20 (by kernel_rfl) rfl #[.agg #[.slice A0_0 l0_0.length c0_0, .slice A0_1 l0_1.length c0_1, .slice A0_2 l0_2.length c0_2], .string a1_0] rfl (by (try simp only [List.map_toArray, List.map_cons, List.map_nil]); first | done | rfl | (simp only [List.length_drop, List.length_take]; rfl)) ?_; (with_reducible refine (bazaarref06_Place.calls kj4 _ _ l0_0 _ _ l0_1 _ _ l0_2 a1_0 t370 _ ?side1 ?side2 ?side3 ?side4 ?side5 ?side6 A21.out).mono ?_); (case side1 => repeat (first | exact (Kd.C_below HR0_0.out HB.out) | (with_reducible refine Kd.C_alloc ?_ _) | (with_reducible refine Kd.C_drewN ?_ _) | (with_reducible refine Kd.C_drew ?_))); (case side2 => exact HC0_0.out); (case side3 => repeat (first | exact (Kd.C_below HR0_1.out HB.out) | (with_reducible refine Kd.C_alloc ?_ _) | (with_reducible refine Kd.C_drewN ?_ _) | (with_reducible refine Kd.C_drew ?_))); (case side4 => exact HC0_1.out); (case side5 => repeat (first | exact (Kd.C_below HR0_2.out HB.out) | (with_reducible refine Kd.C_alloc ?_ _) | (with_reducible refine Kd.C_drewN ?_ _) | (with_reducible refine Kd.C_drew ?_))); (case side6 => exact HC0_2.out); rintro e w35 ⟨rfl, hb⟩; refine ⟨_, rfl, ?_⟩; replace BK364 := Aside0.mk (blk_below (g := gb364) (o := .cells #[.slice A0_0 l0_0.length c0_0, .slice A0_1 l0_1.length c0_1, .slice A0_2 l0_2.length c0_2] 26 (0, 0)) (B_ BK364.out) hb); replace BK365 := Aside0.mk (blk_below (g := gb365) (o := .cells #[.string a1_0, .string a1_1] 39 (0, 0)) (B_ BK365.out) hb); replace BK366 := Aside0.mk (blk_below (g := gb366) (o := .cells #[.slice none 0 0, .slice none 0 0, .slice none 0 0] 26 (0, 0)) (B_ BK366.out) hb); replace BK369 := Aside0.mk (blk_below (g := gb369) (o := .cells #[.slice none 0 0, .slice none 0 0, .slice none 0 0] 26 (0, 0)) (B_ BK369.out) hb); replace HB := Aside0.mk (below_step (L_ HB.out) hb); (try clear hb); (try clear hb2); (try clear hk); (try clear hi)))
                replace BK364 := Aside0.mk (blk_drew BK364.out)
                replace BK365 := Aside0.mk (blk_drew BK365.out)
                replace BK366 := Aside0.mk (blk_drew BK366.out)
                replace BK369 := Aside0.mk (blk_drew BK369.out)
                replace HB := Aside0.mk (below_drew1 HB.out)
                have q37 : (t370 : Int) ≤ ((l0_0.length : Int) : Int) := of_decide_eq_true (by first | (with_reducible assumption) | assumption)
                obtain ⟨i037, hi037, _, hsz37, _⟩ := info_parts info39
                have hroom37 : l0_0.length ≤ c0_0 := HC0_0.out
                have hC37 : Kd.C k39 _ A0_0 l0_0.length l0_0 := HR0_0.out
                have hcut37 := cut_to (P := Try.prog) 22 39 .i64 Try.underlying22 hi037 A0_0 l0_0.length c0_0 t370 (of_decide_eq_true (by first | (with_reducible assumption) | assumption)) q37 hroom37
                have hr37 := Kd.C_take (m := (t370 : Int).toNat) hC37 (by omega)
                have hy37 : y371.length = (t370 : Int).toNat := (by rw [Ny371.out, List.length_take]; omega)
                rw [← Ny371.out] at hr37
                rw [← hy37] at hcut37
                have HR374 := Aside0.mk hr37
                have HC374 := Aside0.mk (show y371.length ≤ c0_0 from by omega)
                clear hr37 hC37 hroom37 hi037 hsz37
                have KY37 := Aside0.mk hy37
                clear hy37
                replace q37 := eq_true q37
                refine start_ (n := 9) (S := fun w' => w'.cell? ⟨gb369, 0, none⟩ = some (.slice none 0 0) ∧ w'.cell? ⟨gb369, 1, none⟩ = some (.slice none 0 0) ∧ w'.cell? ⟨gb369, 2, none⟩ = some (.slice none 0 0) ∧ w'.cell? ⟨gb364, 0, none⟩ = some (.slice A0_0 l0_0.length c0_0) ∧ w'.cell? ⟨gb364, 1, none⟩ = some (.slice A0_1 l0_1.length c0_1) ∧ w'.cell? ⟨gb364, 2, none⟩ = some (.slice A0_2 l0_2.length c0_2)) (ds := [8]) #[false, false, false, false, false, false, false, false, false] (by kernel_rfl) rfl rfl ⟨(blk_cell BK369.out 0).trans rfl, (blk_cell BK369.out 1).trans rfl, (blk_cell BK369.out 2).trans rfl, (blk_cell BK364.out 0).trans rfl, (blk_cell BK364.out 1).trans rfl, (blk_cell BK364.out 2).trans rfl⟩ (fun hHeld => ?_); refine with_tabW bazaarref06_Put.tab7 bazaarref06_Put.bits7 (fun HT_ HW_ => ?_)
                generalize w35.drew = w36 at BK364 BK365 BK366 BK369 HB HR374 hHeld ⊢
                refine pure_ (i := 0) (N := some 25) (v := ?_) (a' := ?_) #[true, false, false, false, false, false, false, false, false] rfl rfl (any_of HT_.out (by kernel_rfl)) (fun _ _ _ h => h) (Or.inl ⟨by rfl, ?_⟩) ?_ ?_
                rotate_left
                · intro w'
                  go_simp
                  with_reducible rfl
                rotate_left
                · simp only [Act.put, List.setIfInBounds_toArray, List.set_cons_zero, List.set_cons_succ, i64_w, i32_w]
                  rfl
                refine pure_ (i := 2) (N := some 27) (v := ?_) (a' := ?_) #[true, false, true, false, false, false, false, false, false] rfl rfl (any_of HT_.out (by kernel_rfl)) (fun _ _ _ h => h) (Or.inl ⟨by rfl, ?_⟩) ?_ ?_
                rotate_left
                · intro w'
                  go_simp
                  with_reducible rfl
                rotate_left
                · simp only [Act.put, List.setIfInBounds_toArray, List.set_cons_zero, List.set_cons_succ, i64_w, i32_w]
                  rfl
                refine pure_ (i := 4) (N := some 29) (v := ?_) (a' := ?_) #[true, false, true, false, true, false, false, false, false] rfl rfl (any_of HT_.out (by kernel_rfl)) (fun _ _ _ h => h) (Or.inl ⟨by rfl, ?_⟩) ?_ ?_
                rotate_left
                · intro w'
                  go_simp
                  with_reducible rfl
                rotate_left
                · simp only [Act.put, List.setIfInBounds_toArray, List.set_cons_zero, List.set_cons_succ, i64_w, i32_w]
                  rfl
                refine take_ (i := 1) (N := some 26) (v := ?_) (a' := ?_) #[true, true, true, false, true, false, false, false, false] rfl rfl (take_ofW HT_.out HW_.out (by kernel_rfl)) (fun _ _ _ h => h) (Or.inl ⟨by rfl, ?_⟩) hHeld ?_ ?_
                rotate_left
                · rintro w' ⟨s0, s1, s2, s3, s4, s5⟩
                  go_simp
                  with_reducible rfl
                rotate_left
                · simp only [Act.put, List.setIfInBounds_toArray, List.set_cons_zero, List.set_cons_succ, i64_w, i32_w]
                  rfl
                refine take_ (i := 3) (N := some 28) (v := ?_) (a' := ?_) #[true, true, true, true, true, false, false, false, false] rfl rfl (take_ofW HT_.out HW_.out (by kernel_rfl)) (fun _ _ _ h => h) (Or.inl ⟨by rfl, ?_⟩) hHeld ?_ ?_
                rotate_left
                · rintro w' ⟨s0, s1, s2, s3, s4, s5⟩
                  go_simp
                  with_reducible rfl
                rotate_left
                · simp only [Act.put, List.setIfInBounds_toArray, List.set_cons_zero, List.set_cons_succ, i64_w, i32_w]
                  rfl
                refine pure_ (i := 5) (N := some 30) (v := ?_) (a' := ?_) #[true, true, true, true, true, true, false, false, false] rfl rfl (any_of HT_.out (by kernel_rfl)) (fun _ _ _ h => h) (Or.inl ⟨by rfl, ?_⟩) ?_ ?_
                rotate_left
                · intro w'
                  go_simp
                  with_reducible rfl
                rotate_left
                · simp only [Act.put, List.setIfInBounds_toArray, List.set_cons_zero, List.set_cons_succ, i64_w, i32_w]
                  rfl
                refine one_ (i := 6) (N := some 31) #[true, true, true, true, true, true, true, false, false] rfl rfl (one_of HT_.out (by kernel_rfl)) (by decide) (fun K hK => ?_)
                refine Kd.R_append_rows_step k39 (w0 := w) w.heap.size (by rfl) (.tmp 26) (.tmp 30) 22 39 (.agg #[(.string ⟨#[]⟩), (.string ⟨#[]⟩)]) 32 rfl Try.underlying22 info39 rfl (by decide) (by omega) (.slice none 0 0) ([] : List (S39)) y371 _ _ _ (fun k_ => k_ ≠ gb365) (fun _ => False) rfl rfl ?aO ?aR (fun _ _ h => h) (fun _ h => h.elim) ?aF ?aB ?aS ?aL ?_
                (case aR => repeat (first | exact (Kd.C_below HR374.out HB.out) | (with_reducible refine Kd.C_alloc ?_ _) | (with_reducible refine Kd.C_drewN ?_ _) | (with_reducible refine Kd.C_drew ?_)))
                (case aB => exact (L_ HB.out))
                (case aF => exact (fun k_ hk => Kd.freshB (g := gb365) (o := .cells #[.string a1_0, .string a1_1] 39 (0, 0)) (B_ BK365.out) k_ hk))
                (case aO => exact ((Kd.R_nil _ _ _ _ (fun k_ => k_ ≠ gb365))))
                (case aS => exact (below_size (L_ HB.out)))
                (case aL => have := LMc24.out; omega)
                intro v376 w38 ho hb hg hat
                rw [← Ny375.out] at ho
                have HO377 := Aside0.mk (ho)
                replace BK364 := Aside0.mk (blk_grown (g := gb364) (o := .cells #[.slice A0_0 l0_0.length c0_0, .slice A0_1 l0_1.length c0_1, .slice A0_2 l0_2.length c0_2] 26 (0, 0)) (B_ BK364.out) hg (by simp [Value.ownBlock]))
                replace BK365 := Aside0.mk (blk_grown (g := gb365) (o := .cells #[.string a1_0, .string a1_1] 39 (0, 0)) (B_ BK365.out) hg (by simp [Value.ownBlock]))
                replace BK366 := Aside0.mk (blk_grown (g := gb366) (o := .cells #[.slice none 0 0, .slice none 0 0, .slice none 0 0] 26 (0, 0)) (B_ BK366.out) hg (by simp [Value.ownBlock]))
                replace BK369 := Aside0.mk (blk_grown (g := gb369) (o := .cells #[.slice none 0 0, .slice none 0 0, .slice none 0 0] 26 (0, 0)) (B_ BK369.out) hg (by simp [Value.ownBlock]))
                replace HB := Aside0.mk (hb)
                clear ho hb hg hat
                obtain ⟨Ao39, co39, eo39⟩ := Kd.R_slice HO377.out
                (first | subst eo39 | (injection eo39 with f1_ f2_ f3_; have f4_ := f1_.symm; have f5_ := f3_.symm; clear f1_ f2_ f3_; subst f4_; subst f5_))
                refine hK.out _ _ ⟨(blk_cell BK369.out 0).trans rfl, (blk_cell BK369.out 1).trans rfl, (blk_cell BK369.out 2).trans rfl, (blk_cell BK364.out 0).trans rfl, (blk_cell BK364.out 1).trans rfl, (blk_cell BK364.out 2).trans rfl⟩ (fun hHeld => ?_)
                clear hK K
                refine norm_ (a' := ?_) ?_ ?_
                rotate_left
                · show Act.put _ (some 31) _ = _
                  simp only [Act.put, List.setIfInBounds_toArray, List.set_cons_zero, List.set_cons_succ, i64_w, i32_w]
                  rfl
                refine pure_ (i := 7) (N := some 32) (v := ?_) (a' := ?_) #[true, true, true, true, true, true, true, true, false] rfl rfl (any_of HT_.out (by kernel_rfl)) (fun _ _ _ h => h) (Or.inl ⟨by rfl, ?_⟩) ?_ ?_
                rotate_left
                · intro w'
                  go_simp
                  with_reducible rfl
                rotate_left
                · simp only [Act.put, List.setIfInBounds_toArray, List.set_cons_zero, List.set_cons_succ, i64_w, i32_w]
                  rfl
                refine last_ (i := 8) (N := none) #[true, true, true, true, true, true, true, true, true] rfl rfl (one_of HT_.out (by kernel_rfl)) (by decide) (fun K hK => ?_)
                have hs40 : w38.cell? ⟨gb369, 0, none⟩ = some (.slice none 0 0) := (blk_cell BK369.out 0).trans rfl
                have hfs40 := blk_frozen BK369.out 0
                have hns40_0 := NB364_369.out
                have hns40_1 := NB365_369.out
                have hns40_2 := NB366_369.out
                have hms40_0 := NB369_364.out
                have hms40_1 := NB369_365.out
                have hms40_2 := NB369_366.out
                refine skip_ (w1 := ?_) (by rfl) rfl ?_ ?_
                rotate_left
                · go_simp
                  rfl
                refine hK.out _ _ ?_
                clear hK K
                refine done_ (done_of HT_.out (by kernel_rfl)) ?_
                have hnb41 := NB369_366.out
                have hnc41 := NB366_369.out
                have hcz42_0 : w38.cell? ⟨gb369, 0, none⟩ = some (.slice none 0 0) := (blk_cell BK369.out 0).trans rfl
                have hcz42_1 : w38.cell? ⟨gb369, 1, none⟩ = some (.slice none 0 0) := (blk_cell BK369.out 1).trans rfl
                have hcz42_2 : w38.cell? ⟨gb369, 2, none⟩ = some (.slice none 0 0) := (blk_cell BK369.out 2).trans rfl
                have hfz42_0 := blk_frozen BK369.out 0
                have hfz42_1 := blk_frozen BK369.out 1
                have hfz42_2 := blk_frozen BK369.out 2
                have hcz43_0 : w38.cell? ⟨gb365, 0, none⟩ = some (.string a1_0) := (blk_cell BK365.out 0).trans rfl
                have hcz43_1 : w38.cell? ⟨gb365, 1, none⟩ = some (.string a1_1) := (blk_cell BK365.out 1).trans rfl
                have hfz43_0 := blk_frozen BK365.out 0
                have hfz43_1 := blk_frozen BK365.out 1
                go_upto_region 9 with (first | ((with_reducible refine gate_builtin (b := .append) (xs := #[.tmp 34, .tmp 36]) rfl ?_); at_builtin; refine Kd.R_append k39 (w0 := w) w.heap.size rfl (.tmp 34) (.tmp 36) 22 39 (.agg #[(.string ⟨#[]⟩), (.string ⟨#[]⟩)]) 32 rfl Try.underlying22 info39 rfl (by decide) (by omega) (.slice Ao39 y375.length co39) y375 (⟨a1_0, a1_1⟩ : S39) [.string a1_0, .string a1_1] (fun k_ => k_ ≠ gb365) (fun _ => False) rfl (by first | (go_simp; done) | (go_simp; rfl)) ?aP (fun _ hk => hk.elim) ?aF ?aO ?aB ?aS ?aL ?_; (case aP => exact k39_mkM _ _ _ (⟨a1_0, a1_1⟩ : S39)); (case aB => exact (by repeat (first | (with_reducible first | exact HB.out | apply below_alloc | apply pw_below_drewN | apply below_drew1 | refine below_set ?_ GE364.out | refine below_set ?_ GE365.out | refine below_set ?_ GE366.out | refine below_set ?_ GE369.out) | exact HB.out))); (case aF => exact (fun k_ hk => Kd.freshB (g := gb365) (o := .cells #[.string a1_0, .string a1_1] 39 (0, 0)) (by (with_reducible repeat (first | refine blk_drewN ?_ _ | refine blk_drew ?_ | refine blk_alloc ?_ _)); refine blk_far ?_ NB365_369.out _; (with_reducible repeat (first | refine blk_drewN ?_ _ | refine blk_drew ?_ | refine blk_alloc ?_ _)); exact BK365.out) k_ hk)); (case aO => exact (by (with_reducible repeat (first | apply Kd.R_alloc | apply Kd.R_drewN | apply Kd.R_drew)); exact Kd.R_mono (Kd.R_far (p := ⟨gb369, 0, none⟩) (Kd.R_types HO377.out BK369.out (by decide)) (fun _ hk => hk.2) (.slice Ao39 y375.length co39)) (fun _ hk => hk.1))); (case aS => exact (below_size (by repeat (first | (with_reducible first | exact HB.out | apply below_alloc | apply pw_below_drewN | apply below_drew1 | refine below_set ?_ GE364.out | refine below_set ?_ GE365.out | refine below_set ?_ GE366.out | refine below_set ?_ GE369.out) | exact HB.out)))); (case aL => have := LMc25.out; omega); intro v379 w44 ho hb hg hat; rw [← Ny378.out] at ho; have HO380 := Aside0.mk (ho); replace BK364 := Aside0.mk (blk_grown (g := gb364) (o := .cells #[.slice A0_0 l0_0.length c0_0, .slice A0_1 l0_1.length c0_1, .slice A0_2 l0_2.length c0_2] 26 (0, 0)) (by (with_reducible repeat (first | refine blk_drewN ?_ _ | refine blk_drew ?_ | refine blk_alloc ?_ _)); refine blk_far ?_ NB364_369.out _; (with_reducible repeat (first | refine blk_drewN ?_ _ | refine blk_drew ?_ | refine blk_alloc ?_ _)); exact BK364.out) hg (Kd.R_ne HO377.out BK364.out (by decide))); replace BK365 := Aside0.mk (blk_grown (g := gb365) (o := .cells #[.string a1_0, .string a1_1] 39 (0, 0)) (by (with_reducible repeat (first | refine blk_drewN ?_ _ | refine blk_drew ?_ | refine blk_alloc ?_ _)); refine blk_far ?_ NB365_369.out _; (with_reducible repeat (first | refine blk_drewN ?_ _ | refine blk_drew ?_ | refine blk_alloc ?_ _)); exact BK365.out) hg (Kd.R_away HO377.out (fun _ hk => hk))); replace BK366 := Aside0.mk (blk_grown (g := gb366) (o := .cells #[.slice none 0 0, .slice none 0 0, .slice none 0 0] 26 (0, 0)) (by (with_reducible repeat (first | refine blk_drewN ?_ _ | refine blk_drew ?_ | refine blk_alloc ?_ _)); refine blk_far ?_ NB366_369.out _; (with_reducible repeat (first | refine blk_drewN ?_ _ | refine blk_drew ?_ | refine blk_alloc ?_ _)); exact BK366.out) hg (Kd.R_ne HO377.out BK366.out (by decide))); replace BK369 := Aside0.mk (blk_grown (g := gb369) (o := .cells #[.slice Ao39 y375.length co39, .slice none 0 0, .slice none 0 0] 26 (0, 0)) (by (with_reducible repeat (first | refine blk_drewN ?_ _ | refine blk_drew ?_ | refine blk_alloc ?_ _)); refine blk_put (cs := #[.slice none 0 0, .slice none 0 0, .slice none 0 0]) ?_ 0 _ rfl; (with_reducible repeat (first | refine blk_drewN ?_ _ | refine blk_drew ?_ | refine blk_alloc ?_ _)); exact BK369.out) hg (Kd.R_ne HO377.out BK369.out (by decide))); replace HB := Aside0.mk (hb); clear HO377; clear ho hb hg hat; obtain ⟨Ao45, co45, eo45⟩ := Kd.R_slice HO380.out; subst eo45; have hcz46_0 : w44.cell? ⟨gb369, 0, none⟩ = some (.slice Ao39 y375.length co39) := (blk_cell BK369.out 0).trans rfl; have hcz46_1 : w44.cell? ⟨gb369, 1, none⟩ = some (.slice none 0 0) := (blk_cell BK369.out 1).trans rfl; have hcz46_2 : w44.cell? ⟨gb369, 2, none⟩ = some (.slice none 0 0) := (blk_cell BK369.out 2).trans rfl; have hfz46_0 := blk_frozen BK369.out 0; have hfz46_1 := blk_frozen BK369.out 1; have hfz46_2 := blk_frozen BK369.out 2))
                (try simp only [Act.put, List.setIfInBounds_toArray, List.set_cons_zero, List.set_cons_succ])
                go_cut [54] (fun v54 wc => ∃ (kq : Nat) (x54_25 : Bool), v54 = .bool x54_25 ∧ Aside0 (bazaarref06_Put.j1 kq t370 x54_25 l0_0 l0_1 l0_2 y378 = some (r1, r2, r3, r4)) ∧ Aside0 (kq ≤ kj4) ∧ Aside0 (Kd.R k39 39 wc w.heap.size (fun k_ => k_ ≠ gb365) (.slice Ao45 y378.length co45) y378) ∧ Aside0 (wc.heap[gb364]? = some (.cells #[(.slice A0_0 l0_0.length c0_0), (.slice A0_1 l0_1.length c0_1), (.slice A0_2 l0_2.length c0_2)] 26 (0, 0))) ∧ Aside0 (wc.heap[gb365]? = some (.cells #[.string a1_0, .string a1_1] 39 (0, 0))) ∧ Aside0 (wc.heap[gb366]? = some (.cells #[(.slice none 0 0), (.slice none 0 0), (.slice none 0 0)] 26 (0, 0))) ∧ Aside0 (wc.heap[gb369]? = some (.cells #[(.slice Ao45 y378.length co45), (.slice none 0 0), (.slice none 0 0)] 26 (0, 0))) ∧ Aside0 (Below w.heap.size w wc))
                case first =>
                  have H := HC26.out
                  clear HC26
                  by_cases c47 : t370 < (l0_0.length : Int)
                  · rw [if_pos c47] at H
                    have c47b0 : decide (t370 < (l0_0.length : Int)) = true := decide_eq_true c47
                    clear c47
                    (first | rw [c47b0] | (simp only [i64_w, i32_w]; rw [c47b0]) | skip)
                    have H' := Aside0.mk H
                    clear H
                    try go_wp2
                    have n0_ : Aside0 (Kd.R k39 39 (w44.setCell ⟨gb369, 0, none⟩ (.slice Ao45 y378.length co45)) w.heap.size (fun k_ => k_ ≠ gb365) (.slice Ao45 y378.length co45) y378) := ⟨by (with_reducible repeat (first | apply Kd.R_alloc | apply Kd.R_drewN | apply Kd.R_drew)); exact Kd.R_mono (Kd.R_far (p := ⟨gb369, 0, none⟩) (Kd.R_types HO380.out BK369.out (by decide)) (fun _ hk => hk.2) (.slice Ao45 y378.length co45)) (fun _ hk => hk.1)⟩
                    have n1_ : Aside0 ((w44.setCell ⟨gb369, 0, none⟩ (.slice Ao45 y378.length co45)).heap[gb364]? = some (.cells #[.slice A0_0 l0_0.length c0_0, .slice A0_1 l0_1.length c0_1, .slice A0_2 l0_2.length c0_2] 26 (0, 0))) := ⟨by (with_reducible repeat (first | refine blk_drewN ?_ _ | refine blk_drew ?_ | refine blk_alloc ?_ _)); refine blk_far ?_ NB364_369.out _; (with_reducible repeat (first | refine blk_drewN ?_ _ | refine blk_drew ?_ | refine blk_alloc ?_ _)); exact BK364.out⟩
                    have n2_ : Aside0 ((w44.setCell ⟨gb369, 0, none⟩ (.slice Ao45 y378.length co45)).heap[gb365]? = some (.cells #[.string a1_0, .string a1_1] 39 (0, 0))) := ⟨by (with_reducible repeat (first | refine blk_drewN ?_ _ | refine blk_drew ?_ | refine blk_alloc ?_ _)); refine blk_far ?_ NB365_369.out _; (with_reducible repeat (first | refine blk_drewN ?_ _ | refine blk_drew ?_ | refine blk_alloc ?_ _)); exact BK365.out⟩
                    have n3_ : Aside0 ((w44.setCell ⟨gb369, 0, none⟩ (.slice Ao45 y378.length co45)).heap[gb366]? = some (.cells #[.slice none 0 0, .slice none 0 0, .slice none 0 0] 26 (0, 0))) := ⟨by (with_reducible repeat (first | refine blk_drewN ?_ _ | refine blk_drew ?_ | refine blk_alloc ?_ _)); refine blk_far ?_ NB366_369.out _; (with_reducible repeat (first | refine blk_drewN ?_ _ | refine blk_drew ?_ | refine blk_alloc ?_ _)); exact BK366.out⟩
                    have n4_ : Aside0 ((w44.setCell ⟨gb369, 0, none⟩ (.slice Ao45 y378.length co45)).heap[gb369]? = some (.cells #[.slice Ao45 y378.length co45, .slice none 0 0, .slice none 0 0] 26 (0, 0))) := ⟨by (with_reducible repeat (first | refine blk_drewN ?_ _ | refine blk_drew ?_ | refine blk_alloc ?_ _)); refine blk_put (cs := #[.slice Ao39 y375.length co39, .slice none 0 0, .slice none 0 0]) ?_ 0 _ rfl; (with_reducible repeat (first | refine blk_drewN ?_ _ | refine blk_drew ?_ | refine blk_alloc ?_ _)); exact BK369.out⟩
                    have n5_ : Aside0 (Below w.heap.size w (w44.setCell ⟨gb369, 0, none⟩ (.slice Ao45 y378.length co45))) := ⟨by repeat (first | (with_reducible first | exact HB.out | apply below_alloc | apply pw_below_drewN | apply below_drew1 | refine below_set ?_ GE364.out | refine below_set ?_ GE365.out | refine below_set ?_ GE366.out | refine below_set ?_ GE369.out) | exact HB.out)⟩
                    (try clear HO380)
                    (try clear BK364)
                    (try clear BK365)
                    (try clear BK366)
                    (try clear BK369)
                    (try clear HB)
                    generalize (w44.setCell ⟨gb369, 0, none⟩ (.slice Ao45 y378.length co45)) = w48 at n0_ n1_ n2_ n3_ n4_ n5_ ⊢
                    have HO380 := n0_
                    have BK364 := n1_
                    have BK365 := n2_
                    have BK366 := n3_
                    have BK369 := n4_
                    have HB := n5_
                    clear n0_ n1_ n2_ n3_ n4_ n5_
                    replace HO380 := Aside0.mk (Kd.R_drew HO380.out)
                    replace BK364 := Aside0.mk (blk_drew BK364.out)
                    replace BK365 := Aside0.mk (blk_drew BK365.out)
                    replace BK366 := Aside0.mk (blk_drew BK366.out)
                    replace BK369 := Aside0.mk (blk_drew BK369.out)
                    replace HB := Aside0.mk (below_drew1 HB.out)
                    have p381 : 0 ≤ (t370 : Int) := of_decide_eq_true (by first | (with_reducible assumption) | assumption)
                    have q381 : t370 < (l0_0.length : Int) := of_decide_eq_true (by first | (with_reducible assumption) | assumption)
                    obtain ⟨ad381, e381, hx381_0, hx381_1⟩ := at_T39 HR0_0.out t370 p381 q381
                    have hw381_1 := hx381_1
                    have hw381_0 := hx381_0
                    cases e381
                    replace hx381_0 := (HB.out.cell (World.block_lt_of_cell? w _ hx381_0)).trans hx381_0
                    replace hx381_1 := (HB.out.cell (World.block_lt_of_cell? w _ hx381_1)).trans hx381_1
                    replace p381 := eq_true p381
                    replace q381 := eq_true q381
                    refine start_ (n := 16) (S := fun w' => w'.cell? ⟨gb364, 0, none⟩ = some (.slice (some ad381) l0_0.length c0_0) ∧ w'.cell? ⟨gb364, 1, none⟩ = some (.slice A0_1 l0_1.length c0_1) ∧ w'.cell? ⟨gb364, 2, none⟩ = some (.slice A0_2 l0_2.length c0_2) ∧ w'.cell? ⟨gb365, 0, none⟩ = some (.string a1_0) ∧ w'.cell? ⟨gb365, 1, none⟩ = some (.string a1_1) ∧ w'.cell? (ad381.add ((t370).toNat * 2)) = some (.string ((rd_T39 l0_0 t370).f0)) ∧ w'.cell? ⟨(ad381.add ((t370).toNat * 2)).block, (ad381.add ((t370).toNat * 2)).off + 1, none⟩ = some (.string ((rd_T39 l0_0 t370).f1))) (ds := []) #[false, false, false, false, false, false, false, false, false, false, false, false, false, false, false, false] (by kernel_rfl) rfl rfl ⟨(blk_cell BK364.out 0).trans rfl, (blk_cell BK364.out 1).trans rfl, (blk_cell BK364.out 2).trans rfl, (blk_cell BK365.out 0).trans rfl, (blk_cell BK365.out 1).trans rfl, ((HB.out.cell (World.block_lt_of_cell? w _ hw381_0)).trans hw381_0), ((HB.out.cell (World.block_lt_of_cell? w _ hw381_1)).trans hw381_1)⟩ (fun hHeld => ?_); refine with_tabW bazaarref06_Put.tab9 bazaarref06_Put.bits9 (fun HT_ HW_ => ?_)
                    generalize w48.drew = w49 at HO380 BK364 BK365 BK366 BK369 HB hx381_0 hx381_1 hHeld ⊢
                    refine pure_ (i := 0) (N := some 39) (v := ?_) (a' := ?_) #[true, false, false, false, false, false, false, false, false, false, false, false, false, false, false, false] rfl rfl (any_of HT_.out (by kernel_rfl)) (fun _ _ _ h => h) (Or.inl ⟨by rfl, ?_⟩) ?_ ?_
                    rotate_left
                    · intro w'
                      go_simp
                      with_reducible rfl
                    rotate_left
                    · simp only [Act.put, List.setIfInBounds_toArray, List.set_cons_zero, List.set_cons_succ, i64_w, i32_w]
                      rfl
                    refine pure_ (i := 1) (N := some 40) (v := ?_) (a' := ?_) #[true, true, false, false, false, false, false, false, false, false, false, false, false, false, false, false] rfl rfl (any_of HT_.out (by kernel_rfl)) (fun _ _ _ h => h) (Or.inl ⟨by rfl, ?_⟩) ?_ ?_
                    rotate_left
                    · intro w'
                      go_simp
                      with_reducible rfl
                    rotate_left
                    · simp only [Act.put, List.setIfInBounds_toArray, List.set_cons_zero, List.set_cons_succ, i64_w, i32_w]
                      rfl
                    refine take_ (i := 2) (N := some 41) (v := ?_) (a' := ?_) #[true, true, true, false, false, false, false, false, false, false, false, false, false, false, false, false] rfl rfl (take_ofW HT_.out HW_.out (by kernel_rfl)) (fun _ _ _ h => h) (Or.inl ⟨by rfl, ?_⟩) hHeld ?_ ?_
                    rotate_left
                    · rintro w' ⟨s0, s1, s2, s3, s4, s5, s6⟩
                      go_simp
                      with_reducible rfl
                    rotate_left
                    · simp only [Act.put, List.setIfInBounds_toArray, List.set_cons_zero, List.set_cons_succ, i64_w, i32_w]
                      rfl
                    refine pure_ (i := 3) (N := some 42) (v := ?_) (a' := ?_) #[true, true, true, true, false, false, false, false, false, false, false, false, false, false, false, false] rfl rfl (any_of HT_.out (by kernel_rfl)) (fun _ _ _ h => h) (Or.inl ⟨by rfl, ?_⟩) ?_ ?_
                    rotate_left
                    · intro w'
                      go_simp
                      with_reducible rfl
                    rotate_left
                    · simp only [Act.put, List.setIfInBounds_toArray, List.set_cons_zero, List.set_cons_succ, i64_w, i32_w]
                      rfl
                    refine pure_ (i := 4) (N := some 43) (v := ?_) (a' := ?_) #[true, true, true, true, true, false, false, false, false, false, false, false, false, false, false, false] rfl rfl (any_of HT_.out (by kernel_rfl)) (fun _ _ _ h => h) (Or.inl ⟨by rfl, ?_⟩) ?_ ?_
                    rotate_left
                    · intro w'
                      go_simp
                      with_reducible rfl
                    rotate_left
                    · simp only [Act.put, List.setIfInBounds_toArray, List.set_cons_zero, List.set_cons_succ, i64_w, i32_w]
                      rfl
                    refine pure_ (i := 5) (N := some 44) (v := ?_) (a' := ?_) #[true, true, true, true, true, true, false, false, false, false, false, false, false, false, false, false] rfl rfl (any_of HT_.out (by kernel_rfl)) (fun _ _ _ h => h) (Or.inl ⟨by rfl, ?_⟩) ?_ ?_
                    rotate_left
                    · intro w'
                      go_simp
                      with_reducible rfl
                    rotate_left
                    · simp only [Act.put, List.setIfInBounds_toArray, List.set_cons_zero, List.set_cons_succ, i64_w, i32_w]
                      rfl
                    refine pure_ (i := 6) (N := some 45) (v := ?_) (a' := ?_) #[true, true, true, true, true, true, true, false, false, false, false, false, false, false, false, false] rfl rfl (any_of HT_.out (by kernel_rfl)) (fun _ _ _ h => h) (Or.inl ⟨by rfl, ?_⟩) ?_ ?_
                    rotate_left
                    · intro w'
                      go_simp
                      with_reducible rfl
                    rotate_left
                    · simp only [Act.put, List.setIfInBounds_toArray, List.set_cons_zero, List.set_cons_succ, i64_w, i32_w]
                      rfl
                    refine pure_ (i := 8) (N := some 47) (v := ?_) (a' := ?_) #[true, true, true, true, true, true, true, false, true, false, false, false, false, false, false, false] rfl rfl (any_of HT_.out (by kernel_rfl)) (fun _ _ _ h => h) (Or.inl ⟨by rfl, ?_⟩) ?_ ?_
                    rotate_left
                    · intro w'
                      go_simp
                      with_reducible rfl
                    rotate_left
                    · simp only [Act.put, List.setIfInBounds_toArray, List.set_cons_zero, List.set_cons_succ, i64_w, i32_w]
                      rfl
                    refine pure_ (i := 12) (N := some 51) (v := ?_) (a' := ?_) #[true, true, true, true, true, true, true, false, true, false, false, false, true, false, false, false] rfl rfl (any_of HT_.out (by kernel_rfl)) (fun _ _ _ h => h) (Or.inl ⟨by rfl, ?_⟩) ?_ ?_
                    rotate_left
                    · intro w'
                      go_simp
                      with_reducible rfl
                    rotate_left
                    · simp only [Act.put, List.setIfInBounds_toArray, List.set_cons_zero, List.set_cons_succ, i64_w, i32_w]
                      rfl
                    refine take_ (i := 7) (N := some 46) (v := ?_) (a' := ?_) #[true, true, true, true, true, true, true, true, true, false, false, false, true, false, false, false] rfl rfl (take_ofW HT_.out HW_.out (by kernel_rfl)) (fun _ _ _ h => h) (Or.inl ⟨by rfl, ?_⟩) hHeld ?_ ?_
                    rotate_left
                    · rintro w' ⟨s0, s1, s2, s3, s4, s5, s6⟩
                      go_simp
                      with_reducible rfl
                    rotate_left
                    · simp only [Act.put, List.setIfInBounds_toArray, List.set_cons_zero, List.set_cons_succ, i64_w, i32_w]
                      rfl
                    refine pure_ (i := 9) (N := some 48) (v := ?_) (a' := ?_) #[true, true, true, true, true, true, true, true, true, true, false, false, true, false, false, false] rfl rfl (any_of HT_.out (by kernel_rfl)) (fun _ _ _ h => h) (Or.inl ⟨by rfl, ?_⟩) ?_ ?_
                    rotate_left
                    · intro w'
                      go_simp
                      with_reducible rfl
                    rotate_left
                    · simp only [Act.put, List.setIfInBounds_toArray, List.set_cons_zero, List.set_cons_succ, i64_w, i32_w]
                      rfl
                    refine pure_ (i := 10) (N := some 49) (v := ?_) (a' := ?_) #[true, true, true, true, true, true, true, true, true, true, true, false, true, false, false, false] rfl rfl (any_of HT_.out (by kernel_rfl)) (fun _ _ _ h => h) (Or.inl ⟨by rfl, ?_⟩) ?_ ?_
                    rotate_left
                    · intro w'
                      go_simp
                      with_reducible rfl
                    rotate_left
                    · simp only [Act.put, List.setIfInBounds_toArray, List.set_cons_zero, List.set_cons_succ, i64_w, i32_w]
                      rfl
                    refine take_ (i := 11) (N := some 50) (v := ?_) (a' := ?_) #[true, true, true, true, true, true, true, true, true, true, true, true, true, false, false, false] rfl rfl (take_ofW HT_.out HW_.out (by kernel_rfl)) (fun _ _ _ h => h) (Or.inl ⟨by rfl, ?_⟩) hHeld ?_ ?_
                    rotate_left
                    · rintro w' ⟨s0, s1, s2, s3, s4, s5, s6⟩
                      go_simp
                      with_reducible rfl
                    rotate_left
                    · simp only [Act.put, List.setIfInBounds_toArray, List.set_cons_zero, List.set_cons_succ, i64_w, i32_w]
                      rfl
                    refine take_ (i := 13) (N := some 52) (v := ?_) (a' := ?_) #[true, true, true, true, true, true, true, true, true, true, true, true, true, true, false, false] rfl rfl (take_ofW HT_.out HW_.out (by kernel_rfl)) (fun _ _ _ h => h) (Or.inl ⟨by rfl, ?_⟩) hHeld ?_ ?_
                    rotate_left
                    · rintro w' ⟨s0, s1, s2, s3, s4, s5, s6⟩
                      go_simp
                      with_reducible rfl
                    rotate_left
                    · simp only [Act.put, List.setIfInBounds_toArray, List.set_cons_zero, List.set_cons_succ, i64_w, i32_w]
                      rfl
                    refine pure_ (i := 14) (N := some 53) (v := ?_) (a' := ?_) #[true, true, true, true, true, true, true, true, true, true, true, true, true, true, true, false] rfl rfl (any_of HT_.out (by kernel_rfl)) (fun _ _ _ h => h) (Or.inl ⟨by rfl, ?_⟩) ?_ ?_
                    rotate_left
                    · intro w'
                      go_simp
                      with_reducible rfl
                    rotate_left
                    · simp only [Act.put, List.setIfInBounds_toArray, List.set_cons_zero, List.set_cons_succ, i64_w, i32_w]
                      rfl
                    refine pure_ (i := 15) (N := some 54) (v := ?_) (a' := ?_) #[true, true, true, true, true, true, true, true, true, true, true, true, true, true, true, true] rfl rfl (any_of HT_.out (by kernel_rfl)) (fun _ _ _ h => h) (Or.inl ⟨by rfl, ?_⟩) ?_ ?_
                    rotate_left
                    · intro w'
                      go_simp
                      with_reducible rfl
                    rotate_left
                    · simp only [Act.put, List.setIfInBounds_toArray, List.set_cons_zero, List.set_cons_succ, i64_w, i32_w]
                      rfl
                    refine done_ (done_of HT_.out (by kernel_rfl)) ?_
                    try go_wp2
                    go_meet
                    case rel => exact ⟨_, ((((rd_T39 l0_0 t370).f0).toList == a1_0.toList)), (by first | rfl | (simp; done) | (simp [*]; done)), H', ⟨by have := HJ4.out; first | omega | exact Nat.le_refl _⟩, ⟨by (with_reducible repeat (first | apply Kd.R_alloc | apply Kd.R_drewN | apply Kd.R_drew)); exact HO380.out⟩, ⟨by (with_reducible repeat (first | refine blk_drewN ?_ _ | refine blk_drew ?_ | refine blk_alloc ?_ _)); exact BK364.out⟩, ⟨by (with_reducible repeat (first | refine blk_drewN ?_ _ | refine blk_drew ?_ | refine blk_alloc ?_ _)); exact BK365.out⟩, ⟨by (with_reducible repeat (first | refine blk_drewN ?_ _ | refine blk_drew ?_ | refine blk_alloc ?_ _)); exact BK366.out⟩, ⟨by (with_reducible repeat (first | refine blk_drewN ?_ _ | refine blk_drew ?_ | refine blk_alloc ?_ _)); exact BK369.out⟩, ⟨by repeat (first | (with_reducible first | exact HB.out | apply below_alloc | apply pw_below_drewN | apply below_drew1 | refine below_set ?_ GE364.out | refine below_set ?_ GE365.out | refine below_set ?_ GE366.out | refine below_set ?_ GE369.out) | exact HB.out)⟩⟩
                  · rw [if_neg c47] at H
                    have c47b0 : decide (t370 < (l0_0.length : Int)) = false := decide_eq_false c47
                    clear c47
                    (first | rw [c47b0] | (simp only [i64_w, i32_w]; rw [c47b0]) | skip)
                    have H' := Aside0.mk H
                    clear H
                    try go_wp2
                    have n0_ : Aside0 (Kd.R k39 39 (w44.setCell ⟨gb369, 0, none⟩ (.slice Ao45 y378.length co45)) w.heap.size (fun k_ => k_ ≠ gb365) (.slice Ao45 y378.length co45) y378) := ⟨by (with_reducible repeat (first | apply Kd.R_alloc | apply Kd.R_drewN | apply Kd.R_drew)); exact Kd.R_mono (Kd.R_far (p := ⟨gb369, 0, none⟩) (Kd.R_types HO380.out BK369.out (by decide)) (fun _ hk => hk.2) (.slice Ao45 y378.length co45)) (fun _ hk => hk.1)⟩
                    have n1_ : Aside0 ((w44.setCell ⟨gb369, 0, none⟩ (.slice Ao45 y378.length co45)).heap[gb364]? = some (.cells #[.slice A0_0 l0_0.length c0_0, .slice A0_1 l0_1.length c0_1, .slice A0_2 l0_2.length c0_2] 26 (0, 0))) := ⟨by (with_reducible repeat (first | refine blk_drewN ?_ _ | refine blk_drew ?_ | refine blk_alloc ?_ _)); refine blk_far ?_ NB364_369.out _; (with_reducible repeat (first | refine blk_drewN ?_ _ | refine blk_drew ?_ | refine blk_alloc ?_ _)); exact BK364.out⟩
                    have n2_ : Aside0 ((w44.setCell ⟨gb369, 0, none⟩ (.slice Ao45 y378.length co45)).heap[gb365]? = some (.cells #[.string a1_0, .string a1_1] 39 (0, 0))) := ⟨by (with_reducible repeat (first | refine blk_drewN ?_ _ | refine blk_drew ?_ | refine blk_alloc ?_ _)); refine blk_far ?_ NB365_369.out _; (with_reducible repeat (first | refine blk_drewN ?_ _ | refine blk_drew ?_ | refine blk_alloc ?_ _)); exact BK365.out⟩
                    have n3_ : Aside0 ((w44.setCell ⟨gb369, 0, none⟩ (.slice Ao45 y378.length co45)).heap[gb366]? = some (.cells #[.slice none 0 0, .slice none 0 0, .slice none 0 0] 26 (0, 0))) := ⟨by (with_reducible repeat (first | refine blk_drewN ?_ _ | refine blk_drew ?_ | refine blk_alloc ?_ _)); refine blk_far ?_ NB366_369.out _; (with_reducible repeat (first | refine blk_drewN ?_ _ | refine blk_drew ?_ | refine blk_alloc ?_ _)); exact BK366.out⟩
                    have n4_ : Aside0 ((w44.setCell ⟨gb369, 0, none⟩ (.slice Ao45 y378.length co45)).heap[gb369]? = some (.cells #[.slice Ao45 y378.length co45, .slice none 0 0, .slice none 0 0] 26 (0, 0))) := ⟨by (with_reducible repeat (first | refine blk_drewN ?_ _ | refine blk_drew ?_ | refine blk_alloc ?_ _)); refine blk_put (cs := #[.slice Ao39 y375.length co39, .slice none 0 0, .slice none 0 0]) ?_ 0 _ rfl; (with_reducible repeat (first | refine blk_drewN ?_ _ | refine blk_drew ?_ | refine blk_alloc ?_ _)); exact BK369.out⟩
                    have n5_ : Aside0 (Below w.heap.size w (w44.setCell ⟨gb369, 0, none⟩ (.slice Ao45 y378.length co45))) := ⟨by repeat (first | (with_reducible first | exact HB.out | apply below_alloc | apply pw_below_drewN | apply below_drew1 | refine below_set ?_ GE364.out | refine below_set ?_ GE365.out | refine below_set ?_ GE366.out | refine below_set ?_ GE369.out) | exact HB.out)⟩
                    (try clear HO380)
                    (try clear BK364)
                    (try clear BK365)
                    (try clear BK366)
                    (try clear BK369)
                    (try clear HB)
                    generalize (w44.setCell ⟨gb369, 0, none⟩ (.slice Ao45 y378.length co45)) = w50 at n0_ n1_ n2_ n3_ n4_ n5_ ⊢
                    have HO380 := n0_
                    have BK364 := n1_
                    have BK365 := n2_
                    have BK366 := n3_
                    have BK369 := n4_
                    have HB := n5_
                    clear n0_ n1_ n2_ n3_ n4_ n5_
                    replace HO380 := Aside0.mk (Kd.R_drew HO380.out)
                    replace BK364 := Aside0.mk (blk_drew BK364.out)
                    replace BK365 := Aside0.mk (blk_drew BK365.out)
                    replace BK366 := Aside0.mk (blk_drew BK366.out)
                    replace BK369 := Aside0.mk (blk_drew BK369.out)
                    replace HB := Aside0.mk (below_drew1 HB.out)
                    refine start_ (n := 16) (S := fun w' => w'.cell? ⟨gb364, 0, none⟩ = some (.slice A0_0 l0_0.length c0_0) ∧ w'.cell? ⟨gb364, 1, none⟩ = some (.slice A0_1 l0_1.length c0_1) ∧ w'.cell? ⟨gb364, 2, none⟩ = some (.slice A0_2 l0_2.length c0_2)) (ds := []) #[false, false, false, false, false, false, false, false, false, false, false, false, false, false, false, false] (by kernel_rfl) rfl rfl ⟨(blk_cell BK364.out 0).trans rfl, (blk_cell BK364.out 1).trans rfl, (blk_cell BK364.out 2).trans rfl⟩ (fun hHeld => ?_); refine with_tabW bazaarref06_Put.tab9 bazaarref06_Put.bits9 (fun HT_ HW_ => ?_)
                    generalize w50.drew = w51 at HO380 BK364 BK365 BK366 BK369 HB hHeld ⊢
                    refine pure_ (i := 0) (N := some 39) (v := ?_) (a' := ?_) #[true, false, false, false, false, false, false, false, false, false, false, false, false, false, false, false] rfl rfl (any_of HT_.out (by kernel_rfl)) (fun _ _ _ h => h) (Or.inl ⟨by rfl, ?_⟩) ?_ ?_
                    rotate_left
                    · intro w'
                      go_simp
                      with_reducible rfl
                    rotate_left
                    · simp only [Act.put, List.setIfInBounds_toArray, List.set_cons_zero, List.set_cons_succ, i64_w, i32_w]
                      rfl
                    refine pure_ (i := 1) (N := some 40) (v := ?_) (a' := ?_) #[true, true, false, false, false, false, false, false, false, false, false, false, false, false, false, false] rfl rfl (any_of HT_.out (by kernel_rfl)) (fun _ _ _ h => h) (Or.inl ⟨by rfl, ?_⟩) ?_ ?_
                    rotate_left
                    · intro w'
                      go_simp
                      with_reducible rfl
                    rotate_left
                    · simp only [Act.put, List.setIfInBounds_toArray, List.set_cons_zero, List.set_cons_succ, i64_w, i32_w]
                      rfl
                    refine take_ (i := 2) (N := some 41) (v := ?_) (a' := ?_) #[true, true, true, false, false, false, false, false, false, false, false, false, false, false, false, false] rfl rfl (take_ofW HT_.out HW_.out (by kernel_rfl)) (fun _ _ _ h => h) (Or.inl ⟨by rfl, ?_⟩) hHeld ?_ ?_
                    rotate_left
                    · rintro w' ⟨s0, s1, s2⟩
                      go_simp
                      with_reducible rfl
                    rotate_left
                    · simp only [Act.put, List.setIfInBounds_toArray, List.set_cons_zero, List.set_cons_succ, i64_w, i32_w]
                      rfl
                    refine pure_ (i := 3) (N := some 42) (v := ?_) (a' := ?_) #[true, true, true, true, false, false, false, false, false, false, false, false, false, false, false, false] rfl rfl (any_of HT_.out (by kernel_rfl)) (fun _ _ _ h => h) (Or.inl ⟨by rfl, ?_⟩) ?_ ?_
                    rotate_left
                    · intro w'
                      go_simp
                      with_reducible rfl
                    rotate_left
                    · simp only [Act.put, List.setIfInBounds_toArray, List.set_cons_zero, List.set_cons_succ, i64_w, i32_w]
                      rfl
                    refine pure_ (i := 4) (N := some 43) (v := ?_) (a' := ?_) #[true, true, true, true, true, false, false, false, false, false, false, false, false, false, false, false] rfl rfl (any_of HT_.out (by kernel_rfl)) (fun _ _ _ h => h) (Or.inl ⟨by rfl, ?_⟩) ?_ ?_
                    rotate_left
                    · intro w'
                      go_simp
                      with_reducible rfl
                    rotate_left
                    · simp only [Act.put, List.setIfInBounds_toArray, List.set_cons_zero, List.set_cons_succ, i64_w, i32_w]
                      rfl
                    refine pure_ (i := 5) (N := some 44) (v := ?_) (a' := ?_) #[true, true, true, true, true, true, false, false, false, false, false, false, false, false, false, false] rfl rfl (any_of HT_.out (by kernel_rfl)) (fun _ _ _ h => h) (Or.inl ⟨by rfl, ?_⟩) ?_ ?_
                    rotate_left
                    · intro w'
                      go_simp
                      with_reducible rfl
                    rotate_left
                    · simp only [Act.put, List.setIfInBounds_toArray, List.set_cons_zero, List.set_cons_succ, i64_w, i32_w]
                      rfl
                    refine pure_ (i := 6) (N := some 45) (v := undef) (a' := ?_) #[true, true, true, true, true, true, true, false, false, false, false, false, false, false, false, false] rfl rfl (any_of HT_.out (by kernel_rfl)) (fun _ _ _ h => h) (Or.inr ⟨by rfl, rfl⟩) ?_ ?_
                    rotate_left
                    · simp only [Act.put, List.setIfInBounds_toArray, List.set_cons_zero, List.set_cons_succ, i64_w, i32_w]
                      rfl
                    refine pure_ (i := 7) (N := some 46) (v := undef) (a' := ?_) #[true, true, true, true, true, true, true, true, false, false, false, false, false, false, false, false] rfl rfl (any_of HT_.out (by kernel_rfl)) (fun _ _ _ h => h) (Or.inr ⟨by rfl, rfl⟩) ?_ ?_
                    rotate_left
                    · simp only [Act.put, List.setIfInBounds_toArray, List.set_cons_zero, List.set_cons_succ, i64_w, i32_w]
                      rfl
                    refine pure_ (i := 8) (N := some 47) (v := undef) (a' := ?_) #[true, true, true, true, true, true, true, true, true, false, false, false, false, false, false, false] rfl rfl (any_of HT_.out (by kernel_rfl)) (fun _ _ _ h => h) (Or.inr ⟨by rfl, rfl⟩) ?_ ?_
                    rotate_left
                    · simp only [Act.put, List.setIfInBounds_toArray, List.set_cons_zero, List.set_cons_succ, i64_w, i32_w]
                      rfl
                    refine pure_ (i := 9) (N := some 48) (v := undef) (a' := ?_) #[true, true, true, true, true, true, true, true, true, true, false, false, false, false, false, false] rfl rfl (any_of HT_.out (by kernel_rfl)) (fun _ _ _ h => h) (Or.inr ⟨by rfl, rfl⟩) ?_ ?_
                    rotate_left
                    · simp only [Act.put, List.setIfInBounds_toArray, List.set_cons_zero, List.set_cons_succ, i64_w, i32_w]
                      rfl
                    refine pure_ (i := 10) (N := some 49) (v := undef) (a' := ?_) #[true, true, true, true, true, true, true, true, true, true, true, false, false, false, false, false] rfl rfl (any_of HT_.out (by kernel_rfl)) (fun _ _ _ h => h) (Or.inr ⟨by rfl, rfl⟩) ?_ ?_
                    rotate_left
                    · simp only [Act.put, List.setIfInBounds_toArray, List.set_cons_zero, List.set_cons_succ, i64_w, i32_w]
                      rfl
                    refine pure_ (i := 11) (N := some 50) (v := undef) (a' := ?_) #[true, true, true, true, true, true, true, true, true, true, true, true, false, false, false, false] rfl rfl (any_of HT_.out (by kernel_rfl)) (fun _ _ _ h => h) (Or.inr ⟨by rfl, rfl⟩) ?_ ?_
                    rotate_left
                    · simp only [Act.put, List.setIfInBounds_toArray, List.set_cons_zero, List.set_cons_succ, i64_w, i32_w]
                      rfl
                    refine pure_ (i := 12) (N := some 51) (v := undef) (a' := ?_) #[true, true, true, true, true, true, true, true, true, true, true, true, true, false, false, false] rfl rfl (any_of HT_.out (by kernel_rfl)) (fun _ _ _ h => h) (Or.inr ⟨by rfl, rfl⟩) ?_ ?_
                    rotate_left
                    · simp only [Act.put, List.setIfInBounds_toArray, List.set_cons_zero, List.set_cons_succ, i64_w, i32_w]
                      rfl
                    refine pure_ (i := 13) (N := some 52) (v := undef) (a' := ?_) #[true, true, true, true, true, true, true, true, true, true, true, true, true, true, false, false] rfl rfl (any_of HT_.out (by kernel_rfl)) (fun _ _ _ h => h) (Or.inr ⟨by rfl, rfl⟩) ?_ ?_
                    rotate_left
                    · simp only [Act.put, List.setIfInBounds_toArray, List.set_cons_zero, List.set_cons_succ, i64_w, i32_w]
                      rfl
                    refine pure_ (i := 14) (N := some 53) (v := undef) (a' := ?_) #[true, true, true, true, true, true, true, true, true, true, true, true, true, true, true, false] rfl rfl (any_of HT_.out (by kernel_rfl)) (fun _ _ _ h => h) (Or.inr ⟨by rfl, rfl⟩) ?_ ?_
                    rotate_left
                    · simp only [Act.put, List.setIfInBounds_toArray, List.set_cons_zero, List.set_cons_succ, i64_w, i32_w]
                      rfl
                    refine pure_ (i := 15) (N := some 54) (v := ?_) (a' := ?_) #[true, true, true, true, true, true, true, true, true, true, true, true, true, true, true, true] rfl rfl (any_of HT_.out (by kernel_rfl)) (fun _ _ _ h => h) (Or.inl ⟨by rfl, ?_⟩) ?_ ?_
                    rotate_left
                    · intro w'
                      go_simp
                      with_reducible rfl
                    rotate_left
                    · simp only [Act.put, List.setIfInBounds_toArray, List.set_cons_zero, List.set_cons_succ, i64_w, i32_w]
                      rfl
                    refine done_ (done_of HT_.out (by kernel_rfl)) ?_
                    try go_wp2
                    go_meet
                    case rel => exact ⟨_, (false), (by first | rfl | (simp; done) | (simp [*]; done)), H', ⟨by have := HJ4.out; first | omega | exact Nat.le_refl _⟩, ⟨by (with_reducible repeat (first | apply Kd.R_alloc | apply Kd.R_drewN | apply Kd.R_drew)); exact HO380.out⟩, ⟨by (with_reducible repeat (first | refine blk_drewN ?_ _ | refine blk_drew ?_ | refine blk_alloc ?_ _)); exact BK364.out⟩, ⟨by (with_reducible repeat (first | refine blk_drewN ?_ _ | refine blk_drew ?_ | refine blk_alloc ?_ _)); exact BK365.out⟩, ⟨by (with_reducible repeat (first | refine blk_drewN ?_ _ | refine blk_drew ?_ | refine blk_alloc ?_ _)); exact BK366.out⟩, ⟨by (with_reducible repeat (first | refine blk_drewN ?_ _ | refine blk_drew ?_ | refine blk_alloc ?_ _)); exact BK369.out⟩, ⟨by repeat (first | (with_reducible first | exact HB.out | apply below_alloc | apply pw_below_drewN | apply below_drew1 | refine below_set ?_ GE364.out | refine below_set ?_ GE365.out | refine below_set ?_ GE366.out | refine below_set ?_ GE369.out) | exact HB.out)⟩⟩
                case rest =>
                  clear HC26
                  try clear c1
                  try clear c2
                  try clear p2
                  try clear c3
                  try clear p3
                  try clear q3
                  try clear hx3
                  try clear c4
                  try clear c9
                  try clear c10
                  try clear c13
                  try clear c16
                  try clear c17
                  try clear c18
                  try clear c19
                  try clear c20
                  try clear c22
                  try clear c22b0
                  try clear c22b1
                  try clear c23
                  try clear c23b0
                  try clear c23b1
                  try clear c24
                  try clear c25
                  try clear c28
                  try clear c29
                  try clear c30
                  try clear c32
                  try clear c33
                  try clear q37
                  try clear p38
                  try clear q38
                  try clear hx38
                  try clear c41
                  try clear c47
                  try clear c47b0
                  try clear hcz11_0
                  try clear hcz11_1
                  try clear hcz14_0
                  try clear hcz14_1
                  try clear hcz14_2
                  try clear hcz20_0
                  try clear hcz20_1
                  try clear hcz20_2
                  try clear hcz31_0
                  try clear hcz31_1
                  try clear hcz31_2
                  try clear hcz34_0
                  try clear hcz34_1
                  try clear hcz42_0
                  try clear hcz42_1
                  try clear hcz42_2
                  try clear hcz43_0
                  try clear hcz43_1
                  try clear hcz46_0
                  try clear hcz46_1
                  try clear hcz46_2
                  try clear hfz11_0
                  try clear hfz11_1
                  try clear hfz14_0
                  try clear hfz14_1
                  try clear hfz14_2
                  try clear hfz20_0
                  try clear hfz20_1
                  try clear hfz20_2
                  try clear hfz31_0
                  try clear hfz31_1
                  try clear hfz31_2
                  try clear hfz34_0
                  try clear hfz34_1
                  try clear hfz42_0
                  try clear hfz42_1
                  try clear hfz42_2
                  try clear hfz43_0
                  try clear hfz43_1
                  try clear hfz46_0
                  try clear hfz46_1
                  try clear hfz46_2
                  try clear hx381_0
                  try clear hx381_1
                  try clear p2
                  try clear p381
                  try clear q37
                  try clear q381
                  obtain ⟨kq, x54_25, rfl, HA, HJ25, HO_370000, BK364, BK365, BK366, BK369, HB⟩ := hcut
                  cases kq with
                  | zero => exact absurd HA.out (by simp [bazaarref06_Put.j1])
                  | succ kj25 =>
                    have H := HA.out
                    clear HA
                    simp only [bazaarref06_Put.j1] at H
                    by_cases c52 : x54_25 = true
                    · subst c52
                      have H1 : (if 0 ≤ (wrap64 (t370 + 1)) then (if (wrap64 (t370 + 1)) ≤ (l0_0.length : Int) then ((some (l0_0.drop ((wrap64 (t370 + 1)) : Int).toNat : List (S39))).bind fun y382 => (if y378.length + y382.length < 4398046511104 then ((some (y378 ++ y382 : List (S39))).bind fun y386 => (if (y386.length : Int) > 255 then (some (([] : List (S39)), ([] : List ByteArray), ([] : List Int), 60)) else (some (y386, ([] : List ByteArray), ([] : List Int), 0)))) else (none))) else (none)) else (none)) = some (r1, r2, r3, r4) := by rw [if_pos rfl] at H; exact H
                      clear H
                      have H := H1
                      clear H1
                      obtain ⟨ji53, hji53⟩ : ∃ j_ : Int, (wrap64 (t370 + 1)) = j_ := ⟨_, rfl⟩
                      replace H : (if 0 ≤ (ji53) then (if (ji53) ≤ (l0_0.length : Int) then ((some (l0_0.drop ((ji53) : Int).toNat : List (S39))).bind fun y382 => (if y378.length + y382.length < 4398046511104 then ((some (y378 ++ y382 : List (S39))).bind fun y386 => (if (y386.length : Int) > 255 then (some (([] : List (S39)), ([] : List ByteArray), ([] : List Int), 60)) else (some (y386, ([] : List ByteArray), ([] : List Int), 0)))) else (none))) else (none)) else (none)) = some (r1, r2, r3, r4) := by first | (rw [hji53] at H; exact H) | (simp only [hji53] at H ⊢; exact H)
                      have hji53w : (IntKind.i64.wrap (t370 + 1)) = ji53 := (i64_w _).trans hji53
                      by_cases c54 : 0 ≤ (ji53)
                      · rw [if_pos c54] at H
                        have c54b0 := eq_true c54
                        have c54b1 : decide (0 ≤ (ji53)) = true := decide_eq_true c54
                        clear c54
                        by_cases c55 : (ji53) ≤ (l0_0.length : Int)
                        · rw [if_pos c55] at H
                          have c55b0 := eq_true c55
                          have c55b1 : decide ((ji53) ≤ (l0_0.length : Int)) = true := decide_eq_true c55
                          clear c55
                          obtain ⟨y382, hy382⟩ : ∃ y_ : List (S39), y_ = (l0_0.drop ((ji53) : Int).toNat) := ⟨_, rfl⟩
                          replace H : (if y378.length + y382.length < 4398046511104 then ((some (y378 ++ y382 : List (S39))).bind fun y386 => (if (y386.length : Int) > 255 then (some (([] : List (S39)), ([] : List ByteArray), ([] : List Int), 60)) else (some (y386, ([] : List ByteArray), ([] : List Int), 0)))) else (none)) = some (r1, r2, r3, r4) := by first | (rw [hy382]; with_reducible exact H) | (have H2_ := (Option.bind_some _ _).symm.trans H; rw [hy382]; with_reducible exact H2_) | (have H2_ := (Option.bind_some _ _).symm.trans H; with_reducible exact H2_) | with_reducible exact H | (rw [hy382]; exact H) | exact H
                          have Ny382 := Aside0.mk hy382
                          clear hy382
                          by_cases c56 : y378.length + y382.length < 4398046511104
                          · rw [if_pos c56] at H
                            have LMc56 := Aside0.mk c56
                            clear c56
                            obtain ⟨y386, hy386⟩ : ∃ y_ : List (S39), y_ = (y378 ++ y382) := ⟨_, rfl⟩
                            replace H : (if (y386.length : Int) > 255 then (some (([] : List (S39)), ([] : List ByteArray), ([] : List Int), 60)) else (some (y386, ([] : List ByteArray), ([] : List Int), 0))) = some (r1, r2, r3, r4) := by first | (rw [hy386]; with_reducible exact H) | (have H2_ := (Option.bind_some _ _).symm.trans H; rw [hy386]; with_reducible exact H2_) | (have H2_ := (Option.bind_some _ _).symm.trans H; with_reducible exact H2_) | with_reducible exact H | (rw [hy386]; exact H) | exact H
                            have Ny386 := Aside0.mk hy386
                            clear hy386
                            by_cases c57 : (y386.length : Int) > 255
                            · rw [if_pos c57] at H
                              have c57b0 : decide (255 < (y386.length : Int)) = true := decide_eq_true c57
                              have c57b1 : decide (255 < y386.length) = true := decide_eq_true (by omega)
                              clear c57
                              simp only [Option.some.injEq, Prod.mk.injEq] at H
                              obtain ⟨rfl, rfl, rfl, rfl⟩ := H
                              try go_wp2
                              replace HO_370000 := Aside0.mk (Kd.R_drew HO_370000.out)
                              replace BK364 := Aside0.mk (blk_drew BK364.out)
                              replace BK365 := Aside0.mk (blk_drew BK365.out)
                              replace BK366 := Aside0.mk (blk_drew BK366.out)
                              replace BK369 := Aside0.mk (blk_drew BK369.out)
                              replace HB := Aside0.mk (below_drew1 HB.out)
                              have q59 : ((ji53) : Int) ≤ ((l0_0.length : Int) : Int) := of_decide_eq_true (by first | (with_reducible assumption) | assumption)
                              obtain ⟨i059, hi059, _, hsz59, _⟩ := info_parts info39
                              have hroom59 : l0_0.length ≤ c0_0 := HC0_0.out
                              have hC59 : Kd.C k39 _ A0_0 l0_0.length l0_0 := HR0_0.out
                              have q059 : (0 : Int) ≤ ((ji53) : Int) := of_decide_eq_true (by first | (with_reducible assumption) | assumption)
                              have hcut59 := cut_from (P := Try.prog) 22 39 .i64 Try.underlying22 hi059 2 hsz59 A0_0 l0_0.length c0_0 (ji53) q059 q59
                              have hr59 := Kd.C_drop (m := ((ji53) : Int).toNat) (c := c0_0) hC59 (by omega) hroom59
                              obtain ⟨A59, hA59⟩ : ∃ A1, A1 = (if c0_0 = ((ji53) : Int).toNat then A0_0 else (A0_0 : Option Addr).map (·.add (((ji53) : Int).toNat * 2))) := ⟨_, rfl⟩
                              obtain ⟨c59, hc59⟩ : ∃ c1, c1 = c0_0 - ((ji53) : Int).toNat := ⟨_, rfl⟩
                              have hy59 : y382.length = l0_0.length - ((ji53) : Int).toNat := (by rw [Ny382.out, List.length_drop] <;> omega)
                              rw [show (l0_0).drop ((ji53) : Int).toNat = y382 from Ny382.out.symm] at hr59
                              replace hr59 : Kd.C k39 _ A59 y382.length y382 := (by rw [hA59]; exact hr59)
                              rw [← hy59, ← hA59, ← hc59] at hcut59
                              have HR385 := Aside0.mk hr59
                              have HC385 := Aside0.mk (show y382.length ≤ c59 from by rw [hy59, hc59]; exact Nat.sub_le_sub_right hroom59 _)
                              clear hr59 hC59 hroom59 hi059 hsz59 hc59
                              have KY59 := Aside0.mk hy59
                              have KA59 := Aside0.mk hA59
                              clear hy59 hA59
                              replace q59 := eq_true q59
                              refine start_ (n := 9) (S := fun w' => w'.cell? ⟨gb369, 0, none⟩ = some (.slice Ao45 y378.length co45) ∧ w'.cell? ⟨gb369, 1, none⟩ = some (.slice none 0 0) ∧ w'.cell? ⟨gb369, 2, none⟩ = some (.slice none 0 0) ∧ w'.cell? ⟨gb364, 0, none⟩ = some (.slice A0_0 l0_0.length c0_0) ∧ w'.cell? ⟨gb364, 1, none⟩ = some (.slice A0_1 l0_1.length c0_1) ∧ w'.cell? ⟨gb364, 2, none⟩ = some (.slice A0_2 l0_2.length c0_2)) (ds := [8]) #[false, false, false, false, false, false, false, false, false] (by kernel_rfl) rfl rfl ⟨(blk_cell BK369.out 0).trans rfl, (blk_cell BK369.out 1).trans rfl, (blk_cell BK369.out 2).trans rfl, (blk_cell BK364.out 0).trans rfl, (blk_cell BK364.out 1).trans rfl, (blk_cell BK364.out 2).trans rfl⟩ (fun hHeld => ?_); refine with_tabW bazaarref06_Put.tab11 bazaarref06_Put.bits11 (fun HT_ HW_ => ?_)
                              generalize wc.drew = w58 at HO_370000 BK364 BK365 BK366 BK369 HB HR385 hHeld ⊢
                              refine pure_ (i := 0) (N := some 57) (v := ?_) (a' := ?_) #[true, false, false, false, false, false, false, false, false] rfl rfl (any_of HT_.out (by kernel_rfl)) (fun _ _ _ h => h) (Or.inl ⟨by rfl, ?_⟩) ?_ ?_
                              rotate_left
                              · intro w'
                                go_simp
                                with_reducible rfl
                              rotate_left
                              · simp only [Act.put, List.setIfInBounds_toArray, List.set_cons_zero, List.set_cons_succ, i64_w, i32_w]
                                rfl
                              refine pure_ (i := 2) (N := some 59) (v := ?_) (a' := ?_) #[true, false, true, false, false, false, false, false, false] rfl rfl (any_of HT_.out (by kernel_rfl)) (fun _ _ _ h => h) (Or.inl ⟨by rfl, ?_⟩) ?_ ?_
                              rotate_left
                              · intro w'
                                go_simp
                                with_reducible rfl
                              rotate_left
                              · simp only [Act.put, List.setIfInBounds_toArray, List.set_cons_zero, List.set_cons_succ, i64_w, i32_w]
                                rfl
                              refine pure_ (i := 4) (N := some 61) (v := ?_) (a' := ?_) #[true, false, true, false, true, false, false, false, false] rfl rfl (any_of HT_.out (by kernel_rfl)) (fun _ _ _ h => h) (Or.inl ⟨by rfl, ?_⟩) ?_ ?_
                              rotate_left
                              · intro w'
                                go_simp
                                with_reducible rfl
                              rotate_left
                              · simp only [Act.put, List.setIfInBounds_toArray, List.set_cons_zero, List.set_cons_succ, i64_w, i32_w]
                                rfl
                              refine take_ (i := 1) (N := some 58) (v := ?_) (a' := ?_) #[true, true, true, false, true, false, false, false, false] rfl rfl (take_ofW HT_.out HW_.out (by kernel_rfl)) (fun _ _ _ h => h) (Or.inl ⟨by rfl, ?_⟩) hHeld ?_ ?_
                              rotate_left
                              · rintro w' ⟨s0, s1, s2, s3, s4, s5⟩
                                go_simp
                                with_reducible rfl
                              rotate_left
                              · simp only [Act.put, List.setIfInBounds_toArray, List.set_cons_zero, List.set_cons_succ, i64_w, i32_w]
                                rfl
                              refine take_ (i := 3) (N := some 60) (v := ?_) (a' := ?_) #[true, true, true, true, true, false, false, false, false] rfl rfl (take_ofW HT_.out HW_.out (by kernel_rfl)) (fun _ _ _ h => h) (Or.inl ⟨by rfl, ?_⟩) hHeld ?_ ?_
                              rotate_left
                              · rintro w' ⟨s0, s1, s2, s3, s4, s5⟩
                                go_simp
                                with_reducible rfl
                              rotate_left
                              · simp only [Act.put, List.setIfInBounds_toArray, List.set_cons_zero, List.set_cons_succ, i64_w, i32_w]
                                rfl
                              refine pure_ (i := 5) (N := some 62) (v := ?_) (a' := ?_) #[true, true, true, true, true, true, false, false, false] rfl rfl (any_of HT_.out (by kernel_rfl)) (fun _ _ _ h => h) (Or.inl ⟨by rfl, ?_⟩) ?_ ?_
                              rotate_left
                              · intro w'
                                go_simp
                                with_reducible rfl
                              rotate_left
                              · simp only [Act.put, List.setIfInBounds_toArray, List.set_cons_zero, List.set_cons_succ, i64_w, i32_w]
                                rfl
                              refine one_ (i := 6) (N := some 63) #[true, true, true, true, true, true, true, false, false] rfl rfl (one_of HT_.out (by kernel_rfl)) (by decide) (fun K hK => ?_)
                              refine Kd.R_append_rows_step k39 (w0 := w) w.heap.size (by rfl) (.tmp 58) (.tmp 62) 22 39 (.agg #[(.string ⟨#[]⟩), (.string ⟨#[]⟩)]) 32 rfl Try.underlying22 info39 rfl (by decide) (by omega) (.slice Ao45 y378.length co45) y378 y382 _ _ _ (fun k_ => k_ ≠ gb365) (fun _ => False) rfl rfl ?aO ?aR (fun _ _ h => h) (fun _ h => h.elim) ?aF ?aB ?aS ?aL ?_
                              (case aR => repeat (first | exact (Kd.C_below HR385.out HB.out) | (with_reducible refine Kd.C_alloc ?_ _) | (with_reducible refine Kd.C_drewN ?_ _) | (with_reducible refine Kd.C_drew ?_)))
                              (case aB => exact (L_ HB.out))
                              (case aF => exact (fun k_ hk => Kd.freshB (g := gb365) (o := .cells #[.string a1_0, .string a1_1] 39 (0, 0)) (B_ BK365.out) k_ hk))
                              (case aO => exact (R_ HO_370000.out))
                              (case aS => exact (below_size (L_ HB.out)))
                              (case aL => have := LMc56.out; omega)
                              intro v387 w60 ho hb hg hat
                              rw [← Ny386.out] at ho
                              have HO388 := Aside0.mk (ho)
                              replace BK364 := Aside0.mk (blk_grown (g := gb364) (o := .cells #[.slice A0_0 l0_0.length c0_0, .slice A0_1 l0_1.length c0_1, .slice A0_2 l0_2.length c0_2] 26 (0, 0)) (B_ BK364.out) hg (Kd.R_ne HO_370000.out BK364.out (by decide)))
                              replace BK365 := Aside0.mk (blk_grown (g := gb365) (o := .cells #[.string a1_0, .string a1_1] 39 (0, 0)) (B_ BK365.out) hg (Kd.R_away HO_370000.out (fun _ hk => hk)))
                              replace BK366 := Aside0.mk (blk_grown (g := gb366) (o := .cells #[.slice none 0 0, .slice none 0 0, .slice none 0 0] 26 (0, 0)) (B_ BK366.out) hg (Kd.R_ne HO_370000.out BK366.out (by decide)))
                              replace BK369 := Aside0.mk (blk_grown (g := gb369) (o := .cells #[.slice Ao45 y378.length co45, .slice none 0 0, .slice none 0 0] 26 (0, 0)) (B_ BK369.out) hg (Kd.R_ne HO_370000.out BK369.out (by decide)))
                              replace HB := Aside0.mk (hb)
                              clear HO_370000
                              clear ho hb hg hat
                              obtain ⟨Ao61, co61, eo61⟩ := Kd.R_slice HO388.out
                              (first | subst eo61 | (injection eo61 with f1_ f2_ f3_; have f4_ := f1_.symm; have f5_ := f3_.symm; clear f1_ f2_ f3_; subst f4_; subst f5_))
                              refine hK.out _ _ ⟨(blk_cell BK369.out 0).trans rfl, (blk_cell BK369.out 1).trans rfl, (blk_cell BK369.out 2).trans rfl, (blk_cell BK364.out 0).trans rfl, (blk_cell BK364.out 1).trans rfl, (blk_cell BK364.out 2).trans rfl⟩ (fun hHeld => ?_)
                              clear hK K
                              refine norm_ (a' := ?_) ?_ ?_
                              rotate_left
                              · show Act.put _ (some 63) _ = _
                                simp only [Act.put, List.setIfInBounds_toArray, List.set_cons_zero, List.set_cons_succ, i64_w, i32_w]
                                rfl
                              refine pure_ (i := 7) (N := some 64) (v := ?_) (a' := ?_) #[true, true, true, true, true, true, true, true, false] rfl rfl (any_of HT_.out (by kernel_rfl)) (fun _ _ _ h => h) (Or.inl ⟨by rfl, ?_⟩) ?_ ?_
                              rotate_left
                              · intro w'
                                go_simp
                                with_reducible rfl
                              rotate_left
                              · simp only [Act.put, List.setIfInBounds_toArray, List.set_cons_zero, List.set_cons_succ, i64_w, i32_w]
                                rfl
                              refine last_ (i := 8) (N := none) #[true, true, true, true, true, true, true, true, true] rfl rfl (one_of HT_.out (by kernel_rfl)) (by decide) (fun K hK => ?_)
                              have hs62 : w60.cell? ⟨gb369, 0, none⟩ = some (.slice Ao45 y378.length co45) := (blk_cell BK369.out 0).trans rfl
                              have hfs62 := blk_frozen BK369.out 0
                              have hns62_0 := NB364_369.out
                              have hns62_1 := NB365_369.out
                              have hns62_2 := NB366_369.out
                              have hms62_0 := NB369_364.out
                              have hms62_1 := NB369_365.out
                              have hms62_2 := NB369_366.out
                              refine skip_ (w1 := ?_) (by rfl) rfl ?_ ?_
                              rotate_left
                              · go_simp
                                rfl
                              refine hK.out _ _ ?_
                              clear hK K
                              refine done_ (done_of HT_.out (by kernel_rfl)) ?_
                              have hnb63 := NB369_364.out
                              have hnc63 := NB364_369.out
                              have hnb64 := NB369_365.out
                              have hnc64 := NB365_369.out
                              have hnb65 := NB369_366.out
                              have hnc65 := NB366_369.out
                              have hcz66_0 : w60.cell? ⟨gb369, 0, none⟩ = some (.slice Ao45 y378.length co45) := (blk_cell BK369.out 0).trans rfl
                              have hcz66_1 : w60.cell? ⟨gb369, 1, none⟩ = some (.slice none 0 0) := (blk_cell BK369.out 1).trans rfl
                              have hcz66_2 : w60.cell? ⟨gb369, 2, none⟩ = some (.slice none 0 0) := (blk_cell BK369.out 2).trans rfl
                              have hfz66_0 := blk_frozen BK369.out 0
                              have hfz66_1 := blk_frozen BK369.out 1
                              have hfz66_2 := blk_frozen BK369.out 2
                              have hnb67 := NB366_364.out
                              have hnc67 := NB364_366.out
                              have hnb68 := NB366_365.out
                              have hnc68 := NB365_366.out
                              have hcz69_0 : w60.cell? ⟨gb366, 0, none⟩ = some (.slice none 0 0) := (blk_cell BK366.out 0).trans rfl
                              have hcz69_1 : w60.cell? ⟨gb366, 1, none⟩ = some (.slice none 0 0) := (blk_cell BK366.out 1).trans rfl
                              have hcz69_2 : w60.cell? ⟨gb366, 2, none⟩ = some (.slice none 0 0) := (blk_cell BK366.out 2).trans rfl
                              have hfz69_0 := blk_frozen BK366.out 0
                              have hfz69_1 := blk_frozen BK366.out 1
                              have hfz69_2 := blk_frozen BK366.out 2
                              try go_wp2
                              refine bodyPost_ret (results_ct rfl _ _ gb366 26 #[.slice none 0 0, .slice none 0 0, .slice none 0 0] (0, 0) _ rfl (by (with_reducible repeat (first | refine blk_drewN ?_ _ | refine blk_drew ?_ | refine blk_alloc ?_ _)); refine blk_put (cs := #[.slice none 0 0, .slice none 0 0, .slice none 0 0]) ?_ 2 _ rfl; (with_reducible repeat (first | refine blk_drewN ?_ _ | refine blk_drew ?_ | refine blk_alloc ?_ _)); refine blk_put (cs := #[.slice none 0 0, .slice none 0 0, .slice none 0 0]) ?_ 1 _ rfl; (with_reducible repeat (first | refine blk_drewN ?_ _ | refine blk_drew ?_ | refine blk_alloc ?_ _)); refine blk_put (cs := #[.slice none 0 0, .slice none 0 0, .slice none 0 0]) ?_ 0 _ rfl; (with_reducible repeat (first | refine blk_drewN ?_ _ | refine blk_drew ?_ | refine blk_alloc ?_ _)); refine blk_far ?_ NB366_369.out _; (with_reducible repeat (first | refine blk_drewN ?_ _ | refine blk_drew ?_ | refine blk_alloc ?_ _)); exact BK366.out) Try.underlying26 rfl (by kernel_rfl)) rfl ?_
                              exact ⟨_, _, _, by first | rfl | (simp [errW_none, errW_some] <;> rfl) | (simp only [← hji53]; first | rfl | (simp [errW_none, errW_some] <;> rfl)) | (simp [*, errW_none, errW_some] <;> rfl), by first | exact Kd.R_nil _ _ _ _ _ | exact Kd.N_nil _ _ _ _ _ | exact Kd.V_nil _ _ _ _ _ | exact Kd.Q_nil _ _ _ _ _ | exact Kd.S_nil _ _ _ _ _, by first | exact Kd.R_nil _ _ _ _ _ | exact Kd.N_nil _ _ _ _ _ | exact Kd.V_nil _ _ _ _ _ | exact Kd.Q_nil _ _ _ _ _ | exact Kd.S_nil _ _ _ _ _, by first | exact Kd.R_nil _ _ _ _ _ | exact Kd.N_nil _ _ _ _ _ | exact Kd.V_nil _ _ _ _ _ | exact Kd.Q_nil _ _ _ _ _ | exact Kd.S_nil _ _ _ _ _, by repeat (first | (with_reducible first | exact HB.out | apply below_alloc | apply pw_below_drewN | apply below_drew1 | refine below_set ?_ GE364.out | refine below_set ?_ GE365.out | refine below_set ?_ GE366.out | refine below_set ?_ GE369.out) | exact HB.out)⟩
                            · rw [if_neg c57] at H
                              have c57b0 : decide (255 < (y386.length : Int)) = false := decide_eq_false c57
                              have c57b1 : decide (255 < y386.length) = false := decide_eq_false (by omega)
                              clear c57
                              simp only [Option.some.injEq, Prod.mk.injEq] at H
                              obtain ⟨rfl, rfl, rfl, rfl⟩ := H
                              try go_wp2
                              replace HO_370000 := Aside0.mk (Kd.R_drew HO_370000.out)
                              replace BK364 := Aside0.mk (blk_drew BK364.out)
                              replace BK365 := Aside0.mk (blk_drew BK365.out)
                              replace BK366 := Aside0.mk (blk_drew BK366.out)
                              replace BK369 := Aside0.mk (blk_drew BK369.out)
                              replace HB := Aside0.mk (below_drew1 HB.out)
                              have q71 : ((ji53) : Int) ≤ ((l0_0.length : Int) : Int) := of_decide_eq_true (by first | (with_reducible assumption) | assumption)
                              obtain ⟨i071, hi071, _, hsz71, _⟩ := info_parts info39
                              have hroom71 : l0_0.length ≤ c0_0 := HC0_0.out
                              have hC71 : Kd.C k39 _ A0_0 l0_0.length l0_0 := HR0_0.out
                              have q071 : (0 : Int) ≤ ((ji53) : Int) := of_decide_eq_true (by first | (with_reducible assumption) | assumption)
                              have hcut71 := cut_from (P := Try.prog) 22 39 .i64 Try.underlying22 hi071 2 hsz71 A0_0 l0_0.length c0_0 (ji53) q071 q71
                              have hr71 := Kd.C_drop (m := ((ji53) : Int).toNat) (c := c0_0) hC71 (by omega) hroom71
                              obtain ⟨A71, hA71⟩ : ∃ A1, A1 = (if c0_0 = ((ji53) : Int).toNat then A0_0 else (A0_0 : Option Addr).map (·.add (((ji53) : Int).toNat * 2))) := ⟨_, rfl⟩
                              obtain ⟨c71, hc71⟩ : ∃ c1, c1 = c0_0 - ((ji53) : Int).toNat := ⟨_, rfl⟩
                              have hy71 : y382.length = l0_0.length - ((ji53) : Int).toNat := (by rw [Ny382.out, List.length_drop] <;> omega)
                              rw [show (l0_0).drop ((ji53) : Int).toNat = y382 from Ny382.out.symm] at hr71
                              replace hr71 : Kd.C k39 _ A71 y382.length y382 := (by rw [hA71]; exact hr71)
                              rw [← hy71, ← hA71, ← hc71] at hcut71
                              have HR385 := Aside0.mk hr71
                              have HC385 := Aside0.mk (show y382.length ≤ c71 from by rw [hy71, hc71]; exact Nat.sub_le_sub_right hroom71 _)
                              clear hr71 hC71 hroom71 hi071 hsz71 hc71
                              have KY71 := Aside0.mk hy71
                              have KA71 := Aside0.mk hA71
                              clear hy71 hA71
                              replace q71 := eq_true q71
                              refine start_ (n := 9) (S := fun w' => w'.cell? ⟨gb369, 0, none⟩ = some (.slice Ao45 y378.length co45) ∧ w'.cell? ⟨gb369, 1, none⟩ = some (.slice none 0 0) ∧ w'.cell? ⟨gb369, 2, none⟩ = some (.slice none 0 0) ∧ w'.cell? ⟨gb364, 0, none⟩ = some (.slice A0_0 l0_0.length c0_0) ∧ w'.cell? ⟨gb364, 1, none⟩ = some (.slice A0_1 l0_1.length c0_1) ∧ w'.cell? ⟨gb364, 2, none⟩ = some (.slice A0_2 l0_2.length c0_2)) (ds := [8]) #[false, false, false, false, false, false, false, false, false] (by kernel_rfl) rfl rfl ⟨(blk_cell BK369.out 0).trans rfl, (blk_cell BK369.out 1).trans rfl, (blk_cell BK369.out 2).trans rfl, (blk_cell BK364.out 0).trans rfl, (blk_cell BK364.out 1).trans rfl, (blk_cell BK364.out 2).trans rfl⟩ (fun hHeld => ?_); refine with_tabW bazaarref06_Put.tab11 bazaarref06_Put.bits11 (fun HT_ HW_ => ?_)
                              generalize wc.drew = w70 at HO_370000 BK364 BK365 BK366 BK369 HB HR385 hHeld ⊢
                              refine pure_ (i := 0) (N := some 57) (v := ?_) (a' := ?_) #[true, false, false, false, false, false, false, false, false] rfl rfl (any_of HT_.out (by kernel_rfl)) (fun _ _ _ h => h) (Or.inl ⟨by rfl, ?_⟩) ?_ ?_
                              rotate_left
                              · intro w'
                                go_simp
                                with_reducible rfl
                              rotate_left
                              · simp only [Act.put, List.setIfInBounds_toArray, List.set_cons_zero, List.set_cons_succ, i64_w, i32_w]
                                rfl
                              refine pure_ (i := 2) (N := some 59) (v := ?_) (a' := ?_) #[true, false, true, false, false, false, false, false, false] rfl rfl (any_of HT_.out (by kernel_rfl)) (fun _ _ _ h => h) (Or.inl ⟨by rfl, ?_⟩) ?_ ?_
                              rotate_left
                              · intro w'
                                go_simp
                                with_reducible rfl
                              rotate_left
                              · simp only [Act.put, List.setIfInBounds_toArray, List.set_cons_zero, List.set_cons_succ, i64_w, i32_w]
                                rfl
                              refine pure_ (i := 4) (N := some 61) (v := ?_) (a' := ?_) #[true, false, true, false, true, false, false, false, false] rfl rfl (any_of HT_.out (by kernel_rfl)) (fun _ _ _ h => h) (Or.inl ⟨by rfl, ?_⟩) ?_ ?_
                              rotate_left
                              · intro w'
                                go_simp
                                with_reducible rfl
                              rotate_left
                              · simp only [Act.put, List.setIfInBounds_toArray, List.set_cons_zero, List.set_cons_succ, i64_w, i32_w]
                                rfl
                              refine take_ (i := 1) (N := some 58) (v := ?_) (a' := ?_) #[true, true, true, false, true, false, false, false, false] rfl rfl (take_ofW HT_.out HW_.out (by kernel_rfl)) (fun _ _ _ h => h) (Or.inl ⟨by rfl, ?_⟩) hHeld ?_ ?_
                              rotate_left
                              · rintro w' ⟨s0, s1, s2, s3, s4, s5⟩
                                go_simp
                                with_reducible rfl
                              rotate_left
                              · simp only [Act.put, List.setIfInBounds_toArray, List.set_cons_zero, List.set_cons_succ, i64_w, i32_w]
                                rfl
                              refine take_ (i := 3) (N := some 60) (v := ?_) (a' := ?_) #[true, true, true, true, true, false, false, false, false] rfl rfl (take_ofW HT_.out HW_.out (by kernel_rfl)) (fun _ _ _ h => h) (Or.inl ⟨by rfl, ?_⟩) hHeld ?_ ?_
                              rotate_left
                              · rintro w' ⟨s0, s1, s2, s3, s4, s5⟩
                                go_simp
                                with_reducible rfl
                              rotate_left
                              · simp only [Act.put, List.setIfInBounds_toArray, List.set_cons_zero, List.set_cons_succ, i64_w, i32_w]
                                rfl
                              refine pure_ (i := 5) (N := some 62) (v := ?_) (a' := ?_) #[true, true, true, true, true, true, false, false, false] rfl rfl (any_of HT_.out (by kernel_rfl)) (fun _ _ _ h => h) (Or.inl ⟨by rfl, ?_⟩) ?_ ?_
                              rotate_left
                              · intro w'
                                go_simp
                                with_reducible rfl
                              rotate_left
                              · simp only [Act.put, List.setIfInBounds_toArray, List.set_cons_zero, List.set_cons_succ, i64_w, i32_w]
                                rfl
                              refine one_ (i := 6) (N := some 63) #[true, true, true, true, true, true, true, false, false] rfl rfl (one_of HT_.out (by kernel_rfl)) (by decide) (fun K hK => ?_)
                              refine Kd.R_append_rows_step k39 (w0 := w) w.heap.size (by rfl) (.tmp 58) (.tmp 62) 22 39 (.agg #[(.string ⟨#[]⟩), (.string ⟨#[]⟩)]) 32 rfl Try.underlying22 info39 rfl (by decide) (by omega) (.slice Ao45 y378.length co45) y378 y382 _ _ _ (fun k_ => k_ ≠ gb365) (fun _ => False) rfl rfl ?aO ?aR (fun _ _ h => h) (fun _ h => h.elim) ?aF ?aB ?aS ?aL ?_
                              (case aR => repeat (first | exact (Kd.C_below HR385.out HB.out) | (with_reducible refine Kd.C_alloc ?_ _) | (with_reducible refine Kd.C_drewN ?_ _) | (with_reducible refine Kd.C_drew ?_)))
                              (case aB => exact (L_ HB.out))
                              (case aF => exact (fun k_ hk => Kd.freshB (g := gb365) (o := .cells #[.string a1_0, .string a1_1] 39 (0, 0)) (B_ BK365.out) k_ hk))
                              (case aO => exact (R_ HO_370000.out))
                              (case aS => exact (below_size (L_ HB.out)))
                              (case aL => have := LMc56.out; omega)
                              intro v387 w72 ho hb hg hat
                              rw [← Ny386.out] at ho
                              have HO388 := Aside0.mk (ho)
                              replace BK364 := Aside0.mk (blk_grown (g := gb364) (o := .cells #[.slice A0_0 l0_0.length c0_0, .slice A0_1 l0_1.length c0_1, .slice A0_2 l0_2.length c0_2] 26 (0, 0)) (B_ BK364.out) hg (Kd.R_ne HO_370000.out BK364.out (by decide)))
                              replace BK365 := Aside0.mk (blk_grown (g := gb365) (o := .cells #[.string a1_0, .string a1_1] 39 (0, 0)) (B_ BK365.out) hg (Kd.R_away HO_370000.out (fun _ hk => hk)))
                              replace BK366 := Aside0.mk (blk_grown (g := gb366) (o := .cells #[.slice none 0 0, .slice none 0 0, .slice none 0 0] 26 (0, 0)) (B_ BK366.out) hg (Kd.R_ne HO_370000.out BK366.out (by decide)))
                              replace BK369 := Aside0.mk (blk_grown (g := gb369) (o := .cells #[.slice Ao45 y378.length co45, .slice none 0 0, .slice none 0 0] 26 (0, 0)) (B_ BK369.out) hg (Kd.R_ne HO_370000.out BK369.out (by decide)))
                              replace HB := Aside0.mk (hb)
                              clear HO_370000
                              clear ho hb hg hat
                              obtain ⟨Ao73, co73, eo73⟩ := Kd.R_slice HO388.out
                              (first | subst eo73 | (injection eo73 with f1_ f2_ f3_; have f4_ := f1_.symm; have f5_ := f3_.symm; clear f1_ f2_ f3_; subst f4_; subst f5_))
                              refine hK.out _ _ ⟨(blk_cell BK369.out 0).trans rfl, (blk_cell BK369.out 1).trans rfl, (blk_cell BK369.out 2).trans rfl, (blk_cell BK364.out 0).trans rfl, (blk_cell BK364.out 1).trans rfl, (blk_cell BK364.out 2).trans rfl⟩ (fun hHeld => ?_)
                              clear hK K
                              refine norm_ (a' := ?_) ?_ ?_
                              rotate_left
                              · show Act.put _ (some 63) _ = _
                                simp only [Act.put, List.setIfInBounds_toArray, List.set_cons_zero, List.set_cons_succ, i64_w, i32_w]
                                rfl
                              refine pure_ (i := 7) (N := some 64) (v := ?_) (a' := ?_) #[true, true, true, true, true, true, true, true, false] rfl rfl (any_of HT_.out (by kernel_rfl)) (fun _ _ _ h => h) (Or.inl ⟨by rfl, ?_⟩) ?_ ?_
                              rotate_left
                              · intro w'
                                go_simp
                                with_reducible rfl
                              rotate_left
                              · simp only [Act.put, List.setIfInBounds_toArray, List.set_cons_zero, List.set_cons_succ, i64_w, i32_w]
                                rfl
                              refine last_ (i := 8) (N := none) #[true, true, true, true, true, true, true, true, true] rfl rfl (one_of HT_.out (by kernel_rfl)) (by decide) (fun K hK => ?_)
                              have hs74 : w72.cell? ⟨gb369, 0, none⟩ = some (.slice Ao45 y378.length co45) := (blk_cell BK369.out 0).trans rfl
                              have hfs74 := blk_frozen BK369.out 0
                              have hns74_0 := NB364_369.out
                              have hns74_1 := NB365_369.out
                              have hns74_2 := NB366_369.out
                              have hms74_0 := NB369_364.out
                              have hms74_1 := NB369_365.out
                              have hms74_2 := NB369_366.out
                              refine skip_ (w1 := ?_) (by rfl) rfl ?_ ?_
                              rotate_left
                              · go_simp
                                rfl
                              refine hK.out _ _ ?_
                              clear hK K
                              refine done_ (done_of HT_.out (by kernel_rfl)) ?_
                              have hnb75 := NB369_364.out
                              have hnc75 := NB364_369.out
                              have hnb76 := NB369_365.out
                              have hnc76 := NB365_369.out
                              have hnb77 := NB369_366.out
                              have hnc77 := NB366_369.out
                              have hcz78_0 : w72.cell? ⟨gb369, 0, none⟩ = some (.slice Ao45 y378.length co45) := (blk_cell BK369.out 0).trans rfl
                              have hcz78_1 : w72.cell? ⟨gb369, 1, none⟩ = some (.slice none 0 0) := (blk_cell BK369.out 1).trans rfl
                              have hcz78_2 : w72.cell? ⟨gb369, 2, none⟩ = some (.slice none 0 0) := (blk_cell BK369.out 2).trans rfl
                              have hfz78_0 := blk_frozen BK369.out 0
                              have hfz78_1 := blk_frozen BK369.out 1
                              have hfz78_2 := blk_frozen BK369.out 2
                              have hnb79 := NB366_364.out
                              have hnc79 := NB364_366.out
                              have hnb80 := NB366_365.out
                              have hnc80 := NB365_366.out
                              have hcz81_0 : w72.cell? ⟨gb366, 0, none⟩ = some (.slice none 0 0) := (blk_cell BK366.out 0).trans rfl
                              have hcz81_1 : w72.cell? ⟨gb366, 1, none⟩ = some (.slice none 0 0) := (blk_cell BK366.out 1).trans rfl
                              have hcz81_2 : w72.cell? ⟨gb366, 2, none⟩ = some (.slice none 0 0) := (blk_cell BK366.out 2).trans rfl
                              have hfz81_0 := blk_frozen BK366.out 0
                              have hfz81_1 := blk_frozen BK366.out 1
                              have hfz81_2 := blk_frozen BK366.out 2
                              try go_wp2
                              refine bodyPost_ret (results_ct rfl _ _ gb366 26 #[.slice Ao73 y386.length co73, .slice none 0 0, .slice none 0 0] (0, 0) _ rfl (by (with_reducible repeat (first | refine blk_drewN ?_ _ | refine blk_drew ?_ | refine blk_alloc ?_ _)); refine blk_put (cs := #[.slice Ao73 y386.length co73, .slice none 0 0, .slice none 0 0]) ?_ 2 _ rfl; (with_reducible repeat (first | refine blk_drewN ?_ _ | refine blk_drew ?_ | refine blk_alloc ?_ _)); refine blk_put (cs := #[.slice Ao73 y386.length co73, .slice none 0 0, .slice none 0 0]) ?_ 1 _ rfl; (with_reducible repeat (first | refine blk_drewN ?_ _ | refine blk_drew ?_ | refine blk_alloc ?_ _)); refine blk_put (cs := #[.slice none 0 0, .slice none 0 0, .slice none 0 0]) ?_ 0 _ rfl; (with_reducible repeat (first | refine blk_drewN ?_ _ | refine blk_drew ?_ | refine blk_alloc ?_ _)); refine blk_far ?_ NB366_369.out _; (with_reducible repeat (first | refine blk_drewN ?_ _ | refine blk_drew ?_ | refine blk_alloc ?_ _)); exact BK366.out) Try.underlying26 rfl (by kernel_rfl)) rfl ?_
                              exact ⟨_, _, _, by first | rfl | (simp [errW_none, errW_some] <;> rfl) | (simp only [← hji53]; first | rfl | (simp [errW_none, errW_some] <;> rfl)) | (simp [*, errW_none, errW_some] <;> rfl), by (with_reducible repeat (first | apply Kd.R_alloc | apply Kd.R_drewN | apply Kd.R_drew)); exact Kd.R_mono (Kd.R_far (p := ⟨gb366, 2, none⟩) (Kd.R_far (p := ⟨gb366, 1, none⟩) (Kd.R_far (p := ⟨gb366, 0, none⟩) (Kd.R_far (p := ⟨gb369, 0, none⟩) (Kd.R_types (Kd.R_types HO388.out BK369.out (by decide)) BK366.out (by decide)) (fun _ hk => hk.1.2) (.slice Ao73 y386.length co73)) (fun _ hk => hk.2) (.slice Ao73 y386.length co73)) (fun _ hk => hk.2) (.slice none 0 0)) (fun _ hk => hk.2) (.slice none 0 0)) (fun _ hk => trivial), by first | exact Kd.R_nil _ _ _ _ _ | exact Kd.N_nil _ _ _ _ _ | exact Kd.V_nil _ _ _ _ _ | exact Kd.Q_nil _ _ _ _ _ | exact Kd.S_nil _ _ _ _ _, by first | exact Kd.R_nil _ _ _ _ _ | exact Kd.N_nil _ _ _ _ _ | exact Kd.V_nil _ _ _ _ _ | exact Kd.Q_nil _ _ _ _ _ | exact Kd.S_nil _ _ _ _ _, by repeat (first | (with_reducible first | exact HB.out | apply below_alloc | apply pw_below_drewN | apply below_drew1 | refine below_set ?_ GE364.out | refine below_set ?_ GE365.out | refine below_set ?_ GE366.out | refine below_set ?_ GE369.out) | exact HB.out)⟩
                          · rw [if_neg c56] at H
                            exact absurd H (by simp)
                        · rw [if_neg c55] at H
                          exact absurd H (by simp)
                      · rw [if_neg c54] at H
                        exact absurd H (by simp)
                    · replace c52 := Bool.eq_false_iff.mpr c52
                      subst c52
                      have H1 : (if 0 ≤ t370 then (if t370 ≤ (l0_0.length : Int) then ((some (l0_0.drop (t370 : Int).toNat : List (S39))).bind fun y389 => (if y378.length + y389.length < 4398046511104 then ((some (y378 ++ y389 : List (S39))).bind fun y393 => (if (y393.length : Int) > 255 then (some (([] : List (S39)), ([] : List ByteArray), ([] : List Int), 60)) else (some (y393, ([] : List ByteArray), ([] : List Int), 0)))) else (none))) else (none)) else (none)) = some (r1, r2, r3, r4) := by rw [if_neg (show ¬ (false = true) by decide)] at H; exact H
                      clear H
                      have H := H1
                      clear H1
                      by_cases c82 : 0 ≤ t370
                      · rw [if_pos c82] at H
                        have c82b0 := eq_true c82
                        have c82b1 : decide (0 ≤ t370) = true := decide_eq_true c82
                        clear c82
                        by_cases c83 : t370 ≤ (l0_0.length : Int)
                        · rw [if_pos c83] at H
                          have c83b0 := eq_true c83
                          have c83b1 : decide (t370 ≤ (l0_0.length : Int)) = true := decide_eq_true c83
                          clear c83
                          obtain ⟨y389, hy389⟩ : ∃ y_ : List (S39), y_ = (l0_0.drop (t370 : Int).toNat) := ⟨_, rfl⟩
                          replace H : (if y378.length + y389.length < 4398046511104 then ((some (y378 ++ y389 : List (S39))).bind fun y393 => (if (y393.length : Int) > 255 then (some (([] : List (S39)), ([] : List ByteArray), ([] : List Int), 60)) else (some (y393, ([] : List ByteArray), ([] : List Int), 0)))) else (none)) = some (r1, r2, r3, r4) := by first | (rw [hy389]; with_reducible exact H) | (have H2_ := (Option.bind_some _ _).symm.trans H; rw [hy389]; with_reducible exact H2_) | (have H2_ := (Option.bind_some _ _).symm.trans H; with_reducible exact H2_) | with_reducible exact H | (rw [hy389]; exact H) | exact H
                          have Ny389 := Aside0.mk hy389
                          clear hy389
                          by_cases c84 : y378.length + y389.length < 4398046511104
                          · rw [if_pos c84] at H
                            have LMc84 := Aside0.mk c84
                            clear c84
                            obtain ⟨y393, hy393⟩ : ∃ y_ : List (S39), y_ = (y378 ++ y389) := ⟨_, rfl⟩
                            replace H : (if (y393.length : Int) > 255 then (some (([] : List (S39)), ([] : List ByteArray), ([] : List Int), 60)) else (some (y393, ([] : List ByteArray), ([] : List Int), 0))) = some (r1, r2, r3, r4) := by first | (rw [hy393]; with_reducible exact H) | (have H2_ := (Option.bind_some _ _).symm.trans H; rw [hy393]; with_reducible exact H2_) | (have H2_ := (Option.bind_some _ _).symm.trans H; with_reducible exact H2_) | with_reducible exact H | (rw [hy393]; exact H) | exact H
                            have Ny393 := Aside0.mk hy393
                            clear hy393
                            by_cases c85 : (y393.length : Int) > 255
                            · rw [if_pos c85] at H
                              have c85b0 : decide (255 < (y393.length : Int)) = true := decide_eq_true c85
                              have c85b1 : decide (255 < y393.length) = true := decide_eq_true (by omega)
                              clear c85
                              simp only [Option.some.injEq, Prod.mk.injEq] at H
                              obtain ⟨rfl, rfl, rfl, rfl⟩ := H
                              try go_wp2
                              replace HO_370000 := Aside0.mk (Kd.R_drew HO_370000.out)
                              replace BK364 := Aside0.mk (blk_drew BK364.out)
                              replace BK365 := Aside0.mk (blk_drew BK365.out)
                              replace BK366 := Aside0.mk (blk_drew BK366.out)
                              replace BK369 := Aside0.mk (blk_drew BK369.out)
                              replace HB := Aside0.mk (below_drew1 HB.out)
                              have q87 : (t370 : Int) ≤ ((l0_0.length : Int) : Int) := of_decide_eq_true (by first | (with_reducible assumption) | assumption)
                              obtain ⟨i087, hi087, _, hsz87, _⟩ := info_parts info39
                              have hroom87 : l0_0.length ≤ c0_0 := HC0_0.out
                              have hC87 : Kd.C k39 _ A0_0 l0_0.length l0_0 := HR0_0.out
                              have q087 : (0 : Int) ≤ (t370 : Int) := of_decide_eq_true (by first | (with_reducible assumption) | assumption)
                              have hcut87 := cut_from (P := Try.prog) 22 39 .i64 Try.underlying22 hi087 2 hsz87 A0_0 l0_0.length c0_0 t370 q087 q87
                              have hr87 := Kd.C_drop (m := (t370 : Int).toNat) (c := c0_0) hC87 (by omega) hroom87
                              obtain ⟨A87, hA87⟩ : ∃ A1, A1 = (if c0_0 = (t370 : Int).toNat then A0_0 else (A0_0 : Option Addr).map (·.add ((t370 : Int).toNat * 2))) := ⟨_, rfl⟩
                              obtain ⟨c87, hc87⟩ : ∃ c1, c1 = c0_0 - (t370 : Int).toNat := ⟨_, rfl⟩
                              have hy87 : y389.length = l0_0.length - (t370 : Int).toNat := (by rw [Ny389.out, List.length_drop] <;> omega)
                              rw [show (l0_0).drop (t370 : Int).toNat = y389 from Ny389.out.symm] at hr87
                              replace hr87 : Kd.C k39 _ A87 y389.length y389 := (by rw [hA87]; exact hr87)
                              rw [← hy87, ← hA87, ← hc87] at hcut87
                              have HR392 := Aside0.mk hr87
                              have HC392 := Aside0.mk (show y389.length ≤ c87 from by rw [hy87, hc87]; exact Nat.sub_le_sub_right hroom87 _)
                              clear hr87 hC87 hroom87 hi087 hsz87 hc87
                              have KY87 := Aside0.mk hy87
                              have KA87 := Aside0.mk hA87
                              clear hy87 hA87
                              replace q87 := eq_true q87
                              refine start_ (n := 9) (S := fun w' => w'.cell? ⟨gb369, 0, none⟩ = some (.slice Ao45 y378.length co45) ∧ w'.cell? ⟨gb369, 1, none⟩ = some (.slice none 0 0) ∧ w'.cell? ⟨gb369, 2, none⟩ = some (.slice none 0 0) ∧ w'.cell? ⟨gb364, 0, none⟩ = some (.slice A0_0 l0_0.length c0_0) ∧ w'.cell? ⟨gb364, 1, none⟩ = some (.slice A0_1 l0_1.length c0_1) ∧ w'.cell? ⟨gb364, 2, none⟩ = some (.slice A0_2 l0_2.length c0_2)) (ds := [8]) #[false, false, false, false, false, false, false, false, false] (by kernel_rfl) rfl rfl ⟨(blk_cell BK369.out 0).trans rfl, (blk_cell BK369.out 1).trans rfl, (blk_cell BK369.out 2).trans rfl, (blk_cell BK364.out 0).trans rfl, (blk_cell BK364.out 1).trans rfl, (blk_cell BK364.out 2).trans rfl⟩ (fun hHeld => ?_); refine with_tabW bazaarref06_Put.tab11 bazaarref06_Put.bits11 (fun HT_ HW_ => ?_)
                              generalize wc.drew = w86 at HO_370000 BK364 BK365 BK366 BK369 HB HR392 hHeld ⊢
                              refine pure_ (i := 0) (N := some 57) (v := ?_) (a' := ?_) #[true, false, false, false, false, false, false, false, false] rfl rfl (any_of HT_.out (by kernel_rfl)) (fun _ _ _ h => h) (Or.inl ⟨by rfl, ?_⟩) ?_ ?_
                              rotate_left
                              · intro w'
                                go_simp
                                with_reducible rfl
                              rotate_left
                              · simp only [Act.put, List.setIfInBounds_toArray, List.set_cons_zero, List.set_cons_succ, i64_w, i32_w]
                                rfl
                              refine pure_ (i := 2) (N := some 59) (v := ?_) (a' := ?_) #[true, false, true, false, false, false, false, false, false] rfl rfl (any_of HT_.out (by kernel_rfl)) (fun _ _ _ h => h) (Or.inl ⟨by rfl, ?_⟩) ?_ ?_
                              rotate_left
                              · intro w'
                                go_simp
                                with_reducible rfl
                              rotate_left
                              · simp only [Act.put, List.setIfInBounds_toArray, List.set_cons_zero, List.set_cons_succ, i64_w, i32_w]
                                rfl
                              refine pure_ (i := 4) (N := some 61) (v := ?_) (a' := ?_) #[true, false, true, false, true, false, false, false, false] rfl rfl (any_of HT_.out (by kernel_rfl)) (fun _ _ _ h => h) (Or.inl ⟨by rfl, ?_⟩) ?_ ?_
                              rotate_left
                              · intro w'
                                go_simp
                                with_reducible rfl
                              rotate_left
                              · simp only [Act.put, List.setIfInBounds_toArray, List.set_cons_zero, List.set_cons_succ, i64_w, i32_w]
                                rfl
                              refine take_ (i := 1) (N := some 58) (v := ?_) (a' := ?_) #[true, true, true, false, true, false, false, false, false] rfl rfl (take_ofW HT_.out HW_.out (by kernel_rfl)) (fun _ _ _ h => h) (Or.inl ⟨by rfl, ?_⟩) hHeld ?_ ?_
                              rotate_left
                              · rintro w' ⟨s0, s1, s2, s3, s4, s5⟩
                                go_simp
                                with_reducible rfl
                              rotate_left
                              · simp only [Act.put, List.setIfInBounds_toArray, List.set_cons_zero, List.set_cons_succ, i64_w, i32_w]
                                rfl
                              refine take_ (i := 3) (N := some 60) (v := ?_) (a' := ?_) #[true, true, true, true, true, false, false, false, false] rfl rfl (take_ofW HT_.out HW_.out (by kernel_rfl)) (fun _ _ _ h => h) (Or.inl ⟨by rfl, ?_⟩) hHeld ?_ ?_
                              rotate_left
                              · rintro w' ⟨s0, s1, s2, s3, s4, s5⟩
                                go_simp
                                with_reducible rfl
                              rotate_left
                              · simp only [Act.put, List.setIfInBounds_toArray, List.set_cons_zero, List.set_cons_succ, i64_w, i32_w]
                                rfl
                              refine pure_ (i := 5) (N := some 62) (v := ?_) (a' := ?_) #[true, true, true, true, true, true, false, false, false] rfl rfl (any_of HT_.out (by kernel_rfl)) (fun _ _ _ h => h) (Or.inl ⟨by rfl, ?_⟩) ?_ ?_
                              rotate_left
                              · intro w'
                                go_simp
                                with_reducible rfl
                              rotate_left
                              · simp only [Act.put, List.setIfInBounds_toArray, List.set_cons_zero, List.set_cons_succ, i64_w, i32_w]
                                rfl
                              refine one_ (i := 6) (N := some 63) #[true, true, true, true, true, true, true, false, false] rfl rfl (one_of HT_.out (by kernel_rfl)) (by decide) (fun K hK => ?_)
                              refine Kd.R_append_rows_step k39 (w0 := w) w.heap.size (by rfl) (.tmp 58) (.tmp 62) 22 39 (.agg #[(.string ⟨#[]⟩), (.string ⟨#[]⟩)]) 32 rfl Try.underlying22 info39 rfl (by decide) (by omega) (.slice Ao45 y378.length co45) y378 y389 _ _ _ (fun k_ => k_ ≠ gb365) (fun _ => False) rfl rfl ?aO ?aR (fun _ _ h => h) (fun _ h => h.elim) ?aF ?aB ?aS ?aL ?_
                              (case aR => repeat (first | exact (Kd.C_below HR392.out HB.out) | (with_reducible refine Kd.C_alloc ?_ _) | (with_reducible refine Kd.C_drewN ?_ _) | (with_reducible refine Kd.C_drew ?_)))
                              (case aB => exact (L_ HB.out))
                              (case aF => exact (fun k_ hk => Kd.freshB (g := gb365) (o := .cells #[.string a1_0, .string a1_1] 39 (0, 0)) (B_ BK365.out) k_ hk))
                              (case aO => exact (R_ HO_370000.out))
                              (case aS => exact (below_size (L_ HB.out)))
                              (case aL => have := LMc84.out; omega)
                              intro v394 w88 ho hb hg hat
                              rw [← Ny393.out] at ho
                              have HO395 := Aside0.mk (ho)
                              replace BK364 := Aside0.mk (blk_grown (g := gb364) (o := .cells #[.slice A0_0 l0_0.length c0_0, .slice A0_1 l0_1.length c0_1, .slice A0_2 l0_2.length c0_2] 26 (0, 0)) (B_ BK364.out) hg (Kd.R_ne HO_370000.out BK364.out (by decide)))
                              replace BK365 := Aside0.mk (blk_grown (g := gb365) (o := .cells #[.string a1_0, .string a1_1] 39 (0, 0)) (B_ BK365.out) hg (Kd.R_away HO_370000.out (fun _ hk => hk)))
                              replace BK366 := Aside0.mk (blk_grown (g := gb366) (o := .cells #[.slice none 0 0, .slice none 0 0, .slice none 0 0] 26 (0, 0)) (B_ BK366.out) hg (Kd.R_ne HO_370000.out BK366.out (by decide)))
                              replace BK369 := Aside0.mk (blk_grown (g := gb369) (o := .cells #[.slice Ao45 y378.length co45, .slice none 0 0, .slice none 0 0] 26 (0, 0)) (B_ BK369.out) hg (Kd.R_ne HO_370000.out BK369.out (by decide)))
                              replace HB := Aside0.mk (hb)
                              clear HO_370000
                              clear ho hb hg hat
                              obtain ⟨Ao89, co89, eo89⟩ := Kd.R_slice HO395.out
                              (first | subst eo89 | (injection eo89 with f1_ f2_ f3_; have f4_ := f1_.symm; have f5_ := f3_.symm; clear f1_ f2_ f3_; subst f4_; subst f5_))
                              refine hK.out _ _ ⟨(blk_cell BK369.out 0).trans rfl, (blk_cell BK369.out 1).trans rfl, (blk_cell BK369.out 2).trans rfl, (blk_cell BK364.out 0).trans rfl, (blk_cell BK364.out 1).trans rfl, (blk_cell BK364.out 2).trans rfl⟩ (fun hHeld => ?_)
                              clear hK K
                              refine norm_ (a' := ?_) ?_ ?_
                              rotate_left
                              · show Act.put _ (some 63) _ = _
                                simp only [Act.put, List.setIfInBounds_toArray, List.set_cons_zero, List.set_cons_succ, i64_w, i32_w]
                                rfl
                              refine pure_ (i := 7) (N := some 64) (v := ?_) (a' := ?_) #[true, true, true, true, true, true, true, true, false] rfl rfl (any_of HT_.out (by kernel_rfl)) (fun _ _ _ h => h) (Or.inl ⟨by rfl, ?_⟩) ?_ ?_
                              rotate_left
                              · intro w'
                                go_simp
                                with_reducible rfl
                              rotate_left
                              · simp only [Act.put, List.setIfInBounds_toArray, List.set_cons_zero, List.set_cons_succ, i64_w, i32_w]
                                rfl
                              refine last_ (i := 8) (N := none) #[true, true, true, true, true, true, true, true, true] rfl rfl (one_of HT_.out (by kernel_rfl)) (by decide) (fun K hK => ?_)
                              have hs90 : w88.cell? ⟨gb369, 0, none⟩ = some (.slice Ao45 y378.length co45) := (blk_cell BK369.out 0).trans rfl
                              have hfs90 := blk_frozen BK369.out 0
                              have hns90_0 := NB364_369.out
                              have hns90_1 := NB365_369.out
                              have hns90_2 := NB366_369.out
                              have hms90_0 := NB369_364.out
                              have hms90_1 := NB369_365.out
                              have hms90_2 := NB369_366.out
                              refine skip_ (w1 := ?_) (by rfl) rfl ?_ ?_
                              rotate_left
                              · go_simp
                                rfl
                              refine hK.out _ _ ?_
                              clear hK K
                              refine done_ (done_of HT_.out (by kernel_rfl)) ?_
                              have hnb91 := NB369_364.out
                              have hnc91 := NB364_369.out
                              have hnb92 := NB369_365.out
                              have hnc92 := NB365_369.out
                              have hnb93 := NB369_366.out
                              have hnc93 := NB366_369.out
                              have hcz94_0 : w88.cell? ⟨gb369, 0, none⟩ = some (.slice Ao45 y378.length co45) := (blk_cell BK369.out 0).trans rfl
                              have hcz94_1 : w88.cell? ⟨gb369, 1, none⟩ = some (.slice none 0 0) := (blk_cell BK369.out 1).trans rfl
                              have hcz94_2 : w88.cell? ⟨gb369, 2, none⟩ = some (.slice none 0 0) := (blk_cell BK369.out 2).trans rfl
                              have hfz94_0 := blk_frozen BK369.out 0
                              have hfz94_1 := blk_frozen BK369.out 1
                              have hfz94_2 := blk_frozen BK369.out 2
                              have hnb95 := NB366_364.out
                              have hnc95 := NB364_366.out
                              have hnb96 := NB366_365.out
                              have hnc96 := NB365_366.out
                              have hcz97_0 : w88.cell? ⟨gb366, 0, none⟩ = some (.slice none 0 0) := (blk_cell BK366.out 0).trans rfl
                              have hcz97_1 : w88.cell? ⟨gb366, 1, none⟩ = some (.slice none 0 0) := (blk_cell BK366.out 1).trans rfl
                              have hcz97_2 : w88.cell? ⟨gb366, 2, none⟩ = some (.slice none 0 0) := (blk_cell BK366.out 2).trans rfl
                              have hfz97_0 := blk_frozen BK366.out 0
                              have hfz97_1 := blk_frozen BK366.out 1
                              have hfz97_2 := blk_frozen BK366.out 2
                              try go_wp2
                              refine bodyPost_ret (results_ct rfl _ _ gb366 26 #[.slice none 0 0, .slice none 0 0, .slice none 0 0] (0, 0) _ rfl (by (with_reducible repeat (first | refine blk_drewN ?_ _ | refine blk_drew ?_ | refine blk_alloc ?_ _)); refine blk_put (cs := #[.slice none 0 0, .slice none 0 0, .slice none 0 0]) ?_ 2 _ rfl; (with_reducible repeat (first | refine blk_drewN ?_ _ | refine blk_drew ?_ | refine blk_alloc ?_ _)); refine blk_put (cs := #[.slice none 0 0, .slice none 0 0, .slice none 0 0]) ?_ 1 _ rfl; (with_reducible repeat (first | refine blk_drewN ?_ _ | refine blk_drew ?_ | refine blk_alloc ?_ _)); refine blk_put (cs := #[.slice none 0 0, .slice none 0 0, .slice none 0 0]) ?_ 0 _ rfl; (with_reducible repeat (first | refine blk_drewN ?_ _ | refine blk_drew ?_ | refine blk_alloc ?_ _)); refine blk_far ?_ NB366_369.out _; (with_reducible repeat (first | refine blk_drewN ?_ _ | refine blk_drew ?_ | refine blk_alloc ?_ _)); exact BK366.out) Try.underlying26 rfl (by kernel_rfl)) rfl ?_
                              exact ⟨_, _, _, by first | rfl | (simp [errW_none, errW_some] <;> rfl) | (simp [errW_none, errW_some]; exact ⟨rfl, rfl, rfl⟩) | (simp [*, errW_none, errW_some] <;> rfl), by first | exact Kd.R_nil _ _ _ _ _ | exact Kd.N_nil _ _ _ _ _ | exact Kd.V_nil _ _ _ _ _ | exact Kd.Q_nil _ _ _ _ _ | exact Kd.S_nil _ _ _ _ _, by first | exact Kd.R_nil _ _ _ _ _ | exact Kd.N_nil _ _ _ _ _ | exact Kd.V_nil _ _ _ _ _ | exact Kd.Q_nil _ _ _ _ _ | exact Kd.S_nil _ _ _ _ _, by first | exact Kd.R_nil _ _ _ _ _ | exact Kd.N_nil _ _ _ _ _ | exact Kd.V_nil _ _ _ _ _ | exact Kd.Q_nil _ _ _ _ _ | exact Kd.S_nil _ _ _ _ _, by repeat (first | (with_reducible first | exact HB.out | apply below_alloc | apply pw_below_drewN | apply below_drew1 | refine below_set ?_ GE364.out | refine below_set ?_ GE365.out | refine below_set ?_ GE366.out | refine below_set ?_ GE369.out) | exact HB.out)⟩
                            · rw [if_neg c85] at H
                              have c85b0 : decide (255 < (y393.length : Int)) = false := decide_eq_false c85
                              have c85b1 : decide (255 < y393.length) = false := decide_eq_false (by omega)
                              clear c85
                              simp only [Option.some.injEq, Prod.mk.injEq] at H
                              obtain ⟨rfl, rfl, rfl, rfl⟩ := H
                              try go_wp2
                              replace HO_370000 := Aside0.mk (Kd.R_drew HO_370000.out)
                              replace BK364 := Aside0.mk (blk_drew BK364.out)
                              replace BK365 := Aside0.mk (blk_drew BK365.out)
                              replace BK366 := Aside0.mk (blk_drew BK366.out)
                              replace BK369 := Aside0.mk (blk_drew BK369.out)
                              replace HB := Aside0.mk (below_drew1 HB.out)
                              have q99 : (t370 : Int) ≤ ((l0_0.length : Int) : Int) := of_decide_eq_true (by first | (with_reducible assumption) | assumption)
                              obtain ⟨i099, hi099, _, hsz99, _⟩ := info_parts info39
                              have hroom99 : l0_0.length ≤ c0_0 := HC0_0.out
                              have hC99 : Kd.C k39 _ A0_0 l0_0.length l0_0 := HR0_0.out
                              have q099 : (0 : Int) ≤ (t370 : Int) := of_decide_eq_true (by first | (with_reducible assumption) | assumption)
                              have hcut99 := cut_from (P := Try.prog) 22 39 .i64 Try.underlying22 hi099 2 hsz99 A0_0 l0_0.length c0_0 t370 q099 q99
                              have hr99 := Kd.C_drop (m := (t370 : Int).toNat) (c := c0_0) hC99 (by omega) hroom99
                              obtain ⟨A99, hA99⟩ : ∃ A1, A1 = (if c0_0 = (t370 : Int).toNat then A0_0 else (A0_0 : Option Addr).map (·.add ((t370 : Int).toNat * 2))) := ⟨_, rfl⟩
                              obtain ⟨c99, hc99⟩ : ∃ c1, c1 = c0_0 - (t370 : Int).toNat := ⟨_, rfl⟩
                              have hy99 : y389.length = l0_0.length - (t370 : Int).toNat := (by rw [Ny389.out, List.length_drop] <;> omega)
                              rw [show (l0_0).drop (t370 : Int).toNat = y389 from Ny389.out.symm] at hr99
                              replace hr99 : Kd.C k39 _ A99 y389.length y389 := (by rw [hA99]; exact hr99)
                              rw [← hy99, ← hA99, ← hc99] at hcut99
                              have HR392 := Aside0.mk hr99
                              have HC392 := Aside0.mk (show y389.length ≤ c99 from by rw [hy99, hc99]; exact Nat.sub_le_sub_right hroom99 _)
                              clear hr99 hC99 hroom99 hi099 hsz99 hc99
                              have KY99 := Aside0.mk hy99
                              have KA99 := Aside0.mk hA99
                              clear hy99 hA99
                              replace q99 := eq_true q99
                              refine start_ (n := 9) (S := fun w' => w'.cell? ⟨gb369, 0, none⟩ = some (.slice Ao45 y378.length co45) ∧ w'.cell? ⟨gb369, 1, none⟩ = some (.slice none 0 0) ∧ w'.cell? ⟨gb369, 2, none⟩ = some (.slice none 0 0) ∧ w'.cell? ⟨gb364, 0, none⟩ = some (.slice A0_0 l0_0.length c0_0) ∧ w'.cell? ⟨gb364, 1, none⟩ = some (.slice A0_1 l0_1.length c0_1) ∧ w'.cell? ⟨gb364, 2, none⟩ = some (.slice A0_2 l0_2.length c0_2)) (ds := [8]) #[false, false, false, false, false, false, false, false, false] (by kernel_rfl) rfl rfl ⟨(blk_cell BK369.out 0).trans rfl, (blk_cell BK369.out 1).trans rfl, (blk_cell BK369.out 2).trans rfl, (blk_cell BK364.out 0).trans rfl, (blk_cell BK364.out 1).trans rfl, (blk_cell BK364.out 2).trans rfl⟩ (fun hHeld => ?_); refine with_tabW bazaarref06_Put.tab11 bazaarref06_Put.bits11 (fun HT_ HW_ => ?_)
                              generalize wc.drew = w98 at HO_370000 BK364 BK365 BK366 BK369 HB HR392 hHeld ⊢
                              refine pure_ (i := 0) (N := some 57) (v := ?_) (a' := ?_) #[true, false, false, false, false, false, false, false, false] rfl rfl (any_of HT_.out (by kernel_rfl)) (fun _ _ _ h => h) (Or.inl ⟨by rfl, ?_⟩) ?_ ?_
                              rotate_left
                              · intro w'
                                go_simp
                                with_reducible rfl
                              rotate_left
                              · simp only [Act.put, List.setIfInBounds_toArray, List.set_cons_zero, List.set_cons_succ, i64_w, i32_w]
                                rfl
                              refine pure_ (i := 2) (N := some 59) (v := ?_) (a' := ?_) #[true, false, true, false, false, false, false, false, false] rfl rfl (any_of HT_.out (by kernel_rfl)) (fun _ _ _ h => h) (Or.inl ⟨by rfl, ?_⟩) ?_ ?_
                              rotate_left
                              · intro w'
                                go_simp
                                with_reducible rfl
                              rotate_left
                              · simp only [Act.put, List.setIfInBounds_toArray, List.set_cons_zero, List.set_cons_succ, i64_w, i32_w]
                                rfl
                              refine pure_ (i := 4) (N := some 61) (v := ?_) (a' := ?_) #[true, false, true, false, true, false, false, false, false] rfl rfl (any_of HT_.out (by kernel_rfl)) (fun _ _ _ h => h) (Or.inl ⟨by rfl, ?_⟩) ?_ ?_
                              rotate_left
                              · intro w'
                                go_simp
                                with_reducible rfl
                              rotate_left
                              · simp only [Act.put, List.setIfInBounds_toArray, List.set_cons_zero, List.set_cons_succ, i64_w, i32_w]
                                rfl
                              refine take_ (i := 1) (N := some 58) (v := ?_) (a' := ?_) #[true, true, true, false, true, false, false, false, false] rfl rfl (take_ofW HT_.out HW_.out (by kernel_rfl)) (fun _ _ _ h => h) (Or.inl ⟨by rfl, ?_⟩) hHeld ?_ ?_
                              rotate_left
                              · rintro w' ⟨s0, s1, s2, s3, s4, s5⟩
                                go_simp
                                with_reducible rfl
                              rotate_left
                              · simp only [Act.put, List.setIfInBounds_toArray, List.set_cons_zero, List.set_cons_succ, i64_w, i32_w]
                                rfl
                              refine take_ (i := 3) (N := some 60) (v := ?_) (a' := ?_) #[true, true, true, true, true, false, false, false, false] rfl rfl (take_ofW HT_.out HW_.out (by kernel_rfl)) (fun _ _ _ h => h) (Or.inl ⟨by rfl, ?_⟩) hHeld ?_ ?_
                              rotate_left
                              · rintro w' ⟨s0, s1, s2, s3, s4, s5⟩
                                go_simp
                                with_reducible rfl
                              rotate_left
                              · simp only [Act.put, List.setIfInBounds_toArray, List.set_cons_zero, List.set_cons_succ, i64_w, i32_w]
                                rfl
                              refine pure_ (i := 5) (N := some 62) (v := ?_) (a' := ?_) #[true, true, true, true, true, true, false, false, false] rfl rfl (any_of HT_.out (by kernel_rfl)) (fun _ _ _ h => h) (Or.inl ⟨by rfl, ?_⟩) ?_ ?_
                              rotate_left
                              · intro w'
                                go_simp
                                with_reducible rfl
                              rotate_left
                              · simp only [Act.put, List.setIfInBounds_toArray, List.set_cons_zero, List.set_cons_succ, i64_w, i32_w]
                                rfl
                              refine one_ (i := 6) (N := some 63) #[true, true, true, true, true, true, true, false, false] rfl rfl (one_of HT_.out (by kernel_rfl)) (by decide) (fun K hK => ?_)
                              refine Kd.R_append_rows_step k39 (w0 := w) w.heap.size (by rfl) (.tmp 58) (.tmp 62) 22 39 (.agg #[(.string ⟨#[]⟩), (.string ⟨#[]⟩)]) 32 rfl Try.underlying22 info39 rfl (by decide) (by omega) (.slice Ao45 y378.length co45) y378 y389 _ _ _ (fun k_ => k_ ≠ gb365) (fun _ => False) rfl rfl ?aO ?aR (fun _ _ h => h) (fun _ h => h.elim) ?aF ?aB ?aS ?aL ?_
                              (case aR => repeat (first | exact (Kd.C_below HR392.out HB.out) | (with_reducible refine Kd.C_alloc ?_ _) | (with_reducible refine Kd.C_drewN ?_ _) | (with_reducible refine Kd.C_drew ?_)))
                              (case aB => exact (L_ HB.out))
                              (case aF => exact (fun k_ hk => Kd.freshB (g := gb365) (o := .cells #[.string a1_0, .string a1_1] 39 (0, 0)) (B_ BK365.out) k_ hk))
                              (case aO => exact (R_ HO_370000.out))
                              (case aS => exact (below_size (L_ HB.out)))
                              (case aL => have := LMc84.out; omega)
                              intro v394 w100 ho hb hg hat
                              rw [← Ny393.out] at ho
                              have HO395 := Aside0.mk (ho)
                              replace BK364 := Aside0.mk (blk_grown (g := gb364) (o := .cells #[.slice A0_0 l0_0.length c0_0, .slice A0_1 l0_1.length c0_1, .slice A0_2 l0_2.length c0_2] 26 (0, 0)) (B_ BK364.out) hg (Kd.R_ne HO_370000.out BK364.out (by decide)))
                              replace BK365 := Aside0.mk (blk_grown (g := gb365) (o := .cells #[.string a1_0, .string a1_1] 39 (0, 0)) (B_ BK365.out) hg (Kd.R_away HO_370000.out (fun _ hk => hk)))
                              replace BK366 := Aside0.mk (blk_grown (g := gb366) (o := .cells #[.slice none 0 0, .slice none 0 0, .slice none 0 0] 26 (0, 0)) (B_ BK366.out) hg (Kd.R_ne HO_370000.out BK366.out (by decide)))
                              replace BK369 := Aside0.mk (blk_grown (g := gb369) (o := .cells #[.slice Ao45 y378.length co45, .slice none 0 0, .slice none 0 0] 26 (0, 0)) (B_ BK369.out) hg (Kd.R_ne HO_370000.out BK369.out (by decide)))
                              replace HB := Aside0.mk (hb)
                              clear HO_370000
                              clear ho hb hg hat
                              obtain ⟨Ao101, co101, eo101⟩ := Kd.R_slice HO395.out
                              (first | subst eo101 | (injection eo101 with f1_ f2_ f3_; have f4_ := f1_.symm; have f5_ := f3_.symm; clear f1_ f2_ f3_; subst f4_; subst f5_))
                              refine hK.out _ _ ⟨(blk_cell BK369.out 0).trans rfl, (blk_cell BK369.out 1).trans rfl, (blk_cell BK369.out 2).trans rfl, (blk_cell BK364.out 0).trans rfl, (blk_cell BK364.out 1).trans rfl, (blk_cell BK364.out 2).trans rfl⟩ (fun hHeld => ?_)
                              clear hK K
                              refine norm_ (a' := ?_) ?_ ?_
                              rotate_left
                              · show Act.put _ (some 63) _ = _
                                simp only [Act.put, List.setIfInBounds_toArray, List.set_cons_zero, List.set_cons_succ, i64_w, i32_w]
                                rfl
                              refine pure_ (i := 7) (N := some 64) (v := ?_) (a' := ?_) #[true, true, true, true, true, true, true, true, false] rfl rfl (any_of HT_.out (by kernel_rfl)) (fun _ _ _ h => h) (Or.inl ⟨by rfl, ?_⟩) ?_ ?_
                              rotate_left
                              · intro w'
                                go_simp
                                with_reducible rfl
                              rotate_left
                              · simp only [Act.put, List.setIfInBounds_toArray, List.set_cons_zero, List.set_cons_succ, i64_w, i32_w]
                                rfl
                              refine last_ (i := 8) (N := none) #[true, true, true, true, true, true, true, true, true] rfl rfl (one_of HT_.out (by kernel_rfl)) (by decide) (fun K hK => ?_)
                              have hs102 : w100.cell? ⟨gb369, 0, none⟩ = some (.slice Ao45 y378.length co45) := (blk_cell BK369.out 0).trans rfl
                              have hfs102 := blk_frozen BK369.out 0
                              have hns102_0 := NB364_369.out
                              have hns102_1 := NB365_369.out
                              have hns102_2 := NB366_369.out
                              have hms102_0 := NB369_364.out
                              have hms102_1 := NB369_365.out
                              have hms102_2 := NB369_366.out
                              refine skip_ (w1 := ?_) (by rfl) rfl ?_ ?_
                              rotate_left
                              · go_simp
                                rfl
                              refine hK.out _ _ ?_
                              clear hK K
                              refine done_ (done_of HT_.out (by kernel_rfl)) ?_
                              have hnb103 := NB369_364.out
                              have hnc103 := NB364_369.out
                              have hnb104 := NB369_365.out
                              have hnc104 := NB365_369.out
                              have hnb105 := NB369_366.out
                              have hnc105 := NB366_369.out
                              have hcz106_0 : w100.cell? ⟨gb369, 0, none⟩ = some (.slice Ao45 y378.length co45) := (blk_cell BK369.out 0).trans rfl
                              have hcz106_1 : w100.cell? ⟨gb369, 1, none⟩ = some (.slice none 0 0) := (blk_cell BK369.out 1).trans rfl
                              have hcz106_2 : w100.cell? ⟨gb369, 2, none⟩ = some (.slice none 0 0) := (blk_cell BK369.out 2).trans rfl
                              have hfz106_0 := blk_frozen BK369.out 0
                              have hfz106_1 := blk_frozen BK369.out 1
                              have hfz106_2 := blk_frozen BK369.out 2
                              have hnb107 := NB366_364.out
                              have hnc107 := NB364_366.out
                              have hnb108 := NB366_365.out
                              have hnc108 := NB365_366.out
                              have hcz109_0 : w100.cell? ⟨gb366, 0, none⟩ = some (.slice none 0 0) := (blk_cell BK366.out 0).trans rfl
                              have hcz109_1 : w100.cell? ⟨gb366, 1, none⟩ = some (.slice none 0 0) := (blk_cell BK366.out 1).trans rfl
                              have hcz109_2 : w100.cell? ⟨gb366, 2, none⟩ = some (.slice none 0 0) := (blk_cell BK366.out 2).trans rfl
                              have hfz109_0 := blk_frozen BK366.out 0
                              have hfz109_1 := blk_frozen BK366.out 1
                              have hfz109_2 := blk_frozen BK366.out 2
                              try go_wp2
                              refine bodyPost_ret (results_ct rfl _ _ gb366 26 #[.slice Ao101 y393.length co101, .slice none 0 0, .slice none 0 0] (0, 0) _ rfl (by (with_reducible repeat (first | refine blk_drewN ?_ _ | refine blk_drew ?_ | refine blk_alloc ?_ _)); refine blk_put (cs := #[.slice Ao101 y393.length co101, .slice none 0 0, .slice none 0 0]) ?_ 2 _ rfl; (with_reducible repeat (first | refine blk_drewN ?_ _ | refine blk_drew ?_ | refine blk_alloc ?_ _)); refine blk_put (cs := #[.slice Ao101 y393.length co101, .slice none 0 0, .slice none 0 0]) ?_ 1 _ rfl; (with_reducible repeat (first | refine blk_drewN ?_ _ | refine blk_drew ?_ | refine blk_alloc ?_ _)); refine blk_put (cs := #[.slice none 0 0, .slice none 0 0, .slice none 0 0]) ?_ 0 _ rfl; (with_reducible repeat (first | refine blk_drewN ?_ _ | refine blk_drew ?_ | refine blk_alloc ?_ _)); refine blk_far ?_ NB366_369.out _; (with_reducible repeat (first | refine blk_drewN ?_ _ | refine blk_drew ?_ | refine blk_alloc ?_ _)); exact BK366.out) Try.underlying26 rfl (by kernel_rfl)) rfl ?_
                              exact ⟨_, _, _, by first | rfl | (simp [errW_none, errW_some] <;> rfl) | (simp [errW_none, errW_some]; exact ⟨rfl, rfl, rfl⟩) | (simp [*, errW_none, errW_some] <;> rfl), by (with_reducible repeat (first | apply Kd.R_alloc | apply Kd.R_drewN | apply Kd.R_drew)); exact Kd.R_mono (Kd.R_far (p := ⟨gb366, 2, none⟩) (Kd.R_far (p := ⟨gb366, 1, none⟩) (Kd.R_far (p := ⟨gb366, 0, none⟩) (Kd.R_far (p := ⟨gb369, 0, none⟩) (Kd.R_types (Kd.R_types HO395.out BK369.out (by decide)) BK366.out (by decide)) (fun _ hk => hk.1.2) (.slice Ao101 y393.length co101)) (fun _ hk => hk.2) (.slice Ao101 y393.length co101)) (fun _ hk => hk.2) (.slice none 0 0)) (fun _ hk => hk.2) (.slice none 0 0)) (fun _ hk => trivial), by first | exact Kd.R_nil _ _ _ _ _ | exact Kd.N_nil _ _ _ _ _ | exact Kd.V_nil _ _ _ _ _ | exact Kd.Q_nil _ _ _ _ _ | exact Kd.S_nil _ _ _ _ _, by first | exact Kd.R_nil _ _ _ _ _ | exact Kd.N_nil _ _ _ _ _ | exact Kd.V_nil _ _ _ _ _ | exact Kd.Q_nil _ _ _ _ _ | exact Kd.S_nil _ _ _ _ _, by repeat (first | (with_reducible first | exact HB.out | apply below_alloc | apply pw_below_drewN | apply below_drew1 | refine below_set ?_ GE364.out | refine below_set ?_ GE365.out | refine below_set ?_ GE366.out | refine below_set ?_ GE369.out) | exact HB.out)⟩
                          · rw [if_neg c84] at H
                            exact absurd H (by simp)
                        · rw [if_neg c83] at H
                          exact absurd H (by simp)
                      · rw [if_neg c82] at H
                        exact absurd H (by simp)
              · rw [if_neg c25] at H
                exact absurd H (by simp)
            · rw [if_neg c24] at H
              exact absurd H (by simp)
          · rw [if_neg c23] at H
            exact absurd H (by simp)
        · rw [if_neg c22] at H
          exact absurd H (by simp)

end Go.Proofs.Ytejempihaknplaa.G
