-- Written by this session's program genprint.py (the kit's print.py with contracts of this seat's own among the callees). Not trusted: Lean checks it.
import Derived.Test.YtejempihaknplaaGX
import Derived.Test.YtejempihaknplaaNdW
import Derived.Test.YtejempihaknplaaGK
import Derived.Test.YtejempihaknplaaGf50
import Derived.Test.YtejempihaknplaaGf51
namespace Go.Proofs.Ytejempihaknplaa.G
open Go.RowKit Go.Proofs.YtejempihaknplaaW.PrintWords Go.Proofs.YtejempihaknplaaW.PrintLast Go.Proofs.YtejempihaknplaaW.PrintMore
attribute [local go_sem] max2_int min2_int max_two min_two max_three min_three max_four min_four   -- for this text's walks alone
set_option linter.unusedVariables false
set_option linter.unusedSimpArgs false

/-! ### node_Split: function 27 -/
mutual
def node_Split.j0 : Nat → Int → Int → List (S39) → List ByteArray → List Int → Option ((List (S39)) × List ByteArray × List Int × ByteArray × (List (S39)) × List ByteArray × List Int × Int)
  | 0, _, _, _, _, _ => none
  | k + 1, x6, x7, x508000, x508001, x508002 => (node_Right.f k x508000 x508001 x508002).bind fun t510 => (if t510 = true then (node_Split.j1 k x6 x7 (decide (x7 < (wrap64 (2 * x6)))) x508000 x508001 x508002) else (node_Split.j1 k x6 x7 true x508000 x508001 x508002))
def node_Split.j1 : Nat → Int → Int → Bool → List (S39) → List ByteArray → List Int → Option ((List (S39)) × List ByteArray × List Int × ByteArray × (List (S39)) × List ByteArray × List Int × Int)
  | 0, _, _, _, _, _, _ => none
  | k + 1, x6, x7, x30, x508000, x508001, x508002 => if x30 = true then (some (([] : List (S39)), ([] : List ByteArray), ([] : List Int), (⟨#[]⟩ : ByteArray), ([] : List (S39)), ([] : List ByteArray), ([] : List Int), 60)) else ((node_cut.f x508000 x508001 x508002 x6).bind fun bt511 => (node_Split.l0 k x6 x7 (wrap64 (x6 + 1)) x508000 x508001 x508002 bt511.1 bt511.2.1 bt511.2.2.1 bt511.2.2.2.1 bt511.2.2.2.2.1 bt511.2.2.2.2.2.1 bt511.2.2.2.2.2.2))
def node_Split.l0 : Nat → Int → Int → Int → List (S39) → List ByteArray → List Int → List (S39) → List ByteArray → List Int → List (S39) → List ByteArray → List Int → ByteArray → Option ((List (S39)) × List ByteArray × List Int × ByteArray × (List (S39)) × List ByteArray × List Int × Int)
  | 0, _, _, _, _, _, _, _, _, _, _, _, _, _ => none
  | k + 1, x6, x7, x9, x508000, x508001, x508002, x531000, x531001, x531002, x531003, x531004, x531005, x531006 => if x9 ≤ (wrap64 (x7 - x6)) then ((node_cut.f x508000 x508001 x508002 x9).bind fun bt531 => ((node_halves_most.f bt531.1 bt531.2.1 bt531.2.2.1 bt531.2.2.2.1 bt531.2.2.2.2.1 bt531.2.2.2.2.2.1 bt531.2.2.2.2.2.2).bind fun t551 => ((node_halves_most.f x531000 x531001 x531002 x531003 x531004 x531005 x531006).bind fun t552 => (if t551 < t552 then (node_Split.l0 k x6 x7 (wrap64 (x9 + 1)) x508000 x508001 x508002 bt531.1 bt531.2.1 bt531.2.2.1 bt531.2.2.2.1 bt531.2.2.2.2.1 bt531.2.2.2.2.2.1 bt531.2.2.2.2.2.2) else (node_Split.l0 k x6 x7 (wrap64 (x9 + 1)) x508000 x508001 x508002 x531000 x531001 x531002 x531003 x531004 x531005 x531006))))) else (some (x531000, x531001, x531002, x531006, x531003, x531004, x531005, 0))
end
def node_Split.f (k : Nat) (l0_0 : List (S39)) (l0_1 : List ByteArray) (l0_2 : List Int) : Option ((List (S39)) × List ByteArray × List Int × ByteArray × (List (S39)) × List ByteArray × List Int × Int) := if (l0_2.length : Int) > 0 then (node_Split.j0 k 2 (wrap64 ((l0_0.length : Int) + (l0_2.length : Int))) l0_0 l0_1 l0_2) else (node_Split.j0 k 1 (wrap64 ((l0_0.length : Int) + (l0_2.length : Int))) l0_0 l0_1 l0_2)
theorem node_Split.mono_l : ∀ k, (∀ y0 y1 y2 y3 y4, LeO (node_Split.j0 k y0 y1 y2 y3 y4) (node_Split.j0 (k + 1) y0 y1 y2 y3 y4)) ∧ (∀ y0 y1 y2 y3 y4 y5, LeO (node_Split.j1 k y0 y1 y2 y3 y4 y5) (node_Split.j1 (k + 1) y0 y1 y2 y3 y4 y5)) ∧ (∀ y0 y1 y2 y3 y4 y5 y6 y7 y8 y9 y10 y11 y12, LeO (node_Split.l0 k y0 y1 y2 y3 y4 y5 y6 y7 y8 y9 y10 y11 y12) (node_Split.l0 (k + 1) y0 y1 y2 y3 y4 y5 y6 y7 y8 y9 y10 y11 y12))
  | 0 => ⟨fun _ _ _ _ _ r h => by simp [node_Split.j0] at h, fun _ _ _ _ _ _ r h => by simp [node_Split.j1] at h, fun _ _ _ _ _ _ _ _ _ _ _ _ _ r h => by simp [node_Split.l0] at h⟩
  | k + 1 => by
    obtain ⟨ih0, ih1, ih2⟩ := node_Split.mono_l k
    refine ⟨?_, ?_, ?_⟩
    · intro y0 y1 y2 y3 y4
      unfold node_Split.j0
      repeat' first
      | (with_reducible exact ih0 _ _ _ _ _)
      | (with_reducible exact ih1 _ _ _ _ _ _)
      | (with_reducible exact ih2 _ _ _ _ _ _ _ _ _ _ _ _ _)
      | (with_reducible exact node_Right.mono _ _ _ _)
      | (with_reducible exact LeO.refl _)
      | (with_reducible exact LeO.none _)
      | (with_reducible refine LeO.ite ?_ ?_)
      | (with_reducible refine LeO.bind ?_ (fun _ => ?_))
      | exact ih0 _ _ _ _ _
      | exact ih1 _ _ _ _ _ _
      | exact ih2 _ _ _ _ _ _ _ _ _ _ _ _ _
      | exact node_Right.mono _ _ _ _
      | exact LeO.none _
      | refine LeO.ite ?_ ?_
      | refine LeO.bind ?_ (fun _ => ?_)
    · intro y0 y1 y2 y3 y4 y5
      unfold node_Split.j1
      repeat' first
      | (with_reducible exact ih0 _ _ _ _ _)
      | (with_reducible exact ih1 _ _ _ _ _ _)
      | (with_reducible exact ih2 _ _ _ _ _ _ _ _ _ _ _ _ _)
      | (with_reducible exact node_Right.mono _ _ _ _)
      | (with_reducible exact LeO.refl _)
      | (with_reducible exact LeO.none _)
      | (with_reducible refine LeO.ite ?_ ?_)
      | (with_reducible refine LeO.bind ?_ (fun _ => ?_))
      | exact ih0 _ _ _ _ _
      | exact ih1 _ _ _ _ _ _
      | exact ih2 _ _ _ _ _ _ _ _ _ _ _ _ _
      | exact node_Right.mono _ _ _ _
      | exact LeO.none _
      | refine LeO.ite ?_ ?_
      | refine LeO.bind ?_ (fun _ => ?_)
    · intro y0 y1 y2 y3 y4 y5 y6 y7 y8 y9 y10 y11 y12
      unfold node_Split.l0
      repeat' first
      | (with_reducible exact ih0 _ _ _ _ _)
      | (with_reducible exact ih1 _ _ _ _ _ _)
      | (with_reducible exact ih2 _ _ _ _ _ _ _ _ _ _ _ _ _)
      | (with_reducible exact node_Right.mono _ _ _ _)
      | (with_reducible exact LeO.refl _)
      | (with_reducible exact LeO.none _)
      | (with_reducible refine LeO.ite ?_ ?_)
      | (with_reducible refine LeO.bind ?_ (fun _ => ?_))
      | exact ih0 _ _ _ _ _
      | exact ih1 _ _ _ _ _ _
      | exact ih2 _ _ _ _ _ _ _ _ _ _ _ _ _
      | exact node_Right.mono _ _ _ _
      | exact LeO.none _
      | refine LeO.ite ?_ ?_
      | refine LeO.bind ?_ (fun _ => ?_)
theorem node_Split.mono : ∀ a0 a1 a2 k, LeO (node_Split.f k a0 a1 a2) (node_Split.f (k + 1) a0 a1 a2) := by
  intro a0 a1 a2 k
  obtain ⟨ih0, ih1, ih2⟩ := node_Split.mono_l k
  unfold node_Split.f
  repeat' first
      | (with_reducible exact ih0 _ _ _ _ _)
      | (with_reducible exact ih1 _ _ _ _ _ _)
      | (with_reducible exact ih2 _ _ _ _ _ _ _ _ _ _ _ _ _)
      | (with_reducible exact node_Right.mono _ _ _ _)
      | (with_reducible exact LeO.refl _)
      | (with_reducible exact LeO.none _)
      | (with_reducible refine LeO.ite ?_ ?_)
      | (with_reducible refine LeO.bind ?_ (fun _ => ?_))
      | exact ih0 _ _ _ _ _
      | exact ih1 _ _ _ _ _ _
      | exact ih2 _ _ _ _ _ _ _ _ _ _ _ _ _
      | exact node_Right.mono _ _ _ _
      | exact LeO.none _
      | refine LeO.ite ?_ ?_
      | refine LeO.bind ?_ (fun _ => ?_)
def node_Split.T1 : Bool × List (List Nat × List Nat) := (true, [([], []), ([0], [0]), ([1], [1]), ([], []), ([3], [3]), ([4], [4]), ([2, 5], [2, 5]), ([], []), ([6, 7, 0, 1, 2, 3, 4, 5, 6, 7], [6])])
def node_Split.B1 : List Nat := [0, 1, 3, 0, 8, 24, 63, 0, 255]
theorem node_Split.tab1 : rtab .any (opsOf Try.f27 1) = node_Split.T1 := by kernel_rfl
theorem node_Split.bits1 : waitsOk node_Split.T1.2 node_Split.B1 = true := by kernel_rfl
def node_Split.T13 : Bool × List (List Nat × List Nat) := (true, [([], []), ([0], [0]), ([], []), ([2], [2]), ([], []), ([4], [4]), ([1, 0, 1], [1]), ([3, 6, 0, 1, 2, 3, 6], [3]), ([5, 7, 0, 1, 2, 3, 4, 5, 6, 7], [5]), ([8, 0, 1, 2, 3, 4, 5, 6, 7, 8], [])])
def node_Split.B13 : List Nat := [0, 1, 0, 4, 0, 16, 3, 79, 255, 511]
theorem node_Split.tab13 : rtab .any (opsOf Try.f27 13) = node_Split.T13 := by kernel_rfl
theorem node_Split.bits13 : waitsOk node_Split.T13.2 node_Split.B13 = true := by kernel_rfl
set_option maxHeartbeats 8000000 in
set_option maxRecDepth 100000 in
theorem node_Split.calls (k : Nat) (A0_0 : Option Addr) (c0_0 : Nat) (l0_0 : List (S39)) (A0_1 : Option Addr) (c0_1 : Nat) (l0_1 : List ByteArray) (A0_2 : Option Addr) (c0_2 : Nat) (l0_2 : List Int) (r1 : List (S39)) (r2 : List ByteArray) (r3 : List Int) (r4 : ByteArray) (r5 : List (S39)) (r6 : List ByteArray) (r7 : List Int) (r8 : Int) (w : World) (hr0_0 : Kd.C k39 w A0_0 l0_0.length l0_0) (hc0_0 : l0_0.length ≤ c0_0) (hr0_1 : Kd.C Kd.string w A0_1 l0_1.length l0_1) (hc0_1 : l0_1.length ≤ c0_1) (hr0_2 : Kd.C (Kd.int .u32) w A0_2 l0_2.length l0_2) (hc0_2 : l0_2.length ≤ c0_2) (h : node_Split.f k l0_0 l0_1 l0_2 = some (r1, r2, r3, r4, r5, r6, r7, r8)) :
    Calls Try.prog 27 #[.agg #[.slice A0_0 l0_0.length c0_0, .slice A0_1 l0_1.length c0_1, .slice A0_2 l0_2.length c0_2]] w fun e w' => ∃ v0_ v1_ v2_ v4_ v5_ v6_ : Value, e = .returned (.tuple #[.agg #[v0_, v1_, v2_], .string r4, .agg #[v4_, v5_, v6_], .int .i64 r8]) ∧ Kd.R k39 39 w' w.heap.size (fun k_ => some k_ ≠ (v4_ : Value).ownBlock) v0_ r1 ∧ Kd.R Kd.string 9 w' w.heap.size (fun k_ => some k_ ≠ (v5_ : Value).ownBlock) v1_ r2 ∧ Kd.R (Kd.int .u32) 65 w' w.heap.size (fun k_ => some k_ ≠ (v6_ : Value).ownBlock) v2_ r3 ∧ Kd.R k39 39 w' w.heap.size (fun k_ => some k_ ≠ (v0_ : Value).ownBlock) v4_ r5 ∧ Kd.R Kd.string 9 w' w.heap.size (fun k_ => some k_ ≠ (v1_ : Value).ownBlock) v5_ r6 ∧ Kd.R (Kd.int .u32) 65 w' w.heap.size (fun k_ => some k_ ≠ (v2_ : Value).ownBlock) v6_ r7 ∧ Below w.heap.size w w' := by
  have hu26 := Try.underlying26
  have hu81 := Try.underlying81
  have HR0_0 := Aside0.mk hr0_0
  have HC0_0 := Aside0.mk hc0_0
  clear hr0_0 hc0_0
  have HR0_1 := Aside0.mk hr0_1
  have HC0_1 := Aside0.mk hc0_1
  clear hr0_1 hc0_1
  have HR0_2 := Aside0.mk hr0_2
  have HC0_2 := Aside0.mk hc0_2
  clear hr0_2 hc0_2
  have HB := Aside0.mk (Below.refl w.heap.size w)
  have H : (if (l0_2.length : Int) > 0 then (node_Split.j0 k 2 (wrap64 ((l0_0.length : Int) + (l0_2.length : Int))) l0_0 l0_1 l0_2) else (node_Split.j0 k 1 (wrap64 ((l0_0.length : Int) + (l0_2.length : Int))) l0_0 l0_1 l0_2)) = some (r1, r2, r3, r4, r5, r6, r7, r8) := h
  clear h
  have HC2 := Aside0.mk H
  clear H
  go_enter Try.func27, Try.ntmps27
  try go_wp2_with (first | ((with_reducible refine gate_dst (N := 1) rfl ?_); refine box_event ?hg (N := 1) ?hd (cs := #[.slice A0_0 l0_0.length c0_0, .slice A0_1 l0_1.length c0_1, .slice A0_2 l0_2.length c0_2]) (t := 26) ?hr ?_; (case hd => rfl); (case hg => rfl); (case hr => first | (go_simp; done) | (go_simp; rfl)); intro gb507 hg w3 hbox hb; have BK507 := Aside0.mk (hbox); have GW507 := Aside0.mk ((by rw [hg]; exact (below_size (L_ HB.out)) : w.heap.size ≤ gb507)); have GE507 := Aside0.mk ((by rw [hg]; exact (below_size (L_ HB.out)) : w.heap.size ≤ gb507)); replace HB := Aside0.mk (below_step (L_ HB.out) hb); clear hb hbox hg) | ((with_reducible refine gate_dst (N := 2) rfl ?_); refine box_event ?hg (N := 2) ?hd (cs := #[.slice none 0 0, .slice none 0 0, .slice none 0 0]) (t := 26) ?hr ?_; (case hd => rfl); (case hg => rfl); (case hr => first | (go_simp; done) | (go_simp; rfl)); intro gb508 hg w4 hbox hb; have BK508 := Aside0.mk (hbox); have GW508 := Aside0.mk ((by rw [hg]; exact (below_size (L_ HB.out)) : w.heap.size ≤ gb508)); have GE508 := Aside0.mk ((by rw [hg]; exact (below_size (L_ HB.out)) : w.heap.size ≤ gb508)); have NB507_508 := Aside0.mk ((by rw [hg]; exact Nat.ne_of_lt (blk_lt (g := gb507) (o := .cells #[.slice A0_0 l0_0.length c0_0, .slice A0_1 l0_1.length c0_1, .slice A0_2 l0_2.length c0_2] 26 (0, 0)) (B_ BK507.out)) : gb507 ≠ gb508)); have NB508_507 := Aside0.mk ((by rw [hg]; exact Nat.ne_of_gt (blk_lt (g := gb507) (o := .cells #[.slice A0_0 l0_0.length c0_0, .slice A0_1 l0_1.length c0_1, .slice A0_2 l0_2.length c0_2] 26 (0, 0)) (B_ BK507.out)) : gb508 ≠ gb507)); replace BK507 := Aside0.mk (blk_below (g := gb507) (o := .cells #[.slice A0_0 l0_0.length c0_0, .slice A0_1 l0_1.length c0_1, .slice A0_2 l0_2.length c0_2] 26 (0, 0)) (B_ BK507.out) hb); replace HB := Aside0.mk (below_step (L_ HB.out) hb); clear hb hbox hg) | ((with_reducible refine gate_dst (N := 4) rfl ?_); refine box_event ?hg (N := 4) ?hd (cs := #[.slice none 0 0, .slice none 0 0, .slice none 0 0]) (t := 26) ?hr ?_; (case hd => rfl); (case hg => rfl); (case hr => first | (go_simp; done) | (go_simp; rfl)); intro gb509 hg w5 hbox hb; have BK509 := Aside0.mk (hbox); have GW509 := Aside0.mk ((by rw [hg]; exact (below_size (L_ HB.out)) : w.heap.size ≤ gb509)); have GE509 := Aside0.mk ((by rw [hg]; exact (below_size (L_ HB.out)) : w.heap.size ≤ gb509)); have NB507_509 := Aside0.mk ((by rw [hg]; exact Nat.ne_of_lt (blk_lt (g := gb507) (o := .cells #[.slice A0_0 l0_0.length c0_0, .slice A0_1 l0_1.length c0_1, .slice A0_2 l0_2.length c0_2] 26 (0, 0)) (B_ BK507.out)) : gb507 ≠ gb509)); have NB509_507 := Aside0.mk ((by rw [hg]; exact Nat.ne_of_gt (blk_lt (g := gb507) (o := .cells #[.slice A0_0 l0_0.length c0_0, .slice A0_1 l0_1.length c0_1, .slice A0_2 l0_2.length c0_2] 26 (0, 0)) (B_ BK507.out)) : gb509 ≠ gb507)); have NB508_509 := Aside0.mk ((by rw [hg]; exact Nat.ne_of_lt (blk_lt (g := gb508) (o := .cells #[.slice none 0 0, .slice none 0 0, .slice none 0 0] 26 (0, 0)) (B_ BK508.out)) : gb508 ≠ gb509)); have NB509_508 := Aside0.mk ((by rw [hg]; exact Nat.ne_of_gt (blk_lt (g := gb508) (o := .cells #[.slice none 0 0, .slice none 0 0, .slice none 0 0] 26 (0, 0)) (B_ BK508.out)) : gb509 ≠ gb508)); replace BK507 := Aside0.mk (blk_below (g := gb507) (o := .cells #[.slice A0_0 l0_0.length c0_0, .slice A0_1 l0_1.length c0_1, .slice A0_2 l0_2.length c0_2] 26 (0, 0)) (B_ BK507.out) hb); replace BK508 := Aside0.mk (blk_below (g := gb508) (o := .cells #[.slice none 0 0, .slice none 0 0, .slice none 0 0] 26 (0, 0)) (B_ BK508.out) hb); replace HB := Aside0.mk (below_step (L_ HB.out) hb); clear hb hbox hg))
  replace BK507 := Aside0.mk (blk_drew BK507.out)
  replace BK508 := Aside0.mk (blk_drew BK508.out)
  replace BK509 := Aside0.mk (blk_drew BK509.out)
  replace HB := Aside0.mk (below_drew1 HB.out)
  refine start_ (n := 9) (S := fun w' => w'.cell? ⟨gb507, 0, none⟩ = some (.slice A0_0 l0_0.length c0_0) ∧ w'.cell? ⟨gb507, 1, none⟩ = some (.slice A0_1 l0_1.length c0_1) ∧ w'.cell? ⟨gb507, 2, none⟩ = some (.slice A0_2 l0_2.length c0_2)) (ds := []) #[false, false, false, false, false, false, false, false, false] (by kernel_rfl) rfl rfl ⟨(blk_cell BK507.out 0).trans rfl, (blk_cell BK507.out 1).trans rfl, (blk_cell BK507.out 2).trans rfl⟩ (fun hHeld => ?_); refine with_tabW node_Split.tab1 node_Split.bits1 (fun HT_ HW_ => ?_)
  generalize w5.drew = w6 at BK507 BK508 BK509 HB hHeld ⊢
  refine pure_ (i := 0) (N := some 11) (v := ?_) (a' := ?_) #[true, false, false, false, false, false, false, false, false] rfl rfl (any_of HT_.out (by kernel_rfl)) (fun _ _ _ h => h) (Or.inl ⟨by rfl, ?_⟩) ?_ ?_
  rotate_left
  · intro w'
    go_simp
    with_reducible rfl
  rotate_left
  · simp only [Act.put, List.setIfInBounds_toArray, List.set_cons_zero, List.set_cons_succ, i64_w, i32_w]
    rfl
  refine pure_ (i := 3) (N := some 14) (v := ?_) (a' := ?_) #[true, false, false, true, false, false, false, false, false] rfl rfl (any_of HT_.out (by kernel_rfl)) (fun _ _ _ h => h) (Or.inl ⟨by rfl, ?_⟩) ?_ ?_
  rotate_left
  · intro w'
    go_simp
    with_reducible rfl
  rotate_left
  · simp only [Act.put, List.setIfInBounds_toArray, List.set_cons_zero, List.set_cons_succ, i64_w, i32_w]
    rfl
  refine pure_ (i := 7) (N := some 6) (v := ?_) (a' := ?_) #[true, false, false, true, false, false, false, true, false] rfl rfl (any_of HT_.out (by kernel_rfl)) (fun _ _ _ h => h) (Or.inl ⟨by rfl, ?_⟩) ?_ ?_
  rotate_left
  · intro w'
    go_simp
    with_reducible rfl
  rotate_left
  · simp only [Act.put, List.setIfInBounds_toArray, List.set_cons_zero, List.set_cons_succ, i64_w, i32_w]
    rfl
  refine take_ (i := 1) (N := some 12) (v := ?_) (a' := ?_) #[true, true, false, true, false, false, false, true, false] rfl rfl (take_ofW HT_.out HW_.out (by kernel_rfl)) (fun _ _ _ h => h) (Or.inl ⟨by rfl, ?_⟩) hHeld ?_ ?_
  rotate_left
  · rintro w' ⟨s0, s1, s2⟩
    go_simp
    with_reducible rfl
  rotate_left
  · simp only [Act.put, List.setIfInBounds_toArray, List.set_cons_zero, List.set_cons_succ, i64_w, i32_w]
    rfl
  refine pure_ (i := 2) (N := some 13) (v := ?_) (a' := ?_) #[true, true, true, true, false, false, false, true, false] rfl rfl (any_of HT_.out (by kernel_rfl)) (fun _ _ _ h => h) (Or.inl ⟨by rfl, ?_⟩) ?_ ?_
  rotate_left
  · intro w'
    go_simp
    with_reducible rfl
  rotate_left
  · simp only [Act.put, List.setIfInBounds_toArray, List.set_cons_zero, List.set_cons_succ, i64_w, i32_w]
    rfl
  refine take_ (i := 4) (N := some 15) (v := ?_) (a' := ?_) #[true, true, true, true, true, false, false, true, false] rfl rfl (take_ofW HT_.out HW_.out (by kernel_rfl)) (fun _ _ _ h => h) (Or.inl ⟨by rfl, ?_⟩) hHeld ?_ ?_
  rotate_left
  · rintro w' ⟨s0, s1, s2⟩
    go_simp
    with_reducible rfl
  rotate_left
  · simp only [Act.put, List.setIfInBounds_toArray, List.set_cons_zero, List.set_cons_succ, i64_w, i32_w]
    rfl
  refine pure_ (i := 5) (N := some 16) (v := ?_) (a' := ?_) #[true, true, true, true, true, true, false, true, false] rfl rfl (any_of HT_.out (by kernel_rfl)) (fun _ _ _ h => h) (Or.inl ⟨by rfl, ?_⟩) ?_ ?_
  rotate_left
  · intro w'
    go_simp
    with_reducible rfl
  rotate_left
  · simp only [Act.put, List.setIfInBounds_toArray, List.set_cons_zero, List.set_cons_succ, i64_w, i32_w]
    rfl
  refine pure_ (i := 6) (N := some 17) (v := ?_) (a' := ?_) #[true, true, true, true, true, true, true, true, false] rfl rfl (any_of HT_.out (by kernel_rfl)) (fun _ _ _ h => h) (Or.inl ⟨by rfl, ?_⟩) ?_ ?_
  rotate_left
  · intro w'
    go_simp
    with_reducible rfl
  rotate_left
  · simp only [Act.put, List.setIfInBounds_toArray, List.set_cons_zero, List.set_cons_succ, i64_w, i32_w]
    rfl
  refine pure_ (i := 8) (N := some 7) (v := ?_) (a' := ?_) #[true, true, true, true, true, true, true, true, true] rfl rfl (any_of HT_.out (by kernel_rfl)) (fun _ _ _ h => h) (Or.inl ⟨by rfl, ?_⟩) ?_ ?_
  rotate_left
  · intro w'
    go_simp
    with_reducible rfl
  rotate_left
  · simp only [Act.put, List.setIfInBounds_toArray, List.set_cons_zero, List.set_cons_succ, i64_w, i32_w]
    rfl
  refine done_ (done_of HT_.out (by kernel_rfl)) ?_
  have hnb7 := NB507_508.out
  have hnc7 := NB508_507.out
  have hnb8 := NB507_509.out
  have hnc8 := NB509_507.out
  have hcz9_0 : w6.cell? ⟨gb507, 0, none⟩ = some (.slice A0_0 l0_0.length c0_0) := (blk_cell BK507.out 0).trans rfl
  have hcz9_1 : w6.cell? ⟨gb507, 1, none⟩ = some (.slice A0_1 l0_1.length c0_1) := (blk_cell BK507.out 1).trans rfl
  have hcz9_2 : w6.cell? ⟨gb507, 2, none⟩ = some (.slice A0_2 l0_2.length c0_2) := (blk_cell BK507.out 2).trans rfl
  have hfz9_0 := blk_frozen BK507.out 0
  have hfz9_1 := blk_frozen BK507.out 1
  have hfz9_2 := blk_frozen BK507.out 2
  go_upto_if 21 with (fail)
  go_cut [6] (fun v6 wc => ∃ (kq : Nat) (x6_1 : Int), v6 = .int .i64 x6_1 ∧ Aside0 (node_Split.j0 kq x6_1 (wrap64 ((l0_0.length : Int) + (l0_2.length : Int))) l0_0 l0_1 l0_2 = some (r1, r2, r3, r4, r5, r6, r7, r8)) ∧ Aside0 (kq ≤ k) ∧ Aside0 (wc.heap[gb507]? = some (.cells #[(.slice A0_0 l0_0.length c0_0), (.slice A0_1 l0_1.length c0_1), (.slice A0_2 l0_2.length c0_2)] 26 (0, 0))) ∧ Aside0 (wc.heap[gb508]? = some (.cells #[(.slice none 0 0), (.slice none 0 0), (.slice none 0 0)] 26 (0, 0))) ∧ Aside0 (wc.heap[gb509]? = some (.cells #[(.slice none 0 0), (.slice none 0 0), (.slice none 0 0)] 26 (0, 0))) ∧ Aside0 (Below w.heap.size w wc))
  case first =>
    have H := HC2.out
    clear HC2
    by_cases c10 : (l0_2.length : Int) > 0
    · rw [if_pos c10] at H
      have c10b0 : decide (0 < (l0_2.length : Int)) = true := decide_eq_true c10
      have c10b1 : decide (0 < l0_2.length) = true := decide_eq_true (by omega)
      clear c10
      (first | rw [c10b0] | rw [c10b1] | (simp only [i64_w, i32_w]; rw [c10b0]) | skip)
      have H' := Aside0.mk H
      clear H
      go_wp2
      go_meet
      case rel => exact ⟨_, (2), (by first | rfl | (simp; done) | (simp [*]; done)), H', ⟨by first | omega | exact Nat.le_refl _⟩, ⟨by (with_reducible repeat (first | refine blk_drewN ?_ _ | refine blk_drew ?_ | refine blk_alloc ?_ _)); exact BK507.out⟩, ⟨by (with_reducible repeat (first | refine blk_drewN ?_ _ | refine blk_drew ?_ | refine blk_alloc ?_ _)); exact BK508.out⟩, ⟨by (with_reducible repeat (first | refine blk_drewN ?_ _ | refine blk_drew ?_ | refine blk_alloc ?_ _)); exact BK509.out⟩, ⟨by repeat (first | (with_reducible first | exact HB.out | apply below_alloc | apply pw_below_drewN | apply below_drew1 | refine below_set ?_ GE507.out | refine below_set ?_ GE508.out | refine below_set ?_ GE509.out) | exact HB.out)⟩⟩
    · rw [if_neg c10] at H
      have c10b0 : decide (0 < (l0_2.length : Int)) = false := decide_eq_false c10
      have c10b1 : decide (0 < l0_2.length) = false := decide_eq_false (by omega)
      clear c10
      (first | rw [c10b0] | rw [c10b1] | (simp only [i64_w, i32_w]; rw [c10b0]) | skip)
      have H' := Aside0.mk H
      clear H
      go_wp2
      go_meet
      case rel => exact ⟨_, (1), (by first | rfl | (simp; done) | (simp [*]; done)), H', ⟨by first | omega | exact Nat.le_refl _⟩, ⟨by (with_reducible repeat (first | refine blk_drewN ?_ _ | refine blk_drew ?_ | refine blk_alloc ?_ _)); exact BK507.out⟩, ⟨by (with_reducible repeat (first | refine blk_drewN ?_ _ | refine blk_drew ?_ | refine blk_alloc ?_ _)); exact BK508.out⟩, ⟨by (with_reducible repeat (first | refine blk_drewN ?_ _ | refine blk_drew ?_ | refine blk_alloc ?_ _)); exact BK509.out⟩, ⟨by repeat (first | (with_reducible first | exact HB.out | apply below_alloc | apply pw_below_drewN | apply below_drew1 | refine below_set ?_ GE507.out | refine below_set ?_ GE508.out | refine below_set ?_ GE509.out) | exact HB.out)⟩⟩
  case rest =>
    clear HC2
    try clear c1
    try clear c2
    try clear p2
    try clear p6
    try clear c7
    try clear c8
    try clear c10
    try clear c10b0
    try clear c10b1
    try clear hcz9_0
    try clear hcz9_1
    try clear hcz9_2
    try clear hfz9_0
    try clear hfz9_1
    try clear hfz9_2
    obtain ⟨kq, x6_1, rfl, HA, HJ1, BK507, BK508, BK509, HB⟩ := hcut
    cases kq with
    | zero => exact absurd HA.out (by simp [node_Split.j0])
    | succ kj1 =>
      have H := HA.out
      clear HA
      simp only [node_Split.j0] at H
      have HC11 := Aside0.mk H
      clear H
      go_upto_region 4 with (fail)
      go_cut [30] (fun v30 wc => ∃ (kq : Nat) (x30_10 : Bool), v30 = .bool x30_10 ∧ Aside0 (node_Split.j1 kq x6_1 (wrap64 ((l0_0.length : Int) + (l0_2.length : Int))) x30_10 l0_0 l0_1 l0_2 = some (r1, r2, r3, r4, r5, r6, r7, r8)) ∧ Aside0 (kq ≤ kj1) ∧ Aside0 (wc.heap[gb507]? = some (.cells #[(.slice A0_0 l0_0.length c0_0), (.slice A0_1 l0_1.length c0_1), (.slice A0_2 l0_2.length c0_2)] 26 (0, 0))) ∧ Aside0 (wc.heap[gb508]? = some (.cells #[(.slice none 0 0), (.slice none 0 0), (.slice none 0 0)] 26 (0, 0))) ∧ Aside0 (wc.heap[gb509]? = some (.cells #[(.slice none 0 0), (.slice none 0 0), (.slice none 0 0)] 26 (0, 0))) ∧ Aside0 (Below w.heap.size w wc))
      case first =>
        have H := HC11.out
        clear HC11
        replace H := Option.bind_eq_some_iff.mp H
        obtain ⟨t510, A120, H⟩ := H
        replace H : (if t510 = true then (node_Split.j1 kj1 x6_1 (wrap64 ((l0_0.length : Int) + (l0_2.length : Int))) (decide ((wrap64 ((l0_0.length : Int) + (l0_2.length : Int))) < (wrap64 (2 * x6_1)))) l0_0 l0_1 l0_2) else (node_Split.j1 kj1 x6_1 (wrap64 ((l0_0.length : Int) + (l0_2.length : Int))) true l0_0 l0_1 l0_2)) = some (r1, r2, r3, r4, r5, r6, r7, r8) := H
        have A12 := Aside0.mk A120
        clear A120
        by_cases c13 : t510 = true
        · subst c13
          have H1 : (node_Split.j1 kj1 x6_1 (wrap64 ((l0_0.length : Int) + (l0_2.length : Int))) (decide ((wrap64 ((l0_0.length : Int) + (l0_2.length : Int))) < (wrap64 (2 * x6_1)))) l0_0 l0_1 l0_2) = some (r1, r2, r3, r4, r5, r6, r7, r8) := by rw [if_pos rfl] at H; exact H
          clear H
          have H := H1
          clear H1
          have H' := Aside0.mk H
          clear H
          have hnb14 := NB507_508.out
          have hnc14 := NB508_507.out
          have hnb15 := NB507_509.out
          have hnc15 := NB509_507.out
          have hcz16_0 : wc.cell? ⟨gb507, 0, none⟩ = some (.slice A0_0 l0_0.length c0_0) := (blk_cell BK507.out 0).trans rfl
          have hcz16_1 : wc.cell? ⟨gb507, 1, none⟩ = some (.slice A0_1 l0_1.length c0_1) := (blk_cell BK507.out 1).trans rfl
          have hcz16_2 : wc.cell? ⟨gb507, 2, none⟩ = some (.slice A0_2 l0_2.length c0_2) := (blk_cell BK507.out 2).trans rfl
          have hfz16_0 := blk_frozen BK507.out 0
          have hfz16_1 := blk_frozen BK507.out 1
          have hfz16_2 := blk_frozen BK507.out 2
          go_wp2_with (first | ((with_reducible refine gate_callee (f := 14) rfl ?_); refine goesL_ (some 23) rfl rfl Try.func14 (by kernel_rfl) rfl #[.agg #[.slice A0_0 l0_0.length c0_0, .slice A0_1 l0_1.length c0_1, .slice A0_2 l0_2.length c0_2]] rfl (by (try simp only [List.map_toArray, List.map_cons, List.map_nil]); first | done | rfl | (simp only [List.length_drop, List.length_take]; rfl)) ?_; (with_reducible refine (node_Right.calls kj1 _ _ l0_0 _ _ l0_1 _ _ l0_2 true _ ?side1 ?side2 ?side3 ?side4 ?side5 ?side6 A12.out).mono ?_); (case side1 => repeat (first | exact (Kd.C_below HR0_0.out HB.out) | (with_reducible refine Kd.C_alloc ?_ _) | (with_reducible refine Kd.C_drewN ?_ _) | (with_reducible refine Kd.C_drew ?_))); (case side2 => exact HC0_0.out); (case side3 => repeat (first | exact (Kd.C_below HR0_1.out HB.out) | (with_reducible refine Kd.C_alloc ?_ _) | (with_reducible refine Kd.C_drewN ?_ _) | (with_reducible refine Kd.C_drew ?_))); (case side4 => exact HC0_1.out); (case side5 => repeat (first | exact (Kd.C_below HR0_2.out HB.out) | (with_reducible refine Kd.C_alloc ?_ _) | (with_reducible refine Kd.C_drewN ?_ _) | (with_reducible refine Kd.C_drew ?_))); (case side6 => exact HC0_2.out); rintro e w17 ⟨rfl, hb⟩; refine ⟨_, rfl, ?_⟩; replace BK507 := Aside0.mk (blk_below (g := gb507) (o := .cells #[.slice A0_0 l0_0.length c0_0, .slice A0_1 l0_1.length c0_1, .slice A0_2 l0_2.length c0_2] 26 (0, 0)) (B_ BK507.out) hb); replace BK508 := Aside0.mk (blk_below (g := gb508) (o := .cells #[.slice none 0 0, .slice none 0 0, .slice none 0 0] 26 (0, 0)) (B_ BK508.out) hb); replace BK509 := Aside0.mk (blk_below (g := gb509) (o := .cells #[.slice none 0 0, .slice none 0 0, .slice none 0 0] 26 (0, 0)) (B_ BK509.out) hb); replace HB := Aside0.mk (below_step (L_ HB.out) hb); (try clear hb); (try clear hb2); (try clear hk); (try clear hi)))
          go_meet
          case rel => exact ⟨_, (decide ((wrap64 ((l0_0.length : Int) + (l0_2.length : Int))) < (wrap64 (2 * x6_1)))), (by first | rfl | (simp; done) | (simp [*]; done)), H', ⟨by have := HJ1.out; first | omega | exact Nat.le_refl _⟩, ⟨by (with_reducible repeat (first | refine blk_drewN ?_ _ | refine blk_drew ?_ | refine blk_alloc ?_ _)); exact BK507.out⟩, ⟨by (with_reducible repeat (first | refine blk_drewN ?_ _ | refine blk_drew ?_ | refine blk_alloc ?_ _)); exact BK508.out⟩, ⟨by (with_reducible repeat (first | refine blk_drewN ?_ _ | refine blk_drew ?_ | refine blk_alloc ?_ _)); exact BK509.out⟩, ⟨by repeat (first | (with_reducible first | exact HB.out | apply below_alloc | apply pw_below_drewN | apply below_drew1 | refine below_set ?_ GE507.out | refine below_set ?_ GE508.out | refine below_set ?_ GE509.out) | exact HB.out)⟩⟩
        · replace c13 := Bool.eq_false_iff.mpr c13
          subst c13
          have H1 : (node_Split.j1 kj1 x6_1 (wrap64 ((l0_0.length : Int) + (l0_2.length : Int))) true l0_0 l0_1 l0_2) = some (r1, r2, r3, r4, r5, r6, r7, r8) := by rw [if_neg (show ¬ (false = true) by decide)] at H; exact H
          clear H
          have H := H1
          clear H1
          have H' := Aside0.mk H
          clear H
          have hnb18 := NB507_508.out
          have hnc18 := NB508_507.out
          have hnb19 := NB507_509.out
          have hnc19 := NB509_507.out
          have hcz20_0 : wc.cell? ⟨gb507, 0, none⟩ = some (.slice A0_0 l0_0.length c0_0) := (blk_cell BK507.out 0).trans rfl
          have hcz20_1 : wc.cell? ⟨gb507, 1, none⟩ = some (.slice A0_1 l0_1.length c0_1) := (blk_cell BK507.out 1).trans rfl
          have hcz20_2 : wc.cell? ⟨gb507, 2, none⟩ = some (.slice A0_2 l0_2.length c0_2) := (blk_cell BK507.out 2).trans rfl
          have hfz20_0 := blk_frozen BK507.out 0
          have hfz20_1 := blk_frozen BK507.out 1
          have hfz20_2 := blk_frozen BK507.out 2
          go_wp2_with (first | ((with_reducible refine gate_callee (f := 14) rfl ?_); refine goesL_ (some 23) rfl rfl Try.func14 (by kernel_rfl) rfl #[.agg #[.slice A0_0 l0_0.length c0_0, .slice A0_1 l0_1.length c0_1, .slice A0_2 l0_2.length c0_2]] rfl (by (try simp only [List.map_toArray, List.map_cons, List.map_nil]); first | done | rfl | (simp only [List.length_drop, List.length_take]; rfl)) ?_; (with_reducible refine (node_Right.calls kj1 _ _ l0_0 _ _ l0_1 _ _ l0_2 false _ ?side1 ?side2 ?side3 ?side4 ?side5 ?side6 A12.out).mono ?_); (case side1 => repeat (first | exact (Kd.C_below HR0_0.out HB.out) | (with_reducible refine Kd.C_alloc ?_ _) | (with_reducible refine Kd.C_drewN ?_ _) | (with_reducible refine Kd.C_drew ?_))); (case side2 => exact HC0_0.out); (case side3 => repeat (first | exact (Kd.C_below HR0_1.out HB.out) | (with_reducible refine Kd.C_alloc ?_ _) | (with_reducible refine Kd.C_drewN ?_ _) | (with_reducible refine Kd.C_drew ?_))); (case side4 => exact HC0_1.out); (case side5 => repeat (first | exact (Kd.C_below HR0_2.out HB.out) | (with_reducible refine Kd.C_alloc ?_ _) | (with_reducible refine Kd.C_drewN ?_ _) | (with_reducible refine Kd.C_drew ?_))); (case side6 => exact HC0_2.out); rintro e w21 ⟨rfl, hb⟩; refine ⟨_, rfl, ?_⟩; replace BK507 := Aside0.mk (blk_below (g := gb507) (o := .cells #[.slice A0_0 l0_0.length c0_0, .slice A0_1 l0_1.length c0_1, .slice A0_2 l0_2.length c0_2] 26 (0, 0)) (B_ BK507.out) hb); replace BK508 := Aside0.mk (blk_below (g := gb508) (o := .cells #[.slice none 0 0, .slice none 0 0, .slice none 0 0] 26 (0, 0)) (B_ BK508.out) hb); replace BK509 := Aside0.mk (blk_below (g := gb509) (o := .cells #[.slice none 0 0, .slice none 0 0, .slice none 0 0] 26 (0, 0)) (B_ BK509.out) hb); replace HB := Aside0.mk (below_step (L_ HB.out) hb); (try clear hb); (try clear hb2); (try clear hk); (try clear hi)))
          go_meet
          case rel => exact ⟨_, (true), (by first | rfl | (simp; done) | (simp [*]; done)), H', ⟨by have := HJ1.out; first | omega | exact Nat.le_refl _⟩, ⟨by (with_reducible repeat (first | refine blk_drewN ?_ _ | refine blk_drew ?_ | refine blk_alloc ?_ _)); exact BK507.out⟩, ⟨by (with_reducible repeat (first | refine blk_drewN ?_ _ | refine blk_drew ?_ | refine blk_alloc ?_ _)); exact BK508.out⟩, ⟨by (with_reducible repeat (first | refine blk_drewN ?_ _ | refine blk_drew ?_ | refine blk_alloc ?_ _)); exact BK509.out⟩, ⟨by repeat (first | (with_reducible first | exact HB.out | apply below_alloc | apply pw_below_drewN | apply below_drew1 | refine below_set ?_ GE507.out | refine below_set ?_ GE508.out | refine below_set ?_ GE509.out) | exact HB.out)⟩⟩
      case rest =>
        clear HC11
        try clear c1
        try clear c2
        try clear p2
        try clear p6
        try clear c7
        try clear c8
        try clear c10
        try clear c10b0
        try clear c10b1
        try clear c13
        try clear c14
        try clear c15
        try clear c18
        try clear c19
        try clear hcz16_0
        try clear hcz16_1
        try clear hcz16_2
        try clear hcz20_0
        try clear hcz20_1
        try clear hcz20_2
        try clear hcz9_0
        try clear hcz9_1
        try clear hcz9_2
        try clear hfz16_0
        try clear hfz16_1
        try clear hfz16_2
        try clear hfz20_0
        try clear hfz20_1
        try clear hfz20_2
        try clear hfz9_0
        try clear hfz9_1
        try clear hfz9_2
        try clear p2
        try clear p6
        obtain ⟨kq, x30_10, rfl, HA, HJ10, BK507, BK508, BK509, HB⟩ := hcut
        cases kq with
        | zero => exact absurd HA.out (by simp [node_Split.j1])
        | succ kj10 =>
          have H := HA.out
          clear HA
          simp only [node_Split.j1] at H
          by_cases c22 : x30_10 = true
          · subst c22
            have H1 : (some (([] : List (S39)), ([] : List ByteArray), ([] : List Int), (⟨#[]⟩ : ByteArray), ([] : List (S39)), ([] : List ByteArray), ([] : List Int), 60)) = some (r1, r2, r3, r4, r5, r6, r7, r8) := by rw [if_pos rfl] at H; exact H
            clear H
            have H := H1
            clear H1
            simp only [Option.some.injEq, Prod.mk.injEq] at H
            obtain ⟨rfl, rfl, rfl, rfl, rfl, rfl, rfl, rfl⟩ := H
            have hnb23 := NB508_507.out
            have hnc23 := NB507_508.out
            have hnb24 := NB508_509.out
            have hnc24 := NB509_508.out
            have hcz25_0 : wc.cell? ⟨gb508, 0, none⟩ = some (.slice none 0 0) := (blk_cell BK508.out 0).trans rfl
            have hcz25_1 : wc.cell? ⟨gb508, 1, none⟩ = some (.slice none 0 0) := (blk_cell BK508.out 1).trans rfl
            have hcz25_2 : wc.cell? ⟨gb508, 2, none⟩ = some (.slice none 0 0) := (blk_cell BK508.out 2).trans rfl
            have hfz25_0 := blk_frozen BK508.out 0
            have hfz25_1 := blk_frozen BK508.out 1
            have hfz25_2 := blk_frozen BK508.out 2
            have hnb26 := NB509_507.out
            have hnc26 := NB507_509.out
            have hcz27_0 : wc.cell? ⟨gb509, 0, none⟩ = some (.slice none 0 0) := (blk_cell BK509.out 0).trans rfl
            have hcz27_1 : wc.cell? ⟨gb509, 1, none⟩ = some (.slice none 0 0) := (blk_cell BK509.out 1).trans rfl
            have hcz27_2 : wc.cell? ⟨gb509, 2, none⟩ = some (.slice none 0 0) := (blk_cell BK509.out 2).trans rfl
            have hfz27_0 := blk_frozen BK509.out 0
            have hfz27_1 := blk_frozen BK509.out 1
            have hfz27_2 := blk_frozen BK509.out 2
            go_wp2
            refine bodyPost_ret (results_list (rs := [.cell 2 26, .tmp 3, .cell 4 26, .tmp 5]) rfl (by simp) (.cell gb508 26 #[.slice none 0 0, .slice none 0 0, .slice none 0 0] (0, 0) _ rfl (by (with_reducible repeat (first | refine blk_drewN ?_ _ | refine blk_drew ?_ | refine blk_alloc ?_ _)); refine blk_far ?_ NB508_509.out _; (with_reducible repeat (first | refine blk_drewN ?_ _ | refine blk_drew ?_ | refine blk_alloc ?_ _)); refine blk_far ?_ NB508_509.out _; (with_reducible repeat (first | refine blk_drewN ?_ _ | refine blk_drew ?_ | refine blk_alloc ?_ _)); refine blk_far ?_ NB508_509.out _; (with_reducible repeat (first | refine blk_drewN ?_ _ | refine blk_drew ?_ | refine blk_alloc ?_ _)); refine blk_put (cs := #[.slice none 0 0, .slice none 0 0, .slice none 0 0]) ?_ 2 _ rfl; (with_reducible repeat (first | refine blk_drewN ?_ _ | refine blk_drew ?_ | refine blk_alloc ?_ _)); refine blk_put (cs := #[.slice none 0 0, .slice none 0 0, .slice none 0 0]) ?_ 1 _ rfl; (with_reducible repeat (first | refine blk_drewN ?_ _ | refine blk_drew ?_ | refine blk_alloc ?_ _)); refine blk_put (cs := #[.slice none 0 0, .slice none 0 0, .slice none 0 0]) ?_ 0 _ rfl; (with_reducible repeat (first | refine blk_drewN ?_ _ | refine blk_drew ?_ | refine blk_alloc ?_ _)); exact BK508.out) Try.underlying26 rfl (by kernel_rfl) (.tmp (.cell gb509 26 #[.slice none 0 0, .slice none 0 0, .slice none 0 0] (0, 0) _ rfl (by (with_reducible repeat (first | refine blk_drewN ?_ _ | refine blk_drew ?_ | refine blk_alloc ?_ _)); refine blk_put (cs := #[.slice none 0 0, .slice none 0 0, .slice none 0 0]) ?_ 2 _ rfl; (with_reducible repeat (first | refine blk_drewN ?_ _ | refine blk_drew ?_ | refine blk_alloc ?_ _)); refine blk_put (cs := #[.slice none 0 0, .slice none 0 0, .slice none 0 0]) ?_ 1 _ rfl; (with_reducible repeat (first | refine blk_drewN ?_ _ | refine blk_drew ?_ | refine blk_alloc ?_ _)); refine blk_put (cs := #[.slice none 0 0, .slice none 0 0, .slice none 0 0]) ?_ 0 _ rfl; (with_reducible repeat (first | refine blk_drewN ?_ _ | refine blk_drew ?_ | refine blk_alloc ?_ _)); refine blk_far ?_ NB509_508.out _; (with_reducible repeat (first | refine blk_drewN ?_ _ | refine blk_drew ?_ | refine blk_alloc ?_ _)); refine blk_far ?_ NB509_508.out _; (with_reducible repeat (first | refine blk_drewN ?_ _ | refine blk_drew ?_ | refine blk_alloc ?_ _)); refine blk_far ?_ NB509_508.out _; (with_reducible repeat (first | refine blk_drewN ?_ _ | refine blk_drew ?_ | refine blk_alloc ?_ _)); exact BK509.out) Try.underlying26 rfl (by kernel_rfl) (.tmp .nil))))) rfl ?_
            exact ⟨_, _, _, _, _, _, by first | rfl | (simp [errW_none, errW_some] <;> rfl) | (simp [errW_none, errW_some]; exact ⟨rfl, rfl, rfl⟩) | (simp [*, errW_none, errW_some] <;> rfl), by first | exact Kd.R_nil _ _ _ _ _ | exact Kd.N_nil _ _ _ _ _ | exact Kd.V_nil _ _ _ _ _ | exact Kd.Q_nil _ _ _ _ _ | exact Kd.S_nil _ _ _ _ _, by first | exact Kd.R_nil _ _ _ _ _ | exact Kd.N_nil _ _ _ _ _ | exact Kd.V_nil _ _ _ _ _ | exact Kd.Q_nil _ _ _ _ _ | exact Kd.S_nil _ _ _ _ _, by first | exact Kd.R_nil _ _ _ _ _ | exact Kd.N_nil _ _ _ _ _ | exact Kd.V_nil _ _ _ _ _ | exact Kd.Q_nil _ _ _ _ _ | exact Kd.S_nil _ _ _ _ _, by first | exact Kd.R_nil _ _ _ _ _ | exact Kd.N_nil _ _ _ _ _ | exact Kd.V_nil _ _ _ _ _ | exact Kd.Q_nil _ _ _ _ _ | exact Kd.S_nil _ _ _ _ _, by first | exact Kd.R_nil _ _ _ _ _ | exact Kd.N_nil _ _ _ _ _ | exact Kd.V_nil _ _ _ _ _ | exact Kd.Q_nil _ _ _ _ _ | exact Kd.S_nil _ _ _ _ _, by first | exact Kd.R_nil _ _ _ _ _ | exact Kd.N_nil _ _ _ _ _ | exact Kd.V_nil _ _ _ _ _ | exact Kd.Q_nil _ _ _ _ _ | exact Kd.S_nil _ _ _ _ _, by repeat (first | (with_reducible first | exact HB.out | apply below_alloc | apply pw_below_drewN | apply below_drew1 | refine below_set ?_ GE507.out | refine below_set ?_ GE508.out | refine below_set ?_ GE509.out) | exact HB.out)⟩
          · replace c22 := Bool.eq_false_iff.mpr c22
            subst c22
            have H1 : ((node_cut.f l0_0 l0_1 l0_2 x6_1).bind fun bt511 => (node_Split.l0 kj10 x6_1 (wrap64 ((l0_0.length : Int) + (l0_2.length : Int))) (wrap64 (x6_1 + 1)) l0_0 l0_1 l0_2 bt511.1 bt511.2.1 bt511.2.2.1 bt511.2.2.2.1 bt511.2.2.2.2.1 bt511.2.2.2.2.2.1 bt511.2.2.2.2.2.2)) = some (r1, r2, r3, r4, r5, r6, r7, r8) := by rw [if_neg (show ¬ (false = true) by decide)] at H; exact H
            clear H
            have H := H1
            clear H1
            replace H := Option.bind_eq_some_iff.mp H
            obtain ⟨⟨t511, t514, t517, t520, t523, t526, t529⟩, A280, H⟩ := H
            replace H : (node_Split.l0 kj10 x6_1 (wrap64 ((l0_0.length : Int) + (l0_2.length : Int))) (wrap64 (x6_1 + 1)) l0_0 l0_1 l0_2 t511 t514 t517 t520 t523 t526 t529) = some (r1, r2, r3, r4, r5, r6, r7, r8) := H
            have A28 := Aside0.mk A280
            clear A280
            have H' := Aside0.mk H
            clear H
            have hnb29 := NB507_508.out
            have hnc29 := NB508_507.out
            have hnb30 := NB507_509.out
            have hnc30 := NB509_507.out
            have hcz31_0 : wc.cell? ⟨gb507, 0, none⟩ = some (.slice A0_0 l0_0.length c0_0) := (blk_cell BK507.out 0).trans rfl
            have hcz31_1 : wc.cell? ⟨gb507, 1, none⟩ = some (.slice A0_1 l0_1.length c0_1) := (blk_cell BK507.out 1).trans rfl
            have hcz31_2 : wc.cell? ⟨gb507, 2, none⟩ = some (.slice A0_2 l0_2.length c0_2) := (blk_cell BK507.out 2).trans rfl
            have hfz31_0 := blk_frozen BK507.out 0
            have hfz31_1 := blk_frozen BK507.out 1
            have hfz31_2 := blk_frozen BK507.out 2
            go_wp2_with (first | ((with_reducible refine gate_callee (f := 50) rfl ?_); refine goesL_ (some 35) rfl rfl Try.func50 (by kernel_rfl) rfl #[.agg #[.slice A0_0 l0_0.length c0_0, .slice A0_1 l0_1.length c0_1, .slice A0_2 l0_2.length c0_2], .int .i64 x6_1] rfl (by (try simp only [List.map_toArray, List.map_cons, List.map_nil]); first | done | rfl | (simp only [List.length_drop, List.length_take]; rfl)) ?_; (with_reducible refine (node_cut.calls _ _ l0_0 _ _ l0_1 _ _ l0_2 x6_1 t511 t514 t517 t520 t523 t526 t529 _ ?side1 ?side2 ?side3 ?side4 ?side5 ?side6 A28.out).mono ?_); (case side1 => repeat (first | exact (Kd.C_below HR0_0.out HB.out) | (with_reducible refine Kd.C_alloc ?_ _) | (with_reducible refine Kd.C_drewN ?_ _) | (with_reducible refine Kd.C_drew ?_))); (case side2 => exact HC0_0.out); (case side3 => repeat (first | exact (Kd.C_below HR0_1.out HB.out) | (with_reducible refine Kd.C_alloc ?_ _) | (with_reducible refine Kd.C_drewN ?_ _) | (with_reducible refine Kd.C_drew ?_))); (case side4 => exact HC0_1.out); (case side5 => repeat (first | exact (Kd.C_below HR0_2.out HB.out) | (with_reducible refine Kd.C_alloc ?_ _) | (with_reducible refine Kd.C_drewN ?_ _) | (with_reducible refine Kd.C_drew ?_))); (case side6 => exact HC0_2.out); rintro e w32 ⟨v512, v515, v518, v521, v524, v527, rfl, ho0, ho1, ho2, ho3, ho4, ho5, hb⟩; refine ⟨_, rfl, ?_⟩; have HO513 := Aside0.mk (Kd.R_lower ho0 (below_size (L_ HB.out))); have HO516 := Aside0.mk (Kd.R_lower ho1 (below_size (L_ HB.out))); have HO519 := Aside0.mk (Kd.R_lower ho2 (below_size (L_ HB.out))); have HO522 := Aside0.mk (Kd.R_lower ho3 (below_size (L_ HB.out))); have HO525 := Aside0.mk (Kd.R_lower ho4 (below_size (L_ HB.out))); have HO528 := Aside0.mk (Kd.R_lower ho5 (below_size (L_ HB.out))); replace BK507 := Aside0.mk (blk_below (g := gb507) (o := .cells #[.slice A0_0 l0_0.length c0_0, .slice A0_1 l0_1.length c0_1, .slice A0_2 l0_2.length c0_2] 26 (0, 0)) (B_ BK507.out) hb); replace BK508 := Aside0.mk (blk_below (g := gb508) (o := .cells #[.slice none 0 0, .slice none 0 0, .slice none 0 0] 26 (0, 0)) (B_ BK508.out) hb); replace BK509 := Aside0.mk (blk_below (g := gb509) (o := .cells #[.slice none 0 0, .slice none 0 0, .slice none 0 0] 26 (0, 0)) (B_ BK509.out) hb); replace HB := Aside0.mk (below_step (L_ HB.out) hb); (try clear hb); (try clear hb2); (try clear hk); (try clear hi); (try clear ho0); (try clear ho1); (try clear ho2); (try clear ho3); (try clear ho4); (try clear ho5)) | ((with_reducible refine gate_dst (N := 8) rfl ?_); refine box_event ?hg (N := 8) ?hd (cs := #[.slice none 0 0, .slice none 0 0, .slice none 0 0, .slice none 0 0, .slice none 0 0, .slice none 0 0, .string (⟨#[]⟩ : ByteArray)]) (t := 81) ?hr ?_; (case hd => rfl); (case hg => rfl); (case hr => first | (go_simp; done) | (go_simp; rfl)); intro gb530 hg w33 hbox hb; have BK530 := Aside0.mk (hbox); have GW530 := Aside0.mk ((by rw [hg]; exact (below_size (L_ HB.out)) : w.heap.size ≤ gb530)); have GE530 := Aside0.mk ((by rw [hg]; exact (below_size (L_ HB.out)) : w.heap.size ≤ gb530)); have NB507_530 := Aside0.mk ((by rw [hg]; exact Nat.ne_of_lt (blk_lt (g := gb507) (o := .cells #[.slice A0_0 l0_0.length c0_0, .slice A0_1 l0_1.length c0_1, .slice A0_2 l0_2.length c0_2] 26 (0, 0)) (B_ BK507.out)) : gb507 ≠ gb530)); have NB530_507 := Aside0.mk ((by rw [hg]; exact Nat.ne_of_gt (blk_lt (g := gb507) (o := .cells #[.slice A0_0 l0_0.length c0_0, .slice A0_1 l0_1.length c0_1, .slice A0_2 l0_2.length c0_2] 26 (0, 0)) (B_ BK507.out)) : gb530 ≠ gb507)); have NB508_530 := Aside0.mk ((by rw [hg]; exact Nat.ne_of_lt (blk_lt (g := gb508) (o := .cells #[.slice none 0 0, .slice none 0 0, .slice none 0 0] 26 (0, 0)) (B_ BK508.out)) : gb508 ≠ gb530)); have NB530_508 := Aside0.mk ((by rw [hg]; exact Nat.ne_of_gt (blk_lt (g := gb508) (o := .cells #[.slice none 0 0, .slice none 0 0, .slice none 0 0] 26 (0, 0)) (B_ BK508.out)) : gb530 ≠ gb508)); have NB509_530 := Aside0.mk ((by rw [hg]; exact Nat.ne_of_lt (blk_lt (g := gb509) (o := .cells #[.slice none 0 0, .slice none 0 0, .slice none 0 0] 26 (0, 0)) (B_ BK509.out)) : gb509 ≠ gb530)); have NB530_509 := Aside0.mk ((by rw [hg]; exact Nat.ne_of_gt (blk_lt (g := gb509) (o := .cells #[.slice none 0 0, .slice none 0 0, .slice none 0 0] 26 (0, 0)) (B_ BK509.out)) : gb530 ≠ gb509)); replace HO513 := Aside0.mk (Kd.R_below (R_ HO513.out) hb); replace HO516 := Aside0.mk (Kd.R_below (R_ HO516.out) hb); replace HO519 := Aside0.mk (Kd.R_below (R_ HO519.out) hb); replace HO522 := Aside0.mk (Kd.R_below (R_ HO522.out) hb); replace HO525 := Aside0.mk (Kd.R_below (R_ HO525.out) hb); replace HO528 := Aside0.mk (Kd.R_below (R_ HO528.out) hb); replace BK507 := Aside0.mk (blk_below (g := gb507) (o := .cells #[.slice A0_0 l0_0.length c0_0, .slice A0_1 l0_1.length c0_1, .slice A0_2 l0_2.length c0_2] 26 (0, 0)) (B_ BK507.out) hb); replace BK508 := Aside0.mk (blk_below (g := gb508) (o := .cells #[.slice none 0 0, .slice none 0 0, .slice none 0 0] 26 (0, 0)) (B_ BK508.out) hb); replace BK509 := Aside0.mk (blk_below (g := gb509) (o := .cells #[.slice none 0 0, .slice none 0 0, .slice none 0 0] 26 (0, 0)) (B_ BK509.out) hb); replace HB := Aside0.mk (below_step (L_ HB.out) hb); clear hb hbox hg; obtain ⟨Ao34, co34, eo34⟩ := Kd.R_slice HO513.out; subst eo34; have hnb35 := NB530_507.out; have hnc35 := NB507_530.out; have hnb36 := NB530_508.out; have hnc36 := NB508_530.out; have hnb37 := NB530_509.out; have hnc37 := NB509_530.out; have hcz38_0 : w33.cell? ⟨gb530, 0, none⟩ = some (.slice none 0 0) := (blk_cell BK530.out 0).trans rfl; have hcz38_1 : w33.cell? ⟨gb530, 1, none⟩ = some (.slice none 0 0) := (blk_cell BK530.out 1).trans rfl; have hcz38_2 : w33.cell? ⟨gb530, 2, none⟩ = some (.slice none 0 0) := (blk_cell BK530.out 2).trans rfl; have hcz38_3 : w33.cell? ⟨gb530, 3, none⟩ = some (.slice none 0 0) := (blk_cell BK530.out 3).trans rfl; have hcz38_4 : w33.cell? ⟨gb530, 4, none⟩ = some (.slice none 0 0) := (blk_cell BK530.out 4).trans rfl; have hcz38_5 : w33.cell? ⟨gb530, 5, none⟩ = some (.slice none 0 0) := (blk_cell BK530.out 5).trans rfl; have hcz38_6 : w33.cell? ⟨gb530, 6, none⟩ = some (.string (⟨#[]⟩ : ByteArray)) := (blk_cell BK530.out 6).trans rfl; have hfz38_0 := blk_frozen BK530.out 0; have hfz38_1 := blk_frozen BK530.out 1; have hfz38_2 := blk_frozen BK530.out 2; have hfz38_3 := blk_frozen BK530.out 3; have hfz38_4 := blk_frozen BK530.out 4; have hfz38_5 := blk_frozen BK530.out 5; have hfz38_6 := blk_frozen BK530.out 6; obtain ⟨Ao39, co39, eo39⟩ := Kd.R_slice HO516.out; subst eo39; obtain ⟨Ao40, co40, eo40⟩ := Kd.R_slice HO519.out; subst eo40; obtain ⟨Ao41, co41, eo41⟩ := Kd.R_slice HO522.out; subst eo41; obtain ⟨Ao42, co42, eo42⟩ := Kd.R_slice HO525.out; subst eo42; obtain ⟨Ao43, co43, eo43⟩ := Kd.R_slice HO528.out; subst eo43))
            go_loopg [9] kj10 (fun kq v9 w' => ∃ (x9_3 : Int) (x531000_3 : List (S39)) (x531001_3 : List ByteArray) (x531002_3 : List Int) (x531003_3 : List (S39)) (x531004_3 : List ByteArray) (x531005_3 : List Int) (x531006_3 : ByteArray) (u531000 : Value) (u531001 : Value) (u531002 : Value) (u531003 : Value) (u531004 : Value) (u531005 : Value), v9 = .int .i64 x9_3 ∧ Aside0 (node_Split.l0 kq x6_1 (wrap64 ((l0_0.length : Int) + (l0_2.length : Int))) x9_3 l0_0 l0_1 l0_2 x531000_3 x531001_3 x531002_3 x531003_3 x531004_3 x531005_3 x531006_3 = some (r1, r2, r3, r4, r5, r6, r7, r8)) ∧ Aside0 (kq ≤ kj10) ∧ Aside0 (Kd.R k39 39 w' w.heap.size (fun k_ => some k_ ≠ (u531003 : Value).ownBlock) u531000 x531000_3) ∧ Aside0 (Kd.R Kd.string 9 w' w.heap.size (fun k_ => some k_ ≠ (u531004 : Value).ownBlock) u531001 x531001_3) ∧ Aside0 (Kd.R (Kd.int .u32) 65 w' w.heap.size (fun k_ => some k_ ≠ (u531005 : Value).ownBlock) u531002 x531002_3) ∧ Aside0 (Kd.R k39 39 w' w.heap.size (fun k_ => some k_ ≠ (u531000 : Value).ownBlock) u531003 x531003_3) ∧ Aside0 (Kd.R Kd.string 9 w' w.heap.size (fun k_ => some k_ ≠ (u531001 : Value).ownBlock) u531004 x531004_3) ∧ Aside0 (Kd.R (Kd.int .u32) 65 w' w.heap.size (fun k_ => some k_ ≠ (u531002 : Value).ownBlock) u531005 x531005_3) ∧ Aside0 (w'.heap[gb507]? = some (.cells #[(.slice A0_0 l0_0.length c0_0), (.slice A0_1 l0_1.length c0_1), (.slice A0_2 l0_2.length c0_2)] 26 (0, 0))) ∧ Aside0 (w'.heap[gb508]? = some (.cells #[(.slice none 0 0), (.slice none 0 0), (.slice none 0 0)] 26 (0, 0))) ∧ Aside0 (w'.heap[gb509]? = some (.cells #[(.slice none 0 0), (.slice none 0 0), (.slice none 0 0)] 26 (0, 0))) ∧ Aside0 (w'.heap[gb530]? = some (.cells #[u531000, u531001, u531002, u531003, u531004, u531005, .string x531006_3] 81 (0, 0))) ∧ Aside0 (Below w.heap.size w w'))
            case atStart => exact ⟨(wrap64 (x6_1 + 1)), (t511), (t514), (t517), (t520), (t523), (t526), (t529), (.slice Ao34 t511.length co34), (.slice Ao39 t514.length co39), (.slice Ao40 t517.length co40), (.slice Ao41 t520.length co41), (.slice Ao42 t523.length co42), (.slice Ao43 t526.length co43), (by first | rfl | (simp; done) | (simp [*]; done)), H', ⟨Nat.le_refl _⟩, ⟨by (with_reducible repeat (first | apply Kd.R_alloc | apply Kd.R_drewN | apply Kd.R_drew)); exact Kd.R_mono (Kd.R_far (p := ⟨gb530, 6, none⟩) (Kd.R_far (p := ⟨gb530, 5, none⟩) (Kd.R_far (p := ⟨gb530, 4, none⟩) (Kd.R_far (p := ⟨gb530, 3, none⟩) (Kd.R_far (p := ⟨gb530, 2, none⟩) (Kd.R_far (p := ⟨gb530, 1, none⟩) (Kd.R_far (p := ⟨gb530, 0, none⟩) (Kd.R_types HO513.out BK530.out (by decide)) (fun _ hk => hk.2) (.slice Ao34 t511.length co34)) (fun _ hk => hk.2) (.slice Ao39 t514.length co39)) (fun _ hk => hk.2) (.slice Ao40 t517.length co40)) (fun _ hk => hk.2) (.slice Ao41 t520.length co41)) (fun _ hk => hk.2) (.slice Ao42 t523.length co42)) (fun _ hk => hk.2) (.slice Ao43 t526.length co43)) (fun _ hk => hk.2) (.string t529)) (fun _ hk => hk.1)⟩, ⟨by (with_reducible repeat (first | apply Kd.R_alloc | apply Kd.R_drewN | apply Kd.R_drew)); exact Kd.R_mono (Kd.R_far (p := ⟨gb530, 6, none⟩) (Kd.R_far (p := ⟨gb530, 5, none⟩) (Kd.R_far (p := ⟨gb530, 4, none⟩) (Kd.R_far (p := ⟨gb530, 3, none⟩) (Kd.R_far (p := ⟨gb530, 2, none⟩) (Kd.R_far (p := ⟨gb530, 1, none⟩) (Kd.R_far (p := ⟨gb530, 0, none⟩) (Kd.R_types HO516.out BK530.out (by decide)) (fun _ hk => hk.2) (.slice Ao34 t511.length co34)) (fun _ hk => hk.2) (.slice Ao39 t514.length co39)) (fun _ hk => hk.2) (.slice Ao40 t517.length co40)) (fun _ hk => hk.2) (.slice Ao41 t520.length co41)) (fun _ hk => hk.2) (.slice Ao42 t523.length co42)) (fun _ hk => hk.2) (.slice Ao43 t526.length co43)) (fun _ hk => hk.2) (.string t529)) (fun _ hk => hk.1)⟩, ⟨by (with_reducible repeat (first | apply Kd.R_alloc | apply Kd.R_drewN | apply Kd.R_drew)); exact Kd.R_mono (Kd.R_far (p := ⟨gb530, 6, none⟩) (Kd.R_far (p := ⟨gb530, 5, none⟩) (Kd.R_far (p := ⟨gb530, 4, none⟩) (Kd.R_far (p := ⟨gb530, 3, none⟩) (Kd.R_far (p := ⟨gb530, 2, none⟩) (Kd.R_far (p := ⟨gb530, 1, none⟩) (Kd.R_far (p := ⟨gb530, 0, none⟩) (Kd.R_types HO519.out BK530.out (by decide)) (fun _ hk => hk.2) (.slice Ao34 t511.length co34)) (fun _ hk => hk.2) (.slice Ao39 t514.length co39)) (fun _ hk => hk.2) (.slice Ao40 t517.length co40)) (fun _ hk => hk.2) (.slice Ao41 t520.length co41)) (fun _ hk => hk.2) (.slice Ao42 t523.length co42)) (fun _ hk => hk.2) (.slice Ao43 t526.length co43)) (fun _ hk => hk.2) (.string t529)) (fun _ hk => hk.1)⟩, ⟨by (with_reducible repeat (first | apply Kd.R_alloc | apply Kd.R_drewN | apply Kd.R_drew)); exact Kd.R_mono (Kd.R_far (p := ⟨gb530, 6, none⟩) (Kd.R_far (p := ⟨gb530, 5, none⟩) (Kd.R_far (p := ⟨gb530, 4, none⟩) (Kd.R_far (p := ⟨gb530, 3, none⟩) (Kd.R_far (p := ⟨gb530, 2, none⟩) (Kd.R_far (p := ⟨gb530, 1, none⟩) (Kd.R_far (p := ⟨gb530, 0, none⟩) (Kd.R_types HO522.out BK530.out (by decide)) (fun _ hk => hk.2) (.slice Ao34 t511.length co34)) (fun _ hk => hk.2) (.slice Ao39 t514.length co39)) (fun _ hk => hk.2) (.slice Ao40 t517.length co40)) (fun _ hk => hk.2) (.slice Ao41 t520.length co41)) (fun _ hk => hk.2) (.slice Ao42 t523.length co42)) (fun _ hk => hk.2) (.slice Ao43 t526.length co43)) (fun _ hk => hk.2) (.string t529)) (fun _ hk => hk.1)⟩, ⟨by (with_reducible repeat (first | apply Kd.R_alloc | apply Kd.R_drewN | apply Kd.R_drew)); exact Kd.R_mono (Kd.R_far (p := ⟨gb530, 6, none⟩) (Kd.R_far (p := ⟨gb530, 5, none⟩) (Kd.R_far (p := ⟨gb530, 4, none⟩) (Kd.R_far (p := ⟨gb530, 3, none⟩) (Kd.R_far (p := ⟨gb530, 2, none⟩) (Kd.R_far (p := ⟨gb530, 1, none⟩) (Kd.R_far (p := ⟨gb530, 0, none⟩) (Kd.R_types HO525.out BK530.out (by decide)) (fun _ hk => hk.2) (.slice Ao34 t511.length co34)) (fun _ hk => hk.2) (.slice Ao39 t514.length co39)) (fun _ hk => hk.2) (.slice Ao40 t517.length co40)) (fun _ hk => hk.2) (.slice Ao41 t520.length co41)) (fun _ hk => hk.2) (.slice Ao42 t523.length co42)) (fun _ hk => hk.2) (.slice Ao43 t526.length co43)) (fun _ hk => hk.2) (.string t529)) (fun _ hk => hk.1)⟩, ⟨by (with_reducible repeat (first | apply Kd.R_alloc | apply Kd.R_drewN | apply Kd.R_drew)); exact Kd.R_mono (Kd.R_far (p := ⟨gb530, 6, none⟩) (Kd.R_far (p := ⟨gb530, 5, none⟩) (Kd.R_far (p := ⟨gb530, 4, none⟩) (Kd.R_far (p := ⟨gb530, 3, none⟩) (Kd.R_far (p := ⟨gb530, 2, none⟩) (Kd.R_far (p := ⟨gb530, 1, none⟩) (Kd.R_far (p := ⟨gb530, 0, none⟩) (Kd.R_types HO528.out BK530.out (by decide)) (fun _ hk => hk.2) (.slice Ao34 t511.length co34)) (fun _ hk => hk.2) (.slice Ao39 t514.length co39)) (fun _ hk => hk.2) (.slice Ao40 t517.length co40)) (fun _ hk => hk.2) (.slice Ao41 t520.length co41)) (fun _ hk => hk.2) (.slice Ao42 t523.length co42)) (fun _ hk => hk.2) (.slice Ao43 t526.length co43)) (fun _ hk => hk.2) (.string t529)) (fun _ hk => hk.1)⟩, ⟨by (with_reducible repeat (first | refine blk_drewN ?_ _ | refine blk_drew ?_ | refine blk_alloc ?_ _)); refine blk_far ?_ NB507_530.out _; (with_reducible repeat (first | refine blk_drewN ?_ _ | refine blk_drew ?_ | refine blk_alloc ?_ _)); refine blk_far ?_ NB507_530.out _; (with_reducible repeat (first | refine blk_drewN ?_ _ | refine blk_drew ?_ | refine blk_alloc ?_ _)); refine blk_far ?_ NB507_530.out _; (with_reducible repeat (first | refine blk_drewN ?_ _ | refine blk_drew ?_ | refine blk_alloc ?_ _)); refine blk_far ?_ NB507_530.out _; (with_reducible repeat (first | refine blk_drewN ?_ _ | refine blk_drew ?_ | refine blk_alloc ?_ _)); refine blk_far ?_ NB507_530.out _; (with_reducible repeat (first | refine blk_drewN ?_ _ | refine blk_drew ?_ | refine blk_alloc ?_ _)); refine blk_far ?_ NB507_530.out _; (with_reducible repeat (first | refine blk_drewN ?_ _ | refine blk_drew ?_ | refine blk_alloc ?_ _)); refine blk_far ?_ NB507_530.out _; (with_reducible repeat (first | refine blk_drewN ?_ _ | refine blk_drew ?_ | refine blk_alloc ?_ _)); exact BK507.out⟩, ⟨by (with_reducible repeat (first | refine blk_drewN ?_ _ | refine blk_drew ?_ | refine blk_alloc ?_ _)); refine blk_far ?_ NB508_530.out _; (with_reducible repeat (first | refine blk_drewN ?_ _ | refine blk_drew ?_ | refine blk_alloc ?_ _)); refine blk_far ?_ NB508_530.out _; (with_reducible repeat (first | refine blk_drewN ?_ _ | refine blk_drew ?_ | refine blk_alloc ?_ _)); refine blk_far ?_ NB508_530.out _; (with_reducible repeat (first | refine blk_drewN ?_ _ | refine blk_drew ?_ | refine blk_alloc ?_ _)); refine blk_far ?_ NB508_530.out _; (with_reducible repeat (first | refine blk_drewN ?_ _ | refine blk_drew ?_ | refine blk_alloc ?_ _)); refine blk_far ?_ NB508_530.out _; (with_reducible repeat (first | refine blk_drewN ?_ _ | refine blk_drew ?_ | refine blk_alloc ?_ _)); refine blk_far ?_ NB508_530.out _; (with_reducible repeat (first | refine blk_drewN ?_ _ | refine blk_drew ?_ | refine blk_alloc ?_ _)); refine blk_far ?_ NB508_530.out _; (with_reducible repeat (first | refine blk_drewN ?_ _ | refine blk_drew ?_ | refine blk_alloc ?_ _)); exact BK508.out⟩, ⟨by (with_reducible repeat (first | refine blk_drewN ?_ _ | refine blk_drew ?_ | refine blk_alloc ?_ _)); refine blk_far ?_ NB509_530.out _; (with_reducible repeat (first | refine blk_drewN ?_ _ | refine blk_drew ?_ | refine blk_alloc ?_ _)); refine blk_far ?_ NB509_530.out _; (with_reducible repeat (first | refine blk_drewN ?_ _ | refine blk_drew ?_ | refine blk_alloc ?_ _)); refine blk_far ?_ NB509_530.out _; (with_reducible repeat (first | refine blk_drewN ?_ _ | refine blk_drew ?_ | refine blk_alloc ?_ _)); refine blk_far ?_ NB509_530.out _; (with_reducible repeat (first | refine blk_drewN ?_ _ | refine blk_drew ?_ | refine blk_alloc ?_ _)); refine blk_far ?_ NB509_530.out _; (with_reducible repeat (first | refine blk_drewN ?_ _ | refine blk_drew ?_ | refine blk_alloc ?_ _)); refine blk_far ?_ NB509_530.out _; (with_reducible repeat (first | refine blk_drewN ?_ _ | refine blk_drew ?_ | refine blk_alloc ?_ _)); refine blk_far ?_ NB509_530.out _; (with_reducible repeat (first | refine blk_drewN ?_ _ | refine blk_drew ?_ | refine blk_alloc ?_ _)); exact BK509.out⟩, ⟨by (with_reducible repeat (first | refine blk_drewN ?_ _ | refine blk_drew ?_ | refine blk_alloc ?_ _)); refine blk_put (cs := #[.slice Ao34 t511.length co34, .slice Ao39 t514.length co39, .slice Ao40 t517.length co40, .slice Ao41 t520.length co41, .slice Ao42 t523.length co42, .slice Ao43 t526.length co43, .string (⟨#[]⟩ : ByteArray)]) ?_ 6 _ rfl; (with_reducible repeat (first | refine blk_drewN ?_ _ | refine blk_drew ?_ | refine blk_alloc ?_ _)); refine blk_put (cs := #[.slice Ao34 t511.length co34, .slice Ao39 t514.length co39, .slice Ao40 t517.length co40, .slice Ao41 t520.length co41, .slice Ao42 t523.length co42, .slice none 0 0, .string (⟨#[]⟩ : ByteArray)]) ?_ 5 _ rfl; (with_reducible repeat (first | refine blk_drewN ?_ _ | refine blk_drew ?_ | refine blk_alloc ?_ _)); refine blk_put (cs := #[.slice Ao34 t511.length co34, .slice Ao39 t514.length co39, .slice Ao40 t517.length co40, .slice Ao41 t520.length co41, .slice none 0 0, .slice none 0 0, .string (⟨#[]⟩ : ByteArray)]) ?_ 4 _ rfl; (with_reducible repeat (first | refine blk_drewN ?_ _ | refine blk_drew ?_ | refine blk_alloc ?_ _)); refine blk_put (cs := #[.slice Ao34 t511.length co34, .slice Ao39 t514.length co39, .slice Ao40 t517.length co40, .slice none 0 0, .slice none 0 0, .slice none 0 0, .string (⟨#[]⟩ : ByteArray)]) ?_ 3 _ rfl; (with_reducible repeat (first | refine blk_drewN ?_ _ | refine blk_drew ?_ | refine blk_alloc ?_ _)); refine blk_put (cs := #[.slice Ao34 t511.length co34, .slice Ao39 t514.length co39, .slice none 0 0, .slice none 0 0, .slice none 0 0, .slice none 0 0, .string (⟨#[]⟩ : ByteArray)]) ?_ 2 _ rfl; (with_reducible repeat (first | refine blk_drewN ?_ _ | refine blk_drew ?_ | refine blk_alloc ?_ _)); refine blk_put (cs := #[.slice Ao34 t511.length co34, .slice none 0 0, .slice none 0 0, .slice none 0 0, .slice none 0 0, .slice none 0 0, .string (⟨#[]⟩ : ByteArray)]) ?_ 1 _ rfl; (with_reducible repeat (first | refine blk_drewN ?_ _ | refine blk_drew ?_ | refine blk_alloc ?_ _)); refine blk_put (cs := #[.slice none 0 0, .slice none 0 0, .slice none 0 0, .slice none 0 0, .slice none 0 0, .slice none 0 0, .string (⟨#[]⟩ : ByteArray)]) ?_ 0 _ rfl; (with_reducible repeat (first | refine blk_drewN ?_ _ | refine blk_drew ?_ | refine blk_alloc ?_ _)); exact BK530.out⟩, ⟨by repeat (first | (with_reducible first | exact HB.out | apply below_alloc | apply pw_below_drewN | apply below_drew1 | refine below_set ?_ GE507.out | refine below_set ?_ GE508.out | refine below_set ?_ GE509.out | refine below_set ?_ GE530.out) | exact HB.out)⟩⟩
            case round =>
              clear H'
              try clear c1
              try clear c2
              try clear p2
              try clear c3
              try clear c5
              try clear p6
              try clear c7
              try clear c8
              try clear c10
              try clear c10b0
              try clear c10b1
              try clear c13
              try clear c14
              try clear c15
              try clear c18
              try clear c19
              try clear c22
              try clear c23
              try clear c24
              try clear c26
              try clear c27
              try clear c29
              try clear c30
              try clear c35
              try clear c36
              try clear c37
              try clear hcz16_0
              try clear hcz16_1
              try clear hcz16_2
              try clear hcz20_0
              try clear hcz20_1
              try clear hcz20_2
              try clear hcz25_0
              try clear hcz25_1
              try clear hcz25_2
              try clear hcz27_0
              try clear hcz27_1
              try clear hcz27_2
              try clear hcz31_0
              try clear hcz31_1
              try clear hcz31_2
              try clear hcz38_0
              try clear hcz38_1
              try clear hcz38_2
              try clear hcz38_3
              try clear hcz38_4
              try clear hcz38_5
              try clear hcz38_6
              try clear hcz9_0
              try clear hcz9_1
              try clear hcz9_2
              try clear hfz16_0
              try clear hfz16_1
              try clear hfz16_2
              try clear hfz20_0
              try clear hfz20_1
              try clear hfz20_2
              try clear hfz25_0
              try clear hfz25_1
              try clear hfz25_2
              try clear hfz27_0
              try clear hfz27_1
              try clear hfz27_2
              try clear hfz31_0
              try clear hfz31_1
              try clear hfz31_2
              try clear hfz38_0
              try clear hfz38_1
              try clear hfz38_2
              try clear hfz38_3
              try clear hfz38_4
              try clear hfz38_5
              try clear hfz38_6
              try clear hfz9_0
              try clear hfz9_1
              try clear hfz9_2
              try clear p2
              try clear p6
              obtain ⟨x9_3, x531000_3, x531001_3, x531002_3, x531003_3, x531004_3, x531005_3, x531006_3, u531000, u531001, u531002, u531003, u531004, u531005, rfl, HA, HK3, HO_531000, HO_531001, HO_531002, HO_531003, HO_531004, HO_531005, BK507, BK508, BK509, BK530, HB⟩ := hrel
              cases gk with
              | zero => exact absurd HA.out (by simp [node_Split.l0])
              | succ k3 =>
                have H := HA.out
                clear HA
                simp only [node_Split.l0] at H
                by_cases c44 : x9_3 ≤ (wrap64 ((wrap64 ((l0_0.length : Int) + (l0_2.length : Int))) - x6_1))
                · rw [if_pos c44] at H
                  have c44b0 : decide (x9_3 ≤ (wrap64 ((wrap64 ((l0_0.length : Int) + (l0_2.length : Int))) - x6_1))) = true := decide_eq_true c44
                  clear c44
                  replace H := Option.bind_eq_some_iff.mp H
                  obtain ⟨⟨t531, t534, t537, t540, t543, t546, t549⟩, A450, H⟩ := H
                  replace H : ((node_halves_most.f t531 t534 t537 t540 t543 t546 t549).bind fun t551 => ((node_halves_most.f x531000_3 x531001_3 x531002_3 x531003_3 x531004_3 x531005_3 x531006_3).bind fun t552 => (if t551 < t552 then (node_Split.l0 k3 x6_1 (wrap64 ((l0_0.length : Int) + (l0_2.length : Int))) (wrap64 (x9_3 + 1)) l0_0 l0_1 l0_2 t531 t534 t537 t540 t543 t546 t549) else (node_Split.l0 k3 x6_1 (wrap64 ((l0_0.length : Int) + (l0_2.length : Int))) (wrap64 (x9_3 + 1)) l0_0 l0_1 l0_2 x531000_3 x531001_3 x531002_3 x531003_3 x531004_3 x531005_3 x531006_3)))) = some (r1, r2, r3, r4, r5, r6, r7, r8) := H
                  have A45 := Aside0.mk A450
                  clear A450
                  replace H := Option.bind_eq_some_iff.mp H
                  obtain ⟨t551, A460, H⟩ := H
                  replace H : ((node_halves_most.f x531000_3 x531001_3 x531002_3 x531003_3 x531004_3 x531005_3 x531006_3).bind fun t552 => (if t551 < t552 then (node_Split.l0 k3 x6_1 (wrap64 ((l0_0.length : Int) + (l0_2.length : Int))) (wrap64 (x9_3 + 1)) l0_0 l0_1 l0_2 t531 t534 t537 t540 t543 t546 t549) else (node_Split.l0 k3 x6_1 (wrap64 ((l0_0.length : Int) + (l0_2.length : Int))) (wrap64 (x9_3 + 1)) l0_0 l0_1 l0_2 x531000_3 x531001_3 x531002_3 x531003_3 x531004_3 x531005_3 x531006_3))) = some (r1, r2, r3, r4, r5, r6, r7, r8) := H
                  have A46 := Aside0.mk A460
                  clear A460
                  replace H := Option.bind_eq_some_iff.mp H
                  obtain ⟨t552, A470, H⟩ := H
                  replace H : (if t551 < t552 then (node_Split.l0 k3 x6_1 (wrap64 ((l0_0.length : Int) + (l0_2.length : Int))) (wrap64 (x9_3 + 1)) l0_0 l0_1 l0_2 t531 t534 t537 t540 t543 t546 t549) else (node_Split.l0 k3 x6_1 (wrap64 ((l0_0.length : Int) + (l0_2.length : Int))) (wrap64 (x9_3 + 1)) l0_0 l0_1 l0_2 x531000_3 x531001_3 x531002_3 x531003_3 x531004_3 x531005_3 x531006_3)) = some (r1, r2, r3, r4, r5, r6, r7, r8) := H
                  have A47 := Aside0.mk A470
                  clear A470
                  by_cases c48 : t551 < t552
                  · rw [if_pos c48] at H
                    have c48b0 : decide (t551 < t552) = true := decide_eq_true c48
                    clear c48
                    have H' := Aside0.mk H
                    clear H
                    have hnb49 := NB507_508.out
                    have hnc49 := NB508_507.out
                    have hnb50 := NB507_509.out
                    have hnc50 := NB509_507.out
                    have hnb51 := NB507_530.out
                    have hnc51 := NB530_507.out
                    have hcz52_0 : wr.cell? ⟨gb507, 0, none⟩ = some (.slice A0_0 l0_0.length c0_0) := (blk_cell BK507.out 0).trans rfl
                    have hcz52_1 : wr.cell? ⟨gb507, 1, none⟩ = some (.slice A0_1 l0_1.length c0_1) := (blk_cell BK507.out 1).trans rfl
                    have hcz52_2 : wr.cell? ⟨gb507, 2, none⟩ = some (.slice A0_2 l0_2.length c0_2) := (blk_cell BK507.out 2).trans rfl
                    have hfz52_0 := blk_frozen BK507.out 0
                    have hfz52_1 := blk_frozen BK507.out 1
                    have hfz52_2 := blk_frozen BK507.out 2
                    try go_wp2_with (first | ((with_reducible refine gate_callee (f := 50) rfl ?_); refine goesL_ (some 47) rfl rfl Try.func50 (by kernel_rfl) rfl #[.agg #[.slice A0_0 l0_0.length c0_0, .slice A0_1 l0_1.length c0_1, .slice A0_2 l0_2.length c0_2], .int .i64 x9_3] rfl (by (try simp only [List.map_toArray, List.map_cons, List.map_nil]); first | done | rfl | (simp only [List.length_drop, List.length_take]; rfl)) ?_; (with_reducible refine (node_cut.calls _ _ l0_0 _ _ l0_1 _ _ l0_2 x9_3 t531 t534 t537 t540 t543 t546 t549 _ ?side1 ?side2 ?side3 ?side4 ?side5 ?side6 A45.out).mono ?_); (case side1 => repeat (first | exact (Kd.C_below HR0_0.out HB.out) | (with_reducible refine Kd.C_alloc ?_ _) | (with_reducible refine Kd.C_drewN ?_ _) | (with_reducible refine Kd.C_drew ?_))); (case side2 => exact HC0_0.out); (case side3 => repeat (first | exact (Kd.C_below HR0_1.out HB.out) | (with_reducible refine Kd.C_alloc ?_ _) | (with_reducible refine Kd.C_drewN ?_ _) | (with_reducible refine Kd.C_drew ?_))); (case side4 => exact HC0_1.out); (case side5 => repeat (first | exact (Kd.C_below HR0_2.out HB.out) | (with_reducible refine Kd.C_alloc ?_ _) | (with_reducible refine Kd.C_drewN ?_ _) | (with_reducible refine Kd.C_drew ?_))); (case side6 => exact HC0_2.out); rintro e w53 ⟨v532, v535, v538, v541, v544, v547, rfl, ho0, ho1, ho2, ho3, ho4, ho5, hb⟩; refine ⟨_, rfl, ?_⟩; have HO533 := Aside0.mk (Kd.R_lower (Kd.R_new' (Kd.R_new' ho0 (Kd.R_lt (R_ HO_531000.out))) (Kd.R_lt (R_ HO_531003.out))) (below_size (L_ HB.out))); have HO536 := Aside0.mk (Kd.R_lower (Kd.R_new' (Kd.R_new' ho1 (Kd.R_lt (R_ HO_531001.out))) (Kd.R_lt (R_ HO_531004.out))) (below_size (L_ HB.out))); have HO539 := Aside0.mk (Kd.R_lower (Kd.R_new' (Kd.R_new' ho2 (Kd.R_lt (R_ HO_531002.out))) (Kd.R_lt (R_ HO_531005.out))) (below_size (L_ HB.out))); have HO542 := Aside0.mk (Kd.R_lower (Kd.R_new' (Kd.R_new' ho3 (Kd.R_lt (R_ HO_531000.out))) (Kd.R_lt (R_ HO_531003.out))) (below_size (L_ HB.out))); have HO545 := Aside0.mk (Kd.R_lower (Kd.R_new' (Kd.R_new' ho4 (Kd.R_lt (R_ HO_531001.out))) (Kd.R_lt (R_ HO_531004.out))) (below_size (L_ HB.out))); have HO548 := Aside0.mk (Kd.R_lower (Kd.R_new' (Kd.R_new' ho5 (Kd.R_lt (R_ HO_531002.out))) (Kd.R_lt (R_ HO_531005.out))) (below_size (L_ HB.out))); replace HO_531000 := Aside0.mk (Kd.R_mono (Kd.R_told (Kd.R_told (Kd.R_old (R_ HO_531000.out) hb) (Kd.R_base ho0)) (Kd.R_base ho3)) (fun _ h_ => h_.1)); replace HO_531001 := Aside0.mk (Kd.R_mono (Kd.R_told (Kd.R_told (Kd.R_old (R_ HO_531001.out) hb) (Kd.R_base ho1)) (Kd.R_base ho4)) (fun _ h_ => h_.1)); replace HO_531002 := Aside0.mk (Kd.R_mono (Kd.R_told (Kd.R_told (Kd.R_old (R_ HO_531002.out) hb) (Kd.R_base ho2)) (Kd.R_base ho5)) (fun _ h_ => h_.1)); replace HO_531003 := Aside0.mk (Kd.R_mono (Kd.R_told (Kd.R_told (Kd.R_old (R_ HO_531003.out) hb) (Kd.R_base ho0)) (Kd.R_base ho3)) (fun _ h_ => h_.1)); replace HO_531004 := Aside0.mk (Kd.R_mono (Kd.R_told (Kd.R_told (Kd.R_old (R_ HO_531004.out) hb) (Kd.R_base ho1)) (Kd.R_base ho4)) (fun _ h_ => h_.1)); replace HO_531005 := Aside0.mk (Kd.R_mono (Kd.R_told (Kd.R_told (Kd.R_old (R_ HO_531005.out) hb) (Kd.R_base ho2)) (Kd.R_base ho5)) (fun _ h_ => h_.1)); replace BK507 := Aside0.mk (blk_below (g := gb507) (o := .cells #[.slice A0_0 l0_0.length c0_0, .slice A0_1 l0_1.length c0_1, .slice A0_2 l0_2.length c0_2] 26 (0, 0)) (B_ BK507.out) hb); replace BK508 := Aside0.mk (blk_below (g := gb508) (o := .cells #[.slice none 0 0, .slice none 0 0, .slice none 0 0] 26 (0, 0)) (B_ BK508.out) hb); replace BK509 := Aside0.mk (blk_below (g := gb509) (o := .cells #[.slice none 0 0, .slice none 0 0, .slice none 0 0] 26 (0, 0)) (B_ BK509.out) hb); replace BK530 := Aside0.mk (blk_below (g := gb530) (o := .cells #[u531000, u531001, u531002, u531003, u531004, u531005, .string x531006_3] 81 (0, 0)) (B_ BK530.out) hb); replace HB := Aside0.mk (below_step (L_ HB.out) hb); (try clear hb); (try clear hb2); (try clear hk); (try clear hi); (try clear ho0); (try clear ho1); (try clear ho2); (try clear ho3); (try clear ho4); (try clear ho5)) | ((with_reducible refine gate_dst (N := 10) rfl ?_); refine box_event ?hg (N := 10) ?hd (cs := #[.slice none 0 0, .slice none 0 0, .slice none 0 0, .slice none 0 0, .slice none 0 0, .slice none 0 0, .string (⟨#[]⟩ : ByteArray)]) (t := 81) ?hr ?_; (case hd => rfl); (case hg => rfl); (case hr => first | (go_simp; done) | (go_simp; rfl)); intro gb550 hg w54 hbox hb; have BK550 := Aside0.mk (hbox); have GW550 := Aside0.mk ((by rw [hg]; exact (below_size (L_ HB.out)) : w.heap.size ≤ gb550)); have GE550 := Aside0.mk ((by rw [hg]; exact (below_size (L_ HB.out)) : w.heap.size ≤ gb550)); have NB507_550 := Aside0.mk ((by rw [hg]; exact Nat.ne_of_lt (blk_lt (g := gb507) (o := .cells #[.slice A0_0 l0_0.length c0_0, .slice A0_1 l0_1.length c0_1, .slice A0_2 l0_2.length c0_2] 26 (0, 0)) (B_ BK507.out)) : gb507 ≠ gb550)); have NB550_507 := Aside0.mk ((by rw [hg]; exact Nat.ne_of_gt (blk_lt (g := gb507) (o := .cells #[.slice A0_0 l0_0.length c0_0, .slice A0_1 l0_1.length c0_1, .slice A0_2 l0_2.length c0_2] 26 (0, 0)) (B_ BK507.out)) : gb550 ≠ gb507)); have NB508_550 := Aside0.mk ((by rw [hg]; exact Nat.ne_of_lt (blk_lt (g := gb508) (o := .cells #[.slice none 0 0, .slice none 0 0, .slice none 0 0] 26 (0, 0)) (B_ BK508.out)) : gb508 ≠ gb550)); have NB550_508 := Aside0.mk ((by rw [hg]; exact Nat.ne_of_gt (blk_lt (g := gb508) (o := .cells #[.slice none 0 0, .slice none 0 0, .slice none 0 0] 26 (0, 0)) (B_ BK508.out)) : gb550 ≠ gb508)); have NB509_550 := Aside0.mk ((by rw [hg]; exact Nat.ne_of_lt (blk_lt (g := gb509) (o := .cells #[.slice none 0 0, .slice none 0 0, .slice none 0 0] 26 (0, 0)) (B_ BK509.out)) : gb509 ≠ gb550)); have NB550_509 := Aside0.mk ((by rw [hg]; exact Nat.ne_of_gt (blk_lt (g := gb509) (o := .cells #[.slice none 0 0, .slice none 0 0, .slice none 0 0] 26 (0, 0)) (B_ BK509.out)) : gb550 ≠ gb509)); have NB530_550 := Aside0.mk ((by rw [hg]; exact Nat.ne_of_lt (blk_lt (g := gb530) (o := .cells #[u531000, u531001, u531002, u531003, u531004, u531005, .string x531006_3] 81 (0, 0)) (B_ BK530.out)) : gb530 ≠ gb550)); have NB550_530 := Aside0.mk ((by rw [hg]; exact Nat.ne_of_gt (blk_lt (g := gb530) (o := .cells #[u531000, u531001, u531002, u531003, u531004, u531005, .string x531006_3] 81 (0, 0)) (B_ BK530.out)) : gb550 ≠ gb530)); replace HO_531000 := Aside0.mk (Kd.R_below (R_ HO_531000.out) hb); replace HO_531001 := Aside0.mk (Kd.R_below (R_ HO_531001.out) hb); replace HO_531002 := Aside0.mk (Kd.R_below (R_ HO_531002.out) hb); replace HO_531003 := Aside0.mk (Kd.R_below (R_ HO_531003.out) hb); replace HO_531004 := Aside0.mk (Kd.R_below (R_ HO_531004.out) hb); replace HO_531005 := Aside0.mk (Kd.R_below (R_ HO_531005.out) hb); replace HO533 := Aside0.mk (Kd.R_below (R_ HO533.out) hb); replace HO536 := Aside0.mk (Kd.R_below (R_ HO536.out) hb); replace HO539 := Aside0.mk (Kd.R_below (R_ HO539.out) hb); replace HO542 := Aside0.mk (Kd.R_below (R_ HO542.out) hb); replace HO545 := Aside0.mk (Kd.R_below (R_ HO545.out) hb); replace HO548 := Aside0.mk (Kd.R_below (R_ HO548.out) hb); replace BK507 := Aside0.mk (blk_below (g := gb507) (o := .cells #[.slice A0_0 l0_0.length c0_0, .slice A0_1 l0_1.length c0_1, .slice A0_2 l0_2.length c0_2] 26 (0, 0)) (B_ BK507.out) hb); replace BK508 := Aside0.mk (blk_below (g := gb508) (o := .cells #[.slice none 0 0, .slice none 0 0, .slice none 0 0] 26 (0, 0)) (B_ BK508.out) hb); replace BK509 := Aside0.mk (blk_below (g := gb509) (o := .cells #[.slice none 0 0, .slice none 0 0, .slice none 0 0] 26 (0, 0)) (B_ BK509.out) hb); replace BK530 := Aside0.mk (blk_below (g := gb530) (o := .cells #[u531000, u531001, u531002, u531003, u531004, u531005, .string x531006_3] 81 (0, 0)) (B_ BK530.out) hb); replace HB := Aside0.mk (below_step (L_ HB.out) hb); clear hb hbox hg; obtain ⟨Ao55, co55, eo55⟩ := Kd.R_slice HO533.out; subst eo55; have hnb56 := NB550_507.out; have hnc56 := NB507_550.out; have hnb57 := NB550_508.out; have hnc57 := NB508_550.out; have hnb58 := NB550_509.out; have hnc58 := NB509_550.out; have hnb59 := NB550_530.out; have hnc59 := NB530_550.out; have hcz60_0 : w54.cell? ⟨gb550, 0, none⟩ = some (.slice none 0 0) := (blk_cell BK550.out 0).trans rfl; have hcz60_1 : w54.cell? ⟨gb550, 1, none⟩ = some (.slice none 0 0) := (blk_cell BK550.out 1).trans rfl; have hcz60_2 : w54.cell? ⟨gb550, 2, none⟩ = some (.slice none 0 0) := (blk_cell BK550.out 2).trans rfl; have hcz60_3 : w54.cell? ⟨gb550, 3, none⟩ = some (.slice none 0 0) := (blk_cell BK550.out 3).trans rfl; have hcz60_4 : w54.cell? ⟨gb550, 4, none⟩ = some (.slice none 0 0) := (blk_cell BK550.out 4).trans rfl; have hcz60_5 : w54.cell? ⟨gb550, 5, none⟩ = some (.slice none 0 0) := (blk_cell BK550.out 5).trans rfl; have hcz60_6 : w54.cell? ⟨gb550, 6, none⟩ = some (.string (⟨#[]⟩ : ByteArray)) := (blk_cell BK550.out 6).trans rfl; have hfz60_0 := blk_frozen BK550.out 0; have hfz60_1 := blk_frozen BK550.out 1; have hfz60_2 := blk_frozen BK550.out 2; have hfz60_3 := blk_frozen BK550.out 3; have hfz60_4 := blk_frozen BK550.out 4; have hfz60_5 := blk_frozen BK550.out 5; have hfz60_6 := blk_frozen BK550.out 6; obtain ⟨Ao61, co61, eo61⟩ := Kd.R_slice HO536.out; subst eo61; obtain ⟨Ao62, co62, eo62⟩ := Kd.R_slice HO539.out; subst eo62; obtain ⟨Ao63, co63, eo63⟩ := Kd.R_slice HO542.out; subst eo63; obtain ⟨Ao64, co64, eo64⟩ := Kd.R_slice HO545.out; subst eo64; obtain ⟨Ao65, co65, eo65⟩ := Kd.R_slice HO548.out; subst eo65))
                    have n0_ : Aside0 (Kd.R k39 39 (((((((w54.setCell ⟨gb550, 0, none⟩ (.slice Ao55 t531.length co55)).setCell ⟨gb550, 1, none⟩ (.slice Ao61 t534.length co61)).setCell ⟨gb550, 2, none⟩ (.slice Ao62 t537.length co62)).setCell ⟨gb550, 3, none⟩ (.slice Ao63 t540.length co63)).setCell ⟨gb550, 4, none⟩ (.slice Ao64 t543.length co64)).setCell ⟨gb550, 5, none⟩ (.slice Ao65 t546.length co65)).setCell ⟨gb550, 6, none⟩ (.string t549)) w.heap.size (fun k_ => some k_ ≠ (u531003 : Value).ownBlock ∧ some k_ ≠ (.slice Ao55 t531.length co55 : Value).ownBlock ∧ some k_ ≠ (.slice Ao63 t540.length co63 : Value).ownBlock) u531000 x531000_3) := ⟨by (with_reducible repeat (first | apply Kd.R_alloc | apply Kd.R_drewN | apply Kd.R_drew)); exact Kd.R_mono (Kd.R_far (p := ⟨gb550, 6, none⟩) (Kd.R_far (p := ⟨gb550, 5, none⟩) (Kd.R_far (p := ⟨gb550, 4, none⟩) (Kd.R_far (p := ⟨gb550, 3, none⟩) (Kd.R_far (p := ⟨gb550, 2, none⟩) (Kd.R_far (p := ⟨gb550, 1, none⟩) (Kd.R_far (p := ⟨gb550, 0, none⟩) (Kd.R_types HO_531000.out BK550.out (by decide)) (fun _ hk => hk.2) (.slice Ao55 t531.length co55)) (fun _ hk => hk.2) (.slice Ao61 t534.length co61)) (fun _ hk => hk.2) (.slice Ao62 t537.length co62)) (fun _ hk => hk.2) (.slice Ao63 t540.length co63)) (fun _ hk => hk.2) (.slice Ao64 t543.length co64)) (fun _ hk => hk.2) (.slice Ao65 t546.length co65)) (fun _ hk => hk.2) (.string t549)) (fun _ hk => ⟨hk.1.1.1, ⟨hk.1.1.2, hk.1.2⟩⟩)⟩
                    have n1_ : Aside0 (Kd.R Kd.string 9 (((((((w54.setCell ⟨gb550, 0, none⟩ (.slice Ao55 t531.length co55)).setCell ⟨gb550, 1, none⟩ (.slice Ao61 t534.length co61)).setCell ⟨gb550, 2, none⟩ (.slice Ao62 t537.length co62)).setCell ⟨gb550, 3, none⟩ (.slice Ao63 t540.length co63)).setCell ⟨gb550, 4, none⟩ (.slice Ao64 t543.length co64)).setCell ⟨gb550, 5, none⟩ (.slice Ao65 t546.length co65)).setCell ⟨gb550, 6, none⟩ (.string t549)) w.heap.size (fun k_ => some k_ ≠ (u531004 : Value).ownBlock ∧ some k_ ≠ (.slice Ao61 t534.length co61 : Value).ownBlock ∧ some k_ ≠ (.slice Ao64 t543.length co64 : Value).ownBlock) u531001 x531001_3) := ⟨by (with_reducible repeat (first | apply Kd.R_alloc | apply Kd.R_drewN | apply Kd.R_drew)); exact Kd.R_mono (Kd.R_far (p := ⟨gb550, 6, none⟩) (Kd.R_far (p := ⟨gb550, 5, none⟩) (Kd.R_far (p := ⟨gb550, 4, none⟩) (Kd.R_far (p := ⟨gb550, 3, none⟩) (Kd.R_far (p := ⟨gb550, 2, none⟩) (Kd.R_far (p := ⟨gb550, 1, none⟩) (Kd.R_far (p := ⟨gb550, 0, none⟩) (Kd.R_types HO_531001.out BK550.out (by decide)) (fun _ hk => hk.2) (.slice Ao55 t531.length co55)) (fun _ hk => hk.2) (.slice Ao61 t534.length co61)) (fun _ hk => hk.2) (.slice Ao62 t537.length co62)) (fun _ hk => hk.2) (.slice Ao63 t540.length co63)) (fun _ hk => hk.2) (.slice Ao64 t543.length co64)) (fun _ hk => hk.2) (.slice Ao65 t546.length co65)) (fun _ hk => hk.2) (.string t549)) (fun _ hk => ⟨hk.1.1.1, ⟨hk.1.1.2, hk.1.2⟩⟩)⟩
                    have n2_ : Aside0 (Kd.R (Kd.int .u32) 65 (((((((w54.setCell ⟨gb550, 0, none⟩ (.slice Ao55 t531.length co55)).setCell ⟨gb550, 1, none⟩ (.slice Ao61 t534.length co61)).setCell ⟨gb550, 2, none⟩ (.slice Ao62 t537.length co62)).setCell ⟨gb550, 3, none⟩ (.slice Ao63 t540.length co63)).setCell ⟨gb550, 4, none⟩ (.slice Ao64 t543.length co64)).setCell ⟨gb550, 5, none⟩ (.slice Ao65 t546.length co65)).setCell ⟨gb550, 6, none⟩ (.string t549)) w.heap.size (fun k_ => some k_ ≠ (u531005 : Value).ownBlock ∧ some k_ ≠ (.slice Ao62 t537.length co62 : Value).ownBlock ∧ some k_ ≠ (.slice Ao65 t546.length co65 : Value).ownBlock) u531002 x531002_3) := ⟨by (with_reducible repeat (first | apply Kd.R_alloc | apply Kd.R_drewN | apply Kd.R_drew)); exact Kd.R_mono (Kd.R_far (p := ⟨gb550, 6, none⟩) (Kd.R_far (p := ⟨gb550, 5, none⟩) (Kd.R_far (p := ⟨gb550, 4, none⟩) (Kd.R_far (p := ⟨gb550, 3, none⟩) (Kd.R_far (p := ⟨gb550, 2, none⟩) (Kd.R_far (p := ⟨gb550, 1, none⟩) (Kd.R_far (p := ⟨gb550, 0, none⟩) (Kd.R_types HO_531002.out BK550.out (by decide)) (fun _ hk => hk.2) (.slice Ao55 t531.length co55)) (fun _ hk => hk.2) (.slice Ao61 t534.length co61)) (fun _ hk => hk.2) (.slice Ao62 t537.length co62)) (fun _ hk => hk.2) (.slice Ao63 t540.length co63)) (fun _ hk => hk.2) (.slice Ao64 t543.length co64)) (fun _ hk => hk.2) (.slice Ao65 t546.length co65)) (fun _ hk => hk.2) (.string t549)) (fun _ hk => ⟨hk.1.1.1, ⟨hk.1.1.2, hk.1.2⟩⟩)⟩
                    have n3_ : Aside0 (Kd.R k39 39 (((((((w54.setCell ⟨gb550, 0, none⟩ (.slice Ao55 t531.length co55)).setCell ⟨gb550, 1, none⟩ (.slice Ao61 t534.length co61)).setCell ⟨gb550, 2, none⟩ (.slice Ao62 t537.length co62)).setCell ⟨gb550, 3, none⟩ (.slice Ao63 t540.length co63)).setCell ⟨gb550, 4, none⟩ (.slice Ao64 t543.length co64)).setCell ⟨gb550, 5, none⟩ (.slice Ao65 t546.length co65)).setCell ⟨gb550, 6, none⟩ (.string t549)) w.heap.size (fun k_ => some k_ ≠ (u531000 : Value).ownBlock ∧ some k_ ≠ (.slice Ao55 t531.length co55 : Value).ownBlock ∧ some k_ ≠ (.slice Ao63 t540.length co63 : Value).ownBlock) u531003 x531003_3) := ⟨by (with_reducible repeat (first | apply Kd.R_alloc | apply Kd.R_drewN | apply Kd.R_drew)); exact Kd.R_mono (Kd.R_far (p := ⟨gb550, 6, none⟩) (Kd.R_far (p := ⟨gb550, 5, none⟩) (Kd.R_far (p := ⟨gb550, 4, none⟩) (Kd.R_far (p := ⟨gb550, 3, none⟩) (Kd.R_far (p := ⟨gb550, 2, none⟩) (Kd.R_far (p := ⟨gb550, 1, none⟩) (Kd.R_far (p := ⟨gb550, 0, none⟩) (Kd.R_types HO_531003.out BK550.out (by decide)) (fun _ hk => hk.2) (.slice Ao55 t531.length co55)) (fun _ hk => hk.2) (.slice Ao61 t534.length co61)) (fun _ hk => hk.2) (.slice Ao62 t537.length co62)) (fun _ hk => hk.2) (.slice Ao63 t540.length co63)) (fun _ hk => hk.2) (.slice Ao64 t543.length co64)) (fun _ hk => hk.2) (.slice Ao65 t546.length co65)) (fun _ hk => hk.2) (.string t549)) (fun _ hk => ⟨hk.1.1.1, ⟨hk.1.1.2, hk.1.2⟩⟩)⟩
                    have n4_ : Aside0 (Kd.R Kd.string 9 (((((((w54.setCell ⟨gb550, 0, none⟩ (.slice Ao55 t531.length co55)).setCell ⟨gb550, 1, none⟩ (.slice Ao61 t534.length co61)).setCell ⟨gb550, 2, none⟩ (.slice Ao62 t537.length co62)).setCell ⟨gb550, 3, none⟩ (.slice Ao63 t540.length co63)).setCell ⟨gb550, 4, none⟩ (.slice Ao64 t543.length co64)).setCell ⟨gb550, 5, none⟩ (.slice Ao65 t546.length co65)).setCell ⟨gb550, 6, none⟩ (.string t549)) w.heap.size (fun k_ => some k_ ≠ (u531001 : Value).ownBlock ∧ some k_ ≠ (.slice Ao61 t534.length co61 : Value).ownBlock ∧ some k_ ≠ (.slice Ao64 t543.length co64 : Value).ownBlock) u531004 x531004_3) := ⟨by (with_reducible repeat (first | apply Kd.R_alloc | apply Kd.R_drewN | apply Kd.R_drew)); exact Kd.R_mono (Kd.R_far (p := ⟨gb550, 6, none⟩) (Kd.R_far (p := ⟨gb550, 5, none⟩) (Kd.R_far (p := ⟨gb550, 4, none⟩) (Kd.R_far (p := ⟨gb550, 3, none⟩) (Kd.R_far (p := ⟨gb550, 2, none⟩) (Kd.R_far (p := ⟨gb550, 1, none⟩) (Kd.R_far (p := ⟨gb550, 0, none⟩) (Kd.R_types HO_531004.out BK550.out (by decide)) (fun _ hk => hk.2) (.slice Ao55 t531.length co55)) (fun _ hk => hk.2) (.slice Ao61 t534.length co61)) (fun _ hk => hk.2) (.slice Ao62 t537.length co62)) (fun _ hk => hk.2) (.slice Ao63 t540.length co63)) (fun _ hk => hk.2) (.slice Ao64 t543.length co64)) (fun _ hk => hk.2) (.slice Ao65 t546.length co65)) (fun _ hk => hk.2) (.string t549)) (fun _ hk => ⟨hk.1.1.1, ⟨hk.1.1.2, hk.1.2⟩⟩)⟩
                    have n5_ : Aside0 (Kd.R (Kd.int .u32) 65 (((((((w54.setCell ⟨gb550, 0, none⟩ (.slice Ao55 t531.length co55)).setCell ⟨gb550, 1, none⟩ (.slice Ao61 t534.length co61)).setCell ⟨gb550, 2, none⟩ (.slice Ao62 t537.length co62)).setCell ⟨gb550, 3, none⟩ (.slice Ao63 t540.length co63)).setCell ⟨gb550, 4, none⟩ (.slice Ao64 t543.length co64)).setCell ⟨gb550, 5, none⟩ (.slice Ao65 t546.length co65)).setCell ⟨gb550, 6, none⟩ (.string t549)) w.heap.size (fun k_ => some k_ ≠ (u531002 : Value).ownBlock ∧ some k_ ≠ (.slice Ao62 t537.length co62 : Value).ownBlock ∧ some k_ ≠ (.slice Ao65 t546.length co65 : Value).ownBlock) u531005 x531005_3) := ⟨by (with_reducible repeat (first | apply Kd.R_alloc | apply Kd.R_drewN | apply Kd.R_drew)); exact Kd.R_mono (Kd.R_far (p := ⟨gb550, 6, none⟩) (Kd.R_far (p := ⟨gb550, 5, none⟩) (Kd.R_far (p := ⟨gb550, 4, none⟩) (Kd.R_far (p := ⟨gb550, 3, none⟩) (Kd.R_far (p := ⟨gb550, 2, none⟩) (Kd.R_far (p := ⟨gb550, 1, none⟩) (Kd.R_far (p := ⟨gb550, 0, none⟩) (Kd.R_types HO_531005.out BK550.out (by decide)) (fun _ hk => hk.2) (.slice Ao55 t531.length co55)) (fun _ hk => hk.2) (.slice Ao61 t534.length co61)) (fun _ hk => hk.2) (.slice Ao62 t537.length co62)) (fun _ hk => hk.2) (.slice Ao63 t540.length co63)) (fun _ hk => hk.2) (.slice Ao64 t543.length co64)) (fun _ hk => hk.2) (.slice Ao65 t546.length co65)) (fun _ hk => hk.2) (.string t549)) (fun _ hk => ⟨hk.1.1.1, ⟨hk.1.1.2, hk.1.2⟩⟩)⟩
                    have n6_ : Aside0 (Kd.R k39 39 (((((((w54.setCell ⟨gb550, 0, none⟩ (.slice Ao55 t531.length co55)).setCell ⟨gb550, 1, none⟩ (.slice Ao61 t534.length co61)).setCell ⟨gb550, 2, none⟩ (.slice Ao62 t537.length co62)).setCell ⟨gb550, 3, none⟩ (.slice Ao63 t540.length co63)).setCell ⟨gb550, 4, none⟩ (.slice Ao64 t543.length co64)).setCell ⟨gb550, 5, none⟩ (.slice Ao65 t546.length co65)).setCell ⟨gb550, 6, none⟩ (.string t549)) w.heap.size (fun k_ => some k_ ≠ (u531000 : Value).ownBlock ∧ some k_ ≠ (u531003 : Value).ownBlock ∧ some k_ ≠ (.slice Ao63 t540.length co63 : Value).ownBlock) (.slice Ao55 t531.length co55) t531) := ⟨by (with_reducible repeat (first | apply Kd.R_alloc | apply Kd.R_drewN | apply Kd.R_drew)); exact Kd.R_mono (Kd.R_far (p := ⟨gb550, 6, none⟩) (Kd.R_far (p := ⟨gb550, 5, none⟩) (Kd.R_far (p := ⟨gb550, 4, none⟩) (Kd.R_far (p := ⟨gb550, 3, none⟩) (Kd.R_far (p := ⟨gb550, 2, none⟩) (Kd.R_far (p := ⟨gb550, 1, none⟩) (Kd.R_far (p := ⟨gb550, 0, none⟩) (Kd.R_types HO533.out BK550.out (by decide)) (fun _ hk => hk.2) (.slice Ao55 t531.length co55)) (fun _ hk => hk.2) (.slice Ao61 t534.length co61)) (fun _ hk => hk.2) (.slice Ao62 t537.length co62)) (fun _ hk => hk.2) (.slice Ao63 t540.length co63)) (fun _ hk => hk.2) (.slice Ao64 t543.length co64)) (fun _ hk => hk.2) (.slice Ao65 t546.length co65)) (fun _ hk => hk.2) (.string t549)) (fun _ hk => ⟨hk.1.1.2, ⟨hk.1.2, hk.1.1.1⟩⟩)⟩
                    have n7_ : Aside0 (Kd.R Kd.string 9 (((((((w54.setCell ⟨gb550, 0, none⟩ (.slice Ao55 t531.length co55)).setCell ⟨gb550, 1, none⟩ (.slice Ao61 t534.length co61)).setCell ⟨gb550, 2, none⟩ (.slice Ao62 t537.length co62)).setCell ⟨gb550, 3, none⟩ (.slice Ao63 t540.length co63)).setCell ⟨gb550, 4, none⟩ (.slice Ao64 t543.length co64)).setCell ⟨gb550, 5, none⟩ (.slice Ao65 t546.length co65)).setCell ⟨gb550, 6, none⟩ (.string t549)) w.heap.size (fun k_ => some k_ ≠ (u531001 : Value).ownBlock ∧ some k_ ≠ (u531004 : Value).ownBlock ∧ some k_ ≠ (.slice Ao64 t543.length co64 : Value).ownBlock) (.slice Ao61 t534.length co61) t534) := ⟨by (with_reducible repeat (first | apply Kd.R_alloc | apply Kd.R_drewN | apply Kd.R_drew)); exact Kd.R_mono (Kd.R_far (p := ⟨gb550, 6, none⟩) (Kd.R_far (p := ⟨gb550, 5, none⟩) (Kd.R_far (p := ⟨gb550, 4, none⟩) (Kd.R_far (p := ⟨gb550, 3, none⟩) (Kd.R_far (p := ⟨gb550, 2, none⟩) (Kd.R_far (p := ⟨gb550, 1, none⟩) (Kd.R_far (p := ⟨gb550, 0, none⟩) (Kd.R_types HO536.out BK550.out (by decide)) (fun _ hk => hk.2) (.slice Ao55 t531.length co55)) (fun _ hk => hk.2) (.slice Ao61 t534.length co61)) (fun _ hk => hk.2) (.slice Ao62 t537.length co62)) (fun _ hk => hk.2) (.slice Ao63 t540.length co63)) (fun _ hk => hk.2) (.slice Ao64 t543.length co64)) (fun _ hk => hk.2) (.slice Ao65 t546.length co65)) (fun _ hk => hk.2) (.string t549)) (fun _ hk => ⟨hk.1.1.2, ⟨hk.1.2, hk.1.1.1⟩⟩)⟩
                    have n8_ : Aside0 (Kd.R (Kd.int .u32) 65 (((((((w54.setCell ⟨gb550, 0, none⟩ (.slice Ao55 t531.length co55)).setCell ⟨gb550, 1, none⟩ (.slice Ao61 t534.length co61)).setCell ⟨gb550, 2, none⟩ (.slice Ao62 t537.length co62)).setCell ⟨gb550, 3, none⟩ (.slice Ao63 t540.length co63)).setCell ⟨gb550, 4, none⟩ (.slice Ao64 t543.length co64)).setCell ⟨gb550, 5, none⟩ (.slice Ao65 t546.length co65)).setCell ⟨gb550, 6, none⟩ (.string t549)) w.heap.size (fun k_ => some k_ ≠ (u531002 : Value).ownBlock ∧ some k_ ≠ (u531005 : Value).ownBlock ∧ some k_ ≠ (.slice Ao65 t546.length co65 : Value).ownBlock) (.slice Ao62 t537.length co62) t537) := ⟨by (with_reducible repeat (first | apply Kd.R_alloc | apply Kd.R_drewN | apply Kd.R_drew)); exact Kd.R_mono (Kd.R_far (p := ⟨gb550, 6, none⟩) (Kd.R_far (p := ⟨gb550, 5, none⟩) (Kd.R_far (p := ⟨gb550, 4, none⟩) (Kd.R_far (p := ⟨gb550, 3, none⟩) (Kd.R_far (p := ⟨gb550, 2, none⟩) (Kd.R_far (p := ⟨gb550, 1, none⟩) (Kd.R_far (p := ⟨gb550, 0, none⟩) (Kd.R_types HO539.out BK550.out (by decide)) (fun _ hk => hk.2) (.slice Ao55 t531.length co55)) (fun _ hk => hk.2) (.slice Ao61 t534.length co61)) (fun _ hk => hk.2) (.slice Ao62 t537.length co62)) (fun _ hk => hk.2) (.slice Ao63 t540.length co63)) (fun _ hk => hk.2) (.slice Ao64 t543.length co64)) (fun _ hk => hk.2) (.slice Ao65 t546.length co65)) (fun _ hk => hk.2) (.string t549)) (fun _ hk => ⟨hk.1.1.2, ⟨hk.1.2, hk.1.1.1⟩⟩)⟩
                    have n9_ : Aside0 (Kd.R k39 39 (((((((w54.setCell ⟨gb550, 0, none⟩ (.slice Ao55 t531.length co55)).setCell ⟨gb550, 1, none⟩ (.slice Ao61 t534.length co61)).setCell ⟨gb550, 2, none⟩ (.slice Ao62 t537.length co62)).setCell ⟨gb550, 3, none⟩ (.slice Ao63 t540.length co63)).setCell ⟨gb550, 4, none⟩ (.slice Ao64 t543.length co64)).setCell ⟨gb550, 5, none⟩ (.slice Ao65 t546.length co65)).setCell ⟨gb550, 6, none⟩ (.string t549)) w.heap.size (fun k_ => some k_ ≠ (u531000 : Value).ownBlock ∧ some k_ ≠ (u531003 : Value).ownBlock ∧ some k_ ≠ (.slice Ao55 t531.length co55 : Value).ownBlock) (.slice Ao63 t540.length co63) t540) := ⟨by (with_reducible repeat (first | apply Kd.R_alloc | apply Kd.R_drewN | apply Kd.R_drew)); exact Kd.R_mono (Kd.R_far (p := ⟨gb550, 6, none⟩) (Kd.R_far (p := ⟨gb550, 5, none⟩) (Kd.R_far (p := ⟨gb550, 4, none⟩) (Kd.R_far (p := ⟨gb550, 3, none⟩) (Kd.R_far (p := ⟨gb550, 2, none⟩) (Kd.R_far (p := ⟨gb550, 1, none⟩) (Kd.R_far (p := ⟨gb550, 0, none⟩) (Kd.R_types HO542.out BK550.out (by decide)) (fun _ hk => hk.2) (.slice Ao55 t531.length co55)) (fun _ hk => hk.2) (.slice Ao61 t534.length co61)) (fun _ hk => hk.2) (.slice Ao62 t537.length co62)) (fun _ hk => hk.2) (.slice Ao63 t540.length co63)) (fun _ hk => hk.2) (.slice Ao64 t543.length co64)) (fun _ hk => hk.2) (.slice Ao65 t546.length co65)) (fun _ hk => hk.2) (.string t549)) (fun _ hk => ⟨hk.1.1.2, ⟨hk.1.2, hk.1.1.1⟩⟩)⟩
                    have n10_ : Aside0 (Kd.R Kd.string 9 (((((((w54.setCell ⟨gb550, 0, none⟩ (.slice Ao55 t531.length co55)).setCell ⟨gb550, 1, none⟩ (.slice Ao61 t534.length co61)).setCell ⟨gb550, 2, none⟩ (.slice Ao62 t537.length co62)).setCell ⟨gb550, 3, none⟩ (.slice Ao63 t540.length co63)).setCell ⟨gb550, 4, none⟩ (.slice Ao64 t543.length co64)).setCell ⟨gb550, 5, none⟩ (.slice Ao65 t546.length co65)).setCell ⟨gb550, 6, none⟩ (.string t549)) w.heap.size (fun k_ => some k_ ≠ (u531001 : Value).ownBlock ∧ some k_ ≠ (u531004 : Value).ownBlock ∧ some k_ ≠ (.slice Ao61 t534.length co61 : Value).ownBlock) (.slice Ao64 t543.length co64) t543) := ⟨by (with_reducible repeat (first | apply Kd.R_alloc | apply Kd.R_drewN | apply Kd.R_drew)); exact Kd.R_mono (Kd.R_far (p := ⟨gb550, 6, none⟩) (Kd.R_far (p := ⟨gb550, 5, none⟩) (Kd.R_far (p := ⟨gb550, 4, none⟩) (Kd.R_far (p := ⟨gb550, 3, none⟩) (Kd.R_far (p := ⟨gb550, 2, none⟩) (Kd.R_far (p := ⟨gb550, 1, none⟩) (Kd.R_far (p := ⟨gb550, 0, none⟩) (Kd.R_types HO545.out BK550.out (by decide)) (fun _ hk => hk.2) (.slice Ao55 t531.length co55)) (fun _ hk => hk.2) (.slice Ao61 t534.length co61)) (fun _ hk => hk.2) (.slice Ao62 t537.length co62)) (fun _ hk => hk.2) (.slice Ao63 t540.length co63)) (fun _ hk => hk.2) (.slice Ao64 t543.length co64)) (fun _ hk => hk.2) (.slice Ao65 t546.length co65)) (fun _ hk => hk.2) (.string t549)) (fun _ hk => ⟨hk.1.1.2, ⟨hk.1.2, hk.1.1.1⟩⟩)⟩
                    have n11_ : Aside0 (Kd.R (Kd.int .u32) 65 (((((((w54.setCell ⟨gb550, 0, none⟩ (.slice Ao55 t531.length co55)).setCell ⟨gb550, 1, none⟩ (.slice Ao61 t534.length co61)).setCell ⟨gb550, 2, none⟩ (.slice Ao62 t537.length co62)).setCell ⟨gb550, 3, none⟩ (.slice Ao63 t540.length co63)).setCell ⟨gb550, 4, none⟩ (.slice Ao64 t543.length co64)).setCell ⟨gb550, 5, none⟩ (.slice Ao65 t546.length co65)).setCell ⟨gb550, 6, none⟩ (.string t549)) w.heap.size (fun k_ => some k_ ≠ (u531002 : Value).ownBlock ∧ some k_ ≠ (u531005 : Value).ownBlock ∧ some k_ ≠ (.slice Ao62 t537.length co62 : Value).ownBlock) (.slice Ao65 t546.length co65) t546) := ⟨by (with_reducible repeat (first | apply Kd.R_alloc | apply Kd.R_drewN | apply Kd.R_drew)); exact Kd.R_mono (Kd.R_far (p := ⟨gb550, 6, none⟩) (Kd.R_far (p := ⟨gb550, 5, none⟩) (Kd.R_far (p := ⟨gb550, 4, none⟩) (Kd.R_far (p := ⟨gb550, 3, none⟩) (Kd.R_far (p := ⟨gb550, 2, none⟩) (Kd.R_far (p := ⟨gb550, 1, none⟩) (Kd.R_far (p := ⟨gb550, 0, none⟩) (Kd.R_types HO548.out BK550.out (by decide)) (fun _ hk => hk.2) (.slice Ao55 t531.length co55)) (fun _ hk => hk.2) (.slice Ao61 t534.length co61)) (fun _ hk => hk.2) (.slice Ao62 t537.length co62)) (fun _ hk => hk.2) (.slice Ao63 t540.length co63)) (fun _ hk => hk.2) (.slice Ao64 t543.length co64)) (fun _ hk => hk.2) (.slice Ao65 t546.length co65)) (fun _ hk => hk.2) (.string t549)) (fun _ hk => ⟨hk.1.1.2, ⟨hk.1.2, hk.1.1.1⟩⟩)⟩
                    have n12_ : Aside0 ((((((((w54.setCell ⟨gb550, 0, none⟩ (.slice Ao55 t531.length co55)).setCell ⟨gb550, 1, none⟩ (.slice Ao61 t534.length co61)).setCell ⟨gb550, 2, none⟩ (.slice Ao62 t537.length co62)).setCell ⟨gb550, 3, none⟩ (.slice Ao63 t540.length co63)).setCell ⟨gb550, 4, none⟩ (.slice Ao64 t543.length co64)).setCell ⟨gb550, 5, none⟩ (.slice Ao65 t546.length co65)).setCell ⟨gb550, 6, none⟩ (.string t549)).heap[gb507]? = some (.cells #[.slice A0_0 l0_0.length c0_0, .slice A0_1 l0_1.length c0_1, .slice A0_2 l0_2.length c0_2] 26 (0, 0))) := ⟨by (with_reducible repeat (first | refine blk_drewN ?_ _ | refine blk_drew ?_ | refine blk_alloc ?_ _)); refine blk_far ?_ NB507_550.out _; (with_reducible repeat (first | refine blk_drewN ?_ _ | refine blk_drew ?_ | refine blk_alloc ?_ _)); refine blk_far ?_ NB507_550.out _; (with_reducible repeat (first | refine blk_drewN ?_ _ | refine blk_drew ?_ | refine blk_alloc ?_ _)); refine blk_far ?_ NB507_550.out _; (with_reducible repeat (first | refine blk_drewN ?_ _ | refine blk_drew ?_ | refine blk_alloc ?_ _)); refine blk_far ?_ NB507_550.out _; (with_reducible repeat (first | refine blk_drewN ?_ _ | refine blk_drew ?_ | refine blk_alloc ?_ _)); refine blk_far ?_ NB507_550.out _; (with_reducible repeat (first | refine blk_drewN ?_ _ | refine blk_drew ?_ | refine blk_alloc ?_ _)); refine blk_far ?_ NB507_550.out _; (with_reducible repeat (first | refine blk_drewN ?_ _ | refine blk_drew ?_ | refine blk_alloc ?_ _)); refine blk_far ?_ NB507_550.out _; (with_reducible repeat (first | refine blk_drewN ?_ _ | refine blk_drew ?_ | refine blk_alloc ?_ _)); exact BK507.out⟩
                    have n13_ : Aside0 ((((((((w54.setCell ⟨gb550, 0, none⟩ (.slice Ao55 t531.length co55)).setCell ⟨gb550, 1, none⟩ (.slice Ao61 t534.length co61)).setCell ⟨gb550, 2, none⟩ (.slice Ao62 t537.length co62)).setCell ⟨gb550, 3, none⟩ (.slice Ao63 t540.length co63)).setCell ⟨gb550, 4, none⟩ (.slice Ao64 t543.length co64)).setCell ⟨gb550, 5, none⟩ (.slice Ao65 t546.length co65)).setCell ⟨gb550, 6, none⟩ (.string t549)).heap[gb508]? = some (.cells #[.slice none 0 0, .slice none 0 0, .slice none 0 0] 26 (0, 0))) := ⟨by (with_reducible repeat (first | refine blk_drewN ?_ _ | refine blk_drew ?_ | refine blk_alloc ?_ _)); refine blk_far ?_ NB508_550.out _; (with_reducible repeat (first | refine blk_drewN ?_ _ | refine blk_drew ?_ | refine blk_alloc ?_ _)); refine blk_far ?_ NB508_550.out _; (with_reducible repeat (first | refine blk_drewN ?_ _ | refine blk_drew ?_ | refine blk_alloc ?_ _)); refine blk_far ?_ NB508_550.out _; (with_reducible repeat (first | refine blk_drewN ?_ _ | refine blk_drew ?_ | refine blk_alloc ?_ _)); refine blk_far ?_ NB508_550.out _; (with_reducible repeat (first | refine blk_drewN ?_ _ | refine blk_drew ?_ | refine blk_alloc ?_ _)); refine blk_far ?_ NB508_550.out _; (with_reducible repeat (first | refine blk_drewN ?_ _ | refine blk_drew ?_ | refine blk_alloc ?_ _)); refine blk_far ?_ NB508_550.out _; (with_reducible repeat (first | refine blk_drewN ?_ _ | refine blk_drew ?_ | refine blk_alloc ?_ _)); refine blk_far ?_ NB508_550.out _; (with_reducible repeat (first | refine blk_drewN ?_ _ | refine blk_drew ?_ | refine blk_alloc ?_ _)); exact BK508.out⟩
                    have n14_ : Aside0 ((((((((w54.setCell ⟨gb550, 0, none⟩ (.slice Ao55 t531.length co55)).setCell ⟨gb550, 1, none⟩ (.slice Ao61 t534.length co61)).setCell ⟨gb550, 2, none⟩ (.slice Ao62 t537.length co62)).setCell ⟨gb550, 3, none⟩ (.slice Ao63 t540.length co63)).setCell ⟨gb550, 4, none⟩ (.slice Ao64 t543.length co64)).setCell ⟨gb550, 5, none⟩ (.slice Ao65 t546.length co65)).setCell ⟨gb550, 6, none⟩ (.string t549)).heap[gb509]? = some (.cells #[.slice none 0 0, .slice none 0 0, .slice none 0 0] 26 (0, 0))) := ⟨by (with_reducible repeat (first | refine blk_drewN ?_ _ | refine blk_drew ?_ | refine blk_alloc ?_ _)); refine blk_far ?_ NB509_550.out _; (with_reducible repeat (first | refine blk_drewN ?_ _ | refine blk_drew ?_ | refine blk_alloc ?_ _)); refine blk_far ?_ NB509_550.out _; (with_reducible repeat (first | refine blk_drewN ?_ _ | refine blk_drew ?_ | refine blk_alloc ?_ _)); refine blk_far ?_ NB509_550.out _; (with_reducible repeat (first | refine blk_drewN ?_ _ | refine blk_drew ?_ | refine blk_alloc ?_ _)); refine blk_far ?_ NB509_550.out _; (with_reducible repeat (first | refine blk_drewN ?_ _ | refine blk_drew ?_ | refine blk_alloc ?_ _)); refine blk_far ?_ NB509_550.out _; (with_reducible repeat (first | refine blk_drewN ?_ _ | refine blk_drew ?_ | refine blk_alloc ?_ _)); refine blk_far ?_ NB509_550.out _; (with_reducible repeat (first | refine blk_drewN ?_ _ | refine blk_drew ?_ | refine blk_alloc ?_ _)); refine blk_far ?_ NB509_550.out _; (with_reducible repeat (first | refine blk_drewN ?_ _ | refine blk_drew ?_ | refine blk_alloc ?_ _)); exact BK509.out⟩
                    have n15_ : Aside0 ((((((((w54.setCell ⟨gb550, 0, none⟩ (.slice Ao55 t531.length co55)).setCell ⟨gb550, 1, none⟩ (.slice Ao61 t534.length co61)).setCell ⟨gb550, 2, none⟩ (.slice Ao62 t537.length co62)).setCell ⟨gb550, 3, none⟩ (.slice Ao63 t540.length co63)).setCell ⟨gb550, 4, none⟩ (.slice Ao64 t543.length co64)).setCell ⟨gb550, 5, none⟩ (.slice Ao65 t546.length co65)).setCell ⟨gb550, 6, none⟩ (.string t549)).heap[gb530]? = some (.cells #[u531000, u531001, u531002, u531003, u531004, u531005, .string x531006_3] 81 (0, 0))) := ⟨by (with_reducible repeat (first | refine blk_drewN ?_ _ | refine blk_drew ?_ | refine blk_alloc ?_ _)); refine blk_far ?_ NB530_550.out _; (with_reducible repeat (first | refine blk_drewN ?_ _ | refine blk_drew ?_ | refine blk_alloc ?_ _)); refine blk_far ?_ NB530_550.out _; (with_reducible repeat (first | refine blk_drewN ?_ _ | refine blk_drew ?_ | refine blk_alloc ?_ _)); refine blk_far ?_ NB530_550.out _; (with_reducible repeat (first | refine blk_drewN ?_ _ | refine blk_drew ?_ | refine blk_alloc ?_ _)); refine blk_far ?_ NB530_550.out _; (with_reducible repeat (first | refine blk_drewN ?_ _ | refine blk_drew ?_ | refine blk_alloc ?_ _)); refine blk_far ?_ NB530_550.out _; (with_reducible repeat (first | refine blk_drewN ?_ _ | refine blk_drew ?_ | refine blk_alloc ?_ _)); refine blk_far ?_ NB530_550.out _; (with_reducible repeat (first | refine blk_drewN ?_ _ | refine blk_drew ?_ | refine blk_alloc ?_ _)); refine blk_far ?_ NB530_550.out _; (with_reducible repeat (first | refine blk_drewN ?_ _ | refine blk_drew ?_ | refine blk_alloc ?_ _)); exact BK530.out⟩
                    have n16_ : Aside0 ((((((((w54.setCell ⟨gb550, 0, none⟩ (.slice Ao55 t531.length co55)).setCell ⟨gb550, 1, none⟩ (.slice Ao61 t534.length co61)).setCell ⟨gb550, 2, none⟩ (.slice Ao62 t537.length co62)).setCell ⟨gb550, 3, none⟩ (.slice Ao63 t540.length co63)).setCell ⟨gb550, 4, none⟩ (.slice Ao64 t543.length co64)).setCell ⟨gb550, 5, none⟩ (.slice Ao65 t546.length co65)).setCell ⟨gb550, 6, none⟩ (.string t549)).heap[gb550]? = some (.cells #[.slice Ao55 t531.length co55, .slice Ao61 t534.length co61, .slice Ao62 t537.length co62, .slice Ao63 t540.length co63, .slice Ao64 t543.length co64, .slice Ao65 t546.length co65, .string t549] 81 (0, 0))) := ⟨by (with_reducible repeat (first | refine blk_drewN ?_ _ | refine blk_drew ?_ | refine blk_alloc ?_ _)); refine blk_put (cs := #[.slice Ao55 t531.length co55, .slice Ao61 t534.length co61, .slice Ao62 t537.length co62, .slice Ao63 t540.length co63, .slice Ao64 t543.length co64, .slice Ao65 t546.length co65, .string (⟨#[]⟩ : ByteArray)]) ?_ 6 _ rfl; (with_reducible repeat (first | refine blk_drewN ?_ _ | refine blk_drew ?_ | refine blk_alloc ?_ _)); refine blk_put (cs := #[.slice Ao55 t531.length co55, .slice Ao61 t534.length co61, .slice Ao62 t537.length co62, .slice Ao63 t540.length co63, .slice Ao64 t543.length co64, .slice none 0 0, .string (⟨#[]⟩ : ByteArray)]) ?_ 5 _ rfl; (with_reducible repeat (first | refine blk_drewN ?_ _ | refine blk_drew ?_ | refine blk_alloc ?_ _)); refine blk_put (cs := #[.slice Ao55 t531.length co55, .slice Ao61 t534.length co61, .slice Ao62 t537.length co62, .slice Ao63 t540.length co63, .slice none 0 0, .slice none 0 0, .string (⟨#[]⟩ : ByteArray)]) ?_ 4 _ rfl; (with_reducible repeat (first | refine blk_drewN ?_ _ | refine blk_drew ?_ | refine blk_alloc ?_ _)); refine blk_put (cs := #[.slice Ao55 t531.length co55, .slice Ao61 t534.length co61, .slice Ao62 t537.length co62, .slice none 0 0, .slice none 0 0, .slice none 0 0, .string (⟨#[]⟩ : ByteArray)]) ?_ 3 _ rfl; (with_reducible repeat (first | refine blk_drewN ?_ _ | refine blk_drew ?_ | refine blk_alloc ?_ _)); refine blk_put (cs := #[.slice Ao55 t531.length co55, .slice Ao61 t534.length co61, .slice none 0 0, .slice none 0 0, .slice none 0 0, .slice none 0 0, .string (⟨#[]⟩ : ByteArray)]) ?_ 2 _ rfl; (with_reducible repeat (first | refine blk_drewN ?_ _ | refine blk_drew ?_ | refine blk_alloc ?_ _)); refine blk_put (cs := #[.slice Ao55 t531.length co55, .slice none 0 0, .slice none 0 0, .slice none 0 0, .slice none 0 0, .slice none 0 0, .string (⟨#[]⟩ : ByteArray)]) ?_ 1 _ rfl; (with_reducible repeat (first | refine blk_drewN ?_ _ | refine blk_drew ?_ | refine blk_alloc ?_ _)); refine blk_put (cs := #[.slice none 0 0, .slice none 0 0, .slice none 0 0, .slice none 0 0, .slice none 0 0, .slice none 0 0, .string (⟨#[]⟩ : ByteArray)]) ?_ 0 _ rfl; (with_reducible repeat (first | refine blk_drewN ?_ _ | refine blk_drew ?_ | refine blk_alloc ?_ _)); exact BK550.out⟩
                    have n17_ : Aside0 (Below w.heap.size w (((((((w54.setCell ⟨gb550, 0, none⟩ (.slice Ao55 t531.length co55)).setCell ⟨gb550, 1, none⟩ (.slice Ao61 t534.length co61)).setCell ⟨gb550, 2, none⟩ (.slice Ao62 t537.length co62)).setCell ⟨gb550, 3, none⟩ (.slice Ao63 t540.length co63)).setCell ⟨gb550, 4, none⟩ (.slice Ao64 t543.length co64)).setCell ⟨gb550, 5, none⟩ (.slice Ao65 t546.length co65)).setCell ⟨gb550, 6, none⟩ (.string t549))) := ⟨by repeat (first | (with_reducible first | exact HB.out | apply below_alloc | apply pw_below_drewN | apply below_drew1 | refine below_set ?_ GE507.out | refine below_set ?_ GE508.out | refine below_set ?_ GE509.out | refine below_set ?_ GE530.out | refine below_set ?_ GE550.out) | exact HB.out)⟩
                    (try clear HO_531000)
                    (try clear HO_531001)
                    (try clear HO_531002)
                    (try clear HO_531003)
                    (try clear HO_531004)
                    (try clear HO_531005)
                    (try clear HO533)
                    (try clear HO536)
                    (try clear HO539)
                    (try clear HO542)
                    (try clear HO545)
                    (try clear HO548)
                    (try clear BK507)
                    (try clear BK508)
                    (try clear BK509)
                    (try clear BK530)
                    (try clear BK550)
                    (try clear HB)
                    generalize (((((((w54.setCell ⟨gb550, 0, none⟩ (.slice Ao55 t531.length co55)).setCell ⟨gb550, 1, none⟩ (.slice Ao61 t534.length co61)).setCell ⟨gb550, 2, none⟩ (.slice Ao62 t537.length co62)).setCell ⟨gb550, 3, none⟩ (.slice Ao63 t540.length co63)).setCell ⟨gb550, 4, none⟩ (.slice Ao64 t543.length co64)).setCell ⟨gb550, 5, none⟩ (.slice Ao65 t546.length co65)).setCell ⟨gb550, 6, none⟩ (.string t549)) = w66 at n0_ n1_ n2_ n3_ n4_ n5_ n6_ n7_ n8_ n9_ n10_ n11_ n12_ n13_ n14_ n15_ n16_ n17_ ⊢
                    have HO_531000 := n0_
                    have HO_531001 := n1_
                    have HO_531002 := n2_
                    have HO_531003 := n3_
                    have HO_531004 := n4_
                    have HO_531005 := n5_
                    have HO533 := n6_
                    have HO536 := n7_
                    have HO539 := n8_
                    have HO542 := n9_
                    have HO545 := n10_
                    have HO548 := n11_
                    have BK507 := n12_
                    have BK508 := n13_
                    have BK509 := n14_
                    have BK530 := n15_
                    have BK550 := n16_
                    have HB := n17_
                    clear n0_ n1_ n2_ n3_ n4_ n5_ n6_ n7_ n8_ n9_ n10_ n11_ n12_ n13_ n14_ n15_ n16_ n17_
                    replace HO_531000 := Aside0.mk (Kd.R_drew HO_531000.out)
                    replace HO_531001 := Aside0.mk (Kd.R_drew HO_531001.out)
                    replace HO_531002 := Aside0.mk (Kd.R_drew HO_531002.out)
                    replace HO_531003 := Aside0.mk (Kd.R_drew HO_531003.out)
                    replace HO_531004 := Aside0.mk (Kd.R_drew HO_531004.out)
                    replace HO_531005 := Aside0.mk (Kd.R_drew HO_531005.out)
                    replace HO533 := Aside0.mk (Kd.R_drew HO533.out)
                    replace HO536 := Aside0.mk (Kd.R_drew HO536.out)
                    replace HO539 := Aside0.mk (Kd.R_drew HO539.out)
                    replace HO542 := Aside0.mk (Kd.R_drew HO542.out)
                    replace HO545 := Aside0.mk (Kd.R_drew HO545.out)
                    replace HO548 := Aside0.mk (Kd.R_drew HO548.out)
                    replace BK507 := Aside0.mk (blk_drew BK507.out)
                    replace BK508 := Aside0.mk (blk_drew BK508.out)
                    replace BK509 := Aside0.mk (blk_drew BK509.out)
                    replace BK530 := Aside0.mk (blk_drew BK530.out)
                    replace BK550 := Aside0.mk (blk_drew BK550.out)
                    replace HB := Aside0.mk (below_drew1 HB.out)
                    refine start_ (n := 5) (S := fun w' => w'.cell? ⟨gb550, 0, none⟩ = some (.slice Ao55 t531.length co55) ∧ w'.cell? ⟨gb550, 1, none⟩ = some (.slice Ao61 t534.length co61) ∧ w'.cell? ⟨gb550, 2, none⟩ = some (.slice Ao62 t537.length co62) ∧ w'.cell? ⟨gb550, 3, none⟩ = some (.slice Ao63 t540.length co63) ∧ w'.cell? ⟨gb550, 4, none⟩ = some (.slice Ao64 t543.length co64) ∧ w'.cell? ⟨gb550, 5, none⟩ = some (.slice Ao65 t546.length co65) ∧ w'.cell? ⟨gb550, 6, none⟩ = some (.string t549) ∧ w'.cell? ⟨gb530, 0, none⟩ = some (u531000) ∧ w'.cell? ⟨gb530, 1, none⟩ = some (u531001) ∧ w'.cell? ⟨gb530, 2, none⟩ = some (u531002) ∧ w'.cell? ⟨gb530, 3, none⟩ = some (u531003) ∧ w'.cell? ⟨gb530, 4, none⟩ = some (u531004) ∧ w'.cell? ⟨gb530, 5, none⟩ = some (u531005) ∧ w'.cell? ⟨gb530, 6, none⟩ = some (.string x531006_3)) (ds := []) #[false, false, false, false, false] (by kernel_rfl) rfl rfl ⟨(blk_cell BK550.out 0).trans rfl, (blk_cell BK550.out 1).trans rfl, (blk_cell BK550.out 2).trans rfl, (blk_cell BK550.out 3).trans rfl, (blk_cell BK550.out 4).trans rfl, (blk_cell BK550.out 5).trans rfl, (blk_cell BK550.out 6).trans rfl, (blk_cell BK530.out 0).trans rfl, (blk_cell BK530.out 1).trans rfl, (blk_cell BK530.out 2).trans rfl, (blk_cell BK530.out 3).trans rfl, (blk_cell BK530.out 4).trans rfl, (blk_cell BK530.out 5).trans rfl, (blk_cell BK530.out 6).trans rfl⟩ (fun hHeld => ?_)
                    generalize w66.drew = w67 at HO_531000 HO_531001 HO_531002 HO_531003 HO_531004 HO_531005 HO533 HO536 HO539 HO542 HO545 HO548 BK507 BK508 BK509 BK530 BK550 HB hHeld ⊢
                    refine take_ (i := 0) (N := some 48) (v := ?_) (a' := ?_) #[true, false, false, false, false] rfl rfl (by kernel_rfl) (fun _ _ _ h => h) (Or.inl ⟨by rfl, ?_⟩) hHeld ?_ ?_
                    rotate_left
                    · rintro w' ⟨s0, s1, s2, s3, s4, s5, s6, s7, s8, s9, s10, s11, s12, s13⟩
                      go_simp
                      with_reducible rfl
                    rotate_left
                    · simp only [Act.put, List.setIfInBounds_toArray, List.set_cons_zero, List.set_cons_succ, i64_w, i32_w]
                      rfl
                    refine take_ (i := 2) (N := some 50) (v := ?_) (a' := ?_) #[true, false, true, false, false] rfl rfl (by kernel_rfl) (fun _ _ _ h => h) (Or.inl ⟨by rfl, ?_⟩) hHeld ?_ ?_
                    rotate_left
                    · rintro w' ⟨s0, s1, s2, s3, s4, s5, s6, s7, s8, s9, s10, s11, s12, s13⟩
                      go_simp
                      with_reducible rfl
                    rotate_left
                    · simp only [Act.put, List.setIfInBounds_toArray, List.set_cons_zero, List.set_cons_succ, i64_w, i32_w]
                      rfl
                    refine one_ (i := 1) (N := some 49) #[true, true, true, false, false] rfl rfl (by kernel_rfl) (by decide) (fun K hK => ?_)
                    refine goes_ Try.func51 (by kernel_rfl) rfl #[.agg #[.slice Ao55 t531.length co55, .slice Ao61 t534.length co61, .slice Ao62 t537.length co62, .slice Ao63 t540.length co63, .slice Ao64 t543.length co64, .slice Ao65 t546.length co65, .string t549]] (by rfl) rfl rfl (by (try simp only [List.map_toArray, List.map_cons, List.map_nil]); first | done | rfl | (simp only [List.length_drop, List.length_take]; rfl)) ?_
                    with_reducible refine (node_halves_most.calls _ _ t531 _ _ t534 _ _ t537 _ _ t540 _ _ t543 _ _ t546 t549 t551 _ ?side1 ?side2 ?side3 ?side4 ?side5 ?side6 ?side7 ?side8 ?side9 ?side10 ?side11 ?side12 A46.out).mono ?_
                    (case side1 => repeat (first | exact (Kd.R_reads' HO533.out).2.2 | (with_reducible refine Kd.C_alloc ?_ _) | (with_reducible refine Kd.C_drewN ?_ _) | (with_reducible refine Kd.C_drew ?_)))
                    (case side2 => exact (Kd.R_reads' HO533.out).2.1)
                    (case side3 => repeat (first | exact (Kd.R_reads' HO536.out).2.2 | (with_reducible refine Kd.C_alloc ?_ _) | (with_reducible refine Kd.C_drewN ?_ _) | (with_reducible refine Kd.C_drew ?_)))
                    (case side4 => exact (Kd.R_reads' HO536.out).2.1)
                    (case side5 => repeat (first | exact (Kd.R_reads' HO539.out).2.2 | (with_reducible refine Kd.C_alloc ?_ _) | (with_reducible refine Kd.C_drewN ?_ _) | (with_reducible refine Kd.C_drew ?_)))
                    (case side6 => exact (Kd.R_reads' HO539.out).2.1)
                    (case side7 => repeat (first | exact (Kd.R_reads' HO542.out).2.2 | (with_reducible refine Kd.C_alloc ?_ _) | (with_reducible refine Kd.C_drewN ?_ _) | (with_reducible refine Kd.C_drew ?_)))
                    (case side8 => exact (Kd.R_reads' HO542.out).2.1)
                    (case side9 => repeat (first | exact (Kd.R_reads' HO545.out).2.2 | (with_reducible refine Kd.C_alloc ?_ _) | (with_reducible refine Kd.C_drewN ?_ _) | (with_reducible refine Kd.C_drew ?_)))
                    (case side10 => exact (Kd.R_reads' HO545.out).2.1)
                    (case side11 => repeat (first | exact (Kd.R_reads' HO548.out).2.2 | (with_reducible refine Kd.C_alloc ?_ _) | (with_reducible refine Kd.C_drewN ?_ _) | (with_reducible refine Kd.C_drew ?_)))
                    (case side12 => exact (Kd.R_reads' HO548.out).2.1)
                    rintro e w68 ⟨rfl, hb⟩
                    refine ⟨_, rfl, ?_⟩
                    replace HO_531000 := Aside0.mk (Kd.R_below (R_ HO_531000.out) hb)
                    replace HO_531001 := Aside0.mk (Kd.R_below (R_ HO_531001.out) hb)
                    replace HO_531002 := Aside0.mk (Kd.R_below (R_ HO_531002.out) hb)
                    replace HO_531003 := Aside0.mk (Kd.R_below (R_ HO_531003.out) hb)
                    replace HO_531004 := Aside0.mk (Kd.R_below (R_ HO_531004.out) hb)
                    replace HO_531005 := Aside0.mk (Kd.R_below (R_ HO_531005.out) hb)
                    replace HO533 := Aside0.mk (Kd.R_below (R_ HO533.out) hb)
                    replace HO536 := Aside0.mk (Kd.R_below (R_ HO536.out) hb)
                    replace HO539 := Aside0.mk (Kd.R_below (R_ HO539.out) hb)
                    replace HO542 := Aside0.mk (Kd.R_below (R_ HO542.out) hb)
                    replace HO545 := Aside0.mk (Kd.R_below (R_ HO545.out) hb)
                    replace HO548 := Aside0.mk (Kd.R_below (R_ HO548.out) hb)
                    replace BK507 := Aside0.mk (blk_below (g := gb507) (o := .cells #[.slice A0_0 l0_0.length c0_0, .slice A0_1 l0_1.length c0_1, .slice A0_2 l0_2.length c0_2] 26 (0, 0)) (B_ BK507.out) hb)
                    replace BK508 := Aside0.mk (blk_below (g := gb508) (o := .cells #[.slice none 0 0, .slice none 0 0, .slice none 0 0] 26 (0, 0)) (B_ BK508.out) hb)
                    replace BK509 := Aside0.mk (blk_below (g := gb509) (o := .cells #[.slice none 0 0, .slice none 0 0, .slice none 0 0] 26 (0, 0)) (B_ BK509.out) hb)
                    replace BK530 := Aside0.mk (blk_below (g := gb530) (o := .cells #[u531000, u531001, u531002, u531003, u531004, u531005, .string x531006_3] 81 (0, 0)) (B_ BK530.out) hb)
                    replace BK550 := Aside0.mk (blk_below (g := gb550) (o := .cells #[.slice Ao55 t531.length co55, .slice Ao61 t534.length co61, .slice Ao62 t537.length co62, .slice Ao63 t540.length co63, .slice Ao64 t543.length co64, .slice Ao65 t546.length co65, .string t549] 81 (0, 0)) (B_ BK550.out) hb)
                    replace HB := Aside0.mk (below_step (L_ HB.out) hb)
                    (try clear hb)
                    (try clear hb2)
                    (try clear hk)
                    (try clear hi)
                    obtain ⟨Ao69, co69, eo69⟩ := Kd.R_slice HO_531000.out
                    (first | subst eo69 | (injection eo69 with f1_ f2_ f3_; have f4_ := f1_.symm; have f5_ := f3_.symm; clear f1_ f2_ f3_; subst f4_; subst f5_))
                    obtain ⟨Ao70, co70, eo70⟩ := Kd.R_slice HO_531001.out
                    (first | subst eo70 | (injection eo70 with f1_ f2_ f3_; have f4_ := f1_.symm; have f5_ := f3_.symm; clear f1_ f2_ f3_; subst f4_; subst f5_))
                    obtain ⟨Ao71, co71, eo71⟩ := Kd.R_slice HO_531002.out
                    (first | subst eo71 | (injection eo71 with f1_ f2_ f3_; have f4_ := f1_.symm; have f5_ := f3_.symm; clear f1_ f2_ f3_; subst f4_; subst f5_))
                    obtain ⟨Ao72, co72, eo72⟩ := Kd.R_slice HO_531003.out
                    (first | subst eo72 | (injection eo72 with f1_ f2_ f3_; have f4_ := f1_.symm; have f5_ := f3_.symm; clear f1_ f2_ f3_; subst f4_; subst f5_))
                    obtain ⟨Ao73, co73, eo73⟩ := Kd.R_slice HO_531004.out
                    (first | subst eo73 | (injection eo73 with f1_ f2_ f3_; have f4_ := f1_.symm; have f5_ := f3_.symm; clear f1_ f2_ f3_; subst f4_; subst f5_))
                    obtain ⟨Ao74, co74, eo74⟩ := Kd.R_slice HO_531005.out
                    (first | subst eo74 | (injection eo74 with f1_ f2_ f3_; have f4_ := f1_.symm; have f5_ := f3_.symm; clear f1_ f2_ f3_; subst f4_; subst f5_))
                    refine hK.out _ _ ⟨(blk_cell BK550.out 0).trans rfl, (blk_cell BK550.out 1).trans rfl, (blk_cell BK550.out 2).trans rfl, (blk_cell BK550.out 3).trans rfl, (blk_cell BK550.out 4).trans rfl, (blk_cell BK550.out 5).trans rfl, (blk_cell BK550.out 6).trans rfl, (blk_cell BK530.out 0).trans rfl, (blk_cell BK530.out 1).trans rfl, (blk_cell BK530.out 2).trans rfl, (blk_cell BK530.out 3).trans rfl, (blk_cell BK530.out 4).trans rfl, (blk_cell BK530.out 5).trans rfl, (blk_cell BK530.out 6).trans rfl⟩ (fun hHeld => ?_)
                    clear hK K
                    refine norm_ (a' := ?_) ?_ ?_
                    rotate_left
                    · show Act.put _ (some 49) _ = _
                      simp only [Act.put, List.setIfInBounds_toArray, List.set_cons_zero, List.set_cons_succ, i64_w, i32_w]
                      rfl
                    refine one_ (i := 3) (N := some 51) #[true, true, true, true, false] rfl rfl (by kernel_rfl) (by decide) (fun K hK => ?_)
                    refine goes_ Try.func51 (by kernel_rfl) rfl #[.agg #[.slice Ao69 x531000_3.length co69, .slice Ao70 x531001_3.length co70, .slice Ao71 x531002_3.length co71, .slice Ao72 x531003_3.length co72, .slice Ao73 x531004_3.length co73, .slice Ao74 x531005_3.length co74, .string x531006_3]] (by rfl) rfl rfl (by (try simp only [List.map_toArray, List.map_cons, List.map_nil]); first | done | rfl | (simp only [List.length_drop, List.length_take]; rfl)) ?_
                    with_reducible refine (node_halves_most.calls _ _ x531000_3 _ _ x531001_3 _ _ x531002_3 _ _ x531003_3 _ _ x531004_3 _ _ x531005_3 x531006_3 t552 _ ?side1 ?side2 ?side3 ?side4 ?side5 ?side6 ?side7 ?side8 ?side9 ?side10 ?side11 ?side12 A47.out).mono ?_
                    (case side1 => repeat (first | exact (Kd.R_reads' HO_531000.out).2.2 | (with_reducible refine Kd.C_alloc ?_ _) | (with_reducible refine Kd.C_drewN ?_ _) | (with_reducible refine Kd.C_drew ?_)))
                    (case side2 => exact (Kd.R_reads' HO_531000.out).2.1)
                    (case side3 => repeat (first | exact (Kd.R_reads' HO_531001.out).2.2 | (with_reducible refine Kd.C_alloc ?_ _) | (with_reducible refine Kd.C_drewN ?_ _) | (with_reducible refine Kd.C_drew ?_)))
                    (case side4 => exact (Kd.R_reads' HO_531001.out).2.1)
                    (case side5 => repeat (first | exact (Kd.R_reads' HO_531002.out).2.2 | (with_reducible refine Kd.C_alloc ?_ _) | (with_reducible refine Kd.C_drewN ?_ _) | (with_reducible refine Kd.C_drew ?_)))
                    (case side6 => exact (Kd.R_reads' HO_531002.out).2.1)
                    (case side7 => repeat (first | exact (Kd.R_reads' HO_531003.out).2.2 | (with_reducible refine Kd.C_alloc ?_ _) | (with_reducible refine Kd.C_drewN ?_ _) | (with_reducible refine Kd.C_drew ?_)))
                    (case side8 => exact (Kd.R_reads' HO_531003.out).2.1)
                    (case side9 => repeat (first | exact (Kd.R_reads' HO_531004.out).2.2 | (with_reducible refine Kd.C_alloc ?_ _) | (with_reducible refine Kd.C_drewN ?_ _) | (with_reducible refine Kd.C_drew ?_)))
                    (case side10 => exact (Kd.R_reads' HO_531004.out).2.1)
                    (case side11 => repeat (first | exact (Kd.R_reads' HO_531005.out).2.2 | (with_reducible refine Kd.C_alloc ?_ _) | (with_reducible refine Kd.C_drewN ?_ _) | (with_reducible refine Kd.C_drew ?_)))
                    (case side12 => exact (Kd.R_reads' HO_531005.out).2.1)
                    rintro e w75 ⟨rfl, hb⟩
                    refine ⟨_, rfl, ?_⟩
                    replace HO_531000 := Aside0.mk (Kd.R_below (R_ HO_531000.out) hb)
                    replace HO_531001 := Aside0.mk (Kd.R_below (R_ HO_531001.out) hb)
                    replace HO_531002 := Aside0.mk (Kd.R_below (R_ HO_531002.out) hb)
                    replace HO_531003 := Aside0.mk (Kd.R_below (R_ HO_531003.out) hb)
                    replace HO_531004 := Aside0.mk (Kd.R_below (R_ HO_531004.out) hb)
                    replace HO_531005 := Aside0.mk (Kd.R_below (R_ HO_531005.out) hb)
                    replace HO533 := Aside0.mk (Kd.R_below (R_ HO533.out) hb)
                    replace HO536 := Aside0.mk (Kd.R_below (R_ HO536.out) hb)
                    replace HO539 := Aside0.mk (Kd.R_below (R_ HO539.out) hb)
                    replace HO542 := Aside0.mk (Kd.R_below (R_ HO542.out) hb)
                    replace HO545 := Aside0.mk (Kd.R_below (R_ HO545.out) hb)
                    replace HO548 := Aside0.mk (Kd.R_below (R_ HO548.out) hb)
                    replace BK507 := Aside0.mk (blk_below (g := gb507) (o := .cells #[.slice A0_0 l0_0.length c0_0, .slice A0_1 l0_1.length c0_1, .slice A0_2 l0_2.length c0_2] 26 (0, 0)) (B_ BK507.out) hb)
                    replace BK508 := Aside0.mk (blk_below (g := gb508) (o := .cells #[.slice none 0 0, .slice none 0 0, .slice none 0 0] 26 (0, 0)) (B_ BK508.out) hb)
                    replace BK509 := Aside0.mk (blk_below (g := gb509) (o := .cells #[.slice none 0 0, .slice none 0 0, .slice none 0 0] 26 (0, 0)) (B_ BK509.out) hb)
                    replace BK530 := Aside0.mk (blk_below (g := gb530) (o := .cells #[.slice Ao69 x531000_3.length co69, .slice Ao70 x531001_3.length co70, .slice Ao71 x531002_3.length co71, .slice Ao72 x531003_3.length co72, .slice Ao73 x531004_3.length co73, .slice Ao74 x531005_3.length co74, .string x531006_3] 81 (0, 0)) (B_ BK530.out) hb)
                    replace BK550 := Aside0.mk (blk_below (g := gb550) (o := .cells #[.slice Ao55 t531.length co55, .slice Ao61 t534.length co61, .slice Ao62 t537.length co62, .slice Ao63 t540.length co63, .slice Ao64 t543.length co64, .slice Ao65 t546.length co65, .string t549] 81 (0, 0)) (B_ BK550.out) hb)
                    replace HB := Aside0.mk (below_step (L_ HB.out) hb)
                    (try clear hb)
                    (try clear hb2)
                    (try clear hk)
                    (try clear hi)
                    refine hK.out _ _ ⟨(blk_cell BK550.out 0).trans rfl, (blk_cell BK550.out 1).trans rfl, (blk_cell BK550.out 2).trans rfl, (blk_cell BK550.out 3).trans rfl, (blk_cell BK550.out 4).trans rfl, (blk_cell BK550.out 5).trans rfl, (blk_cell BK550.out 6).trans rfl, (blk_cell BK530.out 0).trans rfl, (blk_cell BK530.out 1).trans rfl, (blk_cell BK530.out 2).trans rfl, (blk_cell BK530.out 3).trans rfl, (blk_cell BK530.out 4).trans rfl, (blk_cell BK530.out 5).trans rfl, (blk_cell BK530.out 6).trans rfl⟩ (fun hHeld => ?_)
                    clear hK K
                    refine norm_ (a' := ?_) ?_ ?_
                    rotate_left
                    · show Act.put _ (some 51) _ = _
                      simp only [Act.put, List.setIfInBounds_toArray, List.set_cons_zero, List.set_cons_succ, i64_w, i32_w]
                      rfl
                    refine pure_ (i := 4) (N := some 52) (v := ?_) (a' := ?_) #[true, true, true, true, true] rfl rfl (by kernel_rfl) (fun _ _ _ h => h) (Or.inl ⟨by rfl, ?_⟩) ?_ ?_
                    rotate_left
                    · intro w'
                      go_simp
                      with_reducible rfl
                    rotate_left
                    · simp only [Act.put, List.setIfInBounds_toArray, List.set_cons_zero, List.set_cons_succ, i64_w, i32_w]
                      rfl
                    refine done_ (by kernel_rfl) ?_
                    have hcz76_0 : w75.cell? ⟨gb550, 0, none⟩ = some (.slice Ao55 t531.length co55) := (blk_cell BK550.out 0).trans rfl
                    have hcz76_1 : w75.cell? ⟨gb550, 1, none⟩ = some (.slice Ao61 t534.length co61) := (blk_cell BK550.out 1).trans rfl
                    have hcz76_2 : w75.cell? ⟨gb550, 2, none⟩ = some (.slice Ao62 t537.length co62) := (blk_cell BK550.out 2).trans rfl
                    have hcz76_3 : w75.cell? ⟨gb550, 3, none⟩ = some (.slice Ao63 t540.length co63) := (blk_cell BK550.out 3).trans rfl
                    have hcz76_4 : w75.cell? ⟨gb550, 4, none⟩ = some (.slice Ao64 t543.length co64) := (blk_cell BK550.out 4).trans rfl
                    have hcz76_5 : w75.cell? ⟨gb550, 5, none⟩ = some (.slice Ao65 t546.length co65) := (blk_cell BK550.out 5).trans rfl
                    have hcz76_6 : w75.cell? ⟨gb550, 6, none⟩ = some (.string t549) := (blk_cell BK550.out 6).trans rfl
                    have hfz76_0 := blk_frozen BK550.out 0
                    have hfz76_1 := blk_frozen BK550.out 1
                    have hfz76_2 := blk_frozen BK550.out 2
                    have hfz76_3 := blk_frozen BK550.out 3
                    have hfz76_4 := blk_frozen BK550.out 4
                    have hfz76_5 := blk_frozen BK550.out 5
                    have hfz76_6 := blk_frozen BK550.out 6
                    have hnb77 := NB530_508.out
                    have hnc77 := NB508_530.out
                    have hnb78 := NB530_509.out
                    have hnc78 := NB509_530.out
                    have hcz79_0 : w75.cell? ⟨gb530, 0, none⟩ = some (.slice Ao69 x531000_3.length co69) := (blk_cell BK530.out 0).trans rfl
                    have hcz79_1 : w75.cell? ⟨gb530, 1, none⟩ = some (.slice Ao70 x531001_3.length co70) := (blk_cell BK530.out 1).trans rfl
                    have hcz79_2 : w75.cell? ⟨gb530, 2, none⟩ = some (.slice Ao71 x531002_3.length co71) := (blk_cell BK530.out 2).trans rfl
                    have hcz79_3 : w75.cell? ⟨gb530, 3, none⟩ = some (.slice Ao72 x531003_3.length co72) := (blk_cell BK530.out 3).trans rfl
                    have hcz79_4 : w75.cell? ⟨gb530, 4, none⟩ = some (.slice Ao73 x531004_3.length co73) := (blk_cell BK530.out 4).trans rfl
                    have hcz79_5 : w75.cell? ⟨gb530, 5, none⟩ = some (.slice Ao74 x531005_3.length co74) := (blk_cell BK530.out 5).trans rfl
                    have hcz79_6 : w75.cell? ⟨gb530, 6, none⟩ = some (.string x531006_3) := (blk_cell BK530.out 6).trans rfl
                    have hfz79_0 := blk_frozen BK530.out 0
                    have hfz79_1 := blk_frozen BK530.out 1
                    have hfz79_2 := blk_frozen BK530.out 2
                    have hfz79_3 := blk_frozen BK530.out 3
                    have hfz79_4 := blk_frozen BK530.out 4
                    have hfz79_5 := blk_frozen BK530.out 5
                    have hfz79_6 := blk_frozen BK530.out 6
                    try go_wp2
                    go_roundg k3
                    case measure => have := HJ1.out; have := HJ10.out; have := HK3.out; omega
                    case rel => exact ⟨(wrap64 (x9_3 + 1)), (t531), (t534), (t537), (t540), (t543), (t546), (t549), (.slice Ao55 t531.length co55), (.slice Ao61 t534.length co61), (.slice Ao62 t537.length co62), (.slice Ao63 t540.length co63), (.slice Ao64 t543.length co64), (.slice Ao65 t546.length co65), (by first | rfl | (simp; done) | (simp [*]; done)), H', ⟨by have := HJ1.out; have := HJ10.out; have := HK3.out; omega⟩, ⟨by (with_reducible repeat (first | apply Kd.R_alloc | apply Kd.R_drewN | apply Kd.R_drew)); exact Kd.R_mono (Kd.R_far (p := ⟨gb530, 6, none⟩) (Kd.R_far (p := ⟨gb530, 5, none⟩) (Kd.R_far (p := ⟨gb530, 4, none⟩) (Kd.R_far (p := ⟨gb530, 3, none⟩) (Kd.R_far (p := ⟨gb530, 2, none⟩) (Kd.R_far (p := ⟨gb530, 1, none⟩) (Kd.R_far (p := ⟨gb530, 0, none⟩) (Kd.R_types HO533.out BK530.out (by decide)) (fun _ hk => hk.2) (.slice Ao55 t531.length co55)) (fun _ hk => hk.2) (.slice Ao61 t534.length co61)) (fun _ hk => hk.2) (.slice Ao62 t537.length co62)) (fun _ hk => hk.2) (.slice Ao63 t540.length co63)) (fun _ hk => hk.2) (.slice Ao64 t543.length co64)) (fun _ hk => hk.2) (.slice Ao65 t546.length co65)) (fun _ hk => hk.2) (.string t549)) (fun _ hk => hk.1.2.2)⟩, ⟨by (with_reducible repeat (first | apply Kd.R_alloc | apply Kd.R_drewN | apply Kd.R_drew)); exact Kd.R_mono (Kd.R_far (p := ⟨gb530, 6, none⟩) (Kd.R_far (p := ⟨gb530, 5, none⟩) (Kd.R_far (p := ⟨gb530, 4, none⟩) (Kd.R_far (p := ⟨gb530, 3, none⟩) (Kd.R_far (p := ⟨gb530, 2, none⟩) (Kd.R_far (p := ⟨gb530, 1, none⟩) (Kd.R_far (p := ⟨gb530, 0, none⟩) (Kd.R_types HO536.out BK530.out (by decide)) (fun _ hk => hk.2) (.slice Ao55 t531.length co55)) (fun _ hk => hk.2) (.slice Ao61 t534.length co61)) (fun _ hk => hk.2) (.slice Ao62 t537.length co62)) (fun _ hk => hk.2) (.slice Ao63 t540.length co63)) (fun _ hk => hk.2) (.slice Ao64 t543.length co64)) (fun _ hk => hk.2) (.slice Ao65 t546.length co65)) (fun _ hk => hk.2) (.string t549)) (fun _ hk => hk.1.2.2)⟩, ⟨by (with_reducible repeat (first | apply Kd.R_alloc | apply Kd.R_drewN | apply Kd.R_drew)); exact Kd.R_mono (Kd.R_far (p := ⟨gb530, 6, none⟩) (Kd.R_far (p := ⟨gb530, 5, none⟩) (Kd.R_far (p := ⟨gb530, 4, none⟩) (Kd.R_far (p := ⟨gb530, 3, none⟩) (Kd.R_far (p := ⟨gb530, 2, none⟩) (Kd.R_far (p := ⟨gb530, 1, none⟩) (Kd.R_far (p := ⟨gb530, 0, none⟩) (Kd.R_types HO539.out BK530.out (by decide)) (fun _ hk => hk.2) (.slice Ao55 t531.length co55)) (fun _ hk => hk.2) (.slice Ao61 t534.length co61)) (fun _ hk => hk.2) (.slice Ao62 t537.length co62)) (fun _ hk => hk.2) (.slice Ao63 t540.length co63)) (fun _ hk => hk.2) (.slice Ao64 t543.length co64)) (fun _ hk => hk.2) (.slice Ao65 t546.length co65)) (fun _ hk => hk.2) (.string t549)) (fun _ hk => hk.1.2.2)⟩, ⟨by (with_reducible repeat (first | apply Kd.R_alloc | apply Kd.R_drewN | apply Kd.R_drew)); exact Kd.R_mono (Kd.R_far (p := ⟨gb530, 6, none⟩) (Kd.R_far (p := ⟨gb530, 5, none⟩) (Kd.R_far (p := ⟨gb530, 4, none⟩) (Kd.R_far (p := ⟨gb530, 3, none⟩) (Kd.R_far (p := ⟨gb530, 2, none⟩) (Kd.R_far (p := ⟨gb530, 1, none⟩) (Kd.R_far (p := ⟨gb530, 0, none⟩) (Kd.R_types HO542.out BK530.out (by decide)) (fun _ hk => hk.2) (.slice Ao55 t531.length co55)) (fun _ hk => hk.2) (.slice Ao61 t534.length co61)) (fun _ hk => hk.2) (.slice Ao62 t537.length co62)) (fun _ hk => hk.2) (.slice Ao63 t540.length co63)) (fun _ hk => hk.2) (.slice Ao64 t543.length co64)) (fun _ hk => hk.2) (.slice Ao65 t546.length co65)) (fun _ hk => hk.2) (.string t549)) (fun _ hk => hk.1.2.2)⟩, ⟨by (with_reducible repeat (first | apply Kd.R_alloc | apply Kd.R_drewN | apply Kd.R_drew)); exact Kd.R_mono (Kd.R_far (p := ⟨gb530, 6, none⟩) (Kd.R_far (p := ⟨gb530, 5, none⟩) (Kd.R_far (p := ⟨gb530, 4, none⟩) (Kd.R_far (p := ⟨gb530, 3, none⟩) (Kd.R_far (p := ⟨gb530, 2, none⟩) (Kd.R_far (p := ⟨gb530, 1, none⟩) (Kd.R_far (p := ⟨gb530, 0, none⟩) (Kd.R_types HO545.out BK530.out (by decide)) (fun _ hk => hk.2) (.slice Ao55 t531.length co55)) (fun _ hk => hk.2) (.slice Ao61 t534.length co61)) (fun _ hk => hk.2) (.slice Ao62 t537.length co62)) (fun _ hk => hk.2) (.slice Ao63 t540.length co63)) (fun _ hk => hk.2) (.slice Ao64 t543.length co64)) (fun _ hk => hk.2) (.slice Ao65 t546.length co65)) (fun _ hk => hk.2) (.string t549)) (fun _ hk => hk.1.2.2)⟩, ⟨by (with_reducible repeat (first | apply Kd.R_alloc | apply Kd.R_drewN | apply Kd.R_drew)); exact Kd.R_mono (Kd.R_far (p := ⟨gb530, 6, none⟩) (Kd.R_far (p := ⟨gb530, 5, none⟩) (Kd.R_far (p := ⟨gb530, 4, none⟩) (Kd.R_far (p := ⟨gb530, 3, none⟩) (Kd.R_far (p := ⟨gb530, 2, none⟩) (Kd.R_far (p := ⟨gb530, 1, none⟩) (Kd.R_far (p := ⟨gb530, 0, none⟩) (Kd.R_types HO548.out BK530.out (by decide)) (fun _ hk => hk.2) (.slice Ao55 t531.length co55)) (fun _ hk => hk.2) (.slice Ao61 t534.length co61)) (fun _ hk => hk.2) (.slice Ao62 t537.length co62)) (fun _ hk => hk.2) (.slice Ao63 t540.length co63)) (fun _ hk => hk.2) (.slice Ao64 t543.length co64)) (fun _ hk => hk.2) (.slice Ao65 t546.length co65)) (fun _ hk => hk.2) (.string t549)) (fun _ hk => hk.1.2.2)⟩, ⟨by (with_reducible repeat (first | refine blk_drewN ?_ _ | refine blk_drew ?_ | refine blk_alloc ?_ _)); refine blk_far ?_ NB507_530.out _; (with_reducible repeat (first | refine blk_drewN ?_ _ | refine blk_drew ?_ | refine blk_alloc ?_ _)); refine blk_far ?_ NB507_530.out _; (with_reducible repeat (first | refine blk_drewN ?_ _ | refine blk_drew ?_ | refine blk_alloc ?_ _)); refine blk_far ?_ NB507_530.out _; (with_reducible repeat (first | refine blk_drewN ?_ _ | refine blk_drew ?_ | refine blk_alloc ?_ _)); refine blk_far ?_ NB507_530.out _; (with_reducible repeat (first | refine blk_drewN ?_ _ | refine blk_drew ?_ | refine blk_alloc ?_ _)); refine blk_far ?_ NB507_530.out _; (with_reducible repeat (first | refine blk_drewN ?_ _ | refine blk_drew ?_ | refine blk_alloc ?_ _)); refine blk_far ?_ NB507_530.out _; (with_reducible repeat (first | refine blk_drewN ?_ _ | refine blk_drew ?_ | refine blk_alloc ?_ _)); refine blk_far ?_ NB507_530.out _; (with_reducible repeat (first | refine blk_drewN ?_ _ | refine blk_drew ?_ | refine blk_alloc ?_ _)); exact BK507.out⟩, ⟨by (with_reducible repeat (first | refine blk_drewN ?_ _ | refine blk_drew ?_ | refine blk_alloc ?_ _)); refine blk_far ?_ NB508_530.out _; (with_reducible repeat (first | refine blk_drewN ?_ _ | refine blk_drew ?_ | refine blk_alloc ?_ _)); refine blk_far ?_ NB508_530.out _; (with_reducible repeat (first | refine blk_drewN ?_ _ | refine blk_drew ?_ | refine blk_alloc ?_ _)); refine blk_far ?_ NB508_530.out _; (with_reducible repeat (first | refine blk_drewN ?_ _ | refine blk_drew ?_ | refine blk_alloc ?_ _)); refine blk_far ?_ NB508_530.out _; (with_reducible repeat (first | refine blk_drewN ?_ _ | refine blk_drew ?_ | refine blk_alloc ?_ _)); refine blk_far ?_ NB508_530.out _; (with_reducible repeat (first | refine blk_drewN ?_ _ | refine blk_drew ?_ | refine blk_alloc ?_ _)); refine blk_far ?_ NB508_530.out _; (with_reducible repeat (first | refine blk_drewN ?_ _ | refine blk_drew ?_ | refine blk_alloc ?_ _)); refine blk_far ?_ NB508_530.out _; (with_reducible repeat (first | refine blk_drewN ?_ _ | refine blk_drew ?_ | refine blk_alloc ?_ _)); exact BK508.out⟩, ⟨by (with_reducible repeat (first | refine blk_drewN ?_ _ | refine blk_drew ?_ | refine blk_alloc ?_ _)); refine blk_far ?_ NB509_530.out _; (with_reducible repeat (first | refine blk_drewN ?_ _ | refine blk_drew ?_ | refine blk_alloc ?_ _)); refine blk_far ?_ NB509_530.out _; (with_reducible repeat (first | refine blk_drewN ?_ _ | refine blk_drew ?_ | refine blk_alloc ?_ _)); refine blk_far ?_ NB509_530.out _; (with_reducible repeat (first | refine blk_drewN ?_ _ | refine blk_drew ?_ | refine blk_alloc ?_ _)); refine blk_far ?_ NB509_530.out _; (with_reducible repeat (first | refine blk_drewN ?_ _ | refine blk_drew ?_ | refine blk_alloc ?_ _)); refine blk_far ?_ NB509_530.out _; (with_reducible repeat (first | refine blk_drewN ?_ _ | refine blk_drew ?_ | refine blk_alloc ?_ _)); refine blk_far ?_ NB509_530.out _; (with_reducible repeat (first | refine blk_drewN ?_ _ | refine blk_drew ?_ | refine blk_alloc ?_ _)); refine blk_far ?_ NB509_530.out _; (with_reducible repeat (first | refine blk_drewN ?_ _ | refine blk_drew ?_ | refine blk_alloc ?_ _)); exact BK509.out⟩, ⟨by (with_reducible repeat (first | refine blk_drewN ?_ _ | refine blk_drew ?_ | refine blk_alloc ?_ _)); refine blk_put (cs := #[.slice Ao55 t531.length co55, .slice Ao61 t534.length co61, .slice Ao62 t537.length co62, .slice Ao63 t540.length co63, .slice Ao64 t543.length co64, .slice Ao65 t546.length co65, .string x531006_3]) ?_ 6 _ rfl; (with_reducible repeat (first | refine blk_drewN ?_ _ | refine blk_drew ?_ | refine blk_alloc ?_ _)); refine blk_put (cs := #[.slice Ao55 t531.length co55, .slice Ao61 t534.length co61, .slice Ao62 t537.length co62, .slice Ao63 t540.length co63, .slice Ao64 t543.length co64, .slice Ao74 x531005_3.length co74, .string x531006_3]) ?_ 5 _ rfl; (with_reducible repeat (first | refine blk_drewN ?_ _ | refine blk_drew ?_ | refine blk_alloc ?_ _)); refine blk_put (cs := #[.slice Ao55 t531.length co55, .slice Ao61 t534.length co61, .slice Ao62 t537.length co62, .slice Ao63 t540.length co63, .slice Ao73 x531004_3.length co73, .slice Ao74 x531005_3.length co74, .string x531006_3]) ?_ 4 _ rfl; (with_reducible repeat (first | refine blk_drewN ?_ _ | refine blk_drew ?_ | refine blk_alloc ?_ _)); refine blk_put (cs := #[.slice Ao55 t531.length co55, .slice Ao61 t534.length co61, .slice Ao62 t537.length co62, .slice Ao72 x531003_3.length co72, .slice Ao73 x531004_3.length co73, .slice Ao74 x531005_3.length co74, .string x531006_3]) ?_ 3 _ rfl; (with_reducible repeat (first | refine blk_drewN ?_ _ | refine blk_drew ?_ | refine blk_alloc ?_ _)); refine blk_put (cs := #[.slice Ao55 t531.length co55, .slice Ao61 t534.length co61, .slice Ao71 x531002_3.length co71, .slice Ao72 x531003_3.length co72, .slice Ao73 x531004_3.length co73, .slice Ao74 x531005_3.length co74, .string x531006_3]) ?_ 2 _ rfl; (with_reducible repeat (first | refine blk_drewN ?_ _ | refine blk_drew ?_ | refine blk_alloc ?_ _)); refine blk_put (cs := #[.slice Ao55 t531.length co55, .slice Ao70 x531001_3.length co70, .slice Ao71 x531002_3.length co71, .slice Ao72 x531003_3.length co72, .slice Ao73 x531004_3.length co73, .slice Ao74 x531005_3.length co74, .string x531006_3]) ?_ 1 _ rfl; (with_reducible repeat (first | refine blk_drewN ?_ _ | refine blk_drew ?_ | refine blk_alloc ?_ _)); refine blk_put (cs := #[.slice Ao69 x531000_3.length co69, .slice Ao70 x531001_3.length co70, .slice Ao71 x531002_3.length co71, .slice Ao72 x531003_3.length co72, .slice Ao73 x531004_3.length co73, .slice Ao74 x531005_3.length co74, .string x531006_3]) ?_ 0 _ rfl; (with_reducible repeat (first | refine blk_drewN ?_ _ | refine blk_drew ?_ | refine blk_alloc ?_ _)); exact BK530.out⟩, ⟨by repeat (first | (with_reducible first | exact HB.out | apply below_alloc | apply pw_below_drewN | apply below_drew1 | refine below_set ?_ GE507.out | refine below_set ?_ GE508.out | refine below_set ?_ GE509.out | refine below_set ?_ GE530.out | refine below_set ?_ GE550.out) | exact HB.out)⟩⟩
                  · rw [if_neg c48] at H
                    have c48b0 : decide (t551 < t552) = false := decide_eq_false c48
                    clear c48
                    have H' := Aside0.mk H
                    clear H
                    have hnb80 := NB507_508.out
                    have hnc80 := NB508_507.out
                    have hnb81 := NB507_509.out
                    have hnc81 := NB509_507.out
                    have hnb82 := NB507_530.out
                    have hnc82 := NB530_507.out
                    have hcz83_0 : wr.cell? ⟨gb507, 0, none⟩ = some (.slice A0_0 l0_0.length c0_0) := (blk_cell BK507.out 0).trans rfl
                    have hcz83_1 : wr.cell? ⟨gb507, 1, none⟩ = some (.slice A0_1 l0_1.length c0_1) := (blk_cell BK507.out 1).trans rfl
                    have hcz83_2 : wr.cell? ⟨gb507, 2, none⟩ = some (.slice A0_2 l0_2.length c0_2) := (blk_cell BK507.out 2).trans rfl
                    have hfz83_0 := blk_frozen BK507.out 0
                    have hfz83_1 := blk_frozen BK507.out 1
                    have hfz83_2 := blk_frozen BK507.out 2
                    try go_wp2_with (first | ((with_reducible refine gate_callee (f := 50) rfl ?_); refine goesL_ (some 47) rfl rfl Try.func50 (by kernel_rfl) rfl #[.agg #[.slice A0_0 l0_0.length c0_0, .slice A0_1 l0_1.length c0_1, .slice A0_2 l0_2.length c0_2], .int .i64 x9_3] rfl (by (try simp only [List.map_toArray, List.map_cons, List.map_nil]); first | done | rfl | (simp only [List.length_drop, List.length_take]; rfl)) ?_; (with_reducible refine (node_cut.calls _ _ l0_0 _ _ l0_1 _ _ l0_2 x9_3 t531 t534 t537 t540 t543 t546 t549 _ ?side1 ?side2 ?side3 ?side4 ?side5 ?side6 A45.out).mono ?_); (case side1 => repeat (first | exact (Kd.C_below HR0_0.out HB.out) | (with_reducible refine Kd.C_alloc ?_ _) | (with_reducible refine Kd.C_drewN ?_ _) | (with_reducible refine Kd.C_drew ?_))); (case side2 => exact HC0_0.out); (case side3 => repeat (first | exact (Kd.C_below HR0_1.out HB.out) | (with_reducible refine Kd.C_alloc ?_ _) | (with_reducible refine Kd.C_drewN ?_ _) | (with_reducible refine Kd.C_drew ?_))); (case side4 => exact HC0_1.out); (case side5 => repeat (first | exact (Kd.C_below HR0_2.out HB.out) | (with_reducible refine Kd.C_alloc ?_ _) | (with_reducible refine Kd.C_drewN ?_ _) | (with_reducible refine Kd.C_drew ?_))); (case side6 => exact HC0_2.out); rintro e w84 ⟨v532, v535, v538, v541, v544, v547, rfl, ho0, ho1, ho2, ho3, ho4, ho5, hb⟩; refine ⟨_, rfl, ?_⟩; have HO533 := Aside0.mk (Kd.R_lower (Kd.R_new' (Kd.R_new' ho0 (Kd.R_lt (R_ HO_531000.out))) (Kd.R_lt (R_ HO_531003.out))) (below_size (L_ HB.out))); have HO536 := Aside0.mk (Kd.R_lower (Kd.R_new' (Kd.R_new' ho1 (Kd.R_lt (R_ HO_531001.out))) (Kd.R_lt (R_ HO_531004.out))) (below_size (L_ HB.out))); have HO539 := Aside0.mk (Kd.R_lower (Kd.R_new' (Kd.R_new' ho2 (Kd.R_lt (R_ HO_531002.out))) (Kd.R_lt (R_ HO_531005.out))) (below_size (L_ HB.out))); have HO542 := Aside0.mk (Kd.R_lower (Kd.R_new' (Kd.R_new' ho3 (Kd.R_lt (R_ HO_531000.out))) (Kd.R_lt (R_ HO_531003.out))) (below_size (L_ HB.out))); have HO545 := Aside0.mk (Kd.R_lower (Kd.R_new' (Kd.R_new' ho4 (Kd.R_lt (R_ HO_531001.out))) (Kd.R_lt (R_ HO_531004.out))) (below_size (L_ HB.out))); have HO548 := Aside0.mk (Kd.R_lower (Kd.R_new' (Kd.R_new' ho5 (Kd.R_lt (R_ HO_531002.out))) (Kd.R_lt (R_ HO_531005.out))) (below_size (L_ HB.out))); replace HO_531000 := Aside0.mk (Kd.R_mono (Kd.R_told (Kd.R_told (Kd.R_old (R_ HO_531000.out) hb) (Kd.R_base ho0)) (Kd.R_base ho3)) (fun _ h_ => h_.1)); replace HO_531001 := Aside0.mk (Kd.R_mono (Kd.R_told (Kd.R_told (Kd.R_old (R_ HO_531001.out) hb) (Kd.R_base ho1)) (Kd.R_base ho4)) (fun _ h_ => h_.1)); replace HO_531002 := Aside0.mk (Kd.R_mono (Kd.R_told (Kd.R_told (Kd.R_old (R_ HO_531002.out) hb) (Kd.R_base ho2)) (Kd.R_base ho5)) (fun _ h_ => h_.1)); replace HO_531003 := Aside0.mk (Kd.R_mono (Kd.R_told (Kd.R_told (Kd.R_old (R_ HO_531003.out) hb) (Kd.R_base ho0)) (Kd.R_base ho3)) (fun _ h_ => h_.1)); replace HO_531004 := Aside0.mk (Kd.R_mono (Kd.R_told (Kd.R_told (Kd.R_old (R_ HO_531004.out) hb) (Kd.R_base ho1)) (Kd.R_base ho4)) (fun _ h_ => h_.1)); replace HO_531005 := Aside0.mk (Kd.R_mono (Kd.R_told (Kd.R_told (Kd.R_old (R_ HO_531005.out) hb) (Kd.R_base ho2)) (Kd.R_base ho5)) (fun _ h_ => h_.1)); replace BK507 := Aside0.mk (blk_below (g := gb507) (o := .cells #[.slice A0_0 l0_0.length c0_0, .slice A0_1 l0_1.length c0_1, .slice A0_2 l0_2.length c0_2] 26 (0, 0)) (B_ BK507.out) hb); replace BK508 := Aside0.mk (blk_below (g := gb508) (o := .cells #[.slice none 0 0, .slice none 0 0, .slice none 0 0] 26 (0, 0)) (B_ BK508.out) hb); replace BK509 := Aside0.mk (blk_below (g := gb509) (o := .cells #[.slice none 0 0, .slice none 0 0, .slice none 0 0] 26 (0, 0)) (B_ BK509.out) hb); replace BK530 := Aside0.mk (blk_below (g := gb530) (o := .cells #[u531000, u531001, u531002, u531003, u531004, u531005, .string x531006_3] 81 (0, 0)) (B_ BK530.out) hb); replace HB := Aside0.mk (below_step (L_ HB.out) hb); (try clear hb); (try clear hb2); (try clear hk); (try clear hi); (try clear ho0); (try clear ho1); (try clear ho2); (try clear ho3); (try clear ho4); (try clear ho5)) | ((with_reducible refine gate_dst (N := 10) rfl ?_); refine box_event ?hg (N := 10) ?hd (cs := #[.slice none 0 0, .slice none 0 0, .slice none 0 0, .slice none 0 0, .slice none 0 0, .slice none 0 0, .string (⟨#[]⟩ : ByteArray)]) (t := 81) ?hr ?_; (case hd => rfl); (case hg => rfl); (case hr => first | (go_simp; done) | (go_simp; rfl)); intro gb550 hg w85 hbox hb; have BK550 := Aside0.mk (hbox); have GW550 := Aside0.mk ((by rw [hg]; exact (below_size (L_ HB.out)) : w.heap.size ≤ gb550)); have GE550 := Aside0.mk ((by rw [hg]; exact (below_size (L_ HB.out)) : w.heap.size ≤ gb550)); have NB507_550 := Aside0.mk ((by rw [hg]; exact Nat.ne_of_lt (blk_lt (g := gb507) (o := .cells #[.slice A0_0 l0_0.length c0_0, .slice A0_1 l0_1.length c0_1, .slice A0_2 l0_2.length c0_2] 26 (0, 0)) (B_ BK507.out)) : gb507 ≠ gb550)); have NB550_507 := Aside0.mk ((by rw [hg]; exact Nat.ne_of_gt (blk_lt (g := gb507) (o := .cells #[.slice A0_0 l0_0.length c0_0, .slice A0_1 l0_1.length c0_1, .slice A0_2 l0_2.length c0_2] 26 (0, 0)) (B_ BK507.out)) : gb550 ≠ gb507)); have NB508_550 := Aside0.mk ((by rw [hg]; exact Nat.ne_of_lt (blk_lt (g := gb508) (o := .cells #[.slice none 0 0, .slice none 0 0, .slice none 0 0] 26 (0, 0)) (B_ BK508.out)) : gb508 ≠ gb550)); have NB550_508 := Aside0.mk ((by rw [hg]; exact Nat.ne_of_gt (blk_lt (g := gb508) (o := .cells #[.slice none 0 0, .slice none 0 0, .slice none 0 0] 26 (0, 0)) (B_ BK508.out)) : gb550 ≠ gb508)); have NB509_550 := Aside0.mk ((by rw [hg]; exact Nat.ne_of_lt (blk_lt (g := gb509) (o := .cells #[.slice none 0 0, .slice none 0 0, .slice none 0 0] 26 (0, 0)) (B_ BK509.out)) : gb509 ≠ gb550)); have NB550_509 := Aside0.mk ((by rw [hg]; exact Nat.ne_of_gt (blk_lt (g := gb509) (o := .cells #[.slice none 0 0, .slice none 0 0, .slice none 0 0] 26 (0, 0)) (B_ BK509.out)) : gb550 ≠ gb509)); have NB530_550 := Aside0.mk ((by rw [hg]; exact Nat.ne_of_lt (blk_lt (g := gb530) (o := .cells #[u531000, u531001, u531002, u531003, u531004, u531005, .string x531006_3] 81 (0, 0)) (B_ BK530.out)) : gb530 ≠ gb550)); have NB550_530 := Aside0.mk ((by rw [hg]; exact Nat.ne_of_gt (blk_lt (g := gb530) (o := .cells #[u531000, u531001, u531002, u531003, u531004, u531005, .string x531006_3] 81 (0, 0)) (B_ BK530.out)) : gb550 ≠ gb530)); replace HO_531000 := Aside0.mk (Kd.R_below (R_ HO_531000.out) hb); replace HO_531001 := Aside0.mk (Kd.R_below (R_ HO_531001.out) hb); replace HO_531002 := Aside0.mk (Kd.R_below (R_ HO_531002.out) hb); replace HO_531003 := Aside0.mk (Kd.R_below (R_ HO_531003.out) hb); replace HO_531004 := Aside0.mk (Kd.R_below (R_ HO_531004.out) hb); replace HO_531005 := Aside0.mk (Kd.R_below (R_ HO_531005.out) hb); replace HO533 := Aside0.mk (Kd.R_below (R_ HO533.out) hb); replace HO536 := Aside0.mk (Kd.R_below (R_ HO536.out) hb); replace HO539 := Aside0.mk (Kd.R_below (R_ HO539.out) hb); replace HO542 := Aside0.mk (Kd.R_below (R_ HO542.out) hb); replace HO545 := Aside0.mk (Kd.R_below (R_ HO545.out) hb); replace HO548 := Aside0.mk (Kd.R_below (R_ HO548.out) hb); replace BK507 := Aside0.mk (blk_below (g := gb507) (o := .cells #[.slice A0_0 l0_0.length c0_0, .slice A0_1 l0_1.length c0_1, .slice A0_2 l0_2.length c0_2] 26 (0, 0)) (B_ BK507.out) hb); replace BK508 := Aside0.mk (blk_below (g := gb508) (o := .cells #[.slice none 0 0, .slice none 0 0, .slice none 0 0] 26 (0, 0)) (B_ BK508.out) hb); replace BK509 := Aside0.mk (blk_below (g := gb509) (o := .cells #[.slice none 0 0, .slice none 0 0, .slice none 0 0] 26 (0, 0)) (B_ BK509.out) hb); replace BK530 := Aside0.mk (blk_below (g := gb530) (o := .cells #[u531000, u531001, u531002, u531003, u531004, u531005, .string x531006_3] 81 (0, 0)) (B_ BK530.out) hb); replace HB := Aside0.mk (below_step (L_ HB.out) hb); clear hb hbox hg; obtain ⟨Ao86, co86, eo86⟩ := Kd.R_slice HO533.out; subst eo86; have hnb87 := NB550_507.out; have hnc87 := NB507_550.out; have hnb88 := NB550_508.out; have hnc88 := NB508_550.out; have hnb89 := NB550_509.out; have hnc89 := NB509_550.out; have hnb90 := NB550_530.out; have hnc90 := NB530_550.out; have hcz91_0 : w85.cell? ⟨gb550, 0, none⟩ = some (.slice none 0 0) := (blk_cell BK550.out 0).trans rfl; have hcz91_1 : w85.cell? ⟨gb550, 1, none⟩ = some (.slice none 0 0) := (blk_cell BK550.out 1).trans rfl; have hcz91_2 : w85.cell? ⟨gb550, 2, none⟩ = some (.slice none 0 0) := (blk_cell BK550.out 2).trans rfl; have hcz91_3 : w85.cell? ⟨gb550, 3, none⟩ = some (.slice none 0 0) := (blk_cell BK550.out 3).trans rfl; have hcz91_4 : w85.cell? ⟨gb550, 4, none⟩ = some (.slice none 0 0) := (blk_cell BK550.out 4).trans rfl; have hcz91_5 : w85.cell? ⟨gb550, 5, none⟩ = some (.slice none 0 0) := (blk_cell BK550.out 5).trans rfl; have hcz91_6 : w85.cell? ⟨gb550, 6, none⟩ = some (.string (⟨#[]⟩ : ByteArray)) := (blk_cell BK550.out 6).trans rfl; have hfz91_0 := blk_frozen BK550.out 0; have hfz91_1 := blk_frozen BK550.out 1; have hfz91_2 := blk_frozen BK550.out 2; have hfz91_3 := blk_frozen BK550.out 3; have hfz91_4 := blk_frozen BK550.out 4; have hfz91_5 := blk_frozen BK550.out 5; have hfz91_6 := blk_frozen BK550.out 6; obtain ⟨Ao92, co92, eo92⟩ := Kd.R_slice HO536.out; subst eo92; obtain ⟨Ao93, co93, eo93⟩ := Kd.R_slice HO539.out; subst eo93; obtain ⟨Ao94, co94, eo94⟩ := Kd.R_slice HO542.out; subst eo94; obtain ⟨Ao95, co95, eo95⟩ := Kd.R_slice HO545.out; subst eo95; obtain ⟨Ao96, co96, eo96⟩ := Kd.R_slice HO548.out; subst eo96))
                    have n0_ : Aside0 (Kd.R k39 39 (((((((w85.setCell ⟨gb550, 0, none⟩ (.slice Ao86 t531.length co86)).setCell ⟨gb550, 1, none⟩ (.slice Ao92 t534.length co92)).setCell ⟨gb550, 2, none⟩ (.slice Ao93 t537.length co93)).setCell ⟨gb550, 3, none⟩ (.slice Ao94 t540.length co94)).setCell ⟨gb550, 4, none⟩ (.slice Ao95 t543.length co95)).setCell ⟨gb550, 5, none⟩ (.slice Ao96 t546.length co96)).setCell ⟨gb550, 6, none⟩ (.string t549)) w.heap.size (fun k_ => some k_ ≠ (u531003 : Value).ownBlock ∧ some k_ ≠ (.slice Ao86 t531.length co86 : Value).ownBlock ∧ some k_ ≠ (.slice Ao94 t540.length co94 : Value).ownBlock) u531000 x531000_3) := ⟨by (with_reducible repeat (first | apply Kd.R_alloc | apply Kd.R_drewN | apply Kd.R_drew)); exact Kd.R_mono (Kd.R_far (p := ⟨gb550, 6, none⟩) (Kd.R_far (p := ⟨gb550, 5, none⟩) (Kd.R_far (p := ⟨gb550, 4, none⟩) (Kd.R_far (p := ⟨gb550, 3, none⟩) (Kd.R_far (p := ⟨gb550, 2, none⟩) (Kd.R_far (p := ⟨gb550, 1, none⟩) (Kd.R_far (p := ⟨gb550, 0, none⟩) (Kd.R_types HO_531000.out BK550.out (by decide)) (fun _ hk => hk.2) (.slice Ao86 t531.length co86)) (fun _ hk => hk.2) (.slice Ao92 t534.length co92)) (fun _ hk => hk.2) (.slice Ao93 t537.length co93)) (fun _ hk => hk.2) (.slice Ao94 t540.length co94)) (fun _ hk => hk.2) (.slice Ao95 t543.length co95)) (fun _ hk => hk.2) (.slice Ao96 t546.length co96)) (fun _ hk => hk.2) (.string t549)) (fun _ hk => ⟨hk.1.1.1, ⟨hk.1.1.2, hk.1.2⟩⟩)⟩
                    have n1_ : Aside0 (Kd.R Kd.string 9 (((((((w85.setCell ⟨gb550, 0, none⟩ (.slice Ao86 t531.length co86)).setCell ⟨gb550, 1, none⟩ (.slice Ao92 t534.length co92)).setCell ⟨gb550, 2, none⟩ (.slice Ao93 t537.length co93)).setCell ⟨gb550, 3, none⟩ (.slice Ao94 t540.length co94)).setCell ⟨gb550, 4, none⟩ (.slice Ao95 t543.length co95)).setCell ⟨gb550, 5, none⟩ (.slice Ao96 t546.length co96)).setCell ⟨gb550, 6, none⟩ (.string t549)) w.heap.size (fun k_ => some k_ ≠ (u531004 : Value).ownBlock ∧ some k_ ≠ (.slice Ao92 t534.length co92 : Value).ownBlock ∧ some k_ ≠ (.slice Ao95 t543.length co95 : Value).ownBlock) u531001 x531001_3) := ⟨by (with_reducible repeat (first | apply Kd.R_alloc | apply Kd.R_drewN | apply Kd.R_drew)); exact Kd.R_mono (Kd.R_far (p := ⟨gb550, 6, none⟩) (Kd.R_far (p := ⟨gb550, 5, none⟩) (Kd.R_far (p := ⟨gb550, 4, none⟩) (Kd.R_far (p := ⟨gb550, 3, none⟩) (Kd.R_far (p := ⟨gb550, 2, none⟩) (Kd.R_far (p := ⟨gb550, 1, none⟩) (Kd.R_far (p := ⟨gb550, 0, none⟩) (Kd.R_types HO_531001.out BK550.out (by decide)) (fun _ hk => hk.2) (.slice Ao86 t531.length co86)) (fun _ hk => hk.2) (.slice Ao92 t534.length co92)) (fun _ hk => hk.2) (.slice Ao93 t537.length co93)) (fun _ hk => hk.2) (.slice Ao94 t540.length co94)) (fun _ hk => hk.2) (.slice Ao95 t543.length co95)) (fun _ hk => hk.2) (.slice Ao96 t546.length co96)) (fun _ hk => hk.2) (.string t549)) (fun _ hk => ⟨hk.1.1.1, ⟨hk.1.1.2, hk.1.2⟩⟩)⟩
                    have n2_ : Aside0 (Kd.R (Kd.int .u32) 65 (((((((w85.setCell ⟨gb550, 0, none⟩ (.slice Ao86 t531.length co86)).setCell ⟨gb550, 1, none⟩ (.slice Ao92 t534.length co92)).setCell ⟨gb550, 2, none⟩ (.slice Ao93 t537.length co93)).setCell ⟨gb550, 3, none⟩ (.slice Ao94 t540.length co94)).setCell ⟨gb550, 4, none⟩ (.slice Ao95 t543.length co95)).setCell ⟨gb550, 5, none⟩ (.slice Ao96 t546.length co96)).setCell ⟨gb550, 6, none⟩ (.string t549)) w.heap.size (fun k_ => some k_ ≠ (u531005 : Value).ownBlock ∧ some k_ ≠ (.slice Ao93 t537.length co93 : Value).ownBlock ∧ some k_ ≠ (.slice Ao96 t546.length co96 : Value).ownBlock) u531002 x531002_3) := ⟨by (with_reducible repeat (first | apply Kd.R_alloc | apply Kd.R_drewN | apply Kd.R_drew)); exact Kd.R_mono (Kd.R_far (p := ⟨gb550, 6, none⟩) (Kd.R_far (p := ⟨gb550, 5, none⟩) (Kd.R_far (p := ⟨gb550, 4, none⟩) (Kd.R_far (p := ⟨gb550, 3, none⟩) (Kd.R_far (p := ⟨gb550, 2, none⟩) (Kd.R_far (p := ⟨gb550, 1, none⟩) (Kd.R_far (p := ⟨gb550, 0, none⟩) (Kd.R_types HO_531002.out BK550.out (by decide)) (fun _ hk => hk.2) (.slice Ao86 t531.length co86)) (fun _ hk => hk.2) (.slice Ao92 t534.length co92)) (fun _ hk => hk.2) (.slice Ao93 t537.length co93)) (fun _ hk => hk.2) (.slice Ao94 t540.length co94)) (fun _ hk => hk.2) (.slice Ao95 t543.length co95)) (fun _ hk => hk.2) (.slice Ao96 t546.length co96)) (fun _ hk => hk.2) (.string t549)) (fun _ hk => ⟨hk.1.1.1, ⟨hk.1.1.2, hk.1.2⟩⟩)⟩
                    have n3_ : Aside0 (Kd.R k39 39 (((((((w85.setCell ⟨gb550, 0, none⟩ (.slice Ao86 t531.length co86)).setCell ⟨gb550, 1, none⟩ (.slice Ao92 t534.length co92)).setCell ⟨gb550, 2, none⟩ (.slice Ao93 t537.length co93)).setCell ⟨gb550, 3, none⟩ (.slice Ao94 t540.length co94)).setCell ⟨gb550, 4, none⟩ (.slice Ao95 t543.length co95)).setCell ⟨gb550, 5, none⟩ (.slice Ao96 t546.length co96)).setCell ⟨gb550, 6, none⟩ (.string t549)) w.heap.size (fun k_ => some k_ ≠ (u531000 : Value).ownBlock ∧ some k_ ≠ (.slice Ao86 t531.length co86 : Value).ownBlock ∧ some k_ ≠ (.slice Ao94 t540.length co94 : Value).ownBlock) u531003 x531003_3) := ⟨by (with_reducible repeat (first | apply Kd.R_alloc | apply Kd.R_drewN | apply Kd.R_drew)); exact Kd.R_mono (Kd.R_far (p := ⟨gb550, 6, none⟩) (Kd.R_far (p := ⟨gb550, 5, none⟩) (Kd.R_far (p := ⟨gb550, 4, none⟩) (Kd.R_far (p := ⟨gb550, 3, none⟩) (Kd.R_far (p := ⟨gb550, 2, none⟩) (Kd.R_far (p := ⟨gb550, 1, none⟩) (Kd.R_far (p := ⟨gb550, 0, none⟩) (Kd.R_types HO_531003.out BK550.out (by decide)) (fun _ hk => hk.2) (.slice Ao86 t531.length co86)) (fun _ hk => hk.2) (.slice Ao92 t534.length co92)) (fun _ hk => hk.2) (.slice Ao93 t537.length co93)) (fun _ hk => hk.2) (.slice Ao94 t540.length co94)) (fun _ hk => hk.2) (.slice Ao95 t543.length co95)) (fun _ hk => hk.2) (.slice Ao96 t546.length co96)) (fun _ hk => hk.2) (.string t549)) (fun _ hk => ⟨hk.1.1.1, ⟨hk.1.1.2, hk.1.2⟩⟩)⟩
                    have n4_ : Aside0 (Kd.R Kd.string 9 (((((((w85.setCell ⟨gb550, 0, none⟩ (.slice Ao86 t531.length co86)).setCell ⟨gb550, 1, none⟩ (.slice Ao92 t534.length co92)).setCell ⟨gb550, 2, none⟩ (.slice Ao93 t537.length co93)).setCell ⟨gb550, 3, none⟩ (.slice Ao94 t540.length co94)).setCell ⟨gb550, 4, none⟩ (.slice Ao95 t543.length co95)).setCell ⟨gb550, 5, none⟩ (.slice Ao96 t546.length co96)).setCell ⟨gb550, 6, none⟩ (.string t549)) w.heap.size (fun k_ => some k_ ≠ (u531001 : Value).ownBlock ∧ some k_ ≠ (.slice Ao92 t534.length co92 : Value).ownBlock ∧ some k_ ≠ (.slice Ao95 t543.length co95 : Value).ownBlock) u531004 x531004_3) := ⟨by (with_reducible repeat (first | apply Kd.R_alloc | apply Kd.R_drewN | apply Kd.R_drew)); exact Kd.R_mono (Kd.R_far (p := ⟨gb550, 6, none⟩) (Kd.R_far (p := ⟨gb550, 5, none⟩) (Kd.R_far (p := ⟨gb550, 4, none⟩) (Kd.R_far (p := ⟨gb550, 3, none⟩) (Kd.R_far (p := ⟨gb550, 2, none⟩) (Kd.R_far (p := ⟨gb550, 1, none⟩) (Kd.R_far (p := ⟨gb550, 0, none⟩) (Kd.R_types HO_531004.out BK550.out (by decide)) (fun _ hk => hk.2) (.slice Ao86 t531.length co86)) (fun _ hk => hk.2) (.slice Ao92 t534.length co92)) (fun _ hk => hk.2) (.slice Ao93 t537.length co93)) (fun _ hk => hk.2) (.slice Ao94 t540.length co94)) (fun _ hk => hk.2) (.slice Ao95 t543.length co95)) (fun _ hk => hk.2) (.slice Ao96 t546.length co96)) (fun _ hk => hk.2) (.string t549)) (fun _ hk => ⟨hk.1.1.1, ⟨hk.1.1.2, hk.1.2⟩⟩)⟩
                    have n5_ : Aside0 (Kd.R (Kd.int .u32) 65 (((((((w85.setCell ⟨gb550, 0, none⟩ (.slice Ao86 t531.length co86)).setCell ⟨gb550, 1, none⟩ (.slice Ao92 t534.length co92)).setCell ⟨gb550, 2, none⟩ (.slice Ao93 t537.length co93)).setCell ⟨gb550, 3, none⟩ (.slice Ao94 t540.length co94)).setCell ⟨gb550, 4, none⟩ (.slice Ao95 t543.length co95)).setCell ⟨gb550, 5, none⟩ (.slice Ao96 t546.length co96)).setCell ⟨gb550, 6, none⟩ (.string t549)) w.heap.size (fun k_ => some k_ ≠ (u531002 : Value).ownBlock ∧ some k_ ≠ (.slice Ao93 t537.length co93 : Value).ownBlock ∧ some k_ ≠ (.slice Ao96 t546.length co96 : Value).ownBlock) u531005 x531005_3) := ⟨by (with_reducible repeat (first | apply Kd.R_alloc | apply Kd.R_drewN | apply Kd.R_drew)); exact Kd.R_mono (Kd.R_far (p := ⟨gb550, 6, none⟩) (Kd.R_far (p := ⟨gb550, 5, none⟩) (Kd.R_far (p := ⟨gb550, 4, none⟩) (Kd.R_far (p := ⟨gb550, 3, none⟩) (Kd.R_far (p := ⟨gb550, 2, none⟩) (Kd.R_far (p := ⟨gb550, 1, none⟩) (Kd.R_far (p := ⟨gb550, 0, none⟩) (Kd.R_types HO_531005.out BK550.out (by decide)) (fun _ hk => hk.2) (.slice Ao86 t531.length co86)) (fun _ hk => hk.2) (.slice Ao92 t534.length co92)) (fun _ hk => hk.2) (.slice Ao93 t537.length co93)) (fun _ hk => hk.2) (.slice Ao94 t540.length co94)) (fun _ hk => hk.2) (.slice Ao95 t543.length co95)) (fun _ hk => hk.2) (.slice Ao96 t546.length co96)) (fun _ hk => hk.2) (.string t549)) (fun _ hk => ⟨hk.1.1.1, ⟨hk.1.1.2, hk.1.2⟩⟩)⟩
                    have n6_ : Aside0 (Kd.R k39 39 (((((((w85.setCell ⟨gb550, 0, none⟩ (.slice Ao86 t531.length co86)).setCell ⟨gb550, 1, none⟩ (.slice Ao92 t534.length co92)).setCell ⟨gb550, 2, none⟩ (.slice Ao93 t537.length co93)).setCell ⟨gb550, 3, none⟩ (.slice Ao94 t540.length co94)).setCell ⟨gb550, 4, none⟩ (.slice Ao95 t543.length co95)).setCell ⟨gb550, 5, none⟩ (.slice Ao96 t546.length co96)).setCell ⟨gb550, 6, none⟩ (.string t549)) w.heap.size (fun k_ => some k_ ≠ (u531000 : Value).ownBlock ∧ some k_ ≠ (u531003 : Value).ownBlock ∧ some k_ ≠ (.slice Ao94 t540.length co94 : Value).ownBlock) (.slice Ao86 t531.length co86) t531) := ⟨by (with_reducible repeat (first | apply Kd.R_alloc | apply Kd.R_drewN | apply Kd.R_drew)); exact Kd.R_mono (Kd.R_far (p := ⟨gb550, 6, none⟩) (Kd.R_far (p := ⟨gb550, 5, none⟩) (Kd.R_far (p := ⟨gb550, 4, none⟩) (Kd.R_far (p := ⟨gb550, 3, none⟩) (Kd.R_far (p := ⟨gb550, 2, none⟩) (Kd.R_far (p := ⟨gb550, 1, none⟩) (Kd.R_far (p := ⟨gb550, 0, none⟩) (Kd.R_types HO533.out BK550.out (by decide)) (fun _ hk => hk.2) (.slice Ao86 t531.length co86)) (fun _ hk => hk.2) (.slice Ao92 t534.length co92)) (fun _ hk => hk.2) (.slice Ao93 t537.length co93)) (fun _ hk => hk.2) (.slice Ao94 t540.length co94)) (fun _ hk => hk.2) (.slice Ao95 t543.length co95)) (fun _ hk => hk.2) (.slice Ao96 t546.length co96)) (fun _ hk => hk.2) (.string t549)) (fun _ hk => ⟨hk.1.1.2, ⟨hk.1.2, hk.1.1.1⟩⟩)⟩
                    have n7_ : Aside0 (Kd.R Kd.string 9 (((((((w85.setCell ⟨gb550, 0, none⟩ (.slice Ao86 t531.length co86)).setCell ⟨gb550, 1, none⟩ (.slice Ao92 t534.length co92)).setCell ⟨gb550, 2, none⟩ (.slice Ao93 t537.length co93)).setCell ⟨gb550, 3, none⟩ (.slice Ao94 t540.length co94)).setCell ⟨gb550, 4, none⟩ (.slice Ao95 t543.length co95)).setCell ⟨gb550, 5, none⟩ (.slice Ao96 t546.length co96)).setCell ⟨gb550, 6, none⟩ (.string t549)) w.heap.size (fun k_ => some k_ ≠ (u531001 : Value).ownBlock ∧ some k_ ≠ (u531004 : Value).ownBlock ∧ some k_ ≠ (.slice Ao95 t543.length co95 : Value).ownBlock) (.slice Ao92 t534.length co92) t534) := ⟨by (with_reducible repeat (first | apply Kd.R_alloc | apply Kd.R_drewN | apply Kd.R_drew)); exact Kd.R_mono (Kd.R_far (p := ⟨gb550, 6, none⟩) (Kd.R_far (p := ⟨gb550, 5, none⟩) (Kd.R_far (p := ⟨gb550, 4, none⟩) (Kd.R_far (p := ⟨gb550, 3, none⟩) (Kd.R_far (p := ⟨gb550, 2, none⟩) (Kd.R_far (p := ⟨gb550, 1, none⟩) (Kd.R_far (p := ⟨gb550, 0, none⟩) (Kd.R_types HO536.out BK550.out (by decide)) (fun _ hk => hk.2) (.slice Ao86 t531.length co86)) (fun _ hk => hk.2) (.slice Ao92 t534.length co92)) (fun _ hk => hk.2) (.slice Ao93 t537.length co93)) (fun _ hk => hk.2) (.slice Ao94 t540.length co94)) (fun _ hk => hk.2) (.slice Ao95 t543.length co95)) (fun _ hk => hk.2) (.slice Ao96 t546.length co96)) (fun _ hk => hk.2) (.string t549)) (fun _ hk => ⟨hk.1.1.2, ⟨hk.1.2, hk.1.1.1⟩⟩)⟩
                    have n8_ : Aside0 (Kd.R (Kd.int .u32) 65 (((((((w85.setCell ⟨gb550, 0, none⟩ (.slice Ao86 t531.length co86)).setCell ⟨gb550, 1, none⟩ (.slice Ao92 t534.length co92)).setCell ⟨gb550, 2, none⟩ (.slice Ao93 t537.length co93)).setCell ⟨gb550, 3, none⟩ (.slice Ao94 t540.length co94)).setCell ⟨gb550, 4, none⟩ (.slice Ao95 t543.length co95)).setCell ⟨gb550, 5, none⟩ (.slice Ao96 t546.length co96)).setCell ⟨gb550, 6, none⟩ (.string t549)) w.heap.size (fun k_ => some k_ ≠ (u531002 : Value).ownBlock ∧ some k_ ≠ (u531005 : Value).ownBlock ∧ some k_ ≠ (.slice Ao96 t546.length co96 : Value).ownBlock) (.slice Ao93 t537.length co93) t537) := ⟨by (with_reducible repeat (first | apply Kd.R_alloc | apply Kd.R_drewN | apply Kd.R_drew)); exact Kd.R_mono (Kd.R_far (p := ⟨gb550, 6, none⟩) (Kd.R_far (p := ⟨gb550, 5, none⟩) (Kd.R_far (p := ⟨gb550, 4, none⟩) (Kd.R_far (p := ⟨gb550, 3, none⟩) (Kd.R_far (p := ⟨gb550, 2, none⟩) (Kd.R_far (p := ⟨gb550, 1, none⟩) (Kd.R_far (p := ⟨gb550, 0, none⟩) (Kd.R_types HO539.out BK550.out (by decide)) (fun _ hk => hk.2) (.slice Ao86 t531.length co86)) (fun _ hk => hk.2) (.slice Ao92 t534.length co92)) (fun _ hk => hk.2) (.slice Ao93 t537.length co93)) (fun _ hk => hk.2) (.slice Ao94 t540.length co94)) (fun _ hk => hk.2) (.slice Ao95 t543.length co95)) (fun _ hk => hk.2) (.slice Ao96 t546.length co96)) (fun _ hk => hk.2) (.string t549)) (fun _ hk => ⟨hk.1.1.2, ⟨hk.1.2, hk.1.1.1⟩⟩)⟩
                    have n9_ : Aside0 (Kd.R k39 39 (((((((w85.setCell ⟨gb550, 0, none⟩ (.slice Ao86 t531.length co86)).setCell ⟨gb550, 1, none⟩ (.slice Ao92 t534.length co92)).setCell ⟨gb550, 2, none⟩ (.slice Ao93 t537.length co93)).setCell ⟨gb550, 3, none⟩ (.slice Ao94 t540.length co94)).setCell ⟨gb550, 4, none⟩ (.slice Ao95 t543.length co95)).setCell ⟨gb550, 5, none⟩ (.slice Ao96 t546.length co96)).setCell ⟨gb550, 6, none⟩ (.string t549)) w.heap.size (fun k_ => some k_ ≠ (u531000 : Value).ownBlock ∧ some k_ ≠ (u531003 : Value).ownBlock ∧ some k_ ≠ (.slice Ao86 t531.length co86 : Value).ownBlock) (.slice Ao94 t540.length co94) t540) := ⟨by (with_reducible repeat (first | apply Kd.R_alloc | apply Kd.R_drewN | apply Kd.R_drew)); exact Kd.R_mono (Kd.R_far (p := ⟨gb550, 6, none⟩) (Kd.R_far (p := ⟨gb550, 5, none⟩) (Kd.R_far (p := ⟨gb550, 4, none⟩) (Kd.R_far (p := ⟨gb550, 3, none⟩) (Kd.R_far (p := ⟨gb550, 2, none⟩) (Kd.R_far (p := ⟨gb550, 1, none⟩) (Kd.R_far (p := ⟨gb550, 0, none⟩) (Kd.R_types HO542.out BK550.out (by decide)) (fun _ hk => hk.2) (.slice Ao86 t531.length co86)) (fun _ hk => hk.2) (.slice Ao92 t534.length co92)) (fun _ hk => hk.2) (.slice Ao93 t537.length co93)) (fun _ hk => hk.2) (.slice Ao94 t540.length co94)) (fun _ hk => hk.2) (.slice Ao95 t543.length co95)) (fun _ hk => hk.2) (.slice Ao96 t546.length co96)) (fun _ hk => hk.2) (.string t549)) (fun _ hk => ⟨hk.1.1.2, ⟨hk.1.2, hk.1.1.1⟩⟩)⟩
                    have n10_ : Aside0 (Kd.R Kd.string 9 (((((((w85.setCell ⟨gb550, 0, none⟩ (.slice Ao86 t531.length co86)).setCell ⟨gb550, 1, none⟩ (.slice Ao92 t534.length co92)).setCell ⟨gb550, 2, none⟩ (.slice Ao93 t537.length co93)).setCell ⟨gb550, 3, none⟩ (.slice Ao94 t540.length co94)).setCell ⟨gb550, 4, none⟩ (.slice Ao95 t543.length co95)).setCell ⟨gb550, 5, none⟩ (.slice Ao96 t546.length co96)).setCell ⟨gb550, 6, none⟩ (.string t549)) w.heap.size (fun k_ => some k_ ≠ (u531001 : Value).ownBlock ∧ some k_ ≠ (u531004 : Value).ownBlock ∧ some k_ ≠ (.slice Ao92 t534.length co92 : Value).ownBlock) (.slice Ao95 t543.length co95) t543) := ⟨by (with_reducible repeat (first | apply Kd.R_alloc | apply Kd.R_drewN | apply Kd.R_drew)); exact Kd.R_mono (Kd.R_far (p := ⟨gb550, 6, none⟩) (Kd.R_far (p := ⟨gb550, 5, none⟩) (Kd.R_far (p := ⟨gb550, 4, none⟩) (Kd.R_far (p := ⟨gb550, 3, none⟩) (Kd.R_far (p := ⟨gb550, 2, none⟩) (Kd.R_far (p := ⟨gb550, 1, none⟩) (Kd.R_far (p := ⟨gb550, 0, none⟩) (Kd.R_types HO545.out BK550.out (by decide)) (fun _ hk => hk.2) (.slice Ao86 t531.length co86)) (fun _ hk => hk.2) (.slice Ao92 t534.length co92)) (fun _ hk => hk.2) (.slice Ao93 t537.length co93)) (fun _ hk => hk.2) (.slice Ao94 t540.length co94)) (fun _ hk => hk.2) (.slice Ao95 t543.length co95)) (fun _ hk => hk.2) (.slice Ao96 t546.length co96)) (fun _ hk => hk.2) (.string t549)) (fun _ hk => ⟨hk.1.1.2, ⟨hk.1.2, hk.1.1.1⟩⟩)⟩
                    have n11_ : Aside0 (Kd.R (Kd.int .u32) 65 (((((((w85.setCell ⟨gb550, 0, none⟩ (.slice Ao86 t531.length co86)).setCell ⟨gb550, 1, none⟩ (.slice Ao92 t534.length co92)).setCell ⟨gb550, 2, none⟩ (.slice Ao93 t537.length co93)).setCell ⟨gb550, 3, none⟩ (.slice Ao94 t540.length co94)).setCell ⟨gb550, 4, none⟩ (.slice Ao95 t543.length co95)).setCell ⟨gb550, 5, none⟩ (.slice Ao96 t546.length co96)).setCell ⟨gb550, 6, none⟩ (.string t549)) w.heap.size (fun k_ => some k_ ≠ (u531002 : Value).ownBlock ∧ some k_ ≠ (u531005 : Value).ownBlock ∧ some k_ ≠ (.slice Ao93 t537.length co93 : Value).ownBlock) (.slice Ao96 t546.length co96) t546) := ⟨by (with_reducible repeat (first | apply Kd.R_alloc | apply Kd.R_drewN | apply Kd.R_drew)); exact Kd.R_mono (Kd.R_far (p := ⟨gb550, 6, none⟩) (Kd.R_far (p := ⟨gb550, 5, none⟩) (Kd.R_far (p := ⟨gb550, 4, none⟩) (Kd.R_far (p := ⟨gb550, 3, none⟩) (Kd.R_far (p := ⟨gb550, 2, none⟩) (Kd.R_far (p := ⟨gb550, 1, none⟩) (Kd.R_far (p := ⟨gb550, 0, none⟩) (Kd.R_types HO548.out BK550.out (by decide)) (fun _ hk => hk.2) (.slice Ao86 t531.length co86)) (fun _ hk => hk.2) (.slice Ao92 t534.length co92)) (fun _ hk => hk.2) (.slice Ao93 t537.length co93)) (fun _ hk => hk.2) (.slice Ao94 t540.length co94)) (fun _ hk => hk.2) (.slice Ao95 t543.length co95)) (fun _ hk => hk.2) (.slice Ao96 t546.length co96)) (fun _ hk => hk.2) (.string t549)) (fun _ hk => ⟨hk.1.1.2, ⟨hk.1.2, hk.1.1.1⟩⟩)⟩
                    have n12_ : Aside0 ((((((((w85.setCell ⟨gb550, 0, none⟩ (.slice Ao86 t531.length co86)).setCell ⟨gb550, 1, none⟩ (.slice Ao92 t534.length co92)).setCell ⟨gb550, 2, none⟩ (.slice Ao93 t537.length co93)).setCell ⟨gb550, 3, none⟩ (.slice Ao94 t540.length co94)).setCell ⟨gb550, 4, none⟩ (.slice Ao95 t543.length co95)).setCell ⟨gb550, 5, none⟩ (.slice Ao96 t546.length co96)).setCell ⟨gb550, 6, none⟩ (.string t549)).heap[gb507]? = some (.cells #[.slice A0_0 l0_0.length c0_0, .slice A0_1 l0_1.length c0_1, .slice A0_2 l0_2.length c0_2] 26 (0, 0))) := ⟨by (with_reducible repeat (first | refine blk_drewN ?_ _ | refine blk_drew ?_ | refine blk_alloc ?_ _)); refine blk_far ?_ NB507_550.out _; (with_reducible repeat (first | refine blk_drewN ?_ _ | refine blk_drew ?_ | refine blk_alloc ?_ _)); refine blk_far ?_ NB507_550.out _; (with_reducible repeat (first | refine blk_drewN ?_ _ | refine blk_drew ?_ | refine blk_alloc ?_ _)); refine blk_far ?_ NB507_550.out _; (with_reducible repeat (first | refine blk_drewN ?_ _ | refine blk_drew ?_ | refine blk_alloc ?_ _)); refine blk_far ?_ NB507_550.out _; (with_reducible repeat (first | refine blk_drewN ?_ _ | refine blk_drew ?_ | refine blk_alloc ?_ _)); refine blk_far ?_ NB507_550.out _; (with_reducible repeat (first | refine blk_drewN ?_ _ | refine blk_drew ?_ | refine blk_alloc ?_ _)); refine blk_far ?_ NB507_550.out _; (with_reducible repeat (first | refine blk_drewN ?_ _ | refine blk_drew ?_ | refine blk_alloc ?_ _)); refine blk_far ?_ NB507_550.out _; (with_reducible repeat (first | refine blk_drewN ?_ _ | refine blk_drew ?_ | refine blk_alloc ?_ _)); exact BK507.out⟩
                    have n13_ : Aside0 ((((((((w85.setCell ⟨gb550, 0, none⟩ (.slice Ao86 t531.length co86)).setCell ⟨gb550, 1, none⟩ (.slice Ao92 t534.length co92)).setCell ⟨gb550, 2, none⟩ (.slice Ao93 t537.length co93)).setCell ⟨gb550, 3, none⟩ (.slice Ao94 t540.length co94)).setCell ⟨gb550, 4, none⟩ (.slice Ao95 t543.length co95)).setCell ⟨gb550, 5, none⟩ (.slice Ao96 t546.length co96)).setCell ⟨gb550, 6, none⟩ (.string t549)).heap[gb508]? = some (.cells #[.slice none 0 0, .slice none 0 0, .slice none 0 0] 26 (0, 0))) := ⟨by (with_reducible repeat (first | refine blk_drewN ?_ _ | refine blk_drew ?_ | refine blk_alloc ?_ _)); refine blk_far ?_ NB508_550.out _; (with_reducible repeat (first | refine blk_drewN ?_ _ | refine blk_drew ?_ | refine blk_alloc ?_ _)); refine blk_far ?_ NB508_550.out _; (with_reducible repeat (first | refine blk_drewN ?_ _ | refine blk_drew ?_ | refine blk_alloc ?_ _)); refine blk_far ?_ NB508_550.out _; (with_reducible repeat (first | refine blk_drewN ?_ _ | refine blk_drew ?_ | refine blk_alloc ?_ _)); refine blk_far ?_ NB508_550.out _; (with_reducible repeat (first | refine blk_drewN ?_ _ | refine blk_drew ?_ | refine blk_alloc ?_ _)); refine blk_far ?_ NB508_550.out _; (with_reducible repeat (first | refine blk_drewN ?_ _ | refine blk_drew ?_ | refine blk_alloc ?_ _)); refine blk_far ?_ NB508_550.out _; (with_reducible repeat (first | refine blk_drewN ?_ _ | refine blk_drew ?_ | refine blk_alloc ?_ _)); refine blk_far ?_ NB508_550.out _; (with_reducible repeat (first | refine blk_drewN ?_ _ | refine blk_drew ?_ | refine blk_alloc ?_ _)); exact BK508.out⟩
                    have n14_ : Aside0 ((((((((w85.setCell ⟨gb550, 0, none⟩ (.slice Ao86 t531.length co86)).setCell ⟨gb550, 1, none⟩ (.slice Ao92 t534.length co92)).setCell ⟨gb550, 2, none⟩ (.slice Ao93 t537.length co93)).setCell ⟨gb550, 3, none⟩ (.slice Ao94 t540.length co94)).setCell ⟨gb550, 4, none⟩ (.slice Ao95 t543.length co95)).setCell ⟨gb550, 5, none⟩ (.slice Ao96 t546.length co96)).setCell ⟨gb550, 6, none⟩ (.string t549)).heap[gb509]? = some (.cells #[.slice none 0 0, .slice none 0 0, .slice none 0 0] 26 (0, 0))) := ⟨by (with_reducible repeat (first | refine blk_drewN ?_ _ | refine blk_drew ?_ | refine blk_alloc ?_ _)); refine blk_far ?_ NB509_550.out _; (with_reducible repeat (first | refine blk_drewN ?_ _ | refine blk_drew ?_ | refine blk_alloc ?_ _)); refine blk_far ?_ NB509_550.out _; (with_reducible repeat (first | refine blk_drewN ?_ _ | refine blk_drew ?_ | refine blk_alloc ?_ _)); refine blk_far ?_ NB509_550.out _; (with_reducible repeat (first | refine blk_drewN ?_ _ | refine blk_drew ?_ | refine blk_alloc ?_ _)); refine blk_far ?_ NB509_550.out _; (with_reducible repeat (first | refine blk_drewN ?_ _ | refine blk_drew ?_ | refine blk_alloc ?_ _)); refine blk_far ?_ NB509_550.out _; (with_reducible repeat (first | refine blk_drewN ?_ _ | refine blk_drew ?_ | refine blk_alloc ?_ _)); refine blk_far ?_ NB509_550.out _; (with_reducible repeat (first | refine blk_drewN ?_ _ | refine blk_drew ?_ | refine blk_alloc ?_ _)); refine blk_far ?_ NB509_550.out _; (with_reducible repeat (first | refine blk_drewN ?_ _ | refine blk_drew ?_ | refine blk_alloc ?_ _)); exact BK509.out⟩
                    have n15_ : Aside0 ((((((((w85.setCell ⟨gb550, 0, none⟩ (.slice Ao86 t531.length co86)).setCell ⟨gb550, 1, none⟩ (.slice Ao92 t534.length co92)).setCell ⟨gb550, 2, none⟩ (.slice Ao93 t537.length co93)).setCell ⟨gb550, 3, none⟩ (.slice Ao94 t540.length co94)).setCell ⟨gb550, 4, none⟩ (.slice Ao95 t543.length co95)).setCell ⟨gb550, 5, none⟩ (.slice Ao96 t546.length co96)).setCell ⟨gb550, 6, none⟩ (.string t549)).heap[gb530]? = some (.cells #[u531000, u531001, u531002, u531003, u531004, u531005, .string x531006_3] 81 (0, 0))) := ⟨by (with_reducible repeat (first | refine blk_drewN ?_ _ | refine blk_drew ?_ | refine blk_alloc ?_ _)); refine blk_far ?_ NB530_550.out _; (with_reducible repeat (first | refine blk_drewN ?_ _ | refine blk_drew ?_ | refine blk_alloc ?_ _)); refine blk_far ?_ NB530_550.out _; (with_reducible repeat (first | refine blk_drewN ?_ _ | refine blk_drew ?_ | refine blk_alloc ?_ _)); refine blk_far ?_ NB530_550.out _; (with_reducible repeat (first | refine blk_drewN ?_ _ | refine blk_drew ?_ | refine blk_alloc ?_ _)); refine blk_far ?_ NB530_550.out _; (with_reducible repeat (first | refine blk_drewN ?_ _ | refine blk_drew ?_ | refine blk_alloc ?_ _)); refine blk_far ?_ NB530_550.out _; (with_reducible repeat (first | refine blk_drewN ?_ _ | refine blk_drew ?_ | refine blk_alloc ?_ _)); refine blk_far ?_ NB530_550.out _; (with_reducible repeat (first | refine blk_drewN ?_ _ | refine blk_drew ?_ | refine blk_alloc ?_ _)); refine blk_far ?_ NB530_550.out _; (with_reducible repeat (first | refine blk_drewN ?_ _ | refine blk_drew ?_ | refine blk_alloc ?_ _)); exact BK530.out⟩
                    have n16_ : Aside0 ((((((((w85.setCell ⟨gb550, 0, none⟩ (.slice Ao86 t531.length co86)).setCell ⟨gb550, 1, none⟩ (.slice Ao92 t534.length co92)).setCell ⟨gb550, 2, none⟩ (.slice Ao93 t537.length co93)).setCell ⟨gb550, 3, none⟩ (.slice Ao94 t540.length co94)).setCell ⟨gb550, 4, none⟩ (.slice Ao95 t543.length co95)).setCell ⟨gb550, 5, none⟩ (.slice Ao96 t546.length co96)).setCell ⟨gb550, 6, none⟩ (.string t549)).heap[gb550]? = some (.cells #[.slice Ao86 t531.length co86, .slice Ao92 t534.length co92, .slice Ao93 t537.length co93, .slice Ao94 t540.length co94, .slice Ao95 t543.length co95, .slice Ao96 t546.length co96, .string t549] 81 (0, 0))) := ⟨by (with_reducible repeat (first | refine blk_drewN ?_ _ | refine blk_drew ?_ | refine blk_alloc ?_ _)); refine blk_put (cs := #[.slice Ao86 t531.length co86, .slice Ao92 t534.length co92, .slice Ao93 t537.length co93, .slice Ao94 t540.length co94, .slice Ao95 t543.length co95, .slice Ao96 t546.length co96, .string (⟨#[]⟩ : ByteArray)]) ?_ 6 _ rfl; (with_reducible repeat (first | refine blk_drewN ?_ _ | refine blk_drew ?_ | refine blk_alloc ?_ _)); refine blk_put (cs := #[.slice Ao86 t531.length co86, .slice Ao92 t534.length co92, .slice Ao93 t537.length co93, .slice Ao94 t540.length co94, .slice Ao95 t543.length co95, .slice none 0 0, .string (⟨#[]⟩ : ByteArray)]) ?_ 5 _ rfl; (with_reducible repeat (first | refine blk_drewN ?_ _ | refine blk_drew ?_ | refine blk_alloc ?_ _)); refine blk_put (cs := #[.slice Ao86 t531.length co86, .slice Ao92 t534.length co92, .slice Ao93 t537.length co93, .slice Ao94 t540.length co94, .slice none 0 0, .slice none 0 0, .string (⟨#[]⟩ : ByteArray)]) ?_ 4 _ rfl; (with_reducible repeat (first | refine blk_drewN ?_ _ | refine blk_drew ?_ | refine blk_alloc ?_ _)); refine blk_put (cs := #[.slice Ao86 t531.length co86, .slice Ao92 t534.length co92, .slice Ao93 t537.length co93, .slice none 0 0, .slice none 0 0, .slice none 0 0, .string (⟨#[]⟩ : ByteArray)]) ?_ 3 _ rfl; (with_reducible repeat (first | refine blk_drewN ?_ _ | refine blk_drew ?_ | refine blk_alloc ?_ _)); refine blk_put (cs := #[.slice Ao86 t531.length co86, .slice Ao92 t534.length co92, .slice none 0 0, .slice none 0 0, .slice none 0 0, .slice none 0 0, .string (⟨#[]⟩ : ByteArray)]) ?_ 2 _ rfl; (with_reducible repeat (first | refine blk_drewN ?_ _ | refine blk_drew ?_ | refine blk_alloc ?_ _)); refine blk_put (cs := #[.slice Ao86 t531.length co86, .slice none 0 0, .slice none 0 0, .slice none 0 0, .slice none 0 0, .slice none 0 0, .string (⟨#[]⟩ : ByteArray)]) ?_ 1 _ rfl; (with_reducible repeat (first | refine blk_drewN ?_ _ | refine blk_drew ?_ | refine blk_alloc ?_ _)); refine blk_put (cs := #[.slice none 0 0, .slice none 0 0, .slice none 0 0, .slice none 0 0, .slice none 0 0, .slice none 0 0, .string (⟨#[]⟩ : ByteArray)]) ?_ 0 _ rfl; (with_reducible repeat (first | refine blk_drewN ?_ _ | refine blk_drew ?_ | refine blk_alloc ?_ _)); exact BK550.out⟩
                    have n17_ : Aside0 (Below w.heap.size w (((((((w85.setCell ⟨gb550, 0, none⟩ (.slice Ao86 t531.length co86)).setCell ⟨gb550, 1, none⟩ (.slice Ao92 t534.length co92)).setCell ⟨gb550, 2, none⟩ (.slice Ao93 t537.length co93)).setCell ⟨gb550, 3, none⟩ (.slice Ao94 t540.length co94)).setCell ⟨gb550, 4, none⟩ (.slice Ao95 t543.length co95)).setCell ⟨gb550, 5, none⟩ (.slice Ao96 t546.length co96)).setCell ⟨gb550, 6, none⟩ (.string t549))) := ⟨by repeat (first | (with_reducible first | exact HB.out | apply below_alloc | apply pw_below_drewN | apply below_drew1 | refine below_set ?_ GE507.out | refine below_set ?_ GE508.out | refine below_set ?_ GE509.out | refine below_set ?_ GE530.out | refine below_set ?_ GE550.out) | exact HB.out)⟩
                    (try clear HO_531000)
                    (try clear HO_531001)
                    (try clear HO_531002)
                    (try clear HO_531003)
                    (try clear HO_531004)
                    (try clear HO_531005)
                    (try clear HO533)
                    (try clear HO536)
                    (try clear HO539)
                    (try clear HO542)
                    (try clear HO545)
                    (try clear HO548)
                    (try clear BK507)
                    (try clear BK508)
                    (try clear BK509)
                    (try clear BK530)
                    (try clear BK550)
                    (try clear HB)
                    generalize (((((((w85.setCell ⟨gb550, 0, none⟩ (.slice Ao86 t531.length co86)).setCell ⟨gb550, 1, none⟩ (.slice Ao92 t534.length co92)).setCell ⟨gb550, 2, none⟩ (.slice Ao93 t537.length co93)).setCell ⟨gb550, 3, none⟩ (.slice Ao94 t540.length co94)).setCell ⟨gb550, 4, none⟩ (.slice Ao95 t543.length co95)).setCell ⟨gb550, 5, none⟩ (.slice Ao96 t546.length co96)).setCell ⟨gb550, 6, none⟩ (.string t549)) = w97 at n0_ n1_ n2_ n3_ n4_ n5_ n6_ n7_ n8_ n9_ n10_ n11_ n12_ n13_ n14_ n15_ n16_ n17_ ⊢
                    have HO_531000 := n0_
                    have HO_531001 := n1_
                    have HO_531002 := n2_
                    have HO_531003 := n3_
                    have HO_531004 := n4_
                    have HO_531005 := n5_
                    have HO533 := n6_
                    have HO536 := n7_
                    have HO539 := n8_
                    have HO542 := n9_
                    have HO545 := n10_
                    have HO548 := n11_
                    have BK507 := n12_
                    have BK508 := n13_
                    have BK509 := n14_
                    have BK530 := n15_
                    have BK550 := n16_
                    have HB := n17_
                    clear n0_ n1_ n2_ n3_ n4_ n5_ n6_ n7_ n8_ n9_ n10_ n11_ n12_ n13_ n14_ n15_ n16_ n17_
                    replace HO_531000 := Aside0.mk (Kd.R_drew HO_531000.out)
                    replace HO_531001 := Aside0.mk (Kd.R_drew HO_531001.out)
                    replace HO_531002 := Aside0.mk (Kd.R_drew HO_531002.out)
                    replace HO_531003 := Aside0.mk (Kd.R_drew HO_531003.out)
                    replace HO_531004 := Aside0.mk (Kd.R_drew HO_531004.out)
                    replace HO_531005 := Aside0.mk (Kd.R_drew HO_531005.out)
                    replace HO533 := Aside0.mk (Kd.R_drew HO533.out)
                    replace HO536 := Aside0.mk (Kd.R_drew HO536.out)
                    replace HO539 := Aside0.mk (Kd.R_drew HO539.out)
                    replace HO542 := Aside0.mk (Kd.R_drew HO542.out)
                    replace HO545 := Aside0.mk (Kd.R_drew HO545.out)
                    replace HO548 := Aside0.mk (Kd.R_drew HO548.out)
                    replace BK507 := Aside0.mk (blk_drew BK507.out)
                    replace BK508 := Aside0.mk (blk_drew BK508.out)
                    replace BK509 := Aside0.mk (blk_drew BK509.out)
                    replace BK530 := Aside0.mk (blk_drew BK530.out)
                    replace BK550 := Aside0.mk (blk_drew BK550.out)
                    replace HB := Aside0.mk (below_drew1 HB.out)
                    refine start_ (n := 5) (S := fun w' => w'.cell? ⟨gb550, 0, none⟩ = some (.slice Ao86 t531.length co86) ∧ w'.cell? ⟨gb550, 1, none⟩ = some (.slice Ao92 t534.length co92) ∧ w'.cell? ⟨gb550, 2, none⟩ = some (.slice Ao93 t537.length co93) ∧ w'.cell? ⟨gb550, 3, none⟩ = some (.slice Ao94 t540.length co94) ∧ w'.cell? ⟨gb550, 4, none⟩ = some (.slice Ao95 t543.length co95) ∧ w'.cell? ⟨gb550, 5, none⟩ = some (.slice Ao96 t546.length co96) ∧ w'.cell? ⟨gb550, 6, none⟩ = some (.string t549) ∧ w'.cell? ⟨gb530, 0, none⟩ = some (u531000) ∧ w'.cell? ⟨gb530, 1, none⟩ = some (u531001) ∧ w'.cell? ⟨gb530, 2, none⟩ = some (u531002) ∧ w'.cell? ⟨gb530, 3, none⟩ = some (u531003) ∧ w'.cell? ⟨gb530, 4, none⟩ = some (u531004) ∧ w'.cell? ⟨gb530, 5, none⟩ = some (u531005) ∧ w'.cell? ⟨gb530, 6, none⟩ = some (.string x531006_3)) (ds := []) #[false, false, false, false, false] (by kernel_rfl) rfl rfl ⟨(blk_cell BK550.out 0).trans rfl, (blk_cell BK550.out 1).trans rfl, (blk_cell BK550.out 2).trans rfl, (blk_cell BK550.out 3).trans rfl, (blk_cell BK550.out 4).trans rfl, (blk_cell BK550.out 5).trans rfl, (blk_cell BK550.out 6).trans rfl, (blk_cell BK530.out 0).trans rfl, (blk_cell BK530.out 1).trans rfl, (blk_cell BK530.out 2).trans rfl, (blk_cell BK530.out 3).trans rfl, (blk_cell BK530.out 4).trans rfl, (blk_cell BK530.out 5).trans rfl, (blk_cell BK530.out 6).trans rfl⟩ (fun hHeld => ?_)
                    generalize w97.drew = w98 at HO_531000 HO_531001 HO_531002 HO_531003 HO_531004 HO_531005 HO533 HO536 HO539 HO542 HO545 HO548 BK507 BK508 BK509 BK530 BK550 HB hHeld ⊢
                    refine take_ (i := 0) (N := some 48) (v := ?_) (a' := ?_) #[true, false, false, false, false] rfl rfl (by kernel_rfl) (fun _ _ _ h => h) (Or.inl ⟨by rfl, ?_⟩) hHeld ?_ ?_
                    rotate_left
                    · rintro w' ⟨s0, s1, s2, s3, s4, s5, s6, s7, s8, s9, s10, s11, s12, s13⟩
                      go_simp
                      with_reducible rfl
                    rotate_left
                    · simp only [Act.put, List.setIfInBounds_toArray, List.set_cons_zero, List.set_cons_succ, i64_w, i32_w]
                      rfl
                    refine take_ (i := 2) (N := some 50) (v := ?_) (a' := ?_) #[true, false, true, false, false] rfl rfl (by kernel_rfl) (fun _ _ _ h => h) (Or.inl ⟨by rfl, ?_⟩) hHeld ?_ ?_
                    rotate_left
                    · rintro w' ⟨s0, s1, s2, s3, s4, s5, s6, s7, s8, s9, s10, s11, s12, s13⟩
                      go_simp
                      with_reducible rfl
                    rotate_left
                    · simp only [Act.put, List.setIfInBounds_toArray, List.set_cons_zero, List.set_cons_succ, i64_w, i32_w]
                      rfl
                    refine one_ (i := 1) (N := some 49) #[true, true, true, false, false] rfl rfl (by kernel_rfl) (by decide) (fun K hK => ?_)
                    refine goes_ Try.func51 (by kernel_rfl) rfl #[.agg #[.slice Ao86 t531.length co86, .slice Ao92 t534.length co92, .slice Ao93 t537.length co93, .slice Ao94 t540.length co94, .slice Ao95 t543.length co95, .slice Ao96 t546.length co96, .string t549]] (by rfl) rfl rfl (by (try simp only [List.map_toArray, List.map_cons, List.map_nil]); first | done | rfl | (simp only [List.length_drop, List.length_take]; rfl)) ?_
                    with_reducible refine (node_halves_most.calls _ _ t531 _ _ t534 _ _ t537 _ _ t540 _ _ t543 _ _ t546 t549 t551 _ ?side1 ?side2 ?side3 ?side4 ?side5 ?side6 ?side7 ?side8 ?side9 ?side10 ?side11 ?side12 A46.out).mono ?_
                    (case side1 => repeat (first | exact (Kd.R_reads' HO533.out).2.2 | (with_reducible refine Kd.C_alloc ?_ _) | (with_reducible refine Kd.C_drewN ?_ _) | (with_reducible refine Kd.C_drew ?_)))
                    (case side2 => exact (Kd.R_reads' HO533.out).2.1)
                    (case side3 => repeat (first | exact (Kd.R_reads' HO536.out).2.2 | (with_reducible refine Kd.C_alloc ?_ _) | (with_reducible refine Kd.C_drewN ?_ _) | (with_reducible refine Kd.C_drew ?_)))
                    (case side4 => exact (Kd.R_reads' HO536.out).2.1)
                    (case side5 => repeat (first | exact (Kd.R_reads' HO539.out).2.2 | (with_reducible refine Kd.C_alloc ?_ _) | (with_reducible refine Kd.C_drewN ?_ _) | (with_reducible refine Kd.C_drew ?_)))
                    (case side6 => exact (Kd.R_reads' HO539.out).2.1)
                    (case side7 => repeat (first | exact (Kd.R_reads' HO542.out).2.2 | (with_reducible refine Kd.C_alloc ?_ _) | (with_reducible refine Kd.C_drewN ?_ _) | (with_reducible refine Kd.C_drew ?_)))
                    (case side8 => exact (Kd.R_reads' HO542.out).2.1)
                    (case side9 => repeat (first | exact (Kd.R_reads' HO545.out).2.2 | (with_reducible refine Kd.C_alloc ?_ _) | (with_reducible refine Kd.C_drewN ?_ _) | (with_reducible refine Kd.C_drew ?_)))
                    (case side10 => exact (Kd.R_reads' HO545.out).2.1)
                    (case side11 => repeat (first | exact (Kd.R_reads' HO548.out).2.2 | (with_reducible refine Kd.C_alloc ?_ _) | (with_reducible refine Kd.C_drewN ?_ _) | (with_reducible refine Kd.C_drew ?_)))
                    (case side12 => exact (Kd.R_reads' HO548.out).2.1)
                    rintro e w99 ⟨rfl, hb⟩
                    refine ⟨_, rfl, ?_⟩
                    replace HO_531000 := Aside0.mk (Kd.R_below (R_ HO_531000.out) hb)
                    replace HO_531001 := Aside0.mk (Kd.R_below (R_ HO_531001.out) hb)
                    replace HO_531002 := Aside0.mk (Kd.R_below (R_ HO_531002.out) hb)
                    replace HO_531003 := Aside0.mk (Kd.R_below (R_ HO_531003.out) hb)
                    replace HO_531004 := Aside0.mk (Kd.R_below (R_ HO_531004.out) hb)
                    replace HO_531005 := Aside0.mk (Kd.R_below (R_ HO_531005.out) hb)
                    replace HO533 := Aside0.mk (Kd.R_below (R_ HO533.out) hb)
                    replace HO536 := Aside0.mk (Kd.R_below (R_ HO536.out) hb)
                    replace HO539 := Aside0.mk (Kd.R_below (R_ HO539.out) hb)
                    replace HO542 := Aside0.mk (Kd.R_below (R_ HO542.out) hb)
                    replace HO545 := Aside0.mk (Kd.R_below (R_ HO545.out) hb)
                    replace HO548 := Aside0.mk (Kd.R_below (R_ HO548.out) hb)
                    replace BK507 := Aside0.mk (blk_below (g := gb507) (o := .cells #[.slice A0_0 l0_0.length c0_0, .slice A0_1 l0_1.length c0_1, .slice A0_2 l0_2.length c0_2] 26 (0, 0)) (B_ BK507.out) hb)
                    replace BK508 := Aside0.mk (blk_below (g := gb508) (o := .cells #[.slice none 0 0, .slice none 0 0, .slice none 0 0] 26 (0, 0)) (B_ BK508.out) hb)
                    replace BK509 := Aside0.mk (blk_below (g := gb509) (o := .cells #[.slice none 0 0, .slice none 0 0, .slice none 0 0] 26 (0, 0)) (B_ BK509.out) hb)
                    replace BK530 := Aside0.mk (blk_below (g := gb530) (o := .cells #[u531000, u531001, u531002, u531003, u531004, u531005, .string x531006_3] 81 (0, 0)) (B_ BK530.out) hb)
                    replace BK550 := Aside0.mk (blk_below (g := gb550) (o := .cells #[.slice Ao86 t531.length co86, .slice Ao92 t534.length co92, .slice Ao93 t537.length co93, .slice Ao94 t540.length co94, .slice Ao95 t543.length co95, .slice Ao96 t546.length co96, .string t549] 81 (0, 0)) (B_ BK550.out) hb)
                    replace HB := Aside0.mk (below_step (L_ HB.out) hb)
                    (try clear hb)
                    (try clear hb2)
                    (try clear hk)
                    (try clear hi)
                    obtain ⟨Ao100, co100, eo100⟩ := Kd.R_slice HO_531000.out
                    (first | subst eo100 | (injection eo100 with f1_ f2_ f3_; have f4_ := f1_.symm; have f5_ := f3_.symm; clear f1_ f2_ f3_; subst f4_; subst f5_))
                    obtain ⟨Ao101, co101, eo101⟩ := Kd.R_slice HO_531001.out
                    (first | subst eo101 | (injection eo101 with f1_ f2_ f3_; have f4_ := f1_.symm; have f5_ := f3_.symm; clear f1_ f2_ f3_; subst f4_; subst f5_))
                    obtain ⟨Ao102, co102, eo102⟩ := Kd.R_slice HO_531002.out
                    (first | subst eo102 | (injection eo102 with f1_ f2_ f3_; have f4_ := f1_.symm; have f5_ := f3_.symm; clear f1_ f2_ f3_; subst f4_; subst f5_))
                    obtain ⟨Ao103, co103, eo103⟩ := Kd.R_slice HO_531003.out
                    (first | subst eo103 | (injection eo103 with f1_ f2_ f3_; have f4_ := f1_.symm; have f5_ := f3_.symm; clear f1_ f2_ f3_; subst f4_; subst f5_))
                    obtain ⟨Ao104, co104, eo104⟩ := Kd.R_slice HO_531004.out
                    (first | subst eo104 | (injection eo104 with f1_ f2_ f3_; have f4_ := f1_.symm; have f5_ := f3_.symm; clear f1_ f2_ f3_; subst f4_; subst f5_))
                    obtain ⟨Ao105, co105, eo105⟩ := Kd.R_slice HO_531005.out
                    (first | subst eo105 | (injection eo105 with f1_ f2_ f3_; have f4_ := f1_.symm; have f5_ := f3_.symm; clear f1_ f2_ f3_; subst f4_; subst f5_))
                    refine hK.out _ _ ⟨(blk_cell BK550.out 0).trans rfl, (blk_cell BK550.out 1).trans rfl, (blk_cell BK550.out 2).trans rfl, (blk_cell BK550.out 3).trans rfl, (blk_cell BK550.out 4).trans rfl, (blk_cell BK550.out 5).trans rfl, (blk_cell BK550.out 6).trans rfl, (blk_cell BK530.out 0).trans rfl, (blk_cell BK530.out 1).trans rfl, (blk_cell BK530.out 2).trans rfl, (blk_cell BK530.out 3).trans rfl, (blk_cell BK530.out 4).trans rfl, (blk_cell BK530.out 5).trans rfl, (blk_cell BK530.out 6).trans rfl⟩ (fun hHeld => ?_)
                    clear hK K
                    refine norm_ (a' := ?_) ?_ ?_
                    rotate_left
                    · show Act.put _ (some 49) _ = _
                      simp only [Act.put, List.setIfInBounds_toArray, List.set_cons_zero, List.set_cons_succ, i64_w, i32_w]
                      rfl
                    refine one_ (i := 3) (N := some 51) #[true, true, true, true, false] rfl rfl (by kernel_rfl) (by decide) (fun K hK => ?_)
                    refine goes_ Try.func51 (by kernel_rfl) rfl #[.agg #[.slice Ao100 x531000_3.length co100, .slice Ao101 x531001_3.length co101, .slice Ao102 x531002_3.length co102, .slice Ao103 x531003_3.length co103, .slice Ao104 x531004_3.length co104, .slice Ao105 x531005_3.length co105, .string x531006_3]] (by rfl) rfl rfl (by (try simp only [List.map_toArray, List.map_cons, List.map_nil]); first | done | rfl | (simp only [List.length_drop, List.length_take]; rfl)) ?_
                    with_reducible refine (node_halves_most.calls _ _ x531000_3 _ _ x531001_3 _ _ x531002_3 _ _ x531003_3 _ _ x531004_3 _ _ x531005_3 x531006_3 t552 _ ?side1 ?side2 ?side3 ?side4 ?side5 ?side6 ?side7 ?side8 ?side9 ?side10 ?side11 ?side12 A47.out).mono ?_
                    (case side1 => repeat (first | exact (Kd.R_reads' HO_531000.out).2.2 | (with_reducible refine Kd.C_alloc ?_ _) | (with_reducible refine Kd.C_drewN ?_ _) | (with_reducible refine Kd.C_drew ?_)))
                    (case side2 => exact (Kd.R_reads' HO_531000.out).2.1)
                    (case side3 => repeat (first | exact (Kd.R_reads' HO_531001.out).2.2 | (with_reducible refine Kd.C_alloc ?_ _) | (with_reducible refine Kd.C_drewN ?_ _) | (with_reducible refine Kd.C_drew ?_)))
                    (case side4 => exact (Kd.R_reads' HO_531001.out).2.1)
                    (case side5 => repeat (first | exact (Kd.R_reads' HO_531002.out).2.2 | (with_reducible refine Kd.C_alloc ?_ _) | (with_reducible refine Kd.C_drewN ?_ _) | (with_reducible refine Kd.C_drew ?_)))
                    (case side6 => exact (Kd.R_reads' HO_531002.out).2.1)
                    (case side7 => repeat (first | exact (Kd.R_reads' HO_531003.out).2.2 | (with_reducible refine Kd.C_alloc ?_ _) | (with_reducible refine Kd.C_drewN ?_ _) | (with_reducible refine Kd.C_drew ?_)))
                    (case side8 => exact (Kd.R_reads' HO_531003.out).2.1)
                    (case side9 => repeat (first | exact (Kd.R_reads' HO_531004.out).2.2 | (with_reducible refine Kd.C_alloc ?_ _) | (with_reducible refine Kd.C_drewN ?_ _) | (with_reducible refine Kd.C_drew ?_)))
                    (case side10 => exact (Kd.R_reads' HO_531004.out).2.1)
                    (case side11 => repeat (first | exact (Kd.R_reads' HO_531005.out).2.2 | (with_reducible refine Kd.C_alloc ?_ _) | (with_reducible refine Kd.C_drewN ?_ _) | (with_reducible refine Kd.C_drew ?_)))
                    (case side12 => exact (Kd.R_reads' HO_531005.out).2.1)
                    rintro e w106 ⟨rfl, hb⟩
                    refine ⟨_, rfl, ?_⟩
                    replace HO_531000 := Aside0.mk (Kd.R_below (R_ HO_531000.out) hb)
                    replace HO_531001 := Aside0.mk (Kd.R_below (R_ HO_531001.out) hb)
                    replace HO_531002 := Aside0.mk (Kd.R_below (R_ HO_531002.out) hb)
                    replace HO_531003 := Aside0.mk (Kd.R_below (R_ HO_531003.out) hb)
                    replace HO_531004 := Aside0.mk (Kd.R_below (R_ HO_531004.out) hb)
                    replace HO_531005 := Aside0.mk (Kd.R_below (R_ HO_531005.out) hb)
                    replace HO533 := Aside0.mk (Kd.R_below (R_ HO533.out) hb)
                    replace HO536 := Aside0.mk (Kd.R_below (R_ HO536.out) hb)
                    replace HO539 := Aside0.mk (Kd.R_below (R_ HO539.out) hb)
                    replace HO542 := Aside0.mk (Kd.R_below (R_ HO542.out) hb)
                    replace HO545 := Aside0.mk (Kd.R_below (R_ HO545.out) hb)
                    replace HO548 := Aside0.mk (Kd.R_below (R_ HO548.out) hb)
                    replace BK507 := Aside0.mk (blk_below (g := gb507) (o := .cells #[.slice A0_0 l0_0.length c0_0, .slice A0_1 l0_1.length c0_1, .slice A0_2 l0_2.length c0_2] 26 (0, 0)) (B_ BK507.out) hb)
                    replace BK508 := Aside0.mk (blk_below (g := gb508) (o := .cells #[.slice none 0 0, .slice none 0 0, .slice none 0 0] 26 (0, 0)) (B_ BK508.out) hb)
                    replace BK509 := Aside0.mk (blk_below (g := gb509) (o := .cells #[.slice none 0 0, .slice none 0 0, .slice none 0 0] 26 (0, 0)) (B_ BK509.out) hb)
                    replace BK530 := Aside0.mk (blk_below (g := gb530) (o := .cells #[.slice Ao100 x531000_3.length co100, .slice Ao101 x531001_3.length co101, .slice Ao102 x531002_3.length co102, .slice Ao103 x531003_3.length co103, .slice Ao104 x531004_3.length co104, .slice Ao105 x531005_3.length co105, .string x531006_3] 81 (0, 0)) (B_ BK530.out) hb)
                    replace BK550 := Aside0.mk (blk_below (g := gb550) (o := .cells #[.slice Ao86 t531.length co86, .slice Ao92 t534.length co92, .slice Ao93 t537.length co93, .slice Ao94 t540.length co94, .slice Ao95 t543.length co95, .slice Ao96 t546.length co96, .string t549] 81 (0, 0)) (B_ BK550.out) hb)
                    replace HB := Aside0.mk (below_step (L_ HB.out) hb)
                    (try clear hb)
                    (try clear hb2)
                    (try clear hk)
                    (try clear hi)
                    refine hK.out _ _ ⟨(blk_cell BK550.out 0).trans rfl, (blk_cell BK550.out 1).trans rfl, (blk_cell BK550.out 2).trans rfl, (blk_cell BK550.out 3).trans rfl, (blk_cell BK550.out 4).trans rfl, (blk_cell BK550.out 5).trans rfl, (blk_cell BK550.out 6).trans rfl, (blk_cell BK530.out 0).trans rfl, (blk_cell BK530.out 1).trans rfl, (blk_cell BK530.out 2).trans rfl, (blk_cell BK530.out 3).trans rfl, (blk_cell BK530.out 4).trans rfl, (blk_cell BK530.out 5).trans rfl, (blk_cell BK530.out 6).trans rfl⟩ (fun hHeld => ?_)
                    clear hK K
                    refine norm_ (a' := ?_) ?_ ?_
                    rotate_left
                    · show Act.put _ (some 51) _ = _
                      simp only [Act.put, List.setIfInBounds_toArray, List.set_cons_zero, List.set_cons_succ, i64_w, i32_w]
                      rfl
                    refine pure_ (i := 4) (N := some 52) (v := ?_) (a' := ?_) #[true, true, true, true, true] rfl rfl (by kernel_rfl) (fun _ _ _ h => h) (Or.inl ⟨by rfl, ?_⟩) ?_ ?_
                    rotate_left
                    · intro w'
                      go_simp
                      with_reducible rfl
                    rotate_left
                    · simp only [Act.put, List.setIfInBounds_toArray, List.set_cons_zero, List.set_cons_succ, i64_w, i32_w]
                      rfl
                    refine done_ (by kernel_rfl) ?_
                    try go_wp2
                    go_roundg k3
                    case measure => have := HJ1.out; have := HJ10.out; have := HK3.out; omega
                    case rel => exact ⟨(wrap64 (x9_3 + 1)), (x531000_3), (x531001_3), (x531002_3), (x531003_3), (x531004_3), (x531005_3), (x531006_3), (.slice Ao100 x531000_3.length co100), (.slice Ao101 x531001_3.length co101), (.slice Ao102 x531002_3.length co102), (.slice Ao103 x531003_3.length co103), (.slice Ao104 x531004_3.length co104), (.slice Ao105 x531005_3.length co105), (by first | rfl | (simp; done) | (simp [*]; done)), H', ⟨by have := HJ1.out; have := HJ10.out; have := HK3.out; omega⟩, ⟨by (with_reducible repeat (first | apply Kd.R_alloc | apply Kd.R_drewN | apply Kd.R_drew)); exact Kd.R_mono HO_531000.out (fun _ hk => hk.1)⟩, ⟨by (with_reducible repeat (first | apply Kd.R_alloc | apply Kd.R_drewN | apply Kd.R_drew)); exact Kd.R_mono HO_531001.out (fun _ hk => hk.1)⟩, ⟨by (with_reducible repeat (first | apply Kd.R_alloc | apply Kd.R_drewN | apply Kd.R_drew)); exact Kd.R_mono HO_531002.out (fun _ hk => hk.1)⟩, ⟨by (with_reducible repeat (first | apply Kd.R_alloc | apply Kd.R_drewN | apply Kd.R_drew)); exact Kd.R_mono HO_531003.out (fun _ hk => hk.1)⟩, ⟨by (with_reducible repeat (first | apply Kd.R_alloc | apply Kd.R_drewN | apply Kd.R_drew)); exact Kd.R_mono HO_531004.out (fun _ hk => hk.1)⟩, ⟨by (with_reducible repeat (first | apply Kd.R_alloc | apply Kd.R_drewN | apply Kd.R_drew)); exact Kd.R_mono HO_531005.out (fun _ hk => hk.1)⟩, ⟨by (with_reducible repeat (first | refine blk_drewN ?_ _ | refine blk_drew ?_ | refine blk_alloc ?_ _)); exact BK507.out⟩, ⟨by (with_reducible repeat (first | refine blk_drewN ?_ _ | refine blk_drew ?_ | refine blk_alloc ?_ _)); exact BK508.out⟩, ⟨by (with_reducible repeat (first | refine blk_drewN ?_ _ | refine blk_drew ?_ | refine blk_alloc ?_ _)); exact BK509.out⟩, ⟨by (with_reducible repeat (first | refine blk_drewN ?_ _ | refine blk_drew ?_ | refine blk_alloc ?_ _)); exact BK530.out⟩, ⟨by repeat (first | (with_reducible first | exact HB.out | apply below_alloc | apply pw_below_drewN | apply below_drew1 | refine below_set ?_ GE507.out | refine below_set ?_ GE508.out | refine below_set ?_ GE509.out | refine below_set ?_ GE530.out | refine below_set ?_ GE550.out) | exact HB.out)⟩⟩
                · rw [if_neg c44] at H
                  have c44b0 : decide (x9_3 ≤ (wrap64 ((wrap64 ((l0_0.length : Int) + (l0_2.length : Int))) - x6_1))) = false := decide_eq_false c44
                  clear c44
                  simp only [Option.some.injEq, Prod.mk.injEq] at H
                  obtain ⟨rfl, rfl, rfl, rfl, rfl, rfl, rfl, rfl⟩ := H
                  try go_wp2
                  replace HO_531000 := Aside0.mk (Kd.R_drew HO_531000.out)
                  replace HO_531001 := Aside0.mk (Kd.R_drew HO_531001.out)
                  replace HO_531002 := Aside0.mk (Kd.R_drew HO_531002.out)
                  replace HO_531003 := Aside0.mk (Kd.R_drew HO_531003.out)
                  replace HO_531004 := Aside0.mk (Kd.R_drew HO_531004.out)
                  replace HO_531005 := Aside0.mk (Kd.R_drew HO_531005.out)
                  replace BK507 := Aside0.mk (blk_drew BK507.out)
                  replace BK508 := Aside0.mk (blk_drew BK508.out)
                  replace BK509 := Aside0.mk (blk_drew BK509.out)
                  replace BK530 := Aside0.mk (blk_drew BK530.out)
                  replace HB := Aside0.mk (below_drew1 HB.out)
                  obtain ⟨Ao108, co108, eo108⟩ := Kd.R_slice HO_531000.out
                  (first | subst eo108 | (injection eo108 with f1_ f2_ f3_; have f4_ := f1_.symm; have f5_ := f3_.symm; clear f1_ f2_ f3_; subst f4_; subst f5_))
                  obtain ⟨Ao110, co110, eo110⟩ := Kd.R_slice HO_531001.out
                  (first | subst eo110 | (injection eo110 with f1_ f2_ f3_; have f4_ := f1_.symm; have f5_ := f3_.symm; clear f1_ f2_ f3_; subst f4_; subst f5_))
                  obtain ⟨Ao112, co112, eo112⟩ := Kd.R_slice HO_531002.out
                  (first | subst eo112 | (injection eo112 with f1_ f2_ f3_; have f4_ := f1_.symm; have f5_ := f3_.symm; clear f1_ f2_ f3_; subst f4_; subst f5_))
                  obtain ⟨Ao114, co114, eo114⟩ := Kd.R_slice HO_531003.out
                  (first | subst eo114 | (injection eo114 with f1_ f2_ f3_; have f4_ := f1_.symm; have f5_ := f3_.symm; clear f1_ f2_ f3_; subst f4_; subst f5_))
                  obtain ⟨Ao116, co116, eo116⟩ := Kd.R_slice HO_531004.out
                  (first | subst eo116 | (injection eo116 with f1_ f2_ f3_; have f4_ := f1_.symm; have f5_ := f3_.symm; clear f1_ f2_ f3_; subst f4_; subst f5_))
                  obtain ⟨Ao118, co118, eo118⟩ := Kd.R_slice HO_531005.out
                  (first | subst eo118 | (injection eo118 with f1_ f2_ f3_; have f4_ := f1_.symm; have f5_ := f3_.symm; clear f1_ f2_ f3_; subst f4_; subst f5_))
                  refine start_ (n := 10) (S := fun w' => w'.cell? ⟨gb530, 0, none⟩ = some (.slice Ao108 x531000_3.length co108) ∧ w'.cell? ⟨gb530, 1, none⟩ = some (.slice Ao110 x531001_3.length co110) ∧ w'.cell? ⟨gb530, 2, none⟩ = some (.slice Ao112 x531002_3.length co112) ∧ w'.cell? ⟨gb530, 3, none⟩ = some (.slice Ao114 x531003_3.length co114) ∧ w'.cell? ⟨gb530, 4, none⟩ = some (.slice Ao116 x531004_3.length co116) ∧ w'.cell? ⟨gb530, 5, none⟩ = some (.slice Ao118 x531005_3.length co118) ∧ w'.cell? ⟨gb530, 6, none⟩ = some (.string x531006_3)) (ds := []) #[false, false, false, false, false, false, false, false, false, false] (by kernel_rfl) rfl rfl ⟨(blk_cell BK530.out 0).trans rfl, (blk_cell BK530.out 1).trans rfl, (blk_cell BK530.out 2).trans rfl, (blk_cell BK530.out 3).trans rfl, (blk_cell BK530.out 4).trans rfl, (blk_cell BK530.out 5).trans rfl, (blk_cell BK530.out 6).trans rfl⟩ (fun hHeld => ?_); refine with_tabW node_Split.tab13 node_Split.bits13 (fun HT_ HW_ => ?_)
                  generalize wr.drew = w107 at HO_531000 HO_531001 HO_531002 HO_531003 HO_531004 HO_531005 BK507 BK508 BK509 BK530 HB hHeld ⊢
                  refine pure_ (i := 0) (N := some 54) (v := ?_) (a' := ?_) #[true, false, false, false, false, false, false, false, false, false] rfl rfl (any_of HT_.out (by kernel_rfl)) (fun _ _ _ h => h) (Or.inl ⟨by rfl, ?_⟩) ?_ ?_
                  rotate_left
                  · intro w'
                    go_simp
                    with_reducible rfl
                  rotate_left
                  · simp only [Act.put, List.setIfInBounds_toArray, List.set_cons_zero, List.set_cons_succ, i64_w, i32_w]
                    rfl
                  refine pure_ (i := 2) (N := some 56) (v := ?_) (a' := ?_) #[true, false, true, false, false, false, false, false, false, false] rfl rfl (any_of HT_.out (by kernel_rfl)) (fun _ _ _ h => h) (Or.inl ⟨by rfl, ?_⟩) ?_ ?_
                  rotate_left
                  · intro w'
                    go_simp
                    with_reducible rfl
                  rotate_left
                  · simp only [Act.put, List.setIfInBounds_toArray, List.set_cons_zero, List.set_cons_succ, i64_w, i32_w]
                    rfl
                  refine pure_ (i := 4) (N := some 58) (v := ?_) (a' := ?_) #[true, false, true, false, true, false, false, false, false, false] rfl rfl (any_of HT_.out (by kernel_rfl)) (fun _ _ _ h => h) (Or.inl ⟨by rfl, ?_⟩) ?_ ?_
                  rotate_left
                  · intro w'
                    go_simp
                    with_reducible rfl
                  rotate_left
                  · simp only [Act.put, List.setIfInBounds_toArray, List.set_cons_zero, List.set_cons_succ, i64_w, i32_w]
                    rfl
                  refine take_ (i := 1) (N := some 55) (v := ?_) (a' := ?_) #[true, true, true, false, true, false, false, false, false, false] rfl rfl (take_ofW HT_.out HW_.out (by kernel_rfl)) (fun _ _ _ h => h) (Or.inl ⟨by rfl, ?_⟩) hHeld ?_ ?_
                  rotate_left
                  · rintro w' ⟨s0, s1, s2, s3, s4, s5, s6⟩
                    go_simp
                    with_reducible rfl
                  rotate_left
                  · simp only [Act.put, List.setIfInBounds_toArray, List.set_cons_zero, List.set_cons_succ, i64_w, i32_w]
                    rfl
                  refine take_ (i := 3) (N := some 57) (v := ?_) (a' := ?_) #[true, true, true, true, true, false, false, false, false, false] rfl rfl (take_ofW HT_.out HW_.out (by kernel_rfl)) (fun _ _ _ h => h) (Or.inl ⟨by rfl, ?_⟩) hHeld ?_ ?_
                  rotate_left
                  · rintro w' ⟨s0, s1, s2, s3, s4, s5, s6⟩
                    go_simp
                    with_reducible rfl
                  rotate_left
                  · simp only [Act.put, List.setIfInBounds_toArray, List.set_cons_zero, List.set_cons_succ, i64_w, i32_w]
                    rfl
                  refine take_ (i := 5) (N := some 59) (v := ?_) (a' := ?_) #[true, true, true, true, true, true, false, false, false, false] rfl rfl (take_ofW HT_.out HW_.out (by kernel_rfl)) (fun _ _ _ h => h) (Or.inl ⟨by rfl, ?_⟩) hHeld ?_ ?_
                  rotate_left
                  · rintro w' ⟨s0, s1, s2, s3, s4, s5, s6⟩
                    go_simp
                    with_reducible rfl
                  rotate_left
                  · simp only [Act.put, List.setIfInBounds_toArray, List.set_cons_zero, List.set_cons_succ, i64_w, i32_w]
                    rfl
                  refine one_ (i := 6) (N := none) #[true, true, true, true, true, true, true, false, false, false] rfl rfl (one_of HT_.out (by kernel_rfl)) (by decide) (fun K hK => ?_)
                  have hs109 : w107.cell? ⟨gb508, 0, none⟩ = some (.slice none 0 0) := (blk_cell BK508.out 0).trans rfl
                  have hfs109 := blk_frozen BK508.out 0
                  have hns109_0 := NB507_508.out
                  have hns109_2 := NB509_508.out
                  have hns109_3 := NB530_508.out
                  have hms109_0 := NB508_507.out
                  have hms109_2 := NB508_509.out
                  have hms109_3 := NB508_530.out
                  have hs111 : w107.cell? ⟨gb508, 1, none⟩ = some (.slice none 0 0) := (blk_cell BK508.out 1).trans rfl
                  have hfs111 := blk_frozen BK508.out 1
                  have hns111_0 := NB507_508.out
                  have hns111_2 := NB509_508.out
                  have hns111_3 := NB530_508.out
                  have hms111_0 := NB508_507.out
                  have hms111_2 := NB508_509.out
                  have hms111_3 := NB508_530.out
                  have hs113 : w107.cell? ⟨gb508, 2, none⟩ = some (.slice none 0 0) := (blk_cell BK508.out 2).trans rfl
                  have hfs113 := blk_frozen BK508.out 2
                  have hns113_0 := NB507_508.out
                  have hns113_2 := NB509_508.out
                  have hns113_3 := NB530_508.out
                  have hms113_0 := NB508_507.out
                  have hms113_2 := NB508_509.out
                  have hms113_3 := NB508_530.out
                  refine skip_ (w1 := ?_) (by rfl) rfl ?_ ?_
                  rotate_left
                  · go_simp
                    rfl
                  refine hK.out _ _ ⟨((cell_far (p := ⟨gb508, _, none⟩) NB530_508.out _).trans (((cell_far (p := ⟨gb508, _, none⟩) NB530_508.out _).trans (((cell_far (p := ⟨gb508, _, none⟩) NB530_508.out _).trans (hHeld.1)))))), ((cell_far (p := ⟨gb508, _, none⟩) NB530_508.out _).trans (((cell_far (p := ⟨gb508, _, none⟩) NB530_508.out _).trans (((cell_far (p := ⟨gb508, _, none⟩) NB530_508.out _).trans (hHeld.2.1)))))), ((cell_far (p := ⟨gb508, _, none⟩) NB530_508.out _).trans (((cell_far (p := ⟨gb508, _, none⟩) NB530_508.out _).trans (((cell_far (p := ⟨gb508, _, none⟩) NB530_508.out _).trans (hHeld.2.2.1)))))), ((cell_far (p := ⟨gb508, _, none⟩) NB530_508.out _).trans (((cell_far (p := ⟨gb508, _, none⟩) NB530_508.out _).trans (((cell_far (p := ⟨gb508, _, none⟩) NB530_508.out _).trans (hHeld.2.2.2.1)))))), ((cell_far (p := ⟨gb508, _, none⟩) NB530_508.out _).trans (((cell_far (p := ⟨gb508, _, none⟩) NB530_508.out _).trans (((cell_far (p := ⟨gb508, _, none⟩) NB530_508.out _).trans (hHeld.2.2.2.2.1)))))), ((cell_far (p := ⟨gb508, _, none⟩) NB530_508.out _).trans (((cell_far (p := ⟨gb508, _, none⟩) NB530_508.out _).trans (((cell_far (p := ⟨gb508, _, none⟩) NB530_508.out _).trans (hHeld.2.2.2.2.2.1)))))), ((cell_far (p := ⟨gb508, _, none⟩) NB530_508.out _).trans (((cell_far (p := ⟨gb508, _, none⟩) NB530_508.out _).trans (((cell_far (p := ⟨gb508, _, none⟩) NB530_508.out _).trans (hHeld.2.2.2.2.2.2))))))⟩ (fun hHeld => ?_)
                  clear hK K
                  refine pure_ (i := 7) (N := some 3) (v := ?_) (a' := ?_) #[true, true, true, true, true, true, true, true, false, false] rfl rfl (any_of HT_.out (by kernel_rfl)) (fun _ _ _ h => h) (Or.inl ⟨by rfl, ?_⟩) ?_ ?_
                  rotate_left
                  · intro w'
                    go_simp
                    with_reducible rfl
                  rotate_left
                  · simp only [Act.put, List.setIfInBounds_toArray, List.set_cons_zero, List.set_cons_succ, i64_w, i32_w]
                    rfl
                  refine one_ (i := 8) (N := none) #[true, true, true, true, true, true, true, true, true, false] rfl rfl (one_of HT_.out (by kernel_rfl)) (by decide) (fun K hK => ?_)
                  have hs115 : w107.cell? ⟨gb509, 0, none⟩ = some (.slice none 0 0) := (blk_cell BK509.out 0).trans rfl
                  have hfs115 := blk_frozen BK509.out 0
                  have hns115_0 := NB507_509.out
                  have hns115_1 := NB508_509.out
                  have hns115_3 := NB530_509.out
                  have hms115_0 := NB509_507.out
                  have hms115_1 := NB509_508.out
                  have hms115_3 := NB509_530.out
                  have hs117 : w107.cell? ⟨gb509, 1, none⟩ = some (.slice none 0 0) := (blk_cell BK509.out 1).trans rfl
                  have hfs117 := blk_frozen BK509.out 1
                  have hns117_0 := NB507_509.out
                  have hns117_1 := NB508_509.out
                  have hns117_3 := NB530_509.out
                  have hms117_0 := NB509_507.out
                  have hms117_1 := NB509_508.out
                  have hms117_3 := NB509_530.out
                  have hs119 : w107.cell? ⟨gb509, 2, none⟩ = some (.slice none 0 0) := (blk_cell BK509.out 2).trans rfl
                  have hfs119 := blk_frozen BK509.out 2
                  have hns119_0 := NB507_509.out
                  have hns119_1 := NB508_509.out
                  have hns119_3 := NB530_509.out
                  have hms119_0 := NB509_507.out
                  have hms119_1 := NB509_508.out
                  have hms119_3 := NB509_530.out
                  refine skip_ (w1 := ?_) (by rfl) rfl ?_ ?_
                  rotate_left
                  · go_simp
                    rfl
                  refine hK.out _ _ ⟨((cell_far (p := ⟨gb509, _, none⟩) NB530_509.out _).trans (((cell_far (p := ⟨gb509, _, none⟩) NB530_509.out _).trans (((cell_far (p := ⟨gb509, _, none⟩) NB530_509.out _).trans (hHeld.1)))))), ((cell_far (p := ⟨gb509, _, none⟩) NB530_509.out _).trans (((cell_far (p := ⟨gb509, _, none⟩) NB530_509.out _).trans (((cell_far (p := ⟨gb509, _, none⟩) NB530_509.out _).trans (hHeld.2.1)))))), ((cell_far (p := ⟨gb509, _, none⟩) NB530_509.out _).trans (((cell_far (p := ⟨gb509, _, none⟩) NB530_509.out _).trans (((cell_far (p := ⟨gb509, _, none⟩) NB530_509.out _).trans (hHeld.2.2.1)))))), ((cell_far (p := ⟨gb509, _, none⟩) NB530_509.out _).trans (((cell_far (p := ⟨gb509, _, none⟩) NB530_509.out _).trans (((cell_far (p := ⟨gb509, _, none⟩) NB530_509.out _).trans (hHeld.2.2.2.1)))))), ((cell_far (p := ⟨gb509, _, none⟩) NB530_509.out _).trans (((cell_far (p := ⟨gb509, _, none⟩) NB530_509.out _).trans (((cell_far (p := ⟨gb509, _, none⟩) NB530_509.out _).trans (hHeld.2.2.2.2.1)))))), ((cell_far (p := ⟨gb509, _, none⟩) NB530_509.out _).trans (((cell_far (p := ⟨gb509, _, none⟩) NB530_509.out _).trans (((cell_far (p := ⟨gb509, _, none⟩) NB530_509.out _).trans (hHeld.2.2.2.2.2.1)))))), ((cell_far (p := ⟨gb509, _, none⟩) NB530_509.out _).trans (((cell_far (p := ⟨gb509, _, none⟩) NB530_509.out _).trans (((cell_far (p := ⟨gb509, _, none⟩) NB530_509.out _).trans (hHeld.2.2.2.2.2.2))))))⟩ (fun hHeld => ?_)
                  clear hK K
                  refine pure_ (i := 9) (N := some 5) (v := ?_) (a' := ?_) #[true, true, true, true, true, true, true, true, true, true] rfl rfl (any_of HT_.out (by kernel_rfl)) (fun _ _ _ h => h) (Or.inl ⟨by rfl, ?_⟩) ?_ ?_
                  rotate_left
                  · intro w'
                    go_simp
                    with_reducible rfl
                  rotate_left
                  · simp only [Act.put, List.setIfInBounds_toArray, List.set_cons_zero, List.set_cons_succ, i64_w, i32_w]
                    rfl
                  refine done_ (done_of HT_.out (by kernel_rfl)) ?_
                  try go_wp2
                  refine bodyPost_ret (results_list (rs := [.cell 2 26, .tmp 3, .cell 4 26, .tmp 5]) rfl (by simp) (.cell gb508 26 #[.slice Ao108 x531000_3.length co108, .slice Ao110 x531001_3.length co110, .slice Ao112 x531002_3.length co112] (0, 0) _ rfl (by (with_reducible repeat (first | refine blk_drewN ?_ _ | refine blk_drew ?_ | refine blk_alloc ?_ _)); refine blk_far ?_ NB508_509.out _; (with_reducible repeat (first | refine blk_drewN ?_ _ | refine blk_drew ?_ | refine blk_alloc ?_ _)); refine blk_far ?_ NB508_509.out _; (with_reducible repeat (first | refine blk_drewN ?_ _ | refine blk_drew ?_ | refine blk_alloc ?_ _)); refine blk_far ?_ NB508_509.out _; (with_reducible repeat (first | refine blk_drewN ?_ _ | refine blk_drew ?_ | refine blk_alloc ?_ _)); refine blk_put (cs := #[.slice Ao108 x531000_3.length co108, .slice Ao110 x531001_3.length co110, .slice none 0 0]) ?_ 2 _ rfl; (with_reducible repeat (first | refine blk_drewN ?_ _ | refine blk_drew ?_ | refine blk_alloc ?_ _)); refine blk_put (cs := #[.slice Ao108 x531000_3.length co108, .slice none 0 0, .slice none 0 0]) ?_ 1 _ rfl; (with_reducible repeat (first | refine blk_drewN ?_ _ | refine blk_drew ?_ | refine blk_alloc ?_ _)); refine blk_put (cs := #[.slice none 0 0, .slice none 0 0, .slice none 0 0]) ?_ 0 _ rfl; (with_reducible repeat (first | refine blk_drewN ?_ _ | refine blk_drew ?_ | refine blk_alloc ?_ _)); exact BK508.out) Try.underlying26 rfl (by kernel_rfl) (.tmp (.cell gb509 26 #[.slice Ao114 x531003_3.length co114, .slice Ao116 x531004_3.length co116, .slice Ao118 x531005_3.length co118] (0, 0) _ rfl (by (with_reducible repeat (first | refine blk_drewN ?_ _ | refine blk_drew ?_ | refine blk_alloc ?_ _)); refine blk_put (cs := #[.slice Ao114 x531003_3.length co114, .slice Ao116 x531004_3.length co116, .slice none 0 0]) ?_ 2 _ rfl; (with_reducible repeat (first | refine blk_drewN ?_ _ | refine blk_drew ?_ | refine blk_alloc ?_ _)); refine blk_put (cs := #[.slice Ao114 x531003_3.length co114, .slice none 0 0, .slice none 0 0]) ?_ 1 _ rfl; (with_reducible repeat (first | refine blk_drewN ?_ _ | refine blk_drew ?_ | refine blk_alloc ?_ _)); refine blk_put (cs := #[.slice none 0 0, .slice none 0 0, .slice none 0 0]) ?_ 0 _ rfl; (with_reducible repeat (first | refine blk_drewN ?_ _ | refine blk_drew ?_ | refine blk_alloc ?_ _)); refine blk_far ?_ NB509_508.out _; (with_reducible repeat (first | refine blk_drewN ?_ _ | refine blk_drew ?_ | refine blk_alloc ?_ _)); refine blk_far ?_ NB509_508.out _; (with_reducible repeat (first | refine blk_drewN ?_ _ | refine blk_drew ?_ | refine blk_alloc ?_ _)); refine blk_far ?_ NB509_508.out _; (with_reducible repeat (first | refine blk_drewN ?_ _ | refine blk_drew ?_ | refine blk_alloc ?_ _)); exact BK509.out) Try.underlying26 rfl (by kernel_rfl) (.tmp .nil))))) rfl ?_
                  exact ⟨_, _, _, _, _, _, by first | rfl | (simp [errW_none, errW_some] <;> rfl) | (simp [errW_none, errW_some]; exact ⟨rfl, rfl, rfl⟩) | (simp [*, errW_none, errW_some] <;> rfl), by (with_reducible repeat (first | apply Kd.R_alloc | apply Kd.R_drewN | apply Kd.R_drew)); exact Kd.R_mono (Kd.R_far (p := ⟨gb509, 2, none⟩) (Kd.R_far (p := ⟨gb509, 1, none⟩) (Kd.R_far (p := ⟨gb509, 0, none⟩) (Kd.R_far (p := ⟨gb508, 2, none⟩) (Kd.R_far (p := ⟨gb508, 1, none⟩) (Kd.R_far (p := ⟨gb508, 0, none⟩) (Kd.R_types (Kd.R_types HO_531000.out BK508.out (by decide)) BK509.out (by decide)) (fun _ hk => hk.1.2) (.slice Ao108 x531000_3.length co108)) (fun _ hk => hk.1.2) (.slice Ao110 x531001_3.length co110)) (fun _ hk => hk.1.2) (.slice Ao112 x531002_3.length co112)) (fun _ hk => hk.2) (.slice Ao114 x531003_3.length co114)) (fun _ hk => hk.2) (.slice Ao116 x531004_3.length co116)) (fun _ hk => hk.2) (.slice Ao118 x531005_3.length co118)) (fun _ hk => hk.1.1), by (with_reducible repeat (first | apply Kd.R_alloc | apply Kd.R_drewN | apply Kd.R_drew)); exact Kd.R_mono (Kd.R_far (p := ⟨gb509, 2, none⟩) (Kd.R_far (p := ⟨gb509, 1, none⟩) (Kd.R_far (p := ⟨gb509, 0, none⟩) (Kd.R_far (p := ⟨gb508, 2, none⟩) (Kd.R_far (p := ⟨gb508, 1, none⟩) (Kd.R_far (p := ⟨gb508, 0, none⟩) (Kd.R_types (Kd.R_types HO_531001.out BK508.out (by decide)) BK509.out (by decide)) (fun _ hk => hk.1.2) (.slice Ao108 x531000_3.length co108)) (fun _ hk => hk.1.2) (.slice Ao110 x531001_3.length co110)) (fun _ hk => hk.1.2) (.slice Ao112 x531002_3.length co112)) (fun _ hk => hk.2) (.slice Ao114 x531003_3.length co114)) (fun _ hk => hk.2) (.slice Ao116 x531004_3.length co116)) (fun _ hk => hk.2) (.slice Ao118 x531005_3.length co118)) (fun _ hk => hk.1.1), by (with_reducible repeat (first | apply Kd.R_alloc | apply Kd.R_drewN | apply Kd.R_drew)); exact Kd.R_mono (Kd.R_far (p := ⟨gb509, 2, none⟩) (Kd.R_far (p := ⟨gb509, 1, none⟩) (Kd.R_far (p := ⟨gb509, 0, none⟩) (Kd.R_far (p := ⟨gb508, 2, none⟩) (Kd.R_far (p := ⟨gb508, 1, none⟩) (Kd.R_far (p := ⟨gb508, 0, none⟩) (Kd.R_types (Kd.R_types HO_531002.out BK508.out (by decide)) BK509.out (by decide)) (fun _ hk => hk.1.2) (.slice Ao108 x531000_3.length co108)) (fun _ hk => hk.1.2) (.slice Ao110 x531001_3.length co110)) (fun _ hk => hk.1.2) (.slice Ao112 x531002_3.length co112)) (fun _ hk => hk.2) (.slice Ao114 x531003_3.length co114)) (fun _ hk => hk.2) (.slice Ao116 x531004_3.length co116)) (fun _ hk => hk.2) (.slice Ao118 x531005_3.length co118)) (fun _ hk => hk.1.1), by (with_reducible repeat (first | apply Kd.R_alloc | apply Kd.R_drewN | apply Kd.R_drew)); exact Kd.R_mono (Kd.R_far (p := ⟨gb509, 2, none⟩) (Kd.R_far (p := ⟨gb509, 1, none⟩) (Kd.R_far (p := ⟨gb509, 0, none⟩) (Kd.R_far (p := ⟨gb508, 2, none⟩) (Kd.R_far (p := ⟨gb508, 1, none⟩) (Kd.R_far (p := ⟨gb508, 0, none⟩) (Kd.R_types (Kd.R_types HO_531003.out BK508.out (by decide)) BK509.out (by decide)) (fun _ hk => hk.1.2) (.slice Ao108 x531000_3.length co108)) (fun _ hk => hk.1.2) (.slice Ao110 x531001_3.length co110)) (fun _ hk => hk.1.2) (.slice Ao112 x531002_3.length co112)) (fun _ hk => hk.2) (.slice Ao114 x531003_3.length co114)) (fun _ hk => hk.2) (.slice Ao116 x531004_3.length co116)) (fun _ hk => hk.2) (.slice Ao118 x531005_3.length co118)) (fun _ hk => hk.1.1), by (with_reducible repeat (first | apply Kd.R_alloc | apply Kd.R_drewN | apply Kd.R_drew)); exact Kd.R_mono (Kd.R_far (p := ⟨gb509, 2, none⟩) (Kd.R_far (p := ⟨gb509, 1, none⟩) (Kd.R_far (p := ⟨gb509, 0, none⟩) (Kd.R_far (p := ⟨gb508, 2, none⟩) (Kd.R_far (p := ⟨gb508, 1, none⟩) (Kd.R_far (p := ⟨gb508, 0, none⟩) (Kd.R_types (Kd.R_types HO_531004.out BK508.out (by decide)) BK509.out (by decide)) (fun _ hk => hk.1.2) (.slice Ao108 x531000_3.length co108)) (fun _ hk => hk.1.2) (.slice Ao110 x531001_3.length co110)) (fun _ hk => hk.1.2) (.slice Ao112 x531002_3.length co112)) (fun _ hk => hk.2) (.slice Ao114 x531003_3.length co114)) (fun _ hk => hk.2) (.slice Ao116 x531004_3.length co116)) (fun _ hk => hk.2) (.slice Ao118 x531005_3.length co118)) (fun _ hk => hk.1.1), by (with_reducible repeat (first | apply Kd.R_alloc | apply Kd.R_drewN | apply Kd.R_drew)); exact Kd.R_mono (Kd.R_far (p := ⟨gb509, 2, none⟩) (Kd.R_far (p := ⟨gb509, 1, none⟩) (Kd.R_far (p := ⟨gb509, 0, none⟩) (Kd.R_far (p := ⟨gb508, 2, none⟩) (Kd.R_far (p := ⟨gb508, 1, none⟩) (Kd.R_far (p := ⟨gb508, 0, none⟩) (Kd.R_types (Kd.R_types HO_531005.out BK508.out (by decide)) BK509.out (by decide)) (fun _ hk => hk.1.2) (.slice Ao108 x531000_3.length co108)) (fun _ hk => hk.1.2) (.slice Ao110 x531001_3.length co110)) (fun _ hk => hk.1.2) (.slice Ao112 x531002_3.length co112)) (fun _ hk => hk.2) (.slice Ao114 x531003_3.length co114)) (fun _ hk => hk.2) (.slice Ao116 x531004_3.length co116)) (fun _ hk => hk.2) (.slice Ao118 x531005_3.length co118)) (fun _ hk => hk.1.1), by repeat (first | (with_reducible first | exact HB.out | apply below_alloc | apply pw_below_drewN | apply below_drew1 | refine below_set ?_ GE507.out | refine below_set ?_ GE508.out | refine below_set ?_ GE509.out | refine below_set ?_ GE530.out) | exact HB.out)⟩

end Go.Proofs.Ytejempihaknplaa.G
