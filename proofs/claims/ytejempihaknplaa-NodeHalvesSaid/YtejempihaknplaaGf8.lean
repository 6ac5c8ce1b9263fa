-- Written by this session's program genprint.py (the kit's print.py with contracts of this seat's own among the callees). Not trusted: Lean checks it.
import Derived.Test.YtejempihaknplaaGX
import Derived.Test.YtejempihaknplaaNdW
import Derived.Test.YtejempihaknplaaGB
import Derived.Test.YtejempihaknplaaGK
import Derived.Test.YtejempihaknplaaGL
import Derived.Test.YtejempihaknplaaGf27
import Derived.Test.YtejempihaknplaaHEncode
namespace Go.Proofs.Ytejempihaknplaa.G
open Go.RowKit Go.Proofs.YtejempihaknplaaW.PrintWords Go.Proofs.YtejempihaknplaaW.PrintLast Go.Proofs.YtejempihaknplaaW.PrintMore
attribute [local go_sem] max2_int min2_int max_two min_two max_three min_three max_four min_four   -- for this text's walks alone
set_option linter.unusedVariables false
set_option linter.unusedSimpArgs false

/-! ### bazaarlaw06_NodeHalves: function 8 -/
mutual
def bazaarlaw06_NodeHalves.j0 : Nat → Bool → ByteArray → Int → Bool → List (S39) → List ByteArray → List Int → List (S39) → List ByteArray → List Int → Option (Bool)
  | 0, _, _, _, _, _, _, _, _, _, _ => none
  | k + 1, x3, x5, x7, x26, x585000, x585001, x585002, x586000, x586001, x586002 => if x26 = true then (if x3 = true then (if x7 = 0 then (some true) else (some (x7 == 60))) else (some false)) else ((node_Right.f k x585000 x585001 x585002).bind fun t587 => (if t587 = true then ((node_Right.f k x586000 x586001 x586002).bind fun t588 => (if t588 = true then ((node_Size.f x585000 x585001 x585002).bind fun t589 => (if t589 > 237 then (bazaarlaw06_NodeHalves.j1 k x3 x5 true x585000 x585001 x585002 x586000 x586001 x586002) else ((node_Size.f x586000 x586001 x586002).bind fun t590 => (if t590 > 237 then (bazaarlaw06_NodeHalves.j1 k x3 x5 true x585000 x585001 x585002 x586000 x586001 x586002) else ((node_Size.f x585000 x585001 x585002).bind fun t591 => (if t591 < 1 then (bazaarlaw06_NodeHalves.j1 k x3 x5 true x585000 x585001 x585002 x586000 x586001 x586002) else ((node_Size.f x586000 x586001 x586002).bind fun t592 => (bazaarlaw06_NodeHalves.j1 k x3 x5 (decide (t592 < 1)) x585000 x585001 x585002 x586000 x586001 x586002)))))))) else (bazaarlaw06_NodeHalves.j1 k x3 x5 true x585000 x585001 x585002 x586000 x586001 x586002))) else (bazaarlaw06_NodeHalves.j1 k x3 x5 true x585000 x585001 x585002 x586000 x586001 x586002)))
def bazaarlaw06_NodeHalves.j1 : Nat → Bool → ByteArray → Bool → List (S39) → List ByteArray → List Int → List (S39) → List ByteArray → List Int → Option (Bool)
  | 0, _, _, _, _, _, _, _, _, _ => none
  | k + 1, x3, x5, x63, x585000, x585001, x585002, x586000, x586001, x586002 => if x63 = true then (some false) else (bazaarlaw06_NodeHalves.l0 k x3 x5 0 x585000 x585001 x585002 x586000 x586001 x586002)
def bazaarlaw06_NodeHalves.l0 : Nat → Bool → ByteArray → Int → List (S39) → List ByteArray → List Int → List (S39) → List ByteArray → List Int → Option (Bool)
  | 0, _, _, _, _, _, _, _, _, _ => none
  | k + 1, x3, x5, x8, x585000, x585001, x585002, x586000, x586001, x586002 => if x8 < (x585000.length : Int) then (if 0 ≤ x8 then ((bazaarref06_Less.f k ((rd_T39 x585000 x8).f0) x5).bind fun t594 => (if t594 = true then (bazaarlaw06_NodeHalves.l0 k x3 x5 (wrap64 (x8 + 1)) x585000 x585001 x585002 x586000 x586001 x586002) else (some false))) else (none)) else (bazaarlaw06_NodeHalves.l1 k x3 x5 0 x586000 x586001 x586002)
def bazaarlaw06_NodeHalves.l1 : Nat → Bool → ByteArray → Int → List (S39) → List ByteArray → List Int → Option (Bool)
  | 0, _, _, _, _, _, _ => none
  | k + 1, x3, x5, x9, x586000, x586001, x586002 => if x9 < (x586000.length : Int) then (if 0 ≤ x9 then ((bazaarref06_Less.f k ((rd_T39 x586000 x9).f0) x5).bind fun t596 => (if t596 = true then (some false) else (bazaarlaw06_NodeHalves.l1 k x3 x5 (wrap64 (x9 + 1)) x586000 x586001 x586002))) else (none)) else (some x3)
end
def bazaarlaw06_NodeHalves.f (k : Nat) (l0_0 : List (S39)) (l0_1 : List ByteArray) (l0_2 : List Int) : Option (Bool) := (bazaarlaw06_shown.f).bind fun t554 => ((bazaarlaw06_cut.f k l0_0 l0_1 l0_2).bind fun bt555 => ((node_Split.f k bt555.1 bt555.2.1 bt555.2.2).bind fun bt564 => (if bt564.2.2.2.2.2.2.2 = 0 then ((node_Size.f bt555.1 bt555.2.1 bt555.2.2).bind fun t586 => (bazaarlaw06_NodeHalves.j0 k t554 bt564.2.2.2.1 bt564.2.2.2.2.2.2.2 (decide (t586 > 323)) bt564.1 bt564.2.1 bt564.2.2.1 bt564.2.2.2.2.1 bt564.2.2.2.2.2.1 bt564.2.2.2.2.2.2.1)) else (bazaarlaw06_NodeHalves.j0 k t554 bt564.2.2.2.1 bt564.2.2.2.2.2.2.2 true bt564.1 bt564.2.1 bt564.2.2.1 bt564.2.2.2.2.1 bt564.2.2.2.2.2.1 bt564.2.2.2.2.2.2.1))))
theorem bazaarlaw06_NodeHalves.mono_l : ∀ k, (∀ y0 y1 y2 y3 y4 y5 y6 y7 y8 y9, LeO (bazaarlaw06_NodeHalves.j0 k y0 y1 y2 y3 y4 y5 y6 y7 y8 y9) (bazaarlaw06_NodeHalves.j0 (k + 1) y0 y1 y2 y3 y4 y5 y6 y7 y8 y9)) ∧ (∀ y0 y1 y2 y3 y4 y5 y6 y7 y8, LeO (bazaarlaw06_NodeHalves.j1 k y0 y1 y2 y3 y4 y5 y6 y7 y8) (bazaarlaw06_NodeHalves.j1 (k + 1) y0 y1 y2 y3 y4 y5 y6 y7 y8)) ∧ (∀ y0 y1 y2 y3 y4 y5 y6 y7 y8, LeO (bazaarlaw06_NodeHalves.l0 k y0 y1 y2 y3 y4 y5 y6 y7 y8) (bazaarlaw06_NodeHalves.l0 (k + 1) y0 y1 y2 y3 y4 y5 y6 y7 y8)) ∧ (∀ y0 y1 y2 y3 y4 y5, LeO (bazaarlaw06_NodeHalves.l1 k y0 y1 y2 y3 y4 y5) (bazaarlaw06_NodeHalves.l1 (k + 1) y0 y1 y2 y3 y4 y5))
  | 0 => ⟨fun _ _ _ _ _ _ _ _ _ _ r h => by simp [bazaarlaw06_NodeHalves.j0] at h, fun _ _ _ _ _ _ _ _ _ r h => by simp [bazaarlaw06_NodeHalves.j1] at h, fun _ _ _ _ _ _ _ _ _ r h => by simp [bazaarlaw06_NodeHalves.l0] at h, fun _ _ _ _ _ _ r h => by simp [bazaarlaw06_NodeHalves.l1] at h⟩
  | k + 1 => by
    obtain ⟨ih0, ih1, ih2, ih3⟩ := bazaarlaw06_NodeHalves.mono_l k
    refine ⟨?_, ?_, ?_, ?_⟩
    · intro y0 y1 y2 y3 y4 y5 y6 y7 y8 y9
      unfold bazaarlaw06_NodeHalves.j0
      repeat' first
      | (with_reducible exact ih0 _ _ _ _ _ _ _ _ _ _)
      | (with_reducible exact ih1 _ _ _ _ _ _ _ _ _)
      | (with_reducible exact ih2 _ _ _ _ _ _ _ _ _)
      | (with_reducible exact ih3 _ _ _ _ _ _)
      | (with_reducible exact bazaarlaw06_cut.mono _ _ _ _)
      | (with_reducible exact bazaarref06_Less.mono _ _ _)
      | (with_reducible exact node_Right.mono _ _ _ _)
      | (with_reducible exact node_Split.mono _ _ _ _)
      | (with_reducible exact LeO.refl _)
      | (with_reducible exact LeO.none _)
      | (with_reducible refine LeO.ite ?_ ?_)
      | (with_reducible refine LeO.bind ?_ (fun _ => ?_))
      | exact ih0 _ _ _ _ _ _ _ _ _ _
      | exact ih1 _ _ _ _ _ _ _ _ _
      | exact ih2 _ _ _ _ _ _ _ _ _
      | exact ih3 _ _ _ _ _ _
      | exact bazaarlaw06_cut.mono _ _ _ _
      | exact bazaarref06_Less.mono _ _ _
      | exact node_Right.mono _ _ _ _
      | exact node_Split.mono _ _ _ _
      | exact LeO.none _
      | refine LeO.ite ?_ ?_
      | refine LeO.bind ?_ (fun _ => ?_)
    · intro y0 y1 y2 y3 y4 y5 y6 y7 y8
      unfold bazaarlaw06_NodeHalves.j1
      repeat' first
      | (with_reducible exact ih0 _ _ _ _ _ _ _ _ _ _)
      | (with_reducible exact ih1 _ _ _ _ _ _ _ _ _)
      | (with_reducible exact ih2 _ _ _ _ _ _ _ _ _)
      | (with_reducible exact ih3 _ _ _ _ _ _)
      | (with_reducible exact bazaarlaw06_cut.mono _ _ _ _)
      | (with_reducible exact bazaarref06_Less.mono _ _ _)
      | (with_reducible exact node_Right.mono _ _ _ _)
      | (with_reducible exact node_Split.mono _ _ _ _)
      | (with_reducible exact LeO.refl _)
      | (with_reducible exact LeO.none _)
      | (with_reducible refine LeO.ite ?_ ?_)
      | (with_reducible refine LeO.bind ?_ (fun _ => ?_))
      | exact ih0 _ _ _ _ _ _ _ _ _ _
      | exact ih1 _ _ _ _ _ _ _ _ _
      | exact ih2 _ _ _ _ _ _ _ _ _
      | exact ih3 _ _ _ _ _ _
      | exact bazaarlaw06_cut.mono _ _ _ _
      | exact bazaarref06_Less.mono _ _ _
      | exact node_Right.mono _ _ _ _
      | exact node_Split.mono _ _ _ _
      | exact LeO.none _
      | refine LeO.ite ?_ ?_
      | refine LeO.bind ?_ (fun _ => ?_)
    · intro y0 y1 y2 y3 y4 y5 y6 y7 y8
      unfold bazaarlaw06_NodeHalves.l0
      repeat' first
      | (with_reducible exact ih0 _ _ _ _ _ _ _ _ _ _)
      | (with_reducible exact ih1 _ _ _ _ _ _ _ _ _)
      | (with_reducible exact ih2 _ _ _ _ _ _ _ _ _)
      | (with_reducible exact ih3 _ _ _ _ _ _)
      | (with_reducible exact bazaarlaw06_cut.mono _ _ _ _)
      | (with_reducible exact bazaarref06_Less.mono _ _ _)
      | (with_reducible exact node_Right.mono _ _ _ _)
      | (with_reducible exact node_Split.mono _ _ _ _)
      | (with_reducible exact LeO.refl _)
      | (with_reducible exact LeO.none _)
      | (with_reducible refine LeO.ite ?_ ?_)
      | (with_reducible refine LeO.bind ?_ (fun _ => ?_))
      | exact ih0 _ _ _ _ _ _ _ _ _ _
      | exact ih1 _ _ _ _ _ _ _ _ _
      | exact ih2 _ _ _ _ _ _ _ _ _
      | exact ih3 _ _ _ _ _ _
      | exact bazaarlaw06_cut.mono _ _ _ _
      | exact bazaarref06_Less.mono _ _ _
      | exact node_Right.mono _ _ _ _
      | exact node_Split.mono _ _ _ _
      | exact LeO.none _
      | refine LeO.ite ?_ ?_
      | refine LeO.bind ?_ (fun _ => ?_)
    · intro y0 y1 y2 y3 y4 y5
      unfold bazaarlaw06_NodeHalves.l1
      repeat' first
      | (with_reducible exact ih0 _ _ _ _ _ _ _ _ _ _)
      | (with_reducible exact ih1 _ _ _ _ _ _ _ _ _)
      | (with_reducible exact ih2 _ _ _ _ _ _ _ _ _)
      | (with_reducible exact ih3 _ _ _ _ _ _)
      | (with_reducible exact bazaarlaw06_cut.mono _ _ _ _)
      | (with_reducible exact bazaarref06_Less.mono _ _ _)
      | (with_reducible exact node_Right.mono _ _ _ _)
      | (with_reducible exact node_Split.mono _ _ _ _)
      | (with_reducible exact LeO.refl _)
      | (with_reducible exact LeO.none _)
      | (with_reducible refine LeO.ite ?_ ?_)
      | (with_reducible refine LeO.bind ?_ (fun _ => ?_))
      | exact ih0 _ _ _ _ _ _ _ _ _ _
      | exact ih1 _ _ _ _ _ _ _ _ _
      | exact ih2 _ _ _ _ _ _ _ _ _
      | exact ih3 _ _ _ _ _ _
      | exact bazaarlaw06_cut.mono _ _ _ _
      | exact bazaarref06_Less.mono _ _ _
      | exact node_Right.mono _ _ _ _
      | exact node_Split.mono _ _ _ _
      | exact LeO.none _
      | refine LeO.ite ?_ ?_
      | refine LeO.bind ?_ (fun _ => ?_)
theorem bazaarlaw06_NodeHalves.mono : ∀ a0 a1 a2 k, LeO (bazaarlaw06_NodeHalves.f k a0 a1 a2) (bazaarlaw06_NodeHalves.f (k + 1) a0 a1 a2) := by
  intro a0 a1 a2 k
  obtain ⟨ih0, ih1, ih2, ih3⟩ := bazaarlaw06_NodeHalves.mono_l k
  unfold bazaarlaw06_NodeHalves.f
  repeat' first
      | (with_reducible exact ih0 _ _ _ _ _ _ _ _ _ _)
      | (with_reducible exact ih1 _ _ _ _ _ _ _ _ _)
      | (with_reducible exact ih2 _ _ _ _ _ _ _ _ _)
      | (with_reducible exact ih3 _ _ _ _ _ _)
      | (with_reducible exact bazaarlaw06_cut.mono _ _ _ _)
      | (with_reducible exact bazaarref06_Less.mono _ _ _)
      | (with_reducible exact node_Right.mono _ _ _ _)
      | (with_reducible exact node_Split.mono _ _ _ _)
      | (with_reducible exact LeO.refl _)
      | (with_reducible exact LeO.none _)
      | (with_reducible refine LeO.ite ?_ ?_)
      | (with_reducible refine LeO.bind ?_ (fun _ => ?_))
      | exact ih0 _ _ _ _ _ _ _ _ _ _
      | exact ih1 _ _ _ _ _ _ _ _ _
      | exact ih2 _ _ _ _ _ _ _ _ _
      | exact ih3 _ _ _ _ _ _
      | exact bazaarlaw06_cut.mono _ _ _ _
      | exact bazaarref06_Less.mono _ _ _
      | exact node_Right.mono _ _ _ _
      | exact node_Split.mono _ _ _ _
      | exact LeO.none _
      | refine LeO.ite ?_ ?_
      | refine LeO.bind ?_ (fun _ => ?_)
set_option maxHeartbeats 8000000 in
set_option maxRecDepth 100000 in
theorem bazaarlaw06_NodeHalves.calls (k : Nat) (A0_0 : Option Addr) (c0_0 : Nat) (l0_0 : List (S39)) (A0_1 : Option Addr) (c0_1 : Nat) (l0_1 : List ByteArray) (A0_2 : Option Addr) (c0_2 : Nat) (l0_2 : List Int) (r : Bool) (w : World) (hr0_0 : Kd.C k39 w A0_0 l0_0.length l0_0) (hc0_0 : l0_0.length ≤ c0_0) (hr0_1 : Kd.C Kd.string w A0_1 l0_1.length l0_1) (hc0_1 : l0_1.length ≤ c0_1) (hr0_2 : Kd.C (Kd.int .u32) w A0_2 l0_2.length l0_2) (hc0_2 : l0_2.length ≤ c0_2) (h : bazaarlaw06_NodeHalves.f k l0_0 l0_1 l0_2 = some r) (hr_ : r = true) :
    Calls Try.prog 8 #[.agg #[.slice A0_0 l0_0.length c0_0, .slice A0_1 l0_1.length c0_1, .slice A0_2 l0_2.length c0_2]] w fun e w' => e = .returned (.bool r) ∧ Below w.heap.size w w' := by
  have hu26 := Try.underlying26
  have HR0_0 := Aside0.mk hr0_0
  have HC0_0 := Aside0.mk hc0_0
  clear hr0_0 hc0_0
  have HR0_1 := Aside0.mk hr0_1
  have HC0_1 := Aside0.mk hc0_1
  clear hr0_1 hc0_1
  have HR0_2 := Aside0.mk hr0_2
  have HC0_2 := Aside0.mk hc0_2
  clear hr0_2 hc0_2
  have HB := Aside0.mk (Below.refl w.heap.size w)
  have H : ((bazaarlaw06_shown.f).bind fun t554 => ((bazaarlaw06_cut.f k l0_0 l0_1 l0_2).bind fun bt555 => ((node_Split.f k bt555.1 bt555.2.1 bt555.2.2).bind fun bt564 => (if bt564.2.2.2.2.2.2.2 = 0 then ((node_Size.f bt555.1 bt555.2.1 bt555.2.2).bind fun t586 => (bazaarlaw06_NodeHalves.j0 k t554 bt564.2.2.2.1 bt564.2.2.2.2.2.2.2 (decide (t586 > 323)) bt564.1 bt564.2.1 bt564.2.2.1 bt564.2.2.2.2.1 bt564.2.2.2.2.2.1 bt564.2.2.2.2.2.2.1)) else (bazaarlaw06_NodeHalves.j0 k t554 bt564.2.2.2.1 bt564.2.2.2.2.2.2.2 true bt564.1 bt564.2.1 bt564.2.2.1 bt564.2.2.2.2.1 bt564.2.2.2.2.2.1 bt564.2.2.2.2.2.2.1))))) = some r := h
  clear h
  replace H := Option.bind_eq_some_iff.mp H
  obtain ⟨t554, A20, H⟩ := H
  replace H : ((bazaarlaw06_cut.f k l0_0 l0_1 l0_2).bind fun bt555 => ((node_Split.f k bt555.1 bt555.2.1 bt555.2.2).bind fun bt564 => (if bt564.2.2.2.2.2.2.2 = 0 then ((node_Size.f bt555.1 bt555.2.1 bt555.2.2).bind fun t586 => (bazaarlaw06_NodeHalves.j0 k t554 bt564.2.2.2.1 bt564.2.2.2.2.2.2.2 (decide (t586 > 323)) bt564.1 bt564.2.1 bt564.2.2.1 bt564.2.2.2.2.1 bt564.2.2.2.2.2.1 bt564.2.2.2.2.2.2.1)) else (bazaarlaw06_NodeHalves.j0 k t554 bt564.2.2.2.1 bt564.2.2.2.2.2.2.2 true bt564.1 bt564.2.1 bt564.2.2.1 bt564.2.2.2.2.1 bt564.2.2.2.2.2.1 bt564.2.2.2.2.2.2.1)))) = some r := H
  have A2 := Aside0.mk A20
  clear A20
  replace H := Option.bind_eq_some_iff.mp H
  obtain ⟨⟨t555, t558, t561⟩, A30, H⟩ := H
  replace H : ((node_Split.f k t555 t558 t561).bind fun bt564 => (if bt564.2.2.2.2.2.2.2 = 0 then ((node_Size.f t555 t558 t561).bind fun t586 => (bazaarlaw06_NodeHalves.j0 k t554 bt564.2.2.2.1 bt564.2.2.2.2.2.2.2 (decide (t586 > 323)) bt564.1 bt564.2.1 bt564.2.2.1 bt564.2.2.2.2.1 bt564.2.2.2.2.2.1 bt564.2.2.2.2.2.2.1)) else (bazaarlaw06_NodeHalves.j0 k t554 bt564.2.2.2.1 bt564.2.2.2.2.2.2.2 true bt564.1 bt564.2.1 bt564.2.2.1 bt564.2.2.2.2.1 bt564.2.2.2.2.2.1 bt564.2.2.2.2.2.2.1))) = some r := H
  have A3 := Aside0.mk A30
  clear A30
  replace H := Option.bind_eq_some_iff.mp H
  obtain ⟨⟨t564, t567, t570, t573, t574, t577, t580, t583⟩, A40, H⟩ := H
  replace H : (if t583 = 0 then ((node_Size.f t555 t558 t561).bind fun t586 => (bazaarlaw06_NodeHalves.j0 k t554 t573 t583 (decide (t586 > 323)) t564 t567 t570 t574 t577 t580)) else (bazaarlaw06_NodeHalves.j0 k t554 t573 t583 true t564 t567 t570 t574 t577 t580)) = some r := H
  have A4 := Aside0.mk A40
  clear A40
  have HC5 := Aside0.mk H
  clear H
  go_enter Try.func8, Try.ntmps8
  go_upto_region 4 with (first | ((with_reducible refine gate_dst (N := 1) rfl ?_); refine box_event ?hg (N := 1) ?hd (cs := #[.slice A0_0 l0_0.length c0_0, .slice A0_1 l0_1.length c0_1, .slice A0_2 l0_2.length c0_2]) (t := 26) ?hr ?_; (case hd => rfl); (case hg => rfl); (case hr => first | (go_simp; done) | (go_simp; rfl)); intro gb553 hg w6 hbox hb; have BK553 := Aside0.mk (hbox); have GW553 := Aside0.mk ((by rw [hg]; exact (below_size (by repeat (first | (with_reducible first | exact HB.out | apply below_alloc | apply pw_below_drewN | apply below_drew1) | exact HB.out))) : w.heap.size ≤ gb553)); have GE553 := Aside0.mk ((by rw [hg]; exact (below_size (by repeat (first | (with_reducible first | exact HB.out | apply below_alloc | apply pw_below_drewN | apply below_drew1) | exact HB.out))) : w.heap.size ≤ gb553)); replace HB := Aside0.mk (below_step (by repeat (first | (with_reducible first | exact HB.out | apply below_alloc | apply pw_below_drewN | apply below_drew1) | exact HB.out)) hb); clear hb hbox hg) | ((with_reducible refine gate_callee (f := 10) rfl ?_); refine goesL_ (some 10) rfl rfl Try.func10 (by kernel_rfl) rfl #[] rfl (by (try simp only [List.map_toArray, List.map_cons, List.map_nil]); first | done | rfl | (simp only [List.length_drop, List.length_take]; rfl)) ?_; (with_reducible refine (bazaarlaw06_shown.calls  t554 _ A2.out).mono ?_); rintro e w7 ⟨rfl, hb⟩; refine ⟨_, rfl, ?_⟩; replace BK553 := Aside0.mk (blk_below (g := gb553) (o := .cells #[.slice A0_0 l0_0.length c0_0, .slice A0_1 l0_1.length c0_1, .slice A0_2 l0_2.length c0_2] 26 (0, 0)) (by (with_reducible repeat (first | refine blk_drewN ?_ _ | refine blk_drew ?_ | refine blk_alloc ?_ _)); exact BK553.out) hb); replace HB := Aside0.mk (below_step (by repeat (first | (with_reducible first | exact HB.out | apply below_alloc | apply pw_below_drewN | apply below_drew1 | refine below_set ?_ GE553.out) | exact HB.out)) hb); (try clear hb); (try clear hb2); (try clear hk); (try clear hi); have hcz8_0 : w7.cell? ⟨gb553, 0, none⟩ = some (.slice A0_0 l0_0.length c0_0) := (blk_cell BK553.out 0).trans rfl; have hcz8_1 : w7.cell? ⟨gb553, 1, none⟩ = some (.slice A0_1 l0_1.length c0_1) := (blk_cell BK553.out 1).trans rfl; have hcz8_2 : w7.cell? ⟨gb553, 2, none⟩ = some (.slice A0_2 l0_2.length c0_2) := (blk_cell BK553.out 2).trans rfl; have hfz8_0 := blk_frozen BK553.out 0; have hfz8_1 := blk_frozen BK553.out 1; have hfz8_2 := blk_frozen BK553.out 2) | ((with_reducible refine gate_callee (f := 11) rfl ?_); refine goesL_ (some 12) rfl rfl Try.func11 (by kernel_rfl) rfl #[.agg #[.slice A0_0 l0_0.length c0_0, .slice A0_1 l0_1.length c0_1, .slice A0_2 l0_2.length c0_2]] rfl (by (try simp only [List.map_toArray, List.map_cons, List.map_nil]); first | done | rfl | (simp only [List.length_drop, List.length_take]; rfl)) ?_; (with_reducible refine (bazaarlaw06_cut.calls k _ _ l0_0 _ _ l0_1 _ _ l0_2 t555 t558 t561 _ ?side1 ?side2 ?side3 ?side4 ?side5 ?side6 A3.out).mono ?_); (case side1 => repeat (first | exact (Kd.C_below HR0_0.out HB.out) | (with_reducible refine Kd.C_alloc ?_ _) | (with_reducible refine Kd.C_drewN ?_ _) | (with_reducible refine Kd.C_drew ?_))); (case side2 => exact HC0_0.out); (case side3 => repeat (first | exact (Kd.C_below HR0_1.out HB.out) | (with_reducible refine Kd.C_alloc ?_ _) | (with_reducible refine Kd.C_drewN ?_ _) | (with_reducible refine Kd.C_drew ?_))); (case side4 => exact HC0_1.out); (case side5 => repeat (first | exact (Kd.C_below HR0_2.out HB.out) | (with_reducible refine Kd.C_alloc ?_ _) | (with_reducible refine Kd.C_drewN ?_ _) | (with_reducible refine Kd.C_drew ?_))); (case side6 => exact HC0_2.out); rintro e w9 ⟨v556, v559, v562, rfl, ho0, ho1, ho2, hb⟩; refine ⟨_, rfl, ?_⟩; have HO557 := Aside0.mk (Kd.R_lower ho0 (below_size (by repeat (first | (with_reducible first | exact HB.out | apply below_alloc | apply pw_below_drewN | apply below_drew1 | refine below_set ?_ GE553.out) | exact HB.out)))); have HO560 := Aside0.mk (Kd.R_lower ho1 (below_size (by repeat (first | (with_reducible first | exact HB.out | apply below_alloc | apply pw_below_drewN | apply below_drew1 | refine below_set ?_ GE553.out) | exact HB.out)))); have HO563 := Aside0.mk (Kd.R_lower ho2 (below_size (by repeat (first | (with_reducible first | exact HB.out | apply below_alloc | apply pw_below_drewN | apply below_drew1 | refine below_set ?_ GE553.out) | exact HB.out)))); replace BK553 := Aside0.mk (blk_below (g := gb553) (o := .cells #[.slice A0_0 l0_0.length c0_0, .slice A0_1 l0_1.length c0_1, .slice A0_2 l0_2.length c0_2] 26 (0, 0)) (by (with_reducible repeat (first | refine blk_drewN ?_ _ | refine blk_drew ?_ | refine blk_alloc ?_ _)); exact BK553.out) hb); replace HB := Aside0.mk (below_step (by repeat (first | (with_reducible first | exact HB.out | apply below_alloc | apply pw_below_drewN | apply below_drew1 | refine below_set ?_ GE553.out) | exact HB.out)) hb); (try clear hb); (try clear hb2); (try clear hk); (try clear hi); (try clear ho0); (try clear ho1); (try clear ho2); obtain ⟨Ao10, co10, eo10⟩ := Kd.R_slice HO557.out; subst eo10; have hcz11_0 : w9.cell? ⟨gb553, 0, none⟩ = some (.slice A0_0 l0_0.length c0_0) := (blk_cell BK553.out 0).trans rfl; have hcz11_1 : w9.cell? ⟨gb553, 1, none⟩ = some (.slice A0_1 l0_1.length c0_1) := (blk_cell BK553.out 1).trans rfl; have hcz11_2 : w9.cell? ⟨gb553, 2, none⟩ = some (.slice A0_2 l0_2.length c0_2) := (blk_cell BK553.out 2).trans rfl; have hfz11_0 := blk_frozen BK553.out 0; have hfz11_1 := blk_frozen BK553.out 1; have hfz11_2 := blk_frozen BK553.out 2; obtain ⟨Ao12, co12, eo12⟩ := Kd.R_slice HO560.out; subst eo12; obtain ⟨Ao13, co13, eo13⟩ := Kd.R_slice HO563.out; subst eo13) | ((with_reducible refine gate_callee (f := 27) rfl ?_); refine goesL_ (some 15) rfl rfl Try.func27 (by kernel_rfl) rfl #[.agg #[.slice Ao10 t555.length co10, .slice Ao12 t558.length co12, .slice Ao13 t561.length co13]] rfl (by (try simp only [List.map_toArray, List.map_cons, List.map_nil]); first | done | rfl | (simp only [List.length_drop, List.length_take]; rfl)) ?_; (with_reducible refine (node_Split.calls k _ _ t555 _ _ t558 _ _ t561 t564 t567 t570 t573 t574 t577 t580 t583 _ ?side1 ?side2 ?side3 ?side4 ?side5 ?side6 A4.out).mono ?_); (case side1 => refine (Kd.R_reads' (e := 39) (base := w.heap.size) (ok := fun k_ => True) (n := t555.length) (c := co10) ?_).2.2; exact (by (with_reducible repeat (first | apply Kd.R_alloc | apply Kd.R_drewN | apply Kd.R_drew)); exact (Kd.R_mono (Kd.R_far (p := ⟨gb553, 2, none⟩) (Kd.R_far (p := ⟨gb553, 1, none⟩) (Kd.R_far (p := ⟨gb553, 0, none⟩) (Kd.R_types HO557.out BK553.out (by decide)) (fun _ hk => hk.2) (.slice Ao10 t555.length co10)) (fun _ hk => hk.2) (.slice Ao12 t558.length co12)) (fun _ hk => hk.2) (.slice Ao13 t561.length co13)) (fun _ h_ => h_.1)))); (case side2 => exact (Kd.R_reads' HO557.out).2.1); (case side3 => refine (Kd.R_reads' (e := 9) (base := w.heap.size) (ok := fun k_ => True) (n := t558.length) (c := co12) ?_).2.2; exact (by (with_reducible repeat (first | apply Kd.R_alloc | apply Kd.R_drewN | apply Kd.R_drew)); exact (Kd.R_mono (Kd.R_far (p := ⟨gb553, 2, none⟩) (Kd.R_far (p := ⟨gb553, 1, none⟩) (Kd.R_far (p := ⟨gb553, 0, none⟩) (Kd.R_types HO560.out BK553.out (by decide)) (fun _ hk => hk.2) (.slice Ao10 t555.length co10)) (fun _ hk => hk.2) (.slice Ao12 t558.length co12)) (fun _ hk => hk.2) (.slice Ao13 t561.length co13)) (fun _ h_ => h_.1)))); (case side4 => exact (Kd.R_reads' HO560.out).2.1); (case side5 => refine (Kd.R_reads' (e := 65) (base := w.heap.size) (ok := fun k_ => True) (n := t561.length) (c := co13) ?_).2.2; exact (by (with_reducible repeat (first | apply Kd.R_alloc | apply Kd.R_drewN | apply Kd.R_drew)); exact (Kd.R_mono (Kd.R_far (p := ⟨gb553, 2, none⟩) (Kd.R_far (p := ⟨gb553, 1, none⟩) (Kd.R_far (p := ⟨gb553, 0, none⟩) (Kd.R_types HO563.out BK553.out (by decide)) (fun _ hk => hk.2) (.slice Ao10 t555.length co10)) (fun _ hk => hk.2) (.slice Ao12 t558.length co12)) (fun _ hk => hk.2) (.slice Ao13 t561.length co13)) (fun _ h_ => h_.1)))); (case side6 => exact (Kd.R_reads' HO563.out).2.1); rintro e w14 ⟨v565, v568, v571, v575, v578, v581, rfl, ho0, ho1, ho2, ho3, ho4, ho5, hb⟩; refine ⟨_, rfl, ?_⟩; have HO566 := Aside0.mk (Kd.R_lower (Kd.R_new' ho0 (Kd.R_lt (by (with_reducible repeat (first | apply Kd.R_alloc | apply Kd.R_drewN | apply Kd.R_drew)); exact (Kd.R_mono (Kd.R_far (p := ⟨gb553, 2, none⟩) (Kd.R_far (p := ⟨gb553, 1, none⟩) (Kd.R_far (p := ⟨gb553, 0, none⟩) (Kd.R_types HO557.out BK553.out (by decide)) (fun _ hk => hk.2) (.slice Ao10 t555.length co10)) (fun _ hk => hk.2) (.slice Ao12 t558.length co12)) (fun _ hk => hk.2) (.slice Ao13 t561.length co13)) (fun _ h_ => h_.1))))) (below_size (by repeat (first | (with_reducible first | exact HB.out | apply below_alloc | apply pw_below_drewN | apply below_drew1 | refine below_set ?_ GE553.out) | exact HB.out)))); have HO569 := Aside0.mk (Kd.R_lower (Kd.R_new' ho1 (Kd.R_lt (by (with_reducible repeat (first | apply Kd.R_alloc | apply Kd.R_drewN | apply Kd.R_drew)); exact (Kd.R_mono (Kd.R_far (p := ⟨gb553, 2, none⟩) (Kd.R_far (p := ⟨gb553, 1, none⟩) (Kd.R_far (p := ⟨gb553, 0, none⟩) (Kd.R_types HO560.out BK553.out (by decide)) (fun _ hk => hk.2) (.slice Ao10 t555.length co10)) (fun _ hk => hk.2) (.slice Ao12 t558.length co12)) (fun _ hk => hk.2) (.slice Ao13 t561.length co13)) (fun _ h_ => h_.1))))) (below_size (by repeat (first | (with_reducible first | exact HB.out | apply below_alloc | apply pw_below_drewN | apply below_drew1 | refine below_set ?_ GE553.out) | exact HB.out)))); have HO572 := Aside0.mk (Kd.R_lower (Kd.R_new' ho2 (Kd.R_lt (by (with_reducible repeat (first | apply Kd.R_alloc | apply Kd.R_drewN | apply Kd.R_drew)); exact (Kd.R_mono (Kd.R_far (p := ⟨gb553, 2, none⟩) (Kd.R_far (p := ⟨gb553, 1, none⟩) (Kd.R_far (p := ⟨gb553, 0, none⟩) (Kd.R_types HO563.out BK553.out (by decide)) (fun _ hk => hk.2) (.slice Ao10 t555.length co10)) (fun _ hk => hk.2) (.slice Ao12 t558.length co12)) (fun _ hk => hk.2) (.slice Ao13 t561.length co13)) (fun _ h_ => h_.1))))) (below_size (by repeat (first | (with_reducible first | exact HB.out | apply below_alloc | apply pw_below_drewN | apply below_drew1 | refine below_set ?_ GE553.out) | exact HB.out)))); have HO576 := Aside0.mk (Kd.R_lower (Kd.R_new' ho3 (Kd.R_lt (by (with_reducible repeat (first | apply Kd.R_alloc | apply Kd.R_drewN | apply Kd.R_drew)); exact (Kd.R_mono (Kd.R_far (p := ⟨gb553, 2, none⟩) (Kd.R_far (p := ⟨gb553, 1, none⟩) (Kd.R_far (p := ⟨gb553, 0, none⟩) (Kd.R_types HO557.out BK553.out (by decide)) (fun _ hk => hk.2) (.slice Ao10 t555.length co10)) (fun _ hk => hk.2) (.slice Ao12 t558.length co12)) (fun _ hk => hk.2) (.slice Ao13 t561.length co13)) (fun _ h_ => h_.1))))) (below_size (by repeat (first | (with_reducible first | exact HB.out | apply below_alloc | apply pw_below_drewN | apply below_drew1 | refine below_set ?_ GE553.out) | exact HB.out)))); have HO579 := Aside0.mk (Kd.R_lower (Kd.R_new' ho4 (Kd.R_lt (by (with_reducible repeat (first | apply Kd.R_alloc | apply Kd.R_drewN | apply Kd.R_drew)); exact (Kd.R_mono (Kd.R_far (p := ⟨gb553, 2, none⟩) (Kd.R_far (p := ⟨gb553, 1, none⟩) (Kd.R_far (p := ⟨gb553, 0, none⟩) (Kd.R_types HO560.out BK553.out (by decide)) (fun _ hk => hk.2) (.slice Ao10 t555.length co10)) (fun _ hk => hk.2) (.slice Ao12 t558.length co12)) (fun _ hk => hk.2) (.slice Ao13 t561.length co13)) (fun _ h_ => h_.1))))) (below_size (by repeat (first | (with_reducible first | exact HB.out | apply below_alloc | apply pw_below_drewN | apply below_drew1 | refine below_set ?_ GE553.out) | exact HB.out)))); have HO582 := Aside0.mk (Kd.R_lower (Kd.R_new' ho5 (Kd.R_lt (by (with_reducible repeat (first | apply Kd.R_alloc | apply Kd.R_drewN | apply Kd.R_drew)); exact (Kd.R_mono (Kd.R_far (p := ⟨gb553, 2, none⟩) (Kd.R_far (p := ⟨gb553, 1, none⟩) (Kd.R_far (p := ⟨gb553, 0, none⟩) (Kd.R_types HO563.out BK553.out (by decide)) (fun _ hk => hk.2) (.slice Ao10 t555.length co10)) (fun _ hk => hk.2) (.slice Ao12 t558.length co12)) (fun _ hk => hk.2) (.slice Ao13 t561.length co13)) (fun _ h_ => h_.1))))) (below_size (by repeat (first | (with_reducible first | exact HB.out | apply below_alloc | apply pw_below_drewN | apply below_drew1 | refine below_set ?_ GE553.out) | exact HB.out)))); replace HO557 := Aside0.mk (Kd.R_mono (Kd.R_told (Kd.R_told (Kd.R_old (by (with_reducible repeat (first | apply Kd.R_alloc | apply Kd.R_drewN | apply Kd.R_drew)); exact (Kd.R_mono (Kd.R_far (p := ⟨gb553, 2, none⟩) (Kd.R_far (p := ⟨gb553, 1, none⟩) (Kd.R_far (p := ⟨gb553, 0, none⟩) (Kd.R_types HO557.out BK553.out (by decide)) (fun _ hk => hk.2) (.slice Ao10 t555.length co10)) (fun _ hk => hk.2) (.slice Ao12 t558.length co12)) (fun _ hk => hk.2) (.slice Ao13 t561.length co13)) (fun _ h_ => h_.1))) hb) (Kd.R_base ho0)) (Kd.R_base ho3)) (fun _ h_ => h_.1)); replace HO560 := Aside0.mk (Kd.R_mono (Kd.R_told (Kd.R_told (Kd.R_old (by (with_reducible repeat (first | apply Kd.R_alloc | apply Kd.R_drewN | apply Kd.R_drew)); exact (Kd.R_mono (Kd.R_far (p := ⟨gb553, 2, none⟩) (Kd.R_far (p := ⟨gb553, 1, none⟩) (Kd.R_far (p := ⟨gb553, 0, none⟩) (Kd.R_types HO560.out BK553.out (by decide)) (fun _ hk => hk.2) (.slice Ao10 t555.length co10)) (fun _ hk => hk.2) (.slice Ao12 t558.length co12)) (fun _ hk => hk.2) (.slice Ao13 t561.length co13)) (fun _ h_ => h_.1))) hb) (Kd.R_base ho1)) (Kd.R_base ho4)) (fun _ h_ => h_.1)); replace HO563 := Aside0.mk (Kd.R_mono (Kd.R_told (Kd.R_told (Kd.R_old (by (with_reducible repeat (first | apply Kd.R_alloc | apply Kd.R_drewN | apply Kd.R_drew)); exact (Kd.R_mono (Kd.R_far (p := ⟨gb553, 2, none⟩) (Kd.R_far (p := ⟨gb553, 1, none⟩) (Kd.R_far (p := ⟨gb553, 0, none⟩) (Kd.R_types HO563.out BK553.out (by decide)) (fun _ hk => hk.2) (.slice Ao10 t555.length co10)) (fun _ hk => hk.2) (.slice Ao12 t558.length co12)) (fun _ hk => hk.2) (.slice Ao13 t561.length co13)) (fun _ h_ => h_.1))) hb) (Kd.R_base ho2)) (Kd.R_base ho5)) (fun _ h_ => h_.1)); replace BK553 := Aside0.mk (blk_below (g := gb553) (o := .cells #[.slice Ao10 t555.length co10, .slice Ao12 t558.length co12, .slice Ao13 t561.length co13] 26 (0, 0)) (by (with_reducible repeat (first | refine blk_drewN ?_ _ | refine blk_drew ?_ | refine blk_alloc ?_ _)); refine blk_put (cs := #[.slice Ao10 t555.length co10, .slice Ao12 t558.length co12, .slice A0_2 l0_2.length c0_2]) ?_ 2 _ rfl; (with_reducible repeat (first | refine blk_drewN ?_ _ | refine blk_drew ?_ | refine blk_alloc ?_ _)); refine blk_put (cs := #[.slice Ao10 t555.length co10, .slice A0_1 l0_1.length c0_1, .slice A0_2 l0_2.length c0_2]) ?_ 1 _ rfl; (with_reducible repeat (first | refine blk_drewN ?_ _ | refine blk_drew ?_ | refine blk_alloc ?_ _)); refine blk_put (cs := #[.slice A0_0 l0_0.length c0_0, .slice A0_1 l0_1.length c0_1, .slice A0_2 l0_2.length c0_2]) ?_ 0 _ rfl; (with_reducible repeat (first | refine blk_drewN ?_ _ | refine blk_drew ?_ | refine blk_alloc ?_ _)); exact BK553.out) hb); replace HB := Aside0.mk (below_step (by repeat (first | (with_reducible first | exact HB.out | apply below_alloc | apply pw_below_drewN | apply below_drew1 | refine below_set ?_ GE553.out) | exact HB.out)) hb); (try clear hb); (try clear hb2); (try clear hk); (try clear hi); (try clear ho0); (try clear ho1); (try clear ho2); (try clear ho3); (try clear ho4); (try clear ho5)) | ((with_reducible refine gate_dst (N := 4) rfl ?_); refine box_event ?hg (N := 4) ?hd (cs := #[.slice none 0 0, .slice none 0 0, .slice none 0 0]) (t := 26) ?hr ?_; (case hd => rfl); (case hg => rfl); (case hr => first | (go_simp; done) | (go_simp; rfl)); intro gb584 hg w15 hbox hb; have BK584 := Aside0.mk (hbox); have GW584 := Aside0.mk ((by rw [hg]; exact (below_size (by repeat (first | (with_reducible first | exact HB.out | apply below_alloc | apply pw_below_drewN | apply below_drew1 | refine below_set ?_ GE553.out) | exact HB.out))) : w.heap.size ≤ gb584)); have GE584 := Aside0.mk ((by rw [hg]; exact (below_size (by repeat (first | (with_reducible first | exact HB.out | apply below_alloc | apply pw_below_drewN | apply below_drew1 | refine below_set ?_ GE553.out) | exact HB.out))) : w.heap.size ≤ gb584)); have NB553_584 := Aside0.mk ((by rw [hg]; exact Nat.ne_of_lt (blk_lt (g := gb553) (o := .cells #[.slice Ao10 t555.length co10, .slice Ao12 t558.length co12, .slice Ao13 t561.length co13] 26 (0, 0)) (by (with_reducible repeat (first | refine blk_drewN ?_ _ | refine blk_drew ?_ | refine blk_alloc ?_ _)); exact BK553.out)) : gb553 ≠ gb584)); have NB584_553 := Aside0.mk ((by rw [hg]; exact Nat.ne_of_gt (blk_lt (g := gb553) (o := .cells #[.slice Ao10 t555.length co10, .slice Ao12 t558.length co12, .slice Ao13 t561.length co13] 26 (0, 0)) (by (with_reducible repeat (first | refine blk_drewN ?_ _ | refine blk_drew ?_ | refine blk_alloc ?_ _)); exact BK553.out)) : gb584 ≠ gb553)); replace HO557 := Aside0.mk (Kd.R_below (by (with_reducible repeat (first | apply Kd.R_alloc | apply Kd.R_drewN | apply Kd.R_drew)); exact HO557.out) hb); replace HO560 := Aside0.mk (Kd.R_below (by (with_reducible repeat (first | apply Kd.R_alloc | apply Kd.R_drewN | apply Kd.R_drew)); exact HO560.out) hb); replace HO563 := Aside0.mk (Kd.R_below (by (with_reducible repeat (first | apply Kd.R_alloc | apply Kd.R_drewN | apply Kd.R_drew)); exact HO563.out) hb); replace HO566 := Aside0.mk (Kd.R_below (by (with_reducible repeat (first | apply Kd.R_alloc | apply Kd.R_drewN | apply Kd.R_drew)); exact HO566.out) hb); replace HO569 := Aside0.mk (Kd.R_below (by (with_reducible repeat (first | apply Kd.R_alloc | apply Kd.R_drewN | apply Kd.R_drew)); exact HO569.out) hb); replace HO572 := Aside0.mk (Kd.R_below (by (with_reducible repeat (first | apply Kd.R_alloc | apply Kd.R_drewN | apply Kd.R_drew)); exact HO572.out) hb); replace HO576 := Aside0.mk (Kd.R_below (by (with_reducible repeat (first | apply Kd.R_alloc | apply Kd.R_drewN | apply Kd.R_drew)); exact HO576.out) hb); replace HO579 := Aside0.mk (Kd.R_below (by (with_reducible repeat (first | apply Kd.R_alloc | apply Kd.R_drewN | apply Kd.R_drew)); exact HO579.out) hb); replace HO582 := Aside0.mk (Kd.R_below (by (with_reducible repeat (first | apply Kd.R_alloc | apply Kd.R_drewN | apply Kd.R_drew)); exact HO582.out) hb); replace BK553 := Aside0.mk (blk_below (g := gb553) (o := .cells #[.slice Ao10 t555.length co10, .slice Ao12 t558.length co12, .slice Ao13 t561.length co13] 26 (0, 0)) (by (with_reducible repeat (first | refine blk_drewN ?_ _ | refine blk_drew ?_ | refine blk_alloc ?_ _)); exact BK553.out) hb); replace HB := Aside0.mk (below_step (by repeat (first | (with_reducible first | exact HB.out | apply below_alloc | apply pw_below_drewN | apply below_drew1 | refine below_set ?_ GE553.out) | exact HB.out)) hb); clear hb hbox hg) | ((with_reducible refine gate_dst (N := 6) rfl ?_); refine box_event ?hg (N := 6) ?hd (cs := #[.slice none 0 0, .slice none 0 0, .slice none 0 0]) (t := 26) ?hr ?_; (case hd => rfl); (case hg => rfl); (case hr => first | (go_simp; done) | (go_simp; rfl)); intro gb585 hg w16 hbox hb; have BK585 := Aside0.mk (hbox); have GW585 := Aside0.mk ((by rw [hg]; exact (below_size (by repeat (first | (with_reducible first | exact HB.out | apply below_alloc | apply pw_below_drewN | apply below_drew1 | refine below_set ?_ GE553.out | refine below_set ?_ GE584.out) | exact HB.out))) : w.heap.size ≤ gb585)); have GE585 := Aside0.mk ((by rw [hg]; exact (below_size (by repeat (first | (with_reducible first | exact HB.out | apply below_alloc | apply pw_below_drewN | apply below_drew1 | refine below_set ?_ GE553.out | refine below_set ?_ GE584.out) | exact HB.out))) : w.heap.size ≤ gb585)); have NB553_585 := Aside0.mk ((by rw [hg]; exact Nat.ne_of_lt (blk_lt (g := gb553) (o := .cells #[.slice Ao10 t555.length co10, .slice Ao12 t558.length co12, .slice Ao13 t561.length co13] 26 (0, 0)) (by (with_reducible repeat (first | refine blk_drewN ?_ _ | refine blk_drew ?_ | refine blk_alloc ?_ _)); exact BK553.out)) : gb553 ≠ gb585)); have NB585_553 := Aside0.mk ((by rw [hg]; exact Nat.ne_of_gt (blk_lt (g := gb553) (o := .cells #[.slice Ao10 t555.length co10, .slice Ao12 t558.length co12, .slice Ao13 t561.length co13] 26 (0, 0)) (by (with_reducible repeat (first | refine blk_drewN ?_ _ | refine blk_drew ?_ | refine blk_alloc ?_ _)); exact BK553.out)) : gb585 ≠ gb553)); have NB584_585 := Aside0.mk ((by rw [hg]; exact Nat.ne_of_lt (blk_lt (g := gb584) (o := .cells #[.slice none 0 0, .slice none 0 0, .slice none 0 0] 26 (0, 0)) (by (with_reducible repeat (first | refine blk_drewN ?_ _ | refine blk_drew ?_ | refine blk_alloc ?_ _)); exact BK584.out)) : gb584 ≠ gb585)); have NB585_584 := Aside0.mk ((by rw [hg]; exact Nat.ne_of_gt (blk_lt (g := gb584) (o := .cells #[.slice none 0 0, .slice none 0 0, .slice none 0 0] 26 (0, 0)) (by (with_reducible repeat (first | refine blk_drewN ?_ _ | refine blk_drew ?_ | refine blk_alloc ?_ _)); exact BK584.out)) : gb585 ≠ gb584)); replace HO557 := Aside0.mk (Kd.R_below (by (with_reducible repeat (first | apply Kd.R_alloc | apply Kd.R_drewN | apply Kd.R_drew)); exact HO557.out) hb); replace HO560 := Aside0.mk (Kd.R_below (by (with_reducible repeat (first | apply Kd.R_alloc | apply Kd.R_drewN | apply Kd.R_drew)); exact HO560.out) hb); replace HO563 := Aside0.mk (Kd.R_below (by (with_reducible repeat (first | apply Kd.R_alloc | apply Kd.R_drewN | apply Kd.R_drew)); exact HO563.out) hb); replace HO566 := Aside0.mk (Kd.R_below (by (with_reducible repeat (first | apply Kd.R_alloc | apply Kd.R_drewN | apply Kd.R_drew)); exact HO566.out) hb); replace HO569 := Aside0.mk (Kd.R_below (by (with_reducible repeat (first | apply Kd.R_alloc | apply Kd.R_drewN | apply Kd.R_drew)); exact HO569.out) hb); replace HO572 := Aside0.mk (Kd.R_below (by (with_reducible repeat (first | apply Kd.R_alloc | apply Kd.R_drewN | apply Kd.R_drew)); exact HO572.out) hb); replace HO576 := Aside0.mk (Kd.R_below (by (with_reducible repeat (first | apply Kd.R_alloc | apply Kd.R_drewN | apply Kd.R_drew)); exact HO576.out) hb); replace HO579 := Aside0.mk (Kd.R_below (by (with_reducible repeat (first | apply Kd.R_alloc | apply Kd.R_drewN | apply Kd.R_drew)); exact HO579.out) hb); replace HO582 := Aside0.mk (Kd.R_below (by (with_reducible repeat (first | apply Kd.R_alloc | apply Kd.R_drewN | apply Kd.R_drew)); exact HO582.out) hb); replace BK553 := Aside0.mk (blk_below (g := gb553) (o := .cells #[.slice Ao10 t555.length co10, .slice Ao12 t558.length co12, .slice Ao13 t561.length co13] 26 (0, 0)) (by (with_reducible repeat (first | refine blk_drewN ?_ _ | refine blk_drew ?_ | refine blk_alloc ?_ _)); exact BK553.out) hb); replace BK584 := Aside0.mk (blk_below (g := gb584) (o := .cells #[.slice none 0 0, .slice none 0 0, .slice none 0 0] 26 (0, 0)) (by (with_reducible repeat (first | refine blk_drewN ?_ _ | refine blk_drew ?_ | refine blk_alloc ?_ _)); exact BK584.out) hb); replace HB := Aside0.mk (below_step (by repeat (first | (with_reducible first | exact HB.out | apply below_alloc | apply pw_below_drewN | apply below_drew1 | refine below_set ?_ GE553.out | refine below_set ?_ GE584.out) | exact HB.out)) hb); clear hb hbox hg; obtain ⟨Ao17, co17, eo17⟩ := Kd.R_slice HO566.out; subst eo17; have hnb18 := NB584_553.out; have hnc18 := NB553_584.out; have hnb19 := NB584_585.out; have hnc19 := NB585_584.out; have hcz20_0 : w16.cell? ⟨gb584, 0, none⟩ = some (.slice none 0 0) := (blk_cell BK584.out 0).trans rfl; have hcz20_1 : w16.cell? ⟨gb584, 1, none⟩ = some (.slice none 0 0) := (blk_cell BK584.out 1).trans rfl; have hcz20_2 : w16.cell? ⟨gb584, 2, none⟩ = some (.slice none 0 0) := (blk_cell BK584.out 2).trans rfl; have hfz20_0 := blk_frozen BK584.out 0; have hfz20_1 := blk_frozen BK584.out 1; have hfz20_2 := blk_frozen BK584.out 2; obtain ⟨Ao21, co21, eo21⟩ := Kd.R_slice HO569.out; subst eo21; obtain ⟨Ao22, co22, eo22⟩ := Kd.R_slice HO572.out; subst eo22; obtain ⟨Ao23, co23, eo23⟩ := Kd.R_slice HO576.out; subst eo23; have hnb24 := NB585_553.out; have hnc24 := NB553_585.out; have hcz25_0 : w16.cell? ⟨gb585, 0, none⟩ = some (.slice none 0 0) := (blk_cell BK585.out 0).trans rfl; have hcz25_1 : w16.cell? ⟨gb585, 1, none⟩ = some (.slice none 0 0) := (blk_cell BK585.out 1).trans rfl; have hcz25_2 : w16.cell? ⟨gb585, 2, none⟩ = some (.slice none 0 0) := (blk_cell BK585.out 2).trans rfl; have hfz25_0 := blk_frozen BK585.out 0; have hfz25_1 := blk_frozen BK585.out 1; have hfz25_2 := blk_frozen BK585.out 2; obtain ⟨Ao26, co26, eo26⟩ := Kd.R_slice HO579.out; subst eo26; obtain ⟨Ao27, co27, eo27⟩ := Kd.R_slice HO582.out; subst eo27))
  (try simp only [Act.put, List.setIfInBounds_toArray, List.set_cons_zero, List.set_cons_succ])
  go_cut [26] (fun v26 wc => ∃ (kq : Nat) (x26_4 : Bool), v26 = .bool x26_4 ∧ Aside0 (bazaarlaw06_NodeHalves.j0 kq t554 t573 t583 x26_4 t564 t567 t570 t574 t577 t580 = some r) ∧ Aside0 (kq ≤ k) ∧ Aside0 (Kd.R k39 39 wc w.heap.size (fun k_ => some k_ ≠ ((.slice Ao17 t564.length co17) : Value).ownBlock ∧ some k_ ≠ ((.slice Ao23 t574.length co23) : Value).ownBlock) (.slice Ao10 t555.length co10) t555) ∧ Aside0 (Kd.R Kd.string 9 wc w.heap.size (fun k_ => some k_ ≠ ((.slice Ao21 t567.length co21) : Value).ownBlock ∧ some k_ ≠ ((.slice Ao26 t577.length co26) : Value).ownBlock) (.slice Ao12 t558.length co12) t558) ∧ Aside0 (Kd.R (Kd.int .u32) 65 wc w.heap.size (fun k_ => some k_ ≠ ((.slice Ao22 t570.length co22) : Value).ownBlock ∧ some k_ ≠ ((.slice Ao27 t580.length co27) : Value).ownBlock) (.slice Ao13 t561.length co13) t561) ∧ Aside0 (Kd.R k39 39 wc w.heap.size (fun k_ => some k_ ≠ ((.slice Ao10 t555.length co10) : Value).ownBlock ∧ some k_ ≠ ((.slice Ao23 t574.length co23) : Value).ownBlock) (.slice Ao17 t564.length co17) t564) ∧ Aside0 (Kd.R Kd.string 9 wc w.heap.size (fun k_ => some k_ ≠ ((.slice Ao12 t558.length co12) : Value).ownBlock ∧ some k_ ≠ ((.slice Ao26 t577.length co26) : Value).ownBlock) (.slice Ao21 t567.length co21) t567) ∧ Aside0 (Kd.R (Kd.int .u32) 65 wc w.heap.size (fun k_ => some k_ ≠ ((.slice Ao13 t561.length co13) : Value).ownBlock ∧ some k_ ≠ ((.slice Ao27 t580.length co27) : Value).ownBlock) (.slice Ao22 t570.length co22) t570) ∧ Aside0 (Kd.R k39 39 wc w.heap.size (fun k_ => some k_ ≠ ((.slice Ao10 t555.length co10) : Value).ownBlock ∧ some k_ ≠ ((.slice Ao17 t564.length co17) : Value).ownBlock) (.slice Ao23 t574.length co23) t574) ∧ Aside0 (Kd.R Kd.string 9 wc w.heap.size (fun k_ => some k_ ≠ ((.slice Ao12 t558.length co12) : Value).ownBlock ∧ some k_ ≠ ((.slice Ao21 t567.length co21) : Value).ownBlock) (.slice Ao26 t577.length co26) t577) ∧ Aside0 (Kd.R (Kd.int .u32) 65 wc w.heap.size (fun k_ => some k_ ≠ ((.slice Ao13 t561.length co13) : Value).ownBlock ∧ some k_ ≠ ((.slice Ao22 t570.length co22) : Value).ownBlock) (.slice Ao27 t580.length co27) t580) ∧ Aside0 (wc.heap[gb553]? = some (.cells #[(.slice Ao10 t555.length co10), (.slice Ao12 t558.length co12), (.slice Ao13 t561.length co13)] 26 (0, 0))) ∧ Aside0 (wc.heap[gb584]? = some (.cells #[(.slice Ao17 t564.length co17), (.slice Ao21 t567.length co21), (.slice Ao22 t570.length co22)] 26 (0, 0))) ∧ Aside0 (wc.heap[gb585]? = some (.cells #[(.slice Ao23 t574.length co23), (.slice Ao26 t577.length co26), (.slice Ao27 t580.length co27)] 26 (0, 0))) ∧ Aside0 (Below w.heap.size w wc))
  case first =>
    have H := HC5.out
    clear HC5
    by_cases c28 : t583 = 0
    · rw [if_pos c28] at H
      have c28b0 : (t583 == 0) = true := beq_iff_eq.mpr c28
      have c28b1 : (t583 != 0) = false := bne_eq_false_iff_eq.mpr c28
      clear c28
      (first | rw [c28b0] | rw [c28b1] | (simp only [i64_w, i32_w]; rw [c28b0]) | skip)
      replace H := Option.bind_eq_some_iff.mp H
      obtain ⟨t586, A290, H⟩ := H
      replace H : (bazaarlaw06_NodeHalves.j0 k t554 t573 t583 (decide (t586 > 323)) t564 t567 t570 t574 t577 t580) = some r := H
      have A29 := Aside0.mk A290
      clear A290
      have H' := Aside0.mk H
      clear H
      have hnb30 := NB553_584.out
      have hnc30 := NB584_553.out
      have hnb31 := NB553_585.out
      have hnc31 := NB585_553.out
      have hcz32_0 : w16.cell? ⟨gb553, 0, none⟩ = some (.slice Ao10 t555.length co10) := (blk_cell BK553.out 0).trans rfl
      have hcz32_1 : w16.cell? ⟨gb553, 1, none⟩ = some (.slice Ao12 t558.length co12) := (blk_cell BK553.out 1).trans rfl
      have hcz32_2 : w16.cell? ⟨gb553, 2, none⟩ = some (.slice Ao13 t561.length co13) := (blk_cell BK553.out 2).trans rfl
      have hfz32_0 := blk_frozen BK553.out 0
      have hfz32_1 := blk_frozen BK553.out 1
      have hfz32_2 := blk_frozen BK553.out 2
      go_wp2_with (first | (go_at_call 16; (with_reducible refine (node_Size.calls _ _ t555 _ _ t558 _ _ t561 t586 _ ?side1 ?side2 ?side3 ?side4 ?side5 ?side6 A29.out).mono ?_); (case side1 => refine (Kd.R_reads' (e := 39) (base := w.heap.size) (ok := fun k_ => ((True ∧ some k_ ≠ (.slice Ao17 t564.length co17 : Value).ownBlock) ∧ some k_ ≠ (.slice Ao23 t574.length co23 : Value).ownBlock)) (n := t555.length) (c := co10) ?_).2.2; exact (by (with_reducible repeat (first | apply Kd.R_alloc | apply Kd.R_drewN | apply Kd.R_drew)); exact (Kd.R_mono (Kd.R_mono (Kd.R_far (p := ⟨gb585, 2, none⟩) (Kd.R_far (p := ⟨gb585, 1, none⟩) (Kd.R_far (p := ⟨gb585, 0, none⟩) (Kd.R_far (p := ⟨gb584, 2, none⟩) (Kd.R_far (p := ⟨gb584, 1, none⟩) (Kd.R_far (p := ⟨gb584, 0, none⟩) (Kd.R_types (Kd.R_types HO557.out BK584.out (by decide)) BK585.out (by decide)) (fun _ hk => hk.1.2) (.slice Ao17 t564.length co17)) (fun _ hk => hk.1.2) (.slice Ao21 t567.length co21)) (fun _ hk => hk.1.2) (.slice Ao22 t570.length co22)) (fun _ hk => hk.2) (.slice Ao23 t574.length co23)) (fun _ hk => hk.2) (.slice Ao26 t577.length co26)) (fun _ hk => hk.2) (.slice Ao27 t580.length co27)) (fun _ h_ => h_.1)) (fun _ h_ => h_.1)))); (case side2 => exact (Kd.R_reads' HO557.out).2.1); (case side3 => refine (Kd.R_reads' (e := 9) (base := w.heap.size) (ok := fun k_ => ((True ∧ some k_ ≠ (.slice Ao21 t567.length co21 : Value).ownBlock) ∧ some k_ ≠ (.slice Ao26 t577.length co26 : Value).ownBlock)) (n := t558.length) (c := co12) ?_).2.2; exact (by (with_reducible repeat (first | apply Kd.R_alloc | apply Kd.R_drewN | apply Kd.R_drew)); exact (Kd.R_mono (Kd.R_mono (Kd.R_far (p := ⟨gb585, 2, none⟩) (Kd.R_far (p := ⟨gb585, 1, none⟩) (Kd.R_far (p := ⟨gb585, 0, none⟩) (Kd.R_far (p := ⟨gb584, 2, none⟩) (Kd.R_far (p := ⟨gb584, 1, none⟩) (Kd.R_far (p := ⟨gb584, 0, none⟩) (Kd.R_types (Kd.R_types HO560.out BK584.out (by decide)) BK585.out (by decide)) (fun _ hk => hk.1.2) (.slice Ao17 t564.length co17)) (fun _ hk => hk.1.2) (.slice Ao21 t567.length co21)) (fun _ hk => hk.1.2) (.slice Ao22 t570.length co22)) (fun _ hk => hk.2) (.slice Ao23 t574.length co23)) (fun _ hk => hk.2) (.slice Ao26 t577.length co26)) (fun _ hk => hk.2) (.slice Ao27 t580.length co27)) (fun _ h_ => h_.1)) (fun _ h_ => h_.1)))); (case side4 => exact (Kd.R_reads' HO560.out).2.1); (case side5 => refine (Kd.R_reads' (e := 65) (base := w.heap.size) (ok := fun k_ => ((True ∧ some k_ ≠ (.slice Ao22 t570.length co22 : Value).ownBlock) ∧ some k_ ≠ (.slice Ao27 t580.length co27 : Value).ownBlock)) (n := t561.length) (c := co13) ?_).2.2; exact (by (with_reducible repeat (first | apply Kd.R_alloc | apply Kd.R_drewN | apply Kd.R_drew)); exact (Kd.R_mono (Kd.R_mono (Kd.R_far (p := ⟨gb585, 2, none⟩) (Kd.R_far (p := ⟨gb585, 1, none⟩) (Kd.R_far (p := ⟨gb585, 0, none⟩) (Kd.R_far (p := ⟨gb584, 2, none⟩) (Kd.R_far (p := ⟨gb584, 1, none⟩) (Kd.R_far (p := ⟨gb584, 0, none⟩) (Kd.R_types (Kd.R_types HO563.out BK584.out (by decide)) BK585.out (by decide)) (fun _ hk => hk.1.2) (.slice Ao17 t564.length co17)) (fun _ hk => hk.1.2) (.slice Ao21 t567.length co21)) (fun _ hk => hk.1.2) (.slice Ao22 t570.length co22)) (fun _ hk => hk.2) (.slice Ao23 t574.length co23)) (fun _ hk => hk.2) (.slice Ao26 t577.length co26)) (fun _ hk => hk.2) (.slice Ao27 t580.length co27)) (fun _ h_ => h_.1)) (fun _ h_ => h_.1)))); (case side6 => exact (Kd.R_reads' HO563.out).2.1); rintro e w33 ⟨rfl, hb⟩; replace HO557 := Aside0.mk (Kd.R_below (by (with_reducible repeat (first | apply Kd.R_alloc | apply Kd.R_drewN | apply Kd.R_drew)); exact (Kd.R_mono (Kd.R_mono (Kd.R_far (p := ⟨gb585, 2, none⟩) (Kd.R_far (p := ⟨gb585, 1, none⟩) (Kd.R_far (p := ⟨gb585, 0, none⟩) (Kd.R_far (p := ⟨gb584, 2, none⟩) (Kd.R_far (p := ⟨gb584, 1, none⟩) (Kd.R_far (p := ⟨gb584, 0, none⟩) (Kd.R_types (Kd.R_types HO557.out BK584.out (by decide)) BK585.out (by decide)) (fun _ hk => hk.1.2) (.slice Ao17 t564.length co17)) (fun _ hk => hk.1.2) (.slice Ao21 t567.length co21)) (fun _ hk => hk.1.2) (.slice Ao22 t570.length co22)) (fun _ hk => hk.2) (.slice Ao23 t574.length co23)) (fun _ hk => hk.2) (.slice Ao26 t577.length co26)) (fun _ hk => hk.2) (.slice Ao27 t580.length co27)) (fun _ h_ => h_.1)) (fun _ h_ => h_.1))) hb); replace HO560 := Aside0.mk (Kd.R_below (by (with_reducible repeat (first | apply Kd.R_alloc | apply Kd.R_drewN | apply Kd.R_drew)); exact (Kd.R_mono (Kd.R_mono (Kd.R_far (p := ⟨gb585, 2, none⟩) (Kd.R_far (p := ⟨gb585, 1, none⟩) (Kd.R_far (p := ⟨gb585, 0, none⟩) (Kd.R_far (p := ⟨gb584, 2, none⟩) (Kd.R_far (p := ⟨gb584, 1, none⟩) (Kd.R_far (p := ⟨gb584, 0, none⟩) (Kd.R_types (Kd.R_types HO560.out BK584.out (by decide)) BK585.out (by decide)) (fun _ hk => hk.1.2) (.slice Ao17 t564.length co17)) (fun _ hk => hk.1.2) (.slice Ao21 t567.length co21)) (fun _ hk => hk.1.2) (.slice Ao22 t570.length co22)) (fun _ hk => hk.2) (.slice Ao23 t574.length co23)) (fun _ hk => hk.2) (.slice Ao26 t577.length co26)) (fun _ hk => hk.2) (.slice Ao27 t580.length co27)) (fun _ h_ => h_.1)) (fun _ h_ => h_.1))) hb); replace HO563 := Aside0.mk (Kd.R_below (by (with_reducible repeat (first | apply Kd.R_alloc | apply Kd.R_drewN | apply Kd.R_drew)); exact (Kd.R_mono (Kd.R_mono (Kd.R_far (p := ⟨gb585, 2, none⟩) (Kd.R_far (p := ⟨gb585, 1, none⟩) (Kd.R_far (p := ⟨gb585, 0, none⟩) (Kd.R_far (p := ⟨gb584, 2, none⟩) (Kd.R_far (p := ⟨gb584, 1, none⟩) (Kd.R_far (p := ⟨gb584, 0, none⟩) (Kd.R_types (Kd.R_types HO563.out BK584.out (by decide)) BK585.out (by decide)) (fun _ hk => hk.1.2) (.slice Ao17 t564.length co17)) (fun _ hk => hk.1.2) (.slice Ao21 t567.length co21)) (fun _ hk => hk.1.2) (.slice Ao22 t570.length co22)) (fun _ hk => hk.2) (.slice Ao23 t574.length co23)) (fun _ hk => hk.2) (.slice Ao26 t577.length co26)) (fun _ hk => hk.2) (.slice Ao27 t580.length co27)) (fun _ h_ => h_.1)) (fun _ h_ => h_.1))) hb); replace HO566 := Aside0.mk (Kd.R_below (by (with_reducible repeat (first | apply Kd.R_alloc | apply Kd.R_drewN | apply Kd.R_drew)); exact (Kd.R_mono (Kd.R_mono (Kd.R_far (p := ⟨gb585, 2, none⟩) (Kd.R_far (p := ⟨gb585, 1, none⟩) (Kd.R_far (p := ⟨gb585, 0, none⟩) (Kd.R_far (p := ⟨gb584, 2, none⟩) (Kd.R_far (p := ⟨gb584, 1, none⟩) (Kd.R_far (p := ⟨gb584, 0, none⟩) (Kd.R_types (Kd.R_types HO566.out BK584.out (by decide)) BK585.out (by decide)) (fun _ hk => hk.1.2) (.slice Ao17 t564.length co17)) (fun _ hk => hk.1.2) (.slice Ao21 t567.length co21)) (fun _ hk => hk.1.2) (.slice Ao22 t570.length co22)) (fun _ hk => hk.2) (.slice Ao23 t574.length co23)) (fun _ hk => hk.2) (.slice Ao26 t577.length co26)) (fun _ hk => hk.2) (.slice Ao27 t580.length co27)) (fun _ h_ => h_.1)) (fun _ h_ => h_.1))) hb); replace HO569 := Aside0.mk (Kd.R_below (by (with_reducible repeat (first | apply Kd.R_alloc | apply Kd.R_drewN | apply Kd.R_drew)); exact (Kd.R_mono (Kd.R_mono (Kd.R_far (p := ⟨gb585, 2, none⟩) (Kd.R_far (p := ⟨gb585, 1, none⟩) (Kd.R_far (p := ⟨gb585, 0, none⟩) (Kd.R_far (p := ⟨gb584, 2, none⟩) (Kd.R_far (p := ⟨gb584, 1, none⟩) (Kd.R_far (p := ⟨gb584, 0, none⟩) (Kd.R_types (Kd.R_types HO569.out BK584.out (by decide)) BK585.out (by decide)) (fun _ hk => hk.1.2) (.slice Ao17 t564.length co17)) (fun _ hk => hk.1.2) (.slice Ao21 t567.length co21)) (fun _ hk => hk.1.2) (.slice Ao22 t570.length co22)) (fun _ hk => hk.2) (.slice Ao23 t574.length co23)) (fun _ hk => hk.2) (.slice Ao26 t577.length co26)) (fun _ hk => hk.2) (.slice Ao27 t580.length co27)) (fun _ h_ => h_.1)) (fun _ h_ => h_.1))) hb); replace HO572 := Aside0.mk (Kd.R_below (by (with_reducible repeat (first | apply Kd.R_alloc | apply Kd.R_drewN | apply Kd.R_drew)); exact (Kd.R_mono (Kd.R_mono (Kd.R_far (p := ⟨gb585, 2, none⟩) (Kd.R_far (p := ⟨gb585, 1, none⟩) (Kd.R_far (p := ⟨gb585, 0, none⟩) (Kd.R_far (p := ⟨gb584, 2, none⟩) (Kd.R_far (p := ⟨gb584, 1, none⟩) (Kd.R_far (p := ⟨gb584, 0, none⟩) (Kd.R_types (Kd.R_types HO572.out BK584.out (by decide)) BK585.out (by decide)) (fun _ hk => hk.1.2) (.slice Ao17 t564.length co17)) (fun _ hk => hk.1.2) (.slice Ao21 t567.length co21)) (fun _ hk => hk.1.2) (.slice Ao22 t570.length co22)) (fun _ hk => hk.2) (.slice Ao23 t574.length co23)) (fun _ hk => hk.2) (.slice Ao26 t577.length co26)) (fun _ hk => hk.2) (.slice Ao27 t580.length co27)) (fun _ h_ => h_.1)) (fun _ h_ => h_.1))) hb); replace HO576 := Aside0.mk (Kd.R_below (by (with_reducible repeat (first | apply Kd.R_alloc | apply Kd.R_drewN | apply Kd.R_drew)); exact (Kd.R_mono (Kd.R_mono (Kd.R_far (p := ⟨gb585, 2, none⟩) (Kd.R_far (p := ⟨gb585, 1, none⟩) (Kd.R_far (p := ⟨gb585, 0, none⟩) (Kd.R_far (p := ⟨gb584, 2, none⟩) (Kd.R_far (p := ⟨gb584, 1, none⟩) (Kd.R_far (p := ⟨gb584, 0, none⟩) (Kd.R_types (Kd.R_types HO576.out BK584.out (by decide)) BK585.out (by decide)) (fun _ hk => hk.1.2) (.slice Ao17 t564.length co17)) (fun _ hk => hk.1.2) (.slice Ao21 t567.length co21)) (fun _ hk => hk.1.2) (.slice Ao22 t570.length co22)) (fun _ hk => hk.2) (.slice Ao23 t574.length co23)) (fun _ hk => hk.2) (.slice Ao26 t577.length co26)) (fun _ hk => hk.2) (.slice Ao27 t580.length co27)) (fun _ h_ => h_.1)) (fun _ h_ => h_.1))) hb); replace HO579 := Aside0.mk (Kd.R_below (by (with_reducible repeat (first | apply Kd.R_alloc | apply Kd.R_drewN | apply Kd.R_drew)); exact (Kd.R_mono (Kd.R_mono (Kd.R_far (p := ⟨gb585, 2, none⟩) (Kd.R_far (p := ⟨gb585, 1, none⟩) (Kd.R_far (p := ⟨gb585, 0, none⟩) (Kd.R_far (p := ⟨gb584, 2, none⟩) (Kd.R_far (p := ⟨gb584, 1, none⟩) (Kd.R_far (p := ⟨gb584, 0, none⟩) (Kd.R_types (Kd.R_types HO579.out BK584.out (by decide)) BK585.out (by decide)) (fun _ hk => hk.1.2) (.slice Ao17 t564.length co17)) (fun _ hk => hk.1.2) (.slice Ao21 t567.length co21)) (fun _ hk => hk.1.2) (.slice Ao22 t570.length co22)) (fun _ hk => hk.2) (.slice Ao23 t574.length co23)) (fun _ hk => hk.2) (.slice Ao26 t577.length co26)) (fun _ hk => hk.2) (.slice Ao27 t580.length co27)) (fun _ h_ => h_.1)) (fun _ h_ => h_.1))) hb); replace HO582 := Aside0.mk (Kd.R_below (by (with_reducible repeat (first | apply Kd.R_alloc | apply Kd.R_drewN | apply Kd.R_drew)); exact (Kd.R_mono (Kd.R_mono (Kd.R_far (p := ⟨gb585, 2, none⟩) (Kd.R_far (p := ⟨gb585, 1, none⟩) (Kd.R_far (p := ⟨gb585, 0, none⟩) (Kd.R_far (p := ⟨gb584, 2, none⟩) (Kd.R_far (p := ⟨gb584, 1, none⟩) (Kd.R_far (p := ⟨gb584, 0, none⟩) (Kd.R_types (Kd.R_types HO582.out BK584.out (by decide)) BK585.out (by decide)) (fun _ hk => hk.1.2) (.slice Ao17 t564.length co17)) (fun _ hk => hk.1.2) (.slice Ao21 t567.length co21)) (fun _ hk => hk.1.2) (.slice Ao22 t570.length co22)) (fun _ hk => hk.2) (.slice Ao23 t574.length co23)) (fun _ hk => hk.2) (.slice Ao26 t577.length co26)) (fun _ hk => hk.2) (.slice Ao27 t580.length co27)) (fun _ h_ => h_.1)) (fun _ h_ => h_.1))) hb); replace BK553 := Aside0.mk (blk_below (g := gb553) (o := .cells #[.slice Ao10 t555.length co10, .slice Ao12 t558.length co12, .slice Ao13 t561.length co13] 26 (0, 0)) (by (with_reducible repeat (first | refine blk_drewN ?_ _ | refine blk_drew ?_ | refine blk_alloc ?_ _)); refine blk_far ?_ NB553_585.out _; (with_reducible repeat (first | refine blk_drewN ?_ _ | refine blk_drew ?_ | refine blk_alloc ?_ _)); refine blk_far ?_ NB553_585.out _; (with_reducible repeat (first | refine blk_drewN ?_ _ | refine blk_drew ?_ | refine blk_alloc ?_ _)); refine blk_far ?_ NB553_585.out _; (with_reducible repeat (first | refine blk_drewN ?_ _ | refine blk_drew ?_ | refine blk_alloc ?_ _)); refine blk_far ?_ NB553_584.out _; (with_reducible repeat (first | refine blk_drewN ?_ _ | refine blk_drew ?_ | refine blk_alloc ?_ _)); refine blk_far ?_ NB553_584.out _; (with_reducible repeat (first | refine blk_drewN ?_ _ | refine blk_drew ?_ | refine blk_alloc ?_ _)); refine blk_far ?_ NB553_584.out _; (with_reducible repeat (first | refine blk_drewN ?_ _ | refine blk_drew ?_ | refine blk_alloc ?_ _)); exact BK553.out) hb); replace BK584 := Aside0.mk (blk_below (g := gb584) (o := .cells #[.slice Ao17 t564.length co17, .slice Ao21 t567.length co21, .slice Ao22 t570.length co22] 26 (0, 0)) (by (with_reducible repeat (first | refine blk_drewN ?_ _ | refine blk_drew ?_ | refine blk_alloc ?_ _)); refine blk_far ?_ NB584_585.out _; (with_reducible repeat (first | refine blk_drewN ?_ _ | refine blk_drew ?_ | refine blk_alloc ?_ _)); refine blk_far ?_ NB584_585.out _; (with_reducible repeat (first | refine blk_drewN ?_ _ | refine blk_drew ?_ | refine blk_alloc ?_ _)); refine blk_far ?_ NB584_585.out _; (with_reducible repeat (first | refine blk_drewN ?_ _ | refine blk_drew ?_ | refine blk_alloc ?_ _)); refine blk_put (cs := #[.slice Ao17 t564.length co17, .slice Ao21 t567.length co21, .slice none 0 0]) ?_ 2 _ rfl; (with_reducible repeat (first | refine blk_drewN ?_ _ | refine blk_drew ?_ | refine blk_alloc ?_ _)); refine blk_put (cs := #[.slice Ao17 t564.length co17, .slice none 0 0, .slice none 0 0]) ?_ 1 _ rfl; (with_reducible repeat (first | refine blk_drewN ?_ _ | refine blk_drew ?_ | refine blk_alloc ?_ _)); refine blk_put (cs := #[.slice none 0 0, .slice none 0 0, .slice none 0 0]) ?_ 0 _ rfl; (with_reducible repeat (first | refine blk_drewN ?_ _ | refine blk_drew ?_ | refine blk_alloc ?_ _)); exact BK584.out) hb); replace BK585 := Aside0.mk (blk_below (g := gb585) (o := .cells #[.slice Ao23 t574.length co23, .slice Ao26 t577.length co26, .slice Ao27 t580.length co27] 26 (0, 0)) (by (with_reducible repeat (first | refine blk_drewN ?_ _ | refine blk_drew ?_ | refine blk_alloc ?_ _)); refine blk_put (cs := #[.slice Ao23 t574.length co23, .slice Ao26 t577.length co26, .slice none 0 0]) ?_ 2 _ rfl; (with_reducible repeat (first | refine blk_drewN ?_ _ | refine blk_drew ?_ | refine blk_alloc ?_ _)); refine blk_put (cs := #[.slice Ao23 t574.length co23, .slice none 0 0, .slice none 0 0]) ?_ 1 _ rfl; (with_reducible repeat (first | refine blk_drewN ?_ _ | refine blk_drew ?_ | refine blk_alloc ?_ _)); refine blk_put (cs := #[.slice none 0 0, .slice none 0 0, .slice none 0 0]) ?_ 0 _ rfl; (with_reducible repeat (first | refine blk_drewN ?_ _ | refine blk_drew ?_ | refine blk_alloc ?_ _)); refine blk_far ?_ NB585_584.out _; (with_reducible repeat (first | refine blk_drewN ?_ _ | refine blk_drew ?_ | refine blk_alloc ?_ _)); refine blk_far ?_ NB585_584.out _; (with_reducible repeat (first | refine blk_drewN ?_ _ | refine blk_drew ?_ | refine blk_alloc ?_ _)); refine blk_far ?_ NB585_584.out _; (with_reducible repeat (first | refine blk_drewN ?_ _ | refine blk_drew ?_ | refine blk_alloc ?_ _)); exact BK585.out) hb); replace HB := Aside0.mk (below_step (by repeat (first | (with_reducible first | exact HB.out | apply below_alloc | apply pw_below_drewN | apply below_drew1 | refine below_set ?_ GE553.out | refine below_set ?_ GE584.out | refine below_set ?_ GE585.out) | exact HB.out)) hb); (try clear hb); (try clear hb2); (try clear hk); (try clear hi)))
      go_meet
      case rel => exact ⟨_, (decide (t586 > 323)), (by first | rfl | (simp; done) | (simp [*]; done)), H', ⟨by first | omega | exact Nat.le_refl _⟩, ⟨by (with_reducible repeat (first | apply Kd.R_alloc | apply Kd.R_drewN | apply Kd.R_drew)); exact Kd.R_mono HO557.out (fun _ hk => ⟨hk.1.2, hk.2⟩)⟩, ⟨by (with_reducible repeat (first | apply Kd.R_alloc | apply Kd.R_drewN | apply Kd.R_drew)); exact Kd.R_mono HO560.out (fun _ hk => ⟨hk.1.2, hk.2⟩)⟩, ⟨by (with_reducible repeat (first | apply Kd.R_alloc | apply Kd.R_drewN | apply Kd.R_drew)); exact Kd.R_mono HO563.out (fun _ hk => ⟨hk.1.2, hk.2⟩)⟩, ⟨by (with_reducible repeat (first | apply Kd.R_alloc | apply Kd.R_drewN | apply Kd.R_drew)); exact Kd.R_mono HO566.out (fun _ hk => ⟨hk.2, hk.1⟩)⟩, ⟨by (with_reducible repeat (first | apply Kd.R_alloc | apply Kd.R_drewN | apply Kd.R_drew)); exact Kd.R_mono HO569.out (fun _ hk => ⟨hk.2, hk.1⟩)⟩, ⟨by (with_reducible repeat (first | apply Kd.R_alloc | apply Kd.R_drewN | apply Kd.R_drew)); exact Kd.R_mono HO572.out (fun _ hk => ⟨hk.2, hk.1⟩)⟩, ⟨by (with_reducible repeat (first | apply Kd.R_alloc | apply Kd.R_drewN | apply Kd.R_drew)); exact Kd.R_mono HO576.out (fun _ hk => ⟨hk.2, hk.1⟩)⟩, ⟨by (with_reducible repeat (first | apply Kd.R_alloc | apply Kd.R_drewN | apply Kd.R_drew)); exact Kd.R_mono HO579.out (fun _ hk => ⟨hk.2, hk.1⟩)⟩, ⟨by (with_reducible repeat (first | apply Kd.R_alloc | apply Kd.R_drewN | apply Kd.R_drew)); exact Kd.R_mono HO582.out (fun _ hk => ⟨hk.2, hk.1⟩)⟩, ⟨by (with_reducible repeat (first | refine blk_drewN ?_ _ | refine blk_drew ?_ | refine blk_alloc ?_ _)); exact BK553.out⟩, ⟨by (with_reducible repeat (first | refine blk_drewN ?_ _ | refine blk_drew ?_ | refine blk_alloc ?_ _)); exact BK584.out⟩, ⟨by (with_reducible repeat (first | refine blk_drewN ?_ _ | refine blk_drew ?_ | refine blk_alloc ?_ _)); exact BK585.out⟩, ⟨by repeat (first | (with_reducible first | exact HB.out | apply below_alloc | apply pw_below_drewN | apply below_drew1 | refine below_set ?_ GE553.out | refine below_set ?_ GE584.out | refine below_set ?_ GE585.out) | exact HB.out)⟩⟩
    · rw [if_neg c28] at H
      have c28b0 : (t583 == 0) = false := beq_eq_false_iff_ne.mpr c28
      have c28b1 : (t583 != 0) = true := bne_iff_ne.mpr c28
      (first | rw [c28b0] | rw [c28b1] | (simp only [i64_w, i32_w]; rw [c28b0]) | skip)
      have H' := Aside0.mk H
      clear H
      go_wp2
      go_meet
      case rel => exact ⟨_, (true), (by first | rfl | (simp; done) | (simp [*]; done)), H', ⟨by first | omega | exact Nat.le_refl _⟩, ⟨by (with_reducible repeat (first | apply Kd.R_alloc | apply Kd.R_drewN | apply Kd.R_drew)); exact Kd.R_mono (Kd.R_far (p := ⟨gb585, 2, none⟩) (Kd.R_far (p := ⟨gb585, 1, none⟩) (Kd.R_far (p := ⟨gb585, 0, none⟩) (Kd.R_far (p := ⟨gb584, 2, none⟩) (Kd.R_far (p := ⟨gb584, 1, none⟩) (Kd.R_far (p := ⟨gb584, 0, none⟩) (Kd.R_types (Kd.R_types HO557.out BK584.out (by decide)) BK585.out (by decide)) (fun _ hk => hk.1.2) (.slice Ao17 t564.length co17)) (fun _ hk => hk.1.2) (.slice Ao21 t567.length co21)) (fun _ hk => hk.1.2) (.slice Ao22 t570.length co22)) (fun _ hk => hk.2) (.slice Ao23 t574.length co23)) (fun _ hk => hk.2) (.slice Ao26 t577.length co26)) (fun _ hk => hk.2) (.slice Ao27 t580.length co27)) (fun _ hk => ⟨hk.1.1.1.2, hk.1.1.2⟩)⟩, ⟨by (with_reducible repeat (first | apply Kd.R_alloc | apply Kd.R_drewN | apply Kd.R_drew)); exact Kd.R_mono (Kd.R_far (p := ⟨gb585, 2, none⟩) (Kd.R_far (p := ⟨gb585, 1, none⟩) (Kd.R_far (p := ⟨gb585, 0, none⟩) (Kd.R_far (p := ⟨gb584, 2, none⟩) (Kd.R_far (p := ⟨gb584, 1, none⟩) (Kd.R_far (p := ⟨gb584, 0, none⟩) (Kd.R_types (Kd.R_types HO560.out BK584.out (by decide)) BK585.out (by decide)) (fun _ hk => hk.1.2) (.slice Ao17 t564.length co17)) (fun _ hk => hk.1.2) (.slice Ao21 t567.length co21)) (fun _ hk => hk.1.2) (.slice Ao22 t570.length co22)) (fun _ hk => hk.2) (.slice Ao23 t574.length co23)) (fun _ hk => hk.2) (.slice Ao26 t577.length co26)) (fun _ hk => hk.2) (.slice Ao27 t580.length co27)) (fun _ hk => ⟨hk.1.1.1.2, hk.1.1.2⟩)⟩, ⟨by (with_reducible repeat (first | apply Kd.R_alloc | apply Kd.R_drewN | apply Kd.R_drew)); exact Kd.R_mono (Kd.R_far (p := ⟨gb585, 2, none⟩) (Kd.R_far (p := ⟨gb585, 1, none⟩) (Kd.R_far (p := ⟨gb585, 0, none⟩) (Kd.R_far (p := ⟨gb584, 2, none⟩) (Kd.R_far (p := ⟨gb584, 1, none⟩) (Kd.R_far (p := ⟨gb584, 0, none⟩) (Kd.R_types (Kd.R_types HO563.out BK584.out (by decide)) BK585.out (by decide)) (fun _ hk => hk.1.2) (.slice Ao17 t564.length co17)) (fun _ hk => hk.1.2) (.slice Ao21 t567.length co21)) (fun _ hk => hk.1.2) (.slice Ao22 t570.length co22)) (fun _ hk => hk.2) (.slice Ao23 t574.length co23)) (fun _ hk => hk.2) (.slice Ao26 t577.length co26)) (fun _ hk => hk.2) (.slice Ao27 t580.length co27)) (fun _ hk => ⟨hk.1.1.1.2, hk.1.1.2⟩)⟩, ⟨by (with_reducible repeat (first | apply Kd.R_alloc | apply Kd.R_drewN | apply Kd.R_drew)); exact Kd.R_mono (Kd.R_far (p := ⟨gb585, 2, none⟩) (Kd.R_far (p := ⟨gb585, 1, none⟩) (Kd.R_far (p := ⟨gb585, 0, none⟩) (Kd.R_far (p := ⟨gb584, 2, none⟩) (Kd.R_far (p := ⟨gb584, 1, none⟩) (Kd.R_far (p := ⟨gb584, 0, none⟩) (Kd.R_types (Kd.R_types HO566.out BK584.out (by decide)) BK585.out (by decide)) (fun _ hk => hk.1.2) (.slice Ao17 t564.length co17)) (fun _ hk => hk.1.2) (.slice Ao21 t567.length co21)) (fun _ hk => hk.1.2) (.slice Ao22 t570.length co22)) (fun _ hk => hk.2) (.slice Ao23 t574.length co23)) (fun _ hk => hk.2) (.slice Ao26 t577.length co26)) (fun _ hk => hk.2) (.slice Ao27 t580.length co27)) (fun _ hk => ⟨hk.1.1.2, hk.1.1.1⟩)⟩, ⟨by (with_reducible repeat (first | apply Kd.R_alloc | apply Kd.R_drewN | apply Kd.R_drew)); exact Kd.R_mono (Kd.R_far (p := ⟨gb585, 2, none⟩) (Kd.R_far (p := ⟨gb585, 1, none⟩) (Kd.R_far (p := ⟨gb585, 0, none⟩) (Kd.R_far (p := ⟨gb584, 2, none⟩) (Kd.R_far (p := ⟨gb584, 1, none⟩) (Kd.R_far (p := ⟨gb584, 0, none⟩) (Kd.R_types (Kd.R_types HO569.out BK584.out (by decide)) BK585.out (by decide)) (fun _ hk => hk.1.2) (.slice Ao17 t564.length co17)) (fun _ hk => hk.1.2) (.slice Ao21 t567.length co21)) (fun _ hk => hk.1.2) (.slice Ao22 t570.length co22)) (fun _ hk => hk.2) (.slice Ao23 t574.length co23)) (fun _ hk => hk.2) (.slice Ao26 t577.length co26)) (fun _ hk => hk.2) (.slice Ao27 t580.length co27)) (fun _ hk => ⟨hk.1.1.2, hk.1.1.1⟩)⟩, ⟨by (with_reducible repeat (first | apply Kd.R_alloc | apply Kd.R_drewN | apply Kd.R_drew)); exact Kd.R_mono (Kd.R_far (p := ⟨gb585, 2, none⟩) (Kd.R_far (p := ⟨gb585, 1, none⟩) (Kd.R_far (p := ⟨gb585, 0, none⟩) (Kd.R_far (p := ⟨gb584, 2, none⟩) (Kd.R_far (p := ⟨gb584, 1, none⟩) (Kd.R_far (p := ⟨gb584, 0, none⟩) (Kd.R_types (Kd.R_types HO572.out BK584.out (by decide)) BK585.out (by decide)) (fun _ hk => hk.1.2) (.slice Ao17 t564.length co17)) (fun _ hk => hk.1.2) (.slice Ao21 t567.length co21)) (fun _ hk => hk.1.2) (.slice Ao22 t570.length co22)) (fun _ hk => hk.2) (.slice Ao23 t574.length co23)) (fun _ hk => hk.2) (.slice Ao26 t577.length co26)) (fun _ hk => hk.2) (.slice Ao27 t580.length co27)) (fun _ hk => ⟨hk.1.1.2, hk.1.1.1⟩)⟩, ⟨by (with_reducible repeat (first | apply Kd.R_alloc | apply Kd.R_drewN | apply Kd.R_drew)); exact Kd.R_mono (Kd.R_far (p := ⟨gb585, 2, none⟩) (Kd.R_far (p := ⟨gb585, 1, none⟩) (Kd.R_far (p := ⟨gb585, 0, none⟩) (Kd.R_far (p := ⟨gb584, 2, none⟩) (Kd.R_far (p := ⟨gb584, 1, none⟩) (Kd.R_far (p := ⟨gb584, 0, none⟩) (Kd.R_types (Kd.R_types HO576.out BK584.out (by decide)) BK585.out (by decide)) (fun _ hk => hk.1.2) (.slice Ao17 t564.length co17)) (fun _ hk => hk.1.2) (.slice Ao21 t567.length co21)) (fun _ hk => hk.1.2) (.slice Ao22 t570.length co22)) (fun _ hk => hk.2) (.slice Ao23 t574.length co23)) (fun _ hk => hk.2) (.slice Ao26 t577.length co26)) (fun _ hk => hk.2) (.slice Ao27 t580.length co27)) (fun _ hk => ⟨hk.1.1.2, hk.1.1.1⟩)⟩, ⟨by (with_reducible repeat (first | apply Kd.R_alloc | apply Kd.R_drewN | apply Kd.R_drew)); exact Kd.R_mono (Kd.R_far (p := ⟨gb585, 2, none⟩) (Kd.R_far (p := ⟨gb585, 1, none⟩) (Kd.R_far (p := ⟨gb585, 0, none⟩) (Kd.R_far (p := ⟨gb584, 2, none⟩) (Kd.R_far (p := ⟨gb584, 1, none⟩) (Kd.R_far (p := ⟨gb584, 0, none⟩) (Kd.R_types (Kd.R_types HO579.out BK584.out (by decide)) BK585.out (by decide)) (fun _ hk => hk.1.2) (.slice Ao17 t564.length co17)) (fun _ hk => hk.1.2) (.slice Ao21 t567.length co21)) (fun _ hk => hk.1.2) (.slice Ao22 t570.length co22)) (fun _ hk => hk.2) (.slice Ao23 t574.length co23)) (fun _ hk => hk.2) (.slice Ao26 t577.length co26)) (fun _ hk => hk.2) (.slice Ao27 t580.length co27)) (fun _ hk => ⟨hk.1.1.2, hk.1.1.1⟩)⟩, ⟨by (with_reducible repeat (first | apply Kd.R_alloc | apply Kd.R_drewN | apply Kd.R_drew)); exact Kd.R_mono (Kd.R_far (p := ⟨gb585, 2, none⟩) (Kd.R_far (p := ⟨gb585, 1, none⟩) (Kd.R_far (p := ⟨gb585, 0, none⟩) (Kd.R_far (p := ⟨gb584, 2, none⟩) (Kd.R_far (p := ⟨gb584, 1, none⟩) (Kd.R_far (p := ⟨gb584, 0, none⟩) (Kd.R_types (Kd.R_types HO582.out BK584.out (by decide)) BK585.out (by decide)) (fun _ hk => hk.1.2) (.slice Ao17 t564.length co17)) (fun _ hk => hk.1.2) (.slice Ao21 t567.length co21)) (fun _ hk => hk.1.2) (.slice Ao22 t570.length co22)) (fun _ hk => hk.2) (.slice Ao23 t574.length co23)) (fun _ hk => hk.2) (.slice Ao26 t577.length co26)) (fun _ hk => hk.2) (.slice Ao27 t580.length co27)) (fun _ hk => ⟨hk.1.1.2, hk.1.1.1⟩)⟩, ⟨by (with_reducible repeat (first | refine blk_drewN ?_ _ | refine blk_drew ?_ | refine blk_alloc ?_ _)); refine blk_far ?_ NB553_585.out _; (with_reducible repeat (first | refine blk_drewN ?_ _ | refine blk_drew ?_ | refine blk_alloc ?_ _)); refine blk_far ?_ NB553_585.out _; (with_reducible repeat (first | refine blk_drewN ?_ _ | refine blk_drew ?_ | refine blk_alloc ?_ _)); refine blk_far ?_ NB553_585.out _; (with_reducible repeat (first | refine blk_drewN ?_ _ | refine blk_drew ?_ | refine blk_alloc ?_ _)); refine blk_far ?_ NB553_584.out _; (with_reducible repeat (first | refine blk_drewN ?_ _ | refine blk_drew ?_ | refine blk_alloc ?_ _)); refine blk_far ?_ NB553_584.out _; (with_reducible repeat (first | refine blk_drewN ?_ _ | refine blk_drew ?_ | refine blk_alloc ?_ _)); refine blk_far ?_ NB553_584.out _; (with_reducible repeat (first | refine blk_drewN ?_ _ | refine blk_drew ?_ | refine blk_alloc ?_ _)); exact BK553.out⟩, ⟨by (with_reducible repeat (first | refine blk_drewN ?_ _ | refine blk_drew ?_ | refine blk_alloc ?_ _)); refine blk_far ?_ NB584_585.out _; (with_reducible repeat (first | refine blk_drewN ?_ _ | refine blk_drew ?_ | refine blk_alloc ?_ _)); refine blk_far ?_ NB584_585.out _; (with_reducible repeat (first | refine blk_drewN ?_ _ | refine blk_drew ?_ | refine blk_alloc ?_ _)); refine blk_far ?_ NB584_585.out _; (with_reducible repeat (first | refine blk_drewN ?_ _ | refine blk_drew ?_ | refine blk_alloc ?_ _)); refine blk_put (cs := #[.slice Ao17 t564.length co17, .slice Ao21 t567.length co21, .slice none 0 0]) ?_ 2 _ rfl; (with_reducible repeat (first | refine blk_drewN ?_ _ | refine blk_drew ?_ | refine blk_alloc ?_ _)); refine blk_put (cs := #[.slice Ao17 t564.length co17, .slice none 0 0, .slice none 0 0]) ?_ 1 _ rfl; (with_reducible repeat (first | refine blk_drewN ?_ _ | refine blk_drew ?_ | refine blk_alloc ?_ _)); refine blk_put (cs := #[.slice none 0 0, .slice none 0 0, .slice none 0 0]) ?_ 0 _ rfl; (with_reducible repeat (first | refine blk_drewN ?_ _ | refine blk_drew ?_ | refine blk_alloc ?_ _)); exact BK584.out⟩, ⟨by (with_reducible repeat (first | refine blk_drewN ?_ _ | refine blk_drew ?_ | refine blk_alloc ?_ _)); refine blk_put (cs := #[.slice Ao23 t574.length co23, .slice Ao26 t577.length co26, .slice none 0 0]) ?_ 2 _ rfl; (with_reducible repeat (first | refine blk_drewN ?_ _ | refine blk_drew ?_ | refine blk_alloc ?_ _)); refine blk_put (cs := #[.slice Ao23 t574.length co23, .slice none 0 0, .slice none 0 0]) ?_ 1 _ rfl; (with_reducible repeat (first | refine blk_drewN ?_ _ | refine blk_drew ?_ | refine blk_alloc ?_ _)); refine blk_put (cs := #[.slice none 0 0, .slice none 0 0, .slice none 0 0]) ?_ 0 _ rfl; (with_reducible repeat (first | refine blk_drewN ?_ _ | refine blk_drew ?_ | refine blk_alloc ?_ _)); refine blk_far ?_ NB585_584.out _; (with_reducible repeat (first | refine blk_drewN ?_ _ | refine blk_drew ?_ | refine blk_alloc ?_ _)); refine blk_far ?_ NB585_584.out _; (with_reducible repeat (first | refine blk_drewN ?_ _ | refine blk_drew ?_ | refine blk_alloc ?_ _)); refine blk_far ?_ NB585_584.out _; (with_reducible repeat (first | refine blk_drewN ?_ _ | refine blk_drew ?_ | refine blk_alloc ?_ _)); exact BK585.out⟩, ⟨by repeat (first | (with_reducible first | exact HB.out | apply below_alloc | apply pw_below_drewN | apply below_drew1 | refine below_set ?_ GE553.out | refine below_set ?_ GE584.out | refine below_set ?_ GE585.out) | exact HB.out)⟩⟩
  case rest =>
    clear HC5
    try clear c1
    try clear c2
    try clear p2
    try clear c3
    try clear c8
    try clear c10
    try clear c11
    try clear c18
    try clear c19
    try clear c24
    try clear c27
    try clear c28
    try clear c28b0
    try clear c28b1
    try clear c30
    try clear c31
    try clear hcz11_0
    try clear hcz11_1
    try clear hcz11_2
    try clear hcz20_0
    try clear hcz20_1
    try clear hcz20_2
    try clear hcz25_0
    try clear hcz25_1
    try clear hcz25_2
    try clear hcz32_0
    try clear hcz32_1
    try clear hcz32_2
    try clear hcz8_0
    try clear hcz8_1
    try clear hcz8_2
    try clear hfz11_0
    try clear hfz11_1
    try clear hfz11_2
    try clear hfz20_0
    try clear hfz20_1
    try clear hfz20_2
    try clear hfz25_0
    try clear hfz25_1
    try clear hfz25_2
    try clear hfz32_0
    try clear hfz32_1
    try clear hfz32_2
    try clear hfz8_0
    try clear hfz8_1
    try clear hfz8_2
    obtain ⟨kq, x26_4, rfl, HA, HJ4, HO_554000, HO_554001, HO_554002, HO_585000, HO_585001, HO_585002, HO_586000, HO_586001, HO_586002, BK553, BK584, BK585, HB⟩ := hcut
    cases kq with
    | zero => exact absurd HA.out (by simp [bazaarlaw06_NodeHalves.j0])
    | succ kj4 =>
      have H := HA.out
      clear HA
      simp only [bazaarlaw06_NodeHalves.j0] at H
      by_cases c34 : x26_4 = true
      · subst c34
        have H1 : (if t554 = true then (if t583 = 0 then (some true) else (some (t583 == 60))) else (some false)) = some r := by rw [if_pos rfl] at H; exact H
        clear H
        have H := H1
        clear H1
        by_cases c35 : t554 = true
        · subst c35
          have H1 : (if t583 = 0 then (some true) else (some (t583 == 60))) = some r := by rw [if_pos rfl] at H; exact H
          clear H
          have H := H1
          clear H1
          by_cases c36 : t583 = 0
          · rw [if_pos c36] at H
            have c36b0 : (t583 == 0) = true := beq_iff_eq.mpr c36
            have c36b1 : (t583 != 0) = false := bne_eq_false_iff_eq.mpr c36
            clear c36
            obtain rfl := Option.some.inj H
            go_wp2
            go_ret
            exact ⟨by first | rfl | (simp [errW_none, errW_some] <;> rfl) | (simp [errW_none, errW_some]; exact ⟨rfl, rfl, rfl⟩) | (simp [*, errW_none, errW_some] <;> rfl), by repeat (first | (with_reducible first | exact HB.out | apply below_alloc | apply pw_below_drewN | apply below_drew1 | refine below_set ?_ GE553.out | refine below_set ?_ GE584.out | refine below_set ?_ GE585.out) | exact HB.out)⟩
          · rw [if_neg c36] at H
            have c36b0 : (t583 == 0) = false := beq_eq_false_iff_ne.mpr c36
            have c36b1 : (t583 != 0) = true := bne_iff_ne.mpr c36
            obtain rfl := Option.some.inj H
            go_wp2
            go_ret
            exact ⟨by first | rfl | (simp [errW_none, errW_some] <;> rfl) | (simp [errW_none, errW_some]; exact ⟨rfl, rfl, rfl⟩) | (simp [*, errW_none, errW_some] <;> rfl), by repeat (first | (with_reducible first | exact HB.out | apply below_alloc | apply pw_below_drewN | apply below_drew1 | refine below_set ?_ GE553.out | refine below_set ?_ GE584.out | refine below_set ?_ GE585.out) | exact HB.out)⟩
        · replace c35 := Bool.eq_false_iff.mpr c35
          subst c35
          have H1 : (some false) = some r := by rw [if_neg (show ¬ (false = true) by decide)] at H; exact H
          clear H
          have H := H1
          clear H1
          obtain rfl := Option.some.inj H
          cases hr_
      · replace c34 := Bool.eq_false_iff.mpr c34
        subst c34
        have H1 : ((node_Right.f kj4 t564 t567 t570).bind fun t587 => (if t587 = true then ((node_Right.f kj4 t574 t577 t580).bind fun t588 => (if t588 = true then ((node_Size.f t564 t567 t570).bind fun t589 => (if t589 > 237 then (bazaarlaw06_NodeHalves.j1 kj4 t554 t573 true t564 t567 t570 t574 t577 t580) else ((node_Size.f t574 t577 t580).bind fun t590 => (if t590 > 237 then (bazaarlaw06_NodeHalves.j1 kj4 t554 t573 true t564 t567 t570 t574 t577 t580) else ((node_Size.f t564 t567 t570).bind fun t591 => (if t591 < 1 then (bazaarlaw06_NodeHalves.j1 kj4 t554 t573 true t564 t567 t570 t574 t577 t580) else ((node_Size.f t574 t577 t580).bind fun t592 => (bazaarlaw06_NodeHalves.j1 kj4 t554 t573 (decide (t592 < 1)) t564 t567 t570 t574 t577 t580)))))))) else (bazaarlaw06_NodeHalves.j1 kj4 t554 t573 true t564 t567 t570 t574 t577 t580))) else (bazaarlaw06_NodeHalves.j1 kj4 t554 t573 true t564 t567 t570 t574 t577 t580))) = some r := by rw [if_neg (show ¬ (false = true) by decide)] at H; exact H
        clear H
        have H := H1
        clear H1
        have HC37 := Aside0.mk H
        clear H
        go_upto_region 6 with (fail)
        go_cut [63] (fun v63 wc => ∃ (kq : Nat) (x63_36 : Bool), v63 = .bool x63_36 ∧ Aside0 (bazaarlaw06_NodeHalves.j1 kq t554 t573 x63_36 t564 t567 t570 t574 t577 t580 = some r) ∧ Aside0 (kq ≤ kj4) ∧ Aside0 (Kd.R k39 39 wc w.heap.size (fun k_ => some k_ ≠ ((.slice Ao17 t564.length co17) : Value).ownBlock ∧ some k_ ≠ ((.slice Ao23 t574.length co23) : Value).ownBlock) (.slice Ao10 t555.length co10) t555) ∧ Aside0 (Kd.R Kd.string 9 wc w.heap.size (fun k_ => some k_ ≠ ((.slice Ao21 t567.length co21) : Value).ownBlock ∧ some k_ ≠ ((.slice Ao26 t577.length co26) : Value).ownBlock) (.slice Ao12 t558.length co12) t558) ∧ Aside0 (Kd.R (Kd.int .u32) 65 wc w.heap.size (fun k_ => some k_ ≠ ((.slice Ao22 t570.length co22) : Value).ownBlock ∧ some k_ ≠ ((.slice Ao27 t580.length co27) : Value).ownBlock) (.slice Ao13 t561.length co13) t561) ∧ Aside0 (Kd.R k39 39 wc w.heap.size (fun k_ => some k_ ≠ ((.slice Ao10 t555.length co10) : Value).ownBlock ∧ some k_ ≠ ((.slice Ao23 t574.length co23) : Value).ownBlock) (.slice Ao17 t564.length co17) t564) ∧ Aside0 (Kd.R Kd.string 9 wc w.heap.size (fun k_ => some k_ ≠ ((.slice Ao12 t558.length co12) : Value).ownBlock ∧ some k_ ≠ ((.slice Ao26 t577.length co26) : Value).ownBlock) (.slice Ao21 t567.length co21) t567) ∧ Aside0 (Kd.R (Kd.int .u32) 65 wc w.heap.size (fun k_ => some k_ ≠ ((.slice Ao13 t561.length co13) : Value).ownBlock ∧ some k_ ≠ ((.slice Ao27 t580.length co27) : Value).ownBlock) (.slice Ao22 t570.length co22) t570) ∧ Aside0 (Kd.R k39 39 wc w.heap.size (fun k_ => some k_ ≠ ((.slice Ao10 t555.length co10) : Value).ownBlock ∧ some k_ ≠ ((.slice Ao17 t564.length co17) : Value).ownBlock) (.slice Ao23 t574.length co23) t574) ∧ Aside0 (Kd.R Kd.string 9 wc w.heap.size (fun k_ => some k_ ≠ ((.slice Ao12 t558.length co12) : Value).ownBlock ∧ some k_ ≠ ((.slice Ao21 t567.length co21) : Value).ownBlock) (.slice Ao26 t577.length co26) t577) ∧ Aside0 (Kd.R (Kd.int .u32) 65 wc w.heap.size (fun k_ => some k_ ≠ ((.slice Ao13 t561.length co13) : Value).ownBlock ∧ some k_ ≠ ((.slice Ao22 t570.length co22) : Value).ownBlock) (.slice Ao27 t580.length co27) t580) ∧ Aside0 (wc.heap[gb553]? = some (.cells #[(.slice Ao10 t555.length co10), (.slice Ao12 t558.length co12), (.slice Ao13 t561.length co13)] 26 (0, 0))) ∧ Aside0 (wc.heap[gb584]? = some (.cells #[(.slice Ao17 t564.length co17), (.slice Ao21 t567.length co21), (.slice Ao22 t570.length co22)] 26 (0, 0))) ∧ Aside0 (wc.heap[gb585]? = some (.cells #[(.slice Ao23 t574.length co23), (.slice Ao26 t577.length co26), (.slice Ao27 t580.length co27)] 26 (0, 0))) ∧ Aside0 (Below w.heap.size w wc))
        case first =>
          have H := HC37.out
          clear HC37
          replace H := Option.bind_eq_some_iff.mp H
          obtain ⟨t587, A380, H⟩ := H
          replace H : (if t587 = true then ((node_Right.f kj4 t574 t577 t580).bind fun t588 => (if t588 = true then ((node_Size.f t564 t567 t570).bind fun t589 => (if t589 > 237 then (bazaarlaw06_NodeHalves.j1 kj4 t554 t573 true t564 t567 t570 t574 t577 t580) else ((node_Size.f t574 t577 t580).bind fun t590 => (if t590 > 237 then (bazaarlaw06_NodeHalves.j1 kj4 t554 t573 true t564 t567 t570 t574 t577 t580) else ((node_Size.f t564 t567 t570).bind fun t591 => (if t591 < 1 then (bazaarlaw06_NodeHalves.j1 kj4 t554 t573 true t564 t567 t570 t574 t577 t580) else ((node_Size.f t574 t577 t580).bind fun t592 => (bazaarlaw06_NodeHalves.j1 kj4 t554 t573 (decide (t592 < 1)) t564 t567 t570 t574 t577 t580)))))))) else (bazaarlaw06_NodeHalves.j1 kj4 t554 t573 true t564 t567 t570 t574 t577 t580))) else (bazaarlaw06_NodeHalves.j1 kj4 t554 t573 true t564 t567 t570 t574 t577 t580)) = some r := H
          have A38 := Aside0.mk A380
          clear A380
          by_cases c39 : t587 = true
          · subst c39
            have H1 : ((node_Right.f kj4 t574 t577 t580).bind fun t588 => (if t588 = true then ((node_Size.f t564 t567 t570).bind fun t589 => (if t589 > 237 then (bazaarlaw06_NodeHalves.j1 kj4 t554 t573 true t564 t567 t570 t574 t577 t580) else ((node_Size.f t574 t577 t580).bind fun t590 => (if t590 > 237 then (bazaarlaw06_NodeHalves.j1 kj4 t554 t573 true t564 t567 t570 t574 t577 t580) else ((node_Size.f t564 t567 t570).bind fun t591 => (if t591 < 1 then (bazaarlaw06_NodeHalves.j1 kj4 t554 t573 true t564 t567 t570 t574 t577 t580) else ((node_Size.f t574 t577 t580).bind fun t592 => (bazaarlaw06_NodeHalves.j1 kj4 t554 t573 (decide (t592 < 1)) t564 t567 t570 t574 t577 t580)))))))) else (bazaarlaw06_NodeHalves.j1 kj4 t554 t573 true t564 t567 t570 t574 t577 t580))) = some r := by rw [if_pos rfl] at H; exact H
            clear H
            have H := H1
            clear H1
            replace H := Option.bind_eq_some_iff.mp H
            obtain ⟨t588, A400, H⟩ := H
            replace H : (if t588 = true then ((node_Size.f t564 t567 t570).bind fun t589 => (if t589 > 237 then (bazaarlaw06_NodeHalves.j1 kj4 t554 t573 true t564 t567 t570 t574 t577 t580) else ((node_Size.f t574 t577 t580).bind fun t590 => (if t590 > 237 then (bazaarlaw06_NodeHalves.j1 kj4 t554 t573 true t564 t567 t570 t574 t577 t580) else ((node_Size.f t564 t567 t570).bind fun t591 => (if t591 < 1 then (bazaarlaw06_NodeHalves.j1 kj4 t554 t573 true t564 t567 t570 t574 t577 t580) else ((node_Size.f t574 t577 t580).bind fun t592 => (bazaarlaw06_NodeHalves.j1 kj4 t554 t573 (decide (t592 < 1)) t564 t567 t570 t574 t577 t580)))))))) else (bazaarlaw06_NodeHalves.j1 kj4 t554 t573 true t564 t567 t570 t574 t577 t580)) = some r := H
            have A40 := Aside0.mk A400
            clear A400
            by_cases c41 : t588 = true
            · subst c41
              have H1 : ((node_Size.f t564 t567 t570).bind fun t589 => (if t589 > 237 then (bazaarlaw06_NodeHalves.j1 kj4 t554 t573 true t564 t567 t570 t574 t577 t580) else ((node_Size.f t574 t577 t580).bind fun t590 => (if t590 > 237 then (bazaarlaw06_NodeHalves.j1 kj4 t554 t573 true t564 t567 t570 t574 t577 t580) else ((node_Size.f t564 t567 t570).bind fun t591 => (if t591 < 1 then (bazaarlaw06_NodeHalves.j1 kj4 t554 t573 true t564 t567 t570 t574 t577 t580) else ((node_Size.f t574 t577 t580).bind fun t592 => (bazaarlaw06_NodeHalves.j1 kj4 t554 t573 (decide (t592 < 1)) t564 t567 t570 t574 t577 t580)))))))) = some r := by rw [if_pos rfl] at H; exact H
              clear H
              have H := H1
              clear H1
              replace H := Option.bind_eq_some_iff.mp H
              obtain ⟨t589, A420, H⟩ := H
              replace H : (if t589 > 237 then (bazaarlaw06_NodeHalves.j1 kj4 t554 t573 true t564 t567 t570 t574 t577 t580) else ((node_Size.f t574 t577 t580).bind fun t590 => (if t590 > 237 then (bazaarlaw06_NodeHalves.j1 kj4 t554 t573 true t564 t567 t570 t574 t577 t580) else ((node_Size.f t564 t567 t570).bind fun t591 => (if t591 < 1 then (bazaarlaw06_NodeHalves.j1 kj4 t554 t573 true t564 t567 t570 t574 t577 t580) else ((node_Size.f t574 t577 t580).bind fun t592 => (bazaarlaw06_NodeHalves.j1 kj4 t554 t573 (decide (t592 < 1)) t564 t567 t570 t574 t577 t580))))))) = some r := H
              have A42 := Aside0.mk A420
              clear A420
              by_cases c43 : t589 > 237
              · rw [if_pos c43] at H
                have c43b0 : decide (237 < t589) = true := decide_eq_true c43
                clear c43
                (first | rw [c43b0] | rw [c43b1] | (simp only [i64_w, i32_w]; rw [c43b0]) | skip)
                have H' := Aside0.mk H
                clear H
                have hnb44 := NB584_553.out
                have hnc44 := NB553_584.out
                have hnb45 := NB584_585.out
                have hnc45 := NB585_584.out
                have hcz46_0 : wc.cell? ⟨gb584, 0, none⟩ = some (.slice Ao17 t564.length co17) := (blk_cell BK584.out 0).trans rfl
                have hcz46_1 : wc.cell? ⟨gb584, 1, none⟩ = some (.slice Ao21 t567.length co21) := (blk_cell BK584.out 1).trans rfl
                have hcz46_2 : wc.cell? ⟨gb584, 2, none⟩ = some (.slice Ao22 t570.length co22) := (blk_cell BK584.out 2).trans rfl
                have hfz46_0 := blk_frozen BK584.out 0
                have hfz46_1 := blk_frozen BK584.out 1
                have hfz46_2 := blk_frozen BK584.out 2
                go_wp2_with (first | ((with_reducible refine gate_callee (f := 14) rfl ?_); refine goesL_ (some 37) rfl rfl Try.func14 (by kernel_rfl) rfl #[.agg #[.slice Ao17 t564.length co17, .slice Ao21 t567.length co21, .slice Ao22 t570.length co22]] rfl (by (try simp only [List.map_toArray, List.map_cons, List.map_nil]); first | done | rfl | (simp only [List.length_drop, List.length_take]; rfl)) ?_; (with_reducible refine (node_Right.calls kj4 _ _ t564 _ _ t567 _ _ t570 true _ ?side1 ?side2 ?side3 ?side4 ?side5 ?side6 A38.out).mono ?_); (case side1 => repeat (first | exact (Kd.R_reads' HO_585000.out).2.2 | (with_reducible refine Kd.C_alloc ?_ _) | (with_reducible refine Kd.C_drewN ?_ _) | (with_reducible refine Kd.C_drew ?_))); (case side2 => exact (Kd.R_reads' HO_585000.out).2.1); (case side3 => repeat (first | exact (Kd.R_reads' HO_585001.out).2.2 | (with_reducible refine Kd.C_alloc ?_ _) | (with_reducible refine Kd.C_drewN ?_ _) | (with_reducible refine Kd.C_drew ?_))); (case side4 => exact (Kd.R_reads' HO_585001.out).2.1); (case side5 => repeat (first | exact (Kd.R_reads' HO_585002.out).2.2 | (with_reducible refine Kd.C_alloc ?_ _) | (with_reducible refine Kd.C_drewN ?_ _) | (with_reducible refine Kd.C_drew ?_))); (case side6 => exact (Kd.R_reads' HO_585002.out).2.1); rintro e w47 ⟨rfl, hb⟩; refine ⟨_, rfl, ?_⟩; replace HO_554000 := Aside0.mk (Kd.R_below (R_ HO_554000.out) hb); replace HO_554001 := Aside0.mk (Kd.R_below (R_ HO_554001.out) hb); replace HO_554002 := Aside0.mk (Kd.R_below (R_ HO_554002.out) hb); replace HO_585000 := Aside0.mk (Kd.R_below (R_ HO_585000.out) hb); replace HO_585001 := Aside0.mk (Kd.R_below (R_ HO_585001.out) hb); replace HO_585002 := Aside0.mk (Kd.R_below (R_ HO_585002.out) hb); replace HO_586000 := Aside0.mk (Kd.R_below (R_ HO_586000.out) hb); replace HO_586001 := Aside0.mk (Kd.R_below (R_ HO_586001.out) hb); replace HO_586002 := Aside0.mk (Kd.R_below (R_ HO_586002.out) hb); replace BK553 := Aside0.mk (blk_below (g := gb553) (o := .cells #[.slice Ao10 t555.length co10, .slice Ao12 t558.length co12, .slice Ao13 t561.length co13] 26 (0, 0)) (B_ BK553.out) hb); replace BK584 := Aside0.mk (blk_below (g := gb584) (o := .cells #[.slice Ao17 t564.length co17, .slice Ao21 t567.length co21, .slice Ao22 t570.length co22] 26 (0, 0)) (B_ BK584.out) hb); replace BK585 := Aside0.mk (blk_below (g := gb585) (o := .cells #[.slice Ao23 t574.length co23, .slice Ao26 t577.length co26, .slice Ao27 t580.length co27] 26 (0, 0)) (B_ BK585.out) hb); replace HB := Aside0.mk (below_step (L_ HB.out) hb); (try clear hb); (try clear hb2); (try clear hk); (try clear hi); have hnb48 := NB585_553.out; have hnc48 := NB553_585.out; have hcz49_0 : w47.cell? ⟨gb585, 0, none⟩ = some (.slice Ao23 t574.length co23) := (blk_cell BK585.out 0).trans rfl; have hcz49_1 : w47.cell? ⟨gb585, 1, none⟩ = some (.slice Ao26 t577.length co26) := (blk_cell BK585.out 1).trans rfl; have hcz49_2 : w47.cell? ⟨gb585, 2, none⟩ = some (.slice Ao27 t580.length co27) := (blk_cell BK585.out 2).trans rfl; have hfz49_0 := blk_frozen BK585.out 0; have hfz49_1 := blk_frozen BK585.out 1; have hfz49_2 := blk_frozen BK585.out 2) | (go_at_call 14; (with_reducible refine (node_Right.calls kj4 _ _ t574 _ _ t577 _ _ t580 true _ ?side1 ?side2 ?side3 ?side4 ?side5 ?side6 A40.out).mono ?_); (case side1 => repeat (first | exact (Kd.R_reads' HO_586000.out).2.2 | (with_reducible refine Kd.C_alloc ?_ _) | (with_reducible refine Kd.C_drewN ?_ _) | (with_reducible refine Kd.C_drew ?_))); (case side2 => exact (Kd.R_reads' HO_586000.out).2.1); (case side3 => repeat (first | exact (Kd.R_reads' HO_586001.out).2.2 | (with_reducible refine Kd.C_alloc ?_ _) | (with_reducible refine Kd.C_drewN ?_ _) | (with_reducible refine Kd.C_drew ?_))); (case side4 => exact (Kd.R_reads' HO_586001.out).2.1); (case side5 => repeat (first | exact (Kd.R_reads' HO_586002.out).2.2 | (with_reducible refine Kd.C_alloc ?_ _) | (with_reducible refine Kd.C_drewN ?_ _) | (with_reducible refine Kd.C_drew ?_))); (case side6 => exact (Kd.R_reads' HO_586002.out).2.1); rintro e w50 ⟨rfl, hb⟩; replace HO_554000 := Aside0.mk (Kd.R_below (R_ HO_554000.out) hb); replace HO_554001 := Aside0.mk (Kd.R_below (R_ HO_554001.out) hb); replace HO_554002 := Aside0.mk (Kd.R_below (R_ HO_554002.out) hb); replace HO_585000 := Aside0.mk (Kd.R_below (R_ HO_585000.out) hb); replace HO_585001 := Aside0.mk (Kd.R_below (R_ HO_585001.out) hb); replace HO_585002 := Aside0.mk (Kd.R_below (R_ HO_585002.out) hb); replace HO_586000 := Aside0.mk (Kd.R_below (R_ HO_586000.out) hb); replace HO_586001 := Aside0.mk (Kd.R_below (R_ HO_586001.out) hb); replace HO_586002 := Aside0.mk (Kd.R_below (R_ HO_586002.out) hb); replace BK553 := Aside0.mk (blk_below (g := gb553) (o := .cells #[.slice Ao10 t555.length co10, .slice Ao12 t558.length co12, .slice Ao13 t561.length co13] 26 (0, 0)) (B_ BK553.out) hb); replace BK584 := Aside0.mk (blk_below (g := gb584) (o := .cells #[.slice Ao17 t564.length co17, .slice Ao21 t567.length co21, .slice Ao22 t570.length co22] 26 (0, 0)) (B_ BK584.out) hb); replace BK585 := Aside0.mk (blk_below (g := gb585) (o := .cells #[.slice Ao23 t574.length co23, .slice Ao26 t577.length co26, .slice Ao27 t580.length co27] 26 (0, 0)) (B_ BK585.out) hb); replace HB := Aside0.mk (below_step (L_ HB.out) hb); (try clear hb); (try clear hb2); (try clear hk); (try clear hi); have hcz51_0 : w50.cell? ⟨gb584, 0, none⟩ = some (.slice Ao17 t564.length co17) := (blk_cell BK584.out 0).trans rfl; have hcz51_1 : w50.cell? ⟨gb584, 1, none⟩ = some (.slice Ao21 t567.length co21) := (blk_cell BK584.out 1).trans rfl; have hcz51_2 : w50.cell? ⟨gb584, 2, none⟩ = some (.slice Ao22 t570.length co22) := (blk_cell BK584.out 2).trans rfl; have hfz51_0 := blk_frozen BK584.out 0; have hfz51_1 := blk_frozen BK584.out 1; have hfz51_2 := blk_frozen BK584.out 2) | (go_at_call 16; (with_reducible refine (node_Size.calls _ _ t564 _ _ t567 _ _ t570 t589 _ ?side1 ?side2 ?side3 ?side4 ?side5 ?side6 A42.out).mono ?_); (case side1 => repeat (first | exact (Kd.R_reads' HO_585000.out).2.2 | (with_reducible refine Kd.C_alloc ?_ _) | (with_reducible refine Kd.C_drewN ?_ _) | (with_reducible refine Kd.C_drew ?_))); (case side2 => exact (Kd.R_reads' HO_585000.out).2.1); (case side3 => repeat (first | exact (Kd.R_reads' HO_585001.out).2.2 | (with_reducible refine Kd.C_alloc ?_ _) | (with_reducible refine Kd.C_drewN ?_ _) | (with_reducible refine Kd.C_drew ?_))); (case side4 => exact (Kd.R_reads' HO_585001.out).2.1); (case side5 => repeat (first | exact (Kd.R_reads' HO_585002.out).2.2 | (with_reducible refine Kd.C_alloc ?_ _) | (with_reducible refine Kd.C_drewN ?_ _) | (with_reducible refine Kd.C_drew ?_))); (case side6 => exact (Kd.R_reads' HO_585002.out).2.1); rintro e w52 ⟨rfl, hb⟩; replace HO_554000 := Aside0.mk (Kd.R_below (R_ HO_554000.out) hb); replace HO_554001 := Aside0.mk (Kd.R_below (R_ HO_554001.out) hb); replace HO_554002 := Aside0.mk (Kd.R_below (R_ HO_554002.out) hb); replace HO_585000 := Aside0.mk (Kd.R_below (R_ HO_585000.out) hb); replace HO_585001 := Aside0.mk (Kd.R_below (R_ HO_585001.out) hb); replace HO_585002 := Aside0.mk (Kd.R_below (R_ HO_585002.out) hb); replace HO_586000 := Aside0.mk (Kd.R_below (R_ HO_586000.out) hb); replace HO_586001 := Aside0.mk (Kd.R_below (R_ HO_586001.out) hb); replace HO_586002 := Aside0.mk (Kd.R_below (R_ HO_586002.out) hb); replace BK553 := Aside0.mk (blk_below (g := gb553) (o := .cells #[.slice Ao10 t555.length co10, .slice Ao12 t558.length co12, .slice Ao13 t561.length co13] 26 (0, 0)) (B_ BK553.out) hb); replace BK584 := Aside0.mk (blk_below (g := gb584) (o := .cells #[.slice Ao17 t564.length co17, .slice Ao21 t567.length co21, .slice Ao22 t570.length co22] 26 (0, 0)) (B_ BK584.out) hb); replace BK585 := Aside0.mk (blk_below (g := gb585) (o := .cells #[.slice Ao23 t574.length co23, .slice Ao26 t577.length co26, .slice Ao27 t580.length co27] 26 (0, 0)) (B_ BK585.out) hb); replace HB := Aside0.mk (below_step (L_ HB.out) hb); (try clear hb); (try clear hb2); (try clear hk); (try clear hi)))
                go_meet
                case rel => exact ⟨_, (true), (by first | rfl | (simp; done) | (simp [*]; done)), H', ⟨by have := HJ4.out; first | omega | exact Nat.le_refl _⟩, ⟨by (with_reducible repeat (first | apply Kd.R_alloc | apply Kd.R_drewN | apply Kd.R_drew)); exact HO_554000.out⟩, ⟨by (with_reducible repeat (first | apply Kd.R_alloc | apply Kd.R_drewN | apply Kd.R_drew)); exact HO_554001.out⟩, ⟨by (with_reducible repeat (first | apply Kd.R_alloc | apply Kd.R_drewN | apply Kd.R_drew)); exact HO_554002.out⟩, ⟨by (with_reducible repeat (first | apply Kd.R_alloc | apply Kd.R_drewN | apply Kd.R_drew)); exact HO_585000.out⟩, ⟨by (with_reducible repeat (first | apply Kd.R_alloc | apply Kd.R_drewN | apply Kd.R_drew)); exact HO_585001.out⟩, ⟨by (with_reducible repeat (first | apply Kd.R_alloc | apply Kd.R_drewN | apply Kd.R_drew)); exact HO_585002.out⟩, ⟨by (with_reducible repeat (first | apply Kd.R_alloc | apply Kd.R_drewN | apply Kd.R_drew)); exact HO_586000.out⟩, ⟨by (with_reducible repeat (first | apply Kd.R_alloc | apply Kd.R_drewN | apply Kd.R_drew)); exact HO_586001.out⟩, ⟨by (with_reducible repeat (first | apply Kd.R_alloc | apply Kd.R_drewN | apply Kd.R_drew)); exact HO_586002.out⟩, ⟨by (with_reducible repeat (first | refine blk_drewN ?_ _ | refine blk_drew ?_ | refine blk_alloc ?_ _)); exact BK553.out⟩, ⟨by (with_reducible repeat (first | refine blk_drewN ?_ _ | refine blk_drew ?_ | refine blk_alloc ?_ _)); exact BK584.out⟩, ⟨by (with_reducible repeat (first | refine blk_drewN ?_ _ | refine blk_drew ?_ | refine blk_alloc ?_ _)); exact BK585.out⟩, ⟨by repeat (first | (with_reducible first | exact HB.out | apply below_alloc | apply pw_below_drewN | apply below_drew1 | refine below_set ?_ GE553.out | refine below_set ?_ GE584.out | refine below_set ?_ GE585.out) | exact HB.out)⟩⟩
              · rw [if_neg c43] at H
                have c43b0 : decide (237 < t589) = false := decide_eq_false c43
                clear c43
                (first | rw [c43b0] | rw [c43b1] | (simp only [i64_w, i32_w]; rw [c43b0]) | skip)
                replace H := Option.bind_eq_some_iff.mp H
                obtain ⟨t590, A530, H⟩ := H
                replace H : (if t590 > 237 then (bazaarlaw06_NodeHalves.j1 kj4 t554 t573 true t564 t567 t570 t574 t577 t580) else ((node_Size.f t564 t567 t570).bind fun t591 => (if t591 < 1 then (bazaarlaw06_NodeHalves.j1 kj4 t554 t573 true t564 t567 t570 t574 t577 t580) else ((node_Size.f t574 t577 t580).bind fun t592 => (bazaarlaw06_NodeHalves.j1 kj4 t554 t573 (decide (t592 < 1)) t564 t567 t570 t574 t577 t580))))) = some r := H
                have A53 := Aside0.mk A530
                clear A530
                by_cases c54 : t590 > 237
                · rw [if_pos c54] at H
                  have c54b0 : decide (237 < t590) = true := decide_eq_true c54
                  clear c54
                  have H' := Aside0.mk H
                  clear H
                  have hnb55 := NB584_553.out
                  have hnc55 := NB553_584.out
                  have hnb56 := NB584_585.out
                  have hnc56 := NB585_584.out
                  have hcz57_0 : wc.cell? ⟨gb584, 0, none⟩ = some (.slice Ao17 t564.length co17) := (blk_cell BK584.out 0).trans rfl
                  have hcz57_1 : wc.cell? ⟨gb584, 1, none⟩ = some (.slice Ao21 t567.length co21) := (blk_cell BK584.out 1).trans rfl
                  have hcz57_2 : wc.cell? ⟨gb584, 2, none⟩ = some (.slice Ao22 t570.length co22) := (blk_cell BK584.out 2).trans rfl
                  have hfz57_0 := blk_frozen BK584.out 0
                  have hfz57_1 := blk_frozen BK584.out 1
                  have hfz57_2 := blk_frozen BK584.out 2
                  go_wp2_with (first | ((with_reducible refine gate_callee (f := 14) rfl ?_); refine goesL_ (some 37) rfl rfl Try.func14 (by kernel_rfl) rfl #[.agg #[.slice Ao17 t564.length co17, .slice Ao21 t567.length co21, .slice Ao22 t570.length co22]] rfl (by (try simp only [List.map_toArray, List.map_cons, List.map_nil]); first | done | rfl | (simp only [List.length_drop, List.length_take]; rfl)) ?_; (with_reducible refine (node_Right.calls kj4 _ _ t564 _ _ t567 _ _ t570 true _ ?side1 ?side2 ?side3 ?side4 ?side5 ?side6 A38.out).mono ?_); (case side1 => repeat (first | exact (Kd.R_reads' HO_585000.out).2.2 | (with_reducible refine Kd.C_alloc ?_ _) | (with_reducible refine Kd.C_drewN ?_ _) | (with_reducible refine Kd.C_drew ?_))); (case side2 => exact (Kd.R_reads' HO_585000.out).2.1); (case side3 => repeat (first | exact (Kd.R_reads' HO_585001.out).2.2 | (with_reducible refine Kd.C_alloc ?_ _) | (with_reducible refine Kd.C_drewN ?_ _) | (with_reducible refine Kd.C_drew ?_))); (case side4 => exact (Kd.R_reads' HO_585001.out).2.1); (case side5 => repeat (first | exact (Kd.R_reads' HO_585002.out).2.2 | (with_reducible refine Kd.C_alloc ?_ _) | (with_reducible refine Kd.C_drewN ?_ _) | (with_reducible refine Kd.C_drew ?_))); (case side6 => exact (Kd.R_reads' HO_585002.out).2.1); rintro e w58 ⟨rfl, hb⟩; refine ⟨_, rfl, ?_⟩; replace HO_554000 := Aside0.mk (Kd.R_below (R_ HO_554000.out) hb); replace HO_554001 := Aside0.mk (Kd.R_below (R_ HO_554001.out) hb); replace HO_554002 := Aside0.mk (Kd.R_below (R_ HO_554002.out) hb); replace HO_585000 := Aside0.mk (Kd.R_below (R_ HO_585000.out) hb); replace HO_585001 := Aside0.mk (Kd.R_below (R_ HO_585001.out) hb); replace HO_585002 := Aside0.mk (Kd.R_below (R_ HO_585002.out) hb); replace HO_586000 := Aside0.mk (Kd.R_below (R_ HO_586000.out) hb); replace HO_586001 := Aside0.mk (Kd.R_below (R_ HO_586001.out) hb); replace HO_586002 := Aside0.mk (Kd.R_below (R_ HO_586002.out) hb); replace BK553 := Aside0.mk (blk_below (g := gb553) (o := .cells #[.slice Ao10 t555.length co10, .slice Ao12 t558.length co12, .slice Ao13 t561.length co13] 26 (0, 0)) (B_ BK553.out) hb); replace BK584 := Aside0.mk (blk_below (g := gb584) (o := .cells #[.slice Ao17 t564.length co17, .slice Ao21 t567.length co21, .slice Ao22 t570.length co22] 26 (0, 0)) (B_ BK584.out) hb); replace BK585 := Aside0.mk (blk_below (g := gb585) (o := .cells #[.slice Ao23 t574.length co23, .slice Ao26 t577.length co26, .slice Ao27 t580.length co27] 26 (0, 0)) (B_ BK585.out) hb); replace HB := Aside0.mk (below_step (L_ HB.out) hb); (try clear hb); (try clear hb2); (try clear hk); (try clear hi); have hnb59 := NB585_553.out; have hnc59 := NB553_585.out; have hcz60_0 : w58.cell? ⟨gb585, 0, none⟩ = some (.slice Ao23 t574.length co23) := (blk_cell BK585.out 0).trans rfl; have hcz60_1 : w58.cell? ⟨gb585, 1, none⟩ = some (.slice Ao26 t577.length co26) := (blk_cell BK585.out 1).trans rfl; have hcz60_2 : w58.cell? ⟨gb585, 2, none⟩ = some (.slice Ao27 t580.length co27) := (blk_cell BK585.out 2).trans rfl; have hfz60_0 := blk_frozen BK585.out 0; have hfz60_1 := blk_frozen BK585.out 1; have hfz60_2 := blk_frozen BK585.out 2) | (go_at_call 14; (with_reducible refine (node_Right.calls kj4 _ _ t574 _ _ t577 _ _ t580 true _ ?side1 ?side2 ?side3 ?side4 ?side5 ?side6 A40.out).mono ?_); (case side1 => repeat (first | exact (Kd.R_reads' HO_586000.out).2.2 | (with_reducible refine Kd.C_alloc ?_ _) | (with_reducible refine Kd.C_drewN ?_ _) | (with_reducible refine Kd.C_drew ?_))); (case side2 => exact (Kd.R_reads' HO_586000.out).2.1); (case side3 => repeat (first | exact (Kd.R_reads' HO_586001.out).2.2 | (with_reducible refine Kd.C_alloc ?_ _) | (with_reducible refine Kd.C_drewN ?_ _) | (with_reducible refine Kd.C_drew ?_))); (case side4 => exact (Kd.R_reads' HO_586001.out).2.1); (case side5 => repeat (first | exact (Kd.R_reads' HO_586002.out).2.2 | (with_reducible refine Kd.C_alloc ?_ _) | (with_reducible refine Kd.C_drewN ?_ _) | (with_reducible refine Kd.C_drew ?_))); (case side6 => exact (Kd.R_reads' HO_586002.out).2.1); rintro e w61 ⟨rfl, hb⟩; replace HO_554000 := Aside0.mk (Kd.R_below (R_ HO_554000.out) hb); replace HO_554001 := Aside0.mk (Kd.R_below (R_ HO_554001.out) hb); replace HO_554002 := Aside0.mk (Kd.R_below (R_ HO_554002.out) hb); replace HO_585000 := Aside0.mk (Kd.R_below (R_ HO_585000.out) hb); replace HO_585001 := Aside0.mk (Kd.R_below (R_ HO_585001.out) hb); replace HO_585002 := Aside0.mk (Kd.R_below (R_ HO_585002.out) hb); replace HO_586000 := Aside0.mk (Kd.R_below (R_ HO_586000.out) hb); replace HO_586001 := Aside0.mk (Kd.R_below (R_ HO_586001.out) hb); replace HO_586002 := Aside0.mk (Kd.R_below (R_ HO_586002.out) hb); replace BK553 := Aside0.mk (blk_below (g := gb553) (o := .cells #[.slice Ao10 t555.length co10, .slice Ao12 t558.length co12, .slice Ao13 t561.length co13] 26 (0, 0)) (B_ BK553.out) hb); replace BK584 := Aside0.mk (blk_below (g := gb584) (o := .cells #[.slice Ao17 t564.length co17, .slice Ao21 t567.length co21, .slice Ao22 t570.length co22] 26 (0, 0)) (B_ BK584.out) hb); replace BK585 := Aside0.mk (blk_below (g := gb585) (o := .cells #[.slice Ao23 t574.length co23, .slice Ao26 t577.length co26, .slice Ao27 t580.length co27] 26 (0, 0)) (B_ BK585.out) hb); replace HB := Aside0.mk (below_step (L_ HB.out) hb); (try clear hb); (try clear hb2); (try clear hk); (try clear hi); have hcz62_0 : w61.cell? ⟨gb584, 0, none⟩ = some (.slice Ao17 t564.length co17) := (blk_cell BK584.out 0).trans rfl; have hcz62_1 : w61.cell? ⟨gb584, 1, none⟩ = some (.slice Ao21 t567.length co21) := (blk_cell BK584.out 1).trans rfl; have hcz62_2 : w61.cell? ⟨gb584, 2, none⟩ = some (.slice Ao22 t570.length co22) := (blk_cell BK584.out 2).trans rfl; have hfz62_0 := blk_frozen BK584.out 0; have hfz62_1 := blk_frozen BK584.out 1; have hfz62_2 := blk_frozen BK584.out 2) | (go_at_call 16; (with_reducible refine (node_Size.calls _ _ t564 _ _ t567 _ _ t570 t589 _ ?side1 ?side2 ?side3 ?side4 ?side5 ?side6 A42.out).mono ?_); (case side1 => repeat (first | exact (Kd.R_reads' HO_585000.out).2.2 | (with_reducible refine Kd.C_alloc ?_ _) | (with_reducible refine Kd.C_drewN ?_ _) | (with_reducible refine Kd.C_drew ?_))); (case side2 => exact (Kd.R_reads' HO_585000.out).2.1); (case side3 => repeat (first | exact (Kd.R_reads' HO_585001.out).2.2 | (with_reducible refine Kd.C_alloc ?_ _) | (with_reducible refine Kd.C_drewN ?_ _) | (with_reducible refine Kd.C_drew ?_))); (case side4 => exact (Kd.R_reads' HO_585001.out).2.1); (case side5 => repeat (first | exact (Kd.R_reads' HO_585002.out).2.2 | (with_reducible refine Kd.C_alloc ?_ _) | (with_reducible refine Kd.C_drewN ?_ _) | (with_reducible refine Kd.C_drew ?_))); (case side6 => exact (Kd.R_reads' HO_585002.out).2.1); rintro e w63 ⟨rfl, hb⟩; replace HO_554000 := Aside0.mk (Kd.R_below (R_ HO_554000.out) hb); replace HO_554001 := Aside0.mk (Kd.R_below (R_ HO_554001.out) hb); replace HO_554002 := Aside0.mk (Kd.R_below (R_ HO_554002.out) hb); replace HO_585000 := Aside0.mk (Kd.R_below (R_ HO_585000.out) hb); replace HO_585001 := Aside0.mk (Kd.R_below (R_ HO_585001.out) hb); replace HO_585002 := Aside0.mk (Kd.R_below (R_ HO_585002.out) hb); replace HO_586000 := Aside0.mk (Kd.R_below (R_ HO_586000.out) hb); replace HO_586001 := Aside0.mk (Kd.R_below (R_ HO_586001.out) hb); replace HO_586002 := Aside0.mk (Kd.R_below (R_ HO_586002.out) hb); replace BK553 := Aside0.mk (blk_below (g := gb553) (o := .cells #[.slice Ao10 t555.length co10, .slice Ao12 t558.length co12, .slice Ao13 t561.length co13] 26 (0, 0)) (B_ BK553.out) hb); replace BK584 := Aside0.mk (blk_below (g := gb584) (o := .cells #[.slice Ao17 t564.length co17, .slice Ao21 t567.length co21, .slice Ao22 t570.length co22] 26 (0, 0)) (B_ BK584.out) hb); replace BK585 := Aside0.mk (blk_below (g := gb585) (o := .cells #[.slice Ao23 t574.length co23, .slice Ao26 t577.length co26, .slice Ao27 t580.length co27] 26 (0, 0)) (B_ BK585.out) hb); replace HB := Aside0.mk (below_step (L_ HB.out) hb); (try clear hb); (try clear hb2); (try clear hk); (try clear hi); have hcz64_0 : w63.cell? ⟨gb585, 0, none⟩ = some (.slice Ao23 t574.length co23) := (blk_cell BK585.out 0).trans rfl; have hcz64_1 : w63.cell? ⟨gb585, 1, none⟩ = some (.slice Ao26 t577.length co26) := (blk_cell BK585.out 1).trans rfl; have hcz64_2 : w63.cell? ⟨gb585, 2, none⟩ = some (.slice Ao27 t580.length co27) := (blk_cell BK585.out 2).trans rfl; have hfz64_0 := blk_frozen BK585.out 0; have hfz64_1 := blk_frozen BK585.out 1; have hfz64_2 := blk_frozen BK585.out 2) | (go_at_call 16; (with_reducible refine (node_Size.calls _ _ t574 _ _ t577 _ _ t580 t590 _ ?side1 ?side2 ?side3 ?side4 ?side5 ?side6 A53.out).mono ?_); (case side1 => repeat (first | exact (Kd.R_reads' HO_586000.out).2.2 | (with_reducible refine Kd.C_alloc ?_ _) | (with_reducible refine Kd.C_drewN ?_ _) | (with_reducible refine Kd.C_drew ?_))); (case side2 => exact (Kd.R_reads' HO_586000.out).2.1); (case side3 => repeat (first | exact (Kd.R_reads' HO_586001.out).2.2 | (with_reducible refine Kd.C_alloc ?_ _) | (with_reducible refine Kd.C_drewN ?_ _) | (with_reducible refine Kd.C_drew ?_))); (case side4 => exact (Kd.R_reads' HO_586001.out).2.1); (case side5 => repeat (first | exact (Kd.R_reads' HO_586002.out).2.2 | (with_reducible refine Kd.C_alloc ?_ _) | (with_reducible refine Kd.C_drewN ?_ _) | (with_reducible refine Kd.C_drew ?_))); (case side6 => exact (Kd.R_reads' HO_586002.out).2.1); rintro e w65 ⟨rfl, hb⟩; replace HO_554000 := Aside0.mk (Kd.R_below (R_ HO_554000.out) hb); replace HO_554001 := Aside0.mk (Kd.R_below (R_ HO_554001.out) hb); replace HO_554002 := Aside0.mk (Kd.R_below (R_ HO_554002.out) hb); replace HO_585000 := Aside0.mk (Kd.R_below (R_ HO_585000.out) hb); replace HO_585001 := Aside0.mk (Kd.R_below (R_ HO_585001.out) hb); replace HO_585002 := Aside0.mk (Kd.R_below (R_ HO_585002.out) hb); replace HO_586000 := Aside0.mk (Kd.R_below (R_ HO_586000.out) hb); replace HO_586001 := Aside0.mk (Kd.R_below (R_ HO_586001.out) hb); replace HO_586002 := Aside0.mk (Kd.R_below (R_ HO_586002.out) hb); replace BK553 := Aside0.mk (blk_below (g := gb553) (o := .cells #[.slice Ao10 t555.length co10, .slice Ao12 t558.length co12, .slice Ao13 t561.length co13] 26 (0, 0)) (B_ BK553.out) hb); replace BK584 := Aside0.mk (blk_below (g := gb584) (o := .cells #[.slice Ao17 t564.length co17, .slice Ao21 t567.length co21, .slice Ao22 t570.length co22] 26 (0, 0)) (B_ BK584.out) hb); replace BK585 := Aside0.mk (blk_below (g := gb585) (o := .cells #[.slice Ao23 t574.length co23, .slice Ao26 t577.length co26, .slice Ao27 t580.length co27] 26 (0, 0)) (B_ BK585.out) hb); replace HB := Aside0.mk (below_step (L_ HB.out) hb); (try clear hb); (try clear hb2); (try clear hk); (try clear hi)))
                  go_meet
                  case rel => exact ⟨_, (true), (by first | rfl | (simp; done) | (simp [*]; done)), H', ⟨by have := HJ4.out; first | omega | exact Nat.le_refl _⟩, ⟨by (with_reducible repeat (first | apply Kd.R_alloc | apply Kd.R_drewN | apply Kd.R_drew)); exact HO_554000.out⟩, ⟨by (with_reducible repeat (first | apply Kd.R_alloc | apply Kd.R_drewN | apply Kd.R_drew)); exact HO_554001.out⟩, ⟨by (with_reducible repeat (first | apply Kd.R_alloc | apply Kd.R_drewN | apply Kd.R_drew)); exact HO_554002.out⟩, ⟨by (with_reducible repeat (first | apply Kd.R_alloc | apply Kd.R_drewN | apply Kd.R_drew)); exact HO_585000.out⟩, ⟨by (with_reducible repeat (first | apply Kd.R_alloc | apply Kd.R_drewN | apply Kd.R_drew)); exact HO_585001.out⟩, ⟨by (with_reducible repeat (first | apply Kd.R_alloc | apply Kd.R_drewN | apply Kd.R_drew)); exact HO_585002.out⟩, ⟨by (with_reducible repeat (first | apply Kd.R_alloc | apply Kd.R_drewN | apply Kd.R_drew)); exact HO_586000.out⟩, ⟨by (with_reducible repeat (first | apply Kd.R_alloc | apply Kd.R_drewN | apply Kd.R_drew)); exact HO_586001.out⟩, ⟨by (with_reducible repeat (first | apply Kd.R_alloc | apply Kd.R_drewN | apply Kd.R_drew)); exact HO_586002.out⟩, ⟨by (with_reducible repeat (first | refine blk_drewN ?_ _ | refine blk_drew ?_ | refine blk_alloc ?_ _)); exact BK553.out⟩, ⟨by (with_reducible repeat (first | refine blk_drewN ?_ _ | refine blk_drew ?_ | refine blk_alloc ?_ _)); exact BK584.out⟩, ⟨by (with_reducible repeat (first | refine blk_drewN ?_ _ | refine blk_drew ?_ | refine blk_alloc ?_ _)); exact BK585.out⟩, ⟨by repeat (first | (with_reducible first | exact HB.out | apply below_alloc | apply pw_below_drewN | apply below_drew1 | refine below_set ?_ GE553.out | refine below_set ?_ GE584.out | refine below_set ?_ GE585.out) | exact HB.out)⟩⟩
                · rw [if_neg c54] at H
                  have c54b0 : decide (237 < t590) = false := decide_eq_false c54
                  clear c54
                  replace H := Option.bind_eq_some_iff.mp H
                  obtain ⟨t591, A660, H⟩ := H
                  replace H : (if t591 < 1 then (bazaarlaw06_NodeHalves.j1 kj4 t554 t573 true t564 t567 t570 t574 t577 t580) else ((node_Size.f t574 t577 t580).bind fun t592 => (bazaarlaw06_NodeHalves.j1 kj4 t554 t573 (decide (t592 < 1)) t564 t567 t570 t574 t577 t580))) = some r := H
                  have A66 := Aside0.mk A660
                  clear A660
                  have e_ : t591 = t589 := Option.some.inj (A66.out.symm.trans A42.out)
                  subst e_
                  by_cases c67 : t591 < 1
                  · rw [if_pos c67] at H
                    have c67b0 : decide (t591 < 1) = true := decide_eq_true c67
                    clear c67
                    have H' := Aside0.mk H
                    clear H
                    have hnb68 := NB584_553.out
                    have hnc68 := NB553_584.out
                    have hnb69 := NB584_585.out
                    have hnc69 := NB585_584.out
                    have hcz70_0 : wc.cell? ⟨gb584, 0, none⟩ = some (.slice Ao17 t564.length co17) := (blk_cell BK584.out 0).trans rfl
                    have hcz70_1 : wc.cell? ⟨gb584, 1, none⟩ = some (.slice Ao21 t567.length co21) := (blk_cell BK584.out 1).trans rfl
                    have hcz70_2 : wc.cell? ⟨gb584, 2, none⟩ = some (.slice Ao22 t570.length co22) := (blk_cell BK584.out 2).trans rfl
                    have hfz70_0 := blk_frozen BK584.out 0
                    have hfz70_1 := blk_frozen BK584.out 1
                    have hfz70_2 := blk_frozen BK584.out 2
                    go_wp2_with (first | ((with_reducible refine gate_callee (f := 14) rfl ?_); refine goesL_ (some 37) rfl rfl Try.func14 (by kernel_rfl) rfl #[.agg #[.slice Ao17 t564.length co17, .slice Ao21 t567.length co21, .slice Ao22 t570.length co22]] rfl (by (try simp only [List.map_toArray, List.map_cons, List.map_nil]); first | done | rfl | (simp only [List.length_drop, List.length_take]; rfl)) ?_; (with_reducible refine (node_Right.calls kj4 _ _ t564 _ _ t567 _ _ t570 true _ ?side1 ?side2 ?side3 ?side4 ?side5 ?side6 A38.out).mono ?_); (case side1 => repeat (first | exact (Kd.R_reads' HO_585000.out).2.2 | (with_reducible refine Kd.C_alloc ?_ _) | (with_reducible refine Kd.C_drewN ?_ _) | (with_reducible refine Kd.C_drew ?_))); (case side2 => exact (Kd.R_reads' HO_585000.out).2.1); (case side3 => repeat (first | exact (Kd.R_reads' HO_585001.out).2.2 | (with_reducible refine Kd.C_alloc ?_ _) | (with_reducible refine Kd.C_drewN ?_ _) | (with_reducible refine Kd.C_drew ?_))); (case side4 => exact (Kd.R_reads' HO_585001.out).2.1); (case side5 => repeat (first | exact (Kd.R_reads' HO_585002.out).2.2 | (with_reducible refine Kd.C_alloc ?_ _) | (with_reducible refine Kd.C_drewN ?_ _) | (with_reducible refine Kd.C_drew ?_))); (case side6 => exact (Kd.R_reads' HO_585002.out).2.1); rintro e w71 ⟨rfl, hb⟩; refine ⟨_, rfl, ?_⟩; replace HO_554000 := Aside0.mk (Kd.R_below (R_ HO_554000.out) hb); replace HO_554001 := Aside0.mk (Kd.R_below (R_ HO_554001.out) hb); replace HO_554002 := Aside0.mk (Kd.R_below (R_ HO_554002.out) hb); replace HO_585000 := Aside0.mk (Kd.R_below (R_ HO_585000.out) hb); replace HO_585001 := Aside0.mk (Kd.R_below (R_ HO_585001.out) hb); replace HO_585002 := Aside0.mk (Kd.R_below (R_ HO_585002.out) hb); replace HO_586000 := Aside0.mk (Kd.R_below (R_ HO_586000.out) hb); replace HO_586001 := Aside0.mk (Kd.R_below (R_ HO_586001.out) hb); replace HO_586002 := Aside0.mk (Kd.R_below (R_ HO_586002.out) hb); replace BK553 := Aside0.mk (blk_below (g := gb553) (o := .cells #[.slice Ao10 t555.length co10, .slice Ao12 t558.length co12, .slice Ao13 t561.length co13] 26 (0, 0)) (B_ BK553.out) hb); replace BK584 := Aside0.mk (blk_below (g := gb584) (o := .cells #[.slice Ao17 t564.length co17, .slice Ao21 t567.length co21, .slice Ao22 t570.length co22] 26 (0, 0)) (B_ BK584.out) hb); replace BK585 := Aside0.mk (blk_below (g := gb585) (o := .cells #[.slice Ao23 t574.length co23, .slice Ao26 t577.length co26, .slice Ao27 t580.length co27] 26 (0, 0)) (B_ BK585.out) hb); replace HB := Aside0.mk (below_step (L_ HB.out) hb); (try clear hb); (try clear hb2); (try clear hk); (try clear hi); have hnb72 := NB585_553.out; have hnc72 := NB553_585.out; have hcz73_0 : w71.cell? ⟨gb585, 0, none⟩ = some (.slice Ao23 t574.length co23) := (blk_cell BK585.out 0).trans rfl; have hcz73_1 : w71.cell? ⟨gb585, 1, none⟩ = some (.slice Ao26 t577.length co26) := (blk_cell BK585.out 1).trans rfl; have hcz73_2 : w71.cell? ⟨gb585, 2, none⟩ = some (.slice Ao27 t580.length co27) := (blk_cell BK585.out 2).trans rfl; have hfz73_0 := blk_frozen BK585.out 0; have hfz73_1 := blk_frozen BK585.out 1; have hfz73_2 := blk_frozen BK585.out 2) | (go_at_call 14; (with_reducible refine (node_Right.calls kj4 _ _ t574 _ _ t577 _ _ t580 true _ ?side1 ?side2 ?side3 ?side4 ?side5 ?side6 A40.out).mono ?_); (case side1 => repeat (first | exact (Kd.R_reads' HO_586000.out).2.2 | (with_reducible refine Kd.C_alloc ?_ _) | (with_reducible refine Kd.C_drewN ?_ _) | (with_reducible refine Kd.C_drew ?_))); (case side2 => exact (Kd.R_reads' HO_586000.out).2.1); (case side3 => repeat (first | exact (Kd.R_reads' HO_586001.out).2.2 | (with_reducible refine Kd.C_alloc ?_ _) | (with_reducible refine Kd.C_drewN ?_ _) | (with_reducible refine Kd.C_drew ?_))); (case side4 => exact (Kd.R_reads' HO_586001.out).2.1); (case side5 => repeat (first | exact (Kd.R_reads' HO_586002.out).2.2 | (with_reducible refine Kd.C_alloc ?_ _) | (with_reducible refine Kd.C_drewN ?_ _) | (with_reducible refine Kd.C_drew ?_))); (case side6 => exact (Kd.R_reads' HO_586002.out).2.1); rintro e w74 ⟨rfl, hb⟩; replace HO_554000 := Aside0.mk (Kd.R_below (R_ HO_554000.out) hb); replace HO_554001 := Aside0.mk (Kd.R_below (R_ HO_554001.out) hb); replace HO_554002 := Aside0.mk (Kd.R_below (R_ HO_554002.out) hb); replace HO_585000 := Aside0.mk (Kd.R_below (R_ HO_585000.out) hb); replace HO_585001 := Aside0.mk (Kd.R_below (R_ HO_585001.out) hb); replace HO_585002 := Aside0.mk (Kd.R_below (R_ HO_585002.out) hb); replace HO_586000 := Aside0.mk (Kd.R_below (R_ HO_586000.out) hb); replace HO_586001 := Aside0.mk (Kd.R_below (R_ HO_586001.out) hb); replace HO_586002 := Aside0.mk (Kd.R_below (R_ HO_586002.out) hb); replace BK553 := Aside0.mk (blk_below (g := gb553) (o := .cells #[.slice Ao10 t555.length co10, .slice Ao12 t558.length co12, .slice Ao13 t561.length co13] 26 (0, 0)) (B_ BK553.out) hb); replace BK584 := Aside0.mk (blk_below (g := gb584) (o := .cells #[.slice Ao17 t564.length co17, .slice Ao21 t567.length co21, .slice Ao22 t570.length co22] 26 (0, 0)) (B_ BK584.out) hb); replace BK585 := Aside0.mk (blk_below (g := gb585) (o := .cells #[.slice Ao23 t574.length co23, .slice Ao26 t577.length co26, .slice Ao27 t580.length co27] 26 (0, 0)) (B_ BK585.out) hb); replace HB := Aside0.mk (below_step (L_ HB.out) hb); (try clear hb); (try clear hb2); (try clear hk); (try clear hi); have hcz75_0 : w74.cell? ⟨gb584, 0, none⟩ = some (.slice Ao17 t564.length co17) := (blk_cell BK584.out 0).trans rfl; have hcz75_1 : w74.cell? ⟨gb584, 1, none⟩ = some (.slice Ao21 t567.length co21) := (blk_cell BK584.out 1).trans rfl; have hcz75_2 : w74.cell? ⟨gb584, 2, none⟩ = some (.slice Ao22 t570.length co22) := (blk_cell BK584.out 2).trans rfl; have hfz75_0 := blk_frozen BK584.out 0; have hfz75_1 := blk_frozen BK584.out 1; have hfz75_2 := blk_frozen BK584.out 2) | (go_at_call 16; (with_reducible refine (node_Size.calls _ _ t564 _ _ t567 _ _ t570 t591 _ ?side1 ?side2 ?side3 ?side4 ?side5 ?side6 A42.out).mono ?_); (case side1 => repeat (first | exact (Kd.R_reads' HO_585000.out).2.2 | (with_reducible refine Kd.C_alloc ?_ _) | (with_reducible refine Kd.C_drewN ?_ _) | (with_reducible refine Kd.C_drew ?_))); (case side2 => exact (Kd.R_reads' HO_585000.out).2.1); (case side3 => repeat (first | exact (Kd.R_reads' HO_585001.out).2.2 | (with_reducible refine Kd.C_alloc ?_ _) | (with_reducible refine Kd.C_drewN ?_ _) | (with_reducible refine Kd.C_drew ?_))); (case side4 => exact (Kd.R_reads' HO_585001.out).2.1); (case side5 => repeat (first | exact (Kd.R_reads' HO_585002.out).2.2 | (with_reducible refine Kd.C_alloc ?_ _) | (with_reducible refine Kd.C_drewN ?_ _) | (with_reducible refine Kd.C_drew ?_))); (case side6 => exact (Kd.R_reads' HO_585002.out).2.1); rintro e w76 ⟨rfl, hb⟩; replace HO_554000 := Aside0.mk (Kd.R_below (R_ HO_554000.out) hb); replace HO_554001 := Aside0.mk (Kd.R_below (R_ HO_554001.out) hb); replace HO_554002 := Aside0.mk (Kd.R_below (R_ HO_554002.out) hb); replace HO_585000 := Aside0.mk (Kd.R_below (R_ HO_585000.out) hb); replace HO_585001 := Aside0.mk (Kd.R_below (R_ HO_585001.out) hb); replace HO_585002 := Aside0.mk (Kd.R_below (R_ HO_585002.out) hb); replace HO_586000 := Aside0.mk (Kd.R_below (R_ HO_586000.out) hb); replace HO_586001 := Aside0.mk (Kd.R_below (R_ HO_586001.out) hb); replace HO_586002 := Aside0.mk (Kd.R_below (R_ HO_586002.out) hb); replace BK553 := Aside0.mk (blk_below (g := gb553) (o := .cells #[.slice Ao10 t555.length co10, .slice Ao12 t558.length co12, .slice Ao13 t561.length co13] 26 (0, 0)) (B_ BK553.out) hb); replace BK584 := Aside0.mk (blk_below (g := gb584) (o := .cells #[.slice Ao17 t564.length co17, .slice Ao21 t567.length co21, .slice Ao22 t570.length co22] 26 (0, 0)) (B_ BK584.out) hb); replace BK585 := Aside0.mk (blk_below (g := gb585) (o := .cells #[.slice Ao23 t574.length co23, .slice Ao26 t577.length co26, .slice Ao27 t580.length co27] 26 (0, 0)) (B_ BK585.out) hb); replace HB := Aside0.mk (below_step (L_ HB.out) hb); (try clear hb); (try clear hb2); (try clear hk); (try clear hi); have hcz77_0 : w76.cell? ⟨gb585, 0, none⟩ = some (.slice Ao23 t574.length co23) := (blk_cell BK585.out 0).trans rfl; have hcz77_1 : w76.cell? ⟨gb585, 1, none⟩ = some (.slice Ao26 t577.length co26) := (blk_cell BK585.out 1).trans rfl; have hcz77_2 : w76.cell? ⟨gb585, 2, none⟩ = some (.slice Ao27 t580.length co27) := (blk_cell BK585.out 2).trans rfl; have hfz77_0 := blk_frozen BK585.out 0; have hfz77_1 := blk_frozen BK585.out 1; have hfz77_2 := blk_frozen BK585.out 2) | (go_at_call 16; (with_reducible refine (node_Size.calls _ _ t574 _ _ t577 _ _ t580 t590 _ ?side1 ?side2 ?side3 ?side4 ?side5 ?side6 A53.out).mono ?_); (case side1 => repeat (first | exact (Kd.R_reads' HO_586000.out).2.2 | (with_reducible refine Kd.C_alloc ?_ _) | (with_reducible refine Kd.C_drewN ?_ _) | (with_reducible refine Kd.C_drew ?_))); (case side2 => exact (Kd.R_reads' HO_586000.out).2.1); (case side3 => repeat (first | exact (Kd.R_reads' HO_586001.out).2.2 | (with_reducible refine Kd.C_alloc ?_ _) | (with_reducible refine Kd.C_drewN ?_ _) | (with_reducible refine Kd.C_drew ?_))); (case side4 => exact (Kd.R_reads' HO_586001.out).2.1); (case side5 => repeat (first | exact (Kd.R_reads' HO_586002.out).2.2 | (with_reducible refine Kd.C_alloc ?_ _) | (with_reducible refine Kd.C_drewN ?_ _) | (with_reducible refine Kd.C_drew ?_))); (case side6 => exact (Kd.R_reads' HO_586002.out).2.1); rintro e w78 ⟨rfl, hb⟩; replace HO_554000 := Aside0.mk (Kd.R_below (R_ HO_554000.out) hb); replace HO_554001 := Aside0.mk (Kd.R_below (R_ HO_554001.out) hb); replace HO_554002 := Aside0.mk (Kd.R_below (R_ HO_554002.out) hb); replace HO_585000 := Aside0.mk (Kd.R_below (R_ HO_585000.out) hb); replace HO_585001 := Aside0.mk (Kd.R_below (R_ HO_585001.out) hb); replace HO_585002 := Aside0.mk (Kd.R_below (R_ HO_585002.out) hb); replace HO_586000 := Aside0.mk (Kd.R_below (R_ HO_586000.out) hb); replace HO_586001 := Aside0.mk (Kd.R_below (R_ HO_586001.out) hb); replace HO_586002 := Aside0.mk (Kd.R_below (R_ HO_586002.out) hb); replace BK553 := Aside0.mk (blk_below (g := gb553) (o := .cells #[.slice Ao10 t555.length co10, .slice Ao12 t558.length co12, .slice Ao13 t561.length co13] 26 (0, 0)) (B_ BK553.out) hb); replace BK584 := Aside0.mk (blk_below (g := gb584) (o := .cells #[.slice Ao17 t564.length co17, .slice Ao21 t567.length co21, .slice Ao22 t570.length co22] 26 (0, 0)) (B_ BK584.out) hb); replace BK585 := Aside0.mk (blk_below (g := gb585) (o := .cells #[.slice Ao23 t574.length co23, .slice Ao26 t577.length co26, .slice Ao27 t580.length co27] 26 (0, 0)) (B_ BK585.out) hb); replace HB := Aside0.mk (below_step (L_ HB.out) hb); (try clear hb); (try clear hb2); (try clear hk); (try clear hi); have hcz79_0 : w78.cell? ⟨gb584, 0, none⟩ = some (.slice Ao17 t564.length co17) := (blk_cell BK584.out 0).trans rfl; have hcz79_1 : w78.cell? ⟨gb584, 1, none⟩ = some (.slice Ao21 t567.length co21) := (blk_cell BK584.out 1).trans rfl; have hcz79_2 : w78.cell? ⟨gb584, 2, none⟩ = some (.slice Ao22 t570.length co22) := (blk_cell BK584.out 2).trans rfl; have hfz79_0 := blk_frozen BK584.out 0; have hfz79_1 := blk_frozen BK584.out 1; have hfz79_2 := blk_frozen BK584.out 2) | (go_at_call 16; (with_reducible refine (node_Size.calls _ _ t564 _ _ t567 _ _ t570 t591 _ ?side1 ?side2 ?side3 ?side4 ?side5 ?side6 A66.out).mono ?_); (case side1 => repeat (first | exact (Kd.R_reads' HO_585000.out).2.2 | (with_reducible refine Kd.C_alloc ?_ _) | (with_reducible refine Kd.C_drewN ?_ _) | (with_reducible refine Kd.C_drew ?_))); (case side2 => exact (Kd.R_reads' HO_585000.out).2.1); (case side3 => repeat (first | exact (Kd.R_reads' HO_585001.out).2.2 | (with_reducible refine Kd.C_alloc ?_ _) | (with_reducible refine Kd.C_drewN ?_ _) | (with_reducible refine Kd.C_drew ?_))); (case side4 => exact (Kd.R_reads' HO_585001.out).2.1); (case side5 => repeat (first | exact (Kd.R_reads' HO_585002.out).2.2 | (with_reducible refine Kd.C_alloc ?_ _) | (with_reducible refine Kd.C_drewN ?_ _) | (with_reducible refine Kd.C_drew ?_))); (case side6 => exact (Kd.R_reads' HO_585002.out).2.1); rintro e w80 ⟨rfl, hb⟩; replace HO_554000 := Aside0.mk (Kd.R_below (R_ HO_554000.out) hb); replace HO_554001 := Aside0.mk (Kd.R_below (R_ HO_554001.out) hb); replace HO_554002 := Aside0.mk (Kd.R_below (R_ HO_554002.out) hb); replace HO_585000 := Aside0.mk (Kd.R_below (R_ HO_585000.out) hb); replace HO_585001 := Aside0.mk (Kd.R_below (R_ HO_585001.out) hb); replace HO_585002 := Aside0.mk (Kd.R_below (R_ HO_585002.out) hb); replace HO_586000 := Aside0.mk (Kd.R_below (R_ HO_586000.out) hb); replace HO_586001 := Aside0.mk (Kd.R_below (R_ HO_586001.out) hb); replace HO_586002 := Aside0.mk (Kd.R_below (R_ HO_586002.out) hb); replace BK553 := Aside0.mk (blk_below (g := gb553) (o := .cells #[.slice Ao10 t555.length co10, .slice Ao12 t558.length co12, .slice Ao13 t561.length co13] 26 (0, 0)) (B_ BK553.out) hb); replace BK584 := Aside0.mk (blk_below (g := gb584) (o := .cells #[.slice Ao17 t564.length co17, .slice Ao21 t567.length co21, .slice Ao22 t570.length co22] 26 (0, 0)) (B_ BK584.out) hb); replace BK585 := Aside0.mk (blk_below (g := gb585) (o := .cells #[.slice Ao23 t574.length co23, .slice Ao26 t577.length co26, .slice Ao27 t580.length co27] 26 (0, 0)) (B_ BK585.out) hb); replace HB := Aside0.mk (below_step (L_ HB.out) hb); (try clear hb); (try clear hb2); (try clear hk); (try clear hi)))
                    go_meet
                    case rel => exact ⟨_, (true), (by first | rfl | (simp; done) | (simp [*]; done)), H', ⟨by have := HJ4.out; first | omega | exact Nat.le_refl _⟩, ⟨by (with_reducible repeat (first | apply Kd.R_alloc | apply Kd.R_drewN | apply Kd.R_drew)); exact HO_554000.out⟩, ⟨by (with_reducible repeat (first | apply Kd.R_alloc | apply Kd.R_drewN | apply Kd.R_drew)); exact HO_554001.out⟩, ⟨by (with_reducible repeat (first | apply Kd.R_alloc | apply Kd.R_drewN | apply Kd.R_drew)); exact HO_554002.out⟩, ⟨by (with_reducible repeat (first | apply Kd.R_alloc | apply Kd.R_drewN | apply Kd.R_drew)); exact HO_585000.out⟩, ⟨by (with_reducible repeat (first | apply Kd.R_alloc | apply Kd.R_drewN | apply Kd.R_drew)); exact HO_585001.out⟩, ⟨by (with_reducible repeat (first | apply Kd.R_alloc | apply Kd.R_drewN | apply Kd.R_drew)); exact HO_585002.out⟩, ⟨by (with_reducible repeat (first | apply Kd.R_alloc | apply Kd.R_drewN | apply Kd.R_drew)); exact HO_586000.out⟩, ⟨by (with_reducible repeat (first | apply Kd.R_alloc | apply Kd.R_drewN | apply Kd.R_drew)); exact HO_586001.out⟩, ⟨by (with_reducible repeat (first | apply Kd.R_alloc | apply Kd.R_drewN | apply Kd.R_drew)); exact HO_586002.out⟩, ⟨by (with_reducible repeat (first | refine blk_drewN ?_ _ | refine blk_drew ?_ | refine blk_alloc ?_ _)); exact BK553.out⟩, ⟨by (with_reducible repeat (first | refine blk_drewN ?_ _ | refine blk_drew ?_ | refine blk_alloc ?_ _)); exact BK584.out⟩, ⟨by (with_reducible repeat (first | refine blk_drewN ?_ _ | refine blk_drew ?_ | refine blk_alloc ?_ _)); exact BK585.out⟩, ⟨by repeat (first | (with_reducible first | exact HB.out | apply below_alloc | apply pw_below_drewN | apply below_drew1 | refine below_set ?_ GE553.out | refine below_set ?_ GE584.out | refine below_set ?_ GE585.out) | exact HB.out)⟩⟩
                  · rw [if_neg c67] at H
                    have c67b0 : decide (t591 < 1) = false := decide_eq_false c67
                    clear c67
                    replace H := Option.bind_eq_some_iff.mp H
                    obtain ⟨t592, A810, H⟩ := H
                    replace H : (bazaarlaw06_NodeHalves.j1 kj4 t554 t573 (decide (t592 < 1)) t564 t567 t570 t574 t577 t580) = some r := H
                    have A81 := Aside0.mk A810
                    clear A810
                    have e_ : t592 = t590 := Option.some.inj (A81.out.symm.trans A53.out)
                    subst e_
                    have H' := Aside0.mk H
                    clear H
                    have hnb82 := NB584_553.out
                    have hnc82 := NB553_584.out
                    have hnb83 := NB584_585.out
                    have hnc83 := NB585_584.out
                    have hcz84_0 : wc.cell? ⟨gb584, 0, none⟩ = some (.slice Ao17 t564.length co17) := (blk_cell BK584.out 0).trans rfl
                    have hcz84_1 : wc.cell? ⟨gb584, 1, none⟩ = some (.slice Ao21 t567.length co21) := (blk_cell BK584.out 1).trans rfl
                    have hcz84_2 : wc.cell? ⟨gb584, 2, none⟩ = some (.slice Ao22 t570.length co22) := (blk_cell BK584.out 2).trans rfl
                    have hfz84_0 := blk_frozen BK584.out 0
                    have hfz84_1 := blk_frozen BK584.out 1
                    have hfz84_2 := blk_frozen BK584.out 2
                    go_wp2_with (first | ((with_reducible refine gate_callee (f := 14) rfl ?_); refine goesL_ (some 37) rfl rfl Try.func14 (by kernel_rfl) rfl #[.agg #[.slice Ao17 t564.length co17, .slice Ao21 t567.length co21, .slice Ao22 t570.length co22]] rfl (by (try simp only [List.map_toArray, List.map_cons, List.map_nil]); first | done | rfl | (simp only [List.length_drop, List.length_take]; rfl)) ?_; (with_reducible refine (node_Right.calls kj4 _ _ t564 _ _ t567 _ _ t570 true _ ?side1 ?side2 ?side3 ?side4 ?side5 ?side6 A38.out).mono ?_); (case side1 => repeat (first | exact (Kd.R_reads' HO_585000.out).2.2 | (with_reducible refine Kd.C_alloc ?_ _) | (with_reducible refine Kd.C_drewN ?_ _) | (with_reducible refine Kd.C_drew ?_))); (case side2 => exact (Kd.R_reads' HO_585000.out).2.1); (case side3 => repeat (first | exact (Kd.R_reads' HO_585001.out).2.2 | (with_reducible refine Kd.C_alloc ?_ _) | (with_reducible refine Kd.C_drewN ?_ _) | (with_reducible refine Kd.C_drew ?_))); (case side4 => exact (Kd.R_reads' HO_585001.out).2.1); (case side5 => repeat (first | exact (Kd.R_reads' HO_585002.out).2.2 | (with_reducible refine Kd.C_alloc ?_ _) | (with_reducible refine Kd.C_drewN ?_ _) | (with_reducible refine Kd.C_drew ?_))); (case side6 => exact (Kd.R_reads' HO_585002.out).2.1); rintro e w85 ⟨rfl, hb⟩; refine ⟨_, rfl, ?_⟩; replace HO_554000 := Aside0.mk (Kd.R_below (R_ HO_554000.out) hb); replace HO_554001 := Aside0.mk (Kd.R_below (R_ HO_554001.out) hb); replace HO_554002 := Aside0.mk (Kd.R_below (R_ HO_554002.out) hb); replace HO_585000 := Aside0.mk (Kd.R_below (R_ HO_585000.out) hb); replace HO_585001 := Aside0.mk (Kd.R_below (R_ HO_585001.out) hb); replace HO_585002 := Aside0.mk (Kd.R_below (R_ HO_585002.out) hb); replace HO_586000 := Aside0.mk (Kd.R_below (R_ HO_586000.out) hb); replace HO_586001 := Aside0.mk (Kd.R_below (R_ HO_586001.out) hb); replace HO_586002 := Aside0.mk (Kd.R_below (R_ HO_586002.out) hb); replace BK553 := Aside0.mk (blk_below (g := gb553) (o := .cells #[.slice Ao10 t555.length co10, .slice Ao12 t558.length co12, .slice Ao13 t561.length co13] 26 (0, 0)) (B_ BK553.out) hb); replace BK584 := Aside0.mk (blk_below (g := gb584) (o := .cells #[.slice Ao17 t564.length co17, .slice Ao21 t567.length co21, .slice Ao22 t570.length co22] 26 (0, 0)) (B_ BK584.out) hb); replace BK585 := Aside0.mk (blk_below (g := gb585) (o := .cells #[.slice Ao23 t574.length co23, .slice Ao26 t577.length co26, .slice Ao27 t580.length co27] 26 (0, 0)) (B_ BK585.out) hb); replace HB := Aside0.mk (below_step (L_ HB.out) hb); (try clear hb); (try clear hb2); (try clear hk); (try clear hi); have hnb86 := NB585_553.out; have hnc86 := NB553_585.out; have hcz87_0 : w85.cell? ⟨gb585, 0, none⟩ = some (.slice Ao23 t574.length co23) := (blk_cell BK585.out 0).trans rfl; have hcz87_1 : w85.cell? ⟨gb585, 1, none⟩ = some (.slice Ao26 t577.length co26) := (blk_cell BK585.out 1).trans rfl; have hcz87_2 : w85.cell? ⟨gb585, 2, none⟩ = some (.slice Ao27 t580.length co27) := (blk_cell BK585.out 2).trans rfl; have hfz87_0 := blk_frozen BK585.out 0; have hfz87_1 := blk_frozen BK585.out 1; have hfz87_2 := blk_frozen BK585.out 2) | (go_at_call 14; (with_reducible refine (node_Right.calls kj4 _ _ t574 _ _ t577 _ _ t580 true _ ?side1 ?side2 ?side3 ?side4 ?side5 ?side6 A40.out).mono ?_); (case side1 => repeat (first | exact (Kd.R_reads' HO_586000.out).2.2 | (with_reducible refine Kd.C_alloc ?_ _) | (with_reducible refine Kd.C_drewN ?_ _) | (with_reducible refine Kd.C_drew ?_))); (case side2 => exact (Kd.R_reads' HO_586000.out).2.1); (case side3 => repeat (first | exact (Kd.R_reads' HO_586001.out).2.2 | (with_reducible refine Kd.C_alloc ?_ _) | (with_reducible refine Kd.C_drewN ?_ _) | (with_reducible refine Kd.C_drew ?_))); (case side4 => exact (Kd.R_reads' HO_586001.out).2.1); (case side5 => repeat (first | exact (Kd.R_reads' HO_586002.out).2.2 | (with_reducible refine Kd.C_alloc ?_ _) | (with_reducible refine Kd.C_drewN ?_ _) | (with_reducible refine Kd.C_drew ?_))); (case side6 => exact (Kd.R_reads' HO_586002.out).2.1); rintro e w88 ⟨rfl, hb⟩; replace HO_554000 := Aside0.mk (Kd.R_below (R_ HO_554000.out) hb); replace HO_554001 := Aside0.mk (Kd.R_below (R_ HO_554001.out) hb); replace HO_554002 := Aside0.mk (Kd.R_below (R_ HO_554002.out) hb); replace HO_585000 := Aside0.mk (Kd.R_below (R_ HO_585000.out) hb); replace HO_585001 := Aside0.mk (Kd.R_below (R_ HO_585001.out) hb); replace HO_585002 := Aside0.mk (Kd.R_below (R_ HO_585002.out) hb); replace HO_586000 := Aside0.mk (Kd.R_below (R_ HO_586000.out) hb); replace HO_586001 := Aside0.mk (Kd.R_below (R_ HO_586001.out) hb); replace HO_586002 := Aside0.mk (Kd.R_below (R_ HO_586002.out) hb); replace BK553 := Aside0.mk (blk_below (g := gb553) (o := .cells #[.slice Ao10 t555.length co10, .slice Ao12 t558.length co12, .slice Ao13 t561.length co13] 26 (0, 0)) (B_ BK553.out) hb); replace BK584 := Aside0.mk (blk_below (g := gb584) (o := .cells #[.slice Ao17 t564.length co17, .slice Ao21 t567.length co21, .slice Ao22 t570.length co22] 26 (0, 0)) (B_ BK584.out) hb); replace BK585 := Aside0.mk (blk_below (g := gb585) (o := .cells #[.slice Ao23 t574.length co23, .slice Ao26 t577.length co26, .slice Ao27 t580.length co27] 26 (0, 0)) (B_ BK585.out) hb); replace HB := Aside0.mk (below_step (L_ HB.out) hb); (try clear hb); (try clear hb2); (try clear hk); (try clear hi); have hcz89_0 : w88.cell? ⟨gb584, 0, none⟩ = some (.slice Ao17 t564.length co17) := (blk_cell BK584.out 0).trans rfl; have hcz89_1 : w88.cell? ⟨gb584, 1, none⟩ = some (.slice Ao21 t567.length co21) := (blk_cell BK584.out 1).trans rfl; have hcz89_2 : w88.cell? ⟨gb584, 2, none⟩ = some (.slice Ao22 t570.length co22) := (blk_cell BK584.out 2).trans rfl; have hfz89_0 := blk_frozen BK584.out 0; have hfz89_1 := blk_frozen BK584.out 1; have hfz89_2 := blk_frozen BK584.out 2) | (go_at_call 16; (with_reducible refine (node_Size.calls _ _ t564 _ _ t567 _ _ t570 t591 _ ?side1 ?side2 ?side3 ?side4 ?side5 ?side6 A42.out).mono ?_); (case side1 => repeat (first | exact (Kd.R_reads' HO_585000.out).2.2 | (with_reducible refine Kd.C_alloc ?_ _) | (with_reducible refine Kd.C_drewN ?_ _) | (with_reducible refine Kd.C_drew ?_))); (case side2 => exact (Kd.R_reads' HO_585000.out).2.1); (case side3 => repeat (first | exact (Kd.R_reads' HO_585001.out).2.2 | (with_reducible refine Kd.C_alloc ?_ _) | (with_reducible refine Kd.C_drewN ?_ _) | (with_reducible refine Kd.C_drew ?_))); (case side4 => exact (Kd.R_reads' HO_585001.out).2.1); (case side5 => repeat (first | exact (Kd.R_reads' HO_585002.out).2.2 | (with_reducible refine Kd.C_alloc ?_ _) | (with_reducible refine Kd.C_drewN ?_ _) | (with_reducible refine Kd.C_drew ?_))); (case side6 => exact (Kd.R_reads' HO_585002.out).2.1); rintro e w90 ⟨rfl, hb⟩; replace HO_554000 := Aside0.mk (Kd.R_below (R_ HO_554000.out) hb); replace HO_554001 := Aside0.mk (Kd.R_below (R_ HO_554001.out) hb); replace HO_554002 := Aside0.mk (Kd.R_below (R_ HO_554002.out) hb); replace HO_585000 := Aside0.mk (Kd.R_below (R_ HO_585000.out) hb); replace HO_585001 := Aside0.mk (Kd.R_below (R_ HO_585001.out) hb); replace HO_585002 := Aside0.mk (Kd.R_below (R_ HO_585002.out) hb); replace HO_586000 := Aside0.mk (Kd.R_below (R_ HO_586000.out) hb); replace HO_586001 := Aside0.mk (Kd.R_below (R_ HO_586001.out) hb); replace HO_586002 := Aside0.mk (Kd.R_below (R_ HO_586002.out) hb); replace BK553 := Aside0.mk (blk_below (g := gb553) (o := .cells #[.slice Ao10 t555.length co10, .slice Ao12 t558.length co12, .slice Ao13 t561.length co13] 26 (0, 0)) (B_ BK553.out) hb); replace BK584 := Aside0.mk (blk_below (g := gb584) (o := .cells #[.slice Ao17 t564.length co17, .slice Ao21 t567.length co21, .slice Ao22 t570.length co22] 26 (0, 0)) (B_ BK584.out) hb); replace BK585 := Aside0.mk (blk_below (g := gb585) (o := .cells #[.slice Ao23 t574.length co23, .slice Ao26 t577.length co26, .slice Ao27 t580.length co27] 26 (0, 0)) (B_ BK585.out) hb); replace HB := Aside0.mk (below_step (L_ HB.out) hb); (try clear hb); (try clear hb2); (try clear hk); (try clear hi); have hcz91_0 : w90.cell? ⟨gb585, 0, none⟩ = some (.slice Ao23 t574.length co23) := (blk_cell BK585.out 0).trans rfl; have hcz91_1 : w90.cell? ⟨gb585, 1, none⟩ = some (.slice Ao26 t577.length co26) := (blk_cell BK585.out 1).trans rfl; have hcz91_2 : w90.cell? ⟨gb585, 2, none⟩ = some (.slice Ao27 t580.length co27) := (blk_cell BK585.out 2).trans rfl; have hfz91_0 := blk_frozen BK585.out 0; have hfz91_1 := blk_frozen BK585.out 1; have hfz91_2 := blk_frozen BK585.out 2) | (go_at_call 16; (with_reducible refine (node_Size.calls _ _ t574 _ _ t577 _ _ t580 t592 _ ?side1 ?side2 ?side3 ?side4 ?side5 ?side6 A53.out).mono ?_); (case side1 => repeat (first | exact (Kd.R_reads' HO_586000.out).2.2 | (with_reducible refine Kd.C_alloc ?_ _) | (with_reducible refine Kd.C_drewN ?_ _) | (with_reducible refine Kd.C_drew ?_))); (case side2 => exact (Kd.R_reads' HO_586000.out).2.1); (case side3 => repeat (first | exact (Kd.R_reads' HO_586001.out).2.2 | (with_reducible refine Kd.C_alloc ?_ _) | (with_reducible refine Kd.C_drewN ?_ _) | (with_reducible refine Kd.C_drew ?_))); (case side4 => exact (Kd.R_reads' HO_586001.out).2.1); (case side5 => repeat (first | exact (Kd.R_reads' HO_586002.out).2.2 | (with_reducible refine Kd.C_alloc ?_ _) | (with_reducible refine Kd.C_drewN ?_ _) | (with_reducible refine Kd.C_drew ?_))); (case side6 => exact (Kd.R_reads' HO_586002.out).2.1); rintro e w92 ⟨rfl, hb⟩; replace HO_554000 := Aside0.mk (Kd.R_below (R_ HO_554000.out) hb); replace HO_554001 := Aside0.mk (Kd.R_below (R_ HO_554001.out) hb); replace HO_554002 := Aside0.mk (Kd.R_below (R_ HO_554002.out) hb); replace HO_585000 := Aside0.mk (Kd.R_below (R_ HO_585000.out) hb); replace HO_585001 := Aside0.mk (Kd.R_below (R_ HO_585001.out) hb); replace HO_585002 := Aside0.mk (Kd.R_below (R_ HO_585002.out) hb); replace HO_586000 := Aside0.mk (Kd.R_below (R_ HO_586000.out) hb); replace HO_586001 := Aside0.mk (Kd.R_below (R_ HO_586001.out) hb); replace HO_586002 := Aside0.mk (Kd.R_below (R_ HO_586002.out) hb); replace BK553 := Aside0.mk (blk_below (g := gb553) (o := .cells #[.slice Ao10 t555.length co10, .slice Ao12 t558.length co12, .slice Ao13 t561.length co13] 26 (0, 0)) (B_ BK553.out) hb); replace BK584 := Aside0.mk (blk_below (g := gb584) (o := .cells #[.slice Ao17 t564.length co17, .slice Ao21 t567.length co21, .slice Ao22 t570.length co22] 26 (0, 0)) (B_ BK584.out) hb); replace BK585 := Aside0.mk (blk_below (g := gb585) (o := .cells #[.slice Ao23 t574.length co23, .slice Ao26 t577.length co26, .slice Ao27 t580.length co27] 26 (0, 0)) (B_ BK585.out) hb); replace HB := Aside0.mk (below_step (L_ HB.out) hb); (try clear hb); (try clear hb2); (try clear hk); (try clear hi); have hcz93_0 : w92.cell? ⟨gb584, 0, none⟩ = some (.slice Ao17 t564.length co17) := (blk_cell BK584.out 0).trans rfl; have hcz93_1 : w92.cell? ⟨gb584, 1, none⟩ = some (.slice Ao21 t567.length co21) := (blk_cell BK584.out 1).trans rfl; have hcz93_2 : w92.cell? ⟨gb584, 2, none⟩ = some (.slice Ao22 t570.length co22) := (blk_cell BK584.out 2).trans rfl; have hfz93_0 := blk_frozen BK584.out 0; have hfz93_1 := blk_frozen BK584.out 1; have hfz93_2 := blk_frozen BK584.out 2) | (go_at_call 16; (with_reducible refine (node_Size.calls _ _ t564 _ _ t567 _ _ t570 t591 _ ?side1 ?side2 ?side3 ?side4 ?side5 ?side6 A66.out).mono ?_); (case side1 => repeat (first | exact (Kd.R_reads' HO_585000.out).2.2 | (with_reducible refine Kd.C_alloc ?_ _) | (with_reducible refine Kd.C_drewN ?_ _) | (with_reducible refine Kd.C_drew ?_))); (case side2 => exact (Kd.R_reads' HO_585000.out).2.1); (case side3 => repeat (first | exact (Kd.R_reads' HO_585001.out).2.2 | (with_reducible refine Kd.C_alloc ?_ _) | (with_reducible refine Kd.C_drewN ?_ _) | (with_reducible refine Kd.C_drew ?_))); (case side4 => exact (Kd.R_reads' HO_585001.out).2.1); (case side5 => repeat (first | exact (Kd.R_reads' HO_585002.out).2.2 | (with_reducible refine Kd.C_alloc ?_ _) | (with_reducible refine Kd.C_drewN ?_ _) | (with_reducible refine Kd.C_drew ?_))); (case side6 => exact (Kd.R_reads' HO_585002.out).2.1); rintro e w94 ⟨rfl, hb⟩; replace HO_554000 := Aside0.mk (Kd.R_below (R_ HO_554000.out) hb); replace HO_554001 := Aside0.mk (Kd.R_below (R_ HO_554001.out) hb); replace HO_554002 := Aside0.mk (Kd.R_below (R_ HO_554002.out) hb); replace HO_585000 := Aside0.mk (Kd.R_below (R_ HO_585000.out) hb); replace HO_585001 := Aside0.mk (Kd.R_below (R_ HO_585001.out) hb); replace HO_585002 := Aside0.mk (Kd.R_below (R_ HO_585002.out) hb); replace HO_586000 := Aside0.mk (Kd.R_below (R_ HO_586000.out) hb); replace HO_586001 := Aside0.mk (Kd.R_below (R_ HO_586001.out) hb); replace HO_586002 := Aside0.mk (Kd.R_below (R_ HO_586002.out) hb); replace BK553 := Aside0.mk (blk_below (g := gb553) (o := .cells #[.slice Ao10 t555.length co10, .slice Ao12 t558.length co12, .slice Ao13 t561.length co13] 26 (0, 0)) (B_ BK553.out) hb); replace BK584 := Aside0.mk (blk_below (g := gb584) (o := .cells #[.slice Ao17 t564.length co17, .slice Ao21 t567.length co21, .slice Ao22 t570.length co22] 26 (0, 0)) (B_ BK584.out) hb); replace BK585 := Aside0.mk (blk_below (g := gb585) (o := .cells #[.slice Ao23 t574.length co23, .slice Ao26 t577.length co26, .slice Ao27 t580.length co27] 26 (0, 0)) (B_ BK585.out) hb); replace HB := Aside0.mk (below_step (L_ HB.out) hb); (try clear hb); (try clear hb2); (try clear hk); (try clear hi); have hcz95_0 : w94.cell? ⟨gb585, 0, none⟩ = some (.slice Ao23 t574.length co23) := (blk_cell BK585.out 0).trans rfl; have hcz95_1 : w94.cell? ⟨gb585, 1, none⟩ = some (.slice Ao26 t577.length co26) := (blk_cell BK585.out 1).trans rfl; have hcz95_2 : w94.cell? ⟨gb585, 2, none⟩ = some (.slice Ao27 t580.length co27) := (blk_cell BK585.out 2).trans rfl; have hfz95_0 := blk_frozen BK585.out 0; have hfz95_1 := blk_frozen BK585.out 1; have hfz95_2 := blk_frozen BK585.out 2) | (go_at_call 16; (with_reducible refine (node_Size.calls _ _ t574 _ _ t577 _ _ t580 t592 _ ?side1 ?side2 ?side3 ?side4 ?side5 ?side6 A81.out).mono ?_); (case side1 => repeat (first | exact (Kd.R_reads' HO_586000.out).2.2 | (with_reducible refine Kd.C_alloc ?_ _) | (with_reducible refine Kd.C_drewN ?_ _) | (with_reducible refine Kd.C_drew ?_))); (case side2 => exact (Kd.R_reads' HO_586000.out).2.1); (case side3 => repeat (first | exact (Kd.R_reads' HO_586001.out).2.2 | (with_reducible refine Kd.C_alloc ?_ _) | (with_reducible refine Kd.C_drewN ?_ _) | (with_reducible refine Kd.C_drew ?_))); (case side4 => exact (Kd.R_reads' HO_586001.out).2.1); (case side5 => repeat (first | exact (Kd.R_reads' HO_586002.out).2.2 | (with_reducible refine Kd.C_alloc ?_ _) | (with_reducible refine Kd.C_drewN ?_ _) | (with_reducible refine Kd.C_drew ?_))); (case side6 => exact (Kd.R_reads' HO_586002.out).2.1); rintro e w96 ⟨rfl, hb⟩; replace HO_554000 := Aside0.mk (Kd.R_below (R_ HO_554000.out) hb); replace HO_554001 := Aside0.mk (Kd.R_below (R_ HO_554001.out) hb); replace HO_554002 := Aside0.mk (Kd.R_below (R_ HO_554002.out) hb); replace HO_585000 := Aside0.mk (Kd.R_below (R_ HO_585000.out) hb); replace HO_585001 := Aside0.mk (Kd.R_below (R_ HO_585001.out) hb); replace HO_585002 := Aside0.mk (Kd.R_below (R_ HO_585002.out) hb); replace HO_586000 := Aside0.mk (Kd.R_below (R_ HO_586000.out) hb); replace HO_586001 := Aside0.mk (Kd.R_below (R_ HO_586001.out) hb); replace HO_586002 := Aside0.mk (Kd.R_below (R_ HO_586002.out) hb); replace BK553 := Aside0.mk (blk_below (g := gb553) (o := .cells #[.slice Ao10 t555.length co10, .slice Ao12 t558.length co12, .slice Ao13 t561.length co13] 26 (0, 0)) (B_ BK553.out) hb); replace BK584 := Aside0.mk (blk_below (g := gb584) (o := .cells #[.slice Ao17 t564.length co17, .slice Ao21 t567.length co21, .slice Ao22 t570.length co22] 26 (0, 0)) (B_ BK584.out) hb); replace BK585 := Aside0.mk (blk_below (g := gb585) (o := .cells #[.slice Ao23 t574.length co23, .slice Ao26 t577.length co26, .slice Ao27 t580.length co27] 26 (0, 0)) (B_ BK585.out) hb); replace HB := Aside0.mk (below_step (L_ HB.out) hb); (try clear hb); (try clear hb2); (try clear hk); (try clear hi)))
                    go_meet
                    case rel => exact ⟨_, (decide (t592 < 1)), (by first | rfl | (simp; done) | (simp [*]; done)), H', ⟨by have := HJ4.out; first | omega | exact Nat.le_refl _⟩, ⟨by (with_reducible repeat (first | apply Kd.R_alloc | apply Kd.R_drewN | apply Kd.R_drew)); exact HO_554000.out⟩, ⟨by (with_reducible repeat (first | apply Kd.R_alloc | apply Kd.R_drewN | apply Kd.R_drew)); exact HO_554001.out⟩, ⟨by (with_reducible repeat (first | apply Kd.R_alloc | apply Kd.R_drewN | apply Kd.R_drew)); exact HO_554002.out⟩, ⟨by (with_reducible repeat (first | apply Kd.R_alloc | apply Kd.R_drewN | apply Kd.R_drew)); exact HO_585000.out⟩, ⟨by (with_reducible repeat (first | apply Kd.R_alloc | apply Kd.R_drewN | apply Kd.R_drew)); exact HO_585001.out⟩, ⟨by (with_reducible repeat (first | apply Kd.R_alloc | apply Kd.R_drewN | apply Kd.R_drew)); exact HO_585002.out⟩, ⟨by (with_reducible repeat (first | apply Kd.R_alloc | apply Kd.R_drewN | apply Kd.R_drew)); exact HO_586000.out⟩, ⟨by (with_reducible repeat (first | apply Kd.R_alloc | apply Kd.R_drewN | apply Kd.R_drew)); exact HO_586001.out⟩, ⟨by (with_reducible repeat (first | apply Kd.R_alloc | apply Kd.R_drewN | apply Kd.R_drew)); exact HO_586002.out⟩, ⟨by (with_reducible repeat (first | refine blk_drewN ?_ _ | refine blk_drew ?_ | refine blk_alloc ?_ _)); exact BK553.out⟩, ⟨by (with_reducible repeat (first | refine blk_drewN ?_ _ | refine blk_drew ?_ | refine blk_alloc ?_ _)); exact BK584.out⟩, ⟨by (with_reducible repeat (first | refine blk_drewN ?_ _ | refine blk_drew ?_ | refine blk_alloc ?_ _)); exact BK585.out⟩, ⟨by repeat (first | (with_reducible first | exact HB.out | apply below_alloc | apply pw_below_drewN | apply below_drew1 | refine below_set ?_ GE553.out | refine below_set ?_ GE584.out | refine below_set ?_ GE585.out) | exact HB.out)⟩⟩
            · replace c41 := Bool.eq_false_iff.mpr c41
              subst c41
              have H1 : (bazaarlaw06_NodeHalves.j1 kj4 t554 t573 true t564 t567 t570 t574 t577 t580) = some r := by rw [if_neg (show ¬ (false = true) by decide)] at H; exact H
              clear H
              have H := H1
              clear H1
              have H' := Aside0.mk H
              clear H
              have hnb97 := NB584_553.out
              have hnc97 := NB553_584.out
              have hnb98 := NB584_585.out
              have hnc98 := NB585_584.out
              have hcz99_0 : wc.cell? ⟨gb584, 0, none⟩ = some (.slice Ao17 t564.length co17) := (blk_cell BK584.out 0).trans rfl
              have hcz99_1 : wc.cell? ⟨gb584, 1, none⟩ = some (.slice Ao21 t567.length co21) := (blk_cell BK584.out 1).trans rfl
              have hcz99_2 : wc.cell? ⟨gb584, 2, none⟩ = some (.slice Ao22 t570.length co22) := (blk_cell BK584.out 2).trans rfl
              have hfz99_0 := blk_frozen BK584.out 0
              have hfz99_1 := blk_frozen BK584.out 1
              have hfz99_2 := blk_frozen BK584.out 2
              go_wp2_with (first | ((with_reducible refine gate_callee (f := 14) rfl ?_); refine goesL_ (some 37) rfl rfl Try.func14 (by kernel_rfl) rfl #[.agg #[.slice Ao17 t564.length co17, .slice Ao21 t567.length co21, .slice Ao22 t570.length co22]] rfl (by (try simp only [List.map_toArray, List.map_cons, List.map_nil]); first | done | rfl | (simp only [List.length_drop, List.length_take]; rfl)) ?_; (with_reducible refine (node_Right.calls kj4 _ _ t564 _ _ t567 _ _ t570 true _ ?side1 ?side2 ?side3 ?side4 ?side5 ?side6 A38.out).mono ?_); (case side1 => repeat (first | exact (Kd.R_reads' HO_585000.out).2.2 | (with_reducible refine Kd.C_alloc ?_ _) | (with_reducible refine Kd.C_drewN ?_ _) | (with_reducible refine Kd.C_drew ?_))); (case side2 => exact (Kd.R_reads' HO_585000.out).2.1); (case side3 => repeat (first | exact (Kd.R_reads' HO_585001.out).2.2 | (with_reducible refine Kd.C_alloc ?_ _) | (with_reducible refine Kd.C_drewN ?_ _) | (with_reducible refine Kd.C_drew ?_))); (case side4 => exact (Kd.R_reads' HO_585001.out).2.1); (case side5 => repeat (first | exact (Kd.R_reads' HO_585002.out).2.2 | (with_reducible refine Kd.C_alloc ?_ _) | (with_reducible refine Kd.C_drewN ?_ _) | (with_reducible refine Kd.C_drew ?_))); (case side6 => exact (Kd.R_reads' HO_585002.out).2.1); rintro e w100 ⟨rfl, hb⟩; refine ⟨_, rfl, ?_⟩; replace HO_554000 := Aside0.mk (Kd.R_below (R_ HO_554000.out) hb); replace HO_554001 := Aside0.mk (Kd.R_below (R_ HO_554001.out) hb); replace HO_554002 := Aside0.mk (Kd.R_below (R_ HO_554002.out) hb); replace HO_585000 := Aside0.mk (Kd.R_below (R_ HO_585000.out) hb); replace HO_585001 := Aside0.mk (Kd.R_below (R_ HO_585001.out) hb); replace HO_585002 := Aside0.mk (Kd.R_below (R_ HO_585002.out) hb); replace HO_586000 := Aside0.mk (Kd.R_below (R_ HO_586000.out) hb); replace HO_586001 := Aside0.mk (Kd.R_below (R_ HO_586001.out) hb); replace HO_586002 := Aside0.mk (Kd.R_below (R_ HO_586002.out) hb); replace BK553 := Aside0.mk (blk_below (g := gb553) (o := .cells #[.slice Ao10 t555.length co10, .slice Ao12 t558.length co12, .slice Ao13 t561.length co13] 26 (0, 0)) (B_ BK553.out) hb); replace BK584 := Aside0.mk (blk_below (g := gb584) (o := .cells #[.slice Ao17 t564.length co17, .slice Ao21 t567.length co21, .slice Ao22 t570.length co22] 26 (0, 0)) (B_ BK584.out) hb); replace BK585 := Aside0.mk (blk_below (g := gb585) (o := .cells #[.slice Ao23 t574.length co23, .slice Ao26 t577.length co26, .slice Ao27 t580.length co27] 26 (0, 0)) (B_ BK585.out) hb); replace HB := Aside0.mk (below_step (L_ HB.out) hb); (try clear hb); (try clear hb2); (try clear hk); (try clear hi); have hnb101 := NB585_553.out; have hnc101 := NB553_585.out; have hcz102_0 : w100.cell? ⟨gb585, 0, none⟩ = some (.slice Ao23 t574.length co23) := (blk_cell BK585.out 0).trans rfl; have hcz102_1 : w100.cell? ⟨gb585, 1, none⟩ = some (.slice Ao26 t577.length co26) := (blk_cell BK585.out 1).trans rfl; have hcz102_2 : w100.cell? ⟨gb585, 2, none⟩ = some (.slice Ao27 t580.length co27) := (blk_cell BK585.out 2).trans rfl; have hfz102_0 := blk_frozen BK585.out 0; have hfz102_1 := blk_frozen BK585.out 1; have hfz102_2 := blk_frozen BK585.out 2) | (go_at_call 14; (with_reducible refine (node_Right.calls kj4 _ _ t574 _ _ t577 _ _ t580 false _ ?side1 ?side2 ?side3 ?side4 ?side5 ?side6 A40.out).mono ?_); (case side1 => repeat (first | exact (Kd.R_reads' HO_586000.out).2.2 | (with_reducible refine Kd.C_alloc ?_ _) | (with_reducible refine Kd.C_drewN ?_ _) | (with_reducible refine Kd.C_drew ?_))); (case side2 => exact (Kd.R_reads' HO_586000.out).2.1); (case side3 => repeat (first | exact (Kd.R_reads' HO_586001.out).2.2 | (with_reducible refine Kd.C_alloc ?_ _) | (with_reducible refine Kd.C_drewN ?_ _) | (with_reducible refine Kd.C_drew ?_))); (case side4 => exact (Kd.R_reads' HO_586001.out).2.1); (case side5 => repeat (first | exact (Kd.R_reads' HO_586002.out).2.2 | (with_reducible refine Kd.C_alloc ?_ _) | (with_reducible refine Kd.C_drewN ?_ _) | (with_reducible refine Kd.C_drew ?_))); (case side6 => exact (Kd.R_reads' HO_586002.out).2.1); rintro e w103 ⟨rfl, hb⟩; replace HO_554000 := Aside0.mk (Kd.R_below (R_ HO_554000.out) hb); replace HO_554001 := Aside0.mk (Kd.R_below (R_ HO_554001.out) hb); replace HO_554002 := Aside0.mk (Kd.R_below (R_ HO_554002.out) hb); replace HO_585000 := Aside0.mk (Kd.R_below (R_ HO_585000.out) hb); replace HO_585001 := Aside0.mk (Kd.R_below (R_ HO_585001.out) hb); replace HO_585002 := Aside0.mk (Kd.R_below (R_ HO_585002.out) hb); replace HO_586000 := Aside0.mk (Kd.R_below (R_ HO_586000.out) hb); replace HO_586001 := Aside0.mk (Kd.R_below (R_ HO_586001.out) hb); replace HO_586002 := Aside0.mk (Kd.R_below (R_ HO_586002.out) hb); replace BK553 := Aside0.mk (blk_below (g := gb553) (o := .cells #[.slice Ao10 t555.length co10, .slice Ao12 t558.length co12, .slice Ao13 t561.length co13] 26 (0, 0)) (B_ BK553.out) hb); replace BK584 := Aside0.mk (blk_below (g := gb584) (o := .cells #[.slice Ao17 t564.length co17, .slice Ao21 t567.length co21, .slice Ao22 t570.length co22] 26 (0, 0)) (B_ BK584.out) hb); replace BK585 := Aside0.mk (blk_below (g := gb585) (o := .cells #[.slice Ao23 t574.length co23, .slice Ao26 t577.length co26, .slice Ao27 t580.length co27] 26 (0, 0)) (B_ BK585.out) hb); replace HB := Aside0.mk (below_step (L_ HB.out) hb); (try clear hb); (try clear hb2); (try clear hk); (try clear hi)))
              go_meet
              case rel => exact ⟨_, (true), (by first | rfl | (simp; done) | (simp [*]; done)), H', ⟨by have := HJ4.out; first | omega | exact Nat.le_refl _⟩, ⟨by (with_reducible repeat (first | apply Kd.R_alloc | apply Kd.R_drewN | apply Kd.R_drew)); exact HO_554000.out⟩, ⟨by (with_reducible repeat (first | apply Kd.R_alloc | apply Kd.R_drewN | apply Kd.R_drew)); exact HO_554001.out⟩, ⟨by (with_reducible repeat (first | apply Kd.R_alloc | apply Kd.R_drewN | apply Kd.R_drew)); exact HO_554002.out⟩, ⟨by (with_reducible repeat (first | apply Kd.R_alloc | apply Kd.R_drewN | apply Kd.R_drew)); exact HO_585000.out⟩, ⟨by (with_reducible repeat (first | apply Kd.R_alloc | apply Kd.R_drewN | apply Kd.R_drew)); exact HO_585001.out⟩, ⟨by (with_reducible repeat (first | apply Kd.R_alloc | apply Kd.R_drewN | apply Kd.R_drew)); exact HO_585002.out⟩, ⟨by (with_reducible repeat (first | apply Kd.R_alloc | apply Kd.R_drewN | apply Kd.R_drew)); exact HO_586000.out⟩, ⟨by (with_reducible repeat (first | apply Kd.R_alloc | apply Kd.R_drewN | apply Kd.R_drew)); exact HO_586001.out⟩, ⟨by (with_reducible repeat (first | apply Kd.R_alloc | apply Kd.R_drewN | apply Kd.R_drew)); exact HO_586002.out⟩, ⟨by (with_reducible repeat (first | refine blk_drewN ?_ _ | refine blk_drew ?_ | refine blk_alloc ?_ _)); exact BK553.out⟩, ⟨by (with_reducible repeat (first | refine blk_drewN ?_ _ | refine blk_drew ?_ | refine blk_alloc ?_ _)); exact BK584.out⟩, ⟨by (with_reducible repeat (first | refine blk_drewN ?_ _ | refine blk_drew ?_ | refine blk_alloc ?_ _)); exact BK585.out⟩, ⟨by repeat (first | (with_reducible first | exact HB.out | apply below_alloc | apply pw_below_drewN | apply below_drew1 | refine below_set ?_ GE553.out | refine below_set ?_ GE584.out | refine below_set ?_ GE585.out) | exact HB.out)⟩⟩
          · replace c39 := Bool.eq_false_iff.mpr c39
            subst c39
            have H1 : (bazaarlaw06_NodeHalves.j1 kj4 t554 t573 true t564 t567 t570 t574 t577 t580) = some r := by rw [if_neg (show ¬ (false = true) by decide)] at H; exact H
            clear H
            have H := H1
            clear H1
            have H' := Aside0.mk H
            clear H
            have hnb104 := NB584_553.out
            have hnc104 := NB553_584.out
            have hnb105 := NB584_585.out
            have hnc105 := NB585_584.out
            have hcz106_0 : wc.cell? ⟨gb584, 0, none⟩ = some (.slice Ao17 t564.length co17) := (blk_cell BK584.out 0).trans rfl
            have hcz106_1 : wc.cell? ⟨gb584, 1, none⟩ = some (.slice Ao21 t567.length co21) := (blk_cell BK584.out 1).trans rfl
            have hcz106_2 : wc.cell? ⟨gb584, 2, none⟩ = some (.slice Ao22 t570.length co22) := (blk_cell BK584.out 2).trans rfl
            have hfz106_0 := blk_frozen BK584.out 0
            have hfz106_1 := blk_frozen BK584.out 1
            have hfz106_2 := blk_frozen BK584.out 2
            go_wp2_with (first | ((with_reducible refine gate_callee (f := 14) rfl ?_); refine goesL_ (some 37) rfl rfl Try.func14 (by kernel_rfl) rfl #[.agg #[.slice Ao17 t564.length co17, .slice Ao21 t567.length co21, .slice Ao22 t570.length co22]] rfl (by (try simp only [List.map_toArray, List.map_cons, List.map_nil]); first | done | rfl | (simp only [List.length_drop, List.length_take]; rfl)) ?_; (with_reducible refine (node_Right.calls kj4 _ _ t564 _ _ t567 _ _ t570 false _ ?side1 ?side2 ?side3 ?side4 ?side5 ?side6 A38.out).mono ?_); (case side1 => repeat (first | exact (Kd.R_reads' HO_585000.out).2.2 | (with_reducible refine Kd.C_alloc ?_ _) | (with_reducible refine Kd.C_drewN ?_ _) | (with_reducible refine Kd.C_drew ?_))); (case side2 => exact (Kd.R_reads' HO_585000.out).2.1); (case side3 => repeat (first | exact (Kd.R_reads' HO_585001.out).2.2 | (with_reducible refine Kd.C_alloc ?_ _) | (with_reducible refine Kd.C_drewN ?_ _) | (with_reducible refine Kd.C_drew ?_))); (case side4 => exact (Kd.R_reads' HO_585001.out).2.1); (case side5 => repeat (first | exact (Kd.R_reads' HO_585002.out).2.2 | (with_reducible refine Kd.C_alloc ?_ _) | (with_reducible refine Kd.C_drewN ?_ _) | (with_reducible refine Kd.C_drew ?_))); (case side6 => exact (Kd.R_reads' HO_585002.out).2.1); rintro e w107 ⟨rfl, hb⟩; refine ⟨_, rfl, ?_⟩; replace HO_554000 := Aside0.mk (Kd.R_below (R_ HO_554000.out) hb); replace HO_554001 := Aside0.mk (Kd.R_below (R_ HO_554001.out) hb); replace HO_554002 := Aside0.mk (Kd.R_below (R_ HO_554002.out) hb); replace HO_585000 := Aside0.mk (Kd.R_below (R_ HO_585000.out) hb); replace HO_585001 := Aside0.mk (Kd.R_below (R_ HO_585001.out) hb); replace HO_585002 := Aside0.mk (Kd.R_below (R_ HO_585002.out) hb); replace HO_586000 := Aside0.mk (Kd.R_below (R_ HO_586000.out) hb); replace HO_586001 := Aside0.mk (Kd.R_below (R_ HO_586001.out) hb); replace HO_586002 := Aside0.mk (Kd.R_below (R_ HO_586002.out) hb); replace BK553 := Aside0.mk (blk_below (g := gb553) (o := .cells #[.slice Ao10 t555.length co10, .slice Ao12 t558.length co12, .slice Ao13 t561.length co13] 26 (0, 0)) (B_ BK553.out) hb); replace BK584 := Aside0.mk (blk_below (g := gb584) (o := .cells #[.slice Ao17 t564.length co17, .slice Ao21 t567.length co21, .slice Ao22 t570.length co22] 26 (0, 0)) (B_ BK584.out) hb); replace BK585 := Aside0.mk (blk_below (g := gb585) (o := .cells #[.slice Ao23 t574.length co23, .slice Ao26 t577.length co26, .slice Ao27 t580.length co27] 26 (0, 0)) (B_ BK585.out) hb); replace HB := Aside0.mk (below_step (L_ HB.out) hb); (try clear hb); (try clear hb2); (try clear hk); (try clear hi)))
            go_meet
            case rel => exact ⟨_, (true), (by first | rfl | (simp; done) | (simp [*]; done)), H', ⟨by have := HJ4.out; first | omega | exact Nat.le_refl _⟩, ⟨by (with_reducible repeat (first | apply Kd.R_alloc | apply Kd.R_drewN | apply Kd.R_drew)); exact HO_554000.out⟩, ⟨by (with_reducible repeat (first | apply Kd.R_alloc | apply Kd.R_drewN | apply Kd.R_drew)); exact HO_554001.out⟩, ⟨by (with_reducible repeat (first | apply Kd.R_alloc | apply Kd.R_drewN | apply Kd.R_drew)); exact HO_554002.out⟩, ⟨by (with_reducible repeat (first | apply Kd.R_alloc | apply Kd.R_drewN | apply Kd.R_drew)); exact HO_585000.out⟩, ⟨by (with_reducible repeat (first | apply Kd.R_alloc | apply Kd.R_drewN | apply Kd.R_drew)); exact HO_585001.out⟩, ⟨by (with_reducible repeat (first | apply Kd.R_alloc | apply Kd.R_drewN | apply Kd.R_drew)); exact HO_585002.out⟩, ⟨by (with_reducible repeat (first | apply Kd.R_alloc | apply Kd.R_drewN | apply Kd.R_drew)); exact HO_586000.out⟩, ⟨by (with_reducible repeat (first | apply Kd.R_alloc | apply Kd.R_drewN | apply Kd.R_drew)); exact HO_586001.out⟩, ⟨by (with_reducible repeat (first | apply Kd.R_alloc | apply Kd.R_drewN | apply Kd.R_drew)); exact HO_586002.out⟩, ⟨by (with_reducible repeat (first | refine blk_drewN ?_ _ | refine blk_drew ?_ | refine blk_alloc ?_ _)); exact BK553.out⟩, ⟨by (with_reducible repeat (first | refine blk_drewN ?_ _ | refine blk_drew ?_ | refine blk_alloc ?_ _)); exact BK584.out⟩, ⟨by (with_reducible repeat (first | refine blk_drewN ?_ _ | refine blk_drew ?_ | refine blk_alloc ?_ _)); exact BK585.out⟩, ⟨by repeat (first | (with_reducible first | exact HB.out | apply below_alloc | apply pw_below_drewN | apply below_drew1 | refine below_set ?_ GE553.out | refine below_set ?_ GE584.out | refine below_set ?_ GE585.out) | exact HB.out)⟩⟩
        case rest =>
          clear HC37
          try clear c1
          try clear c2
          try clear p2
          try clear c3
          try clear c4
          try clear c5
          try clear c6
          try clear c7
          try clear c8
          try clear c9
          try clear c10
          try clear c11
          try clear c14
          try clear c18
          try clear c19
          try clear c24
          try clear c27
          try clear c28
          try clear c28b0
          try clear c28b1
          try clear c30
          try clear c31
          try clear c34
          try clear c35
          try clear c36
          try clear c36b0
          try clear c36b1
          try clear c39
          try clear c41
          try clear c43
          try clear c43b0
          try clear c44
          try clear c45
          try clear c48
          try clear c54
          try clear c54b0
          try clear c55
          try clear c56
          try clear c59
          try clear c67
          try clear c67b0
          try clear c68
          try clear c69
          try clear c72
          try clear c82
          try clear c83
          try clear c86
          try clear c97
          try clear c98
          try clear c101
          try clear c104
          try clear c105
          try clear hcz102_0
          try clear hcz102_1
          try clear hcz102_2
          try clear hcz106_0
          try clear hcz106_1
          try clear hcz106_2
          try clear hcz11_0
          try clear hcz11_1
          try clear hcz11_2
          try clear hcz20_0
          try clear hcz20_1
          try clear hcz20_2
          try clear hcz25_0
          try clear hcz25_1
          try clear hcz25_2
          try clear hcz32_0
          try clear hcz32_1
          try clear hcz32_2
          try clear hcz46_0
          try clear hcz46_1
          try clear hcz46_2
          try clear hcz49_0
          try clear hcz49_1
          try clear hcz49_2
          try clear hcz51_0
          try clear hcz51_1
          try clear hcz51_2
          try clear hcz57_0
          try clear hcz57_1
          try clear hcz57_2
          try clear hcz60_0
          try clear hcz60_1
          try clear hcz60_2
          try clear hcz62_0
          try clear hcz62_1
          try clear hcz62_2
          try clear hcz64_0
          try clear hcz64_1
          try clear hcz64_2
          try clear hcz70_0
          try clear hcz70_1
          try clear hcz70_2
          try clear hcz73_0
          try clear hcz73_1
          try clear hcz73_2
          try clear hcz75_0
          try clear hcz75_1
          try clear hcz75_2
          try clear hcz77_0
          try clear hcz77_1
          try clear hcz77_2
          try clear hcz79_0
          try clear hcz79_1
          try clear hcz79_2
          try clear hcz84_0
          try clear hcz84_1
          try clear hcz84_2
          try clear hcz87_0
          try clear hcz87_1
          try clear hcz87_2
          try clear hcz89_0
          try clear hcz89_1
          try clear hcz89_2
          try clear hcz8_0
          try clear hcz8_1
          try clear hcz8_2
          try clear hcz91_0
          try clear hcz91_1
          try clear hcz91_2
          try clear hcz93_0
          try clear hcz93_1
          try clear hcz93_2
          try clear hcz95_0
          try clear hcz95_1
          try clear hcz95_2
          try clear hcz99_0
          try clear hcz99_1
          try clear hcz99_2
          try clear hfz102_0
          try clear hfz102_1
          try clear hfz102_2
          try clear hfz106_0
          try clear hfz106_1
          try clear hfz106_2
          try clear hfz11_0
          try clear hfz11_1
          try clear hfz11_2
          try clear hfz20_0
          try clear hfz20_1
          try clear hfz20_2
          try clear hfz25_0
          try clear hfz25_1
          try clear hfz25_2
          try clear hfz32_0
          try clear hfz32_1
          try clear hfz32_2
          try clear hfz46_0
          try clear hfz46_1
          try clear hfz46_2
          try clear hfz49_0
          try clear hfz49_1
          try clear hfz49_2
          try clear hfz51_0
          try clear hfz51_1
          try clear hfz51_2
          try clear hfz57_0
          try clear hfz57_1
          try clear hfz57_2
          try clear hfz60_0
          try clear hfz60_1
          try clear hfz60_2
          try clear hfz62_0
          try clear hfz62_1
          try clear hfz62_2
          try clear hfz64_0
          try clear hfz64_1
          try clear hfz64_2
          try clear hfz70_0
          try clear hfz70_1
          try clear hfz70_2
          try clear hfz73_0
          try clear hfz73_1
          try clear hfz73_2
          try clear hfz75_0
          try clear hfz75_1
          try clear hfz75_2
          try clear hfz77_0
          try clear hfz77_1
          try clear hfz77_2
          try clear hfz79_0
          try clear hfz79_1
          try clear hfz79_2
          try clear hfz84_0
          try clear hfz84_1
          try clear hfz84_2
          try clear hfz87_0
          try clear hfz87_1
          try clear hfz87_2
          try clear hfz89_0
          try clear hfz89_1
          try clear hfz89_2
          try clear hfz8_0
          try clear hfz8_1
          try clear hfz8_2
          try clear hfz91_0
          try clear hfz91_1
          try clear hfz91_2
          try clear hfz93_0
          try clear hfz93_1
          try clear hfz93_2
          try clear hfz95_0
          try clear hfz95_1
          try clear hfz95_2
          try clear hfz99_0
          try clear hfz99_1
          try clear hfz99_2
          try clear p2
          obtain ⟨kq, x63_36, rfl, HA, HJ36, HO_554000, HO_554001, HO_554002, HO_585000, HO_585001, HO_585002, HO_586000, HO_586001, HO_586002, BK553, BK584, BK585, HB⟩ := hcut
          cases kq with
          | zero => exact absurd HA.out (by simp [bazaarlaw06_NodeHalves.j1])
          | succ kj36 =>
            have H := HA.out
            clear HA
            simp only [bazaarlaw06_NodeHalves.j1] at H
            by_cases c108 : x63_36 = true
            · subst c108
              have H1 : (some false) = some r := by rw [if_pos rfl] at H; exact H
              clear H
              have H := H1
              clear H1
              obtain rfl := Option.some.inj H
              cases hr_
            · replace c108 := Bool.eq_false_iff.mpr c108
              subst c108
              have H1 : (bazaarlaw06_NodeHalves.l0 kj36 t554 t573 0 t564 t567 t570 t574 t577 t580) = some r := by rw [if_neg (show ¬ (false = true) by decide)] at H; exact H
              clear H
              have H := H1
              clear H1
              have H' := Aside0.mk H
              clear H
              go_wp2
              go_loopg [8] kj36 (fun kq v8 w' => ∃ (x8_3 : Int), v8 = .int .i64 x8_3 ∧ Aside0 (bazaarlaw06_NodeHalves.l0 kq t554 t573 x8_3 t564 t567 t570 t574 t577 t580 = some r) ∧ Aside0 (kq ≤ kj36) ∧ Aside0 (Kd.R k39 39 w' w.heap.size (fun k_ => some k_ ≠ ((.slice Ao17 t564.length co17) : Value).ownBlock ∧ some k_ ≠ ((.slice Ao23 t574.length co23) : Value).ownBlock) (.slice Ao10 t555.length co10) t555) ∧ Aside0 (Kd.R Kd.string 9 w' w.heap.size (fun k_ => some k_ ≠ ((.slice Ao21 t567.length co21) : Value).ownBlock ∧ some k_ ≠ ((.slice Ao26 t577.length co26) : Value).ownBlock) (.slice Ao12 t558.length co12) t558) ∧ Aside0 (Kd.R (Kd.int .u32) 65 w' w.heap.size (fun k_ => some k_ ≠ ((.slice Ao22 t570.length co22) : Value).ownBlock ∧ some k_ ≠ ((.slice Ao27 t580.length co27) : Value).ownBlock) (.slice Ao13 t561.length co13) t561) ∧ Aside0 (Kd.R k39 39 w' w.heap.size (fun k_ => some k_ ≠ ((.slice Ao10 t555.length co10) : Value).ownBlock ∧ some k_ ≠ ((.slice Ao23 t574.length co23) : Value).ownBlock) (.slice Ao17 t564.length co17) t564) ∧ Aside0 (Kd.R Kd.string 9 w' w.heap.size (fun k_ => some k_ ≠ ((.slice Ao12 t558.length co12) : Value).ownBlock ∧ some k_ ≠ ((.slice Ao26 t577.length co26) : Value).ownBlock) (.slice Ao21 t567.length co21) t567) ∧ Aside0 (Kd.R (Kd.int .u32) 65 w' w.heap.size (fun k_ => some k_ ≠ ((.slice Ao13 t561.length co13) : Value).ownBlock ∧ some k_ ≠ ((.slice Ao27 t580.length co27) : Value).ownBlock) (.slice Ao22 t570.length co22) t570) ∧ Aside0 (Kd.R k39 39 w' w.heap.size (fun k_ => some k_ ≠ ((.slice Ao10 t555.length co10) : Value).ownBlock ∧ some k_ ≠ ((.slice Ao17 t564.length co17) : Value).ownBlock) (.slice Ao23 t574.length co23) t574) ∧ Aside0 (Kd.R Kd.string 9 w' w.heap.size (fun k_ => some k_ ≠ ((.slice Ao12 t558.length co12) : Value).ownBlock ∧ some k_ ≠ ((.slice Ao21 t567.length co21) : Value).ownBlock) (.slice Ao26 t577.length co26) t577) ∧ Aside0 (Kd.R (Kd.int .u32) 65 w' w.heap.size (fun k_ => some k_ ≠ ((.slice Ao13 t561.length co13) : Value).ownBlock ∧ some k_ ≠ ((.slice Ao22 t570.length co22) : Value).ownBlock) (.slice Ao27 t580.length co27) t580) ∧ Aside0 (w'.heap[gb553]? = some (.cells #[(.slice Ao10 t555.length co10), (.slice Ao12 t558.length co12), (.slice Ao13 t561.length co13)] 26 (0, 0))) ∧ Aside0 (w'.heap[gb584]? = some (.cells #[(.slice Ao17 t564.length co17), (.slice Ao21 t567.length co21), (.slice Ao22 t570.length co22)] 26 (0, 0))) ∧ Aside0 (w'.heap[gb585]? = some (.cells #[(.slice Ao23 t574.length co23), (.slice Ao26 t577.length co26), (.slice Ao27 t580.length co27)] 26 (0, 0))) ∧ Aside0 (Below w.heap.size w w'))
              case atStart => exact ⟨(0), (by first | rfl | (simp; done) | (simp [*]; done)), H', ⟨Nat.le_refl _⟩, ⟨by (with_reducible repeat (first | apply Kd.R_alloc | apply Kd.R_drewN | apply Kd.R_drew)); exact HO_554000.out⟩, ⟨by (with_reducible repeat (first | apply Kd.R_alloc | apply Kd.R_drewN | apply Kd.R_drew)); exact HO_554001.out⟩, ⟨by (with_reducible repeat (first | apply Kd.R_alloc | apply Kd.R_drewN | apply Kd.R_drew)); exact HO_554002.out⟩, ⟨by (with_reducible repeat (first | apply Kd.R_alloc | apply Kd.R_drewN | apply Kd.R_drew)); exact HO_585000.out⟩, ⟨by (with_reducible repeat (first | apply Kd.R_alloc | apply Kd.R_drewN | apply Kd.R_drew)); exact HO_585001.out⟩, ⟨by (with_reducible repeat (first | apply Kd.R_alloc | apply Kd.R_drewN | apply Kd.R_drew)); exact HO_585002.out⟩, ⟨by (with_reducible repeat (first | apply Kd.R_alloc | apply Kd.R_drewN | apply Kd.R_drew)); exact HO_586000.out⟩, ⟨by (with_reducible repeat (first | apply Kd.R_alloc | apply Kd.R_drewN | apply Kd.R_drew)); exact HO_586001.out⟩, ⟨by (with_reducible repeat (first | apply Kd.R_alloc | apply Kd.R_drewN | apply Kd.R_drew)); exact HO_586002.out⟩, ⟨by (with_reducible repeat (first | refine blk_drewN ?_ _ | refine blk_drew ?_ | refine blk_alloc ?_ _)); exact BK553.out⟩, ⟨by (with_reducible repeat (first | refine blk_drewN ?_ _ | refine blk_drew ?_ | refine blk_alloc ?_ _)); exact BK584.out⟩, ⟨by (with_reducible repeat (first | refine blk_drewN ?_ _ | refine blk_drew ?_ | refine blk_alloc ?_ _)); exact BK585.out⟩, ⟨by repeat (first | (with_reducible first | exact HB.out | apply below_alloc | apply pw_below_drewN | apply below_drew1 | refine below_set ?_ GE553.out | refine below_set ?_ GE584.out | refine below_set ?_ GE585.out) | exact HB.out)⟩⟩
              case round =>
                clear H'
                try clear c1
                try clear c2
                try clear p2
                try clear c3
                try clear c4
                try clear c5
                try clear c6
                try clear c7
                try clear c8
                try clear c9
                try clear c10
                try clear c11
                try clear c14
                try clear c18
                try clear c19
                try clear c24
                try clear c27
                try clear c28
                try clear c28b0
                try clear c28b1
                try clear c30
                try clear c31
                try clear c34
                try clear c35
                try clear c36
                try clear c36b0
                try clear c36b1
                try clear c39
                try clear c41
                try clear c43
                try clear c43b0
                try clear c44
                try clear c45
                try clear c48
                try clear c54
                try clear c54b0
                try clear c55
                try clear c56
                try clear c59
                try clear c67
                try clear c67b0
                try clear c68
                try clear c69
                try clear c72
                try clear c82
                try clear c83
                try clear c86
                try clear c97
                try clear c98
                try clear c101
                try clear c104
                try clear c105
                try clear c108
                try clear hcz102_0
                try clear hcz102_1
                try clear hcz102_2
                try clear hcz106_0
                try clear hcz106_1
                try clear hcz106_2
                try clear hcz11_0
                try clear hcz11_1
                try clear hcz11_2
                try clear hcz20_0
                try clear hcz20_1
                try clear hcz20_2
                try clear hcz25_0
                try clear hcz25_1
                try clear hcz25_2
                try clear hcz32_0
                try clear hcz32_1
                try clear hcz32_2
                try clear hcz46_0
                try clear hcz46_1
                try clear hcz46_2
                try clear hcz49_0
                try clear hcz49_1
                try clear hcz49_2
                try clear hcz51_0
                try clear hcz51_1
                try clear hcz51_2
                try clear hcz57_0
                try clear hcz57_1
                try clear hcz57_2
                try clear hcz60_0
                try clear hcz60_1
                try clear hcz60_2
                try clear hcz62_0
                try clear hcz62_1
                try clear hcz62_2
                try clear hcz64_0
                try clear hcz64_1
                try clear hcz64_2
                try clear hcz70_0
                try clear hcz70_1
                try clear hcz70_2
                try clear hcz73_0
                try clear hcz73_1
                try clear hcz73_2
                try clear hcz75_0
                try clear hcz75_1
                try clear hcz75_2
                try clear hcz77_0
                try clear hcz77_1
                try clear hcz77_2
                try clear hcz79_0
                try clear hcz79_1
                try clear hcz79_2
                try clear hcz84_0
                try clear hcz84_1
                try clear hcz84_2
                try clear hcz87_0
                try clear hcz87_1
                try clear hcz87_2
                try clear hcz89_0
                try clear hcz89_1
                try clear hcz89_2
                try clear hcz8_0
                try clear hcz8_1
                try clear hcz8_2
                try clear hcz91_0
                try clear hcz91_1
                try clear hcz91_2
                try clear hcz93_0
                try clear hcz93_1
                try clear hcz93_2
                try clear hcz95_0
                try clear hcz95_1
                try clear hcz95_2
                try clear hcz99_0
                try clear hcz99_1
                try clear hcz99_2
                try clear hfz102_0
                try clear hfz102_1
                try clear hfz102_2
                try clear hfz106_0
                try clear hfz106_1
                try clear hfz106_2
                try clear hfz11_0
                try clear hfz11_1
                try clear hfz11_2
                try clear hfz20_0
                try clear hfz20_1
                try clear hfz20_2
                try clear hfz25_0
                try clear hfz25_1
                try clear hfz25_2
                try clear hfz32_0
                try clear hfz32_1
                try clear hfz32_2
                try clear hfz46_0
                try clear hfz46_1
                try clear hfz46_2
                try clear hfz49_0
                try clear hfz49_1
                try clear hfz49_2
                try clear hfz51_0
                try clear hfz51_1
                try clear hfz51_2
                try clear hfz57_0
                try clear hfz57_1
                try clear hfz57_2
                try clear hfz60_0
                try clear hfz60_1
                try clear hfz60_2
                try clear hfz62_0
                try clear hfz62_1
                try clear hfz62_2
                try clear hfz64_0
                try clear hfz64_1
                try clear hfz64_2
                try clear hfz70_0
                try clear hfz70_1
                try clear hfz70_2
                try clear hfz73_0
                try clear hfz73_1
                try clear hfz73_2
                try clear hfz75_0
                try clear hfz75_1
                try clear hfz75_2
                try clear hfz77_0
                try clear hfz77_1
                try clear hfz77_2
                try clear hfz79_0
                try clear hfz79_1
                try clear hfz79_2
                try clear hfz84_0
                try clear hfz84_1
                try clear hfz84_2
                try clear hfz87_0
                try clear hfz87_1
                try clear hfz87_2
                try clear hfz89_0
                try clear hfz89_1
                try clear hfz89_2
                try clear hfz8_0
                try clear hfz8_1
                try clear hfz8_2
                try clear hfz91_0
                try clear hfz91_1
                try clear hfz91_2
                try clear hfz93_0
                try clear hfz93_1
                try clear hfz93_2
                try clear hfz95_0
                try clear hfz95_1
                try clear hfz95_2
                try clear hfz99_0
                try clear hfz99_1
                try clear hfz99_2
                try clear p2
                obtain ⟨x8_3, rfl, HA, HK3, HO_554000, HO_554001, HO_554002, HO_585000, HO_585001, HO_585002, HO_586000, HO_586001, HO_586002, BK553, BK584, BK585, HB⟩ := hrel
                cases gk with
                | zero => exact absurd HA.out (by simp [bazaarlaw06_NodeHalves.l0])
                | succ k3 =>
                  have H := HA.out
                  clear HA
                  simp only [bazaarlaw06_NodeHalves.l0] at H
                  by_cases c109 : x8_3 < (t564.length : Int)
                  · rw [if_pos c109] at H
                    have c109b0 : decide (x8_3 < (t564.length : Int)) = true := decide_eq_true c109
                    clear c109
                    by_cases c110 : 0 ≤ x8_3
                    · rw [if_pos c110] at H
                      have c110b0 : decide (0 ≤ x8_3) = true := decide_eq_true c110
                      clear c110
                      replace H := Option.bind_eq_some_iff.mp H
                      obtain ⟨t594, A1110, H⟩ := H
                      replace H : (if t594 = true then (bazaarlaw06_NodeHalves.l0 k3 t554 t573 (wrap64 (x8_3 + 1)) t564 t567 t570 t574 t577 t580) else (some false)) = some r := H
                      have A111 := Aside0.mk A1110
                      clear A1110
                      by_cases c112 : t594 = true
                      · subst c112
                        have H1 : (bazaarlaw06_NodeHalves.l0 k3 t554 t573 (wrap64 (x8_3 + 1)) t564 t567 t570 t574 t577 t580) = some r := by rw [if_pos rfl] at H; exact H
                        clear H
                        have H := H1
                        clear H1
                        have H' := Aside0.mk H
                        clear H
                        have hnb113 := NB584_553.out
                        have hnc113 := NB553_584.out
                        have hnb114 := NB584_585.out
                        have hnc114 := NB585_584.out
                        have hcz115_0 : wr.cell? ⟨gb584, 0, none⟩ = some (.slice Ao17 t564.length co17) := (blk_cell BK584.out 0).trans rfl
                        have hcz115_1 : wr.cell? ⟨gb584, 1, none⟩ = some (.slice Ao21 t567.length co21) := (blk_cell BK584.out 1).trans rfl
                        have hcz115_2 : wr.cell? ⟨gb584, 2, none⟩ = some (.slice Ao22 t570.length co22) := (blk_cell BK584.out 2).trans rfl
                        have hfz115_0 := blk_frozen BK584.out 0
                        have hfz115_1 := blk_frozen BK584.out 1
                        have hfz115_2 := blk_frozen BK584.out 2
                        have p593 : 0 ≤ (x8_3 : Int) := of_decide_eq_true (by first | (with_reducible assumption) | assumption)
                        have q593 : x8_3 < (t564.length : Int) := of_decide_eq_true (by first | (with_reducible assumption) | assumption)
                        obtain ⟨ad593, e593, hx593_0, hx593_1⟩ := at_T39 (Kd.R_reads' HO_585000.out).2.2 x8_3 p593 q593
                        cases e593
                        replace p593 := eq_true p593
                        replace q593 := eq_true q593
                        go_wp2_with (first | ((with_reducible refine gate_callee (f := 21) rfl ?_); refine goesL_ (some 78) rfl rfl Try.func21 (by kernel_rfl) rfl #[.string ((rd_T39 t564 x8_3).f0), .string t573] rfl (by (try simp only [List.map_toArray, List.map_cons, List.map_nil]); first | done | rfl | (simp only [List.length_drop, List.length_take]; rfl)) ?_; (with_reducible refine (bazaarref06_Less.calls k3 ((rd_T39 t564 x8_3).f0) t573 true _ A111.out).mono ?_); rintro e w' ⟨rfl, ⟨nd, rfl⟩⟩; refine ⟨_, rfl, ?_⟩))
                        go_roundg k3
                        case measure => have := HJ4.out; have := HJ36.out; have := HK3.out; omega
                        case rel => exact ⟨(wrap64 (x8_3 + 1)), (by first | rfl | (simp; done) | (simp [*]; done)), H', ⟨by have := HJ4.out; have := HJ36.out; have := HK3.out; omega⟩, ⟨by (with_reducible repeat (first | apply Kd.R_alloc | apply Kd.R_drewN | apply Kd.R_drew)); exact HO_554000.out⟩, ⟨by (with_reducible repeat (first | apply Kd.R_alloc | apply Kd.R_drewN | apply Kd.R_drew)); exact HO_554001.out⟩, ⟨by (with_reducible repeat (first | apply Kd.R_alloc | apply Kd.R_drewN | apply Kd.R_drew)); exact HO_554002.out⟩, ⟨by (with_reducible repeat (first | apply Kd.R_alloc | apply Kd.R_drewN | apply Kd.R_drew)); exact HO_585000.out⟩, ⟨by (with_reducible repeat (first | apply Kd.R_alloc | apply Kd.R_drewN | apply Kd.R_drew)); exact HO_585001.out⟩, ⟨by (with_reducible repeat (first | apply Kd.R_alloc | apply Kd.R_drewN | apply Kd.R_drew)); exact HO_585002.out⟩, ⟨by (with_reducible repeat (first | apply Kd.R_alloc | apply Kd.R_drewN | apply Kd.R_drew)); exact HO_586000.out⟩, ⟨by (with_reducible repeat (first | apply Kd.R_alloc | apply Kd.R_drewN | apply Kd.R_drew)); exact HO_586001.out⟩, ⟨by (with_reducible repeat (first | apply Kd.R_alloc | apply Kd.R_drewN | apply Kd.R_drew)); exact HO_586002.out⟩, ⟨by (with_reducible repeat (first | refine blk_drewN ?_ _ | refine blk_drew ?_ | refine blk_alloc ?_ _)); exact BK553.out⟩, ⟨by (with_reducible repeat (first | refine blk_drewN ?_ _ | refine blk_drew ?_ | refine blk_alloc ?_ _)); exact BK584.out⟩, ⟨by (with_reducible repeat (first | refine blk_drewN ?_ _ | refine blk_drew ?_ | refine blk_alloc ?_ _)); exact BK585.out⟩, ⟨by repeat (first | (with_reducible first | exact HB.out | apply below_alloc | apply pw_below_drewN | apply below_drew1 | refine below_set ?_ GE553.out | refine below_set ?_ GE584.out | refine below_set ?_ GE585.out) | exact HB.out)⟩⟩
                      · replace c112 := Bool.eq_false_iff.mpr c112
                        subst c112
                        have H1 : (some false) = some r := by rw [if_neg (show ¬ (false = true) by decide)] at H; exact H
                        clear H
                        have H := H1
                        clear H1
                        obtain rfl := Option.some.inj H
                        cases hr_
                    · rw [if_neg c110] at H
                      exact absurd H (by simp)
                  · rw [if_neg c109] at H
                    have c109b0 : decide (x8_3 < (t564.length : Int)) = false := decide_eq_false c109
                    clear c109
                    have H' := Aside0.mk H
                    clear H
                    have hnb119 := NB584_553.out
                    have hnc119 := NB553_584.out
                    have hnb120 := NB584_585.out
                    have hnc120 := NB585_584.out
                    have hcz121_0 : wr.cell? ⟨gb584, 0, none⟩ = some (.slice Ao17 t564.length co17) := (blk_cell BK584.out 0).trans rfl
                    have hcz121_1 : wr.cell? ⟨gb584, 1, none⟩ = some (.slice Ao21 t567.length co21) := (blk_cell BK584.out 1).trans rfl
                    have hcz121_2 : wr.cell? ⟨gb584, 2, none⟩ = some (.slice Ao22 t570.length co22) := (blk_cell BK584.out 2).trans rfl
                    have hfz121_0 := blk_frozen BK584.out 0
                    have hfz121_1 := blk_frozen BK584.out 1
                    have hfz121_2 := blk_frozen BK584.out 2
                    go_wp2
                    go_loopg [9] k3 (fun kq v9 w' => ∃ (x9_4 : Int), v9 = .int .i64 x9_4 ∧ Aside0 (bazaarlaw06_NodeHalves.l1 kq t554 t573 x9_4 t574 t577 t580 = some r) ∧ Aside0 (kq ≤ k3) ∧ Aside0 (Kd.R k39 39 w' w.heap.size (fun k_ => some k_ ≠ ((.slice Ao17 t564.length co17) : Value).ownBlock ∧ some k_ ≠ ((.slice Ao23 t574.length co23) : Value).ownBlock) (.slice Ao10 t555.length co10) t555) ∧ Aside0 (Kd.R Kd.string 9 w' w.heap.size (fun k_ => some k_ ≠ ((.slice Ao21 t567.length co21) : Value).ownBlock ∧ some k_ ≠ ((.slice Ao26 t577.length co26) : Value).ownBlock) (.slice Ao12 t558.length co12) t558) ∧ Aside0 (Kd.R (Kd.int .u32) 65 w' w.heap.size (fun k_ => some k_ ≠ ((.slice Ao22 t570.length co22) : Value).ownBlock ∧ some k_ ≠ ((.slice Ao27 t580.length co27) : Value).ownBlock) (.slice Ao13 t561.length co13) t561) ∧ Aside0 (Kd.R k39 39 w' w.heap.size (fun k_ => some k_ ≠ ((.slice Ao10 t555.length co10) : Value).ownBlock ∧ some k_ ≠ ((.slice Ao23 t574.length co23) : Value).ownBlock) (.slice Ao17 t564.length co17) t564) ∧ Aside0 (Kd.R Kd.string 9 w' w.heap.size (fun k_ => some k_ ≠ ((.slice Ao12 t558.length co12) : Value).ownBlock ∧ some k_ ≠ ((.slice Ao26 t577.length co26) : Value).ownBlock) (.slice Ao21 t567.length co21) t567) ∧ Aside0 (Kd.R (Kd.int .u32) 65 w' w.heap.size (fun k_ => some k_ ≠ ((.slice Ao13 t561.length co13) : Value).ownBlock ∧ some k_ ≠ ((.slice Ao27 t580.length co27) : Value).ownBlock) (.slice Ao22 t570.length co22) t570) ∧ Aside0 (Kd.R k39 39 w' w.heap.size (fun k_ => some k_ ≠ ((.slice Ao10 t555.length co10) : Value).ownBlock ∧ some k_ ≠ ((.slice Ao17 t564.length co17) : Value).ownBlock) (.slice Ao23 t574.length co23) t574) ∧ Aside0 (Kd.R Kd.string 9 w' w.heap.size (fun k_ => some k_ ≠ ((.slice Ao12 t558.length co12) : Value).ownBlock ∧ some k_ ≠ ((.slice Ao21 t567.length co21) : Value).ownBlock) (.slice Ao26 t577.length co26) t577) ∧ Aside0 (Kd.R (Kd.int .u32) 65 w' w.heap.size (fun k_ => some k_ ≠ ((.slice Ao13 t561.length co13) : Value).ownBlock ∧ some k_ ≠ ((.slice Ao22 t570.length co22) : Value).ownBlock) (.slice Ao27 t580.length co27) t580) ∧ Aside0 (w'.heap[gb553]? = some (.cells #[(.slice Ao10 t555.length co10), (.slice Ao12 t558.length co12), (.slice Ao13 t561.length co13)] 26 (0, 0))) ∧ Aside0 (w'.heap[gb584]? = some (.cells #[(.slice Ao17 t564.length co17), (.slice Ao21 t567.length co21), (.slice Ao22 t570.length co22)] 26 (0, 0))) ∧ Aside0 (w'.heap[gb585]? = some (.cells #[(.slice Ao23 t574.length co23), (.slice Ao26 t577.length co26), (.slice Ao27 t580.length co27)] 26 (0, 0))) ∧ Aside0 (Below w.heap.size w w'))
                    case atStart => exact ⟨(0), (by first | rfl | (simp; done) | (simp [*]; done)), H', ⟨Nat.le_refl _⟩, ⟨by (with_reducible repeat (first | apply Kd.R_alloc | apply Kd.R_drewN | apply Kd.R_drew)); exact HO_554000.out⟩, ⟨by (with_reducible repeat (first | apply Kd.R_alloc | apply Kd.R_drewN | apply Kd.R_drew)); exact HO_554001.out⟩, ⟨by (with_reducible repeat (first | apply Kd.R_alloc | apply Kd.R_drewN | apply Kd.R_drew)); exact HO_554002.out⟩, ⟨by (with_reducible repeat (first | apply Kd.R_alloc | apply Kd.R_drewN | apply Kd.R_drew)); exact HO_585000.out⟩, ⟨by (with_reducible repeat (first | apply Kd.R_alloc | apply Kd.R_drewN | apply Kd.R_drew)); exact HO_585001.out⟩, ⟨by (with_reducible repeat (first | apply Kd.R_alloc | apply Kd.R_drewN | apply Kd.R_drew)); exact HO_585002.out⟩, ⟨by (with_reducible repeat (first | apply Kd.R_alloc | apply Kd.R_drewN | apply Kd.R_drew)); exact HO_586000.out⟩, ⟨by (with_reducible repeat (first | apply Kd.R_alloc | apply Kd.R_drewN | apply Kd.R_drew)); exact HO_586001.out⟩, ⟨by (with_reducible repeat (first | apply Kd.R_alloc | apply Kd.R_drewN | apply Kd.R_drew)); exact HO_586002.out⟩, ⟨by (with_reducible repeat (first | refine blk_drewN ?_ _ | refine blk_drew ?_ | refine blk_alloc ?_ _)); exact BK553.out⟩, ⟨by (with_reducible repeat (first | refine blk_drewN ?_ _ | refine blk_drew ?_ | refine blk_alloc ?_ _)); exact BK584.out⟩, ⟨by (with_reducible repeat (first | refine blk_drewN ?_ _ | refine blk_drew ?_ | refine blk_alloc ?_ _)); exact BK585.out⟩, ⟨by repeat (first | (with_reducible first | exact HB.out | apply below_alloc | apply pw_below_drewN | apply below_drew1 | refine below_set ?_ GE553.out | refine below_set ?_ GE584.out | refine below_set ?_ GE585.out) | exact HB.out)⟩⟩
                    case round =>
                      clear H'
                      try clear c1
                      try clear c2
                      try clear p2
                      try clear c3
                      try clear c4
                      try clear c5
                      try clear p5
                      try clear q5
                      try clear hx5
                      try clear c6
                      try clear p6
                      try clear c7
                      try clear c8
                      try clear c9
                      try clear c10
                      try clear c11
                      try clear c12
                      try clear c14
                      try clear c18
                      try clear c19
                      try clear c21
                      try clear c24
                      try clear c27
                      try clear c28
                      try clear c28b0
                      try clear c28b1
                      try clear c30
                      try clear c31
                      try clear c34
                      try clear c35
                      try clear c36
                      try clear c36b0
                      try clear c36b1
                      try clear c39
                      try clear c41
                      try clear c43
                      try clear c43b0
                      try clear c44
                      try clear c45
                      try clear c48
                      try clear c54
                      try clear c54b0
                      try clear c55
                      try clear c56
                      try clear c59
                      try clear p59
                      try clear q59
                      try clear hx59
                      try clear p64
                      try clear c67
                      try clear c67b0
                      try clear c68
                      try clear c69
                      try clear c72
                      try clear c82
                      try clear c83
                      try clear c86
                      try clear c97
                      try clear c98
                      try clear c101
                      try clear c104
                      try clear c105
                      try clear c108
                      try clear c109
                      try clear c109b0
                      try clear c110
                      try clear c110b0
                      try clear c112
                      try clear c113
                      try clear c114
                      try clear c116
                      try clear c117
                      try clear c119
                      try clear c120
                      try clear hcz102_0
                      try clear hcz102_1
                      try clear hcz102_2
                      try clear hcz106_0
                      try clear hcz106_1
                      try clear hcz106_2
                      try clear hcz115_0
                      try clear hcz115_1
                      try clear hcz115_2
                      try clear hcz118_0
                      try clear hcz118_1
                      try clear hcz118_2
                      try clear hcz11_0
                      try clear hcz11_1
                      try clear hcz11_2
                      try clear hcz121_0
                      try clear hcz121_1
                      try clear hcz121_2
                      try clear hcz20_0
                      try clear hcz20_1
                      try clear hcz20_2
                      try clear hcz25_0
                      try clear hcz25_1
                      try clear hcz25_2
                      try clear hcz32_0
                      try clear hcz32_1
                      try clear hcz32_2
                      try clear hcz46_0
                      try clear hcz46_1
                      try clear hcz46_2
                      try clear hcz49_0
                      try clear hcz49_1
                      try clear hcz49_2
                      try clear hcz51_0
                      try clear hcz51_1
                      try clear hcz51_2
                      try clear hcz57_0
                      try clear hcz57_1
                      try clear hcz57_2
                      try clear hcz60_0
                      try clear hcz60_1
                      try clear hcz60_2
                      try clear hcz62_0
                      try clear hcz62_1
                      try clear hcz62_2
                      try clear hcz64_0
                      try clear hcz64_1
                      try clear hcz64_2
                      try clear hcz70_0
                      try clear hcz70_1
                      try clear hcz70_2
                      try clear hcz73_0
                      try clear hcz73_1
                      try clear hcz73_2
                      try clear hcz75_0
                      try clear hcz75_1
                      try clear hcz75_2
                      try clear hcz77_0
                      try clear hcz77_1
                      try clear hcz77_2
                      try clear hcz79_0
                      try clear hcz79_1
                      try clear hcz79_2
                      try clear hcz84_0
                      try clear hcz84_1
                      try clear hcz84_2
                      try clear hcz87_0
                      try clear hcz87_1
                      try clear hcz87_2
                      try clear hcz89_0
                      try clear hcz89_1
                      try clear hcz89_2
                      try clear hcz8_0
                      try clear hcz8_1
                      try clear hcz8_2
                      try clear hcz91_0
                      try clear hcz91_1
                      try clear hcz91_2
                      try clear hcz93_0
                      try clear hcz93_1
                      try clear hcz93_2
                      try clear hcz95_0
                      try clear hcz95_1
                      try clear hcz95_2
                      try clear hcz99_0
                      try clear hcz99_1
                      try clear hcz99_2
                      try clear hfz102_0
                      try clear hfz102_1
                      try clear hfz102_2
                      try clear hfz106_0
                      try clear hfz106_1
                      try clear hfz106_2
                      try clear hfz115_0
                      try clear hfz115_1
                      try clear hfz115_2
                      try clear hfz118_0
                      try clear hfz118_1
                      try clear hfz118_2
                      try clear hfz11_0
                      try clear hfz11_1
                      try clear hfz11_2
                      try clear hfz121_0
                      try clear hfz121_1
                      try clear hfz121_2
                      try clear hfz20_0
                      try clear hfz20_1
                      try clear hfz20_2
                      try clear hfz25_0
                      try clear hfz25_1
                      try clear hfz25_2
                      try clear hfz32_0
                      try clear hfz32_1
                      try clear hfz32_2
                      try clear hfz46_0
                      try clear hfz46_1
                      try clear hfz46_2
                      try clear hfz49_0
                      try clear hfz49_1
                      try clear hfz49_2
                      try clear hfz51_0
                      try clear hfz51_1
                      try clear hfz51_2
                      try clear hfz57_0
                      try clear hfz57_1
                      try clear hfz57_2
                      try clear hfz60_0
                      try clear hfz60_1
                      try clear hfz60_2
                      try clear hfz62_0
                      try clear hfz62_1
                      try clear hfz62_2
                      try clear hfz64_0
                      try clear hfz64_1
                      try clear hfz64_2
                      try clear hfz70_0
                      try clear hfz70_1
                      try clear hfz70_2
                      try clear hfz73_0
                      try clear hfz73_1
                      try clear hfz73_2
                      try clear hfz75_0
                      try clear hfz75_1
                      try clear hfz75_2
                      try clear hfz77_0
                      try clear hfz77_1
                      try clear hfz77_2
                      try clear hfz79_0
                      try clear hfz79_1
                      try clear hfz79_2
                      try clear hfz84_0
                      try clear hfz84_1
                      try clear hfz84_2
                      try clear hfz87_0
                      try clear hfz87_1
                      try clear hfz87_2
                      try clear hfz89_0
                      try clear hfz89_1
                      try clear hfz89_2
                      try clear hfz8_0
                      try clear hfz8_1
                      try clear hfz8_2
                      try clear hfz91_0
                      try clear hfz91_1
                      try clear hfz91_2
                      try clear hfz93_0
                      try clear hfz93_1
                      try clear hfz93_2
                      try clear hfz95_0
                      try clear hfz95_1
                      try clear hfz95_2
                      try clear hfz99_0
                      try clear hfz99_1
                      try clear hfz99_2
                      try clear hx593_0
                      try clear hx593_1
                      try clear p2
                      try clear p593
                      try clear q593
                      obtain ⟨x9_4, rfl, HA, HK4, HO_554000, HO_554001, HO_554002, HO_585000, HO_585001, HO_585002, HO_586000, HO_586001, HO_586002, BK553, BK584, BK585, HB⟩ := hrel
                      cases gk with
                      | zero => exact absurd HA.out (by simp [bazaarlaw06_NodeHalves.l1])
                      | succ k4 =>
                        have H := HA.out
                        clear HA
                        simp only [bazaarlaw06_NodeHalves.l1] at H
                        by_cases c122 : x9_4 < (t574.length : Int)
                        · rw [if_pos c122] at H
                          have c122b0 : decide (x9_4 < (t574.length : Int)) = true := decide_eq_true c122
                          clear c122
                          by_cases c123 : 0 ≤ x9_4
                          · rw [if_pos c123] at H
                            have c123b0 : decide (0 ≤ x9_4) = true := decide_eq_true c123
                            clear c123
                            replace H := Option.bind_eq_some_iff.mp H
                            obtain ⟨t596, A1240, H⟩ := H
                            replace H : (if t596 = true then (some false) else (bazaarlaw06_NodeHalves.l1 k4 t554 t573 (wrap64 (x9_4 + 1)) t574 t577 t580)) = some r := H
                            have A124 := Aside0.mk A1240
                            clear A1240
                            by_cases c125 : t596 = true
                            · subst c125
                              have H1 : (some false) = some r := by rw [if_pos rfl] at H; exact H
                              clear H
                              have H := H1
                              clear H1
                              obtain rfl := Option.some.inj H
                              cases hr_
                            · replace c125 := Bool.eq_false_iff.mpr c125
                              subst c125
                              have H1 : (bazaarlaw06_NodeHalves.l1 k4 t554 t573 (wrap64 (x9_4 + 1)) t574 t577 t580) = some r := by rw [if_neg (show ¬ (false = true) by decide)] at H; exact H
                              clear H
                              have H := H1
                              clear H1
                              have H' := Aside0.mk H
                              clear H
                              have hnb129 := NB585_553.out
                              have hnc129 := NB553_585.out
                              have hnb130 := NB585_584.out
                              have hnc130 := NB584_585.out
                              have hcz131_0 : wr.cell? ⟨gb585, 0, none⟩ = some (.slice Ao23 t574.length co23) := (blk_cell BK585.out 0).trans rfl
                              have hcz131_1 : wr.cell? ⟨gb585, 1, none⟩ = some (.slice Ao26 t577.length co26) := (blk_cell BK585.out 1).trans rfl
                              have hcz131_2 : wr.cell? ⟨gb585, 2, none⟩ = some (.slice Ao27 t580.length co27) := (blk_cell BK585.out 2).trans rfl
                              have hfz131_0 := blk_frozen BK585.out 0
                              have hfz131_1 := blk_frozen BK585.out 1
                              have hfz131_2 := blk_frozen BK585.out 2
                              have p595 : 0 ≤ (x9_4 : Int) := of_decide_eq_true (by first | (with_reducible assumption) | assumption)
                              have q595 : x9_4 < (t574.length : Int) := of_decide_eq_true (by first | (with_reducible assumption) | assumption)
                              obtain ⟨ad595, e595, hx595_0, hx595_1⟩ := at_T39 (Kd.R_reads' HO_586000.out).2.2 x9_4 p595 q595
                              cases e595
                              replace p595 := eq_true p595
                              replace q595 := eq_true q595
                              go_wp2_with (first | ((with_reducible refine gate_callee (f := 21) rfl ?_); refine goesL_ (some 94) rfl rfl Try.func21 (by kernel_rfl) rfl #[.string ((rd_T39 t574 x9_4).f0), .string t573] rfl (by (try simp only [List.map_toArray, List.map_cons, List.map_nil]); first | done | rfl | (simp only [List.length_drop, List.length_take]; rfl)) ?_; (with_reducible refine (bazaarref06_Less.calls k4 ((rd_T39 t574 x9_4).f0) t573 false _ A124.out).mono ?_); rintro e w' ⟨rfl, ⟨nd, rfl⟩⟩; refine ⟨_, rfl, ?_⟩))
                              go_roundg k4
                              case measure => have := HJ4.out; have := HJ36.out; have := HK3.out; have := HK4.out; omega
                              case rel => exact ⟨(wrap64 (x9_4 + 1)), (by first | rfl | (simp; done) | (simp [*]; done)), H', ⟨by have := HJ4.out; have := HJ36.out; have := HK3.out; have := HK4.out; omega⟩, ⟨by (with_reducible repeat (first | apply Kd.R_alloc | apply Kd.R_drewN | apply Kd.R_drew)); exact HO_554000.out⟩, ⟨by (with_reducible repeat (first | apply Kd.R_alloc | apply Kd.R_drewN | apply Kd.R_drew)); exact HO_554001.out⟩, ⟨by (with_reducible repeat (first | apply Kd.R_alloc | apply Kd.R_drewN | apply Kd.R_drew)); exact HO_554002.out⟩, ⟨by (with_reducible repeat (first | apply Kd.R_alloc | apply Kd.R_drewN | apply Kd.R_drew)); exact HO_585000.out⟩, ⟨by (with_reducible repeat (first | apply Kd.R_alloc | apply Kd.R_drewN | apply Kd.R_drew)); exact HO_585001.out⟩, ⟨by (with_reducible repeat (first | apply Kd.R_alloc | apply Kd.R_drewN | apply Kd.R_drew)); exact HO_585002.out⟩, ⟨by (with_reducible repeat (first | apply Kd.R_alloc | apply Kd.R_drewN | apply Kd.R_drew)); exact HO_586000.out⟩, ⟨by (with_reducible repeat (first | apply Kd.R_alloc | apply Kd.R_drewN | apply Kd.R_drew)); exact HO_586001.out⟩, ⟨by (with_reducible repeat (first | apply Kd.R_alloc | apply Kd.R_drewN | apply Kd.R_drew)); exact HO_586002.out⟩, ⟨by (with_reducible repeat (first | refine blk_drewN ?_ _ | refine blk_drew ?_ | refine blk_alloc ?_ _)); exact BK553.out⟩, ⟨by (with_reducible repeat (first | refine blk_drewN ?_ _ | refine blk_drew ?_ | refine blk_alloc ?_ _)); exact BK584.out⟩, ⟨by (with_reducible repeat (first | refine blk_drewN ?_ _ | refine blk_drew ?_ | refine blk_alloc ?_ _)); exact BK585.out⟩, ⟨by repeat (first | (with_reducible first | exact HB.out | apply below_alloc | apply pw_below_drewN | apply below_drew1 | refine below_set ?_ GE553.out | refine below_set ?_ GE584.out | refine below_set ?_ GE585.out) | exact HB.out)⟩⟩
                          · rw [if_neg c123] at H
                            exact absurd H (by simp)
                        · rw [if_neg c122] at H
                          have c122b0 : decide (x9_4 < (t574.length : Int)) = false := decide_eq_false c122
                          clear c122
                          obtain rfl := Option.some.inj H
                          have hnb132 := NB585_553.out
                          have hnc132 := NB553_585.out
                          have hnb133 := NB585_584.out
                          have hnc133 := NB584_585.out
                          have hcz134_0 : wr.cell? ⟨gb585, 0, none⟩ = some (.slice Ao23 t574.length co23) := (blk_cell BK585.out 0).trans rfl
                          have hcz134_1 : wr.cell? ⟨gb585, 1, none⟩ = some (.slice Ao26 t577.length co26) := (blk_cell BK585.out 1).trans rfl
                          have hcz134_2 : wr.cell? ⟨gb585, 2, none⟩ = some (.slice Ao27 t580.length co27) := (blk_cell BK585.out 2).trans rfl
                          have hfz134_0 := blk_frozen BK585.out 0
                          have hfz134_1 := blk_frozen BK585.out 1
                          have hfz134_2 := blk_frozen BK585.out 2
                          go_wp2
                          go_ret
                          exact ⟨by first | rfl | (simp [errW_none, errW_some] <;> rfl) | (simp [errW_none, errW_some]; exact ⟨rfl, rfl, rfl⟩) | (simp [*, errW_none, errW_some] <;> rfl), by repeat (first | (with_reducible first | exact HB.out | apply below_alloc | apply pw_below_drewN | apply below_drew1 | refine below_set ?_ GE553.out | refine below_set ?_ GE584.out | refine below_set ?_ GE585.out) | exact HB.out)⟩

end Go.Proofs.Ytejempihaknplaa.G
